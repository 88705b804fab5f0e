/- Part 2 of the proofs over this seat: what its theorems say holds for every input that they name. -/
import Derived.Test.YtclibalpdhhhfaaGreatDF1
namespace Go.Proofs.YtclibalpdhhhfaaGreat
open Go Go.Eng Go.RowKit
open Go.Eng renaming ni→U, AK→W, JA→Zr, Nl→Zk, PV→Zt, Pe→Zb, PA→Zx, P3→Yi, P6→Yb, P1→Ys, P2→Yp, P0→Yt, PZ→Yu, Qm→Wi, Qn→Wb, Qk→Ws, Ql→Wp, Qa→Zf, Qe→Xi, Qh→Xa, Qc→Xs, PK→Kt, PL→N, pH→ZT, ox→ZF
open Go.Proofs.Tryz renaming prog→aa
open _root_.List renaming length_set→ab,mem_of_getElem?→ae,getElem?_eq_getElem→ah,getElem?_set_self→am,mem_singleton→aq,mem_append→ar,replicate→au,mem_cons→av,length_append→ay,getElem?_eq_some_iff→az,mem_cons_self→aA,append_assoc→aD,length_take→aH,mem_iff_getElem?→aK,getElem?_map→aM,append_nil→aY,findIdx?_eq_some_iff_getElem→bg,map_append→bk,mem_map→bv,mem_nil_iff→bx,length_map→bC,mem_or_eq_of_mem_set→bH,length_replicate→bJ,mem_map_of_mem→bL,length_cons→bO,length_singleton→bP,eq_nil_of_length_eq_zero→bU,take_length→bV,mem_append_right→bW,getD_eq_getElem?_getD→bY,getElem?_set_ne→ch,sublist_append_right→cm,getElem?_append_left→cn,length→cv,getElem?_append_right→cw,map_set→cy,getElem?_eq_none→cJ,take_take→de,getElem?_take→df,findIdx?_eq_none_iff→dp,mem_singleton_self→dH,length_drop→dI,drop_of_length_le→eg,pairwise_cons→ek,map_cons→eI,ext_getElem?→eJ,set_set→fo,prefix_refl→fp,drop_length→fq,eq_of_mem_replicate→fE,getElem?_replicate→fQ,take_append_of_le_length→ib,filter_append→i8,set_append_right→i9,pairwise_map→jp,filter_eq_self→jU,filter_cons_of_pos→jZ,drop_drop→j0,nodup_cons→kN,map_nil→mg,getElem_mem→mh,pairwise_iff_getElem→mN,filter_cons_of_neg→oH,nodup_append→oZ,getElem?_zipWith→qk,take_subset→qm,perm_middle→qn,cons_append→qo,drop_set_of_lt→rV,take→sP,perm_append_singleton→s6,range_succ→xh,perm_append_comm→xm,take_zero→yG,take_set_of_le→zi,replicate_succ→zj,getElem?_range→zk,set_comm→Be,set_cons_zero→Bj,range→Bl,any_eq_false→C0
open _root_.List.Perm renaming cons→ai,swap→al
open _root_.Nat renaming le_refl→ao,le_trans→aT,min_eq_left→br,zero_le→bA,le_succ→bE,zero_add→cE,add_mul→cQ,mul_le_mul_right→di,beq→en,lt_of_lt_of_le→fO,one_mul→gE,mod_lt→jC,sub_self→me,le_of_lt→mf
open _root_.List.Sublist renaming refl→ap
open _root_.Bool renaming and_eq_true→aS,true_and→gW,not_eq_true'→pf,or_eq_true→ry
open _root_.Option.some renaming inj→bB,injEq→jo
open _root_.Array renaming length_toList→cj
open _root_.Option renaming map_some→eD,map_eq_some_iff→iH
open _root_.List.Mem renaming head→fF
open _root_.Int renaming le_refl→ic,toNat_natCast→ud
set_option maxHeartbeats 4000000
set_option maxRecDepth 20000
set_option linter.unusedSimpArgs false
set_option linter.unusedVariables false
set_option linter.unusedSectionVars false
/-- P4.7: a replica's crash -/
def kr (p:gD) (r keep:Nat):gD×Int:=match p.reps[r]? with
 |none=>(gF,5)
 |some x=>if x.up=false then(gF,7)else
  ({p with reps:=p.reps.set r {up:=false,es:=x.es.take (jT x.es x.s keep),s:=jT x.es x.s keep,high:=min x.high (((x.es.take (jT x.es x.s keep)).length:Nat):Int)},known:=p.known.set r 0,leader:=if p.leader=r then-1 else p.leader},0)
def nT (p:gD) (r:Nat):gD×Int:=match p.reps[r]? with
 |none=>(gF,5)
 |some x=>if x.up=true then(gF,12)else if true∉p.isr.set r false then(gF,8)else
  ({p with reps:=p.reps.set r ⟨false,[],0,0⟩,known:=p.known.set r 0,isr:=p.isr.set r false},0)
theorem I0 (p:Pa) (r keep:Nat) (w:World) (h:p.rd 0 w.heap.size w) (hok:p.a.ok) (hr:r<p.reps.length) (hkp:keep<=1000000000000):dd aa DA [p.v,J (r:Nat),J (keep:Nat)] w fun v w2=> ∃ p':Pa,v=.tuple #[p'.v,J (kr p.a r keep).2]/\p'.a=(kr p.a r keep).1/\eo w w2 p':=by
 refine aE BK Z Z ?_
 obtain⟨hn1,hn2,hil,hkl,hf1,hf2,he0,he1,hl0,hl1,hb0,hb1,hsm⟩:=Pa.facts hok
 have hkn:=hok.known
 have hiC:=h.iC
 have hkC:=h.kC
 have hrC:=h.rC
 have hfew:=h.few
 have H:=Hp.startPa h
 obtain⟨ep,ld,isr,iA,iC,kn,kA,kC,reps,rA,rC,fw,bs⟩:=p
 simp only[Pa.a]at hkn
 dsimp only at H hn1 hn2 hil hkl hf1 hf2 he0 he1 hl0 hl1 hb0 hb1 hsm hiC hkC hrC hfew
 dsimp only at hr
 show CW _ _ _ _ (args [.agg #[J (ep),J (ld),.slice iA isr.length iC,.slice kA kn.length kC,.slice rA reps.length rC,J (fw),J (bs)],J (((r:Nat):Int)),J (((keep:Nat):Int))]) w
 refine W<|Zr<|fS H Z Z fun w1 b3 H=>eC H bo Z fun w2 b6 H=>G (Wi Z)<|U<|W<|Zr<|G (Zw aG H 1 Z Z Z)<|G (Yi Z)<|cd ku (tw ⟨ep,ld,isr,iA,iC,kn,kA,kC,reps,rA,rC,fw,bs⟩ r _ (Hp.pa H 0 Z) hok hr) Z Z ?_
 rintro _ w3 ⟨⟨ep2,ld2,is2,iA2,c1,kn2,kA2,c2,rs,rA2,c3,fw2,bs2⟩,g1,g2,g3,u1,u2,u3,rfl,ha2,ho⟩
 simp only[Pa.a,gD.mk.injEq]at ha2
 obtain⟨e1,e2,e3,e4,hma,e6,e7⟩:=ha2
 obtain rfl:ep=ep2:=e1.symm
 obtain rfl:ld=ld2:=e2.symm
 obtain rfl:isr=is2:=e3.symm
 obtain rfl:kn=kn2:=e4.symm
 obtain rfl:fw=fw2:=e6.symm
 obtain rfl:bs=bs2:=e7.symm
 have hrl:rs.length=reps.length:=by have:=congrArg cv hma;simpa using this
 obtain⟨i1,i2,i3,row1,row2,row3,hcp,hlos,-,hjn⟩:=ho
 dsimp only at i1 i2 i3 row1 row2 row3 hcp hlos hjn
 subst i1;subst i2;subst i3
 have hlo0:=H.size
 replace H:=H.joinF hjn (by intro f hf;obtain⟨r,hr,rfl⟩:=bv.1 hf;exact hlos r hr)
 replace hlos: ∀ r∈rs,w.heap.size<=r.lo:=fun r hr=>aT hlo0 (hlos r hr)
 clear hjn
 have hlg:=qj.of (F:=[C2 0 w.heap.size ⟨ep,ld,isr,iA,iC,kn,kA,kC,reps,rA,rC,fw,bs⟩,dG eV 0 w.heap.size iA isr,dG bS 0 w.heap.size kA kn,dG gd 0 w.heap.size rA reps]) hcp hlos
 have hok2: ∀ {i:Nat} {x:eW},rs[i]? =some x->GL x.es x.s/\0<=x.high/\x.high<=x.es.length:=fun hx=>wr hma hok hx
 obtain⟨x,hx⟩: ∃ x,rs[r]? =some x:=⟨_,ah I⟩
 have hxa:=vH hma hx
 refine G (Yu Z)<|G (Xa Z Z)<|G (Xi Z Z)<|bl H 4 (#[J (ep),J (ld),.slice (Qd g1) isr.length c1,.slice (Qd g2) kn.length c2,.slice (Qd g3) rs.length c3,J (fw),J (bs)]) aL Z Z Z Z Z N N fun w4 H=>G (Wi Z)<|U<|W<|W<|Zr<|G (Yi Z)<|G (bX Z Z Z)<|U<|ZF Z<|Zk<|W<|Zr<|G (Zf cP Z)<|G (Zd bR H 4 Z Z Z)<|G (Yi Z)<|G (cC bu Z Z (by first|omega|(simp only[ab];omega)))<|G (Wp Z)<|U<|W<|W<|Zr<|G (Yp Z)<|G (aI Z)<|G (Zf ft Z) ?_
 refine wu (bQ dR row3 hx 0 Z (H.ent (i:=2) Z) Z) Z Z Z (fun h30=> ?_) (fun h30=> ?_)
 refine G (dO Z)<|U<|ZF Z<|Zk<|W ?_
 obtain⟨m,hm⟩: ∃ m,jT x.es x.s keep=m:=⟨_,rfl⟩
 have hlo:=H.size
 refine Zr<|G (Yp Z)<|G (aI Z)<|G (Zf dq Z)<|G (tE 1 [.slice x.A ((bd x.es).length) x.cap,J (((fC x.es x.s:Nat):Int))] eK row3 hx Z Z (H.ent (i:=2) Z) Z)<|G (Yi Z)<|cd D4 ((by have hA:=EN (eW.log x) keep _ (hlg.log H hx (hok2 hx).1) hkp;dsimp only[eW.log]at hA;rw[hm]at hA;exact hA)) Z Z ?_
 rintro _ w5 ⟨A39,c39,rfl,⟨hgl9,hc39,hr39⟩,hb39⟩;replace H:=H.learnRd hb39 hr39;clear hb39 hr39
 refine G (Yu Z)<|G (Xa Z Z)<|G (Xi Z Z)<|eC H pM Z fun w6 b10 H=>bl H 0 (#[.slice A39 ((bd (x.es.take m)).length) c39,J (((fC (x.es.take m) m:Nat):Int))]) ja Z Z Z Z Z N N fun w7 H=>G (Wi Z)<|U<|W<|W<|Zr<|G (Yi Z)<|G (bX Z Z Z)<|U<|ZF Z<|Zk<|W ?_
 obtain⟨kx,hkx⟩: ∃ kx,kn[r]? =some kx:=⟨_,ah I⟩
 refine eu (τ:=Unit) [46,47,48,49,50,51,52,53,54,55,56] (fun _=>[]) (fun _ w'=> ∃ v2 v3,dU bS (kn.set r 0) c2 v2/\dU gd (rs.set r {x with up:=false,A:=A39,cap:=c39,es:=(x.es.take m),s:=m,lo:=w4.heap.size,hi:=w5.heap.size}) c3 v3/\Hp w w' [(b10,.cells #[.slice A39 ((bd (x.es.take m)).length) c39,J (((fC (x.es.take m) m:Nat):Int))] Bb (0,0)),(g1,.cells u1 jh (0,0)),(g2,.cells v2 cW (0,0)),(g3,.cells v3 fi (0,0)),(b6,.cells #[J 0,J 0,.slice none 0 0,.slice none 0 0,.slice none 0 0,J 0,J 0] bz (0,0)),(b3,.cells #[J (ep),J (ld),.slice (Qd g1) isr.length c1,.slice (Qd g2) kn.length c2,.slice (Qd g3) rs.length c3,J (fw),J (bs)] bz (0,0))] ([dG dA w4.heap.size w5.heap.size A39 (bd (x.es.take m)),C2 0 w.heap.size ⟨ep,ld,isr,iA,iC,kn,kA,kC,reps,rA,rC,fw,bs⟩,dG eV 0 w.heap.size iA isr,dG bS 0 w.heap.size kA kn,dG gd 0 w.heap.size rA reps]++sR rs)) ?_ ?_
 refine mF bZ (fun w'=>w'.heap[b3]? =some (.cells #[J (ep),J (ld),.slice (Qd g1) isr.length c1,.slice (Qd g2) kn.length c2,.slice (Qd g3) rs.length c3,J (fw),J (bs)] bz (0,0))/\w'.heap[b10]? =some (.cells #[.slice A39 ((bd (x.es.take m)).length) c39,J (((fC (x.es.take m) m:Nat):Int))] Bb (0,0))) ?_
 intro w8 hw';replace H:=H.later hw';clear hw'
 refine aN 0 N N N Z Z Z Z Nq ⟨H.ent (i:=5) Z,H.ent (i:=0) Z⟩ (fun _ hS=>Yp Z)<|aN 1 N N N Z Z Z Z Nq ⟨H.ent (i:=5) Z,H.ent (i:=0) Z⟩ (fun _ hS=>Yp Z)<|aN 2 N N N Z Z Z Z Nq ⟨H.ent (i:=5) Z,H.ent (i:=0) Z⟩ (fun _ hS=>Zf fY Z)<|aN 3 N N N Z Z Z Z Nq ⟨H.ent (i:=5) Z,H.ent (i:=0) Z⟩ (fun _ hS=>aV cr Z (aB hS.1 Z))<|aN 4 N N N Z Z Z Z Nq ⟨H.ent (i:=5) Z,H.ent (i:=0) Z⟩ (fun _ hS=>Yi Z)<|aN 5 N N N Z Z Z Z Nq ⟨H.ent (i:=5) Z,H.ent (i:=0) Z⟩ (fun _ hS=>iP eK Z hS.2 Z)<|aN 6 N N N Z Z Z Z Nq ⟨H.ent (i:=5) Z,H.ent (i:=0) Z⟩ (fun _ hS=>aI Z)<|aN 7 N N N Z Z Z Z Nq ⟨H.ent (i:=5) Z,H.ent (i:=0) Z⟩ (fun _ hS=>Zf dq Z)<|r5 8 N Z<|kQ H 3 ({x with A:=A39,cap:=c39,es:=(x.es.take m),s:=m,lo:=w4.heap.size,hi:=w5.heap.size}) ja row3 hx 1 Z Z Z Z Z Z N fun w10 cur9 row9 H=> ?_
 have hs11:(rs.set r ({x with A:=A39,cap:=c39,es:=(x.es.take m),s:=m,lo:=w4.heap.size,hi:=w5.heap.size}))[r]? =some ({x with A:=A39,cap:=c39,es:=(x.es.take m),s:=m,lo:=w4.heap.size,hi:=w5.heap.size}):=am (cD hx).1
 refine U ?_
 refine⟨⟨H.ent (i:=5) Z,H.ent (i:=0) Z⟩,?_⟩
 refine aN 9 N N N Z Z Z Z Nq ⟨H.ent (i:=5) Z,H.ent (i:=0) Z⟩ (fun _ hS=>aI Z)<|aN 10 N N N Z Z Z Z Nq ⟨H.ent (i:=5) Z,H.ent (i:=0) Z⟩ (fun _ hS=>Zf ft Z)<|r5 11 N Z<|kQ H 3 ({x with up:=false,A:=A39,cap:=c39,es:=(x.es.take m),s:=m,lo:=w4.heap.size,hi:=w5.heap.size}) iJ row9 hs11 0 Z Z Z Z Z Z N fun w13 cur12 row12 H=> ?_
 have hs14:((rs.set r ({x with A:=A39,cap:=c39,es:=(x.es.take m),s:=m,lo:=w4.heap.size,hi:=w5.heap.size})).set r ({x with up:=false,A:=A39,cap:=c39,es:=(x.es.take m),s:=m,lo:=w4.heap.size,hi:=w5.heap.size}))[r]? =some ({x with up:=false,A:=A39,cap:=c39,es:=(x.es.take m),s:=m,lo:=w4.heap.size,hi:=w5.heap.size}):=am (cD hs11).1
 refine U ?_
 refine⟨⟨H.ent (i:=5) Z,H.ent (i:=0) Z⟩,?_⟩
 refine aN 12 N N N Z Z Z Z Nq ⟨H.ent (i:=5) Z,H.ent (i:=0) Z⟩ (fun _ hS=>cC aZ Z Z (by first|omega|(simp only[ab];omega)))<|r5 13 N Z<|kQ H 2 ((0)) bI row2 hkx 0 Z Z Z Z Z Z N fun w16 cur15 row15 H=> ?_
 have hs17:(kn.set r ((0)))[r]? =some ((0)):=am (cD hkx).1
 refine U ?_
 refine⟨⟨H.ent (i:=5) Z,H.ent (i:=0) Z⟩,?_⟩
 refine jP N ?_
 exact⟨(),⟨_,_,row15,(by have:=row12;rwa[fo]at this),H⟩,vX,Qg⟩
 rintro⟨⟩ ρ1 w18 ⟨v2,v3,row2b,row3b,H⟩
 have hs2:(rs.set r {x with up:=false,A:=A39,cap:=c39,es:=(x.es.take m),s:=m,lo:=w4.heap.size,hi:=w5.heap.size})[r]? =some {x with up:=false,A:=A39,cap:=c39,es:=(x.es.take m),s:=m,lo:=w4.heap.size,hi:=w5.heap.size}:=am I
 refine W ?_
 have hlg2:=(hlg.cons (f:=dG dA w4.heap.size w5.heap.size A39 (bd (x.es.take m)))).set r (x:={x with up:=false,A:=A39,cap:=c39,es:=(x.es.take m),s:=m,lo:=w4.heap.size,hi:=w5.heap.size}) ⟨hc39,hlo,fF _⟩
 refine Zr<|G (Zw aG H 5 Z Z Z)<|G (Yi Z)<|cd jB ((by have hA:=pP ⟨ep,ld,isr,some ⟨g1,0,none⟩,c1,kn.set r 0,some ⟨g2,0,none⟩,c2,rs.set r {x with up:=false,A:=A39,cap:=c39,es:=(x.es.take m),s:=m,lo:=w4.heap.size,hi:=w5.heap.size},some ⟨g3,0,none⟩,c3,fw,bs⟩ r {x with up:=false,A:=A39,cap:=c39,es:=(x.es.take m),s:=m,lo:=w4.heap.size,hi:=w5.heap.size} _ (row3b.rd0 (H.ent (i:=3) Z)) hs2 (hlg2.log H hs2 hgl9);simp only[Pa.v,Pa.c,ab]at hA;exact hA)) Z Z ?_
 rintro _ w19 ⟨rfl,hb⟩;replace H:=H.later hb;clear hb
 refine G (Yu Z)<|G (Xi Z Z)<|G (Xi Z Z)<|G (Wi Z)<|G (Wi Z)<|U<|W<|Zr<|G (Yp Z)<|G (Yp Z)<|G (aI Z)<|G (Zf dV Z)<|G (bQ aj row3b hs2 3 Z (H.ent (i:=3) Z) Z)<|G (Yi Z)<|G (tz Z Z)<|G (aI Z)<|G (Zf dV Z)<|kQ H 3 ({x with up:=false,A:=A39,cap:=c39,es:=(x.es.take m),s:=m,lo:=w4.heap.size,hi:=w5.heap.size,high:=min x.high (((x.es.take m).length:Nat):Int)}) bI row3b hs2 3 Z Z Z Z Z Z N fun w21 cur20 row20 H=> ?_
 have hs22:((rs.set r {x with up:=false,A:=A39,cap:=c39,es:=(x.es.take m),s:=m,lo:=w4.heap.size,hi:=w5.heap.size}).set r ({x with up:=false,A:=A39,cap:=c39,es:=(x.es.take m),s:=m,lo:=w4.heap.size,hi:=w5.heap.size,high:=min x.high (((x.es.take m).length:Nat):Int)}))[r]? =some ({x with up:=false,A:=A39,cap:=c39,es:=(x.es.take m),s:=m,lo:=w4.heap.size,hi:=w5.heap.size,high:=min x.high (((x.es.take m).length:Nat):Int)}):=am (cD hs2).1
 refine U<|W<|W<|Zr<|G (Zf dr Z)<|G (Zd aj H 5 Z Z Z)<|G (Yi Z) ?_
 refine cR (bh Z Z) Z Z Z (fun h75=> ?_) (fun h75=> ?_)
 refine U<|ZT Z<|Zr<|G (Zf dr Z)<|bl H 5 (#[J (ep),J ((-1)),.slice (Qd g1) isr.length c1,.slice (Qd g2) kn.length c2,.slice (Qd g3) rs.length c3,J (fw),J (bs)]) bI Z Z Z Z Z N N fun w23 H=>U<|W<|Zr<|G (Zw aG H 5 Z Z Z)<|bl H 4 (#[J (ep),J ((-1)),.slice (Qd g1) isr.length c1,.slice (Qd g2) kn.length c2,.slice (Qd g3) rs.length c3,J (fw),J (bs)]) aL Z Z Z Z Z N N fun w24 H=>G (Wi Z)<|U<|Zt ?_
 have hlg3:=hlg2.same r (x':={x with up:=false,A:=A39,cap:=c39,es:=(x.es.take m),s:=m,lo:=w4.heap.size,hi:=w5.heap.size,high:=min x.high (((x.es.take m).length:Nat):Int)}) (am I) Z Z Z Z Z
 have hS:kr (Pa.a ⟨ep,ld,isr,iA,iC,kn,kA,kC,reps,rA,rC,fw,bs⟩) r keep=({Pa.a ⟨ep,ld,isr,iA,iC,kn,kA,kC,reps,rA,rC,fw,bs⟩with reps:=(reps.map eW.a).set r {up:=false,es:=x.es.take m,s:=m,high:=min x.high (((x.es.take m).length:Nat):Int)},known:=kn.set r 0,leader:= -1},0):=by simp[kr,Pa.a,hxa,eW.a,h30,hm,h75]
 rw[hS]
 exact bG (cs0:= #[J (ep),J ((-1)),.slice (Qd g1) isr.length c1,.slice (Qd g2) kn.length c2,.slice (Qd g3) rs.length c3,J (fw),J (bs)]) (v1:=J 0) Z aG Z (H.ent (i:=4) Z) Z Z ⟨_,by simp[Pa.c],by simp[Pa.a,cy,hma,eW.a],(eo.mk_ (p:=⟨ep,-1,isr,some ⟨g1,0,none⟩,c1,kn.set r 0,some ⟨g2,0,none⟩,c2,_,some ⟨g3,0,none⟩,c3,fw,bs⟩) Z Z Z row1 row2b row20 hlg3 (by dsimp only;first|omega|(simp only[ab,bJ];omega)) H ⟨by simp,by simp,by simp⟩)⟩
 refine U<|ZF Z<|Zk<|W<|Zr<|G (Zw aG H 5 Z Z Z)<|bl H 4 (#[J (ep),J (ld),.slice (Qd g1) isr.length c1,.slice (Qd g2) kn.length c2,.slice (Qd g3) rs.length c3,J (fw),J (bs)]) aL Z Z Z Z Z N N fun w25 H=>G (Wi Z)<|U<|Zt ?_
 have hlg3:=hlg2.same r (x':={x with up:=false,A:=A39,cap:=c39,es:=(x.es.take m),s:=m,lo:=w4.heap.size,hi:=w5.heap.size,high:=min x.high (((x.es.take m).length:Nat):Int)}) (am I) Z Z Z Z Z
 have hS:kr (Pa.a ⟨ep,ld,isr,iA,iC,kn,kA,kC,reps,rA,rC,fw,bs⟩) r keep=({Pa.a ⟨ep,ld,isr,iA,iC,kn,kA,kC,reps,rA,rC,fw,bs⟩with reps:=(reps.map eW.a).set r {up:=false,es:=x.es.take m,s:=m,high:=min x.high (((x.es.take m).length:Nat):Int)},known:=kn.set r 0,leader:=ld},0):=by simp[kr,Pa.a,hxa,eW.a,h30,hm,h75]
 rw[hS]
 exact bG (cs0:= #[J (ep),J (ld),.slice (Qd g1) isr.length c1,.slice (Qd g2) kn.length c2,.slice (Qd g3) rs.length c3,J (fw),J (bs)]) (v1:=J 0) Z aG Z (H.ent (i:=4) Z) Z Z ⟨_,by simp[Pa.c],by simp[Pa.a,cy,hma,eW.a],(eo.mk_ (p:=⟨ep,ld,isr,some ⟨g1,0,none⟩,c1,kn.set r 0,some ⟨g2,0,none⟩,c2,_,some ⟨g3,0,none⟩,c3,fw,bs⟩) Z Z Z row1 row2b row20 hlg3 (by dsimp only;first|omega|(simp only[ab,bJ];omega)) H ⟨by simp,by simp,by simp⟩)⟩
 refine G (dO Z)<|U<|ZT Z<|W<|Zr<|G (bj (cs:= #[J (0),J (0),.slice none 0 0,.slice none 0 0,.slice none 0 0,J (0),J (0)]) cL bo N)<|bl H 3 (#[J (0),J (0),.slice none 0 0,.slice none 0 0,.slice none 0 0,J (0),J (0)]) aL Z Z Z Z Z N N fun w26 H=>G (Wi Z)<|U<|Zt ?_
 have hS:kr (Pa.a ⟨ep,ld,isr,iA,iC,kn,kA,kC,reps,rA,rC,fw,bs⟩) r keep=(gF,7):=by simp[kr,Pa.a,hxa,eW.a,h30]
 rw[hS]
 exact bG (cs0:= #[J 0,J 0,.slice none 0 0,.slice none 0 0,.slice none 0 0,J 0,J 0]) (v1:=J 7) Z aG Z (H.ent (i:=3) Z) Z Z ⟨zo,rfl,rfl,eo.zero H.below⟩
theorem KF (p:Pa) (r:Nat) (w:World) (h:p.rd 0 w.heap.size w) (hok:p.a.ok) (hr:r<p.reps.length):dd aa Fq [p.v,J (r:Nat)] w fun v w2=> ∃ p':Pa,v=.tuple #[p'.v,J (nT p.a r).2]/\p'.a=(nT p.a r).1/\eo w w2 p':=by
 refine aE DP Z Z ?_
 obtain⟨hn1,hn2,hil,hkl,hf1,hf2,he0,he1,hl0,hl1,hb0,hb1,hsm⟩:=Pa.facts hok
 have hkn:=hok.known
 have hiC:=h.iC
 have hkC:=h.kC
 have hrC:=h.rC
 have hfew:=h.few
 have H:=Hp.startPa h
 obtain⟨ep,ld,isr,iA,iC,kn,kA,kC,reps,rA,rC,fw,bs⟩:=p
 simp only[Pa.a]at hkn
 dsimp only at H hn1 hn2 hil hkl hf1 hf2 he0 he1 hl0 hl1 hb0 hb1 hsm hiC hkC hrC hfew
 dsimp only at hr
 show CW _ _ _ _ (args [.agg #[J (ep),J (ld),.slice iA isr.length iC,.slice kA kn.length kC,.slice rA reps.length rC,J (fw),J (bs)],J (((r:Nat):Int))]) w
 refine W<|Zr<|fS H Z Z fun w1 b2 H=>eC H bo Z fun w2 b4 H=>G (Wi Z)<|U<|W<|Zr<|G (Zw aG H 1 Z Z Z)<|G (Yi Z)<|cd ku (tw ⟨ep,ld,isr,iA,iC,kn,kA,kC,reps,rA,rC,fw,bs⟩ r _ (Hp.pa H 0 Z) hok hr) Z Z ?_
 rintro _ w3 ⟨⟨ep2,ld2,is2,iA2,c1,kn2,kA2,c2,rs,rA2,c3,fw2,bs2⟩,g1,g2,g3,u1,u2,u3,rfl,ha2,ho⟩
 simp only[Pa.a,gD.mk.injEq]at ha2
 obtain⟨e1,e2,e3,e4,hma,e6,e7⟩:=ha2
 obtain rfl:ep=ep2:=e1.symm
 obtain rfl:ld=ld2:=e2.symm
 obtain rfl:isr=is2:=e3.symm
 obtain rfl:kn=kn2:=e4.symm
 obtain rfl:fw=fw2:=e6.symm
 obtain rfl:bs=bs2:=e7.symm
 have hrl:rs.length=reps.length:=by have:=congrArg cv hma;simpa using this
 obtain⟨i1,i2,i3,row1,row2,row3,hcp,hlos,-,hjn⟩:=ho
 dsimp only at i1 i2 i3 row1 row2 row3 hcp hlos hjn
 subst i1;subst i2;subst i3
 have hlo0:=H.size
 replace H:=H.joinF hjn (by intro f hf;obtain⟨r,hr,rfl⟩:=bv.1 hf;exact hlos r hr)
 replace hlos: ∀ r∈rs,w.heap.size<=r.lo:=fun r hr=>aT hlo0 (hlos r hr)
 clear hjn
 have hlg:=qj.of (F:=[C2 0 w.heap.size ⟨ep,ld,isr,iA,iC,kn,kA,kC,reps,rA,rC,fw,bs⟩,dG eV 0 w.heap.size iA isr,dG bS 0 w.heap.size kA kn,dG gd 0 w.heap.size rA reps]) hcp hlos
 have hok2: ∀ {i:Nat} {x:eW},rs[i]? =some x->GL x.es x.s/\0<=x.high/\x.high<=x.es.length:=fun hx=>wr hma hok hx
 obtain⟨x,hx⟩: ∃ x,rs[r]? =some x:=⟨_,ah I⟩
 have hxa:=vH hma hx
 refine G (Yu Z)<|G (Xa Z Z)<|G (Xi Z Z)<|bl H 4 (#[J (ep),J (ld),.slice (Qd g1) isr.length c1,.slice (Qd g2) kn.length c2,.slice (Qd g3) rs.length c3,J (fw),J (bs)]) aL Z Z Z Z Z N N fun w4 H=>G (Wi Z)<|U<|W<|W<|Zr<|G (Yi Z)<|G (bX Z Z Z)<|U<|ZF Z<|Zk<|W<|W<|Zr<|G (Zf cP Z)<|G (Zd bR H 4 Z Z Z)<|G (Yi Z)<|G (cC bu Z Z (by first|omega|(simp only[ab];omega)))<|G (Zf ft Z) ?_
 refine wu (bQ dR row3 hx 0 Z (H.ent (i:=2) Z) Z) Z Z Z (fun h22=> ?_) (fun h22=> ?_)
 refine U<|ZT Z<|W<|Zr<|G (bj (cs:= #[J (0),J (0),.slice none 0 0,.slice none 0 0,.slice none 0 0,J (0),J (0)]) cL bo N)<|bl H 3 (#[J (0),J (0),.slice none 0 0,.slice none 0 0,.slice none 0 0,J (0),J (0)]) aL Z Z Z Z Z N N fun w5 H=>G (Wi Z)<|U<|Zt ?_
 have hS:nT (Pa.a ⟨ep,ld,isr,iA,iC,kn,kA,kC,reps,rA,rC,fw,bs⟩) r=(gF,12):=by simp[nT,Pa.a,hxa,eW.a,h22]
 rw[hS]
 exact bG (cs0:= #[J 0,J 0,.slice none 0 0,.slice none 0 0,.slice none 0 0,J 0,J 0]) (v1:=J 12) Z aG Z (H.ent (i:=3) Z) Z Z ⟨zo,rfl,rfl,eo.zero H.below⟩
 refine U<|ZF Z<|Zk<|W ?_
 obtain⟨b,hb⟩: ∃ b,isr[r]? =some b:=⟨_,ah I⟩
 refine Zr<|G (Zf fZ Z)<|G (Zd gI H 4 Z Z Z)<|G (Yi Z)<|G (cC d6 Z Z (by first|omega|(simp only[ab];omega)))<|kQ H 0 ((false)) iJ row1 hb 0 Z Z Z Z Z Z N fun w7 cur6 row6 H=> ?_
 have hs8:(isr.set r ((false)))[r]? =some ((false)):=am (cD hb).1
 refine U<|W<|W<|Zr<|G (Zf fZ Z)<|G (Zd gI H 4 Z Z Z)<|cd jn ((by have hA:=rO (isr.set r false) (Qd g1) c1 _ (row6.rd0 (H.ent (i:=0) Z)) (by simp only[ab];omega);simp only[ab]at hA;exact hA)) Z Z ?_
 rintro _ w9 ⟨rfl,hb⟩;replace H:=H.later hb;clear hb
 refine G (dO Z)<|U ?_
 refine jm Z (fun hc31=> ?_) (fun hc31=> ?_)
 refine W<|Zr<|G (bj (cs:= #[J (0),J (0),.slice none 0 0,.slice none 0 0,.slice none 0 0,J (0),J (0)]) cL bo N)<|bl H 3 (#[J (0),J (0),.slice none 0 0,.slice none 0 0,.slice none 0 0,J (0),J (0)]) aL Z Z Z Z Z N N fun w10 H=>G (Wi Z)<|U<|Zt ?_
 have hno:true∉isr.set r false:=by simpa using hc31
 have hS:nT (Pa.a ⟨ep,ld,isr,iA,iC,kn,kA,kC,reps,rA,rC,fw,bs⟩) r=(gF,8):=by simp[nT,Pa.a,hxa,eW.a,h22,hno]
 rw[hS]
 exact bG (cs0:= #[J 0,J 0,.slice none 0 0,.slice none 0 0,.slice none 0 0,J 0,J 0]) (v1:=J 8) Z aG Z (H.ent (i:=3) Z) Z Z ⟨zo,rfl,rfl,eo.zero H.below⟩
 refine Zk<|W ?_
 obtain⟨kx,hkx⟩: ∃ kx,kn[r]? =some kx:=⟨_,ah I⟩
 refine eu (τ:=Unit) [33,34,35,36,37,38,39,40,41] (fun _=>[]) (fun _ w'=> ∃ v2 v3,dU bS (kn.set r 0) c2 v2/\dU gd (rs.set r ⟨false,none,0,[],0,0,w.heap.size,w.heap.size⟩) c3 v3/\Hp w w' [(g1,.cells cur6 jh (0,0)),(g2,.cells v2 cW (0,0)),(g3,.cells v3 fi (0,0)),(b4,.cells #[J 0,J 0,.slice none 0 0,.slice none 0 0,.slice none 0 0,J 0,J 0] bz (0,0)),(b2,.cells #[J (ep),J (ld),.slice (Qd g1) isr.length c1,.slice (Qd g2) kn.length c2,.slice (Qd g3) rs.length c3,J (fw),J (bs)] bz (0,0))] ([C2 0 w.heap.size ⟨ep,ld,isr,iA,iC,kn,kA,kC,reps,rA,rC,fw,bs⟩,dG eV 0 w.heap.size iA isr,dG bS 0 w.heap.size kA kn,dG gd 0 w.heap.size rA reps]++sR rs)) ?_ ?_
 refine mF bZ (fun w'=>w'.heap[b2]? =some (.cells #[J (ep),J (ld),.slice (Qd g1) isr.length c1,.slice (Qd g2) kn.length c2,.slice (Qd g3) rs.length c3,J (fw),J (bs)] bz (0,0))) ?_
 intro w11 hw';replace H:=H.later hw';clear hw'
 refine aN 0 N N N Z Z Z Z Nq (H.ent (i:=4) Z) (fun _ hS=>Zf cP Z)<|aN 1 N N N Z Z Z Z Nq (H.ent (i:=4) Z) (fun _ hS=>aV bR Z (aB hS Z))<|aN 2 N N N Z Z Z Z Nq (H.ent (i:=4) Z) (fun _ hS=>Yi Z)<|aN 3 N N N Z Z Z Z Nq (H.ent (i:=4) Z) (fun _ hS=>Zf fY Z)<|aN 4 N N N Z Z Z Z Nq (H.ent (i:=4) Z) (fun _ hS=>aV cr Z (aB hS Z))<|aN 5 N N N Z Z Z Z Nq (H.ent (i:=4) Z) (fun _ hS=>Yi Z)<|aN 6 N N N Z Z Z Z Nq (H.ent (i:=4) Z) (fun _ hS=>bj (cs:= #[.bool (false),.slice none 0 0,J (0),J (0)]) Gj m7 N)<|aN 7 N N N Z Z Z Z Nq (H.ent (i:=4) Z) (fun _ hS=>cC bu Z Z (by first|omega|(simp only[ab];omega)))<|r5 8 N Z<|kQ H 2 (⟨false,none,0,[],0,0,w.heap.size,w.heap.size⟩) j5 row3 hx 0 Z Z Z Z Z Z N fun w13 cur12 row12 H=> ?_
 have hs14:(rs.set r (⟨false,none,0,[],0,0,w.heap.size,w.heap.size⟩))[r]? =some (⟨false,none,0,[],0,0,w.heap.size,w.heap.size⟩):=am (cD hx).1
 refine U ?_
 refine⟨(H.ent (i:=4) Z),?_⟩
 refine aN 9 N N N Z Z Z Z Nq (H.ent (i:=4) Z) (fun _ hS=>cC aZ Z Z (by first|omega|(simp only[ab];omega)))<|r5 10 N Z<|kQ H 1 ((0)) bI row2 hkx 0 Z Z Z Z Z Z N fun w16 cur15 row15 H=> ?_
 have hs17:(kn.set r ((0)))[r]? =some ((0)):=am (cD hkx).1
 refine U ?_
 refine⟨(H.ent (i:=4) Z),?_⟩
 refine jP N ?_
 exact⟨(),⟨_,_,row15,row12,H⟩,vX,Qg⟩
 rintro⟨⟩ ρ1 w18 ⟨v2,v3,row2b,row3b,H⟩
 refine W<|Zr<|G (Zw aG H 4 Z Z Z)<|bl H 3 (#[J (ep),J (ld),.slice (Qd g1) isr.length c1,.slice (Qd g2) kn.length c2,.slice (Qd g3) rs.length c3,J (fw),J (bs)]) aL Z Z Z Z Z N N fun w19 H=>G (Wi Z)<|U<|Zt ?_
 have hye:true∈isr.set r false:=by simpa using hc31
 have hS:nT (Pa.a ⟨ep,ld,isr,iA,iC,kn,kA,kC,reps,rA,rC,fw,bs⟩) r=({Pa.a ⟨ep,ld,isr,iA,iC,kn,kA,kC,reps,rA,rC,fw,bs⟩with reps:=(reps.map eW.a).set r ⟨false,[],0,0⟩,known:=kn.set r 0,isr:=isr.set r false},0):=by simp[nT,Pa.a,hxa,eW.a,h22,hye]
 rw[hS]
 replace H:=H.learnNil (Y:=dA) w.heap.size H.size none
 have hlg1:=(hlg.cons (f:=dG dA w.heap.size w.heap.size none [])).set r (x:=⟨false,none,0,[],0,0,w.heap.size,w.heap.size⟩) ⟨by simp[bd],ao _,fF _⟩
 exact bG (cs0:= #[J (ep),J (ld),.slice (Qd g1) isr.length c1,.slice (Qd g2) kn.length c2,.slice (Qd g3) rs.length c3,J (fw),J (bs)]) (v1:=J 0) Z aG Z (H.ent (i:=3) Z) Z Z ⟨_,by simp[Pa.c],by simp[Pa.a,cy,hma,eW.a],(eo.mk_ (p:=⟨ep,ld,isr.set r false,some ⟨g1,0,none⟩,c1,kn.set r 0,some ⟨g2,0,none⟩,c2,_,some ⟨g3,0,none⟩,c3,fw,bs⟩) Z Z Z row6 row2b row3b hlg1 (by dsimp only;first|omega|(simp only[ab,bJ];omega)) H ⟨by simp,by simp,by simp⟩)⟩
theorem gp:(aa.info? cW).map (fun i=>(i.zero,i.size,i.bytes))=some (some (J 0),1,8):=by kernel_rfl
theorem ME (m:Nat) (h:m<=1000000):dU bS (au m (0:Int)) m (au m (Value.int .i64 0)).toArray:=by
 have hl: ∀ m:Nat,bS.all (au m (0:Int))=au m (Value.int .i64 0):=by
  intro m
  induction m with
  |zero=>rfl
  |succ m ih=>rw[zj,zj,<-ih];rfl
 refine⟨by simp[bS],?_,by simp,by simp only[maxLen];omega⟩
 rw[hl]
 simp[bS]
def iZ (p:gD) (r:Nat):gD×Int:=match p.reps[r]? with
 |none=>(gF,5)
 |some x=>if x.up=false then(gF,7)else if p.isr[r]? =some false then(gF,13)else if p.leader=r then(gF,6)else if p.epoch=1073741824 then(gF,2)else
  (nK {p with epoch:=p.epoch+1,leader:=r,known:=(au p.reps.length 0).set r x.s,base:=x.es.length},0)
def gY (p:gD) (r:Nat):gD×Int:=if p.leader<0∨p.leader=r then(gF,8)else if p.isr[r]? =some false then(gF,13)else(nK {p with isr:=p.isr.set r false},0)
def sw (p:gD):Int:=match p.reps[p.leader.toNat]? with
 |some x=>x.high
 |none=>0
def fK (p:gD) (r:Nat):gD×Int:=if p.leader<0∨p.leader=r then(gF,8)else if p.isr[r]? =some true then(gF,6)else match p.reps[r]? with
 |none=>(gF,5)
 |some x=>if x.up=false then(gF,7)else if p.known.getD r 0<max p.base (sw p)then(gF,13)else({p with isr:=p.isr.set r true},0)
theorem IZ (p:Pa) (r:Nat) (w:World) (h:p.rd 0 w.heap.size w) (hok:p.a.ok) (hr:r<p.reps.length):dd aa Dz [p.v,J (r:Nat)] w fun v w2=> ∃ p':Pa,v=.tuple #[p'.v,J (iZ p.a r).2]/\p'.a=(iZ p.a r).1/\eo w w2 p':=by
 refine aE BJ Z Z ?_
 obtain⟨hn1,hn2,hil,hkl,hf1,hf2,he0,he1,hl0,hl1,hb0,hb1,hsm⟩:=Pa.facts hok
 have hkn:=hok.known
 have hiC:=h.iC
 have hkC:=h.kC
 have hrC:=h.rC
 have hfew:=h.few
 have H:=Hp.startPa h
 obtain⟨ep,ld,isr,iA,iC,kn,kA,kC,reps,rA,rC,fw,bs⟩:=p
 simp only[Pa.a]at hkn
 dsimp only at H hn1 hn2 hil hkl hf1 hf2 he0 he1 hl0 hl1 hb0 hb1 hsm hiC hkC hrC hfew
 dsimp only at hr
 show CW _ _ _ _ (args [.agg #[J (ep),J (ld),.slice iA isr.length iC,.slice kA kn.length kC,.slice rA reps.length rC,J (fw),J (bs)],J (((r:Nat):Int))]) w
 refine W<|Zr<|fS H Z Z fun w1 b2 H=>eC H bo Z fun w2 b4 H=>G (Wi Z)<|U<|W<|Zr<|G (Zw aG H 1 Z Z Z)<|G (Yi Z)<|cd ku (tw ⟨ep,ld,isr,iA,iC,kn,kA,kC,reps,rA,rC,fw,bs⟩ r _ (Hp.pa H 0 Z) hok hr) Z Z ?_
 rintro _ w3 ⟨⟨ep2,ld2,is2,iA2,c1,kn2,kA2,c2,rs,rA2,c3,fw2,bs2⟩,g1,g2,g3,u1,u2,u3,rfl,ha2,ho⟩
 simp only[Pa.a,gD.mk.injEq]at ha2
 obtain⟨e1,e2,e3,e4,hma,e6,e7⟩:=ha2
 obtain rfl:ep=ep2:=e1.symm
 obtain rfl:ld=ld2:=e2.symm
 obtain rfl:isr=is2:=e3.symm
 obtain rfl:kn=kn2:=e4.symm
 obtain rfl:fw=fw2:=e6.symm
 obtain rfl:bs=bs2:=e7.symm
 have hrl:rs.length=reps.length:=by have:=congrArg cv hma;simpa using this
 obtain⟨i1,i2,i3,row1,row2,row3,hcp,hlos,-,hjn⟩:=ho
 dsimp only at i1 i2 i3 row1 row2 row3 hcp hlos hjn
 subst i1;subst i2;subst i3
 have hlo0:=H.size
 replace H:=H.joinF hjn (by intro f hf;obtain⟨r,hr,rfl⟩:=bv.1 hf;exact hlos r hr)
 replace hlos: ∀ r∈rs,w.heap.size<=r.lo:=fun r hr=>aT hlo0 (hlos r hr)
 clear hjn
 have hlg:=qj.of (F:=[C2 0 w.heap.size ⟨ep,ld,isr,iA,iC,kn,kA,kC,reps,rA,rC,fw,bs⟩,dG eV 0 w.heap.size iA isr,dG bS 0 w.heap.size kA kn,dG gd 0 w.heap.size rA reps]) hcp hlos
 have hok2: ∀ {i:Nat} {x:eW},rs[i]? =some x->GL x.es x.s/\0<=x.high/\x.high<=x.es.length:=fun hx=>wr hma hok hx
 obtain⟨x,hx⟩: ∃ x,rs[r]? =some x:=⟨_,ah I⟩
 have hxa:=vH hma hx
 refine G (Yu Z)<|G (Xa Z Z)<|G (Xi Z Z)<|bl H 4 (#[J (ep),J (ld),.slice (Qd g1) isr.length c1,.slice (Qd g2) kn.length c2,.slice (Qd g3) rs.length c3,J (fw),J (bs)]) aL Z Z Z Z Z N N fun w4 H=>G (Wi Z)<|U<|W<|W<|Zr<|G (Yi Z)<|G (bX Z Z Z)<|U<|ZF Z<|Zk<|W<|Zb<|W ?_
 obtain⟨b,hb⟩: ∃ b,isr[r]? =some b:=⟨_,ah I⟩
 refine Zr<|G (Zf cP Z)<|G (Zd bR H 4 Z Z Z)<|G (Yi Z)<|G (cC bu Z Z (by first|omega|(simp only[ab];omega)))<|G (Zf ft Z) ?_
 refine wu (bQ dR row3 hx 0 Z (H.ent (i:=2) Z) Z) Z Z Z (fun h23=> ?_) (fun h23=> ?_)
 ·
  refine G (dO Z)<|G (Wb Z)<|U<|ZF Z<|W<|Zr<|G (Zf fZ Z)<|G (Zd gI H 4 Z Z Z)<|G (Yi Z)<|G (cC d6 Z Z (by first|omega|(simp only[ab];omega))) ?_
  refine wu (bQ dR row1 hb 0 Z (H.ent (i:=0) Z) Z) Z Z Z (fun h31=> ?_) (fun h31=> ?_)
  ·
   refine G (dO Z)<|G (Wb Z)<|U<|ZF Z<|W<|Zr<|G (Zf dr Z)<|G (Zd aj H 4 Z Z Z)<|G (Yi Z) ?_
   refine cR (bh Z Z) Z Z Z (fun h38=> ?_) (fun h38=> ?_)
   ·
    refine G (Wb Z)<|U<|ZT Z<|W<|Zr<|G (bj (cs:= #[J (0),J (0),.slice none 0 0,.slice none 0 0,.slice none 0 0,J (0),J (0)]) cL bo N)<|bl H 3 (#[J (0),J (0),.slice none 0 0,.slice none 0 0,.slice none 0 0,J (0),J (0)]) aL Z Z Z Z Z N N fun w5 H=>G (Wi Z)<|U<|Zt ?_
    have hS:iZ (Pa.a ⟨ep,ld,isr,iA,iC,kn,kA,kC,reps,rA,rC,fw,bs⟩) r=(gF,6):=by simp[iZ,Pa.a,hxa,eW.a,h23,hb,h31,<-h38]
    rw[hS]
    exact bG (cs0:= #[J 0,J 0,.slice none 0 0,.slice none 0 0,.slice none 0 0,J 0,J 0]) (v1:=J 6) Z aG Z (H.ent (i:=3) Z) Z Z ⟨zo,rfl,rfl,eo.zero H.below⟩
   ·
    refine G (Wb Z)<|U<|ZF Z<|W<|Zr<|G (Zf pL Z)<|G (Zd aj H 4 Z Z Z) ?_
    refine cR (bh Z Z) Z Z Z (fun h43=> ?_) (fun h43=> ?_)
    ·
     refine G (Wb Z)<|U<|ZT Z<|W<|Zr<|G (bj (cs:= #[J (0),J (0),.slice none 0 0,.slice none 0 0,.slice none 0 0,J (0),J (0)]) cL bo N)<|bl H 3 (#[J (0),J (0),.slice none 0 0,.slice none 0 0,.slice none 0 0,J (0),J (0)]) aL Z Z Z Z Z N N fun w6 H=>G (Wi Z)<|U<|Zt ?_
     have hS:iZ (Pa.a ⟨ep,ld,isr,iA,iC,kn,kA,kC,reps,rA,rC,fw,bs⟩) r=(gF,2):=by simp[iZ,Pa.a,hxa,eW.a,h23,hb,h31,h38,h43]
     rw[hS]
     exact bG (cs0:= #[J 0,J 0,.slice none 0 0,.slice none 0 0,.slice none 0 0,J 0,J 0]) (v1:=J 2) Z aG Z (H.ent (i:=3) Z) Z Z ⟨zo,rfl,rfl,eo.zero H.below⟩
    ·
     refine G (Wb Z)<|U<|ZF Z<|Zk<|W<|Zr<|G (Zf pL Z)<|G (Zd aj H 4 Z Z Z)<|G (bp Z Z I I)<|G (Zf pL Z)<|bl H 4 (#[J (ep+1),J (ld),.slice (Qd g1) isr.length c1,.slice (Qd g2) kn.length c2,.slice (Qd g3) rs.length c3,J (fw),J (bs)]) bI Z Z Z Z Z N N fun w7 H=>U<|W<|Zr<|G (Yi Z)<|G (Zf dr Z)<|bl H 4 (#[J (ep+1),J (((r:Nat):Int)),.slice (Qd g1) isr.length c1,.slice (Qd g2) kn.length c2,.slice (Qd g3) rs.length c3,J (fw),J (bs)]) bI Z Z Z Z Z N N fun w8 H=>U<|W<|Zr<|G (Zf cP Z)<|G (Zd bR H 4 Z Z Z)<|G (bn gf Z)<|QA (m:=rs.length) H aZ gp Z Z Z I I Z fun w9 b54 H=> ?_
     have row54:=ME rs.length I
     refine G (Zf fY Z)<|bl H 5 (#[J (ep+1),J (((r:Nat):Int)),.slice (Qd g1) isr.length c1,.slice (Qd b54) rs.length rs.length,.slice (Qd g3) rs.length c3,J (fw),J (bs)]) jF Z Z Z Z Z N N fun w10 H=>U<|W ?_
     refine bD bZ [0,1,2,3,4,5,6,7,8,9] [10,11,12] [5] [0,2,4,6,7,8,9] (sp [(5,Sp.one (.tuple #[J ((x.es.length:Nat):Int),J ((x.s:Nat):Int)]))]) N N N N Nq (cI _) ?_
     refine aw Z Z Z Z Z (fun w' hw'=>Zf fY Z)<|aw Z Z Z Z Z (fun w' hw'=>aV cr Z (aB ((H.later hw').ent (i:=5) Z) Z))<|aw Z Z Z Z Z (fun w' hw'=>Yi Z)<|aw Z Z Z Z Z (fun w' hw'=>iP aG Z ((H.later hw').ent (i:=5) Z) Z)<|aw Z Z Z Z Z (fun w' hw'=>Yi Z)<|g7 jB Z Z Z Z Z (fun w' hw'=>(by have hA:=pP ⟨ep+1,(r:Nat),isr,some ⟨g1,0,none⟩,c1,au rs.length 0,some ⟨b54,0,none⟩,rs.length,rs,some ⟨g3,0,none⟩,c3,fw,bs⟩ r x w' (row3.rd0 ((H.later hw').ent (i:=3) Z)) hx (hlg.log (H.later hw') hx (hok2 hx).1);simp only[Pa.v,Pa.c,bJ]at hA;exact hA)) Z<|aw Z Z Z Z Z (fun w' hw'=>Yu Z)<|aw Z Z Z Z Z (fun w' hw'=>Xi Z Z)<|aw Z Z Z Z Z (fun w' hw'=>Xi Z Z)<|aw Z Z Z Z Z (fun w' hw'=>Zf uz Z)<|aU ?_
     intro w11 hw' hF
     replace H:=H.later hw';clear hw' hF
     refine bl H 5 (#[J (ep+1),J (((r:Nat):Int)),.slice (Qd g1) isr.length c1,.slice (Qd b54) rs.length rs.length,.slice (Qd g3) rs.length c3,J (fw),J (((x.es.length:Nat):Int))]) bI Z Z Z Z Z N N fun w12 H=>G (cC aZ Z Z (by first|omega|(simp only[ab];omega))) ?_
     refine kQ H 0 ((((x.s:Nat):Int))) bI row54 (show(au rs.length (0:Int))[r]? =some 0 by rw[fQ,if_pos I]) 0 Z Z Z Z Z Z N ?_;intro w14 cur13 row13 H
     have hs15:((au rs.length (0:Int)).set r ((((x.s:Nat):Int))))[r]? =some ((((x.s:Nat):Int))):=am (cD (show(au rs.length (0:Int))[r]? =some 0 by rw[fQ,if_pos I])).1
     refine U<|W<|Zr<|G (Zw aG H 5 Z Z Z)<|cd lx ((by have hA:=y6 (g2:=b54) (M:=[(g2,.cells u2 cW (0,0)),(b4,.cells #[J 0,J 0,.slice none 0 0,.slice none 0 0,.slice none 0 0,J 0,J 0] bz (0,0)),(b2,.cells #[J (ep+1),J (((r:Nat):Int)),.slice (Qd g1) isr.length c1,.slice (Qd b54) rs.length rs.length,.slice (Qd g3) rs.length c3,J (fw),J (((x.es.length:Nat):Int))] bz (0,0))]) (ep+1) ((r:Nat):Int) isr c1 ((au rs.length 0).set r ((x.s:Nat):Int)) rs.length rs c3 fw ((x.es.length:Nat):Int) r x (H.perm ((al _ _ _).trans (.cons _ (.cons _ (al _ _ _))))) row1 row13 row3 I (by simp) I Z hx (hlg _ (ae hx)).2.2 (hok2 hx).1 (hlg _ (ae hx)).1;simp only[Pa.v,Pa.c,ab,bJ]at hA;exact hA)) Z Z ?_
     rintro _ w16 ⟨u9,rfl,row9,H⟩
     refine bl H 4 (#[J (ep+1),J (((r:Nat):Int)),.slice (Qd g1) isr.length c1,.slice (Qd b54) rs.length rs.length,.slice (Qd g3) rs.length c3,J (fw),J (((x.es.length:Nat):Int))]) aL Z Z Z Z Z N N fun w17 H=>G (Wi Z)<|U<|Zt ?_
     have hS:iZ (Pa.a ⟨ep,ld,isr,iA,iC,kn,kA,kC,reps,rA,rC,fw,bs⟩) r=(nK {Pa.a ⟨ep,ld,isr,iA,iC,kn,kA,kC,reps,rA,rC,fw,bs⟩with epoch:=ep+1,leader:=(r:Nat),known:=(au (reps.map eW.a).length 0).set r ((x.s:Nat):Int),base:=((x.es.length:Nat):Int)},0):=by simp[iZ,Pa.a,hxa,eW.a,h23,hb,h31,h38,h43]
     rw[hS]
     rw[xf (l:=r) (r:=x.a) Z hxa]
     have hlg1:=hlg.same r (x':={x with high:=max x.high (min (du isr ((au rs.length 0).set r ((x.s:Nat):Int)) 400) (x.es.length:Nat))}) hx Z Z Z Z Z
     exact bG (cs0:= #[J (ep+1),J (((r:Nat):Int)),.slice (Qd g1) isr.length c1,.slice (Qd b54) rs.length rs.length,.slice (Qd g3) rs.length c3,J (fw),J (((x.es.length:Nat):Int))]) (v1:=J 0) Z aG Z (H.ent (i:=4) Z) Z Z ⟨_,by simp[Pa.c],by simp[Pa.a,cy,hma,hrl,eW.a],(eo.mk_ (p:=⟨ep+1,(r:Nat),isr,some ⟨g1,0,none⟩,c1,(au rs.length 0).set r ((x.s:Nat):Int),some ⟨b54,0,none⟩,rs.length,_,some ⟨g3,0,none⟩,c3,fw,((x.es.length:Nat):Int)⟩) Z Z Z row1 row13 row9 hlg1 (by dsimp only;try simp only[ab,bJ];omega) H ⟨by simp,by simp,by simp⟩)⟩
  ·
   refine G (dO Z)<|G (Wb Z)<|U<|ZT Z<|W<|Zr<|G (bj (cs:= #[J (0),J (0),.slice none 0 0,.slice none 0 0,.slice none 0 0,J (0),J (0)]) cL bo N)<|bl H 3 (#[J (0),J (0),.slice none 0 0,.slice none 0 0,.slice none 0 0,J (0),J (0)]) aL Z Z Z Z Z N N fun w18 H=>G (Wi Z)<|U<|Zt ?_
   have hS:iZ (Pa.a ⟨ep,ld,isr,iA,iC,kn,kA,kC,reps,rA,rC,fw,bs⟩) r=(gF,13):=by simp[iZ,Pa.a,hxa,eW.a,h23,hb,h31]
   rw[hS]
   exact bG (cs0:= #[J 0,J 0,.slice none 0 0,.slice none 0 0,.slice none 0 0,J 0,J 0]) (v1:=J 13) Z aG Z (H.ent (i:=3) Z) Z Z ⟨zo,rfl,rfl,eo.zero H.below⟩
 ·
  refine G (dO Z)<|G (Wb Z)<|U<|ZT Z<|W<|Zr<|G (bj (cs:= #[J (0),J (0),.slice none 0 0,.slice none 0 0,.slice none 0 0,J (0),J (0)]) cL bo N)<|bl H 3 (#[J (0),J (0),.slice none 0 0,.slice none 0 0,.slice none 0 0,J (0),J (0)]) aL Z Z Z Z Z N N fun w19 H=>G (Wi Z)<|U<|Zt ?_
  have hS:iZ (Pa.a ⟨ep,ld,isr,iA,iC,kn,kA,kC,reps,rA,rC,fw,bs⟩) r=(gF,7):=by simp[iZ,Pa.a,hxa,eW.a,h23]
  rw[hS]
  exact bG (cs0:= #[J 0,J 0,.slice none 0 0,.slice none 0 0,.slice none 0 0,J 0,J 0]) (v1:=J 7) Z aG Z (H.ent (i:=3) Z) Z Z ⟨zo,rfl,rfl,eo.zero H.below⟩
theorem EV (p:Pa) (r:Nat) (w:World) (h:p.rd 0 w.heap.size w) (hok:p.a.ok) (hr:r<p.reps.length) (hl:0<=p.leader) (hne:p.leader≠r):dd aa qZ [p.v,J (r:Nat)] w fun v w2=> ∃ p':Pa,v=.tuple #[p'.v,J (gY p.a r).2]/\p'.a=(gY p.a r).1/\eo w w2 p':=by
 refine aE tP Z Z ?_
 obtain⟨hn1,hn2,hil,hkl,hf1,hf2,he0,he1,hl0,hl1,hb0,hb1,hsm⟩:=Pa.facts hok
 have hkn:=hok.known
 have hiC:=h.iC
 have hkC:=h.kC
 have hrC:=h.rC
 have hfew:=h.few
 have H:=Hp.startPa h
 obtain⟨ep,ld,isr,iA,iC,kn,kA,kC,reps,rA,rC,fw,bs⟩:=p
 simp only[Pa.a]at hkn
 dsimp only at H hn1 hn2 hil hkl hf1 hf2 he0 he1 hl0 hl1 hb0 hb1 hsm hiC hkC hrC hfew
 dsimp only at hr hl hne
 show CW _ _ _ _ (args [.agg #[J (ep),J (ld),.slice iA isr.length iC,.slice kA kn.length kC,.slice rA reps.length rC,J (fw),J (bs)],J (((r:Nat):Int))]) w
 refine W<|Zr<|fS H Z Z fun w1 b2 H=>eC H bo Z fun w2 b4 H=>G (Wi Z)<|U<|W<|Zr<|G (Zw aG H 1 Z Z Z)<|G (Yi Z)<|cd qJ (HL ⟨ep,ld,isr,iA,iC,kn,kA,kC,reps,rA,rC,fw,bs⟩ r _ (Hp.pa H 0 Z) hok hr hl hne) Z Z ?_
 rintro _ w3 ⟨⟨ep2,ld2,is2,iA2,c1,kn2,kA2,c2,rs,rA2,c3,fw2,bs2⟩,g1,g2,g3,u1,u2,u3,rfl,ha2,ho⟩
 simp only[Pa.a,gD.mk.injEq]at ha2
 obtain⟨e1,e2,e3,e4,hma,e6,e7⟩:=ha2
 obtain rfl:ep=ep2:=e1.symm
 obtain rfl:ld=ld2:=e2.symm
 obtain rfl:isr=is2:=e3.symm
 obtain rfl:kn=kn2:=e4.symm
 obtain rfl:fw=fw2:=e6.symm
 obtain rfl:bs=bs2:=e7.symm
 have hrl:rs.length=reps.length:=by have:=congrArg cv hma;simpa using this
 obtain⟨i1,i2,i3,row1,row2,row3,hcp,hlos,-,hjn⟩:=ho
 dsimp only at i1 i2 i3 row1 row2 row3 hcp hlos hjn
 subst i1;subst i2;subst i3
 have hlo0:=H.size
 replace H:=H.joinF hjn (by intro f hf;obtain⟨r,hr,rfl⟩:=bv.1 hf;exact hlos r hr)
 replace hlos: ∀ r∈rs,w.heap.size<=r.lo:=fun r hr=>aT hlo0 (hlos r hr)
 clear hjn
 have hlg:=qj.of (F:=[C2 0 w.heap.size ⟨ep,ld,isr,iA,iC,kn,kA,kC,reps,rA,rC,fw,bs⟩,dG eV 0 w.heap.size iA isr,dG bS 0 w.heap.size kA kn,dG gd 0 w.heap.size rA reps]) hcp hlos
 have hok2: ∀ {i:Nat} {x:eW},rs[i]? =some x->GL x.es x.s/\0<=x.high/\x.high<=x.es.length:=fun hx=>wr hma hok hx
 obtain⟨x,hx⟩: ∃ x,rs[r]? =some x:=⟨_,ah I⟩
 have hxa:=vH hma hx
 refine G (Yu Z)<|G (Xa Z Z)<|G (Xi Z Z)<|bl H 4 (#[J (ep),J (ld),.slice (Qd g1) isr.length c1,.slice (Qd g2) kn.length c2,.slice (Qd g3) rs.length c3,J (fw),J (bs)]) aL Z Z Z Z Z N N fun w4 H=>G (Wi Z)<|U<|W<|W<|Zr<|G (Yi Z)<|G (bX Z Z Z)<|U<|ZF Z<|Zk<|W<|W ?_
 obtain⟨b,hb⟩: ∃ b,isr[r]? =some b:=⟨_,ah I⟩
 have hneg: ¬ ld<0:=by omega
 obtain⟨l,hld⟩: ∃ l:Nat,ld=l:=⟨ld.toNat,by omega⟩
 obtain⟨y,hy⟩: ∃ y,rs[l]? =some y:=⟨_,ah I⟩
 refine Zr<|G (Zf fZ Z)<|G (Zd gI H 4 Z Z Z)<|G (Yi Z)<|G (cC d6 Z Z (by first|omega|(simp only[ab];omega))) ?_
 refine wu (bQ dR row1 hb 0 Z (H.ent (i:=0) Z) Z) Z Z Z (fun h21=> ?_) (fun h21=> ?_)
 refine G (dO Z)<|U<|ZF Z<|Zk<|W<|Zr<|G (Zf fZ Z)<|G (Zd gI H 4 Z Z Z)<|G (Yi Z)<|G (cC d6 Z Z (by first|omega|(simp only[ab];omega)))<|kQ H 0 ((false)) iJ row1 hb 0 Z Z Z Z Z Z N fun w6 cur5 row5 H=> ?_
 have hs7:(isr.set r ((false)))[r]? =some ((false)):=am (cD hb).1
 refine U<|W<|Zr<|G (Zw aG H 4 Z Z Z)<|cd lx ((by have hA:=y6 ep ld (isr.set r false) c1 kn c2 rs c3 fw bs l y H row5 row2 row3 (by simp only[ab];omega) I I hld hy (hlg _ (ae hy)).2.2 (hok2 hy).1 (hlg _ (ae hy)).1;simp only[Pa.v,Pa.c,ab]at hA;exact hA)) Z Z ?_
 rintro _ w8 ⟨u9,rfl,row9,H⟩
 refine bl H 3 (#[J (ep),J (ld),.slice (Qd g1) isr.length c1,.slice (Qd g2) kn.length c2,.slice (Qd g3) rs.length c3,J (fw),J (bs)]) aL Z Z Z Z Z N N fun w9 H=>G (Wi Z)<|U<|Zt ?_
 have hS:gY (Pa.a ⟨ep,ld,isr,iA,iC,kn,kA,kC,reps,rA,rC,fw,bs⟩) r=(nK {Pa.a ⟨ep,ld,isr,iA,iC,kn,kA,kC,reps,rA,rC,fw,bs⟩with isr:=isr.set r false},0):=by simp[gY,Pa.a,hneg,hne,hb,h21]
 rw[hS]
 rw[xf (l:=l) (r:=y.a) hld (vH hma hy)]
 have hlg1:=hlg.same l (x':={y with high:=max y.high (min (du (isr.set r false) kn 400) (y.es.length:Nat))}) hy Z Z Z Z Z
 exact bG (cs0:= #[J (ep),J (ld),.slice (Qd g1) isr.length c1,.slice (Qd g2) kn.length c2,.slice (Qd g3) rs.length c3,J (fw),J (bs)]) (v1:=J 0) Z aG Z (H.ent (i:=3) Z) Z Z ⟨_,by simp[Pa.c],by simp[Pa.a,cy,hma,hrl,eW.a],(eo.mk_ (p:=⟨ep,ld,isr.set r false,some ⟨g1,0,none⟩,c1,kn,some ⟨g2,0,none⟩,c2,_,some ⟨g3,0,none⟩,c3,fw,bs⟩) Z Z Z row5 row2 row9 hlg1 (by dsimp only;try simp only[ab,bJ];omega) H ⟨by simp,by simp,by simp⟩)⟩
 refine G (dO Z)<|U<|ZT Z<|W<|Zr<|G (bj (cs:= #[J (0),J (0),.slice none 0 0,.slice none 0 0,.slice none 0 0,J (0),J (0)]) cL bo N)<|bl H 3 (#[J (0),J (0),.slice none 0 0,.slice none 0 0,.slice none 0 0,J (0),J (0)]) aL Z Z Z Z Z N N fun w10 H=>G (Wi Z)<|U<|Zt ?_
 have hS:gY (Pa.a ⟨ep,ld,isr,iA,iC,kn,kA,kC,reps,rA,rC,fw,bs⟩) r=(gF,13):=by simp[gY,Pa.a,hneg,hne,hb,h21]
 rw[hS]
 exact bG (cs0:= #[J 0,J 0,.slice none 0 0,.slice none 0 0,.slice none 0 0,J 0,J 0]) (v1:=J 13) Z aG Z (H.ent (i:=3) Z) Z Z ⟨zo,rfl,rfl,eo.zero H.below⟩
theorem EW (p:Pa) (r:Nat) (w:World) (h:p.rd 0 w.heap.size w) (hok:p.a.ok) (hr:r<p.reps.length) (hl:p.leader<0∨p.leader=r):dd aa qZ [p.v,J (r:Nat)] w fun v w2=>v=.tuple #[.agg #[J 0,J 0,.slice none 0 0,.slice none 0 0,.slice none 0 0,J 0,J 0],J 8]/\Below w.heap.size w w2:=by
 refine aE tP Z Z ?_
 obtain⟨hn1,hn2,hil,hkl,hf1,hf2,he0,he1,hl0,hl1,hb0,hb1,hsm⟩:=Pa.facts hok
 have hkn:=hok.known
 have hiC:=h.iC
 have hkC:=h.kC
 have hrC:=h.rC
 have hfew:=h.few
 have H:=Hp.startPa h
 obtain⟨ep,ld,isr,iA,iC,kn,kA,kC,reps,rA,rC,fw,bs⟩:=p
 simp only[Pa.a]at hkn
 dsimp only at H hn1 hn2 hil hkl hf1 hf2 he0 he1 hl0 hl1 hb0 hb1 hsm hiC hkC hrC hfew
 dsimp only at hr hl
 show CW _ _ _ _ (args [.agg #[J (ep),J (ld),.slice iA isr.length iC,.slice kA kn.length kC,.slice rA reps.length rC,J (fw),J (bs)],J (((r:Nat):Int))]) w
 refine W<|Zr<|fS H Z Z fun w1 b2 H=>eC H bo Z fun w2 b4 H=>G (Wi Z)<|U<|W<|Zr<|G (Zw aG H 1 Z Z Z)<|G (Yi Z)<|cd qJ (EY ⟨ep,ld,isr,iA,iC,kn,kA,kC,reps,rA,rC,fw,bs⟩ r _ (Hp.pa H 0 Z) hok hr hl) Z Z ?_
 rintro _ w3 ⟨rfl,hb⟩;replace H:=H.later hb;clear hb
 refine G (Yu Z)<|G (Xa Z Z)<|G (Xi Z Z)<|bl H 1 (#[J (0),J (0),.slice none 0 0,.slice none 0 0,.slice none 0 0,J (0),J (0)]) aL Z Z Z Z Z N N fun w4 H=>G (Wi Z)<|U<|W<|W<|Zr<|G (Yi Z)<|G (j9 Z Z (by decide))<|U<|ZT Z<|W<|Zr<|G (bj (cs:= #[J (0),J (0),.slice none 0 0,.slice none 0 0,.slice none 0 0,J (0),J (0)]) cL bo N)<|G (Yi Z)<|bl H 0 (#[J (0),J (0),.slice none 0 0,.slice none 0 0,.slice none 0 0,J (0),J (0)]) aL Z Z Z Z Z N N fun w5 H=>G (Wi Z)<|U<|Zt ?_
 exact bG (cs0:= #[J 0,J 0,.slice none 0 0,.slice none 0 0,.slice none 0 0,J 0,J 0]) (v1:=J 8) Z aG Z (H.ent (i:=0) Z) Z Z ⟨rfl,H.below⟩
theorem E0 (p:Pa) (r:Nat) (w:World) (h:p.rd 0 w.heap.size w) (hok:p.a.ok) (hr:r<p.reps.length) (hl:p.leader<0∨p.leader=r):dd aa ra [p.v,J (r:Nat)] w fun v w2=>v=.tuple #[.agg #[J 0,J 0,.slice none 0 0,.slice none 0 0,.slice none 0 0,J 0,J 0],J 8]/\Below w.heap.size w w2:=by
 refine aE tQ Z Z ?_
 obtain⟨hn1,hn2,hil,hkl,hf1,hf2,he0,he1,hl0,hl1,hb0,hb1,hsm⟩:=Pa.facts hok
 have hkn:=hok.known
 have hiC:=h.iC
 have hkC:=h.kC
 have hrC:=h.rC
 have hfew:=h.few
 have H:=Hp.startPa h
 obtain⟨ep,ld,isr,iA,iC,kn,kA,kC,reps,rA,rC,fw,bs⟩:=p
 simp only[Pa.a]at hkn
 dsimp only at H hn1 hn2 hil hkl hf1 hf2 he0 he1 hl0 hl1 hb0 hb1 hsm hiC hkC hrC hfew
 dsimp only at hr hl
 show CW _ _ _ _ (args [.agg #[J (ep),J (ld),.slice iA isr.length iC,.slice kA kn.length kC,.slice rA reps.length rC,J (fw),J (bs)],J (((r:Nat):Int))]) w
 refine W<|Zr<|fS H Z Z fun w1 b2 H=>eC H bo Z fun w2 b4 H=>G (Wi Z)<|U<|W<|Zr<|G (Zw aG H 1 Z Z Z)<|G (Yi Z)<|cd qJ (EY ⟨ep,ld,isr,iA,iC,kn,kA,kC,reps,rA,rC,fw,bs⟩ r _ (Hp.pa H 0 Z) hok hr hl) Z Z ?_
 rintro _ w3 ⟨rfl,hb⟩;replace H:=H.later hb;clear hb
 refine G (Yu Z)<|G (Xa Z Z)<|G (Xi Z Z)<|bl H 1 (#[J (0),J (0),.slice none 0 0,.slice none 0 0,.slice none 0 0,J (0),J (0)]) aL Z Z Z Z Z N N fun w4 H=>G (Wi Z)<|U<|W<|W<|Zr<|G (Yi Z)<|G (j9 Z Z (by decide))<|U<|ZT Z<|W<|Zr<|G (bj (cs:= #[J (0),J (0),.slice none 0 0,.slice none 0 0,.slice none 0 0,J (0),J (0)]) cL bo N)<|G (Yi Z)<|bl H 0 (#[J (0),J (0),.slice none 0 0,.slice none 0 0,.slice none 0 0,J (0),J (0)]) aL Z Z Z Z Z N N fun w5 H=>G (Wi Z)<|U<|Zt ?_
 exact bG (cs0:= #[J 0,J 0,.slice none 0 0,.slice none 0 0,.slice none 0 0,J 0,J 0]) (v1:=J 8) Z aG Z (H.ent (i:=0) Z) Z Z ⟨rfl,H.below⟩
theorem EZ (p:Pa) (r:Nat) (w:World) (h:p.rd 0 w.heap.size w) (hok:p.a.ok) (hr:r<p.reps.length) (hl:0<=p.leader) (hne:p.leader≠r):dd aa ra [p.v,J (r:Nat)] w fun v w2=> ∃ p':Pa,v=.tuple #[p'.v,J (fK p.a r).2]/\p'.a=(fK p.a r).1/\eo w w2 p':=by
 refine aE tQ Z Z ?_
 obtain⟨hn1,hn2,hil,hkl,hf1,hf2,he0,he1,hl0,hl1,hb0,hb1,hsm⟩:=Pa.facts hok
 have hkn:=hok.known
 have hiC:=h.iC
 have hkC:=h.kC
 have hrC:=h.rC
 have hfew:=h.few
 have H:=Hp.startPa h
 obtain⟨ep,ld,isr,iA,iC,kn,kA,kC,reps,rA,rC,fw,bs⟩:=p
 simp only[Pa.a]at hkn
 dsimp only at H hn1 hn2 hil hkl hf1 hf2 he0 he1 hl0 hl1 hb0 hb1 hsm hiC hkC hrC hfew
 dsimp only at hr hl hne
 show CW _ _ _ _ (args [.agg #[J (ep),J (ld),.slice iA isr.length iC,.slice kA kn.length kC,.slice rA reps.length rC,J (fw),J (bs)],J (((r:Nat):Int))]) w
 refine W<|Zr<|fS H Z Z fun w1 b2 H=>eC H bo Z fun w2 b4 H=>G (Wi Z)<|U<|W<|Zr<|G (Zw aG H 1 Z Z Z)<|G (Yi Z)<|cd qJ (HL ⟨ep,ld,isr,iA,iC,kn,kA,kC,reps,rA,rC,fw,bs⟩ r _ (Hp.pa H 0 Z) hok hr hl hne) Z Z ?_
 rintro _ w3 ⟨⟨ep2,ld2,is2,iA2,c1,kn2,kA2,c2,rs,rA2,c3,fw2,bs2⟩,g1,g2,g3,u1,u2,u3,rfl,ha2,ho⟩
 simp only[Pa.a,gD.mk.injEq]at ha2
 obtain⟨e1,e2,e3,e4,hma,e6,e7⟩:=ha2
 obtain rfl:ep=ep2:=e1.symm
 obtain rfl:ld=ld2:=e2.symm
 obtain rfl:isr=is2:=e3.symm
 obtain rfl:kn=kn2:=e4.symm
 obtain rfl:fw=fw2:=e6.symm
 obtain rfl:bs=bs2:=e7.symm
 have hrl:rs.length=reps.length:=by have:=congrArg cv hma;simpa using this
 obtain⟨i1,i2,i3,row1,row2,row3,hcp,hlos,-,hjn⟩:=ho
 dsimp only at i1 i2 i3 row1 row2 row3 hcp hlos hjn
 subst i1;subst i2;subst i3
 have hlo0:=H.size
 replace H:=H.joinF hjn (by intro f hf;obtain⟨r,hr,rfl⟩:=bv.1 hf;exact hlos r hr)
 replace hlos: ∀ r∈rs,w.heap.size<=r.lo:=fun r hr=>aT hlo0 (hlos r hr)
 clear hjn
 have hlg:=qj.of (F:=[C2 0 w.heap.size ⟨ep,ld,isr,iA,iC,kn,kA,kC,reps,rA,rC,fw,bs⟩,dG eV 0 w.heap.size iA isr,dG bS 0 w.heap.size kA kn,dG gd 0 w.heap.size rA reps]) hcp hlos
 have hok2: ∀ {i:Nat} {x:eW},rs[i]? =some x->GL x.es x.s/\0<=x.high/\x.high<=x.es.length:=fun hx=>wr hma hok hx
 obtain⟨x,hx⟩: ∃ x,rs[r]? =some x:=⟨_,ah I⟩
 have hxa:=vH hma hx
 refine G (Yu Z)<|G (Xa Z Z)<|G (Xi Z Z)<|bl H 4 (#[J (ep),J (ld),.slice (Qd g1) isr.length c1,.slice (Qd g2) kn.length c2,.slice (Qd g3) rs.length c3,J (fw),J (bs)]) aL Z Z Z Z Z N N fun w4 H=>G (Wi Z)<|U<|W<|W<|Zr<|G (Yi Z)<|G (bX Z Z Z)<|U<|ZF Z<|Zk<|W<|Zb<|W ?_
 obtain⟨b,hb⟩: ∃ b,isr[r]? =some b:=⟨_,ah I⟩
 have hneg: ¬ ld<0:=by omega
 obtain⟨l,hld⟩: ∃ l:Nat,ld=l:=⟨ld.toNat,by omega⟩
 obtain⟨y,hy⟩: ∃ y,rs[l]? =some y:=⟨_,ah I⟩
 refine Zr<|G (Zf fZ Z)<|G (Zd gI H 4 Z Z Z)<|G (Yi Z)<|G (cC d6 Z Z (by first|omega|(simp only[ab];omega))) ?_
 refine wu (bQ dR row1 hb 0 Z (H.ent (i:=0) Z) Z) Z Z Z (fun h22=> ?_) (fun h22=> ?_)
 refine G (Wb Z)<|U<|ZT Z<|W<|Zr<|G (bj (cs:= #[J (0),J (0),.slice none 0 0,.slice none 0 0,.slice none 0 0,J (0),J (0)]) cL bo N)<|bl H 3 (#[J (0),J (0),.slice none 0 0,.slice none 0 0,.slice none 0 0,J (0),J (0)]) aL Z Z Z Z Z N N fun w5 H=>G (Wi Z)<|U<|Zt ?_
 have hS:fK (Pa.a ⟨ep,ld,isr,iA,iC,kn,kA,kC,reps,rA,rC,fw,bs⟩) r=(gF,6):=by simp[fK,Pa.a,hneg,hne,hb,hxa,eW.a,h22]
 rw[hS]
 exact bG (cs0:= #[J 0,J 0,.slice none 0 0,.slice none 0 0,.slice none 0 0,J 0,J 0]) (v1:=J 6) Z aG Z (H.ent (i:=3) Z) Z Z ⟨zo,rfl,rfl,eo.zero H.below⟩
 refine G (Wb Z)<|U<|ZF Z<|W<|Zr<|G (Zf cP Z)<|G (Zd bR H 4 Z Z Z)<|G (Yi Z)<|G (cC bu Z Z (by first|omega|(simp only[ab];omega)))<|G (Zf ft Z) ?_
 refine wu (bQ dR row3 hx 0 Z (H.ent (i:=2) Z) Z) Z Z Z (fun h30=> ?_) (fun h30=> ?_)
 refine G (dO Z)<|G (Wb Z)<|U<|ZF Z<|W ?_
 obtain⟨kx,hkx⟩: ∃ kx,kn[r]? =some kx:=⟨_,ah I⟩
 refine bD bZ [0,1,2,3,4,5,6,7,8,9,10,11,12,13,14,15,16] [] [] [0,2,3,5,7,9,11,12,14,15,16] (sp []) N N N N Nq (cI _) ?_
 refine aw Z Z Z Z Z (fun w' hw'=>Zf fY Z)<|aw Z Z Z Z Z (fun w' hw'=>aV cr Z (aB ((H.later hw').ent (i:=4) Z) Z))<|aw Z Z Z Z Z (fun w' hw'=>Yi Z)<|aw Z Z Z Z Z (fun w' hw'=>cC aZ Z Z (by first|omega|(simp only[ab];omega)))<|aw Z Z Z Z Z (fun w' hw'=>bQ aj row2 hkx 0 Z ((H.later hw').ent (i:=1) Z) Z)<|aw Z Z Z Z Z (fun w' hw'=>Zf uz Z)<|aw Z Z Z Z Z (fun w' hw'=>aV aj Z (aB ((H.later hw').ent (i:=4) Z) Z))<|aw Z Z Z Z Z (fun w' hw'=>Zf cP Z)<|aw Z Z Z Z Z (fun w' hw'=>aV bR Z (aB ((H.later hw').ent (i:=4) Z) Z))<|aw Z Z Z Z Z (fun w' hw'=>Zf dr Z)<|aw Z Z Z Z Z (fun w' hw'=>aV aj Z (aB ((H.later hw').ent (i:=4) Z) Z))<|aw Z Z Z Z Z (fun w' hw'=>cC (k:=l) bu Z (congrArg (Value.int .i64) hld) (by first|omega|(simp only[ab];omega)))<|aw Z Z Z Z Z (fun w' hw'=>Zf dV Z)<|aw Z Z Z Z Z (fun w' hw'=>bQ aj row3 hy 3 Z ((H.later hw').ent (i:=2) Z) Z)<|aw Z Z Z Z Z (fun w' hw'=>zX Z Z) ?_
 refine Bi Z Z Z Z Z (fun w' hw'=>cG Z Z) (fun h49=> ?_) (fun h49=> ?_)
 refine aw Z Z Z Z Z (fun w' hw'=>Wb Z)<|aU ?_
 intro w6 hw' hF
 replace H:=H.later hw';clear hw' hF
 refine U<|ZT Z<|W<|Zr<|G (bj (cs:= #[J (0),J (0),.slice none 0 0,.slice none 0 0,.slice none 0 0,J (0),J (0)]) cL bo N)<|bl H 3 (#[J (0),J (0),.slice none 0 0,.slice none 0 0,.slice none 0 0,J (0),J (0)]) aL Z Z Z Z Z N N fun w7 H=>G (Wi Z)<|U<|Zt ?_
 have hho:sw (Pa.a ⟨ep,ld,isr,iA,iC,kn,kA,kC,reps,rA,rC,fw,bs⟩)=y.high:=by unfold sw;rw[show(Pa.a ⟨ep,ld,isr,iA,iC,kn,kA,kC,reps,rA,rC,fw,bs⟩).leader.toNat=l by show ld.toNat=l;omega,show(Pa.a ⟨ep,ld,isr,iA,iC,kn,kA,kC,reps,rA,rC,fw,bs⟩).reps[l]? =some y.a from vH hma hy];rfl
 have hkg:kn.getD r 0=kx:=by rw[bY,hkx];rfl
 simp only[Pa.a]at hho
 have hS:fK (Pa.a ⟨ep,ld,isr,iA,iC,kn,kA,kC,reps,rA,rC,fw,bs⟩) r=(gF,13):=by simp[fK,Pa.a,hneg,hne,hb,hxa,eW.a,h22,h30,hho,hkx,h49]
 rw[hS]
 exact bG (cs0:= #[J 0,J 0,.slice none 0 0,.slice none 0 0,.slice none 0 0,J 0,J 0]) (v1:=J 13) Z aG Z (H.ent (i:=3) Z) Z Z ⟨zo,rfl,rfl,eo.zero H.below⟩
 refine aw Z Z Z Z Z (fun w' hw'=>Wb Z)<|aU ?_
 intro w8 hw' hF
 replace H:=H.later hw';clear hw' hF
 refine U<|ZF Z<|Zk<|W<|Zr<|G (Zf fZ Z)<|G (Zd gI H 4 Z Z Z)<|G (Yi Z)<|G (cC d6 Z Z (by first|omega|(simp only[ab];omega)))<|kQ H 0 ((true)) iJ row1 hb 0 Z Z Z Z Z Z N fun w10 cur9 row9 H=> ?_
 have hs11:(isr.set r ((true)))[r]? =some ((true)):=am (cD hb).1
 refine U<|W<|Zr<|G (Zw aG H 4 Z Z Z)<|bl H 3 (#[J (ep),J (ld),.slice (Qd g1) isr.length c1,.slice (Qd g2) kn.length c2,.slice (Qd g3) rs.length c3,J (fw),J (bs)]) aL Z Z Z Z Z N N fun w12 H=>G (Wi Z)<|U<|Zt ?_
 have hho:sw (Pa.a ⟨ep,ld,isr,iA,iC,kn,kA,kC,reps,rA,rC,fw,bs⟩)=y.high:=by unfold sw;rw[show(Pa.a ⟨ep,ld,isr,iA,iC,kn,kA,kC,reps,rA,rC,fw,bs⟩).leader.toNat=l by show ld.toNat=l;omega,show(Pa.a ⟨ep,ld,isr,iA,iC,kn,kA,kC,reps,rA,rC,fw,bs⟩).reps[l]? =some y.a from vH hma hy];rfl
 have hkg:kn.getD r 0=kx:=by rw[bY,hkx];rfl
 simp only[Pa.a]at hho
 have hS:fK (Pa.a ⟨ep,ld,isr,iA,iC,kn,kA,kC,reps,rA,rC,fw,bs⟩) r=({Pa.a ⟨ep,ld,isr,iA,iC,kn,kA,kC,reps,rA,rC,fw,bs⟩with isr:=isr.set r true},0):=by simp[fK,Pa.a,hneg,hne,hb,hxa,eW.a,h22,h30,hho,hkx,show¬ kx<max bs y.high from h49]
 rw[hS]
 exact bG (cs0:= #[J (ep),J (ld),.slice (Qd g1) isr.length c1,.slice (Qd g2) kn.length c2,.slice (Qd g3) rs.length c3,J (fw),J (bs)]) (v1:=J 0) Z aG Z (H.ent (i:=3) Z) Z Z ⟨_,by simp[Pa.c],by simp[Pa.a,hma],(eo.mk_ (p:=⟨ep,ld,isr.set r true,some ⟨g1,0,none⟩,c1,kn,some ⟨g2,0,none⟩,c2,rs,some ⟨g3,0,none⟩,c3,fw,bs⟩) Z Z Z row9 row2 row3 hlg (by dsimp only;try simp only[ab,bJ];omega) H ⟨by simp,by simp,by simp⟩)⟩
 refine G (dO Z)<|G (Wb Z)<|U<|ZT Z<|W<|Zr<|G (bj (cs:= #[J (0),J (0),.slice none 0 0,.slice none 0 0,.slice none 0 0,J (0),J (0)]) cL bo N)<|bl H 3 (#[J (0),J (0),.slice none 0 0,.slice none 0 0,.slice none 0 0,J (0),J (0)]) aL Z Z Z Z Z N N fun w13 H=>G (Wi Z)<|U<|Zt ?_
 have hS:fK (Pa.a ⟨ep,ld,isr,iA,iC,kn,kA,kC,reps,rA,rC,fw,bs⟩) r=(gF,7):=by simp[fK,Pa.a,hneg,hne,hb,hxa,eW.a,h22,h30]
 rw[hS]
 exact bG (cs0:= #[J 0,J 0,.slice none 0 0,.slice none 0 0,.slice none 0 0,J 0,J 0]) (v1:=J 7) Z aG Z (H.ent (i:=3) Z) Z Z ⟨zo,rfl,rfl,eo.zero H.below⟩
theorem GB (p:Pa) (r:Nat) (w:World) (h:p.rd 0 w.heap.size w) (hok:p.a.ok) (hr:r<p.reps.length):dd aa qZ [p.v,J (r:Nat)] w fun v w2=> ∃ p':Pa,v=.tuple #[p'.v,J (gY p.a r).2]/\p'.a=(gY p.a r).1/\eo w w2 p':=by
 by_cases hl:p.leader<0∨p.leader=r
 have hS:gY p.a r=(gF,8):=by unfold gY;exact if_pos hl
 rw[hS]
 exact(EW p r w h hok hr hl).mono fun _ _ ⟨h1,h2⟩=>⟨zo,h1,rfl,eo.zero h2⟩
 exact EV p r w h hok hr I I
theorem GD (p:Pa) (r:Nat) (w:World) (h:p.rd 0 w.heap.size w) (hok:p.a.ok) (hr:r<p.reps.length):dd aa ra [p.v,J (r:Nat)] w fun v w2=> ∃ p':Pa,v=.tuple #[p'.v,J (fK p.a r).2]/\p'.a=(fK p.a r).1/\eo w w2 p':=by
 by_cases hl:p.leader<0∨p.leader=r
 have hS:fK p.a r=(gF,8):=by unfold fK;exact if_pos hl
 rw[hS]
 exact(E0 p r w h hok hr hl).mono fun _ _ ⟨h1,h2⟩=>⟨zo,h1,rfl,eo.zero h2⟩
 exact EZ p r w h hok hr I I
/-- how many of those that keep up are up -/
def Mp:List Bool->List RA->Int->Int
 |b::bs,y::ys,n=>Mp bs ys (if(b&&y.up)=true then n+1 else n)
 |_,_,n=>n
theorem C8 {isr:List Bool} {ys:List RA} {k:Nat} {b:Bool} {y:RA} {n:Int} (hb:isr[k]? =some b) (hy:ys[k]? =some y):Mp (isr.drop k) (ys.drop k) n=Mp (isr.drop (k+1)) (ys.drop (k+1)) (if(b&&y.up)=true then n+1 else n):=by
 rw[cN hb,cN hy]
 rfl
def eE (p:gD) (e:cH):gD×Int×Int:=if p.leader<0 then(gF,0,8)else match p.reps[p.leader.toNat]? with
 |none=>(gF,0,12)
 |some x=>if eG {e with epoch:=p.epoch}≠0 then(gF,0,eG {e with epoch:=p.epoch})else
  if(gM x.es {e with epoch:=p.epoch}).2≠0 then(gF,0,(gM x.es {e with epoch:=p.epoch}).2)else
  if 0<=(gM x.es {e with epoch:=p.epoch}).1 then(p,(gM x.es {e with epoch:=p.epoch}).1,0)else
  if Mp p.isr p.reps 0<p.few then(gF,0,9)else({p with reps:=p.reps.set p.leader.toNat {x with es:=x.es++[{e with epoch:=p.epoch}]}},(x.es.length:Nat),0)
theorem KR {es:List cH} {s:Nat} {x:cH} (h:GL es s) (hx:ql x) (hl:es.length<400): ¬ BE es x:=by
 have h1:=DW (es++[x]) (fun e he=>by
  rcases ar.1 he with he|he
  exact h.good e he
  rw[aq.1 he];exact hx)
 rw[kI,ay,ay]at h1
 simp only[bP]at h1
 unfold BE
 omega
theorem uY (l:mM) (x:cH) (w:World) (h:l.ok w) (hx:ql x) (hf:l.es.length<400):dd aa wA [.agg l.c.toArray,x.v] w fun v w2=> ∃ A' c',v=.tuple #[.agg #[.slice A' (bd (l.es++[x])).length c',J (fC (l.es++[x]) l.s:Nat)],J 0]/\(bd (l.es++[x])).length<=c'/\Rd dA w.heap.size w2.heap.size A' (bd (l.es++[x])) w2/\Below w.heap.size w w2:=
 (Di l x w h hx (KR h.gl hx hf)).mono fun _ _ ⟨A',c',h1,h2,h3⟩=>⟨A',c',h1,h2.2.1,h2.2.2,h3⟩
theorem vh {w:World} {b:Nat} {l:List UInt8} (h:w.heap[b]? =some (.cells #[.slice none 0 0,J 0] Bb (0,0))) (h0:0<l.length): ∃ (j:Nat) (u:Value),(dA.all l)[j]? =some u/\ ∀ k,w.cell? ⟨b,k,none⟩≠some u:=by
 obtain⟨x,l,rfl⟩: ∃ x t,l=x::t:=by cases l<;>simp at h0⊢
 refine⟨0,.int .u8 (x.toNat:Nat),rfl,fun k hk=> ?_⟩
 have:=Nr h hk
 simp at this
theorem y5 (p:Pa) (e:cH) (w:World) (h:p.rd 0 w.heap.size w) (hok:p.a.ok) (hroom: ∀ (l:Nat) (x:eW),p.leader=l->p.reps[l]? =some x->x.es.length<400):dd aa G1 [p.v,e.v] w fun v w2=> ∃ p':Pa,v=.tuple #[p'.v,J (eE p.a e).2.1,J (eE p.a e).2.2]/\p'.a=(eE p.a e).1/\eo w w2 p':=by
 refine aE FD Z Z ?_
 obtain⟨hn1,hn2,hil,hkl,hf1,hf2,he0,he1,hl0,hl1,hb0,hb1,hsm⟩:=Pa.facts hok
 have hkn:=hok.known
 have hiC:=h.iC
 have hkC:=h.kC
 have hrC:=h.rC
 have hfew:=h.few
 have H:=Hp.startPa h
 obtain⟨ep,ld,isr,iA,iC,kn,kA,kC,reps,rA,rC,fw,bs⟩:=p
 simp only[Pa.a]at hkn
 dsimp only at H hn1 hn2 hil hkl hf1 hf2 he0 he1 hl0 hl1 hb0 hb1 hsm hiC hkC hrC hfew
 dsimp only at hroom
 show CW _ _ _ _ (args [.agg #[J (ep),J (ld),.slice iA isr.length iC,.slice kA kn.length kC,.slice rA reps.length rC,J (fw),J (bs)],.agg #[J (e.epoch),J (e.pid),J (e.ver),J (e.seq),J (e.kind),.bool (e.txn),.string (e.text)]]) w
 refine W<|Zr<|fS H Z Z fun w1 b2 H=>fS H Z Z fun w2 b3 H=>eC H bo Z fun w3 b4 H=>G (Wi Z)<|G (Wi Z)<|U<|W<|W<|Zr<|G (Zw aG H 2 Z Z Z)<|cd lr (rD ⟨ep,ld,isr,iA,iC,kn,kA,kC,reps,rA,rC,fw,bs⟩ _ (Hp.pa H 0 Z) hok) Z Z ?_
 rintro _ w4 ⟨rfl,hb⟩;replace H:=H.later hb;clear hb
 refine G (Wi Z)<|U<|W<|Zr<|G (Yi Z)<|G (bX Z Z Z)<|U<|ZF Z<|Zk<|W<|W<|Zr<|G (Zf dr Z)<|G (Zd aj H 2 Z Z Z) ?_
 refine cR (cG Z Z) Z Z Z (fun h27=> ?_) (fun h27=> ?_)
 refine U<|ZT Z<|W<|Zr<|G (bj (cs:= #[J (0),J (0),.slice none 0 0,.slice none 0 0,.slice none 0 0,J (0),J (0)]) cL bo N)<|bl H 0 (#[J (0),J (0),.slice none 0 0,.slice none 0 0,.slice none 0 0,J (0),J (0)]) aL Z Z Z Z Z N N fun w5 H=>G (Wi Z)<|G (Wi Z)<|U<|Zt ?_
 have hS:eE (Pa.a ⟨ep,ld,isr,iA,iC,kn,kA,kC,reps,rA,rC,fw,bs⟩) e=(gF,0,8):=by unfold eE;exact if_pos h27
 rw[hS]
 exact gw (cs0:= #[J 0,J 0,.slice none 0 0,.slice none 0 0,.slice none 0 0,J 0,J 0]) (v1:=J (0)) (v2:=J (8)) Z aG Z (H.ent (i:=0) Z) Z Z Z ⟨zo,rfl,rfl,eo.zero H.below⟩
 refine U<|ZF Z<|Zk<|W ?_
 obtain⟨l,hld⟩: ∃ l:Nat,ld=l:=⟨ld.toNat,by omega⟩
 refine Zr<|G (Zw aG H 2 Z Z Z)<|cd mI (zL ⟨ep,ld,isr,iA,iC,kn,kA,kC,reps,rA,rC,fw,bs⟩ _ (Hp.pa H 0 Z) hok) Z Z ?_
 rintro _ w6 ⟨⟨ep2,ld2,is2,iA2,c1,kn2,kA2,c2,rs,rA2,c3,fw2,bs2⟩,g1,g2,g3,u1,u2,u3,rfl,ha2,ho⟩
 simp only[Pa.a,gD.mk.injEq]at ha2
 obtain⟨e1,e2,e3,e4,hma,e6,e7⟩:=ha2
 obtain rfl:ep=ep2:=e1.symm
 obtain rfl:ld=ld2:=e2.symm
 obtain rfl:isr=is2:=e3.symm
 obtain rfl:kn=kn2:=e4.symm
 obtain rfl:fw=fw2:=e6.symm
 obtain rfl:bs=bs2:=e7.symm
 have hrl:rs.length=reps.length:=by have:=congrArg cv hma;simpa using this
 obtain⟨i1,i2,i3,row1,row2,row3,hcp,hlos,-,hjn⟩:=ho
 dsimp only at i1 i2 i3 row1 row2 row3 hcp hlos hjn
 subst i1;subst i2;subst i3
 have hlo0:=H.size
 replace H:=H.joinF hjn (by intro f hf;obtain⟨r,hr,rfl⟩:=bv.1 hf;exact hlos r hr)
 replace hlos: ∀ r∈rs,w.heap.size<=r.lo:=fun r hr=>aT hlo0 (hlos r hr)
 clear hjn
 have hlg:=qj.of (F:=[C2 0 w.heap.size ⟨ep,ld,isr,iA,iC,kn,kA,kC,reps,rA,rC,fw,bs⟩,dG eV 0 w.heap.size iA isr,dG bS 0 w.heap.size kA kn,dG gd 0 w.heap.size rA reps]) hcp hlos
 have hok2: ∀ {i:Nat} {x:eW},rs[i]? =some x->GL x.es x.s/\0<=x.high/\x.high<=x.es.length:=fun hx=>wr hma hok hx
 obtain⟨x,hx⟩: ∃ x,rs[l]? =some x:=⟨_,ah I⟩
 have hxa:=vH hma hx
 refine bl H 5 (#[J (ep),J (ld),.slice (Qd g1) isr.length c1,.slice (Qd g2) kn.length c2,.slice (Qd g3) rs.length c3,J (fw),J (bs)]) aL Z Z Z Z Z N N fun w7 H=>U<|W<|Zr<|G (Zf cP Z)<|G (Zd bR H 5 Z Z Z)<|G (Zf dr Z)<|G (Zd aj H 5 Z Z Z)<|G (cC (k:=l) bu Z (congrArg (Value.int .i64) hld) (by first|omega|(simp only[ab];omega)))<|G (Wp Z)<|U<|W<|Zr<|G (Yp Z)<|G (aI Z)<|G (Zf dq Z)<|G (tE 1 [.slice x.A ((bd x.es).length) x.cap,J (((fC x.es x.s:Nat):Int))] eK row3 hx Z Z (H.ent (i:=2) Z) Z)<|cd fL (gb x.A x.cap x.es x.s _ (hlg.log H hx (hok2 hx).1)) Z Z ?_
 have hloen:=H.size
 rintro _ w8 ⟨Aen,cen,rfl,hren,hcen,hben⟩;replace H:=H.learnRd hben hren;clear hren hben
 refine G (Yu Z)<|G (Xs Z Z)<|G (Xi Z Z)<|G (Xi Z Z)<|G (Ws Z)<|G (Wi Z)<|G (Wi Z)<|U<|W<|Zr<|G (Zf pL Z)<|G (Zd aj H 5 Z Z Z)<|G (Zf nB Z)<|bl H 4 (#[J (ep),J (e.pid),J (e.ver),J (e.seq),J (e.kind),.bool (e.txn),.string (e.text)]) bI Z Z Z Z Z N N fun w9 H=>U<|W<|W<|Zr<|G (Zw dB H 4 Z Z Z)<|cd rt (xq {e with epoch:=ep} _) Z Z ?_
 rintro _ w10 ⟨rfl,hb⟩;replace H:=H.later hb;clear hb
 refine G (Wi Z)<|U<|W<|Zr<|G (Yi Z) ?_
 refine qU (i6 Z Z) Z Z Z (fun h51=> ?_) (fun h51=> ?_)
 refine U<|ZT Z<|W<|Zr<|G (bj (cs:= #[J (0),J (0),.slice none 0 0,.slice none 0 0,.slice none 0 0,J (0),J (0)]) cL bo N)<|G (Yi Z)<|bl H 3 (#[J (0),J (0),.slice none 0 0,.slice none 0 0,.slice none 0 0,J (0),J (0)]) aL Z Z Z Z Z N N fun w11 H=>G (Wi Z)<|G (Wi Z)<|U<|Zt ?_
 have hlr:(Pa.a ⟨ep,ld,isr,iA,iC,kn,kA,kC,reps,rA,rC,fw,bs⟩).reps[ld.toNat]? =some x.a:=by rw[show ld.toNat=l by omega];exact hxa
 have hS:eE (Pa.a ⟨ep,ld,isr,iA,iC,kn,kA,kC,reps,rA,rC,fw,bs⟩) e=(gF,0,eG {e with epoch:=ep}):=by unfold eE;rw[if_neg (show¬ (Pa.a ⟨ep,ld,isr,iA,iC,kn,kA,kC,reps,rA,rC,fw,bs⟩).leader<0 from by show¬ ld<0;omega),show(Pa.a ⟨ep,ld,isr,iA,iC,kn,kA,kC,reps,rA,rC,fw,bs⟩).leader.toNat=ld.toNat from rfl,hlr];simp[Pa.a,eW.a,h51]
 rw[hS]
 exact gw (cs0:= #[J 0,J 0,.slice none 0 0,.slice none 0 0,.slice none 0 0,J 0,J 0]) (v1:=J (0)) (v2:=J (eG {e with epoch:=ep})) Z aG Z (H.ent (i:=3) Z) Z Z Z ⟨zo,rfl,rfl,eo.zero H.below⟩
 refine U<|ZF Z<|Zk<|W<|Zr<|G (Ys Z)<|G (Zw dB H 4 Z Z Z)<|cd BW (Iu x.es Aen cen {e with epoch:=ep} _ (H.rd0 0 Z) (by have:=(hok2 hx).1.len;omega) (IG (hok2 hx).1.good)) Z Z ?_
 rintro _ w12 ⟨rfl,hb⟩;replace H:=H.later hb;clear hb
 refine G (Yu Z)<|G (Xi Z Z)<|G (Xi Z Z)<|G (Wi Z)<|G (Wi Z)<|U<|W<|W<|Zr<|G (Yi Z) ?_
 refine qU (i6 Z Z) Z Z Z (fun h61=> ?_) (fun h61=> ?_)
 refine U<|ZT Z<|W<|Zr<|G (bj (cs:= #[J (0),J (0),.slice none 0 0,.slice none 0 0,.slice none 0 0,J (0),J (0)]) cL bo N)<|G (Yi Z)<|bl H 3 (#[J (0),J (0),.slice none 0 0,.slice none 0 0,.slice none 0 0,J (0),J (0)]) aL Z Z Z Z Z N N fun w13 H=>G (Wi Z)<|G (Wi Z)<|U<|Zt ?_
 have hlr:(Pa.a ⟨ep,ld,isr,iA,iC,kn,kA,kC,reps,rA,rC,fw,bs⟩).reps[ld.toNat]? =some x.a:=by rw[show ld.toNat=l by omega];exact hxa
 have hS:eE (Pa.a ⟨ep,ld,isr,iA,iC,kn,kA,kC,reps,rA,rC,fw,bs⟩) e=(gF,0,(gM x.es {e with epoch:=ep}).2):=by unfold eE;rw[if_neg (show¬ (Pa.a ⟨ep,ld,isr,iA,iC,kn,kA,kC,reps,rA,rC,fw,bs⟩).leader<0 from by show¬ ld<0;omega),show(Pa.a ⟨ep,ld,isr,iA,iC,kn,kA,kC,reps,rA,rC,fw,bs⟩).leader.toNat=ld.toNat from rfl,hlr];simp[Pa.a,eW.a,h51,h61]
 rw[hS]
 exact gw (cs0:= #[J 0,J 0,.slice none 0 0,.slice none 0 0,.slice none 0 0,J 0,J 0]) (v1:=J (0)) (v2:=J ((gM x.es {e with epoch:=ep}).2)) Z aG Z (H.ent (i:=3) Z) Z Z Z ⟨zo,rfl,rfl,eo.zero H.below⟩
 refine U<|ZF Z<|Zk<|W<|W<|Zr<|G (Yi Z) ?_
 refine cR (ke Z Z) Z Z Z (fun h65=> ?_) (fun h65=> ?_)
 refine U<|ZT Z<|W<|Zr<|G (Zw aG H 5 Z Z Z)<|G (Yi Z)<|bl H 3 (#[J (ep),J (ld),.slice (Qd g1) isr.length c1,.slice (Qd g2) kn.length c2,.slice (Qd g3) rs.length c3,J (fw),J (bs)]) aL Z Z Z Z Z N N fun w14 H=>G (Wi Z)<|G (Wi Z)<|U<|Zt ?_
 have hlr:(Pa.a ⟨ep,ld,isr,iA,iC,kn,kA,kC,reps,rA,rC,fw,bs⟩).reps[ld.toNat]? =some x.a:=by rw[show ld.toNat=l by omega];exact hxa
 have hS:eE (Pa.a ⟨ep,ld,isr,iA,iC,kn,kA,kC,reps,rA,rC,fw,bs⟩) e=((Pa.a ⟨ep,ld,isr,iA,iC,kn,kA,kC,reps,rA,rC,fw,bs⟩),(gM x.es {e with epoch:=ep}).1,0):=by unfold eE;rw[if_neg (show¬ (Pa.a ⟨ep,ld,isr,iA,iC,kn,kA,kC,reps,rA,rC,fw,bs⟩).leader<0 from by show¬ ld<0;omega),show(Pa.a ⟨ep,ld,isr,iA,iC,kn,kA,kC,reps,rA,rC,fw,bs⟩).leader.toNat=ld.toNat from rfl,hlr];simp[Pa.a,eW.a,h51,h61,h65]
 rw[hS]
 exact gw (cs0:= #[J (ep),J (ld),.slice (Qd g1) isr.length c1,.slice (Qd g2) kn.length c2,.slice (Qd g3) rs.length c3,J (fw),J (bs)]) (v1:=J ((gM x.es {e with epoch:=ep}).1)) (v2:=J (0)) Z aG Z (H.ent (i:=3) Z) Z Z Z ⟨_,by simp[Pa.c],by simp[Pa.a,cy,hma,eW.a],(eo.mk_ (p:=⟨ep,ld,isr,some ⟨g1,0,none⟩,c1,kn,some ⟨g2,0,none⟩,c2,rs,some ⟨g3,0,none⟩,c3,fw,bs⟩) Z Z Z row1 row2 row3 hlg.cons (by dsimp only;first|omega|(simp only[ab,bJ];omega)) H ⟨by simp,by simp,by simp⟩)⟩
 refine U<|ZF Z<|Zk<|W<|Zr<|G (Wi Z)<|U<|W<|W<|Zr<|G (Zf cP Z)<|G (Zd bR H 5 Z Z Z)<|G (bn gf Z)<|G (Yi Z)<|U<|Zb ?_
 refine cf (τ:=Nat×Int) [15,16,17,71,72,73,74,75,76,77,78,79,80,81,82,83,84,85,86,87] (fun(k,n)=>[(71,J (k:Nat)),(15,J n)]) (fun(k,n) w'=>k<=rs.length/\(0<=n/\n<=k)/\Mp (isr.drop k) ((rs.map eW.a).drop k) n=Mp isr (rs.map eW.a) 0/\Hp w w' [(g1,.cells u1 jh (0,0)),(g2,.cells u2 cW (0,0)),(g3,.cells u3 fi (0,0)),(b4,.cells #[J (0),J (0),.slice none 0 0,.slice none 0 0,.slice none 0 0,J (0),J (0)] bz (0,0)),(b3,.cells #[J (ep),J (e.pid),J (e.ver),J (e.seq),J (e.kind),.bool (e.txn),.string (e.text)] dh (0,0)),(b2,.cells #[J (ep),J (ld),.slice (Qd g1) isr.length c1,.slice (Qd g2) kn.length c2,.slice (Qd g3) rs.length c3,J (fw),J (bs)] bz (0,0))] ([dG gz w7.heap.size w8.heap.size Aen x.es,C2 0 w.heap.size ⟨ep,ld,isr,iA,iC,kn,kA,kC,reps,rA,rC,fw,bs⟩,dG eV 0 w.heap.size iA isr,dG bS 0 w.heap.size kA kn,dG gd 0 w.heap.size rA reps]++sR rs)) (fun(k,_)=>rs.length-k) (0,0) ⟨by omega,by omega,rfl,H⟩ (kZ Z Z) ?_
 rintro⟨k,n⟩ ρ1 w15 ⟨hk,⟨hn0,hnk⟩,hm,H⟩
 show CW _ _ _ _ (dv (gk _ _ ρ1) [(71,J (k:Nat)),(15,J n)]) w15
 refine W<|Zr ?_
 refine cR (cG Z Z) Z Z Z (fun h72=> ?_) (fun h72=> ?_)
 refine U<|W<|ZT Z<|Zk<|W<|Zb<|W ?_
 obtain⟨y,hy⟩: ∃ y,rs[k]? =some y:=⟨_,ah I⟩
 obtain⟨b,hb⟩: ∃ b,isr[k]? =some b:=⟨_,ah I⟩
 refine Zr<|G (Yi Z)<|G (cC bu Z Z (by first|omega|(simp only[ab];omega)))<|G (oN lV row3 hy Z Z (H.ent (i:=2) Z))<|eC H m7 Z fun w16 b17 H=>G (Wi Z)<|bl H 0 (#[.bool (y.up),.slice y.A ((bd y.es).length) y.cap,J (((fC y.es y.s:Nat):Int)),J (y.high)]) j5 Z Z Z Z Z N N fun w17 H=>U<|W<|Zr<|G (Zf fZ Z)<|G (Zd gI H 6 Z Z Z)<|G (Yi Z)<|G (cC d6 Z Z (by first|omega|(simp only[ab];omega))) ?_
 refine wu (bQ dR row1 hb 0 Z (H.ent (i:=1) Z) Z) Z Z Z (fun h80=> ?_) (fun h80=> ?_)
 refine G (Yb Z)<|ZG<|G (Zf ft Z)<|ZG ?_
 refine wu (aV dR Z (aB (H.ent (i:=0) Z) Z)) Z Z Z (fun h83=> ?_) (fun h83=> ?_)
 refine G (Kt Z Z)<|U<|ZT Z<|Zr<|G (Yi Z)<|G (bp Z Z I I)<|G (Wi Z)<|U<|Zr<|G (bp Z Z I I)<|G (Yi Z)<|U ?_
 refine⟨(k+1,n+1),⟨by omega,by omega,by rw[<-hm,C8 hb (show(rs.map eW.a)[k]? =some y.a by rw[aM,hy];rfl)];simp[eW.a,h80,h83],H.forget (.cons _ (ap _)) (fun _ h=>h)⟩,kZ Z Z,Qg,by show rs.length- (k+1)<rs.length-k;omega⟩
 refine G (Kt Z Z)<|U<|ZF Z<|Zk<|Zr<|G (bp Z Z I I)<|G (Yi Z)<|U ?_
 refine⟨(k+1,n),⟨by omega,by omega,by rw[<-hm,C8 hb (show(rs.map eW.a)[k]? =some y.a by rw[aM,hy];rfl)];simp[eW.a,h80,h83],H.forget (.cons _ (ap _)) (fun _ h=>h)⟩,kZ Z Z,Qg,by show rs.length- (k+1)<rs.length-k;omega⟩
 refine G (Yb Z)<|ZN<|ZN<|G (N Z Z)<|U<|ZF Z<|Zk<|Zr<|G (bp Z Z I I)<|G (Yi Z)<|U ?_
 refine⟨(k+1,n),⟨by omega,by omega,by rw[<-hm,C8 hb (show(rs.map eW.a)[k]? =some y.a by rw[aM,hy];rfl)];simp[eW.a,h80],H.forget (.cons _ (ap _)) (fun _ h=>h)⟩,kZ Z Z,Qg,by show rs.length- (k+1)<rs.length-k;omega⟩
 have hke:k=rs.length:=by omega
 have hm2:n=Mp isr (rs.map eW.a) 0:=by rw[<-hm,eg (l:=isr) I];rfl
 refine U<|W<|ZF Z<|Zx<|W<|W<|Zr<|G (Yi Z)<|G (Zf xP Z)<|G (Zd aj H 5 Z Z Z) ?_
 refine cR (cG Z Z) Z Z Z (fun h91=> ?_) (fun h91=> ?_)
 refine U<|ZT Z<|W<|Zr<|G (bj (cs:= #[J (0),J (0),.slice none 0 0,.slice none 0 0,.slice none 0 0,J (0),J (0)]) cL bo N)<|bl H 3 (#[J (0),J (0),.slice none 0 0,.slice none 0 0,.slice none 0 0,J (0),J (0)]) aL Z Z Z Z Z N N fun w18 H=>G (Wi Z)<|G (Wi Z)<|U<|Zt ?_
 have hlr:(Pa.a ⟨ep,ld,isr,iA,iC,kn,kA,kC,reps,rA,rC,fw,bs⟩).reps[ld.toNat]? =some x.a:=by rw[show ld.toNat=l by omega];exact hxa
 have hS:eE (Pa.a ⟨ep,ld,isr,iA,iC,kn,kA,kC,reps,rA,rC,fw,bs⟩) e=(gF,0,9):=by unfold eE;rw[if_neg (show¬ (Pa.a ⟨ep,ld,isr,iA,iC,kn,kA,kC,reps,rA,rC,fw,bs⟩).leader<0 from by show¬ ld<0;omega),show(Pa.a ⟨ep,ld,isr,iA,iC,kn,kA,kC,reps,rA,rC,fw,bs⟩).leader.toNat=ld.toNat from rfl,hlr];simp[Pa.a,eW.a,h51,h61,h65,<-hma,<-hm2,h91]
 rw[hS]
 exact gw (cs0:= #[J 0,J 0,.slice none 0 0,.slice none 0 0,.slice none 0 0,J 0,J 0]) (v1:=J (0)) (v2:=J (9)) Z aG Z (H.ent (i:=3) Z) Z Z Z ⟨zo,rfl,rfl,eo.zero H.below⟩
 refine U<|ZF Z<|Zk<|W ?_
 have hgd:ql {e with epoch:=ep}:=by simpa [ql]using h51
 have hrm:x.es.length<400:=by obtain⟨z,hz⟩: ∃ z,reps[l]? =some z:=⟨_,ah I⟩;have h1:=hroom l z hld hz;have h2:=hxa;rw[aM,hz]at h2;injection h2 with h2;have h3:z.es=x.es:=congrArg RA.es h2;rw[<-h3];exact h1
 have hlo:=H.size
 refine bD bZ [0,1,2,3,4,5,6,7,8,9] [10,11] [5,9] [0,1,2,6,7,8] (sp [(5,Sp.nrow w15.heap.size dA (bd (x.es++[{e with epoch:=ep}])) (fun A c=> .tuple #[.agg #[.slice A (bd (x.es++[{e with epoch:=ep}])).length c,J (fC (x.es++[{e with epoch:=ep}]) x.s:Nat)],J 0])),(9,Sp.blk w15.heap.size (.agg #[.slice none 0 0,J 0]) Bb)]) N N N N Nq (cI _) ?_
 refine aw Z Z Z Z Z (fun w' hw'=>Yp Z)<|aw Z Z Z Z Z (fun w' hw'=>aI Z)<|aw Z Z Z Z Z (fun w' hw'=>Zf dq Z)<|aw Z Z Z Z Z (fun w' hw'=>tE 1 [.slice x.A ((bd x.es).length) x.cap,J (((fC x.es x.s:Nat):Int))] eK row3 hx Z Z ((H.later hw').ent (i:=2) Z) Z)<|aw Z Z Z Z Z (fun w' hw'=>iP dB Z ((H.later hw').ent (i:=4) Z) Z)<|Hl (gv:=(fun A c=> .tuple #[.agg #[.slice A (bd (x.es++[{e with epoch:=ep}])).length c,J (fC (x.es++[{e with epoch:=ep}]) x.s:Nat)],J 0])) vi Z Z Z Z Z (fun w' hw'=>hw'.size) (fun w' hw'=>uY (eW.log x) {e with epoch:=ep} w' ((hlg.cons (f:=dG gz w7.heap.size w8.heap.size Aen x.es)).log (H.later hw') hx (hok2 hx).1) hgd hrm) Z fun A99 c99 hc99=>aw Z Z Z Z Z (fun w' hw'=>Yu Z)<|aw Z Z Z Z Z (fun w' hw'=>Xa Z Z)<|aw Z Z Z Z Z (fun w' hw'=>Xi Z Z)<|xd pM Z Z Z Z Z (fun w' hw'=>hw'.size) fun b18=>aU ?_
 intro w19 hw' hF
 obtain⟨hF,bq,eq,hge18,hbl18⟩:=hF;cases eq
 obtain⟨hF,Aq,cq,eq,hcq,hrw99⟩:=hF;cases eq;clear hcq
 have Hb:=H
 replace H:=H.adoptNew hw' hbl18 hge18
 obtain⟨lo99,hi99,hlo99,H'⟩:=Hb.learnApart H hw'.size hrw99 (vh hbl18);replace H:=H';clear H'
 clear hw' hF
 refine bl H 0 (#[.slice A99 ((bd (x.es++[{e with epoch:=ep}])).length) c99,J (((fC (x.es++[{e with epoch:=ep}]) x.s:Nat):Int))]) ja Z Z Z Z Z N N fun w20 H=>G (Wi Z)<|U<|W<|W<|Zr<|G (Yi Z)<|G (bX Z Z Z)<|U<|ZF Z<|Zk<|W<|Zr<|G (Yp Z)<|G (Zw eK H 0 Z Z Z)<|G (aI Z)<|G (Zf dq Z)<|kQ H 3 ({x with A:=A99,cap:=c99,es:=(x.es++[{e with epoch:=ep}]),lo:=lo99,hi:=hi99}) ja row3 hx 1 Z Z Z Z Z Z N fun w22 cur21 row21 H=> ?_
 have hs23:(rs.set l ({x with A:=A99,cap:=c99,es:=(x.es++[{e with epoch:=ep}]),lo:=lo99,hi:=hi99}))[l]? =some ({x with A:=A99,cap:=c99,es:=(x.es++[{e with epoch:=ep}]),lo:=lo99,hi:=hi99}):=am (cD hx).1
 refine U<|W ?_
 have hlg1:=((hlg.cons (f:=dG gz w7.heap.size w8.heap.size Aen x.es)).cons (f:=dG dA lo99 hi99 A99 (bd (x.es++[{e with epoch:=ep}])))).set l (x:={x with A:=A99,cap:=c99,es:=(x.es++[{e with epoch:=ep}]),lo:=lo99,hi:=hi99}) ⟨hc99,aT hlo hlo99,fF _⟩
 refine Zr<|G (Zw aG H 6 Z Z Z)<|G (Ys Z)<|G (bn eh Z)<|bl H 4 (#[J (ep),J (ld),.slice (Qd g1) isr.length c1,.slice (Qd g2) kn.length c2,.slice (Qd g3) rs.length c3,J (fw),J (bs)]) aL Z Z Z Z Z N N fun w24 H=>G (Wi Z)<|G (Wi Z)<|U<|Zt ?_
 have hlr:(Pa.a ⟨ep,ld,isr,iA,iC,kn,kA,kC,reps,rA,rC,fw,bs⟩).reps[ld.toNat]? =some x.a:=by rw[show ld.toNat=l by omega];exact hxa
 have hS:eE (Pa.a ⟨ep,ld,isr,iA,iC,kn,kA,kC,reps,rA,rC,fw,bs⟩) e=({(Pa.a ⟨ep,ld,isr,iA,iC,kn,kA,kC,reps,rA,rC,fw,bs⟩)with reps:=(reps.map eW.a).set ld.toNat {x.a with es:=(x.es++[{e with epoch:=ep}])}},((x.es.length:Nat):Int),0):=by unfold eE;rw[if_neg (show¬ (Pa.a ⟨ep,ld,isr,iA,iC,kn,kA,kC,reps,rA,rC,fw,bs⟩).leader<0 from by show¬ ld<0;omega),show(Pa.a ⟨ep,ld,isr,iA,iC,kn,kA,kC,reps,rA,rC,fw,bs⟩).leader.toNat=ld.toNat from rfl,hlr];simp[Pa.a,eW.a,h51,h61,h65,<-hma,<-hm2,h91]
 rw[hS]
 exact gw (cs0:= #[J (ep),J (ld),.slice (Qd g1) isr.length c1,.slice (Qd g2) kn.length c2,.slice (Qd g3) rs.length c3,J (fw),J (bs)]) (v1:=J (((x.es.length:Nat):Int))) (v2:=J (0)) Z aG Z (H.ent (i:=4) Z) Z Z Z ⟨_,by simp[Pa.c],by simp[Pa.a,cy,hma,eW.a,show ld.toNat=l by omega],(eo.mk_ (p:=⟨ep,ld,isr,some ⟨g1,0,none⟩,c1,kn,some ⟨g2,0,none⟩,c2,rs.set l {x with A:=A99,cap:=c99,es:=(x.es++[{e with epoch:=ep}]),lo:=lo99,hi:=hi99},some ⟨g3,0,none⟩,c3,fw,bs⟩) Z Z Z row1 row2 row21 hlg1 (by dsimp only;first|omega|(simp only[ab,bJ];omega)) H ⟨by simp,by simp,by simp⟩)⟩
/-- so many entries are alike, by the times of their leaders -/
def ed:List cH->List cH->Nat
 |a::l,b::m=>if a.epoch=b.epoch then ed l m+1 else 0
 |_,_=>0
theorem uo: ∀ (a b:List cH),ed a b<=a.length/\ed a b<=b.length
 |[],_=>by simp[ed]
 |_::_,[]=>by simp[ed]
 |a::l,b::m=>by
  have:=uo l m
  unfold ed
  split
  simp;omega
  simp
theorem E9 {a b:List cH} {n:Nat} {x y:cH} (hx:a[n]? =some x) (hy:b[n]? =some y) (h:x.epoch=y.epoch):ed (a.drop n) (b.drop n)=ed (a.drop (n+1)) (b.drop (n+1))+1:=by
 rw[cN hx,cN hy]
 exact if_pos h
theorem E8 {a b:List cH} {n:Nat} {x y:cH} (hx:a[n]? =some x) (hy:b[n]? =some y) (h: ¬ x.epoch=y.epoch):ed (a.drop n) (b.drop n)=0:=by
 rw[cN hx,cN hy]
 exact if_neg h
theorem zY {a b:List cH} {n:Nat} (h:a.length<=n∨b.length<=n):ed (a.drop n) (b.drop n)=0:=by
 rcases h with h|h
 rw[eg h];rfl
 rw[eg (l:=b) h];cases(a.drop n)<;>rfl
def jX (x y:RA) (hl:Int):RA×Int:=match y.es[ed x.es y.es]? with
 |some z=>(⟨x.up,x.es.take (ed x.es y.es)++[z],min x.s (ed x.es y.es),min (max x.high hl) ((ed x.es y.es:Nat)+1)⟩,1)
 |none=>(⟨x.up,x.es.take (ed x.es y.es),min x.s (ed x.es y.es),min (max x.high hl) (ed x.es y.es:Nat)⟩,0)
def iX (p:gD) (r:Nat):gD×Int×Int:=match p.reps[r]? with
 |none=>(gF,0,5)
 |some x=>if p.leader<0∨p.leader=r then(gF,0,8)else if x.up=false then(gF,0,7)else match p.reps[p.leader.toNat]? with
  |none=>(gF,0,12)
  |some y=>let kn:=p.known.set r (min x.s (ed x.es y.es):Nat)
   let hl:=max y.high (min (du p.isr kn 400) y.es.length)
   ({p with known:=kn,reps:=(p.reps.set p.leader.toNat {y with high:=hl}).set r (jX x y hl).1},(jX x y hl).2,0)
theorem uy {p:gD} {r l:Nat} {x y:RA} (hx:p.reps[r]? =some x) (hl:p.leader=l) (hne:r≠l) (hu:x.up=true) (hy:p.reps[l]? =some y):iX p r=({p with known:=p.known.set r (min x.s (ed x.es y.es):Nat),reps:=(p.reps.set l {y with high:=max y.high (min (du p.isr (p.known.set r (min x.s (ed x.es y.es):Nat)) 400) y.es.length)}).set r (jX x y (max y.high (min (du p.isr (p.known.set r (min x.s (ed x.es y.es):Nat)) 400) y.es.length))).1},(jX x y (max y.high (min (du p.isr (p.known.set r (min x.s (ed x.es y.es):Nat)) 400) y.es.length))).2,0):=by
 have h1:p.leader.toNat=l:=by omega
 unfold iX
 rw[hx];dsimp only
 rw[if_neg I,if_neg (by simp[hu]),h1,hy]
theorem Gs (l:mM) (n:Nat) (w:World) (h:l.ok w) (hn:n<=l.es.length):dd aa CC [.agg l.c.toArray,J (n:Nat)] w fun v w2=> ∃ A' c',v=.tuple #[.agg #[.slice A' (bd (l.es.take n)).length c',J (fC (l.es.take n) (min l.s n):Nat)],J 0]/\(bd (l.es.take n)).length<=c'/\Rd dA w.heap.size w2.heap.size A' (bd (l.es.take n)) w2/\Below w.heap.size w w2:=
 (IL l n w h hn).mono fun _ _ ⟨A',c',h1,h2,h3⟩=>⟨A',c',h1,h2.2.1,h2.2.2,h3⟩
theorem IY (p:Pa) (r:Nat) (w:World) (h:p.rd 0 w.heap.size w) (hok:p.a.ok) (hr:r<p.reps.length):dd aa Dy [p.v,J (r:Nat)] w fun v w2=> ∃ p':Pa,v=.tuple #[p'.v,J (iX p.a r).2.1,J (iX p.a r).2.2]/\p'.a=(iX p.a r).1/\eo w w2 p':=by
 refine aE BI Z Z ?_
 obtain⟨hn1,hn2,hil,hkl,hf1,hf2,he0,he1,hl0,hl1,hb0,hb1,hsm⟩:=Pa.facts hok
 have hkn:=hok.known
 have hiC:=h.iC
 have hkC:=h.kC
 have hrC:=h.rC
 have hfew:=h.few
 have H:=Hp.startPa h
 obtain⟨ep,ld,isr,iA,iC,kn,kA,kC,reps,rA,rC,fw,bs⟩:=p
 simp only[Pa.a]at hkn
 dsimp only at H hn1 hn2 hil hkl hf1 hf2 he0 he1 hl0 hl1 hb0 hb1 hsm hiC hkC hrC hfew
 dsimp only at hr
 show CW _ _ _ _ (args [.agg #[J (ep),J (ld),.slice iA isr.length iC,.slice kA kn.length kC,.slice rA reps.length rC,J (fw),J (bs)],J (((r:Nat):Int))]) w
 refine W<|Zr<|fS H Z Z fun w1 b2 H=>eC H bo Z fun w2 b4 H=>G (Wi Z)<|G (Wi Z)<|U<|W<|Zr<|G (Zw aG H 1 Z Z Z)<|G (Yi Z)<|cd ku (tw ⟨ep,ld,isr,iA,iC,kn,kA,kC,reps,rA,rC,fw,bs⟩ r _ (Hp.pa H 0 Z) hok hr) Z Z ?_
 rintro _ w3 ⟨⟨ep2,ld2,is2,iA2,c1,kn2,kA2,c2,rs,rA2,c3,fw2,bs2⟩,g1,g2,g3,u1,u2,u3,rfl,ha2,ho⟩
 simp only[Pa.a,gD.mk.injEq]at ha2
 obtain⟨e1,e2,e3,e4,hma,e6,e7⟩:=ha2
 obtain rfl:ep=ep2:=e1.symm
 obtain rfl:ld=ld2:=e2.symm
 obtain rfl:isr=is2:=e3.symm
 obtain rfl:kn=kn2:=e4.symm
 obtain rfl:fw=fw2:=e6.symm
 obtain rfl:bs=bs2:=e7.symm
 have hrl:rs.length=reps.length:=by have:=congrArg cv hma;simpa using this
 obtain⟨i1,i2,i3,row1,row2,row3,hcp,hlos,-,hjn⟩:=ho
 dsimp only at i1 i2 i3 row1 row2 row3 hcp hlos hjn
 subst i1;subst i2;subst i3
 have hlo0:=H.size
 replace H:=H.joinF hjn (by intro f hf;obtain⟨r,hr,rfl⟩:=bv.1 hf;exact hlos r hr)
 replace hlos: ∀ r∈rs,w.heap.size<=r.lo:=fun r hr=>aT hlo0 (hlos r hr)
 clear hjn
 have hlg:=qj.of (F:=[C2 0 w.heap.size ⟨ep,ld,isr,iA,iC,kn,kA,kC,reps,rA,rC,fw,bs⟩,dG eV 0 w.heap.size iA isr,dG bS 0 w.heap.size kA kn,dG gd 0 w.heap.size rA reps]) hcp hlos
 have hok2: ∀ {i:Nat} {x:eW},rs[i]? =some x->GL x.es x.s/\0<=x.high/\x.high<=x.es.length:=fun hx=>wr hma hok hx
 obtain⟨x,hx⟩: ∃ x,rs[r]? =some x:=⟨_,ah I⟩
 have hxa:=vH hma hx
 refine G (Yu Z)<|G (Xa Z Z)<|G (Xi Z Z)<|bl H 4 (#[J (ep),J (ld),.slice (Qd g1) isr.length c1,.slice (Qd g2) kn.length c2,.slice (Qd g3) rs.length c3,J (fw),J (bs)]) aL Z Z Z Z Z N N fun w4 H=>G (Wi Z)<|U<|W<|W<|Zr<|G (Yi Z)<|G (bX Z Z Z)<|U<|ZF Z<|Zk<|W<|W<|Zr<|G (Zf dr Z)<|G (Zd aj H 4 Z Z Z) ?_
 refine cR (cG Z Z) Z Z Z (fun h31=> ?_) (fun h31=> ?_)
 refine G (Yb Z)<|ZN<|ZN<|ZN<|ZN<|G (Kt Z Z)<|U<|ZT Z<|W<|Zr<|G (bj (cs:= #[J (0),J (0),.slice none 0 0,.slice none 0 0,.slice none 0 0,J (0),J (0)]) cL bo N)<|bl H 3 (#[J (0),J (0),.slice none 0 0,.slice none 0 0,.slice none 0 0,J (0),J (0)]) aL Z Z Z Z Z N N fun w5 H=>G (Wi Z)<|G (Wi Z)<|U<|Zt ?_
 have hS:iX (Pa.a ⟨ep,ld,isr,iA,iC,kn,kA,kC,reps,rA,rC,fw,bs⟩) r=(gF,0,8):=by simp[iX,Pa.a,hxa,eW.a,show ld<0∨ld=(r:Int) by omega]
 rw[hS]
 exact gw (cs0:= #[J 0,J 0,.slice none 0 0,.slice none 0 0,.slice none 0 0,J 0,J 0]) (v1:=J 0) (v2:=J 8) Z aG Z (H.ent (i:=3) Z) Z Z Z ⟨zo,rfl,rfl,eo.zero H.below⟩
 refine G (Yb Z)<|ZG<|G (Zf dr Z)<|ZG<|G (Zd aj H 4 Z Z Z)<|ZG<|G (Yi Z)<|ZG ?_
 refine cR (bh Z Z) Z Z Z (fun h36=> ?_) (fun h36=> ?_)
 refine G (N Z Z)<|U<|ZT Z<|W<|Zr<|G (bj (cs:= #[J (0),J (0),.slice none 0 0,.slice none 0 0,.slice none 0 0,J (0),J (0)]) cL bo N)<|bl H 3 (#[J (0),J (0),.slice none 0 0,.slice none 0 0,.slice none 0 0,J (0),J (0)]) aL Z Z Z Z Z N N fun w6 H=>G (Wi Z)<|G (Wi Z)<|U<|Zt ?_
 have hS:iX (Pa.a ⟨ep,ld,isr,iA,iC,kn,kA,kC,reps,rA,rC,fw,bs⟩) r=(gF,0,8):=by simp[iX,Pa.a,hxa,eW.a,show ld<0∨ld=(r:Int) by omega]
 rw[hS]
 exact gw (cs0:= #[J 0,J 0,.slice none 0 0,.slice none 0 0,.slice none 0 0,J 0,J 0]) (v1:=J 0) (v2:=J 8) Z aG Z (H.ent (i:=3) Z) Z Z Z ⟨zo,rfl,rfl,eo.zero H.below⟩
 refine G (N Z Z)<|U<|ZF Z<|Zk<|W ?_
 obtain⟨l,hld⟩: ∃ l:Nat,ld=l:=⟨ld.toNat,by omega⟩
 have hrl1:r≠l:=by omega
 have hrl2:=hrl1
 obtain⟨y,hy⟩: ∃ y,rs[l]? =some y:=⟨_,ah I⟩
 refine Zr<|G (Zf cP Z)<|G (Zd bR H 4 Z Z Z)<|G (Yi Z)<|G (cC bu Z Z (by first|omega|(simp only[ab];omega)))<|G (Wp Z)<|U<|W<|W<|Zr<|G (Yp Z)<|G (aI Z)<|G (Zf ft Z) ?_
 refine wu (bQ dR row3 hx 0 Z (H.ent (i:=2) Z) Z) Z Z Z (fun h46=> ?_) (fun h46=> ?_)
 refine G (dO Z)<|U<|ZF Z<|Zk<|W<|Zr<|G (Zf cP Z)<|G (Zd bR H 4 Z Z Z)<|G (Zf dr Z)<|G (Zd aj H 4 Z Z Z)<|G (cC (k:=l) bu Z (congrArg (Value.int .i64) hld) (by first|omega|(simp only[ab];omega)))<|G (Zf dq Z)<|G (tE 1 [.slice y.A ((bd y.es).length) y.cap,J (((fC y.es y.s:Nat):Int))] eK row3 hy Z Z (H.ent (i:=2) Z) Z)<|cd fL (gb y.A y.cap y.es y.s _ (hlg.log H hy (hok2 hy).1)) Z Z ?_
 have hloth:=H.size
 rintro _ w7 ⟨Ath,cth,rfl,hrth,hcth,hbth⟩;replace H:=H.learnRd hbth hrth;clear hrth hbth
 refine G (Yu Z)<|G (Xs Z Z)<|G (Xi Z Z)<|G (Xi Z Z)<|G (Ws Z)<|G (Wi Z)<|G (Wi Z)<|U<|W<|Zr<|G (Yp Z)<|G (aI Z)<|G (Zf dq Z)<|G (tE 1 [.slice x.A ((bd x.es).length) x.cap,J (((fC x.es x.s:Nat):Int))] eK row3 hx Z Z (H.ent (i:=2) Z) Z)<|cd fL (gb x.A x.cap x.es x.s _ ((hlg.cons (f:=dG gz w4.heap.size w7.heap.size Ath y.es)).log H hx (hok2 hx).1)) Z Z ?_
 have hlomi:=H.size
 rintro _ w8 ⟨Ami,cmi,rfl,hrmi,hcmi,hbmi⟩;replace H:=H.learnRd hbmi hrmi;clear hrmi hbmi
 refine G (Yu Z)<|G (Xs Z Z)<|G (Xi Z Z)<|G (Xi Z Z)<|G (Ws Z)<|G (Wi Z)<|G (Wi Z)<|U<|W<|Zr<|G (Wi Z)<|U<|W ?_
 obtain⟨n,hmn⟩: ∃ n,ed x.es y.es=n:=⟨_,rfl⟩
 have hnx:n<=x.es.length:=hmn▸(uo x.es y.es).1
 have hny:n<=y.es.length:=hmn▸(uo x.es y.es).2
 have hlg2:=(hlg.cons (f:=dG gz w4.heap.size w7.heap.size Ath y.es)).cons (f:=dG gz w7.heap.size w8.heap.size Ami x.es)
 refine eu (τ:=Unit) [15,70,71,72,73,74,75,76,77,78,79,80,81,82,83,84,85,86,87,88,89,90,91,92,93,94] (fun _=>[(15,J ((n:Nat):Int))]) (fun _ w'=>Hp w w' [(g1,.cells u1 jh (0,0)),(g2,.cells u2 cW (0,0)),(g3,.cells u3 fi (0,0)),(b4,.cells #[J (0),J (0),.slice none 0 0,.slice none 0 0,.slice none 0 0,J (0),J (0)] bz (0,0)),(b2,.cells #[J (ep),J (ld),.slice (Qd g1) isr.length c1,.slice (Qd g2) kn.length c2,.slice (Qd g3) rs.length c3,J (fw),J (bs)] bz (0,0))] ([dG gz w7.heap.size w8.heap.size Ami x.es,dG gz w4.heap.size w7.heap.size Ath y.es,C2 0 w.heap.size ⟨ep,ld,isr,iA,iC,kn,kA,kC,reps,rA,rC,fw,bs⟩,dG eV 0 w.heap.size iA isr,dG bS 0 w.heap.size kA kn,dG gd 0 w.heap.size rA reps]++sR rs)) ?_ ?_
 refine Zb ?_
 refine cf (τ:=Nat) [15,70,71,72,73,74,75,76,77,78,79,80,81,82,83,84,85,86,87,88,89,90,91,92,93,94] (fun j=>[(15,J (j:Nat))]) (fun j w'=>j<=x.es.length/\j<=y.es.length/\ed x.es y.es=j+ed (x.es.drop j) (y.es.drop j)/\Hp w w' [(g1,.cells u1 jh (0,0)),(g2,.cells u2 cW (0,0)),(g3,.cells u3 fi (0,0)),(b4,.cells #[J (0),J (0),.slice none 0 0,.slice none 0 0,.slice none 0 0,J (0),J (0)] bz (0,0)),(b2,.cells #[J (ep),J (ld),.slice (Qd g1) isr.length c1,.slice (Qd g2) kn.length c2,.slice (Qd g3) rs.length c3,J (fw),J (bs)] bz (0,0))] ([dG gz w7.heap.size w8.heap.size Ami x.es,dG gz w4.heap.size w7.heap.size Ath y.es,C2 0 w.heap.size ⟨ep,ld,isr,iA,iC,kn,kA,kC,reps,rA,rC,fw,bs⟩,dG eV 0 w.heap.size iA isr,dG bS 0 w.heap.size kA kn,dG gd 0 w.heap.size rA reps]++sR rs)) (fun j=>x.es.length-j) 0 ⟨by omega,by omega,by simp,H⟩ (dF Z) ?_
 rintro j ρ1 w9 ⟨hj1,hj2,hj,H⟩
 have hyl:=(hok2 hy).1.len
 show CW _ _ _ _ (dv (gk _ _ ρ1) [(15,J (j:Nat))]) w9
 refine W<|W ?_
 refine bD bZ [0,1,2,3,4,5,6,7,8,9,10,11,12,13,14,15,16,17,18,19,20,21,22] [] [] [0,1,2,3,4,5,6,7,8,9,10,11,12,13,14,16,17,18,19,21,22] (sp []) N N N N Nq (cI _) ?_
 refine aw Z Z Z Z Z (fun w' hw'=>Yi Z)<|aw Z Z Z Z Z (fun w' hw'=>Ys Z)<|aw Z Z Z Z Z (fun w' hw'=>bn eh Z) ?_
 refine Bi Z Z Z Z Z (fun w' hw'=>cG Z Z) (fun h73=> ?_) (fun h73=> ?_)
 refine aw Z Z Z Z Z (fun w' hw'=>Yb Z)<|aw Z Z Z Z Z (fun w' hw'=>Yi Z)<|aw Z Z Z Z Z (fun w' hw'=>Ys Z)<|aw Z Z Z Z Z (fun w' hw'=>bn eh Z) ?_
 refine Bi Z Z Z Z Z (fun w' hw'=>cG Z Z) (fun h78=> ?_) (fun h78=> ?_)
 refine aw Z Z Z Z Z (fun w' hw'=>Kt Z Z)<|aw Z Z Z Z Z (fun w' hw'=>Yb Z)<|aw Z Z Z Z Z (fun w' hw'=>Ys Z)<|aw Z Z Z Z Z (fun w' hw'=>Yi Z)<|qg H 0 Z Z Z Z Z dN Z Z I I fun b10 o10 x10 e10=>aw Z Z Z Z Z (fun w' hw'=>Zf nB Z)<|aw Z Z Z Z Z (fun w' hw'=>aV aj Z (e10.later hw' 0 _ Z))<|aw Z Z Z Z Z (fun w' hw'=>Ys Z)<|aw Z Z Z Z Z (fun w' hw'=>Yi Z)<|qg H 1 Z Z Z Z Z dN Z Z I I fun b11 o11 x11 e11=>aw Z Z Z Z Z (fun w' hw'=>Zf nB Z)<|aw Z Z Z Z Z (fun w' hw'=>aV aj Z (e11.later hw' 0 _ Z)) ?_
 refine Bi Z Z Z Z Z (fun w' hw'=>bh Z Z) (fun h91=> ?_) (fun h91=> ?_)
 refine aw Z Z Z Z Z (fun w' hw'=>Kt Z Z)<|aU ?_
 intro w12 hw' hF
 replace H:=H.later hw';clear hw' hF
 refine U<|ZT Z<|Zk<|Zb<|Zr<|G (Yi Z)<|G (bp Z Z I I)<|G (Wi Z)<|U ?_
 refine⟨j+1,⟨by omega,by omega,by rw[hj,E9 e10.at_ e11.at_ h91];omega,H⟩,dF Z,Qg,by show x.es.length- (j+1)<x.es.length-j;omega⟩
 refine aw Z Z Z Z Z (fun w' hw'=>Kt Z Z)<|aU ?_
 intro w13 hw' hF
 replace H:=H.later hw';clear hw' hF
 refine U<|ZF Z<|Zx ?_
 have hjn:j=n:=by rw[<-hmn,hj];rw[E8 e10.at_ e11.at_ h91];rfl
 exact⟨(),H,dF (by rw[<-hjn];rfl),Qg⟩
 refine aw Z Z Z Z Z (fun w' hw'=>Kt Z Z)<|aw Z Z Z Z Z (fun w' hw'=>Yb Z)<|eU Z Z Z Z<|eU Z Z Z Z<|eU Z Z Z Z<|eU Z Z Z Z<|eU Z Z Z Z<|eU Z Z Z Z<|eU Z Z Z Z<|eU Z Z Z Z<|eU Z Z Z Z<|eU Z Z Z Z<|eU Z Z Z Z<|aw Z Z Z Z Z (fun w' hw'=>N Z Z)<|aU ?_
 intro w14 hw' hF
 replace H:=H.later hw';clear hw' hF
 refine U<|ZF Z<|Zx ?_
 have hjn:j=n:=by rw[<-hmn,hj];rw[zY I];rfl
 exact⟨(),H,dF (by rw[<-hjn];rfl),Qg⟩
 refine aw Z Z Z Z Z (fun w' hw'=>Yb Z)<|eU Z Z Z Z<|eU Z Z Z Z<|eU Z Z Z Z<|eU Z Z Z Z<|aw Z Z Z Z Z (fun w' hw'=>N Z Z)<|aw Z Z Z Z Z (fun w' hw'=>Yb Z)<|eU Z Z Z Z<|eU Z Z Z Z<|eU Z Z Z Z<|eU Z Z Z Z<|eU Z Z Z Z<|eU Z Z Z Z<|eU Z Z Z Z<|eU Z Z Z Z<|eU Z Z Z Z<|eU Z Z Z Z<|eU Z Z Z Z<|aw Z Z Z Z Z (fun w' hw'=>N Z Z)<|aU ?_
 intro w15 hw' hF
 replace H:=H.later hw';clear hw' hF
 refine U<|ZF Z<|Zx ?_
 have hjn:j=n:=by rw[<-hmn,hj];rw[zY I];rfl
 exact⟨(),H,dF (by rw[<-hjn];rfl),Qg⟩
 rintro⟨⟩ ρ1 w16 H
 have hyl:=(hok2 hy).1.len
 refine W<|Zr<|G (Yp Z)<|G (Yp Z)<|G (aI Z)<|G (Zf dq Z)<|G (tE 1 [.slice x.A ((bd x.es).length) x.cap,J (((fC x.es x.s:Nat):Int))] eK row3 hx Z Z (H.ent (i:=2) Z) Z)<|G (Yi Z)<|cd Hh (Gs (eW.log x) n _ (hlg2.log H hx (hok2 hx).1) hnx) Z Z ?_
 have hlo9:=H.size
 rintro _ w17 ⟨A102,c102,rfl,hc102,hr102,hb102⟩;replace H:=H.learnRd hb102 hr102;clear hr102 hb102
 refine G (Yu Z)<|G (Xa Z Z)<|G (Xi Z Z)<|G (aI Z)<|G (Zf dq Z)<|kQ H 2 ({x with A:=A102,cap:=c102,es:=x.es.take n,s:=min x.s n,lo:=w16.heap.size,hi:=w17.heap.size}) ja row3 hx 1 Z Z Z Z Z Z N fun w19 cur18 row18 H=> ?_
 have hs20:(rs.set r ({x with A:=A102,cap:=c102,es:=x.es.take n,s:=min x.s n,lo:=w16.heap.size,hi:=w17.heap.size}))[r]? =some ({x with A:=A102,cap:=c102,es:=x.es.take n,s:=min x.s n,lo:=w16.heap.size,hi:=w17.heap.size}):=am (cD hx).1
 refine U<|W ?_
 have hlo1:=hlo9
 have hlg3:=(hlg2.cons (f:=dG dA w16.heap.size w17.heap.size A102 (bd (x.es.take n)))).set r (x:={x with A:=A102,cap:=c102,es:=x.es.take n,s:=min x.s n,lo:=w16.heap.size,hi:=w17.heap.size}) ⟨hc102,hlo1,fF _⟩
 have hx2:(rs.set r {x with A:=A102,cap:=c102,es:=x.es.take n,s:=min x.s n,lo:=w16.heap.size,hi:=w17.heap.size})[r]? =some {x with A:=A102,cap:=c102,es:=x.es.take n,s:=min x.s n,lo:=w16.heap.size,hi:=w17.heap.size}:=am I
 have hy2:(rs.set r {x with A:=A102,cap:=c102,es:=x.es.take n,s:=min x.s n,lo:=w16.heap.size,hi:=w17.heap.size})[l]? =some y:=by rw[ch hrl1];exact hy
 have hgl2:GL (x.es.take n) (min x.s n:Nat):=(hok2 hx).1.take n (by simp;omega)
 obtain⟨kx,hkx⟩: ∃ kx,kn[r]? =some kx:=⟨_,ah I⟩
 refine bD bZ [0,1,2,3,4,5,6,7,8,9] [10] [5] [0,2,4,6,7,8,9] (sp [(5,Sp.one (.tuple #[J (((x.es.take n).length:Nat):Int),J ((min x.s n:Nat):Int)]))]) N N N N Nq (cI _) ?_
 refine aw Z Z Z Z Z (fun w' hw'=>Zf fY Z)<|aw Z Z Z Z Z (fun w' hw'=>aV cr Z (aB ((H.later hw').ent (i:=4) Z) Z))<|aw Z Z Z Z Z (fun w' hw'=>Yi Z)<|aw Z Z Z Z Z (fun w' hw'=>iP aG Z ((H.later hw').ent (i:=4) Z) Z)<|aw Z Z Z Z Z (fun w' hw'=>Yi Z)<|g7 jB Z Z Z Z Z (fun w' hw'=>(by have hA:=pP ⟨ep,ld,isr,some ⟨g1,0,none⟩,c1,kn,some ⟨g2,0,none⟩,c2,(rs.set r {x with A:=A102,cap:=c102,es:=x.es.take n,s:=min x.s n,lo:=w16.heap.size,hi:=w17.heap.size}),some ⟨g3,0,none⟩,c3,fw,bs⟩ r {x with A:=A102,cap:=c102,es:=x.es.take n,s:=min x.s n,lo:=w16.heap.size,hi:=w17.heap.size} w' (row18.rd0 ((H.later hw').ent (i:=2) Z)) hx2 (hlg3.log (H.later hw') hx2 hgl2);simp only[Pa.v,Pa.c,ab]at hA;exact hA)) Z<|aw Z Z Z Z Z (fun w' hw'=>Yu Z)<|aw Z Z Z Z Z (fun w' hw'=>Xi Z Z)<|aw Z Z Z Z Z (fun w' hw'=>Xi Z Z)<|aw Z Z Z Z Z (fun w' hw'=>cC aZ Z Z (by first|omega|(simp only[ab];omega)))<|aU ?_
 intro w21 hw' hF
 replace H:=H.later hw';clear hw' hF
 refine kQ H 1 ((((min x.s n:Nat):Int))) bI row2 hkx 0 Z Z Z Z Z Z N fun w23 cur22 row22 H=> ?_
 have hs24:(kn.set r ((((min x.s n:Nat):Int))))[r]? =some ((((min x.s n:Nat):Int))):=am (cD hkx).1
 refine U<|W<|Zr<|G (Zw aG H 4 Z Z Z)<|cd lx ((by have hA:=y6 ep ld isr c1 (kn.set r ((min x.s n:Nat):Int)) c2 (rs.set r {x with A:=A102,cap:=c102,es:=x.es.take n,s:=min x.s n,lo:=w16.heap.size,hi:=w17.heap.size}) c3 fw bs l y H row1 row22 row18 (by simp only[ab];omega) (by simp only[ab];omega) (by simp only[ab];omega) hld hy2 (hlg3 _ (ae hy2)).2.2 (hok2 hy).1 (hlg3 _ (ae hy2)).1;simp only[Pa.v,Pa.c,ab]at hA;exact hA)) Z Z ?_
 rintro _ w25 ⟨u9,rfl,row9,H⟩
 replace hlg3:=hlg3.same l (x':={y with high:=(max y.high (min (du isr (kn.set r ((min x.s n:Nat):Int)) 400) (y.es.length:Nat)))}) hy2 Z Z Z Z Z
 have hx3:((rs.set r {x with A:=A102,cap:=c102,es:=x.es.take n,s:=min x.s n,lo:=w16.heap.size,hi:=w17.heap.size}).set l {y with high:=(max y.high (min (du isr (kn.set r ((min x.s n:Nat):Int)) 400) (y.es.length:Nat)))})[r]? =some {x with A:=A102,cap:=c102,es:=x.es.take n,s:=min x.s n,lo:=w16.heap.size,hi:=w17.heap.size}:=by rw[ch (Ne.symm hrl1),am I]
 have hy3:((rs.set r {x with A:=A102,cap:=c102,es:=x.es.take n,s:=min x.s n,lo:=w16.heap.size,hi:=w17.heap.size}).set l {y with high:=(max y.high (min (du isr (kn.set r ((min x.s n:Nat):Int)) 400) (y.es.length:Nat)))})[l]? =some {y with high:=(max y.high (min (du isr (kn.set r ((min x.s n:Nat):Int)) 400) (y.es.length:Nat)))}:=am (by simp only[ab];omega)
 refine bl H 4 (#[J (ep),J (ld),.slice (Qd g1) isr.length c1,.slice (Qd g2) kn.length c2,.slice (Qd g3) rs.length c3,J (fw),J (bs)]) aL Z Z Z Z Z N N fun w26 H=>U<|W<|Zr<|G (Wi Z)<|U<|W<|W<|Zr<|G (Yi Z)<|G (Ys Z)<|G (bn eh Z) ?_
 refine cR (cG Z Z) Z Z Z (fun h122=> ?_) (fun h122=> ?_)
 refine U<|ZT Z<|W ?_
 obtain⟨z,hz⟩: ∃ z,y.es[n]? =some z:=⟨_,ah I⟩
 have hgz:ql z:=(hok2 hy).1.good z (ae hz)
 have hrm:(x.es.take n).length<400:=by have:=(hok2 hy).1.len;simp;omega
 have hlo9:=H.size
 refine bD bZ [0,1,2,3,4,5,6,7,8,9,10,11,12] [13,14] [8,12] [0,1,2,4,5,6,9,10,11] (sp [(8,Sp.nrow w26.heap.size dA (bd (x.es.take n++[z])) (fun A c=> .tuple #[.agg #[.slice A (bd (x.es.take n++[z])).length c,J (fC (x.es.take n++[z]) (min x.s n:Nat):Nat)],J 0])),(12,Sp.blk w26.heap.size (.agg #[.slice none 0 0,J 0]) Bb)]) N N N N Nq (cI _) ?_
 refine aw Z Z Z Z Z (fun w' hw'=>Yp Z)<|aw Z Z Z Z Z (fun w' hw'=>aI Z)<|aw Z Z Z Z Z (fun w' hw'=>Zf dq Z)<|aw Z Z Z Z Z (fun w' hw'=>tE 1 [.slice (({x with A:=A102,cap:=c102,es:=x.es.take n,s:=min x.s n,lo:=w16.heap.size,hi:=w17.heap.size}).A) ((bd ({x with A:=A102,cap:=c102,es:=x.es.take n,s:=min x.s n,lo:=w16.heap.size,hi:=w17.heap.size}).es).length) (({x with A:=A102,cap:=c102,es:=x.es.take n,s:=min x.s n,lo:=w16.heap.size,hi:=w17.heap.size}).cap),J (((fC ({x with A:=A102,cap:=c102,es:=x.es.take n,s:=min x.s n,lo:=w16.heap.size,hi:=w17.heap.size}).es ({x with A:=A102,cap:=c102,es:=x.es.take n,s:=min x.s n,lo:=w16.heap.size,hi:=w17.heap.size}).s:Nat):Int))] eK row9 hx3 Z Z ((H.later hw').ent (i:=2) Z) Z)<|aw Z Z Z Z Z (fun w' hw'=>Ys Z)<|aw Z Z Z Z Z (fun w' hw'=>Yi Z)<|qg H 2 Z Z Z Z Z dN Z Z I I fun b27 o27 x27 e27=> ?_
 obtain rfl:z=x27:=by have:=e27.at_;rw[hz]at this;exact bB this
 refine aw Z Z Z Z Z (fun w' hw'=>jd (xs:=cH.c z) dB Z Z (e27.later hw'))<|Hl (gv:=(fun A c=> .tuple #[.agg #[.slice A (bd (x.es.take n++[z])).length c,J (fC (x.es.take n++[z]) (min x.s n:Nat):Nat)],J 0])) vi Z Z Z Z Z (fun w' hw'=>hw'.size) (fun w' hw'=>uY (eW.log {x with A:=A102,cap:=c102,es:=x.es.take n,s:=min x.s n,lo:=w16.heap.size,hi:=w17.heap.size}) z w' (hlg3.log (H.later hw') hx3 hgl2) hgz hrm) Z fun A132 c132 hc132=>aw Z Z Z Z Z (fun w' hw'=>Yu Z)<|aw Z Z Z Z Z (fun w' hw'=>Xa Z Z)<|aw Z Z Z Z Z (fun w' hw'=>Xi Z Z)<|xd pM Z Z Z Z Z (fun w' hw'=>hw'.size) fun b17=>aU ?_
 intro w28 hw' hF
 obtain⟨hF,bq,eq,hge17,hbl17⟩:=hF;cases eq
 obtain⟨hF,Aq,cq,eq,hcq,hrw132⟩:=hF;cases eq;clear hcq
 have Hb:=H
 replace H:=H.adoptNew hw' hbl17 hge17
 obtain⟨lo132,hi132,hlo132,H'⟩:=Hb.learnApart H hw'.size hrw132 (vh hbl17);replace H:=H';clear H'
 clear hw' hF
 refine bl H 0 (#[.slice A132 ((bd (x.es.take n++[z])).length) c132,J (((fC (x.es.take n++[z]) (min x.s n:Nat):Nat):Int))]) ja Z Z Z Z Z N N fun w29 H=>G (Wi Z)<|U<|W<|Zr<|G (Yi Z)<|G (tV Z Z Z)<|U<|ZT Z<|Zr<|G (Yp Z)<|G (Zw eK H 0 Z Z Z)<|G (aI Z)<|G (Zf dq Z)<|kQ H 3 ({x with A:=A132,cap:=c132,es:=x.es.take n++[z],s:=min x.s n,lo:=lo132,hi:=hi132}) ja row9 hx3 1 Z Z Z Z Z Z N fun w31 cur30 row30 H=> ?_
 have hs32:((((rs.set r {x with A:=A102,cap:=c102,es:=x.es.take n,s:=min x.s n,lo:=w16.heap.size,hi:=w17.heap.size}).set l {y with high:=(max y.high (min (du isr (kn.set r ((min x.s n:Nat):Int)) 400) (y.es.length:Nat)))})).set r ({x with A:=A132,cap:=c132,es:=x.es.take n++[z],s:=min x.s n,lo:=lo132,hi:=hi132}))[r]? =some ({x with A:=A132,cap:=c132,es:=x.es.take n++[z],s:=min x.s n,lo:=lo132,hi:=hi132}):=am (cD hx3).1
 refine G (Wi Z)<|U<|W ?_
 have hlg8:=(hlg3.cons (f:=dG dA lo132 hi132 A132 (bd (x.es.take n++[z])))).set r (x:={x with A:=A132,cap:=c132,es:=x.es.take n++[z],s:=min x.s n,lo:=lo132,hi:=hi132}) ⟨hc132,aT hlo9 hlo132,fF _⟩
 have hx8:(((rs.set r {x with A:=A102,cap:=c102,es:=x.es.take n,s:=min x.s n,lo:=w16.heap.size,hi:=w17.heap.size}).set l {y with high:=(max y.high (min (du isr (kn.set r ((min x.s n:Nat):Int)) 400) (y.es.length:Nat)))}).set r {x with A:=A132,cap:=c132,es:=x.es.take n++[z],s:=min x.s n,lo:=lo132,hi:=hi132})[r]? =some {x with A:=A132,cap:=c132,es:=x.es.take n++[z],s:=min x.s n,lo:=lo132,hi:=hi132}:=am (by simp only[ab];omega)
 have hy8:(((rs.set r {x with A:=A102,cap:=c102,es:=x.es.take n,s:=min x.s n,lo:=w16.heap.size,hi:=w17.heap.size}).set l {y with high:=(max y.high (min (du isr (kn.set r ((min x.s n:Nat):Int)) 400) (y.es.length:Nat)))}).set r {x with A:=A132,cap:=c132,es:=x.es.take n++[z],s:=min x.s n,lo:=lo132,hi:=hi132})[l]? =some {y with high:=(max y.high (min (du isr (kn.set r ((min x.s n:Nat):Int)) 400) (y.es.length:Nat)))}:=by rw[ch hrl1,am (by simp only[ab];omega)]
 refine bD bZ [0,1,2,3,4,5,6,7,8,9,10,11,12,13,14,15,16,17,18] [19] [] [0,1,2,3,5,7,9,10,12,13,14,15,16,17,18] (sp []) N N N N Nq (cI _) ?_
 refine aw Z Z Z Z Z (fun w' hw'=>Yp Z)<|aw Z Z Z Z Z (fun w' hw'=>Yp Z)<|aw Z Z Z Z Z (fun w' hw'=>aI Z)<|aw Z Z Z Z Z (fun w' hw'=>Zf dV Z)<|aw Z Z Z Z Z (fun w' hw'=>bQ aj row30 hx8 3 Z ((H.later hw').ent (i:=3) Z) Z)<|aw Z Z Z Z Z (fun w' hw'=>Zf cP Z)<|aw Z Z Z Z Z (fun w' hw'=>aV bR Z (aB ((H.later hw').ent (i:=5) Z) Z))<|aw Z Z Z Z Z (fun w' hw'=>Zf dr Z)<|aw Z Z Z Z Z (fun w' hw'=>aV aj Z (aB ((H.later hw').ent (i:=5) Z) Z))<|aw Z Z Z Z Z (fun w' hw'=>cC (k:=l) bu Z (congrArg (Value.int .i64) hld) (by first|omega|(simp only[ab];omega)))<|aw Z Z Z Z Z (fun w' hw'=>Zf dV Z)<|aw Z Z Z Z Z (fun w' hw'=>bQ aj row30 hy8 3 Z ((H.later hw').ent (i:=3) Z) Z)<|aw Z Z Z Z Z (fun w' hw'=>zX Z Z)<|aw Z Z Z Z Z (fun w' hw'=>Yi Z)<|aw Z Z Z Z Z (fun w' hw'=>Yi Z)<|aw Z Z Z Z Z (fun w' hw'=>bp Z Z I I)<|aw Z Z Z Z Z (fun w' hw'=>tz Z Z)<|aw Z Z Z Z Z (fun w' hw'=>aI Z)<|aw Z Z Z Z Z (fun w' hw'=>Zf dV Z)<|aU ?_
 intro w33 hw' hF
 replace H:=H.later hw';clear hw' hF
 refine kQ H 3 ({x with A:=A132,cap:=c132,es:=x.es.take n++[z],s:=min x.s n,lo:=lo132,hi:=hi132,high:=min (max x.high (max y.high (min (du isr (kn.set r ((min x.s n:Nat):Int)) 400) (y.es.length:Nat)))) ((n:Nat)+1)}) bI row30 hx8 3 Z Z Z Z Z Z N fun w35 cur34 row34 H=> ?_
 have hs36:(((((rs.set r {x with A:=A102,cap:=c102,es:=x.es.take n,s:=min x.s n,lo:=w16.heap.size,hi:=w17.heap.size}).set l {y with high:=(max y.high (min (du isr (kn.set r ((min x.s n:Nat):Int)) 400) (y.es.length:Nat)))})).set r ({x with A:=A132,cap:=c132,es:=x.es.take n++[z],s:=min x.s n,lo:=lo132,hi:=hi132})).set r ({x with A:=A132,cap:=c132,es:=x.es.take n++[z],s:=min x.s n,lo:=lo132,hi:=hi132,high:=min (max x.high (max y.high (min (du isr (kn.set r ((min x.s n:Nat):Int)) 400) (y.es.length:Nat)))) ((n:Nat)+1)}))[r]? =some ({x with A:=A132,cap:=c132,es:=x.es.take n++[z],s:=min x.s n,lo:=lo132,hi:=hi132,high:=min (max x.high (max y.high (min (du isr (kn.set r ((min x.s n:Nat):Int)) 400) (y.es.length:Nat)))) ((n:Nat)+1)}):=am (cD hx8).1
 refine U<|W<|Zr<|G (Zw aG H 5 Z Z Z)<|G (Yi Z)<|bl H 4 (#[J (ep),J (ld),.slice (Qd g1) isr.length c1,.slice (Qd g2) kn.length c2,.slice (Qd g3) rs.length c3,J (fw),J (bs)]) aL Z Z Z Z Z N N fun w37 H=>G (Wi Z)<|G (Wi Z)<|U<|Zt ?_
 have hzf:jX x.a y.a (max y.high (min (du isr (kn.set r ((min x.s n:Nat):Int)) 400) (y.es.length:Nat)))=(⟨x.up,x.es.take n++[z],min x.s n,min (max x.high (max y.high (min (du isr (kn.set r ((min x.s n:Nat):Int)) 400) (y.es.length:Nat)))) ((n:Nat)+1)⟩,1):=by unfold jX;rw[show ed x.a.es y.a.es=n from hmn,show y.a.es[n]? =some z from hz];rfl
 have hS:=uy (p:=(Pa.a ⟨ep,ld,isr,iA,iC,kn,kA,kC,reps,rA,rC,fw,bs⟩)) hxa hld hrl1 (show x.a.up=true from h46) (vH hma hy)
 rw[show ed x.a.es y.a.es=n from hmn]at hS
 change iX (Pa.a ⟨ep,ld,isr,iA,iC,kn,kA,kC,reps,rA,rC,fw,bs⟩) r=({(Pa.a ⟨ep,ld,isr,iA,iC,kn,kA,kC,reps,rA,rC,fw,bs⟩)with known:=(kn.set r ((min x.s n:Nat):Int)),reps:=((reps.map eW.a).set l {y.a with high:=(max y.high (min (du isr (kn.set r ((min x.s n:Nat):Int)) 400) (y.es.length:Nat)))}).set r (jX x.a y.a (max y.high (min (du isr (kn.set r ((min x.s n:Nat):Int)) 400) (y.es.length:Nat)))).1},(jX x.a y.a (max y.high (min (du isr (kn.set r ((min x.s n:Nat):Int)) 400) (y.es.length:Nat)))).2,0)at hS
 rw[hS,hzf]
 have hlg9:=hlg8.same r (x':={x with A:=A132,cap:=c132,es:=x.es.take n++[z],s:=min x.s n,lo:=lo132,hi:=hi132,high:=min (max x.high (max y.high (min (du isr (kn.set r ((min x.s n:Nat):Int)) 400) (y.es.length:Nat)))) ((n:Nat)+1)}) hx8 Z Z Z Z Z
 exact gw (cs0:= #[J (ep),J (ld),.slice (Qd g1) isr.length c1,.slice (Qd g2) kn.length c2,.slice (Qd g3) rs.length c3,J (fw),J (bs)]) (v1:=J 1) (v2:=J 0) Z aG Z (H.ent (i:=4) Z) Z Z Z ⟨_,by simp[Pa.c],by simp only[Pa.a,cy,hma,eW.a,fo,Be _ _ hrl2],(eo.mk_ (p:=⟨ep,ld,isr,some ⟨g1,0,none⟩,c1,(kn.set r ((min x.s n:Nat):Int)),some ⟨g2,0,none⟩,c2,_,some ⟨g3,0,none⟩,c3,fw,bs⟩) Z Z Z row1 row22 row34 hlg9 (by dsimp only;first|omega|(simp only[ab,bJ];omega)) H ⟨by simp,by simp,by simp⟩)⟩
 refine U<|ZF Z<|Zk<|W ?_
 refine bD bZ [0,1,2,3,4,5,6,7,8,9,10,11,12,13,14,15,16,17,18] [19] [] [0,1,2,3,5,7,9,10,12,13,14,15,16,17,18] (sp []) N N N N Nq (cI _) ?_
 refine aw Z Z Z Z Z (fun w' hw'=>Yp Z)<|aw Z Z Z Z Z (fun w' hw'=>Yp Z)<|aw Z Z Z Z Z (fun w' hw'=>aI Z)<|aw Z Z Z Z Z (fun w' hw'=>Zf dV Z)<|aw Z Z Z Z Z (fun w' hw'=>bQ aj row9 hx3 3 Z ((H.later hw').ent (i:=2) Z) Z)<|aw Z Z Z Z Z (fun w' hw'=>Zf cP Z)<|aw Z Z Z Z Z (fun w' hw'=>aV bR Z (aB ((H.later hw').ent (i:=4) Z) Z))<|aw Z Z Z Z Z (fun w' hw'=>Zf dr Z)<|aw Z Z Z Z Z (fun w' hw'=>aV aj Z (aB ((H.later hw').ent (i:=4) Z) Z))<|aw Z Z Z Z Z (fun w' hw'=>cC (k:=l) bu Z (congrArg (Value.int .i64) hld) (by first|omega|(simp only[ab];omega)))<|aw Z Z Z Z Z (fun w' hw'=>Zf dV Z)<|aw Z Z Z Z Z (fun w' hw'=>bQ aj row9 hy3 3 Z ((H.later hw').ent (i:=2) Z) Z)<|aw Z Z Z Z Z (fun w' hw'=>zX Z Z)<|aw Z Z Z Z Z (fun w' hw'=>Yi Z)<|aw Z Z Z Z Z (fun w' hw'=>Yi Z)<|aw Z Z Z Z Z (fun w' hw'=>bp Z Z I I)<|aw Z Z Z Z Z (fun w' hw'=>tz Z Z)<|aw Z Z Z Z Z (fun w' hw'=>aI Z)<|aw Z Z Z Z Z (fun w' hw'=>Zf dV Z)<|aU ?_
 intro w38 hw' hF
 replace H:=H.later hw';clear hw' hF
 refine kQ H 2 ({x with A:=A102,cap:=c102,es:=x.es.take n,s:=min x.s n,lo:=w16.heap.size,hi:=w17.heap.size,high:=min (max x.high (max y.high (min (du isr (kn.set r ((min x.s n:Nat):Int)) 400) (y.es.length:Nat)))) (n:Nat)}) bI row9 hx3 3 Z Z Z Z Z Z N fun w40 cur39 row39 H=> ?_
 have hs41:((((rs.set r {x with A:=A102,cap:=c102,es:=x.es.take n,s:=min x.s n,lo:=w16.heap.size,hi:=w17.heap.size}).set l {y with high:=(max y.high (min (du isr (kn.set r ((min x.s n:Nat):Int)) 400) (y.es.length:Nat)))})).set r ({x with A:=A102,cap:=c102,es:=x.es.take n,s:=min x.s n,lo:=w16.heap.size,hi:=w17.heap.size,high:=min (max x.high (max y.high (min (du isr (kn.set r ((min x.s n:Nat):Int)) 400) (y.es.length:Nat)))) (n:Nat)}))[r]? =some ({x with A:=A102,cap:=c102,es:=x.es.take n,s:=min x.s n,lo:=w16.heap.size,hi:=w17.heap.size,high:=min (max x.high (max y.high (min (du isr (kn.set r ((min x.s n:Nat):Int)) 400) (y.es.length:Nat)))) (n:Nat)}):=am (cD hx3).1
 refine U<|W<|Zr<|G (Zw aG H 4 Z Z Z)<|G (Yi Z)<|bl H 3 (#[J (ep),J (ld),.slice (Qd g1) isr.length c1,.slice (Qd g2) kn.length c2,.slice (Qd g3) rs.length c3,J (fw),J (bs)]) aL Z Z Z Z Z N N fun w42 H=>G (Wi Z)<|G (Wi Z)<|U<|Zt ?_
 have hzf:jX x.a y.a (max y.high (min (du isr (kn.set r ((min x.s n:Nat):Int)) 400) (y.es.length:Nat)))=(⟨x.up,x.es.take n,min x.s n,min (max x.high (max y.high (min (du isr (kn.set r ((min x.s n:Nat):Int)) 400) (y.es.length:Nat)))) (n:Nat)⟩,0):=by unfold jX;rw[show ed x.a.es y.a.es=n from hmn,show y.a.es[n]? =none from cJ (by show y.es.length<=n;omega)];rfl
 have hS:=uy (p:=(Pa.a ⟨ep,ld,isr,iA,iC,kn,kA,kC,reps,rA,rC,fw,bs⟩)) hxa hld hrl1 (show x.a.up=true from h46) (vH hma hy)
 rw[show ed x.a.es y.a.es=n from hmn]at hS
 change iX (Pa.a ⟨ep,ld,isr,iA,iC,kn,kA,kC,reps,rA,rC,fw,bs⟩) r=({(Pa.a ⟨ep,ld,isr,iA,iC,kn,kA,kC,reps,rA,rC,fw,bs⟩)with known:=(kn.set r ((min x.s n:Nat):Int)),reps:=((reps.map eW.a).set l {y.a with high:=(max y.high (min (du isr (kn.set r ((min x.s n:Nat):Int)) 400) (y.es.length:Nat)))}).set r (jX x.a y.a (max y.high (min (du isr (kn.set r ((min x.s n:Nat):Int)) 400) (y.es.length:Nat)))).1},(jX x.a y.a (max y.high (min (du isr (kn.set r ((min x.s n:Nat):Int)) 400) (y.es.length:Nat)))).2,0)at hS
 rw[hS,hzf]
 have hlg9:=hlg3.same r (x':={x with A:=A102,cap:=c102,es:=x.es.take n,s:=min x.s n,lo:=w16.heap.size,hi:=w17.heap.size,high:=min (max x.high (max y.high (min (du isr (kn.set r ((min x.s n:Nat):Int)) 400) (y.es.length:Nat)))) (n:Nat)}) hx3 Z Z Z Z Z
 exact gw (cs0:= #[J (ep),J (ld),.slice (Qd g1) isr.length c1,.slice (Qd g2) kn.length c2,.slice (Qd g3) rs.length c3,J (fw),J (bs)]) (v1:=J 0) (v2:=J 0) Z aG Z (H.ent (i:=3) Z) Z Z Z ⟨_,by simp[Pa.c],by simp only[Pa.a,cy,hma,eW.a,fo,Be _ _ hrl2],(eo.mk_ (p:=⟨ep,ld,isr,some ⟨g1,0,none⟩,c1,(kn.set r ((min x.s n:Nat):Int)),some ⟨g2,0,none⟩,c2,_,some ⟨g3,0,none⟩,c3,fw,bs⟩) Z Z Z row1 row22 row39 hlg9 (by dsimp only;first|omega|(simp only[ab,bJ];omega)) H ⟨by simp,by simp,by simp⟩)⟩
 refine G (dO Z)<|U<|ZT Z<|W<|Zr<|G (bj (cs:= #[J (0),J (0),.slice none 0 0,.slice none 0 0,.slice none 0 0,J (0),J (0)]) cL bo N)<|bl H 3 (#[J (0),J (0),.slice none 0 0,.slice none 0 0,.slice none 0 0,J (0),J (0)]) aL Z Z Z Z Z N N fun w43 H=>G (Wi Z)<|G (Wi Z)<|U<|Zt ?_
 have hS:iX (Pa.a ⟨ep,ld,isr,iA,iC,kn,kA,kC,reps,rA,rC,fw,bs⟩) r=(gF,0,7):=by simp[iX,Pa.a,hxa,eW.a,show¬ (ld<0∨ld=(r:Int)) by omega,h46]
 rw[hS]
 exact gw (cs0:= #[J 0,J 0,.slice none 0 0,.slice none 0 0,.slice none 0 0,J 0,J 0]) (v1:=J 0) (v2:=J 7) Z aG Z (H.ent (i:=3) Z) Z Z Z ⟨zo,rfl,rfl,eo.zero H.below⟩
theorem fM:(aa.info? jh).map (fun i=>(i.zero,i.size,i.bytes))=some (some (.bool false),1,1):=by kernel_rfl
theorem gV:(aa.info? fi).map (fun i=>(i.zero,i.size,i.bytes))=some (some (.agg #[.bool false,.slice none 0 0,J 0,J 0]),4,48):=by kernel_rfl
theorem Ky {α:Type} {l:List α} {n:Nat} {a:α} (hl:l.length=n) (h: ∀ j,j<n->l[j]? =some a):l=au n a:=by
 rw[List.eq_replicate_iff]
 refine⟨hl,fun b hb=> ?_⟩
 obtain⟨j,hj⟩:=aK.1 hb
 have:=h j (by have:=(cD hj).1;omega)
 rw[hj]at this
 exact bB this
def nf (n few:Nat):gD:=⟨0,-1,au n true,au n 0,au n ⟨true,[],0,0⟩,few,0⟩
theorem MK (n few:Nat) (w:World) (hn:1<=n) (hn5:n<=5) (hf:1<=few) (hfn:few<=n):dd aa G2 [J (n:Nat),J (few:Nat)] w fun v w2=> ∃ p':Pa,v=.tuple #[p'.v,J 0]/\p'.a=nf n few/\eo w w2 p':=by
 refine aE FE Z Z ?_
 have H:=Hp.start w
 refine W<|Zr<|eC H bo Z fun w1 b4 H=>G (Wi Z)<|U<|W<|W<|Zr<|G (Yi Z)<|G (cY Z Z I)<|G (Yb Z)<|ZG<|G (Yi Z)<|ZG<|G (er Z Z I)<|G (N Z Z)<|G (Yb Z)<|ZG<|G (Yi Z)<|ZG<|G (cY Z Z I)<|G (N Z Z)<|G (Yb Z)<|ZG<|G (Yi Z)<|ZG<|G (Yi Z)<|ZG<|G (er Z Z I)<|G (N Z Z)<|U<|ZF Z<|Zk<|W ?_
 refine eu (τ:=Nat×Nat×Nat×Nat) [6,24,25,26,27,28,29,30,31] (fun(b6,_)=>[(6,.pointer (Qd b6))]) (fun(b6,b25,b27,b29) w'=> ∃ v1 v2 v3,dU eV (au n false) n v1/\dU bS (au n 0) n v2/\dU gd (au n ⟨false,none,0,[],0,0,w.heap.size,w.heap.size⟩) n v3/\Hp w w' [(b6,.cells #[J 0,J (-1),.slice (Qd b25) n n,.slice (Qd b27) n n,.slice (Qd b29) n n,J ((few:Nat):Int),J 0] bz (0,0)),(b25,.cells v1 jh (0,0)),(b27,.cells v2 cW (0,0)),(b29,.cells v3 fi (0,0)),(b4,.cells #[J 0,J 0,.slice none 0 0,.slice none 0 0,.slice none 0 0,J 0,J 0] bz (0,0))] []) ?_ ?_
 ·skip
  refine qI bZ [0,2,4,6] [1,3,5,7,8,9] [0,2,4,6] 6 N N N Nq ?_
  refine aw Z Z Z Z Z (fun w' hw'=>Yi Z)<|aw Z Z Z Z Z (fun w' hw'=>Yi Z)<|aw Z Z Z Z Z (fun w' hw'=>Yi Z)<|aw Z Z Z Z Z (fun w' hw'=>Yi Z)<|aU ?_
  intro w2 hw';replace H:=H.later hw';clear hw'
  refine Qq 1 3 5 8 N Z Z Z Z ?_ ?_ ?_ ?_
  ·
   refine oX (Y:=eV) (false) n H d6 fM Z Z Z I I Z fun w3 b25 cur25 row25 H=>U ?_
   refine Pt 3 5 8 N Z Z Z ?_ ?_ ?_
   ·
    refine oX (Y:=bS) (0) n H aZ gp Z Z Z I I Z fun w4 b27 cur27 row27 H=>U ?_
    refine tj 5 8 N Z Z ?_ ?_
    ·
     refine oX (Y:=gd) (⟨false,none,0,[],0,0,w.heap.size,w.heap.size⟩) n H bu gV Z Z Z I I Z fun w5 b29 cur29 row29 H=>U ?_
     refine tj 7 8 N Z Z ?_ ?_
     ·
      refine G (bj (cs:= #[J (0),J ((-1)),.slice (Qd b25) n n,.slice (Qd b27) n n,.slice (Qd b29) n n,J (((few:Nat):Int)),J (0)]) cL bo N)<|U<|da 8 N Z<|eC H bo Z fun w6 b6 H=>U<|da 9 N Z<|bl H 0 (#[J (0),J ((-1)),.slice (Qd b25) n n,.slice (Qd b27) n n,.slice (Qd b29) n n,J (((few:Nat):Int)),J (0)]) aL Z Z Z Z Z N N fun w7 H=>U<|cz N ?_
      exact⟨(b6,b25,b27,b29),⟨_,_,_,row25,row27,row29,H.perm ((ai _ (ai _ (al _ _ _))).trans ((ai _ (al _ _ _)).trans (ai _ (ai _ (al _ _ _)))))⟩,dF Z,Qg⟩
     ·
      refine eC H bo Z fun w8 b6 H=>U<|da 7 N Z<|G (bj (cs:= #[J (0),J ((-1)),.slice (Qd b25) n n,.slice (Qd b27) n n,.slice (Qd b29) n n,J (((few:Nat):Int)),J (0)]) cL bo N)<|U<|da 9 N Z<|bl H 0 (#[J (0),J ((-1)),.slice (Qd b25) n n,.slice (Qd b27) n n,.slice (Qd b29) n n,J (((few:Nat):Int)),J (0)]) aL Z Z Z Z Z N N fun w9 H=>U<|cz N ?_
      exact⟨(b6,b25,b27,b29),⟨_,_,_,row25,row27,row29,H.perm ((ai _ (ai _ (al _ _ _))).trans ((ai _ (al _ _ _)).trans (ai _ (ai _ (al _ _ _)))))⟩,dF Z,Qg⟩
    ·
     refine eC H bo Z fun w10 b6 H=>U<|da 5 N Z<|oX (Y:=gd) (⟨false,none,0,[],0,0,w.heap.size,w.heap.size⟩) n H bu gV Z Z Z I I Z fun w11 b29 cur29 row29 H=>U<|da 7 N Z<|G (bj (cs:= #[J (0),J ((-1)),.slice (Qd b25) n n,.slice (Qd b27) n n,.slice (Qd b29) n n,J (((few:Nat):Int)),J (0)]) cL bo N)<|U<|da 9 N Z<|bl H 1 (#[J (0),J ((-1)),.slice (Qd b25) n n,.slice (Qd b27) n n,.slice (Qd b29) n n,J (((few:Nat):Int)),J (0)]) aL Z Z Z Z Z N N fun w12 H=>U<|cz N ?_
     exact⟨(b6,b25,b27,b29),⟨_,_,_,row25,row27,row29,H.perm ((ai _ (ai _ (al _ _ _))).trans ((ai _ (al _ _ _)).trans ((al _ _ _).trans (ai _ (ai _ (al _ _ _))))))⟩,dF Z,Qg⟩
   ·
    refine oX (Y:=gd) (⟨false,none,0,[],0,0,w.heap.size,w.heap.size⟩) n H bu gV Z Z Z I I Z fun w13 b29 cur29 row29 H=>U ?_
    refine tj 3 8 N Z Z ?_ ?_
    ·
     refine oX (Y:=bS) (0) n H aZ gp Z Z Z I I Z fun w14 b27 cur27 row27 H=>U ?_
     refine tj 7 8 N Z Z ?_ ?_
     ·
      refine G (bj (cs:= #[J (0),J ((-1)),.slice (Qd b25) n n,.slice (Qd b27) n n,.slice (Qd b29) n n,J (((few:Nat):Int)),J (0)]) cL bo N)<|U<|da 8 N Z<|eC H bo Z fun w15 b6 H=>U<|da 9 N Z<|bl H 0 (#[J (0),J ((-1)),.slice (Qd b25) n n,.slice (Qd b27) n n,.slice (Qd b29) n n,J (((few:Nat):Int)),J (0)]) aL Z Z Z Z Z N N fun w16 H=>U<|cz N ?_
      exact⟨(b6,b25,b27,b29),⟨_,_,_,row25,row27,row29,H.perm ((ai _ (al _ _ _)).trans (ai _ (ai _ (al _ _ _))))⟩,dF Z,Qg⟩
     ·
      refine eC H bo Z fun w17 b6 H=>U<|da 7 N Z<|G (bj (cs:= #[J (0),J ((-1)),.slice (Qd b25) n n,.slice (Qd b27) n n,.slice (Qd b29) n n,J (((few:Nat):Int)),J (0)]) cL bo N)<|U<|da 9 N Z<|bl H 0 (#[J (0),J ((-1)),.slice (Qd b25) n n,.slice (Qd b27) n n,.slice (Qd b29) n n,J (((few:Nat):Int)),J (0)]) aL Z Z Z Z Z N N fun w18 H=>U<|cz N ?_
      exact⟨(b6,b25,b27,b29),⟨_,_,_,row25,row27,row29,H.perm ((ai _ (al _ _ _)).trans (ai _ (ai _ (al _ _ _))))⟩,dF Z,Qg⟩
    ·
     refine eC H bo Z fun w19 b6 H=>U<|da 3 N Z<|oX (Y:=bS) (0) n H aZ gp Z Z Z I I Z fun w20 b27 cur27 row27 H=>U<|da 7 N Z<|G (bj (cs:= #[J (0),J ((-1)),.slice (Qd b25) n n,.slice (Qd b27) n n,.slice (Qd b29) n n,J (((few:Nat):Int)),J (0)]) cL bo N)<|U<|da 9 N Z<|bl H 1 (#[J (0),J ((-1)),.slice (Qd b25) n n,.slice (Qd b27) n n,.slice (Qd b29) n n,J (((few:Nat):Int)),J (0)]) aL Z Z Z Z Z N N fun w21 H=>U<|cz N ?_
     exact⟨(b6,b25,b27,b29),⟨_,_,_,row25,row27,row29,H.perm ((ai _ (al _ _ _)).trans ((al _ _ _).trans (ai _ (ai _ (al _ _ _)))))⟩,dF Z,Qg⟩
   ·
    refine eC H bo Z fun w22 b6 H=>U ?_
    refine tj 3 5 N Z Z ?_ ?_
    ·
     refine oX (Y:=bS) (0) n H aZ gp Z Z Z I I Z fun w23 b27 cur27 row27 H=>U<|da 5 N Z<|oX (Y:=gd) (⟨false,none,0,[],0,0,w.heap.size,w.heap.size⟩) n H bu gV Z Z Z I I Z fun w24 b29 cur29 row29 H=>U<|da 7 N Z<|G (bj (cs:= #[J (0),J ((-1)),.slice (Qd b25) n n,.slice (Qd b27) n n,.slice (Qd b29) n n,J (((few:Nat):Int)),J (0)]) cL bo N)<|U<|da 9 N Z<|bl H 2 (#[J (0),J ((-1)),.slice (Qd b25) n n,.slice (Qd b27) n n,.slice (Qd b29) n n,J (((few:Nat):Int)),J (0)]) aL Z Z Z Z Z N N fun w25 H=>U<|cz N ?_
     exact⟨(b6,b25,b27,b29),⟨_,_,_,row25,row27,row29,H.perm ((ai _ (ai _ (al _ _ _))).trans ((ai _ (al _ _ _)).trans ((al _ _ _).trans ((ai _ (ai _ (al _ _ _))).trans (ai _ (al _ _ _))))))⟩,dF Z,Qg⟩
    ·
     refine oX (Y:=gd) (⟨false,none,0,[],0,0,w.heap.size,w.heap.size⟩) n H bu gV Z Z Z I I Z fun w26 b29 cur29 row29 H=>U<|da 3 N Z<|oX (Y:=bS) (0) n H aZ gp Z Z Z I I Z fun w27 b27 cur27 row27 H=>U<|da 7 N Z<|G (bj (cs:= #[J (0),J ((-1)),.slice (Qd b25) n n,.slice (Qd b27) n n,.slice (Qd b29) n n,J (((few:Nat):Int)),J (0)]) cL bo N)<|U<|da 9 N Z<|bl H 2 (#[J (0),J ((-1)),.slice (Qd b25) n n,.slice (Qd b27) n n,.slice (Qd b29) n n,J (((few:Nat):Int)),J (0)]) aL Z Z Z Z Z N N fun w28 H=>U<|cz N ?_
     exact⟨(b6,b25,b27,b29),⟨_,_,_,row25,row27,row29,H.perm ((ai _ (al _ _ _)).trans ((al _ _ _).trans ((ai _ (ai _ (al _ _ _))).trans (ai _ (al _ _ _)))))⟩,dF Z,Qg⟩
  ·
   refine oX (Y:=bS) (0) n H aZ gp Z Z Z I I Z fun w29 b27 cur27 row27 H=>U ?_
   refine Pt 1 5 8 N Z Z Z ?_ ?_ ?_
   ·
    refine oX (Y:=eV) (false) n H d6 fM Z Z Z I I Z fun w30 b25 cur25 row25 H=>U ?_
    refine tj 5 8 N Z Z ?_ ?_
    ·
     refine oX (Y:=gd) (⟨false,none,0,[],0,0,w.heap.size,w.heap.size⟩) n H bu gV Z Z Z I I Z fun w31 b29 cur29 row29 H=>U ?_
     refine tj 7 8 N Z Z ?_ ?_
     ·
      refine G (bj (cs:= #[J (0),J ((-1)),.slice (Qd b25) n n,.slice (Qd b27) n n,.slice (Qd b29) n n,J (((few:Nat):Int)),J (0)]) cL bo N)<|U<|da 8 N Z<|eC H bo Z fun w32 b6 H=>U<|da 9 N Z<|bl H 0 (#[J (0),J ((-1)),.slice (Qd b25) n n,.slice (Qd b27) n n,.slice (Qd b29) n n,J (((few:Nat):Int)),J (0)]) aL Z Z Z Z Z N N fun w33 H=>U<|cz N ?_
      exact⟨(b6,b25,b27,b29),⟨_,_,_,row25,row27,row29,H.perm ((ai _ (ai _ (al _ _ _))).trans (ai _ (al _ _ _)))⟩,dF Z,Qg⟩
     ·
      refine eC H bo Z fun w34 b6 H=>U<|da 7 N Z<|G (bj (cs:= #[J (0),J ((-1)),.slice (Qd b25) n n,.slice (Qd b27) n n,.slice (Qd b29) n n,J (((few:Nat):Int)),J (0)]) cL bo N)<|U<|da 9 N Z<|bl H 0 (#[J (0),J ((-1)),.slice (Qd b25) n n,.slice (Qd b27) n n,.slice (Qd b29) n n,J (((few:Nat):Int)),J (0)]) aL Z Z Z Z Z N N fun w35 H=>U<|cz N ?_
      exact⟨(b6,b25,b27,b29),⟨_,_,_,row25,row27,row29,H.perm ((ai _ (ai _ (al _ _ _))).trans (ai _ (al _ _ _)))⟩,dF Z,Qg⟩
    ·
     refine eC H bo Z fun w36 b6 H=>U<|da 5 N Z<|oX (Y:=gd) (⟨false,none,0,[],0,0,w.heap.size,w.heap.size⟩) n H bu gV Z Z Z I I Z fun w37 b29 cur29 row29 H=>U<|da 7 N Z<|G (bj (cs:= #[J (0),J ((-1)),.slice (Qd b25) n n,.slice (Qd b27) n n,.slice (Qd b29) n n,J (((few:Nat):Int)),J (0)]) cL bo N)<|U<|da 9 N Z<|bl H 1 (#[J (0),J ((-1)),.slice (Qd b25) n n,.slice (Qd b27) n n,.slice (Qd b29) n n,J (((few:Nat):Int)),J (0)]) aL Z Z Z Z Z N N fun w38 H=>U<|cz N ?_
     exact⟨(b6,b25,b27,b29),⟨_,_,_,row25,row27,row29,H.perm ((ai _ (ai _ (al _ _ _))).trans ((ai _ (al _ _ _)).trans (al _ _ _)))⟩,dF Z,Qg⟩
   ·
    refine oX (Y:=gd) (⟨false,none,0,[],0,0,w.heap.size,w.heap.size⟩) n H bu gV Z Z Z I I Z fun w39 b29 cur29 row29 H=>U ?_
    refine tj 1 8 N Z Z ?_ ?_
    ·
     refine oX (Y:=eV) (false) n H d6 fM Z Z Z I I Z fun w40 b25 cur25 row25 H=>U ?_
     refine tj 7 8 N Z Z ?_ ?_
     ·
      refine G (bj (cs:= #[J (0),J ((-1)),.slice (Qd b25) n n,.slice (Qd b27) n n,.slice (Qd b29) n n,J (((few:Nat):Int)),J (0)]) cL bo N)<|U<|da 8 N Z<|eC H bo Z fun w41 b6 H=>U<|da 9 N Z<|bl H 0 (#[J (0),J ((-1)),.slice (Qd b25) n n,.slice (Qd b27) n n,.slice (Qd b29) n n,J (((few:Nat):Int)),J (0)]) aL Z Z Z Z Z N N fun w42 H=>U<|cz N ?_
      exact⟨(b6,b25,b27,b29),⟨_,_,_,row25,row27,row29,H.perm (ai _ (ai _ (al _ _ _)))⟩,dF Z,Qg⟩
     ·
      refine eC H bo Z fun w43 b6 H=>U<|da 7 N Z<|G (bj (cs:= #[J (0),J ((-1)),.slice (Qd b25) n n,.slice (Qd b27) n n,.slice (Qd b29) n n,J (((few:Nat):Int)),J (0)]) cL bo N)<|U<|da 9 N Z<|bl H 0 (#[J (0),J ((-1)),.slice (Qd b25) n n,.slice (Qd b27) n n,.slice (Qd b29) n n,J (((few:Nat):Int)),J (0)]) aL Z Z Z Z Z N N fun w44 H=>U<|cz N ?_
      exact⟨(b6,b25,b27,b29),⟨_,_,_,row25,row27,row29,H.perm (ai _ (ai _ (al _ _ _)))⟩,dF Z,Qg⟩
    ·
     refine eC H bo Z fun w45 b6 H=>U<|da 1 N Z<|oX (Y:=eV) (false) n H d6 fM Z Z Z I I Z fun w46 b25 cur25 row25 H=>U<|da 7 N Z<|G (bj (cs:= #[J (0),J ((-1)),.slice (Qd b25) n n,.slice (Qd b27) n n,.slice (Qd b29) n n,J (((few:Nat):Int)),J (0)]) cL bo N)<|U<|da 9 N Z<|bl H 1 (#[J (0),J ((-1)),.slice (Qd b25) n n,.slice (Qd b27) n n,.slice (Qd b29) n n,J (((few:Nat):Int)),J (0)]) aL Z Z Z Z Z N N fun w47 H=>U<|cz N ?_
     exact⟨(b6,b25,b27,b29),⟨_,_,_,row25,row27,row29,H.perm ((al _ _ _).trans (ai _ (ai _ (al _ _ _))))⟩,dF Z,Qg⟩
   ·
    refine eC H bo Z fun w48 b6 H=>U ?_
    refine tj 1 5 N Z Z ?_ ?_
    ·
     refine oX (Y:=eV) (false) n H d6 fM Z Z Z I I Z fun w49 b25 cur25 row25 H=>U<|da 5 N Z<|oX (Y:=gd) (⟨false,none,0,[],0,0,w.heap.size,w.heap.size⟩) n H bu gV Z Z Z I I Z fun w50 b29 cur29 row29 H=>U<|da 7 N Z<|G (bj (cs:= #[J (0),J ((-1)),.slice (Qd b25) n n,.slice (Qd b27) n n,.slice (Qd b29) n n,J (((few:Nat):Int)),J (0)]) cL bo N)<|U<|da 9 N Z<|bl H 2 (#[J (0),J ((-1)),.slice (Qd b25) n n,.slice (Qd b27) n n,.slice (Qd b29) n n,J (((few:Nat):Int)),J (0)]) aL Z Z Z Z Z N N fun w51 H=>U<|cz N ?_
     exact⟨(b6,b25,b27,b29),⟨_,_,_,row25,row27,row29,H.perm ((ai _ (ai _ (al _ _ _))).trans ((ai _ (al _ _ _)).trans ((al _ _ _).trans (ai _ (al _ _ _)))))⟩,dF Z,Qg⟩
    ·
     refine oX (Y:=gd) (⟨false,none,0,[],0,0,w.heap.size,w.heap.size⟩) n H bu gV Z Z Z I I Z fun w52 b29 cur29 row29 H=>U<|da 1 N Z<|oX (Y:=eV) (false) n H d6 fM Z Z Z I I Z fun w53 b25 cur25 row25 H=>U<|da 7 N Z<|G (bj (cs:= #[J (0),J ((-1)),.slice (Qd b25) n n,.slice (Qd b27) n n,.slice (Qd b29) n n,J (((few:Nat):Int)),J (0)]) cL bo N)<|U<|da 9 N Z<|bl H 2 (#[J (0),J ((-1)),.slice (Qd b25) n n,.slice (Qd b27) n n,.slice (Qd b29) n n,J (((few:Nat):Int)),J (0)]) aL Z Z Z Z Z N N fun w54 H=>U<|cz N ?_
     exact⟨(b6,b25,b27,b29),⟨_,_,_,row25,row27,row29,H.perm ((al _ _ _).trans ((ai _ (ai _ (al _ _ _))).trans (ai _ (al _ _ _))))⟩,dF Z,Qg⟩
  ·
   refine oX (Y:=gd) (⟨false,none,0,[],0,0,w.heap.size,w.heap.size⟩) n H bu gV Z Z Z I I Z fun w55 b29 cur29 row29 H=>U ?_
   refine Pt 1 3 8 N Z Z Z ?_ ?_ ?_
   ·
    refine oX (Y:=eV) (false) n H d6 fM Z Z Z I I Z fun w56 b25 cur25 row25 H=>U ?_
    refine tj 3 8 N Z Z ?_ ?_
    ·
     refine oX (Y:=bS) (0) n H aZ gp Z Z Z I I Z fun w57 b27 cur27 row27 H=>U ?_
     refine tj 7 8 N Z Z ?_ ?_
     ·
      refine G (bj (cs:= #[J (0),J ((-1)),.slice (Qd b25) n n,.slice (Qd b27) n n,.slice (Qd b29) n n,J (((few:Nat):Int)),J (0)]) cL bo N)<|U<|da 8 N Z<|eC H bo Z fun w58 b6 H=>U<|da 9 N Z<|bl H 0 (#[J (0),J ((-1)),.slice (Qd b25) n n,.slice (Qd b27) n n,.slice (Qd b29) n n,J (((few:Nat):Int)),J (0)]) aL Z Z Z Z Z N N fun w59 H=>U<|cz N ?_
      exact⟨(b6,b25,b27,b29),⟨_,_,_,row25,row27,row29,H.perm (ai _ (al _ _ _))⟩,dF Z,Qg⟩
     ·
      refine eC H bo Z fun w60 b6 H=>U<|da 7 N Z<|G (bj (cs:= #[J (0),J ((-1)),.slice (Qd b25) n n,.slice (Qd b27) n n,.slice (Qd b29) n n,J (((few:Nat):Int)),J (0)]) cL bo N)<|U<|da 9 N Z<|bl H 0 (#[J (0),J ((-1)),.slice (Qd b25) n n,.slice (Qd b27) n n,.slice (Qd b29) n n,J (((few:Nat):Int)),J (0)]) aL Z Z Z Z Z N N fun w61 H=>U<|cz N ?_
      exact⟨(b6,b25,b27,b29),⟨_,_,_,row25,row27,row29,H.perm (ai _ (al _ _ _))⟩,dF Z,Qg⟩
    ·
     refine eC H bo Z fun w62 b6 H=>U<|da 3 N Z<|oX (Y:=bS) (0) n H aZ gp Z Z Z I I Z fun w63 b27 cur27 row27 H=>U<|da 7 N Z<|G (bj (cs:= #[J (0),J ((-1)),.slice (Qd b25) n n,.slice (Qd b27) n n,.slice (Qd b29) n n,J (((few:Nat):Int)),J (0)]) cL bo N)<|U<|da 9 N Z<|bl H 1 (#[J (0),J ((-1)),.slice (Qd b25) n n,.slice (Qd b27) n n,.slice (Qd b29) n n,J (((few:Nat):Int)),J (0)]) aL Z Z Z Z Z N N fun w64 H=>U<|cz N ?_
     exact⟨(b6,b25,b27,b29),⟨_,_,_,row25,row27,row29,H.perm ((ai _ (al _ _ _)).trans (al _ _ _))⟩,dF Z,Qg⟩
   ·
    refine oX (Y:=bS) (0) n H aZ gp Z Z Z I I Z fun w65 b27 cur27 row27 H=>U ?_
    refine tj 1 8 N Z Z ?_ ?_
    ·
     refine oX (Y:=eV) (false) n H d6 fM Z Z Z I I Z fun w66 b25 cur25 row25 H=>U ?_
     refine tj 7 8 N Z Z ?_ ?_
     ·
      refine G (bj (cs:= #[J (0),J ((-1)),.slice (Qd b25) n n,.slice (Qd b27) n n,.slice (Qd b29) n n,J (((few:Nat):Int)),J (0)]) cL bo N)<|U<|da 8 N Z<|eC H bo Z fun w67 b6 H=>U<|da 9 N Z<|bl H 0 (#[J (0),J ((-1)),.slice (Qd b25) n n,.slice (Qd b27) n n,.slice (Qd b29) n n,J (((few:Nat):Int)),J (0)]) aL Z Z Z Z Z N N fun w68 H=>U<|cz N ?_
      exact⟨(b6,b25,b27,b29),⟨_,_,_,row25,row27,row29,H.perm (List.Perm.refl _)⟩,dF Z,Qg⟩
     ·
      refine eC H bo Z fun w69 b6 H=>U<|da 7 N Z<|G (bj (cs:= #[J (0),J ((-1)),.slice (Qd b25) n n,.slice (Qd b27) n n,.slice (Qd b29) n n,J (((few:Nat):Int)),J (0)]) cL bo N)<|U<|da 9 N Z<|bl H 0 (#[J (0),J ((-1)),.slice (Qd b25) n n,.slice (Qd b27) n n,.slice (Qd b29) n n,J (((few:Nat):Int)),J (0)]) aL Z Z Z Z Z N N fun w70 H=>U<|cz N ?_
      exact⟨(b6,b25,b27,b29),⟨_,_,_,row25,row27,row29,H.perm (List.Perm.refl _)⟩,dF Z,Qg⟩
    ·
     refine eC H bo Z fun w71 b6 H=>U<|da 1 N Z<|oX (Y:=eV) (false) n H d6 fM Z Z Z I I Z fun w72 b25 cur25 row25 H=>U<|da 7 N Z<|G (bj (cs:= #[J (0),J ((-1)),.slice (Qd b25) n n,.slice (Qd b27) n n,.slice (Qd b29) n n,J (((few:Nat):Int)),J (0)]) cL bo N)<|U<|da 9 N Z<|bl H 1 (#[J (0),J ((-1)),.slice (Qd b25) n n,.slice (Qd b27) n n,.slice (Qd b29) n n,J (((few:Nat):Int)),J (0)]) aL Z Z Z Z Z N N fun w73 H=>U<|cz N ?_
     exact⟨(b6,b25,b27,b29),⟨_,_,_,row25,row27,row29,H.perm (al _ _ _)⟩,dF Z,Qg⟩
   ·
    refine eC H bo Z fun w74 b6 H=>U ?_
    refine tj 1 3 N Z Z ?_ ?_
    ·
     refine oX (Y:=eV) (false) n H d6 fM Z Z Z I I Z fun w75 b25 cur25 row25 H=>U<|da 3 N Z<|oX (Y:=bS) (0) n H aZ gp Z Z Z I I Z fun w76 b27 cur27 row27 H=>U<|da 7 N Z<|G (bj (cs:= #[J (0),J ((-1)),.slice (Qd b25) n n,.slice (Qd b27) n n,.slice (Qd b29) n n,J (((few:Nat):Int)),J (0)]) cL bo N)<|U<|da 9 N Z<|bl H 2 (#[J (0),J ((-1)),.slice (Qd b25) n n,.slice (Qd b27) n n,.slice (Qd b29) n n,J (((few:Nat):Int)),J (0)]) aL Z Z Z Z Z N N fun w77 H=>U<|cz N ?_
     exact⟨(b6,b25,b27,b29),⟨_,_,_,row25,row27,row29,H.perm ((ai _ (al _ _ _)).trans ((al _ _ _).trans (ai _ (al _ _ _))))⟩,dF Z,Qg⟩
    ·
     refine oX (Y:=bS) (0) n H aZ gp Z Z Z I I Z fun w78 b27 cur27 row27 H=>U<|da 1 N Z<|oX (Y:=eV) (false) n H d6 fM Z Z Z I I Z fun w79 b25 cur25 row25 H=>U<|da 7 N Z<|G (bj (cs:= #[J (0),J ((-1)),.slice (Qd b25) n n,.slice (Qd b27) n n,.slice (Qd b29) n n,J (((few:Nat):Int)),J (0)]) cL bo N)<|U<|da 9 N Z<|bl H 2 (#[J (0),J ((-1)),.slice (Qd b25) n n,.slice (Qd b27) n n,.slice (Qd b29) n n,J (((few:Nat):Int)),J (0)]) aL Z Z Z Z Z N N fun w80 H=>U<|cz N ?_
     exact⟨(b6,b25,b27,b29),⟨_,_,_,row25,row27,row29,H.perm ((al _ _ _).trans (ai _ (al _ _ _)))⟩,dF Z,Qg⟩
  ·
   refine eC H bo Z fun w81 b6 H=>U ?_
   refine Pt 1 3 5 N Z Z Z ?_ ?_ ?_
   ·
    refine oX (Y:=eV) (false) n H d6 fM Z Z Z I I Z fun w82 b25 cur25 row25 H=>U ?_
    refine tj 3 5 N Z Z ?_ ?_
    ·
     refine oX (Y:=bS) (0) n H aZ gp Z Z Z I I Z fun w83 b27 cur27 row27 H=>U<|da 5 N Z<|oX (Y:=gd) (⟨false,none,0,[],0,0,w.heap.size,w.heap.size⟩) n H bu gV Z Z Z I I Z fun w84 b29 cur29 row29 H=>U<|da 7 N Z<|G (bj (cs:= #[J (0),J ((-1)),.slice (Qd b25) n n,.slice (Qd b27) n n,.slice (Qd b29) n n,J (((few:Nat):Int)),J (0)]) cL bo N)<|U<|da 9 N Z<|bl H 3 (#[J (0),J ((-1)),.slice (Qd b25) n n,.slice (Qd b27) n n,.slice (Qd b29) n n,J (((few:Nat):Int)),J (0)]) aL Z Z Z Z Z N N fun w85 H=>U<|cz N ?_
     exact⟨(b6,b25,b27,b29),⟨_,_,_,row25,row27,row29,H.perm ((ai _ (ai _ (al _ _ _))).trans ((ai _ (al _ _ _)).trans ((al _ _ _).trans ((ai _ (ai _ (al _ _ _))).trans ((ai _ (al _ _ _)).trans (ai _ (ai _ (al _ _ _))))))))⟩,dF Z,Qg⟩
    ·
     refine oX (Y:=gd) (⟨false,none,0,[],0,0,w.heap.size,w.heap.size⟩) n H bu gV Z Z Z I I Z fun w86 b29 cur29 row29 H=>U<|da 3 N Z<|oX (Y:=bS) (0) n H aZ gp Z Z Z I I Z fun w87 b27 cur27 row27 H=>U<|da 7 N Z<|G (bj (cs:= #[J (0),J ((-1)),.slice (Qd b25) n n,.slice (Qd b27) n n,.slice (Qd b29) n n,J (((few:Nat):Int)),J (0)]) cL bo N)<|U<|da 9 N Z<|bl H 3 (#[J (0),J ((-1)),.slice (Qd b25) n n,.slice (Qd b27) n n,.slice (Qd b29) n n,J (((few:Nat):Int)),J (0)]) aL Z Z Z Z Z N N fun w88 H=>U<|cz N ?_
     exact⟨(b6,b25,b27,b29),⟨_,_,_,row25,row27,row29,H.perm ((ai _ (al _ _ _)).trans ((al _ _ _).trans ((ai _ (ai _ (al _ _ _))).trans ((ai _ (al _ _ _)).trans (ai _ (ai _ (al _ _ _)))))))⟩,dF Z,Qg⟩
   ·
    refine oX (Y:=bS) (0) n H aZ gp Z Z Z I I Z fun w89 b27 cur27 row27 H=>U ?_
    refine tj 1 5 N Z Z ?_ ?_
    ·
     refine oX (Y:=eV) (false) n H d6 fM Z Z Z I I Z fun w90 b25 cur25 row25 H=>U<|da 5 N Z<|oX (Y:=gd) (⟨false,none,0,[],0,0,w.heap.size,w.heap.size⟩) n H bu gV Z Z Z I I Z fun w91 b29 cur29 row29 H=>U<|da 7 N Z<|G (bj (cs:= #[J (0),J ((-1)),.slice (Qd b25) n n,.slice (Qd b27) n n,.slice (Qd b29) n n,J (((few:Nat):Int)),J (0)]) cL bo N)<|U<|da 9 N Z<|bl H 3 (#[J (0),J ((-1)),.slice (Qd b25) n n,.slice (Qd b27) n n,.slice (Qd b29) n n,J (((few:Nat):Int)),J (0)]) aL Z Z Z Z Z N N fun w92 H=>U<|cz N ?_
     exact⟨(b6,b25,b27,b29),⟨_,_,_,row25,row27,row29,H.perm ((ai _ (ai _ (al _ _ _))).trans ((ai _ (al _ _ _)).trans ((al _ _ _).trans ((ai _ (al _ _ _)).trans (ai _ (ai _ (al _ _ _)))))))⟩,dF Z,Qg⟩
    ·
     refine oX (Y:=gd) (⟨false,none,0,[],0,0,w.heap.size,w.heap.size⟩) n H bu gV Z Z Z I I Z fun w93 b29 cur29 row29 H=>U<|da 1 N Z<|oX (Y:=eV) (false) n H d6 fM Z Z Z I I Z fun w94 b25 cur25 row25 H=>U<|da 7 N Z<|G (bj (cs:= #[J (0),J ((-1)),.slice (Qd b25) n n,.slice (Qd b27) n n,.slice (Qd b29) n n,J (((few:Nat):Int)),J (0)]) cL bo N)<|U<|da 9 N Z<|bl H 3 (#[J (0),J ((-1)),.slice (Qd b25) n n,.slice (Qd b27) n n,.slice (Qd b29) n n,J (((few:Nat):Int)),J (0)]) aL Z Z Z Z Z N N fun w95 H=>U<|cz N ?_
     exact⟨(b6,b25,b27,b29),⟨_,_,_,row25,row27,row29,H.perm ((al _ _ _).trans ((ai _ (ai _ (al _ _ _))).trans ((ai _ (al _ _ _)).trans (ai _ (ai _ (al _ _ _))))))⟩,dF Z,Qg⟩
   ·
    refine oX (Y:=gd) (⟨false,none,0,[],0,0,w.heap.size,w.heap.size⟩) n H bu gV Z Z Z I I Z fun w96 b29 cur29 row29 H=>U ?_
    refine tj 1 3 N Z Z ?_ ?_
    ·
     refine oX (Y:=eV) (false) n H d6 fM Z Z Z I I Z fun w97 b25 cur25 row25 H=>U<|da 3 N Z<|oX (Y:=bS) (0) n H aZ gp Z Z Z I I Z fun w98 b27 cur27 row27 H=>U<|da 7 N Z<|G (bj (cs:= #[J (0),J ((-1)),.slice (Qd b25) n n,.slice (Qd b27) n n,.slice (Qd b29) n n,J (((few:Nat):Int)),J (0)]) cL bo N)<|U<|da 9 N Z<|bl H 3 (#[J (0),J ((-1)),.slice (Qd b25) n n,.slice (Qd b27) n n,.slice (Qd b29) n n,J (((few:Nat):Int)),J (0)]) aL Z Z Z Z Z N N fun w99 H=>U<|cz N ?_
     exact⟨(b6,b25,b27,b29),⟨_,_,_,row25,row27,row29,H.perm ((ai _ (al _ _ _)).trans ((al _ _ _).trans ((ai _ (al _ _ _)).trans (ai _ (ai _ (al _ _ _))))))⟩,dF Z,Qg⟩
    ·
     refine oX (Y:=bS) (0) n H aZ gp Z Z Z I I Z fun w100 b27 cur27 row27 H=>U<|da 1 N Z<|oX (Y:=eV) (false) n H d6 fM Z Z Z I I Z fun w101 b25 cur25 row25 H=>U<|da 7 N Z<|G (bj (cs:= #[J (0),J ((-1)),.slice (Qd b25) n n,.slice (Qd b27) n n,.slice (Qd b29) n n,J (((few:Nat):Int)),J (0)]) cL bo N)<|U<|da 9 N Z<|bl H 3 (#[J (0),J ((-1)),.slice (Qd b25) n n,.slice (Qd b27) n n,.slice (Qd b29) n n,J (((few:Nat):Int)),J (0)]) aL Z Z Z Z Z N N fun w102 H=>U<|cz N ?_
     exact⟨(b6,b25,b27,b29),⟨_,_,_,row25,row27,row29,H.perm ((al _ _ _).trans ((ai _ (al _ _ _)).trans (ai _ (ai _ (al _ _ _)))))⟩,dF Z,Qg⟩
 rintro⟨b6,b25,b27,b29⟩ ρ1 w103 ⟨v1,v2,v3,row25,row27,row29,H⟩
 show CW _ _ _ _ (dv (gk _ _ ρ1) [(6,.pointer (Qd b6))]) w103
 refine W<|W<|Zr<|G (Zf cP Z)<|G (Zd bR H 0 Z Z Z)<|G (bn gf Z)<|G (Yi Z)<|U<|Zb ?_
 refine cf (τ:=Nat×List Bool×List eW×Array Value×Array Value) [7,35,36,37,38,39,40,41,42,43,44,45,46,47] (fun(k,_)=>[(35,J (k:Nat))]) (fun(k,il,rl,v1,v3) w'=>k<=n/\il.length=n/\rl.length=n/\(∀ j,j<k->il[j]? =some true)/\(∀ j,j<k->rl[j]? =some ⟨true,none,0,[],0,0,w.heap.size,w.heap.size⟩)/\(∀ j,k<=j->j<n->rl[j]? =some ⟨false,none,0,[],0,0,w.heap.size,w.heap.size⟩)/\dU eV il n v1/\dU gd rl n v3/\Hp w w' [(b6,.cells #[J (0),J ((-1)),.slice (Qd b25) n n,.slice (Qd b27) n n,.slice (Qd b29) n n,J (((few:Nat):Int)),J (0)] bz (0,0)),(b25,.cells v1 jh (0,0)),(b27,.cells v2 cW (0,0)),(b29,.cells v3 fi (0,0)),(b4,.cells #[J (0),J (0),.slice none 0 0,.slice none 0 0,.slice none 0 0,J (0),J (0)] bz (0,0))] []) (fun(k,_)=>n-k) (0,au n false,au n ⟨false,none,0,[],0,0,w.heap.size,w.heap.size⟩,v1,v3) ⟨by omega,by simp,by simp,by intro j hj;omega,by intro j hj;omega,by intro j _ hj;rw[fQ,if_pos hj],row25,row29,H⟩ (dF Z) ?_
 rintro⟨k,il,rl,v1,v3⟩ ρ1 w104 ⟨hk,hil,hrl,hi1,hr1,hr2,row25,row29,H⟩
 show CW _ _ _ _ (dv (gk _ _ ρ1) [(35,J (k:Nat))]) w104
 refine W<|Zr ?_
 refine cR (cG Z Z) Z Z Z (fun h36=> ?_) (fun h36=> ?_)
 ·
  refine U<|W<|ZT Z<|Zk<|W<|Zb<|W ?_
  obtain⟨b,hb⟩: ∃ b,il[k]? =some b:=⟨_,ah I⟩
  have hz:=hr2 k (ao k) I
  refine Zr<|G (Yi Z)<|G (Wi Z)<|U ?_
  refine mF bZ (fun w'=>w'.heap[b6]? =some (.cells #[J 0,J (-1),.slice (Qd b25) n n,.slice (Qd b27) n n,.slice (Qd b29) n n,J ((few:Nat):Int),J 0] bz (0,0))) ?_
  intro w105 hw';replace H:=H.later hw';clear hw'
  refine aN 0 N N N Z Z Z Z Nq (H.ent (i:=0) Z) (fun _ hS=>Zf fZ Z)<|aN 1 N N N Z Z Z Z Nq (H.ent (i:=0) Z) (fun _ hS=>aV gI Z (aB hS Z))<|aN 2 N N N Z Z Z Z Nq (H.ent (i:=0) Z) (fun _ hS=>Yi Z)<|aN 3 N N N Z Z Z Z Nq (H.ent (i:=0) Z) (fun _ hS=>Zf cP Z)<|aN 4 N N N Z Z Z Z Nq (H.ent (i:=0) Z) (fun _ hS=>aV bR Z (aB hS Z))<|aN 5 N N N Z Z Z Z Nq (H.ent (i:=0) Z) (fun _ hS=>Yi Z)<|aN 6 N N N Z Z Z Z Nq (H.ent (i:=0) Z) (fun _ hS=>cC d6 Z Z (by first|omega|(simp only[ab];omega)))<|r5 7 N Z<|kQ H 1 (true) iJ row25 hb 0 Z Z Z Z Z Z N fun w107 cur106 row106 H=> ?_
  have hs108:(il.set k (true))[k]? =some (true):=am (cD hb).1
  refine U ?_
  refine⟨(H.ent (i:=0) Z),?_⟩
  refine aN 8 N N N Z Z Z Z Nq (H.ent (i:=0) Z) (fun _ hS=>cC bu Z Z (by first|omega|(simp only[ab];omega)))<|aN 9 N N N Z Z Z Z Nq (H.ent (i:=0) Z) (fun _ hS=>Zf ft Z)<|r5 10 N Z<|kQ H 3 (⟨true,none,0,[],0,0,w.heap.size,w.heap.size⟩) iJ row29 hz 0 Z Z Z Z Z Z N fun w110 cur109 row109 H=> ?_
  have hs111:(rl.set k (⟨true,none,0,[],0,0,w.heap.size,w.heap.size⟩))[k]? =some (⟨true,none,0,[],0,0,w.heap.size,w.heap.size⟩):=am (cD hz).1
  refine U ?_
  refine⟨(H.ent (i:=0) Z),?_⟩
  refine jP N<|Zr<|G (bp Z Z I I)<|G (Yi Z)<|U ?_
  refine⟨(k+1,il.set k true,rl.set k ⟨true,none,0,[],0,0,w.heap.size,w.heap.size⟩,cur106,cur109),⟨by omega,by rw[ab];exact hil,by rw[ab];exact hrl,fun j hj=> ?_,fun j hj=> ?_,fun j hj hjn=> ?_,row106,row109,H⟩,dF Z,Qg,by show n- (k+1)<n-k;omega⟩
  ·by_cases hjk:k=j
   ·subst hjk;exact am I
   ·rw[ch hjk];exact hi1 j I
  ·by_cases hjk:k=j
   ·subst hjk;exact am I
   ·rw[ch hjk];exact hr1 j I
  ·rw[ch I];exact hr2 j I hjn
 ·
  have hke:n=k:=by omega
  subst hke
  have hie:=Ky hil hi1
  have hre:=Ky hrl hr1
  subst hie
  subst hre
  refine U<|W<|ZF Z<|Zx<|W<|Zr<|G (Zw aG H 0 Z Z Z)<|bl H 4 (#[J (0),J ((-1)),.slice (Qd b25) n n,.slice (Qd b27) n n,.slice (Qd b29) n n,J (((few:Nat):Int)),J (0)]) aL Z Z Z Z Z N N fun w112 H=>G (Wi Z)<|U<|Zt ?_
  replace H:=H.learnNil (Y:=dA) w.heap.size H.size none
  exact bG (cs0:= #[J 0,J (-1),.slice (Qd b25) n n,.slice (Qd b27) n n,.slice (Qd b29) n n,J ((few:Nat):Int),J 0]) (v1:=J 0) Z aG Z (H.ent (i:=4) Z) Z Z ⟨⟨0,-1,au n true,some ⟨b25,0,none⟩,n,au n 0,some ⟨b27,0,none⟩,n,au n ⟨true,none,0,[],0,0,w.heap.size,w.heap.size⟩,some ⟨b29,0,none⟩,n,(few:Nat),0⟩,by simp[Pa.c],by simp[Pa.a,nf,eW.a],eo.mk_ Z Z Z row25 row27 row29 (F:=[dG dA w.heap.size w.heap.size none []]) (fun r hr=>by rw[fE hr];exact⟨by simp[bd],ao _,dH _⟩) (by simp;omega) H ⟨by simp,by simp,by simp⟩⟩
theorem GC (p:Pa) (a m:Int) (w:World) (h:p.rd 0 w.heap.size w) (hok:p.a.ok) (hl:p.leader<0):dd aa tK [p.v,J a,J m] w fun v w2=>v=.tuple #[.slice none 0 0,J 0,J 8]/\Below w.heap.size w w2:=by
 refine aE sD Z Z ?_
 obtain⟨hn1,hn2,hil,hkl,hf1,hf2,he0,he1,hl0,hl1,hb0,hb1,hsm⟩:=Pa.facts hok
 have hkn:=hok.known
 have hiC:=h.iC
 have hkC:=h.kC
 have hrC:=h.rC
 have hfew:=h.few
 have H:=Hp.startPa h
 obtain⟨ep,ld,isr,iA,iC,kn,kA,kC,reps,rA,rC,fw,bs⟩:=p
 simp only[Pa.a]at hkn
 dsimp only at H hn1 hn2 hil hkl hf1 hf2 he0 he1 hl0 hl1 hb0 hb1 hsm hiC hkC hrC hfew
 dsimp only at hl
 show CW _ _ _ _ (args [.agg #[J (ep),J (ld),.slice iA isr.length iC,.slice kA kn.length kC,.slice rA reps.length rC,J (fw),J (bs)],J (a),J (m)]) w
 refine W<|Zr<|fS H Z Z fun w1 b3 H=>G (Ws Z)<|G (Wi Z)<|G (Wi Z)<|U<|W<|W<|Zr<|G (Zw aG H 0 Z Z Z)<|cd lr (rD ⟨ep,ld,isr,iA,iC,kn,kA,kC,reps,rA,rC,fw,bs⟩ _ (Hp.pa H 0 Z) hok) Z Z ?_
 rintro _ w2 ⟨rfl,hb⟩;replace H:=H.later hb;clear hb
 refine G (Wi Z)<|U<|W<|Zr<|G (Yi Z)<|G (bX Z Z Z)<|U<|ZF Z<|Zk<|W<|W<|Zr<|G (Zf dr Z)<|G (Zd aj H 0 Z Z Z)<|G (xD Z Z hl)<|U<|ZT Z<|W<|Zr<|G (Ws Z)<|G (Wi Z)<|G (Wi Z)<|U<|Zt ?_
 exact G8 Z Z Z Z ⟨rfl,H.below⟩
theorem KI (p:Pa) (a most l:Nat) (r:eW) (w:World) (h:p.rd 0 w.heap.size w) (hok:p.a.ok) (hld:p.leader=l) (hr:p.reps[l]? =some r) (ha:a<=r.es.length) (hm1:1<=most) (hm2:most<=20):dd aa tK [p.v,J (a:Nat),J (most:Nat)] w fun v w2=> ∃ (st:Nat) (out:List ByteArray) (b:Nat) (A':Option Addr) (c':Nat),tH (r.es.take r.high.toNat) st/\Bc r.es r.high.toNat st a most out b/\v=.tuple #[.slice A' out.length c',J (b:Nat),J 0]/\Rd m8 w.heap.size w2.heap.size A' out w2/\out.length<=c'/\Below w.heap.size w w2:=by
 refine aE sD Z Z ?_
 obtain⟨hn1,hn2,hil,hkl,hf1,hf2,he0,he1,hl0,hl1,hb0,hb1,hsm⟩:=Pa.facts hok
 have hkn:=hok.known
 have hiC:=h.iC
 have hkC:=h.kC
 have hrC:=h.rC
 have hfew:=h.few
 have H:=Hp.startPa h
 obtain⟨ep,ld,isr,iA,iC,kn,kA,kC,reps,rA,rC,fw,bs⟩:=p
 simp only[Pa.a]at hkn
 dsimp only at H hn1 hn2 hil hkl hf1 hf2 he0 he1 hl0 hl1 hb0 hb1 hsm hiC hkC hrC hfew
 dsimp only at hld hr
 have hll:=(cD hr).1
 show CW _ _ _ _ (args [.agg #[J (ep),J (ld),.slice iA isr.length iC,.slice kA kn.length kC,.slice rA reps.length rC,J (fw),J (bs)],J (((a:Nat):Int)),J (((most:Nat):Int))]) w
 refine W<|Zr<|fS H Z Z fun w1 b3 H=>G (Ws Z)<|G (Wi Z)<|G (Wi Z)<|U<|W<|W<|Zr<|G (Zw aG H 0 Z Z Z)<|cd lr (rD ⟨ep,ld,isr,iA,iC,kn,kA,kC,reps,rA,rC,fw,bs⟩ _ (Hp.pa H 0 Z) hok) Z Z ?_
 rintro _ w2 ⟨rfl,hb⟩;replace H:=H.later hb;clear hb
 refine G (Wi Z)<|U<|W<|Zr<|G (Yi Z)<|G (bX Z Z Z)<|U<|ZF Z<|Zk<|W<|W<|Zr<|G (Zf dr Z)<|G (Zd aj H 0 Z Z Z)<|G (cY Z Z I)<|U<|ZF Z<|Zk<|W<|Zr<|G (Zf cP Z)<|G (Zd bR H 0 Z Z Z)<|G (Zf dr Z)<|G (Zd aj H 0 Z Z Z)<|pK (k:=l) H 3 Z bu Z (congrArg (Value.int .i64) hld) I I Z fun bq3 o3 x3 e3=> ?_
 obtain rfl:x3=r:=by have:=e3.at_;rw[hr]at this;exact(bB this).symm
 obtain⟨n,hnn⟩: ∃ n:Nat,x3.high=n:=⟨x3.high.toNat,by have:=(Pa.repOk hok (i:=l) hr).2.1;omega⟩
 refine G (jd (xs:=eW.c x3) lV Z Z e3.cl)<|eC H m7 Z fun w4 b10 H=>bl H 0 (#[.bool (x3.up),.slice x3.A ((bd x3.es).length) x3.cap,J (((fC x3.es x3.s:Nat):Int)),J (x3.high)]) j5 Z Z Z Z Z N N fun w5 H=>U<|W<|Zr<|G (Zf dq Z)<|G (jG 1 [.slice x3.A ((bd x3.es).length) x3.cap,J (((fC x3.es x3.s:Nat):Int))] eK Z Z (H.ent (i:=0) Z) Z)<|cd fL (gb x3.A x3.cap x3.es x3.s _ (Pa.log (Hp.pa H 0 Z) hok (i:=l) hr)) Z Z ?_
 have hloen:=H.size
 rintro _ w6 ⟨Aen,cen,rfl,hren,hcen,hben⟩;replace H:=H.learnRd hben hren;clear hren hben
 refine G (Yu Z)<|G (Xs Z Z)<|G (Xi Z Z)<|G (Xi Z Z)<|G (Ws Z)<|G (Wi Z)<|G (Wi Z)<|U<|W<|Zr<|G (Ys Z)<|G (Zf dV Z)<|G (Zd aj H 0 Z Z Z)<|G (Yi Z)<|G (Yi Z)<|cd wV ((by have hA:=MF x3.es Aen cen n a most _ (H.rd0 0 Z) hcen (by have:=(Pa.repOk hok (i:=l) hr).1.len;omega) (by have:=(Pa.repOk hok (i:=l) hr).2.2;omega) ha hm1 hm2;rw[<-hnn]at hA;exact hA)) Z Z ?_
 have hlo:=H.size
 rintro _ w7 ⟨st,out,b,A9,c9,hs9,hr9,rfl,hrd9,hc9,hb9⟩
 refine G (Xs Z Z)<|G (Xi Z Z)<|G (Xi Z Z)<|G (Ws Z)<|G (Wi Z)<|G (Wi Z)<|U<|Zt ?_
 have hnt:x3.high.toNat=n:=by omega
 rw[hnt]
 exact G8 Z Z Z Z ⟨st,out,b,A9,c9,hs9,hr9,rfl,hrd9.mono hlo (ao _),hc9,H.below.trans (hb9.mono hlo)⟩
theorem GL.of {es:List cH} {s:Nat} (hg: ∀ e∈es,ql e) (hl:es.length<=400) (hs:s<=es.length):GL es s:=by
 have:=DW es hg
 exact⟨hg,hl,by omega,hs⟩
def gD.small (m:Nat) (p:gD):Prop:= ∀ r∈p.reps,r.es.length<=m
theorem gD.ok.at_ {p:gD} (h:p.ok) {i:Nat} {x:RA} (hx:p.reps[i]? =some x):x.ok:=h.reps x (ae hx)
theorem HM {p:gD} (h:p.ok) {rs:List RA} (hl:rs.length=p.reps.length) (hr: ∀ r∈rs,r.ok) (hu: ∀ (l:Nat) (r:RA),p.leader=l->rs[l]? =some r->r.up=true):({p with reps:=rs}:gD).ok:=
 ⟨by dsimp only;rw[hl];exact h.n1,by dsimp only;rw[hl];exact h.n2,by dsimp only;rw[hl];exact h.isrl,by dsimp only;rw[hl];exact h.knownl,h.few1,by dsimp only;rw[hl];exact h.few2,h.ep0,h.ep1,h.ld0,by dsimp only;rw[hl];exact h.ld1,h.base0,h.base1,h.some_,
  fun l r h1 h2=>by
   have hlt:=(az.1 h2).1
   dsimp only at hlt h1 h2
   obtain⟨y,hy⟩: ∃ y,p.reps[l]? =some y:=⟨_,ah I⟩
   exact⟨(h.lead l y h1 hy).1,hu l r h1 h2⟩,hr,h.known⟩
theorem Oc {p:gD} (h:p.ok) {i:Nat} {x x':RA} (hx:p.reps[i]? =some x) (hk:x'.ok) (hu:x'.up=x.up):({p with reps:=p.reps.set i x'}:gD).ok:=
 HM h (ab ..) (fun r hr=>by
  rcases bH hr with hr|rfl
  exact h.reps r hr
  exact hk) (fun l r h1 h2=>by
  by_cases hi:i=l
  subst hi
  rw[am (cD hx).1]at h2
  cases h2
  rw[hu];exact(h.lead i x h1 hx).2
  rw[ch hi]at h2
  exact(h.lead l r h1 h2).2)
theorem E4 {p:gD} (h:p.ok) {kn:List Int} (hl:kn.length=p.known.length) (hb: ∀ n∈kn,0<=n/\n<=400):({p with known:=kn}:gD).ok:=
 ⟨h.n1,h.n2,h.isrl,by dsimp only;rw[hl];exact h.knownl,h.few1,h.few2,h.ep0,h.ep1,h.ld0,h.ld1,h.base0,h.base1,h.some_,h.lead,h.reps,hb⟩
theorem Dl {p:gD} (h:p.ok) (r:Nat) {v:Int} (h1:0<=v) (h2:v<=400):({p with known:=p.known.set r v}:gD).ok:=
 E4 h (ab ..) fun n hn=>by
  rcases bH hn with hn|rfl
  exact h.known n hn
  exact⟨h1,h2⟩
theorem GF {p:gD} (h:p.ok) {is:List Bool} (hl:is.length=p.isr.length) (hs:true∈is) (hd: ∀ l:Nat,p.leader=l->is[l]? =some true):({p with isr:=is}:gD).ok:=
 ⟨h.n1,h.n2,by dsimp only;rw[hl];exact h.isrl,h.knownl,h.few1,h.few2,h.ep0,h.ep1,h.ld0,h.ld1,h.base0,h.base1,hs,fun l r h1 h2=>⟨hd l h1,(h.lead l r h1 h2).2⟩,h.reps,h.known⟩
theorem MO {p:gD} (h:p.ok):({p with leader:= -1}:gD).ok:=
 ⟨h.n1,h.n2,h.isrl,h.knownl,h.few1,h.few2,h.ep0,h.ep1,by dsimp only;omega,by have:=h.n1;dsimp only;omega,h.base0,h.base1,h.some_,fun l r h1 h2=>by dsimp only at h1;omega,h.reps,h.known⟩
theorem MP {p:gD} (h:p.ok) {r:Nat} {x:RA} {b:Int} (hx:p.reps[r]? =some x) (hu:x.up=true) (hi:p.isr[r]? =some true) (he:p.epoch≠1073741824) (hb0:0<=b) (hb1:b<=400):({p with epoch:=p.epoch+1,leader:=r,base:=b}:gD).ok:=
 ⟨h.n1,h.n2,h.isrl,h.knownl,h.few1,h.few2,by have:=h.ep0;dsimp only;omega,by have:=h.ep1;dsimp only;omega,by dsimp only;omega,by have:=(cD hx).1;dsimp only;omega,hb0,hb1,h.some_,fun l y h1 h2=>by
  dsimp only at h1 h2
  have:l=r:=by omega
  subst this
  rw[hx]at h2;cases h2
  exact⟨hi,hu⟩,h.reps,h.known⟩
theorem Od {p:gD} (h:p.ok):(nK p).ok:=by
 unfold nK
 split
 rename_i x hx
 split
 exact h
 have hk:=h.at_ hx
 have:=hk.high0
 have:=hk.high1
 exact Oc h hx ⟨hk.gl,by dsimp only;omega,by dsimp only;omega⟩ Z
 exact h
theorem Ey {p:gD} {r:Nat} (he:(nV p r).2=0): ∃ x,p.reps[r]? =some x/\x.up=true/\(nV p r).1=if p.leader=r then nK {p with reps:=p.reps.set r {x with s:=x.es.length},known:=p.known.set r x.es.length}else{p with reps:=p.reps.set r {x with s:=x.es.length}}:=by
 unfold nV at he⊢
 cases hx:p.reps[r]? with
 |none=>rw[hx]at he;simp at he
 |some x=>
  rw[hx]at he
  dsimp only at he⊢
  by_cases hu:x.up=false
  rw[if_pos hu]at he;simp at he
  rw[if_neg hu]
  exact⟨x,rfl,by simpa using hu,by split<;>rfl⟩
theorem EQ {p:gD} {r:Nat} (he:(pO p r).2=0): ∃ x,p.reps[r]? =some x/\x.up=false/\(pO p r).1={p with reps:=p.reps.set r {x with up:=true}}:=by
 unfold pO at he⊢
 cases hx:p.reps[r]? with
 |none=>rw[hx]at he;simp at he
 |some x=>
  rw[hx]at he
  dsimp only at he⊢
  by_cases hu:x.up=true
  rw[if_pos hu]at he;simp at he
  rw[if_neg hu]
  exact⟨x,rfl,by simpa using hu,rfl⟩
theorem CN {p:gD} {r keep:Nat} (he:(kr p r keep).2=0): ∃ x,p.reps[r]? =some x/\x.up=true/\(kr p r keep).1={p with reps:=p.reps.set r {up:=false,es:=x.es.take (jT x.es x.s keep),s:=jT x.es x.s keep,high:=min x.high (((x.es.take (jT x.es x.s keep)).length:Nat):Int)},known:=p.known.set r 0,leader:=if p.leader=r then-1 else p.leader}:=by
 unfold kr at he⊢
 cases hx:p.reps[r]? with
 |none=>rw[hx]at he;simp at he
 |some x=>
  rw[hx]at he
  dsimp only at he⊢
  by_cases hu:x.up=false
  rw[if_pos hu]at he;simp at he
  rw[if_neg hu]
  exact⟨x,rfl,by simpa using hu,rfl⟩
theorem En {p:gD} {r:Nat} (he:(nT p r).2=0): ∃ x,p.reps[r]? =some x/\x.up=false/\true∈p.isr.set r false/\(nT p r).1={p with reps:=p.reps.set r ⟨false,[],0,0⟩,known:=p.known.set r 0,isr:=p.isr.set r false}:=by
 unfold nT at he⊢
 cases hx:p.reps[r]? with
 |none=>rw[hx]at he;simp at he
 |some x=>
  rw[hx]at he
  dsimp only at he⊢
  by_cases hu:x.up=true
  rw[if_pos hu]at he;simp at he
  rw[if_neg hu]at he⊢
  by_cases ht:true∉p.isr.set r false
  rw[if_pos ht]at he;simp at he
  rw[if_neg ht]
  exact⟨x,rfl,by simpa using hu,by simpa using ht,rfl⟩
theorem CL {p:gD} {r:Nat} (hil:p.isr.length=p.reps.length) (he:(iZ p r).2=0): ∃ x,p.reps[r]? =some x/\x.up=true/\p.isr[r]? =some true/\p.leader≠r/\p.epoch≠1073741824/\(iZ p r).1=nK {p with epoch:=p.epoch+1,leader:=r,known:=(au p.reps.length 0).set r x.s,base:=x.es.length}:=by
 unfold iZ at he⊢
 cases hx:p.reps[r]? with
 |none=>rw[hx]at he;simp at he
 |some x=>
  rw[hx]at he
  dsimp only at he⊢
  by_cases hu:x.up=false
  rw[if_pos hu]at he;simp at he
  rw[if_neg hu]at he⊢
  by_cases hi:p.isr[r]? =some false
  rw[if_pos hi]at he;simp at he
  rw[if_neg hi]at he⊢
  by_cases hl:p.leader=r
  rw[if_pos hl]at he;simp at he
  rw[if_neg hl]at he⊢
  by_cases hp:p.epoch=1073741824
  rw[if_pos hp]at he;simp at he
  rw[if_neg hp]
  obtain⟨b,hb⟩: ∃ b,p.isr[r]? =some b:=⟨_,ah (by have:=(cD hx).1;omega)⟩
  refine⟨x,rfl,by simpa using hu,?_,hl,hp,rfl⟩
  rw[hb]at hi⊢
  cases b
  exact absurd Z hi
  rfl
theorem zE {p:gD} {r:Nat} (he:(gY p r).2=0):0<=p.leader/\p.leader≠r/\(gY p r).1=nK {p with isr:=p.isr.set r false}:=by
 unfold gY at he⊢
 by_cases h1:p.leader<0∨p.leader=r
 rw[if_pos h1]at he;simp at he
 rw[if_neg h1]at he⊢
 by_cases h2:p.isr[r]? =some false
 rw[if_pos h2]at he;simp at he
 rw[if_neg h2]
 exact⟨by omega,by omega,rfl⟩
theorem AG {p:gD} {r:Nat} (he:(fK p r).2=0): ∃ x,p.reps[r]? =some x/\0<=p.leader/\p.leader≠r/\x.up=true/\max p.base (sw p)<=p.known.getD r 0/\(fK p r).1={p with isr:=p.isr.set r true}:=by
 unfold fK at he⊢
 by_cases h1:p.leader<0∨p.leader=r
 rw[if_pos h1]at he;simp at he
 rw[if_neg h1]at he⊢
 by_cases h2:p.isr[r]? =some true
 rw[if_pos h2]at he;simp at he
 rw[if_neg h2]at he⊢
 cases hx:p.reps[r]? with
 |none=>rw[hx]at he;simp at he
 |some x=>
  rw[hx]at he
  dsimp only at he⊢
  by_cases hu:x.up=false
  rw[if_pos hu]at he;simp at he
  rw[if_neg hu]at he⊢
  by_cases hk:p.known.getD r 0<max p.base (sw p)
  rw[if_pos hk]at he;simp at he
  rw[if_neg hk]
  exact⟨x,rfl,by omega,by omega,by simpa using hu,by omega,rfl⟩
theorem CI {p:gD} {r:Nat} (h:p.ok) (he:(iX p r).2.2=0): ∃ (x y:RA) (l:Nat),p.reps[r]? =some x/\p.leader=l/\r≠l/\x.up=true/\p.reps[l]? =some y:=by
 unfold iX at he
 cases hx:p.reps[r]? with
 |none=>rw[hx]at he;simp at he
 |some x=>
  rw[hx]at he
  dsimp only at he
  by_cases h1:p.leader<0∨p.leader=r
  rw[if_pos h1]at he;simp at he
  rw[if_neg h1]at he
  by_cases hu:x.up=false
  rw[if_pos hu]at he;simp at he
  have h2:=h.ld1
  exact⟨x,p.reps[p.leader.toNat]'(by omega),p.leader.toNat,rfl,by omega,by omega,by simpa using hu,ah I⟩
theorem HG {p:gD} {e:cH} (he:(eE p e).2.2=0): ∃ (x:RA) (l:Nat),p.leader=l/\p.reps[l]? =some x/\ql {e with epoch:=p.epoch}/\(gM x.es {e with epoch:=p.epoch}).2=0/\
  ((0<=(gM x.es {e with epoch:=p.epoch}).1/\(eE p e).1=p/\(eE p e).2.1=(gM x.es {e with epoch:=p.epoch}).1)∨((gM x.es {e with epoch:=p.epoch}).1<0/\p.few<=Mp p.isr p.reps 0/\(eE p e).1={p with reps:=p.reps.set l {x with es:=x.es++[{e with epoch:=p.epoch}]}}/\(eE p e).2.1=x.es.length)):=by
 unfold eE at he⊢
 by_cases h1:p.leader<0
 rw[if_pos h1]at he;simp at he
 rw[if_neg h1]at he⊢
 cases hx:p.reps[p.leader.toNat]? with
 |none=>rw[hx]at he;simp at he
 |some x=>
  rw[hx]at he
  dsimp only at he⊢
  by_cases h2:eG {e with epoch:=p.epoch}≠0
  rw[if_pos h2]at he;exact absurd he h2
  rw[if_neg h2]at he⊢
  by_cases h3:(gM x.es {e with epoch:=p.epoch}).2≠0
  rw[if_pos h3]at he;exact absurd he h3
  rw[if_neg h3]at he⊢
  refine⟨x,p.leader.toNat,by omega,hx,by unfold ql;simpa using h2,by simpa using h3,?_⟩
  by_cases h4:0<=(gM x.es {e with epoch:=p.epoch}).1
  rw[if_pos h4]
  exact .inl ⟨h4,rfl,rfl⟩
  rw[if_neg h4]at he⊢
  by_cases h5:Mp p.isr p.reps 0<p.few
  rw[if_pos h5]at he;simp at he
  rw[if_neg h5]
  exact .inr ⟨by omega,by omega,rfl,rfl⟩
theorem eX {α:Type} {l:List α} {r:Nat} {x':α} {i:Nat} {y:α} (h:(l.set r x')[i]? =some y):(i=r/\y=x')∨(i≠r/\l[i]? =some y):=by
 by_cases hi:r=i
 subst hi
 have hl:=(az.1 h).1
 rw[ab]at hl
 rw[am hl]at h
 cases h
 exact .inl ⟨rfl,rfl⟩
 rw[ch hi]at h
 exact .inr ⟨fun h=>hi h.symm,h⟩
structure y1 (K:List cH) (p:gD):Prop where
 ep: ∀ (i:Nat) (x:RA),p.reps[i]? =some x-> ∀ e∈x.es,e.epoch<=p.epoch
 lm: ∀ (i j:Nat) (x y:RA) (n:Nat) (e f:cH),p.reps[i]? =some x->p.reps[j]? =some y->x.es[n]? =some e->y.es[n]? =some f->e.epoch=f.epoch->x.es.take (n+1)=y.es.take (n+1)
 cur: ∀ (l:Nat) (y:RA) (i:Nat) (x:RA) (n:Nat) (e:cH),p.leader=l->p.reps[l]? =some y->p.reps[i]? =some x->x.es[n]? =some e->e.epoch=p.epoch->n<y.es.length
 hi: ∀ (i:Nat) (x:RA),p.reps[i]? =some x->x.high.toNat<=K.length/\x.es.take x.high.toNat=K.take x.high.toNat
 keep: ∀ (i:Nat) (x:RA),p.reps[i]? =some x->p.isr[i]? =some true->K.length<=x.s/\x.es.take K.length=K
 kn: ∀ (l:Nat) (y:RA) (i:Nat) (x:RA) (v:Int),p.leader=l->p.reps[l]? =some y->p.reps[i]? =some x->p.known[i]? =some v->v.toNat<=x.s/\v.toNat<=y.es.length/\x.es.take v.toNat=y.es.take v.toNat
 base: ∀ (l:Nat) (y:RA),p.leader=l->p.reps[l]? =some y->(K.length:Int)<=max p.base y.high
theorem y1.set {K:List cH} {p:gD} (h:y1 K p) {r:Nat} {x x':RA} (hx:p.reps[r]? =some x)
  (c_ep: ∀ e∈x'.es,e.epoch<=p.epoch)
  (c_lm: ∀ (j:Nat) (y:RA) (n:Nat) (e f:cH),j≠r->p.reps[j]? =some y->x'.es[n]? =some e->y.es[n]? =some f->e.epoch=f.epoch->x'.es.take (n+1)=y.es.take (n+1))
  (c_cur1: ∀ (l:Nat) (y:RA) (n:Nat) (e:cH),p.leader=l->l≠r->p.reps[l]? =some y->x'.es[n]? =some e->e.epoch=p.epoch->n<y.es.length)
  (c_cur2:p.leader=r->x.es.length<=x'.es.length)
  (c_hi:x'.high.toNat<=K.length/\x'.es.take x'.high.toNat=K.take x'.high.toNat)
  (c_keep:p.isr[r]? =some true->K.length<=x'.s/\x'.es.take K.length=K)
  (c_kn1: ∀ (l:Nat) (y:RA) (v:Int),p.leader=l->l≠r->p.reps[l]? =some y->p.known[r]? =some v->v.toNat<=x'.s/\v.toNat<=y.es.length/\x'.es.take v.toNat=y.es.take v.toNat)
  (c_kn2:p.leader=r-> ∀ (i:Nat) (z:RA) (v:Int),i≠r->p.reps[i]? =some z->p.known[i]? =some v->v.toNat<=x'.es.length/\z.es.take v.toNat=x'.es.take v.toNat)
  (c_kn3:p.leader=r-> ∀ v:Int,p.known[r]? =some v->v.toNat<=x'.s/\v.toNat<=x'.es.length)
  (c_base:p.leader=r->(K.length:Int)<=max p.base x'.high):y1 K {p with reps:=p.reps.set r x'}:=by
 refine⟨fun i y hy e he=> ?_,fun i j y z n e f hy hz he hf hef=> ?_,fun l y i z n e hl hy hz he hee=> ?_,fun i y hy=> ?_,fun i y hy hi=> ?_,fun l y i z v hl hy hz hv=> ?_,fun l y hl hy=> ?_⟩
 rcases eX hy with⟨rfl,rfl⟩|⟨_,hy2⟩
 exact c_ep e he
 exact h.ep i y hy2 e he
 rcases eX hy with⟨rfl,rfl⟩|⟨hi,hy2⟩
 rcases eX hz with⟨rfl,rfl⟩|⟨hj,hz2⟩
 rfl
 exact c_lm j z n e f hj hz2 he hf hef
 rcases eX hz with⟨rfl,rfl⟩|⟨hj,hz2⟩
 exact(c_lm i y n f e hi hy2 hf he hef.symm).symm
 exact h.lm i j y z n e f hy2 hz2 he hf hef
 rcases eX hy with⟨rfl,rfl⟩|⟨hlr,hy2⟩
 rcases eX hz with⟨rfl,rfl⟩|⟨hir,hz2⟩
 exact(cD he).1
 exact fO (h.cur l x i z n e hl hx hz2 he hee) (c_cur2 hl)
 rcases eX hz with⟨rfl,rfl⟩|⟨hir,hz2⟩
 exact c_cur1 l y n e hl hlr hy2 he hee
 exact h.cur l y i z n e hl hy2 hz2 he hee
 rcases eX hy with⟨rfl,rfl⟩|⟨_,hy2⟩
 exact c_hi
 exact h.hi i y hy2
 rcases eX hy with⟨rfl,rfl⟩|⟨_,hy2⟩
 exact c_keep hi
 exact h.keep i y hy2 hi
 rcases eX hy with⟨rfl,rfl⟩|⟨hlr,hy2⟩
 rcases eX hz with⟨rfl,rfl⟩|⟨hir,hz2⟩
 obtain⟨h1,h2⟩:=c_kn3 hl v hv
 exact⟨h1,h2,rfl⟩
 have h1:=c_kn2 hl i z v hir hz2 hv
 exact⟨(h.kn l x i z v hl hx hz2 hv).1,h1⟩
 rcases eX hz with⟨rfl,rfl⟩|⟨hir,hz2⟩
 exact c_kn1 l y v hl hlr hy2 hv
 exact h.kn l y i z v hl hy2 hz2 hv
 rcases eX hy with⟨rfl,rfl⟩|⟨_,hy2⟩
 exact c_base hl
 exact h.base l y hl hy2
theorem y1.setK {K:List cH} {p:gD} (h:y1 K p) {r:Nat} {w:Int} (hw: ∀ (l:Nat) (y x:RA),p.leader=l->p.reps[l]? =some y->p.reps[r]? =some x->w.toNat<=x.s/\w.toNat<=y.es.length/\x.es.take w.toNat=y.es.take w.toNat):y1 K {p with known:=p.known.set r w}:=
 ⟨h.ep,h.lm,h.cur,h.hi,h.keep,fun l y i x v hl hy hx hv=>by
  rcases eX hv with⟨rfl,rfl⟩|⟨_,hv⟩
  exact hw l y x hl hy hx
  exact h.kn l y i x v hl hy hx hv,h.base⟩
theorem y1.setK0 {K:List cH} {p:gD} (h:y1 K p) (r:Nat):y1 K {p with known:=p.known.set r 0}:=h.setK fun _ _ _ _ _ _=>by simp
theorem y1.none {K:List cH} {p:gD} (h:y1 K p):y1 K {p with leader:= -1}:=
 ⟨h.ep,h.lm,fun l y i x n e hl=>by dsimp only at hl;omega,h.hi,h.keep,fun l y i x v hl=>by dsimp only at hl;omega,fun l y hl=>by dsimp only at hl;omega⟩
theorem y1.isrF {K:List cH} {p:gD} (h:y1 K p) (r:Nat):y1 K {p with isr:=p.isr.set r false}:=
 ⟨h.ep,h.lm,h.cur,h.hi,fun i x hx hi=>by
  rcases eX hi with⟨_,h0⟩|⟨_,hi⟩
  cases h0
  exact h.keep i x hx hi,h.kn,h.base⟩
theorem y1.rebase {K:List cH} {p:gD} (h:y1 K p) {b:Int} (hb: ∀ (l:Nat) (y:RA),p.leader=l->p.reps[l]? =some y->(K.length:Int)<=max b y.high):y1 K {p with base:=b}:=
 ⟨h.ep,h.lm,h.cur,h.hi,h.keep,h.kn,hb⟩
theorem Fj: ∀ (isr:List Bool) (kn:List Int) (m:Int),du isr kn m<=m/\ ∀ (i:Nat) (v:Int),isr[i]? =some true->kn[i]? =some v->du isr kn m<=v
 |[],_,m=>by simp[du]
 |_::_,[],m=>by simp[du]
 |b::bs,n::ns,m=>by
  obtain⟨h1,h2⟩:=Fj bs ns (if b then min m n else m)
  refine⟨by unfold du;split at h1<;>split<;>first|omega|simp_all,fun i v hi hv=> ?_⟩
  unfold du
  cases i with
  |zero=>
   simp at hi hv
   subst hi;subst hv
   simp at h1⊢
   omega
  |succ i=>exact h2 i v (by simpa using hi) (by simpa using hv)
theorem zw {α:Type} {a b:List α} {n m:Nat} (h:a.take m=b.take m) (hn:n<=m):a.take n=b.take n:=by
 have:=congrArg (sP n) h
 rwa[de,de,br hn]at this
theorem y1.adv {K:List cH} {p:gD} (h:y1 K p) (hok:p.ok): ∃ K',K<+:K'/\y1 K' (nK p):=by
 by_cases hneg:p.leader<0
 have:nK p=p:=by
  unfold nK
  split
  rw[if_pos hneg]
  rfl
 rw[this]
 exact⟨K,fp K,h⟩
 obtain⟨l,hl⟩: ∃ l:Nat,p.leader=l:=⟨p.leader.toNat,by omega⟩
 obtain⟨y,hy⟩: ∃ y,p.reps[l]? =some y:=⟨_,ah (by have:=hok.ld1;omega)⟩
 rw[xf hl hy]
 obtain⟨hisr,hup⟩:=hok.lead l y hl hy
 obtain⟨hkp1,hkp2⟩:=h.keep l y hy hisr
 have hyok:=hok.at_ hy
 have hys:=hyok.gl.sle
 have hy0:=hyok.high0
 obtain⟨hh1,hh2⟩:=h.hi l y hy
 generalize hH:max y.high (min (du p.isr p.known 400) y.es.length)=H
 by_cases hle:H.toNat<=K.length
 refine⟨K,fp K,h.set hy (h.ep l y hy) (fun j z n e f hj hz he hf hef=>h.lm l j y z n e f hy hz he hf hef) (fun l' y' n e h1 h2=>absurd I h2) (fun _=>ao _) ⟨hle,?_⟩ (fun hi=>h.keep l y hy hi) (fun l' y' v h1 h2=>absurd I h2) (fun _ i z v _ hz hv=>(h.kn l y i z v hl hy hz hv).2) (fun _ v hv=>⟨(h.kn l y l y v hl hy hy hv).1,(h.kn l y l y v hl hy hy hv).2.1⟩) (fun _=> ?_)⟩
 have:=congrArg (sP H.toNat) hkp2
 rwa[de,br hle]at this
 have:=h.base l y hl hy;dsimp only;omega
 have hHm:H=min (du p.isr p.known 400) y.es.length:=by omega
 have hHl:H.toNat<=y.es.length:=by omega
 have hlen:(y.es.take H.toNat).length=H.toNat:=by rw[aH];omega
 have hKy:K=(y.es.take H.toNat).take K.length:=by rw[de,br I];exact hkp2.symm
 have hpre:K<+:y.es.take H.toNat:=by rw[hKy];exact List.take_prefix _ _
 have hKt: ∀ n,n<=K.length->K.take n=(y.es.take H.toNat).take n:=fun n hn=>by
  have:=congrArg (sP n) hkp2
  rw[de,br hn]at this
  rw[<-this,de,br I]
 have hG:y1 (y.es.take H.toNat) {p with base:=H}:=by
  refine⟨h.ep,h.lm,h.cur,fun i x hx=> ?_,fun i x hx hi=> ?_,h.kn,fun l' y' hl' hy'=>by dsimp only;omega⟩
  obtain⟨h1,h2⟩:=h.hi i x hx
  exact⟨by omega,by rw[h2];exact hKt _ h1⟩
  obtain⟨v,hv⟩: ∃ v,p.known[i]? =some v:=⟨_,ah (by have:=(cD hx).1;have:=hok.knownl;dsimp only at*;omega)⟩
  have h1:=(Fj p.isr p.known 400).2 i v hi hv
  obtain⟨h2,h3,h4⟩:=h.kn l y i x v hl hy hx hv
  refine⟨by rw[hlen];omega,?_⟩
  rw[hlen]
  exact zw h4 I
 have hS:=hG.set (x':={y with high:=H}) hy (h.ep l y hy) (fun j z n e f hj hz he hf hef=>h.lm l j y z n e f hy hz he hf hef) (fun l' y' n e h1 h2=>absurd (by dsimp only at h1;omega) h2) (fun _=>ao _) ⟨by rw[hlen];exact ao _,by rw[de,Nat.min_self]⟩ (fun hi=>hG.keep l y hy hi) (fun l' y' v h1 h2=>absurd (by dsimp only at h1;omega) h2) (fun _ i z v _ hz hv=>(h.kn l y i z v hl hy hz hv).2) (fun _ v hv=>⟨(h.kn l y l y v hl hy hy hv).1,(h.kn l y l y v hl hy hy hv).2.1⟩) (fun _=>by dsimp only;omega)
 refine⟨_,hpre,hS.rebase (b:=p.base) fun l' z h1 hz=> ?_⟩
 dsimp only at h1 hz
 have:l'=l:=by omega
 subst this
 rw[am (cD hy).1]at hz
 cases hz
 dsimp only
 omega
section
/-- a part that may be: m bounds its logs, n replicas, Φ holds of all entries -/
structure Gd (Φ:cH->Prop) (K:List cH) (m n:Nat) (few:Int) (p:gD):Prop where
 ok:p.ok
 inv:y1 K p
 small: ∀ (i:Nat) (x:RA),p.reps[i]? =some x->x.es.length<=m
 ents: ∀ (i:Nat) (x:RA),p.reps[i]? =some x-> ∀ e∈x.es,Φ e
 len:p.reps.length=n
 few:p.few=few
variable {Φ:cH->Prop} {K:List cH} {m n:Nat} {few:Int} {p:gD} {r:Nat}
theorem Gd.mono (h:Gd Φ K m n few p) {m':Nat} (hm:m<=m'):Gd Φ K m' n few p:=⟨h.ok,h.inv,fun i x hx=>aT (h.small i x hx) hm,h.ents,h.len,h.few⟩
theorem MN {p:gD} (h:p.ok) {i:Nat} {x x':RA} (hx:p.reps[i]? =some x) (hk:x'.ok) (hu:p.leader=i->x'.up=true):({p with reps:=p.reps.set i x'}:gD).ok:=
 HM h (ab ..) (fun r hr=>by
  rcases bH hr with hr|rfl
  exact h.reps r hr
  exact hk) (fun l r h1 h2=>by
  rcases eX h2 with⟨rfl,rfl⟩|⟨_,h3⟩
  exact hu h1
  exact(h.lead l r h1 h3).2)
theorem Gd.set (h:Gd Φ K m n few p) {r:Nat} {x x':RA} (hx:p.reps[r]? =some x) (hk:x'.ok) (hu:p.leader=r->x'.up=true) (hm:x'.es.length<=m) (hΦ: ∀ e∈x'.es,Φ e)
  (c_ep: ∀ e∈x'.es,e.epoch<=p.epoch)
  (c_lm: ∀ (j:Nat) (y:RA) (n:Nat) (e f:cH),j≠r->p.reps[j]? =some y->x'.es[n]? =some e->y.es[n]? =some f->e.epoch=f.epoch->x'.es.take (n+1)=y.es.take (n+1))
  (c_cur1: ∀ (l:Nat) (y:RA) (n:Nat) (e:cH),p.leader=l->l≠r->p.reps[l]? =some y->x'.es[n]? =some e->e.epoch=p.epoch->n<y.es.length)
  (c_cur2:p.leader=r->x.es.length<=x'.es.length)
  (c_hi:x'.high.toNat<=K.length/\x'.es.take x'.high.toNat=K.take x'.high.toNat)
  (c_keep:p.isr[r]? =some true->K.length<=x'.s/\x'.es.take K.length=K)
  (c_kn1: ∀ (l:Nat) (y:RA) (v:Int),p.leader=l->l≠r->p.reps[l]? =some y->p.known[r]? =some v->v.toNat<=x'.s/\v.toNat<=y.es.length/\x'.es.take v.toNat=y.es.take v.toNat)
  (c_kn2:p.leader=r-> ∀ (i:Nat) (z:RA) (v:Int),i≠r->p.reps[i]? =some z->p.known[i]? =some v->v.toNat<=x'.es.length/\z.es.take v.toNat=x'.es.take v.toNat)
  (c_kn3:p.leader=r-> ∀ v:Int,p.known[r]? =some v->v.toNat<=x'.s/\v.toNat<=x'.es.length)
  (c_base:p.leader=r->(K.length:Int)<=max p.base x'.high):Gd Φ K m n few {p with reps:=p.reps.set r x'}:=
 ⟨MN h.ok hx hk hu,h.inv.set hx c_ep c_lm c_cur1 c_cur2 c_hi c_keep c_kn1 c_kn2 c_kn3 c_base,fun i y hy=>by
  rcases eX hy with⟨_,rfl⟩|⟨_,hy⟩
  exact hm
  exact h.small i y hy,fun i y hy=>by
  rcases eX hy with⟨_,rfl⟩|⟨_,hy⟩
  exact hΦ
  exact h.ents i y hy,by dsimp only;rw[ab];exact h.len,h.few⟩
theorem Gd.setK0 (h:Gd Φ K m n few p) (r:Nat):Gd Φ K m n few {p with known:=p.known.set r 0}:=⟨Dl h.ok r I I,h.inv.setK0 r,h.small,h.ents,h.len,h.few⟩
theorem Gd.none (h:Gd Φ K m n few p):Gd Φ K m n few {p with leader:= -1}:=⟨MO h.ok,h.inv.none,h.small,h.ents,h.len,h.few⟩
theorem Eg {p:gD} {i:Nat} {x:RA} (h:(nK p).reps[i]? =some x): ∃ y,p.reps[i]? =some y/\x.es=y.es/\x.s=y.s/\x.up=y.up:=by
 unfold nK at h
 split at h
 rename_i z hz
 split at h
 exact⟨x,h,rfl,rfl,rfl⟩
 rcases eX h with⟨rfl,rfl⟩|⟨_,h⟩
 exact⟨z,hz,rfl,rfl,rfl⟩
 exact⟨x,h,rfl,rfl,rfl⟩
 exact⟨x,h,rfl,rfl,rfl⟩
theorem Ih {p:gD}:(nK p).reps.length=p.reps.length/\(nK p).few=p.few/\(nK p).epoch=p.epoch/\(nK p).leader=p.leader/\(nK p).isr=p.isr/\(nK p).known=p.known:=by
 unfold nK
 split
 split
 simp
 simp
 simp
theorem Gd.adv (h:Gd Φ K m n few p): ∃ K',K<+:K'/\Gd Φ K' m n few (nK p):=by
 obtain⟨K',h1,h2⟩:=h.inv.adv h.ok
 refine⟨K',h1,Od h.ok,h2,fun i x hx=> ?_,fun i x hx e he=> ?_,Ih.1.trans h.len,Ih.2.1.trans h.few⟩
 obtain⟨y,hy,he,-⟩:=Eg hx
 rw[he];exact h.small i y hy
 obtain⟨y,hy,hee,-⟩:=Eg hx
 rw[hee]at he;exact h.ents i y hy e he
theorem Gd.same (h:Gd Φ K m n few p) {x x':RA} (hx:p.reps[r]? =some x) (he:x'.es=x.es) (hh:x'.high=x.high) (hs:x.s<=x'.s) (hsl:x'.s<=x.es.length) (hu:p.leader=r->x'.up=true):Gd Φ K m n few {p with reps:=p.reps.set r x'}:=by
 have hk:=h.ok.at_ hx
 refine h.set hx ⟨by rw[he];exact⟨hk.gl.good,hk.gl.len,hk.gl.sz,hsl⟩,by rw[hh];exact hk.high0,by rw[hh,he];exact hk.high1⟩ hu (by rw[he];exact h.small r x hx) (by rw[he];exact h.ents r x hx) (by rw[he];exact h.inv.ep r x hx) (fun j y n e f hj hy=>by rw[he];exact h.inv.lm r j x y n e f hx hy) (fun l y n e h1 h2 hy=>by rw[he];exact h.inv.cur l y r x n e h1 hy hx) (fun _=>by rw[he];exact ao _) (by rw[he,hh];exact h.inv.hi r x hx) (fun hi=> ?_) (fun l y v h1 h2 hy hv=> ?_) (fun h1 i z v hi hz hv=> ?_) (fun h1 v hv=> ?_) (fun h1=>by rw[hh];exact h.inv.base r x h1 hx)
 obtain⟨h1,h2⟩:=h.inv.keep r x hx hi
 exact⟨by omega,by rw[he];exact h2⟩
 obtain⟨h3,h4,h5⟩:=h.inv.kn l y r x v h1 hy hx hv
 exact⟨by omega,h4,by rw[he];exact h5⟩
 obtain⟨h3,h4,h5⟩:=h.inv.kn r x i z v h1 hx hz hv
 rw[he];exact⟨h4,h5⟩
 obtain⟨h3,h4,h5⟩:=h.inv.kn r x r x v h1 hx hx hv
 rw[he];exact⟨by omega,h4⟩
theorem Mt (h:Gd Φ K m n few p) (he:(nV p r).2=0): ∃ K',K<+:K'/\Gd Φ K' m n few (nV p r).1:=by
 obtain⟨x,hx,hu,hS⟩:=Ey he
 have hk:=h.ok.at_ hx
 have hsl:=hk.gl.sle
 have h1:=h.same (x':={x with s:=x.es.length}) hx Z Z hsl (ao _) (fun _=>hu)
 rw[hS]
 split
 rename_i hl
 have hx1:(p.reps.set r {x with s:=x.es.length})[r]? =some {x with s:=x.es.length}:=am (cD hx).1
 have h2:Gd Φ K m n few {p with reps:=p.reps.set r {x with s:=x.es.length},known:=p.known.set r x.es.length}:=
  ⟨Dl h1.ok r I (by have:=hk.gl.len;omega),h1.inv.setK (w:=x.es.length) fun l y z hl' hy hz=>by
   dsimp only at hl' hy hz
   have:l=r:=by omega
   subst this
   rw[hx1]at hy hz;cases hy;cases hz
   simp,h1.small,h1.ents,h1.len,h1.few⟩
 exact h2.adv
 exact⟨K,fp K,h1⟩
theorem MB (h:Gd Φ K m n few p) (he:(pO p r).2=0): ∃ K',K<+:K'/\Gd Φ K' m n few (pO p r).1:=by
 obtain⟨x,hx,hu,hS⟩:=EQ he
 rw[hS]
 exact⟨K,fp K,h.same hx Z Z (ao _) (h.ok.at_ hx).gl.sle (fun _=>rfl)⟩
theorem LQ {keep:Nat} (h:Gd Φ K m n few p) (he:(kr p r keep).2=0): ∃ K',K<+:K'/\Gd Φ K' m n few (kr p r keep).1:=by
 obtain⟨x,hx,hu,hS⟩:=CN he
 rw[hS]
 have hk:=h.ok.at_ hx
 have hge:=JB (keep:=keep) hk.gl.sle
 have hle:=CO x.es x.s keep
 generalize hc:jT x.es x.s keep=c at*
 have hlen:(x.es.take c).length=c:=by rw[aH];omega
 rw[hlen]
 obtain⟨q,hq,hqe⟩: ∃ q:gD,q={p with leader:=if p.leader=r then-1 else p.leader}/\Gd Φ K m n few q:=by
  refine⟨_,rfl,?_⟩
  by_cases hl:p.leader=r
  rw[if_pos hl];exact h.none
  rw[if_neg hl];exact h
 have h2:=hqe.setK0 r
 have hql:q.leader≠r:=by rw[hq];dsimp only;split<;>omega
 have e1:q.reps=p.reps:=by rw[hq]
 have e2:q.isr=p.isr:=by rw[hq]
 have e3:q.epoch=p.epoch:=by rw[hq]
 have e4:q.known=p.known:=by rw[hq]
 have hxq:q.reps[r]? =some x:=by rw[e1];exact hx
 have hkn:r<q.known.length:=by rw[e4,h.ok.knownl];exact(cD hx).1
 have h0:=hk.high0
 have hgt: ∀ {j:Nat} {e:cH},(x.es.take c)[j]? =some e->x.es[j]? =some e/\j<c:=fun{j e} hj=>by
  rw[df]at hj
  split at hj
  exact⟨hj,by assumption⟩
  cases hj
 refine⟨K,fp K,?_⟩
 have h3:=h2.set (x':=⟨false,x.es.take c,c,min x.high (c:Nat)⟩) hxq ⟨hk.gl.take c (by rw[hlen];exact ao _),by dsimp only;omega,by dsimp only;omega⟩ (fun hl=>absurd hl hql) (by dsimp only;rw[hlen];have:=h.small r x hx;omega) (fun e he=>h.ents r x hx e (qm _ _ he)) (fun e he=>by rw[show({q with known:=q.known.set r 0}:gD).epoch=p.epoch from e3];exact h.inv.ep r x hx e (qm _ _ he))
  (fun j y n e f hj hy h4 h5 hef=>by
   obtain⟨h6,h7⟩:=hgt h4
   have:=h.inv.lm r j x y n e f hx (by rw[<-e1];exact hy) h6 h5 hef
   dsimp only
   rw[de,br I];exact this)
  (fun l y n e hl hlr hy h4 hee=>by
   obtain⟨h6,h7⟩:=hgt h4
   have:=hqe.inv.cur l y r x n e hl hy hxq h6 hee
   exact this) (fun hl=>absurd hl hql) ?_ (fun hi=> ?_) (fun l y v hl hlr hy hv=> ?_) (fun hl=>absurd hl hql) (fun hl=>absurd hl hql) (fun hl=>absurd hl hql)
 subst hq;exact h3
 obtain⟨h4,h5⟩:=h.inv.hi r x hx
 dsimp only
 have h6:(min x.high (c:Int)).toNat<=x.high.toNat:=by omega
 refine⟨by omega,?_⟩
 rw[de,br I]
 exact zw h5 h6
 obtain⟨h4,h5⟩:=h.inv.keep r x hx (by rw[<-e2];exact hi)
 dsimp only
 exact⟨by omega,by rw[de,br I];exact h5⟩
 dsimp only at hv
 rw[am hkn]at hv
 cases hv
 simp
end
section
variable {Φ:cH->Prop} {K:List cH} {m n:Nat} {few:Int} {p:gD} {r:Nat}
theorem Mo (h:Gd Φ K m n few p) (he:(nT p r).2=0): ∃ K',K<+:K'/\Gd Φ K' m n few (nT p r).1:=by
 obtain⟨x,hx,hu,hi,hS⟩:=En he
 rw[hS]
 have hlr:p.leader≠r:=fun hl=>by
  have:=(h.ok.lead r x hl hx).2
  rw[hu]at this;cases this
 have h1:Gd Φ K m n few {p with isr:=p.isr.set r false}:=
  ⟨GF h.ok (ab ..) hi (fun l hl=>by
   have hlt:l<p.reps.length:=by have:=h.ok.ld1;omega
   rw[ch (by rintro rfl;exact hlr hl)]
   exact(h.ok.lead l _ hl (ah hlt)).1),h.inv.isrF r,h.small,h.ents,h.len,h.few⟩
 have h2:=h1.setK0 r
 have hkn:r<p.known.length:=by rw[h.ok.knownl];exact(cD hx).1
 have hil:r<p.isr.length:=by rw[h.ok.isrl];exact(cD hx).1
 refine⟨K,fp K,?_⟩
 have h3:=h2.set (x':=⟨false,[],0,0⟩) hx ⟨GL.of (by simp) (by simp) (by simp),by simp,by simp⟩ (fun hl=>absurd hl hlr) (by simp) (by simp) (by simp) (fun j y n e f hj hy h4=>by simp at h4) (fun l y n e hl hlr hy h4=>by simp at h4) (fun hl=>absurd hl hlr) (by simp) (fun hi=> ?_) (fun l y v hl hlr hy hv=> ?_) (fun hl=>absurd hl hlr) (fun hl=>absurd hl hlr) (fun hl=>absurd hl hlr)
 exact h3
 dsimp only at hi
 rw[am hil]at hi
 cases hi
 dsimp only at hv
 rw[am hkn]at hv
 cases hv
 simp
theorem IE (h:Gd Φ K m n few p) (he:(gY p r).2=0): ∃ K',K<+:K'/\Gd Φ K' m n few (gY p r).1:=by
 obtain⟨h0,hne,hS⟩:=zE he
 rw[hS]
 obtain⟨l,hl⟩: ∃ l:Nat,p.leader=l:=⟨p.leader.toNat,by omega⟩
 have hlt:l<p.reps.length:=by have:=h.ok.ld1;omega
 have hli:=(h.ok.lead l _ hl (ah hlt)).1
 have hlr:r≠l:=by omega
 have h1:Gd Φ K m n few {p with isr:=p.isr.set r false}:=
  ⟨GF h.ok (ab ..) (ae (i:=l) (by rw[ch hlr];exact hli)) (fun l' hl'=>by
   have:l'=l:=by omega
   subst this
   rw[ch hlr];exact hli),h.inv.isrF r,h.small,h.ents,h.len,h.few⟩
 exact h1.adv
theorem Jp (h:Gd Φ K m n few p) (he:(fK p r).2=0): ∃ K',K<+:K'/\Gd Φ K' m n few (fK p r).1:=by
 obtain⟨x,hx,h0,hne,hu,hk,hS⟩:=AG he
 rw[hS]
 obtain⟨l,hl⟩: ∃ l:Nat,p.leader=l:=⟨p.leader.toNat,by omega⟩
 obtain⟨y,hy⟩: ∃ y,p.reps[l]? =some y:=⟨_,ah (by have:=h.ok.ld1;omega)⟩
 have hli:=(h.ok.lead l y hl hy).1
 have hlr:r≠l:=by omega
 have hho:sw p=y.high:=by
  unfold sw
  rw[show p.leader.toNat=l by omega,hy]
 obtain⟨v,hv⟩: ∃ v,p.known[r]? =some v:=⟨_,ah (by rw[h.ok.knownl];exact(cD hx).1)⟩
 have hkg:p.known.getD r 0=v:=by rw[bY,hv];rfl
 rw[hho,hkg]at hk
 have hb:=h.inv.base l y hl hy
 obtain⟨k1,k2,k3⟩:=h.inv.kn l y r x v hl hy hx hv
 obtain⟨k4,k5⟩:=h.inv.keep l y hy hli
 refine⟨K,fp K,⟨GF h.ok (ab ..) (ae (i:=r) (am (by rw[h.ok.isrl];exact(cD hx).1))) (fun l' hl'=>by
   have:l'=l:=by omega
   subst this
   rw[ch hlr];exact hli),⟨h.inv.ep,h.inv.lm,h.inv.cur,h.inv.hi,fun i z hz hi=> ?_,h.inv.kn,h.inv.base⟩,h.small,h.ents,h.len,h.few⟩⟩
 rcases eX hi with⟨rfl,_⟩|⟨_,hi⟩
 dsimp only at hz
 rw[hx]at hz;cases hz
 have h1:K.length<=v.toNat:=by omega
 exact⟨by omega,by rw[zw k3 h1];exact k5⟩
 exact h.inv.keep i z hz hi
theorem LL (h:Gd Φ K m n few p) (he:(iZ p r).2=0): ∃ K',K<+:K'/\Gd Φ K' m n few (iZ p r).1:=by
 obtain⟨x,hx,hu,hi,hne,hep,hS⟩:=CL h.ok.isrl he
 rw[hS]
 have hk:=h.ok.at_ hx
 have hsl:=hk.gl.sle
 have hln:=hk.gl.len
 obtain⟨k1,k2⟩:=h.inv.keep r x hx hi
 have hok1:=MP h.ok (b:=(x.es.length:Nat)) hx hu hi hep I I
 have h1:Gd Φ K m n few {p with epoch:=p.epoch+1,leader:=(r:Nat),known:=(au p.reps.length 0).set r x.s,base:=(x.es.length:Nat)}:=by
  refine⟨E4 hok1 (by simp[h.ok.knownl]) (fun v hv=> ?_),⟨fun i y hy e he=> ?_,h.inv.lm,fun l y i z j e hl hy hz hj hee=> ?_,h.inv.hi,h.inv.keep,fun l y i z v hl hy hz hv=> ?_,fun l y hl hy=> ?_⟩,h.small,h.ents,h.len,h.few⟩
  rcases bH hv with hv|rfl
  rw[fE hv];omega
  omega
  have:=h.inv.ep i y hy e he;dsimp only;omega
  have:=h.inv.ep i z hz e (ae hj);dsimp only at hee;omega
  dsimp only at hl hy hz hv
  have:l=r:=by omega
  subst this
  rw[hx]at hy;cases hy
  rcases eX hv with⟨rfl,rfl⟩|⟨_,hv⟩
  rw[hx]at hz;cases hz
  simp;omega
  have:=fE (ae hv)
  subst this
  simp
  dsimp only at hl hy⊢
  have:l=r:=by omega
  subst this
  rw[hx]at hy;cases hy
  omega
 exact h1.adv
theorem N8 {e:cH} (h:Gd Φ K m n few p) (hΦ:Φ {e with epoch:=p.epoch}) (hm:m<400) (he:(eE p e).2.2=0): ∃ K',K<+:K'/\Gd Φ K' (m+1) n few (eE p e).1:=by
 obtain⟨x,l,hl,hx,hg,-,hS⟩:=HG he
 rcases hS with⟨-,hS,-⟩|⟨-,-,hS,-⟩
 rw[hS];exact⟨K,fp K,h.mono (bE m)⟩
 rw[hS]
 have hk:=h.ok.at_ hx
 have hsm:=h.small l x hx
 have hm1:=h.mono (bE m)
 have hlu:=(h.ok.lead l x hl hx).2
 have happ: ∀ {j:Nat} {f:cH},(x.es++[{e with epoch:=p.epoch}])[j]? =some f->x.es[j]? =some f∨(j=x.es.length/\f={e with epoch:=p.epoch}):=fun{j f} hj=>by
  by_cases hjl:j<x.es.length
  rw[cn hjl]at hj;exact .inl hj
  have h1:=(az.1 hj).1
  simp at h1
  have:j=x.es.length:=by omega
  subst this
  simp at hj
  exact .inr ⟨rfl,hj.symm⟩
 have htk: ∀ j,j<=x.es.length->(x.es++[{e with epoch:=p.epoch}]).take j=x.es.take j:=fun j hj=>ib hj
 have hhi:=hk.high1
 have hh0:=hk.high0
 have hsl:=hk.gl.sle
 refine⟨K,fp K,hm1.set (x':={x with es:=x.es++[{e with epoch:=p.epoch}]}) hx ⟨GL.of (fun f hf=> ?_) (by simp;omega) (by simp;omega),hh0,by simp;omega⟩ (fun _=>hlu) (by simp;omega) (fun f hf=> ?_) (fun f hf=> ?_) (fun j y i e' f hj hy h4 h5 hef=> ?_) (fun l' y i e' h1 h2=>absurd I h2) (fun _=>by simp) ?_ (fun hi=> ?_) (fun l' y v h1 h2=>absurd I h2) (fun _ i z v hi hz hv=> ?_) (fun _ v hv=> ?_) (fun _=>h.inv.base l x hl hx)⟩
 rcases ar.1 hf with hf|hf
 exact hk.gl.good f hf
 rw[aq.1 hf];exact hg
 rcases ar.1 hf with hf|hf
 exact h.ents l x hx f hf
 rw[aq.1 hf];exact hΦ
 rcases ar.1 hf with hf|hf
 exact h.inv.ep l x hx f hf
 rw[aq.1 hf];exact ic _
 rcases happ h4 with h6|⟨rfl,rfl⟩
 have:=h.inv.lm l j x y i e' f hx hy h6 h5 hef
 dsimp only
 rw[htk _ (by have:=(cD h6).1;omega)];exact this
 have:=h.inv.cur l x j y _ f hl hx hy h5 hef.symm
 omega
 obtain⟨h1,h2⟩:=h.inv.hi l x hx
 exact⟨h1,by dsimp only;rw[htk _ I];exact h2⟩
 obtain⟨h1,h2⟩:=h.inv.keep l x hx hi
 exact⟨h1,by dsimp only;rw[htk _ I];exact h2⟩
 obtain⟨h1,h2,h3⟩:=h.inv.kn l x i z v hl hx hz hv
 exact⟨by simp;omega,by dsimp only;rw[htk _ h2];exact h3⟩
 obtain⟨h1,h2,h3⟩:=h.inv.kn l x l x v hl hx hx hv
 exact⟨h1,by simp;omega⟩
theorem E7: ∀ {a b:List cH} {k:Nat},k<=a.length->a.take k=b.take k->k<=ed a b
 |_,_,0,_,_=>bA _
 |[],_,k+1,h,_=>by simp at h
 |a::l,[],k+1,_,h=>by simp at h
 |a::l,b::m,k+1,hl,h=>by
  simp at h
  obtain⟨rfl,h⟩:=h
  unfold ed
  rw[if_pos Z]
  have:=E7 (by simpa using hl) h
  omega
theorem vF: ∀ {a b:List cH} {k:Nat},k<ed a b-> ∃ e f,a[k]? =some e/\b[k]? =some f/\e.epoch=f.epoch
 |[],_,_,h=>by simp[ed]at h
 |_::_,[],_,h=>by simp[ed]at h
 |a::l,b::m,k,h=>by
  unfold ed at h
  split at h
  rename_i hab
  cases k with
  |zero=>exact⟨a,b,rfl,rfl,hab⟩
  |succ k=>
   obtain⟨e,f,h1,h2,h3⟩:=vF (a:=l) (b:=m) (k:=k) I
   exact⟨e,f,h1,h2,h3⟩
  omega
theorem LA (h:Gd Φ K m n few p) (he:(iX p r).2.2=0): ∃ K',K<+:K'/\Gd Φ K' m n few (iX p r).1:=by
 obtain⟨x,y,l,hx,hl,hne,hu,hy⟩:=CI h.ok he
 rw[uy hx hl hne hu hy]
 have hkx:=h.ok.at_ hx
 have hky:=h.ok.at_ hy
 have hle:=uo x.es y.es
 have hge:=fun k h1 h2=>E7 (a:=x.es) (b:=y.es) (k:=k) h1 h2
 have hpre:x.es.take (ed x.es y.es)=y.es.take (ed x.es y.es):=by
  cases hc:ed x.es y.es with
  |zero=>simp
  |succ c=>
   obtain⟨e,f,h1,h2,h3⟩:=vF (a:=x.es) (b:=y.es) (k:=c) I
   exact h.inv.lm r l x y c e f hx hy h1 h2 h3
 generalize hc:ed x.es y.es=c at*
 have hlen:(x.es.take c).length=c:=by rw[aH];omega
 have hsx:=hkx.gl.sle
 have hxh0:=hkx.high0
 have hyh0:=hky.high0
 have hyh1:=hky.high1
 have hyl:=hky.gl.len
 have hkn:r<p.known.length:=by rw[h.ok.knownl];exact(cD hx).1
 have hlr:p.leader≠(r:Nat):=by omega
 obtain⟨hb1,hb2⟩:=h.inv.keep l y hy (h.ok.lead l y hl hy).1
 have key: ∀ {K:List cH} {q:gD} {x0:RA} (x1:RA) (c':Nat) (y':RA),Gd Φ K m n few q->q.reps[r]? =some x0->q.leader=l->q.reps[l]? =some y'->y'.es=y.es->q.epoch=p.epoch->x1.es=y.es.take c'->c'<=y.es.length->x1.s<=c'->0<=x1.high->x1.high<=c'->x1.high.toNat<=K.length->
   (q.isr[r]? =some true->K.length<=x1.s)->(∀ v:Int,q.known[r]? =some v->v.toNat<=x1.s)->Gd Φ K m n few {q with reps:=q.reps.set r x1}:=by
  intro K q x0 x1 c' y' hq hx0 hql hqy hye hqe h1 hc' h2 h3 h4 h5 h6 h7
  have hqlr:q.leader≠(r:Nat):=by omega
  obtain⟨hb3,hb4⟩:=hq.inv.keep l y' hqy (hq.ok.lead l y' hql hqy).1
  have hKl:K.length<=y.es.length:=by have:=(hq.ok.at_ hqy).gl.sle;rw[hye]at this;omega
  rw[hye]at hb4
  have hmem: ∀ e∈x1.es,e∈y'.es:=fun e he=>by rw[h1]at he;rw[hye];exact qm _ _ he
  have hget: ∀ {j:Nat} {e:cH},x1.es[j]? =some e->y.es[j]? =some e/\j<c':=fun{j e} hj=>by
   rw[h1,df]at hj
   split at hj
   exact⟨hj,by assumption⟩
   cases hj
  have hKt: ∀ k,k<=K.length->y.es.take k=K.take k:=fun k hk=>by
   have:=congrArg (sP k) hb4
   rwa[de,br hk]at this
  have hx1l:x1.es.length=c':=by rw[h1,aH];omega
  refine hq.set hx0 ⟨GL.of (fun e he=>(hq.ok.at_ hqy).gl.good e (hmem e he)) I I,h3,by omega⟩ (fun hl=>absurd hl hqlr) (by have:=hq.small l y' hqy;rw[hye]at this;omega) (fun e he=>hq.ents l y' hqy e (hmem e he)) (fun e he=>hq.inv.ep l y' hqy e (hmem e he)) (fun j z i e f hj hz h8 h9 hef=> ?_) (fun l' z i e hl' hlr' hz h8 hee=> ?_) (fun hl=>absurd hl hqlr) ⟨h5,?_⟩ (fun hi=>⟨h6 hi,?_⟩) (fun l' z v hl' hlr' hz hv=> ?_) (fun hl=>absurd hl hqlr) (fun hl=>absurd hl hqlr) (fun hl=>absurd hl hqlr)
  obtain⟨h10,h11⟩:=hget h8
  have:=hq.inv.lm l j y' z i e f hqy hz (by rw[hye];exact h10) h9 hef
  rw[h1,de,br I,<-hye];exact this
  have:l'=l:=by omega
  subst this
  rw[hqy]at hz;cases hz
  rw[hye]
  exact(cD (hget h8).1).1
  rw[h1,de,br I]
  exact hKt _ h5
  have:=h6 hi
  rw[h1,de,br I];exact hb4
  have:l'=l:=by omega
  subst this
  rw[hqy]at hz;cases hz
  have:=h7 v hv
  exact⟨this,by rw[hye];omega,by rw[h1,de,br I,hye]⟩
 have hKc:p.isr[r]? =some true->K.length<=min x.s c:=fun hi=>by
  obtain⟨h1,h2⟩:=h.inv.keep r x hx hi
  have:=hge K.length I (by rw[h2,hb2])
  omega
 obtain⟨hhx1,hhx2⟩:=h.inv.hi r x hx
 have hmx:min x.s c<=c:=by omega
 have g1:=h.setK0 r
 have g2:=key (K:=K) (q:={p with known:=p.known.set r 0}) (x0:=x) ⟨x.up,y.es.take c,min x.s c,min x.high c⟩ c y g1 hx hl hy Z Z Z hle.2 hmx (by dsimp only;omega) (by dsimp only;omega) (by dsimp only;omega) hKc (fun v hv=>by
  dsimp only at hv
  rw[am hkn]at hv
  cases hv;simp)
 have hx2:(p.reps.set r ⟨x.up,y.es.take c,min x.s c,min x.high c⟩)[r]? =some ⟨x.up,y.es.take c,min x.s c,min x.high c⟩:=am (cD hx).1
 have hy2:(p.reps.set r ⟨x.up,y.es.take c,min x.s c,min x.high c⟩)[l]? =some y:=by rw[ch hne];exact hy
 have g3:Gd Φ K m n few {p with reps:=p.reps.set r ⟨x.up,y.es.take c,min x.s c,min x.high c⟩,known:=p.known.set r (min x.s c:Nat)}:=by
  refine⟨?_,?_,g2.small,g2.ents,g2.len,g2.few⟩
  have:=Dl g2.ok r (v:=(min x.s c:Nat)) I (by have:=hky.gl.len;omega)
  dsimp only at this
  rw[fo]at this
  exact this
  have:=g2.inv.setK (r:=r) (w:=(min x.s c:Nat)) fun l' z z2 hl' hz hz2=>by
   dsimp only at hl' hz hz2
   have:l'=l:=by omega
   subst this
   rw[hy2]at hz;cases hz
   rw[hx2]at hz2;cases hz2
   dsimp only
   simp only[ud]
   refine⟨ao _,by omega,by rw[de,br hmx]⟩
  dsimp only at this
  rw[fo]at this
  exact this
 obtain⟨K',hK',g4⟩:=g3.adv
 rw[xf (p:={p with reps:=p.reps.set r ⟨x.up,y.es.take c,min x.s c,min x.high c⟩,known:=p.known.set r (min x.s c:Nat)}) (l:=l) (r:=y) hl hy2]at g4
 generalize hH:max y.high (min (du p.isr (p.known.set r (min x.s c:Nat)) 400) y.es.length)=H at*
 have hy4:((p.reps.set r ⟨x.up,y.es.take c,min x.s c,min x.high c⟩).set l {y with high:=H})[l]? =some {y with high:=H}:=am (by rw[ab];exact(cD hy).1)
 have hx4:((p.reps.set r ⟨x.up,y.es.take c,min x.s c,min x.high c⟩).set l {y with high:=H})[r]? =some ⟨x.up,y.es.take c,min x.s c,min x.high c⟩:=by rw[ch (Ne.symm hne)];exact hx2
 have hK'l:K.length<=K'.length:=hK'.length_le
 have hHK:H.toNat<=K'.length:=(g4.inv.hi l _ hy4).1
 have hset: ∀ x1:RA,(((p.reps.set r ⟨x.up,y.es.take c,min x.s c,min x.high c⟩).set l {y with high:=H}).set r x1)=(p.reps.set l {y with high:=H}).set r x1:=fun x1=>by
  rw[Be _ _ (Ne.symm hne),fo,Be _ _ hne]
 have hK'c:p.isr[r]? =some true->K'.length<=min x.s c:=fun hi=>(g4.inv.keep r _ hx4 hi).1
 have hknr: ∀ v:Int,(p.known.set r (min x.s c:Nat))[r]? =some v->v.toNat<=min x.s c:=fun v hv=>by
  rw[am hkn]at hv
  cases hv;simp
 refine⟨K',hK',?_⟩
 unfold jX
 rw[hc]
 cases hz:y.es[c]? with
 |none=>
  have g5:=key ⟨x.up,x.es.take c,min x.s c,min (max x.high H) (c:Nat)⟩ c {y with high:=H} g4 hx4 hl hy4 Z Z hpre hle.2 hmx (by dsimp only;omega) (by dsimp only;omega) (by dsimp only;omega) hK'c hknr
  dsimp only at g5⊢
  rw[hset]at g5
  exact g5
 |some z=>
  have hzl:=(cD hz).1
  have hes:x.es.take c++[z]=y.es.take (c+1):=by rw[hpre,List.take_add_one,hz];rfl
  have g5:=key ⟨x.up,x.es.take c++[z],min x.s c,min (max x.high H) ((c:Nat)+1)⟩ (c+1) {y with high:=H} g4 hx4 hl hy4 Z Z hes I (by dsimp only;omega) (by dsimp only;omega) (by dsimp only;omega) (by dsimp only;omega) hK'c hknr
  dsimp only at g5⊢
  rw[hset]at g5
  exact g5
theorem Dn {n few:Nat} (h1:1<=n) (h5:n<=5) (hf:1<=few) (hfn:few<=n):Gd Φ [] 0 n few (nf n few):=by
 have hr: ∀ (i:Nat) (x:RA),(nf n few).reps[i]? =some x->x=⟨true,[],0,0⟩:=fun i x hx=>fE (ae hx)
 refine⟨⟨by simp[nf]<;>omega,by simp[nf]<;>omega,by simp[nf]<;>omega,by simp[nf]<;>omega,by simp[nf]<;>omega,by simp[nf]<;>omega,by simp[nf]<;>omega,by simp[nf]<;>omega,by simp[nf]<;>omega,by simp[nf]<;>omega,by simp[nf]<;>omega,by simp[nf]<;>omega,by simp[nf]<;>omega,fun l r hl=>by simp[nf]at hl<;>omega,fun r hr=> ?_,fun v hv=> ?_⟩,⟨fun i x hx=>by rw[hr i x hx];simp,fun i j x y k e f hx hy he=>by rw[hr i x hx]at he;simp at he,fun l y i x k e hl=>by simp[nf]at hl<;>omega,fun i x hx=>by rw[hr i x hx];simp,fun i x hx _=>by rw[hr i x hx];simp,fun l y i x v hl=>by simp[nf]at hl<;>omega,fun l y hl=>by simp[nf]at hl<;>omega⟩,fun i x hx=>by rw[hr i x hx];simp,fun i x hx=>by rw[hr i x hx];simp,by simp[nf]<;>omega,rfl⟩
 rw[fE hr]
 exact⟨GL.of (by simp) (by simp) (by simp),by simp,by simp⟩
 rw[fE hv];omega
end

def Pz:Deep Pa:=⟨fun p=>p.rd,fun _ _ _ _ _ hk h=>h.st hk,fun _ _ _ _ _ _ h h1 h2=>h.mono h1 h2⟩
/-- a producer's transactions, and where its parts lie -/
structure Tx where
 name:ByteArray
 pid:Int
 ver:Int
 state:Int
 parts:List Int
 since:Int
 done:Int
 A:Option Addr
 cap:Nat
def Tx.c (t:Tx):List Value:=[.string t.name,.int .i64 t.pid,.int .i64 t.ver,.int .i64 t.state,.slice t.A t.parts.length t.cap,.int .i64 t.since,.int .i64 t.done]
abbrev Tx.v (t:Tx):Value:=.agg t.c.toArray
def rx:fj Tx:=⟨Tx.c,7,fun _=>rfl,by decide,fun a u hu=>by
 simp only[Tx.c,av,bx,or_false]at hu
 rcases hu with h|h|h|h|h|h|h<;>subst h<;>rfl⟩
def qV (c:UInt8):Bool:=decide (97<=(c.toNat:Int))&&decide ((c.toNat:Int)<=122)
def bM (s:ByteArray):Bool:=decide (s≠⟨#[]⟩)&&decide ((s.size:Int)<=8)&&s.data.toList.all qV
def cT:Int->List Int->Bool
 |_,[]=>true
 |last,p::l=>decide (last<p)&&decide (p<4)&&cT p l
def fG (clock next:Int) (t:Tx):Bool:=bM t.name&&decide (1<=t.pid)&&decide (t.pid<next)&&iQ t.ver&&decide (1<=t.state)&&decide (t.state<=4)&&decide (0<=t.since)&&decide (t.since<=clock)&&(decide (t.done=0)||decide (t.done=3)||decide (t.done=4))
 &&cT (-1) t.parts&&(decide (t.state=1)==decide (t.parts.length=0))
theorem cB {ck nx:Int} {t:Tx}:fG ck nx t=true↔bM t.name=true/\1<=t.pid/\t.pid<nx/\iQ t.ver=true/\1<=t.state/\t.state<=4/\0<=t.since/\t.since<=ck/\(t.done=0∨t.done=3∨t.done=4)/\cT (-1) t.parts=true/\(t.state=1↔t.parts.length=0):=by
 unfold fG
 simp only[aS,ry,decide_eq_true_eq,beq_iff_eq,decide_eq_decide,and_assoc,or_assoc]
theorem wz (es:List UInt8) (A:Option Addr) (c:Nat) (w:World) (hr:Rd dA 0 w.heap.size A es w) (hb:es.length<=1000000) (f:FuncId) (cap:List Value) (hf:bi aa f=true) (pred:UInt8->Bool)
  (hp: ∀ e w',e∈es->Below w.heap.size w w'->dd aa f (.int .u8 (e.toNat:Nat)::cap) w' fun v w2=>v=.bool (pred e)/\Below w'.heap.size w' w2):
  dd aa ob [.slice A es.length c,.func (.func f) #[] cap.toArray] w fun v w2=>v=J (lB (es.findIdx? pred))/\Below w.heap.size w w2:=by
 refine aE nt Z Z ?_
 have H:=Hp.startRd hr
 refine W<|Zr<|G (Wi Z)<|U<|W<|W<|Zr<|G (Ys Z)<|G (bn eN Z)<|G (Yi Z)<|U<|Zb ?_
 refine cf (τ:=Nat) [4,5,8,9,10,11,12,13,14,15,16,17,18] (fun k=>[(8,J (k:Nat))]) (fun k w'=>k<=es.length/\(∀ j e,j<k->es[j]? =some e->pred e=false)/\Hp w w' [] [dG dA 0 w.heap.size A es]) (fun k=>es.length-k) 0 ⟨by omega,by intro j e hj;omega,H⟩ (dF Z) ?_
 rintro k ρ1 w1 ⟨hk,hno,H⟩
 show CW _ _ _ _ (dv (gk _ _ ρ1) [(8,J (k:Nat))]) w1
 refine W<|Zr ?_
 refine cR (cG Z Z) Z Z Z (fun h9=> ?_) (fun h9=> ?_)
 refine U<|W<|ZT Z<|Zk<|W<|Zb<|W<|Zr<|G (Yi Z)<|G (Wi Z)<|U<|W<|Zr<|G (sS Z)<|G (Ys Z)<|G (Yi Z)<|pK H 0 Z d5 Z Z I I Z fun b2 o2 x2 e2=>G (aV mo Z (e2.cl 0 _ Z)) ?_
 refine Ns hf Z (hp x2 _ (ae e2.at_) H.below) Z Z ?_;rintro _ w3 ⟨rfl,hb2⟩;replace H:=H.later hb2;clear hb2
 refine mq 16 Z (fun h16=> ?_) (fun h16=> ?_)
 refine U<|ZT Z<|W<|Zr<|G (Yi Z)<|G (Wi Z)<|U<|Zt ?_
 have hi:es.findIdx? pred=some k:=by
  rw[bg]
  obtain⟨hl,hx⟩:=cD e2.at_
  exact⟨hl,by rw[hx];exact h16,fun j hj=>by rw[hno j _ hj (ah I)];simp⟩
 exact cF (v:=J (k:Nat)) Z Z ⟨by rw[hi];rfl,H.below⟩
 refine U<|ZF Z<|Zk<|Zr<|G (bp Z Z I I)<|G (Yi Z)<|U ?_
 refine⟨k+1,⟨by omega,fun j e hj he=> ?_,H⟩,dF Z,Qg,by show es.length- (k+1)<es.length-k;omega⟩
 by_cases hji:j<k
 exact hno j e hji he
 have:j=k:=by omega
 subst this;have he2:=e2.at_;rw[he]at he2;injection he2 with he2;subst he2;exact h16
 refine U<|W<|ZF Z<|Zx<|W<|Zr<|G (Wi Z)<|U<|Zt ?_
 have hi:es.findIdx? pred=none:=by
  rw[dp]
  intro e he
  obtain⟨j,hj⟩:=aK.1 he
  exact hno j e (by have:=(cD hj).1;omega) hj
 exact cF (v:=J (-1)) Z Z ⟨by rw[hi];rfl,H.below⟩
theorem oy (es:List UInt8) (A:Option Addr) (c:Nat) (w:World) (hr:Rd dA 0 w.heap.size A es w) (hb:es.length<=1000000) (f:FuncId) (cap:List Value) (hf:bi aa f=true) (pred:UInt8->Bool)
  (hp: ∀ e w',e∈es->Below w.heap.size w w'->dd aa f (.int .u8 (e.toNat:Nat)::cap) w' fun v w2=>v=.bool (pred e)/\Below w'.heap.size w' w2):
  dd aa mt [.slice A es.length c,.func (.func f) #[] cap.toArray] w fun v w2=>v=.bool (es.any pred)/\Below w.heap.size w w2:=by
 refine aE l8 Z Z ?_
 have H:=Hp.start w
 refine W<|Zr<|G (Wb Z)<|U<|W<|Zr<|G (Ys Z)<|G (sS Z)<|cd nD (wz es _ _ _ hr hb f cap hf pred hp) Z Z ?_
 rintro _ w1 ⟨rfl,hb⟩;replace H:=H.later hb;clear hb
 refine G (ke Z Z)<|G (Wb Z)<|U<|Zt ?_
 have hv:decide (0<=lB (es.findIdx? pred))=es.any pred:=by
  cases hi:es.findIdx? pred with
  |none=>rw[dp]at hi;simp[lB];exact fun a h=>hi a h
  |some i=>
   obtain⟨hl,h1,-⟩:=bg.1 hi
   have:es.any pred=true:=List.any_eq_true.2 ⟨_,mh hl,h1⟩
   rw[this];simp[lB]
 exact cF (v:=.bool (decide (0<=lB (es.findIdx? pred)))) Z Z ⟨by rw[hv],H.below⟩
theorem fW (es:List Tx) (A:Option Addr) (c:Nat) (w:World) (hr:Rd rx 0 w.heap.size A es w) (hb:es.length<=1000000) (f:FuncId) (cap:List Value) (hf:bi aa f=true) (pred:Tx->Bool)
  (hp: ∀ e w',e∈es->Below w.heap.size w w'->dd aa f (.agg (rx.f e).toArray::cap) w' fun v w2=>v=.bool (pred e)/\Below w'.heap.size w' w2):
  dd aa pw [.slice A es.length c,.func (.func f) #[] cap.toArray] w fun v w2=>v=J (lB (es.findIdx? pred))/\Below w.heap.size w w2:=by
 refine aE oS Z Z ?_
 have H:=Hp.startRd hr
 refine W<|Zr<|G (Wi Z)<|U<|W<|W<|Zr<|G (Ys Z)<|G (bn lf Z)<|G (Yi Z)<|U<|Zb ?_
 refine cf (τ:=Nat) [4,5,8,9,10,11,12,13,14,15,16,17,18] (fun k=>[(8,J (k:Nat))]) (fun k w'=>k<=es.length/\(∀ j e,j<k->es[j]? =some e->pred e=false)/\Hp w w' [] [dG rx 0 w.heap.size A es]) (fun k=>es.length-k) 0 ⟨by omega,by intro j e hj;omega,H⟩ (dF Z) ?_
 rintro k ρ1 w1 ⟨hk,hno,H⟩
 show CW _ _ _ _ (dv (gk _ _ ρ1) [(8,J (k:Nat))]) w1
 refine W<|Zr ?_
 refine cR (cG Z Z) Z Z Z (fun h9=> ?_) (fun h9=> ?_)
 refine U<|W<|ZT Z<|Zk<|W<|Zb<|W<|Zr<|G (Yi Z)<|G (Wi Z)<|U<|W<|Zr<|G (sS Z)<|G (Ys Z)<|G (Yi Z)<|pK H 0 Z gH Z Z I I Z fun b2 o2 x2 e2=>G (jd (xs:=rx.f x2) zh Z Z e2.cl) ?_
 refine Ns hf Z (hp x2 _ (ae e2.at_) H.below) Z Z ?_;rintro _ w3 ⟨rfl,hb2⟩;replace H:=H.later hb2;clear hb2
 refine mq 16 Z (fun h16=> ?_) (fun h16=> ?_)
 refine U<|ZT Z<|W<|Zr<|G (Yi Z)<|G (Wi Z)<|U<|Zt ?_
 have hi:es.findIdx? pred=some k:=by
  rw[bg]
  obtain⟨hl,hx⟩:=cD e2.at_
  exact⟨hl,by rw[hx];exact h16,fun j hj=>by rw[hno j _ hj (ah I)];simp⟩
 exact cF (v:=J (k:Nat)) Z Z ⟨by rw[hi];rfl,H.below⟩
 refine U<|ZF Z<|Zk<|Zr<|G (bp Z Z I I)<|G (Yi Z)<|U ?_
 refine⟨k+1,⟨by omega,fun j e hj he=> ?_,H⟩,dF Z,Qg,by show es.length- (k+1)<es.length-k;omega⟩
 by_cases hji:j<k
 exact hno j e hji he
 have:j=k:=by omega
 subst this;have he2:=e2.at_;rw[he]at he2;injection he2 with he2;subst he2;exact h16
 refine U<|W<|ZF Z<|Zx<|W<|Zr<|G (Wi Z)<|U<|Zt ?_
 have hi:es.findIdx? pred=none:=by
  rw[dp]
  intro e he
  obtain⟨j,hj⟩:=aK.1 he
  exact hno j e (by have:=(cD hj).1;omega) hj
 exact cF (v:=J (-1)) Z Z ⟨by rw[hi];rfl,H.below⟩
theorem uM (es:List Tx) (A:Option Addr) (c:Nat) (w:World) (hr:Rd rx 0 w.heap.size A es w) (hb:es.length<=1000000) (f:FuncId) (cap:List Value) (hf:bi aa f=true) (pred:Tx->Bool)
  (hp: ∀ e w',e∈es->Below w.heap.size w w'->dd aa f (.agg (rx.f e).toArray::cap) w' fun v w2=>v=.bool (pred e)/\Below w'.heap.size w' w2):
  dd aa nk [.slice A es.length c,.func (.func f) #[] cap.toArray] w fun v w2=>v=.bool (es.any pred)/\Below w.heap.size w w2:=by
 refine aE mU Z Z ?_
 have H:=Hp.start w
 refine W<|Zr<|G (Wb Z)<|U<|W<|Zr<|G (Ys Z)<|G (sS Z)<|cd dD (fW es _ _ _ hr hb f cap hf pred hp) Z Z ?_
 rintro _ w1 ⟨rfl,hb⟩;replace H:=H.later hb;clear hb
 refine G (ke Z Z)<|G (Wb Z)<|U<|Zt ?_
 have hv:decide (0<=lB (es.findIdx? pred))=es.any pred:=by
  cases hi:es.findIdx? pred with
  |none=>rw[dp]at hi;simp[lB];exact fun a h=>hi a h
  |some i=>
   obtain⟨hl,h1,-⟩:=bg.1 hi
   have:es.any pred=true:=List.any_eq_true.2 ⟨_,mh hl,h1⟩
   rw[this];simp[lB]
 exact cF (v:=.bool (decide (0<=lB (es.findIdx? pred)))) Z Z ⟨by rw[hv],H.below⟩
theorem AM (n:Int) (w:World):dd aa Ak [J n] w fun v w2=>v=.bool (iQ n)/\Below w.heap.size w w2:=by
 refine aE yQ Z Z ?_
 have H:=Hp.start w
 refine W<|Zr<|G (Wb Z)<|U<|W<|Zr<|G (Yi Z) ?_
 refine cR (ke Z Z) Z Z Z (fun h4=> ?_) (fun h4=> ?_)
 refine G (Yb Z)<|ZG<|G (Yi Z)<|ZG ?_
 refine cR (K7 Z Z) Z Z Z (fun h7=> ?_) (fun h7=> ?_)
 refine G (Kt Z Z)<|G (Wb Z)<|U<|Zt ?_
 have hv:iQ n=true:=by unfold iQ;simp;omega
 exact cF (v:=.bool true) Z Z ⟨by rw[hv],H.below⟩
 refine G (Kt Z Z)<|G (Wb Z)<|U<|Zt ?_
 have hv:iQ n=false:=by unfold iQ;simp;omega
 exact cF (v:=.bool false) Z Z ⟨by rw[hv],H.below⟩
 refine G (Yb Z)<|ZN<|ZN<|G (N Z Z)<|G (Wb Z)<|U<|Zt ?_
 have hv:iQ n=false:=by unfold iQ;simp;omega
 exact cF (v:=.bool false) Z Z ⟨by rw[hv],H.below⟩
theorem GI (c:UInt8) (w:World):dd aa sW [.int .u8 (c.toNat:Nat)] w fun v w2=>v=.bool (!qV c)/\Below w.heap.size w w2:=by
 refine aE xM Z Z ?_
 have H:=Hp.start w
 refine W<|Zr<|G (Wb Z)<|U<|W<|Zr<|G (Yi Z) ?_
 refine cR (cG Z Z) Z Z Z (fun h4=> ?_) (fun h4=> ?_)
 refine G (Yb Z)<|ZN<|ZN<|G (Kt Z Z)<|G (Wb Z)<|U<|Zt ?_
 have hv:(!qV c)=true:=by unfold qV;simp;omega
 exact cF (v:=.bool true) Z Z ⟨by rw[hv],H.below⟩
 refine G (Yb Z)<|ZG<|G (Yi Z)<|ZG ?_
 refine cR (jV Z Z) Z Z Z (fun h7=> ?_) (fun h7=> ?_)
 refine G (N Z Z)<|G (Wb Z)<|U<|Zt ?_
 have hv:(!qV c)=true:=by unfold qV;simp;omega
 exact cF (v:=.bool true) Z Z ⟨by rw[hv],H.below⟩
 refine G (N Z Z)<|G (Wb Z)<|U<|Zt ?_
 have hv:(!qV c)=false:=by unfold qV;simp;omega
 exact cF (v:=.bool false) Z Z ⟨by rw[hv],H.below⟩
theorem Dp (s:ByteArray) (w:World):dd aa DG [.string s] w fun v w2=>v=.bool (bM s)/\Below w.heap.size w w2:=by
 refine aE BQ Z Z ?_
 have H:=Hp.start w
 refine W<|Zr<|G (Wb Z)<|U<|W<|W<|Zr<|G (Yt Z) ?_
 refine cR (vA Z Z) Z Z Z (fun h4=> ?_) (fun h4=> ?_)
 refine G (Yb Z)<|ZN<|ZN<|ZN<|G (Kt Z Z)<|U<|ZT Z<|W<|Zr<|G (Wb Z)<|U<|Zt ?_
 have hv:bM s=false:=by unfold bM;simp;simp[h4]
 exact cF (v:=.bool false) Z Z ⟨by rw[hv],H.below⟩
 refine G (Yb Z)<|ZG<|G (Yt Z)<|ZG<|G (GR jq Z)<|ZG ?_
 refine cR (jV Z Z) Z Z Z (fun h8=> ?_) (fun h8=> ?_)
 refine G (N Z Z)<|U<|ZT Z<|W<|Zr<|G (Wb Z)<|U<|Zt ?_
 have hv:bM s=false:=by unfold bM;simp;omega
 exact cF (v:=.bool false) Z Z ⟨by rw[hv],H.below⟩
 refine G (N Z Z)<|U<|ZF Z<|Zk<|W<|Zr<|G (Yt Z)<|Pf (Y:=dA) H jq d5 ik Z (fun _=>rfl) Z Z fun w1 A11 c11 hc11 H=> ?_
 have hlen:s.data.toList.length=s.size:=by rw[cj];rfl
 refine cd iy (oy s.data.toList _ _ _ (H.rd0 0 Z) I sW [] xU (fun c=>!qV c) (fun e w2 _ _=>GI e w2)) Z Z ?_
 rintro _ w2 ⟨rfl,hb⟩;replace H:=H.later hb;clear hb
 refine G (dO Z)<|G (Wb Z)<|U<|Zt ?_
 have h8b:decide ((s.size:Int)<=8)=true:=decide_eq_true I
 have hv:bM s=!(s.data.toList.any fun c=>!qV c):=by unfold bM;rw[decide_eq_true h4,h8b,gW,gW,List.all_eq_not_any_not]
 exact cF (v:=.bool (!(s.data.toList.any fun c=>!qV c))) Z Z ⟨by rw[hv],H.below⟩
section
/-- an insertion sort's inner loop -/
def zD {α:Type} (lt:α->α->Bool):Nat->List α->List α
 |0,l=>l
 |j+1,l=>match l[j]?,l[j+1]? with
  |some a,some b=>if lt b a then zD lt j ((l.set (j+1) a).set j b)else l
  |_,_=>l
def ka {α:Type} (lt:α->α->Bool):Nat->List α->List α
 |0,l=>l
 |i+1,l=>zD lt i (ka lt i l)
theorem EH {α:Type} {lt:α->α->Bool}: ∀ {j:Nat} {l:List α},(zD lt j l).length=l.length
 |0,_=>rfl
 |j+1,l=>by
  unfold zD
  split
  split
  rw[EH];simp
  rfl
  rfl
theorem Ad {α:Type} {lt:α->α->Bool}: ∀ {i:Nat} {l:List α},(ka lt i l).length=l.length
 |0,_=>rfl
 |i+1,l=>by unfold ka;rw[EH,Ad]
theorem HE {α:Type} {lt:α->α->Bool} {j:Nat} {l:List α} {a b:α} (ha:l[j]? =some a) (hb:l[j+1]? =some b) (h:lt b a=true):zD lt (j+1) l=zD lt j ((l.set (j+1) a).set j b):=by
 conv=>lhs;unfold zD
 rw[ha,hb]
 dsimp only
 rw[if_pos h]
theorem Cp {α:Type} {lt:α->α->Bool} {j:Nat} {l:List α} {a b:α} (ha:l[j]? =some a) (hb:l[j+1]? =some b) (h:lt b a=false):zD lt (j+1) l=l:=by
 conv=>lhs;unfold zD
 rw[ha,hb]
 dsimp only
 rw[if_neg (by rw[h];decide)]
theorem xt {P:Program} {ρ:gG} {w:World} {t:TypeId} {p:String} {af:Array Edge} {g:Option (Nat×Bool)} {dst:Option Nat} {x y:Operand} {ty ty':TypeId} {a b:Int} (c:Int) (hx:ev ρ x=.int .i64 a) (hy:ev ρ y=.int .i64 b) (hc:a-b=c) (h1: -9000000000000000000<=c) (h2:c<=9000000000000000000):(execOp (ev ρ) (Og dst (.binOp .sub ty x y ty') t p af g)).run P w=.ok (.value (.int .i64 c)) w:=by
 subst hc
 exact mX hx hy h1 h2
theorem vP {α:Type} {m es:List α} {a b:Nat} (h:m.drop a=es.drop a) (hb:a<=b):m.drop b=es.drop b:=by
 have:=congrArg (List.drop (b-a)) h
 rw[j0,j0]at this
 rwa[show a+(b-a)=b by omega]at this
theorem Ch {α:Type} {l:List α} {k:Nat} (h:k<l.length) (a:α):(l.set k a).take (k+1)=l.take k++[a]:=by
 rw[eL (e:=a) (by rw[am h]),zi (ao k)]
theorem getD_some {α:Type} {l:List α} {i:Nat} (d:α) (h:i<l.length):l[i]? =some (l.getD i d):=by
 rw[bY,ah h];rfl
theorem Kl {α:Type} {lt:α->α->Bool} {es l:List α} {i n:Nat} (hl:l=ka lt i es) (h1:1<=i) (h2:i<=n+1) (h3:n≠0->i<=n) (h4:n<=i):l=ka lt n es:=by
 by_cases h0:n=0
 have:i=1:=by omega
 rw[hl,this,h0];rfl
 rw[hl,show i=n by omega]
section
variable {α:Type} {lt:α->α->Bool}
theorem EI: ∀ (n:Nat) (p:List α) (x:α) (s:List α),p.length=n-> ∃ p1 p2,p=p1++p2/\zD lt n (p++x::s)=p1++x::p2++s/\(∀ y∈p2,lt x y=true)/\(∀ y,p1.getLast? =some y->lt x y=false)
 |0,p,x,s,h=>by
  rw[bU h]
  exact⟨[],[],rfl,rfl,by simp,by simp⟩
 |n+1,p,x,s,h=>by
  obtain⟨q,y,rfl⟩: ∃ q y,p=q++[y]:=⟨p.dropLast,p.getLast (by intro e;rw[e]at h;cases h),(List.dropLast_concat_getLast _).symm⟩
  have hq:q.length=n:=by simpa using h
  have ha:(q++[y]++x::s)[n]? =some y:=by rw[aD,cw (by omega),hq];simp
  have hb:(q++[y]++x::s)[n+1]? =some x:=by rw[aD,cw (by omega),hq];simp
  cases hl:lt x y with
  |false=>
   refine⟨q++[y],[],by simp,?_,by simp,?_⟩
   rw[Cp ha hb hl];simp
   intro z hz
   simp only[List.getLast?_append,List.getLast?_singleton,Option.some_or,jo]at hz
   rw[<-hz];exact hl
  |true=>
   have hs:((q++[y]++x::s).set (n+1) y).set n x=q++x::(y::s):=by
    rw[aD,i9 _ _ (by omega),i9 _ _ (by omega),hq,me,show n+1-n=1 by omega]
    rfl
   obtain⟨p1,p2,hp,h1,h2,h3⟩:=EI n q x (y::s) hq
   refine⟨p1,p2++[y],by rw[hp];simp,?_,?_,h3⟩
   rw[HE ha hb hl,hs,h1];simp
   intro z hz
   rcases ar.1 hz with hz|hz
   exact h2 z hz
   rw[aq.1 hz];exact hl
theorem Ac: ∀ (i:Nat) (l:List α),i<=l.length-> ∃ p,ka lt i l=p++l.drop i/\p.Perm (l.take i)
 |0,l,_=>⟨[],by simp[ka],by simp⟩
 |i+1,l,h=>by
  obtain⟨p,h1,h2⟩:=Ac i l (by omega)
  obtain⟨x,hx⟩: ∃ x,l[i]? =some x:=⟨_,ah (by omega)⟩
  have hl:p.length=i:=by rw[h2.length_eq,aH];omega
  obtain⟨p1,p2,hp,h4,-,-⟩:=EI (lt:=lt) i p x (l.drop (i+1)) hl
  refine⟨p1++x::p2,?_,?_⟩
  unfold ka
  rw[h1,cN hx,h4]
  rw[eL hx]
  refine(qn).trans ?_
  rw[<-hp]
  exact(ai x h2).trans (s6 x _).symm
theorem Ab (l:List α):(ka lt l.length l).Perm l:=by
 obtain⟨p,h1,h2⟩:=Ac (lt:=lt) l.length l (ao _)
 rw[fq,aY]at h1
 rw[bV]at h2
 rw[h1];exact h2
end
theorem Hp.sealO {α:Type} {Y:fj α} {e:TypeId} {w0 w:World} {K L M:List (Nat×Obj)} {F:List ci} {A:Option Addr} {es:List α} {c:Nat} (H:Hp w0 w (K++L++M) F) (ho:gi Y (.slice A es.length c) e es L): ∃ lo hi,Hp w0 w (K++M) (dG Y lo hi A es::F):=by
 have H1:Hp w0 w (K++M) F:=H.forget (by rw[aD];exact(ap K).append (cm L M)) (fun _ h=>h)
 by_cases h0:es.length=0
 have:=bU h0
 subst this
 refine⟨0,0,H1.below,H1.ents,H1.nodup,fun f hf=> ?_⟩
 rcases av.1 hf with rfl|hf
 exact⟨Rd.nil,bA _,fun x _=> .inr (bA _)⟩
 exact H1.facts f hf
 obtain⟨g,cur,rfl,rfl,row⟩:=ho.row (by omega)
 have hg:=H.ents (g,.cells cur e (0,0)) (by simp)
 refine⟨g,g+1,H1.below,H1.ents,H1.nodup,fun f hf=> ?_⟩
 rcases av.1 hf with rfl|hf
 refine⟨row.rd hg.1,ce hg.1,fun x hx=> ?_⟩
 have hne:x.1≠g:=fun h=>by
  have hn:=H.nodup
  rw[aD,bk,bk,oZ]at hn
  obtain⟨n1,n2,n3⟩:=hn
  rcases ar.1 hx with hx|hx
  exact n3 x.1 (bL hx) g (by simp) h
  have:=(kN.1 n2).1
  have hm:=bL (f:=_root_.Prod.fst) hx
  rw[h]at hm
  exact this hm
 show x.1<g∨g+1<=x.1
 omega
 exact H1.facts f hf
theorem dU.clr {α:Type} {Y:fj α} {es:List α} {c k o:Nat} {cur:Array Value} {zs:List Value} (h:dU Y es c cur) (hk:k<=es.length) (ho:k*Y.sz<=o) (hz:o+zs.length<=cur.size):dU Y (es.take k) c (oO cur o zs):=by
 refine⟨by rw[jH hz,h.size],?_,by rw[aH];have:=h.le;omega,h.max⟩
 rw[aH,br hk,z8 ho (by omega),h.pre hk]
end
/-- a member, and where its parts lie -/
structure Mem where
 name:ByteArray
 heard:Int
 parts:List Int
 A:Option Addr
 cap:Nat
 lo:Nat
 hi:Nat
def Mem.c (m:Mem):List Value:=[.string m.name,J m.heard,.slice m.A m.parts.length m.cap]
def jQ:fj Mem:=⟨Mem.c,3,fun _=>rfl,by decide,fun a u hu=>by
 simp only[Mem.c,av,bx,or_false]at hu
 rcases hu with h|h|h<;>subst h<;>rfl⟩
structure mc where
 part:Int
 at_:Int
def mc.c (o:mc):List Value:=[J o.part,J o.at_]
def fR:fj mc:=⟨mc.c,2,fun _=>rfl,by decide,fun a u hu=>by
 simp only[mc.c,av,bx,or_false]at hu
 rcases hu with h|h<;>subst h<;>rfl⟩
structure Gr where
 clock:Int
 wait:Int
 gen:Int
 ms:List Mem
 mA:Option Addr
 mC:Nat
 os:List mc
 oA:Option Addr
 oC:Nat
def Gr.c (g:Gr):List Value:=[J g.clock,J g.wait,J g.gen,.slice g.mA g.ms.length g.mC,.slice g.oA g.os.length g.oC]
abbrev Gr.v (g:Gr):Value:=.agg g.c.toArray
def Mem.a (m:Mem):Mem:={m with A:=none,cap:=0,lo:=0,hi:=0}
abbrev ng (m:Mem):ci:=dG bS m.lo m.hi m.A m.parts
def Gr.a (g:Gr):Gr:={g with ms:=g.ms.map Mem.a,mA:=none,mC:=0,oA:=none,oC:=0}
def u6 (ck:Int) (m:Mem):Bool:=bM m.name&&decide (0<=m.heard)&&decide (m.heard<=ck)&&cT (-1) m.parts
def pn (m p:Mem):Bool:=decide (p.name=m.name)
def xC (ck:Int):List Mem->List Mem->Bool
 |_,[]=>true
 |pre,m::l=>u6 ck m&&!(pre.any (pn m))&&xC ck (pre++[m]) l
def xA:Int->List mc->Bool
 |_,[]=>true
 |last,o::l=>decide (last<o.part)&&decide (o.part<4)&&decide (0<=o.at_)&&decide (o.at_<=400)&&xA o.part l
def lh (g:Gr):Bool:=iQ g.clock&&decide (1<=g.wait)&&decide (g.wait<=1000)&&iQ g.gen&&decide ((g.ms.length:Int)<=6)&&decide ((g.os.length:Int)<=4)&&xC g.clock [] g.ms&&xA (-1) g.os
theorem Lj {g:Gr}:lh g=true↔iQ g.clock=true/\1<=g.wait/\g.wait<=1000/\iQ g.gen=true/\(g.ms.length:Int)<=6/\(g.os.length:Int)<=4/\xC g.clock [] g.ms=true/\xA (-1) g.os=true:=by
 unfold lh
 simp only[aS,decide_eq_true_eq,and_assoc]
theorem jK {ck:Int} {m:Mem}:u6 ck m=true↔bM m.name=true/\0<=m.heard/\m.heard<=ck/\cT (-1) m.parts=true:=by
 unfold u6
 simp only[aS,decide_eq_true_eq,and_assoc]
def Io (lo hi:Nat) (ms:List Mem):ci:=⟨lo,hi,fun w=> ∀ m∈ms,Rd bS lo hi m.A m.parts w,fun _ _ hk h m hm=>(h m hm).st hk⟩
theorem y8 {w0 w:World} {L:List (Nat×Obj)} {F:List ci} {lo hi:Nat} {ms:List Mem} (H:Hp w0 w L F) (i:Nat) (hF:F[i]? =some (Io lo hi ms)) {m:Mem} (hm:m∈ms):Rd bS 0 w.heap.size m.A m.parts w:=
 Rd.mono ((H.fact hF) m hm) (bA _) (H.facts _ (ae hF)).2.1
theorem Hp.mpRow {w0 w:World} {L:List (Nat×Obj)} {F:List ci} {lo hi:Nat} {ms:List Mem} (H:Hp w0 w L F) (i:Nat) (hF:F[i]? =some (Io lo hi ms)) {m:Mem} (hm:m∈ms):Hp w0 w L (dG bS lo hi m.A m.parts::F):=by
 refine⟨H.below,H.ents,H.nodup,fun f hf=> ?_⟩
 rcases av.1 hf with rfl|hf
 obtain⟨h1,h2,h3⟩:=H.facts _ (ae hF)
 exact⟨h1 m hm,h2,h3⟩
 exact H.facts f hf
structure Gr.rd (g:Gr) (lo hi:Nat) (w:World):Prop where
 row:Rd jQ lo hi g.mA g.ms w
 parts: ∀ m∈g.ms,Rd bS lo hi m.A m.parts w
 offs:Rd fR lo hi g.oA g.os w
 mC:g.ms.length<=g.mC
 oC:g.os.length<=g.oC
 few:g.ms.length<=1000000/\g.os.length<=1000000
 fewP: ∀ m∈g.ms,m.parts.length<=1000000/\m.parts.length<=m.cap
theorem Gr.rd.st {g:Gr} {lo hi:Nat} {w w':World} (hk: ∀ k,lo<=k->k<hi->w'.heap[k]? =w.heap[k]?) (h:g.rd lo hi w):g.rd lo hi w':=
 ⟨h.row.st hk,fun m hm=>(h.parts m hm).st hk,h.offs.st hk,h.mC,h.oC,h.few,h.fewP⟩
theorem Gr.rd.mono {g:Gr} {lo hi lo' hi':Nat} {w:World} (h:g.rd lo hi w) (hl:lo'<=lo) (hh:hi<=hi'):g.rd lo' hi' w:=
 ⟨h.row.mono hl hh,fun m hm=>(h.parts m hm).mono hl hh,h.offs.mono hl hh,h.mC,h.oC,h.few,h.fewP⟩
def QN (lo hi:Nat) (g:Gr):ci:=⟨lo,hi,g.rd lo hi,fun _ _ hk h=>h.st hk⟩
theorem Hp.gr {w0 w:World} {L:List (Nat×Obj)} {F:List ci} {lo hi:Nat} {g:Gr} (H:Hp w0 w L F) (i:Nat) (hF:F[i]? =some (QN lo hi g)):g.rd 0 w.heap.size w:=
 Gr.rd.mono (H.fact hF) (bA _) (H.facts _ (ae hF)).2.1
theorem Hp.startGr {g:Gr} {w:World} (h:g.rd 0 w.heap.size w):Hp w w [] [dG jQ 0 w.heap.size g.mA g.ms,Io 0 w.heap.size g.ms,dG fR 0 w.heap.size g.oA g.os]:=
 (((Hp.start w).learnOld (dG fR 0 w.heap.size g.oA g.os) h.offs (ao _)).learnOld (Io 0 w.heap.size g.ms) h.parts (ao _)).learnOld (dG jQ 0 w.heap.size g.mA g.ms) h.row (ao _)
def yE (w w2:World) (g:Gr):Prop:=g.rd w.heap.size w2.heap.size w2/\Below w.heap.size w w2
def Bg:Gr:=⟨0,0,0,[],none,0,[],none,0⟩
theorem qz {w w2:World} (h:Below w.heap.size w w2):yE w w2 Bg:=⟨⟨Rd.nil,by simp[Bg],Rd.nil,by simp[Bg],by simp[Bg],by simp[Bg],by simp[Bg]⟩,h⟩
def qN (w w2:World) (ga g':Gr) (Lm Lo:List (Nat×Obj)):Prop:=g'.a=ga/\gi jQ (.slice g'.mA g'.ms.length g'.mC) db g'.ms Lm/\gi fR (.slice g'.oA g'.os.length g'.oC) d8 g'.os Lo/\g'.ms.length<=g'.mC/\g'.os.length<=g'.oC/\(∀ m∈g'.ms,m.parts.length<=m.cap/\w.heap.size<=m.lo)/\Hp w w2 (Lm++Lo) (g'.ms.map ng)
theorem qN.new {w w2:World} {ga g':Gr} {Lm Lo:List (Nat×Obj)} (h:qN w w2 ga g' Lm Lo) (h1:g'.ms.length<=6) (h2:g'.os.length<=1000000) (h3: ∀ m∈g'.ms,m.parts.length<=4):yE w w2 g':=by
 obtain⟨_,a2,a3,a4,a5,a6,a8⟩:=h
 have h0:Hp w w2 (Lm++Lo) []:=a8.forget (ap _) (by simp)
 refine⟨⟨a2.rd (K:=[]) (M:=Lo) (by simpa using h0),fun m hm=> ?_,a3.rd (K:=Lm) (M:=[]) (by simpa using h0),a4,a5,by omega,fun m hm=>⟨by have:=h3 m hm;omega,(a6 m hm).1⟩⟩,a8.below⟩
 obtain⟨f1,f2,-⟩:=a8.facts (ng m) (bL hm)
 exact Rd.mono f1 (a6 m hm).2 f2
theorem E1 {α:Type} {Y:fj α} {v:Value} {e:TypeId} {es:List α} {L:List (Nat×Obj)} (h:gi Y v e es L): ∀ x∈L,∃ cur,x.2=.cells cur e (0,0):=by
 rcases h.2 with⟨rfl,_⟩|⟨g,cap,cur,rfl,_⟩
 intro x hx;cases hx
 intro x hx;rw[aq.1 hx];exact⟨cur,rfl⟩
theorem Hp.join2 {α β:Type} {Y1:fj α} {Y2:fj β} {v1 v2:Value} {T1 T2:TypeId} {es1:List α} {es2:List β} {w0 w w':World} {L L1 L2:List (Nat×Obj)} {F:List ci} (H:Hp w0 w L F) (H1:Hp w w' L1 []) (H2:Hp w w' L2 []) (o1:gi Y1 v1 T1 es1 L1) (o2:gi Y2 v2 T2 es2 L2) (hT:en T1 T2=false):Hp w0 w' (L++L1++L2) F:=by
 have HJ:=H.joinR H1
 rw[aY]at HJ
 refine⟨HJ.below,fun e he=> ?_,?_,fun f hf=> ?_⟩
 rcases ar.1 he with he|he
 exact HJ.ents e he
 obtain⟨h1,h2⟩:=H2.ents e he
 exact⟨h1,aT H.size h2⟩
 rw[bk,oZ]
 refine⟨HJ.nodup,H2.nodup,fun a ha b hb hab=> ?_⟩
 obtain⟨x,hx,rfl⟩:=bv.1 ha
 obtain⟨y,hy,rfl⟩:=bv.1 hb
 have hy2:=H2.ents y hy
 rcases ar.1 hx with hx|hx
 have:=H.ltAll x hx;omega
 have hx2:=H1.ents x hx
 obtain⟨c1,e1⟩:=E1 o1 x hx
 obtain⟨c2,e2⟩:=E1 o2 y hy
 rw[e1]at hx2
 rw[e2]at hy2
 exact rP hx2.1 hy2.1 hT hab
 obtain⟨h1,h2,h3⟩:=HJ.facts f hf
 refine⟨h1,h2,fun e he=> ?_⟩
 rcases ar.1 he with he|he
 exact h3 e he
 have:=(H.facts f hf).2.1
 have:=(H2.ents e he).2
 exact .inr I
theorem zU {F:List ci} {l:List Mem} {m:Mem} {f:ci} (h:f∈F++(l++[m]).map ng):f∈ng m::(F++l.map ng):=by
 simp only[bk,eI,mg,ar,av,bx,or_false]at h⊢
 grind
theorem Fy (c:UInt8) (w:World):dd aa sV [.int .u8 (c.toNat:Nat)] w fun v w2=>v=.bool (!qV c)/\Below w.heap.size w w2:=by
 refine aE xI Z Z ?_
 have H:=Hp.start w
 refine W<|Zr<|G (Wb Z)<|U<|W<|Zr<|G (Yi Z) ?_
 refine cR (cG Z Z) Z Z Z (fun h4=> ?_) (fun h4=> ?_)
 refine G (Yb Z)<|ZN<|ZN<|G (Kt Z Z)<|G (Wb Z)<|U<|Zt ?_
 have hv:(!qV c)=true:=by unfold qV;simp;omega
 exact cF (v:=.bool true) Z Z ⟨by rw[hv],H.below⟩
 refine G (Yb Z)<|ZG<|G (Yi Z)<|ZG ?_
 refine cR (jV Z Z) Z Z Z (fun h7=> ?_) (fun h7=> ?_)
 refine G (N Z Z)<|G (Wb Z)<|U<|Zt ?_
 have hv:(!qV c)=true:=by unfold qV;simp;omega
 exact cF (v:=.bool true) Z Z ⟨by rw[hv],H.below⟩
 refine G (N Z Z)<|G (Wb Z)<|U<|Zt ?_
 have hv:(!qV c)=false:=by unfold qV;simp;omega
 exact cF (v:=.bool false) Z Z ⟨by rw[hv],H.below⟩
theorem Fx (s:ByteArray) (w:World):dd aa DC [.string s] w fun v w2=>v=.bool (bM s)/\Below w.heap.size w w2:=by
 refine aE BM Z Z ?_
 have H:=Hp.start w
 refine W<|Zr<|G (Wb Z)<|U<|W<|W<|Zr<|G (Yt Z) ?_
 refine cR (vA Z Z) Z Z Z (fun h4=> ?_) (fun h4=> ?_)
 refine G (Yb Z)<|ZN<|ZN<|ZN<|G (Kt Z Z)<|U<|ZT Z<|W<|Zr<|G (Wb Z)<|U<|Zt ?_
 have hv:bM s=false:=by unfold bM;simp;simp[h4]
 exact cF (v:=.bool false) Z Z ⟨by rw[hv],H.below⟩
 refine G (Yb Z)<|ZG<|G (Yt Z)<|ZG<|G (GR jq Z)<|ZG ?_
 refine cR (jV Z Z) Z Z Z (fun h8=> ?_) (fun h8=> ?_)
 refine G (N Z Z)<|U<|ZT Z<|W<|Zr<|G (Wb Z)<|U<|Zt ?_
 have hv:bM s=false:=by unfold bM;simp;omega
 exact cF (v:=.bool false) Z Z ⟨by rw[hv],H.below⟩
 refine G (N Z Z)<|U<|ZF Z<|Zk<|W<|Zr<|G (Yt Z)<|Pf (Y:=dA) H jq d5 ik Z (fun _=>rfl) Z Z fun w1 A11 c11 hc11 H=> ?_
 have hlen:s.data.toList.length=s.size:=by rw[cj];rfl
 refine cd iy (oy s.data.toList _ _ _ (H.rd0 0 Z) I sV [] xS (fun c=>!qV c) (fun e w2 _ _=>Fy e w2)) Z Z ?_
 rintro _ w2 ⟨rfl,hb⟩;replace H:=H.later hb;clear hb
 refine G (dO Z)<|G (Wb Z)<|U<|Zt ?_
 have h8b:decide ((s.size:Int)<=8)=true:=decide_eq_true I
 have hv:bM s=!(s.data.toList.any fun c=>!qV c):=by unfold bM;rw[decide_eq_true h4,h8b,gW,gW,List.all_eq_not_any_not]
 exact cF (v:=.bool (!(s.data.toList.any fun c=>!qV c))) Z Z ⟨by rw[hv],H.below⟩
theorem fN (es:List Mem) (A:Option Addr) (c:Nat) (w:World) (hr:Rd jQ 0 w.heap.size A es w) (hb:es.length<=1000000) (f:FuncId) (cap:List Value) (hf:bi aa f=true) (pred:Mem->Bool)
  (hp: ∀ e w',e∈es->Below w.heap.size w w'->dd aa f (.agg (jQ.f e).toArray::cap) w' fun v w2=>v=.bool (pred e)/\Below w'.heap.size w' w2):
  dd aa l6 [.slice A es.length c,.func (.func f) #[] cap.toArray] w fun v w2=>v=J (lB (es.findIdx? pred))/\Below w.heap.size w w2:=by
 refine aE lE Z Z ?_
 have H:=Hp.startRd hr
 refine W<|Zr<|G (Wi Z)<|U<|W<|W<|Zr<|G (Ys Z)<|G (bn gm Z)<|G (Yi Z)<|U<|Zb ?_
 refine cf (τ:=Nat) [4,5,8,9,10,11,12,13,14,15,16,17,18] (fun k=>[(8,J (k:Nat))]) (fun k w'=>k<=es.length/\(∀ j e,j<k->es[j]? =some e->pred e=false)/\Hp w w' [] [dG jQ 0 w.heap.size A es]) (fun k=>es.length-k) 0 ⟨by omega,by intro j e hj;omega,H⟩ (dF Z) ?_
 rintro k ρ1 w1 ⟨hk,hno,H⟩
 show CW _ _ _ _ (dv (gk _ _ ρ1) [(8,J (k:Nat))]) w1
 refine W<|Zr ?_
 refine cR (cG Z Z) Z Z Z (fun h9=> ?_) (fun h9=> ?_)
 refine U<|W<|ZT Z<|Zk<|W<|Zb<|W<|Zr<|G (Yi Z)<|G (Wi Z)<|U<|W<|Zr<|G (sS Z)<|G (Ys Z)<|G (Yi Z)<|pK H 0 Z ez Z Z I I Z fun b2 o2 x2 e2=>G (jd (xs:=jQ.f x2) nJ Z Z e2.cl) ?_
 refine Ns hf Z (hp x2 _ (ae e2.at_) H.below) Z Z ?_;rintro _ w3 ⟨rfl,hb2⟩;replace H:=H.later hb2;clear hb2
 refine mq 16 Z (fun h16=> ?_) (fun h16=> ?_)
 refine U<|ZT Z<|W<|Zr<|G (Yi Z)<|G (Wi Z)<|U<|Zt ?_
 have hi:es.findIdx? pred=some k:=by
  rw[bg]
  obtain⟨hl,hx⟩:=cD e2.at_
  exact⟨hl,by rw[hx];exact h16,fun j hj=>by rw[hno j _ hj (ah I)];simp⟩
 exact cF (v:=J (k:Nat)) Z Z ⟨by rw[hi];rfl,H.below⟩
 refine U<|ZF Z<|Zk<|Zr<|G (bp Z Z I I)<|G (Yi Z)<|U ?_
 refine⟨k+1,⟨by omega,fun j e hj he=> ?_,H⟩,dF Z,Qg,by show es.length- (k+1)<es.length-k;omega⟩
 by_cases hji:j<k
 exact hno j e hji he
 have:j=k:=by omega
 subst this;have he2:=e2.at_;rw[he]at he2;injection he2 with he2;subst he2;exact h16
 refine U<|W<|ZF Z<|Zx<|W<|Zr<|G (Wi Z)<|U<|Zt ?_
 have hi:es.findIdx? pred=none:=by
  rw[dp]
  intro e he
  obtain⟨j,hj⟩:=aK.1 he
  exact hno j e (by have:=(cD hj).1;omega) hj
 exact cF (v:=J (-1)) Z Z ⟨by rw[hi];rfl,H.below⟩
theorem sH (es:List Mem) (A:Option Addr) (c:Nat) (w:World) (hr:Rd jQ 0 w.heap.size A es w) (hb:es.length<=1000000) (f:FuncId) (cap:List Value) (hf:bi aa f=true) (pred:Mem->Bool)
  (hp: ∀ e w',e∈es->Below w.heap.size w w'->dd aa f (.agg (jQ.f e).toArray::cap) w' fun v w2=>v=.bool (pred e)/\Below w'.heap.size w' w2):
  dd aa kS [.slice A es.length c,.func (.func f) #[] cap.toArray] w fun v w2=>v=.bool (es.any pred)/\Below w.heap.size w w2:=by
 refine aE kH Z Z ?_
 have H:=Hp.start w
 refine W<|Zr<|G (Wb Z)<|U<|W<|Zr<|G (Ys Z)<|G (sS Z)<|cd dm (fN es _ _ _ hr hb f cap hf pred hp) Z Z ?_
 rintro _ w1 ⟨rfl,hb⟩;replace H:=H.later hb;clear hb
 refine G (ke Z Z)<|G (Wb Z)<|U<|Zt ?_
 have hv:decide (0<=lB (es.findIdx? pred))=es.any pred:=by
  cases hi:es.findIdx? pred with
  |none=>rw[dp]at hi;simp[lB];exact fun a h=>hi a h
  |some i=>
   obtain⟨hl,h1,-⟩:=bg.1 hi
   have:es.any pred=true:=List.any_eq_true.2 ⟨_,mh hl,h1⟩
   rw[this];simp[lB]
 exact cF (v:=.bool (decide (0<=lB (es.findIdx? pred)))) Z Z ⟨by rw[hv],H.below⟩
theorem yX (es:List Mem) (A:Option Addr) (c:Nat) (w:World) (hr:Rd jQ 0 w.heap.size A es w) (hb:es.length*48<=140737488355328):
  dd aa od [.slice A es.length c] w fun v w2=> ∃ A' c' L',v=.slice A' es.length c'/\es.length<=c'/\c'<=maxLen/\gi jQ (.slice A' es.length c') db es L'/\Hp w w2 L' []:=by
 refine aE nw Z Z ?_
 have H:=Hp.startRd hr
 refine W<|Zr<|G (Ws Z)<|U<|W<|W<|Zr<|G (Ys Z) ?_
 refine wu (qA gm Z) Z Z Z (fun h4=> ?_) (fun h4=> ?_)
 refine U<|ZT Z<|W<|Zr<|G (Ws Z)<|U<|Zt ?_
 have he:es=[]:=by
  cases es with
  |nil=>rfl
  |cons e es=>obtain⟨b,o,hA,_⟩:=hr (by simp);subst hA;cases h4
 subst he
 exact cF Z Z ⟨none,0,[],rfl,by simp,by decide,gi.nil,H.forget (by simp) (by simp)⟩
 refine U<|ZF Z<|Zk<|W<|Zr<|NP H ez Z fun w1 b5 H=>G (Ys Z)<|vU (Y:=jQ) AV (K:=[]) (L:=[(b5,_)]) (M:=[]) H (rU.lit (by decide) (by rfl)) (es:=[]) (news:=es) Z Z Z (Rd.src (H.fact (i:=0) Z)) (by simpa using hb) Z ?_
 intro A3 c3 w3 L3 h3a h3b ho3 H
 refine G (Ws Z)<|U<|Zt ?_
 exact cF Z Z ⟨A3,c3,L3,rfl,h3a,h3b,ho3,H.forget (by simp) (by simp)⟩
theorem yW (es:List mc) (A:Option Addr) (c:Nat) (w:World) (hr:Rd fR 0 w.heap.size A es w) (hb:es.length*16<=140737488355328):
  dd aa oc [.slice A es.length c] w fun v w2=> ∃ A' c' L',v=.slice A' es.length c'/\es.length<=c'/\c'<=maxLen/\gi fR (.slice A' es.length c') d8 es L'/\Hp w w2 L' []:=by
 refine aE nv Z Z ?_
 have H:=Hp.startRd hr
 refine W<|Zr<|G (Ws Z)<|U<|W<|W<|Zr<|G (Ys Z) ?_
 refine wu (qA g9 Z) Z Z Z (fun h4=> ?_) (fun h4=> ?_)
 refine U<|ZT Z<|W<|Zr<|G (Ws Z)<|U<|Zt ?_
 have he:es=[]:=by
  cases es with
  |nil=>rfl
  |cons e es=>obtain⟨b,o,hA,_⟩:=hr (by simp);subst hA;cases h4
 subst he
 exact cF Z Z ⟨none,0,[],rfl,by simp,by decide,gi.nil,H.forget (by simp) (by simp)⟩
 refine U<|ZF Z<|Zk<|W<|Zr<|NP H cV Z fun w1 b5 H=>G (Ys Z)<|vU (Y:=fR) vT (K:=[]) (L:=[(b5,_)]) (M:=[]) H (rU.lit (by decide) (by rfl)) (es:=[]) (news:=es) Z Z Z (Rd.src (H.fact (i:=0) Z)) (by simpa using hb) Z ?_
 intro A3 c3 w3 L3 h3a h3b ho3 H
 refine G (Ws Z)<|U<|Zt ?_
 exact cF Z Z ⟨A3,c3,L3,rfl,h3a,h3b,ho3,H.forget (by simp) (by simp)⟩
theorem fI: ∀ {l:List Int} {a:Int},cT a l=true->l.Pairwise (· < ·)/\(∀ p∈l,a<p/\p<4)
 |[],_,_=>⟨List.Pairwise.nil,by intro p hp;cases hp⟩
 |x::l,a,h=>by
  unfold cT at h
  simp only[aS,decide_eq_true_eq]at h
  obtain⟨h1,h2⟩:=fI h.2
  refine⟨ek.2 ⟨fun y hy=>(h2 y hy).1,h1⟩,fun p hp=> ?_⟩
  rcases av.1 hp with rfl|hp
  exact h.1
  have:=h2 p hp;omega
theorem ml: ∀ {l:List Int} {a:Int},cT a l=true->(l.length:Int)<=max 0 (3-a)
 |[],_,_=>by simp;omega
 |x::l,a,h=>by
  unfold cT at h
  simp only[aS,decide_eq_true_eq]at h
  have:=ml h.2
  simp only[bO]
  omega
theorem zQ {ck:Int}: ∀ {l pre:List Mem},xC ck pre l=true↔(∀ m∈l,u6 ck m=true)/\(∀ m∈l,∀ p∈pre,pn m p=false)/\l.Pairwise (fun p m=>pn m p=false)
 |[],pre=>by simp[xC]
 |t::l,pre=>by
  unfold xC
  rw[aS,aS,zQ,ek]
  simp only[av,ar,aq,forall_eq_or_imp,pf,C0]
  constructor
  rintro⟨⟨h1,h2⟩,h3,h4,h5⟩
  exact⟨⟨h1,h3⟩,⟨fun p hp=>by simpa using h2 p hp,fun a ha p hp=>h4 a ha p (.inl hp)⟩,fun a ha=>h4 a ha t (by simp),h5⟩
  rintro⟨⟨h1,h3⟩,⟨h2,h4⟩,h5,h6⟩
  exact⟨⟨h1,fun p hp=>by simpa using h2 p hp⟩,h3,fun a ha p hp=>hp.elim (h4 a ha p) (fun h=>by have:=h5 a ha;simp at h;rwa[h]),h6⟩
def kY (l:List Mem):Prop:=(l.map Mem.name).Pairwise (· ≠ ·)
theorem AU {l:List Mem}:kY l↔l.Pairwise (fun p m=>pn m p=false):=by
 unfold kY
 rw[jp]
 constructor<;>intro h<;>refine h.imp fun{a b} hab=> ?_
 simpa [pn]using hab
 simpa [pn]using hab
theorem zM: ∀ {l:List mc} {last:Int},xA last l=true↔(∀ o∈l,last<o.part/\o.part<4/\0<=o.at_/\o.at_<=400)/\l.Pairwise (fun a b=>a.part<b.part)
 |[],_=>by simp[xA]
 |o::l,last=>by
  unfold xA
  simp only[aS,decide_eq_true_eq,zM,ek,av,forall_eq_or_imp]
  constructor
  rintro⟨⟨⟨⟨h1,h2⟩,h3⟩,h4⟩,h5,h6⟩
  exact⟨⟨⟨h1,h2,h3,h4⟩,fun a ha=>by have:=h5 a ha;omega⟩,fun a ha=>(h5 a ha).1,h6⟩
  rintro⟨⟨⟨h1,h2,h3,h4⟩,h5⟩,h6,h7⟩
  exact⟨⟨⟨⟨h1,h2⟩,h3⟩,h4⟩,fun a ha=>by have:=h5 a ha;have:=h6 a ha;omega,h7⟩
theorem dx {g:Gr}:lh g=true↔((0<=g.clock/\g.clock<=1073741824)/\1<=g.wait/\g.wait<=1000/\(0<=g.gen/\g.gen<=1073741824)/\(g.ms.length:Int)<=6/\(g.os.length:Int)<=4)/\((∀ m∈g.ms,u6 g.clock m=true)/\kY g.ms)/\(∀ o∈g.os,0<=o.part/\o.part<4/\0<=o.at_/\o.at_<=400)/\g.os.Pairwise (fun a b=>a.part<b.part):=by
 rw[Lj,zQ,AU,zM]
 unfold iQ
 simp only[aS,decide_eq_true_eq]
 constructor
 rintro⟨h1,h2,h3,h4,h5,h6,⟨h7,_,h9⟩,h10,h11⟩;exact⟨⟨h1,h2,h3,h4,h5,h6⟩,⟨h7,h9⟩,fun o ho=>by have:=h10 o ho;omega,h11⟩
 rintro⟨⟨h1,h2,h3,h4,h5,h6⟩,⟨h7,h9⟩,h10,h11⟩;exact⟨h1,h2,h3,h4,h5,h6,⟨h7,by simp,h9⟩,fun o ho=>by have:=h10 o ho;omega,h11⟩
theorem HF {α:Type} {f:α->Int} {l:List α} (h:l.Pairwise (fun a b=>f a<f b)) {i:Nat} {a b:α} (ha:l[i]? =some a) (hb:l[i+1]? =some b):f a<f b:=by
 obtain⟨h1,rfl⟩:=cD ha
 obtain⟨h2,rfl⟩:=cD hb
 exact mN.1 h i (i+1) h1 h2 I
theorem Hn {l:List Mem} (h:kY l) {k:Nat} {x:Mem} (hx:l[k]? =some x):(l.take k).any (pn x)=false:=by
 rw[C0]
 intro p hp
 obtain⟨j,hj⟩:=aK.1 hp
 rw[df]at hj
 split at hj
 rename_i hjk
 rw[AU]at h
 obtain⟨h1,rfl⟩:=cD hj
 obtain⟨h2,rfl⟩:=cD hx
 have:=mN.1 h j k h1 h2 hjk
 rw[this];decide
 cases hj
theorem DJ (p t:Mem) (b:Nat) (w:World) (hx:w.heap[b]? =some (.cells t.c.toArray db (0,0))):
  dd aa rJ [.agg p.c.toArray,.pointer (Qd b)] w fun v w2=>v=.bool (pn t p)/\Below w.heap.size w w2:=by
 refine aE wK Z Z ?_
 have H:=Hp.start w
 have hb:=ce hx
 refine W<|Zr<|fS H Z Z fun w1 b2 H=>G (Wb Z)<|U<|W<|Zr<|G (Zf ou Z)<|G (Zd ba H 0 Z Z Z)<|G (Zf ou Z)<|G (aV ba Z ((H.below.cell (p:=⟨b,_,none⟩) hb).trans (aB (j:=0) hx Z)))<|G (vA Z Z)<|G (Wb Z)<|U<|Zt ?_
 exact cF Z Z ⟨rfl,H.below⟩
theorem tL (p:Mem) (s:ByteArray) (b:Nat) (w:World) (hx:w.heap[b]? =some (.cells #[.string s] kD (0,0))):
  dd aa lv [.agg p.c.toArray,.pointer (Qd b)] w fun v w2=>v=.bool (decide (p.name=s))/\Below w.heap.size w w2:=by
 refine aE xJ Z Z ?_
 have H:=Hp.start w
 have hb:=ce hx
 refine W<|Zr<|fS H Z Z fun w1 b2 H=>G (Wb Z)<|U<|W<|Zr<|G (Zf ou Z)<|G (Zd ba H 0 Z Z Z)<|G (aV ba Z ((H.below.cell (p:=⟨b,_,none⟩) hb).trans (aB (j:=0) hx Z)))<|G (vA Z Z)<|G (Wb Z)<|U<|Zt ?_
 exact cF Z Z ⟨rfl,H.below⟩
theorem CF (g:Gr) (w:World) (h:g.rd 0 w.heap.size w) (hok:lh g=true):dd aa BC [g.v] w fun v w2=>v=J 0/\Below w.heap.size w w2:=by
 refine aE Ay Z Z ?_
 have hmC:=h.mC
 have hoC:=h.oC
 have hfew:=h.few
 have hfp:=h.fewP
 have H:=Hp.startGr h
 obtain⟨ck,wt,gn,ms,mA,mC,os,oA,oC⟩:=g
 dsimp only at hmC hoC hfew hfp H
 show CW _ _ _ _ (args [.agg #[J (ck),J (wt),J (gn),.slice mA ms.length mC,.slice oA os.length oC]]) w
 obtain⟨⟨⟨k1,k2⟩,k3,k4,⟨k5,k6⟩,k7,k8⟩,⟨hmo,hap⟩,hof,hor⟩:=dx.1 hok
 dsimp only at k1 k2 k3 k4 k5 k6 k7 k8 hmo hap hof hor
 refine W<|Zr<|fS H Z Z fun w1 b1 H=>G (Wi Z)<|U<|W<|W<|Zr<|G (Zf jz Z)<|G (Zd aj H 0 Z Z Z)<|G (cY Z Z I)<|G (Yb Z)<|ZG<|G (Zf jz Z)<|ZG<|G (Zd aj H 0 Z Z Z)<|ZG<|G (er Z Z I)<|G (N Z Z)<|G (Yb Z)<|ZG<|G (Zf vN Z)<|ZG<|G (Zd aj H 0 Z Z Z)<|ZG<|G (cY Z Z I)<|G (N Z Z)<|G (Yb Z)<|ZG<|G (Zf vN Z)<|ZG<|G (Zd aj H 0 Z Z Z)<|ZG<|G (er Z Z I)<|G (N Z Z)<|G (Yb Z)<|ZG<|G (Zf kj Z)<|ZG<|G (Zd aj H 0 Z Z Z) ?_
 refine ZG<|G (cY Z Z I)<|G (N Z Z)<|G (Yb Z)<|ZG<|G (Zf kj Z)<|ZG<|G (Zd aj H 0 Z Z Z)<|ZG<|G (er Z Z I)<|G (N Z Z)<|G (Yb Z)<|ZG<|G (Zf dJ Z)<|ZG<|G (Zd dt H 0 Z Z Z)<|ZG<|G (bn gm Z)<|ZG<|G (er Z Z I)<|G (N Z Z)<|G (Yb Z)<|ZG<|G (Zf dT Z)<|ZG<|G (Zd ex H 0 Z Z Z)<|ZG<|G (bn g9 Z)<|ZG<|G (er Z Z I)<|G (N Z Z)<|U<|ZF Z<|Zk<|W<|W<|Zr<|G (Zf dJ Z)<|G (Zd dt H 0 Z Z Z)<|G (bn gm Z) ?_
 refine G (Yi Z)<|U<|Zb ?_
 refine cf (τ:=Nat) [2,3,4,5,6,52,53,54,55,56,57,58,59,60,61,62,63,64,65,66,67,68,69,70,71,72,73,74,75,76,77,78,79,80,81,82,83,84,85,86,87,88,89,90,91,92,93,94,95,96,97,98,99,100,101,102,103,104,105,106,107,108,109,110] (fun k=>[(52,J (k:Nat))]) (fun k w'=>k<=ms.length/\Hp w w' [(b1,.cells #[J (ck),J (wt),J (gn),.slice mA ms.length mC,.slice oA os.length oC] cM (0,0))] [dG jQ 0 w.heap.size mA ms,Io 0 w.heap.size ms,dG fR 0 w.heap.size oA os]) (fun k=>ms.length-k) 0 ⟨by omega,H⟩ (dF Z) ?_
 rintro k ρ1 w2 ⟨hk,H⟩
 show CW _ _ _ _ (dv (gk _ _ ρ1) [(52,J (k:Nat))]) w2
 refine W<|Zr ?_
 refine cR (cG Z Z) Z Z Z (fun h53=> ?_) (fun h53=> ?_)
 refine U<|W<|ZT Z<|Zk<|W<|Zb<|W ?_
 obtain⟨x,hx⟩: ∃ x,ms[k]? =some x:=⟨_,ah I⟩
 have hmem:=ae hx
 obtain⟨hxn,hx0,hxc,hxp⟩:=jK.1 (hmo x hmem)
 have hxl:=(hfp x hmem).1
 obtain⟨hris,hbnd⟩:=fI hxp
 refine Zr<|G (Yi Z)<|pK H 0 Z ez Z Z I I Z fun bq3 o3 x3 e3=> ?_
 obtain rfl:x=x3:=by have:=e3.at_;rw[hx]at this;exact bB this
 refine G (jd (xs:=Mem.c x) nJ Z Z e3.cl)<|eC H tl Z fun w4 b4 H=>G (Wi Z)<|bl H 0 (#[.string (x.name),J (x.heard),.slice x.A x.parts.length x.cap]) sf Z Z Z Z Z N N fun w5 H=>U<|W<|W<|Zr<|G (Zf ou Z)<|G (Zd ba H 0 Z Z Z)<|cd vj (Fx x.name _) Z Z ?_
 rw[hxn]
 rintro _ w6 ⟨rfl,hb⟩;replace H:=H.later hb;clear hb
 refine G (dO Z)<|G (Yb Z)<|ZG<|G (Zf qG Z)<|ZG<|G (Zd aj H 0 Z Z Z)<|ZG<|G (cY Z Z I)<|G (N Z Z)<|G (Yb Z)<|ZG<|G (Zf qG Z)<|ZG<|G (Zd aj H 0 Z Z Z)<|ZG<|G (Zf jz Z)<|ZG<|G (Zd aj H 1 Z Z Z)<|ZG<|G (er Z Z I)<|G (N Z Z)<|G (Yb Z)<|ZG<|G (Zf dJ Z)<|ZG<|G (Zd dt H 1 Z Z Z)<|ZG<|G (Yi Z)<|ZG<|sd (k:=k) H 0 Z ez Z Z hmC I Z fun A77 H=> ?_
 have htl:(ms.take k).length=k:=by rw[aH];omega
 refine ZG<|G (zP Z)<|ZG ?_
 have hC:=fun q=>sH (ms.take k) A77 q _ (H.rd0 0 Z) I rJ [.pointer (Qd b4)] wW (pn x) (fun e w2 _ hw2=>DJ e x b4 w2 ((hw2.block _ (ce (H.ent (i:=0) Z))).trans (H.ent (i:=0) Z)))
 rw[htl,Hn hap hx]at hC
 replace hC:=hC mC
 refine cd kJ (hC) Z Z ?_
 rintro _ w7 ⟨rfl,hb⟩;replace H:=H.later hb;clear hb
 refine G (N Z Z)<|U<|ZF Z<|Zk<|W ?_
 replace H:=Hp.mpRow H 2 Z hmem
 refine Zr<|G (Zf iS Z)<|G (Zd cr H 0 Z Z Z)<|G (bn eF Z)<|G (Yi Z)<|U<|Zb ?_
 refine cf (τ:=Nat) [2,5,6,84,85,86,87,88,89,90,91,92,93,94,95,96,97,98,99,100,101,102,103,104,105,106,107,108,109] (fun j=>[(84,J (j:Nat))]) (fun j w'=>j<=x.parts.length/\Hp w w' [(b4,.cells #[.string (x.name),J (x.heard),.slice x.A x.parts.length x.cap] db (0,0)),(b1,.cells #[J (ck),J (wt),J (gn),.slice mA ms.length mC,.slice oA os.length oC] cM (0,0))] [dG bS 0 w.heap.size x.A x.parts,dG jQ 0 w.heap.size A77 (ms.take k),dG jQ 0 w.heap.size mA ms,Io 0 w.heap.size ms,dG fR 0 w.heap.size oA os]) (fun j=>x.parts.length-j) 0 ⟨by omega,H⟩ (dF Z) ?_
 rintro j ρ2 w8 ⟨hj,H⟩
 show CW _ _ _ _ (dv (gk _ _ ρ2) [(84,J (j:Nat))]) w8
 refine W<|Zr ?_
 refine cR (cG Z Z) Z Z Z (fun h85=> ?_) (fun h85=> ?_)
 refine U<|W<|ZT Z<|Zk<|W<|Zb<|W ?_
 obtain⟨p,hp⟩: ∃ p,x.parts[j]? =some p:=⟨_,ah I⟩
 have hpb:=hbnd p (ae hp)
 refine Zr<|G (Yi Z)<|pK H 0 Z aZ Z Z I I Z fun bq9 o9 x9 e9=> ?_
 obtain rfl:p=x9:=by have:=e9.at_;rw[hp]at this;exact bB this
 refine G (aV aj Z (e9.cl 0 _ Z))<|G (Wi Z)<|G (Wi Z)<|U<|W<|Zr<|G (Yi Z)<|G (cY Z Z I)<|G (Yb Z)<|ZG<|G (Yi Z)<|ZG<|G (rc Z Z I)<|G (N Z Z)<|G (Yb Z)<|ZG<|G (Yi Z)<|ZG ?_
 refine cR (jV Z Z) Z Z Z (fun h97=> ?_) (fun h97=> ?_)
 obtain⟨i,hji⟩: ∃ i,j=i+1:=⟨j-1,by omega⟩
 obtain⟨q,hq⟩: ∃ q,x.parts[i]? =some q:=⟨_,ah I⟩
 have hqp:q<p:=HF (f:=fun a:Int=>a) hris hq (hji▸hp)
 refine ZG<|G (Yb Z)<|ZG<|G (Zf iS Z)<|ZG<|G (Zd cr H 0 Z Z Z)<|ZG<|G (Yi Z)<|ZG<|G (xt ((i:Nat):Int) Z Z I I I)<|ZG<|pK H 0 Z aZ Z Z I I Z fun bq10 o10 x10 e10=> ?_
 obtain rfl:q=x10:=by have:=e10.at_;rw[hq]at this;exact bB this
 refine ZG<|G (aV aj Z (e10.cl 0 _ Z))<|ZG<|G (Yi Z)<|ZG<|G (rc Z Z I)<|ZG<|G (Kt Z Z)<|G (N Z Z)<|U<|ZF Z<|Zk<|Zr<|G (bp Z Z I I)<|G (Yi Z)<|U ?_
 exact⟨j+1,⟨by omega,H⟩,dF Z,Qg,by show x.parts.length- (j+1)<x.parts.length-j;omega⟩
 refine ZG<|G (Yb Z)<|ZN<|ZN<|ZN<|ZN<|ZN<|ZN<|ZN<|ZN<|ZG<|G (N Z Z)<|G (N Z Z)<|U<|ZF Z<|Zk<|Zr<|G (bp Z Z I I)<|G (Yi Z)<|U ?_
 exact⟨j+1,⟨by omega,H⟩,dF Z,Qg,by show x.parts.length- (j+1)<x.parts.length-j;omega⟩
 refine U<|W<|ZF Z<|Zx<|Zr<|G (bp Z Z I I)<|G (Yi Z)<|U ?_
 exact⟨k+1,⟨by omega,H.forget (.cons _ (ap _)) (fun f hf=>by simp only[av]at hf⊢;grind)⟩,dF Z,Qg,by show ms.length- (k+1)<ms.length-k;omega⟩
 refine U<|W<|ZF Z<|Zx<|W<|W<|Zr<|G (Zf dT Z)<|G (Zd ex H 0 Z Z Z)<|G (bn g9 Z)<|G (Yi Z)<|U<|Zb ?_
 refine cf (τ:=Nat) [2,7,8,114,115,116,117,118,119,120,121,122,123,124,125,126,127,128,129,130,131,132,133,134,135,136,137,138,139,140,141,142,143,144,145,146,147,148,149,150,151,152,153] (fun n=>[(114,J (n:Nat))]) (fun n w'=>n<=os.length/\Hp w w' [(b1,.cells #[J (ck),J (wt),J (gn),.slice mA ms.length mC,.slice oA os.length oC] cM (0,0))] [dG jQ 0 w.heap.size mA ms,Io 0 w.heap.size ms,dG fR 0 w.heap.size oA os]) (fun n=>os.length-n) 0 ⟨by omega,H⟩ (dF Z) ?_
 rintro n ρ3 w11 ⟨hn,H⟩
 show CW _ _ _ _ (dv (gk _ _ ρ3) [(114,J (n:Nat))]) w11
 refine W<|Zr ?_
 refine cR (cG Z Z) Z Z Z (fun h115=> ?_) (fun h115=> ?_)
 refine U<|W<|ZT Z<|Zk<|W<|Zb<|W ?_
 obtain⟨o,ho⟩: ∃ o,os[n]? =some o:=⟨_,ah I⟩
 have hob:=hof o (ae ho)
 refine Zr<|G (Yi Z)<|pK H 2 Z cV Z Z I I Z fun bq12 o12 x12 e12=> ?_
 obtain rfl:o=x12:=by have:=e12.at_;rw[ho]at this;exact bB this
 refine G (jd (xs:=mc.c o) AZ Z Z e12.cl)<|eC H k9 Z fun w13 b8 H=>G (Wi Z)<|bl H 0 (#[J (o.part),J (o.at_)]) zB Z Z Z Z Z N N fun w14 H=>U<|W ?_
 refine bD bZ [0,1,2,3,4,5,6,7,8,9,10,11,12,13,14,15,16,17,18,19,20,21,22,23,24,25,26,27,28,29,30,31,32,33] [] [] [0,2,3,4,6,7,8,9,11,12,13,14,16,17,18,19,20,21,22,24,25,26,27,29,31,32,33] (sp []) N N N N Nq (cI _) ?_
 refine aw Z Z Z Z Z (fun w' hw'=>Zf jl Z)<|aw Z Z Z Z Z (fun w' hw'=>aV aj Z (aB ((H.later hw').ent (i:=0) Z) Z))<|aw Z Z Z Z Z (fun w' hw'=>cY Z Z I)<|aw Z Z Z Z Z (fun w' hw'=>Yb Z)<|aw Z Z Z Z Z (fun w' hw'=>Zf jl Z)<|aw Z Z Z Z Z (fun w' hw'=>aV aj Z (aB ((H.later hw').ent (i:=0) Z) Z))<|aw Z Z Z Z Z (fun w' hw'=>rc Z Z I)<|aw Z Z Z Z Z (fun w' hw'=>N Z Z)<|aw Z Z Z Z Z (fun w' hw'=>Yb Z)<|aw Z Z Z Z Z (fun w' hw'=>Zf ot Z)<|aw Z Z Z Z Z (fun w' hw'=>aV aj Z (aB ((H.later hw').ent (i:=0) Z) Z))<|aw Z Z Z Z Z (fun w' hw'=>cY Z Z I)<|aw Z Z Z Z Z (fun w' hw'=>N Z Z)<|aw Z Z Z Z Z (fun w' hw'=>Yb Z)<|aw Z Z Z Z Z (fun w' hw'=>Zf ot Z)<|aw Z Z Z Z Z (fun w' hw'=>aV aj Z (aB ((H.later hw').ent (i:=0) Z) Z))<|aw Z Z Z Z Z (fun w' hw'=>er Z Z I)<|aw Z Z Z Z Z (fun w' hw'=>N Z Z)<|aw Z Z Z Z Z (fun w' hw'=>Yb Z)<|aw Z Z Z Z Z (fun w' hw'=>Yi Z) ?_
 refine Bi Z Z Z Z Z (fun w' hw'=>jV Z Z) (fun h139=> ?_) (fun h139=> ?_)
 obtain⟨i,hni⟩: ∃ i,n=i+1:=⟨n-1,by omega⟩
 obtain⟨q,hq⟩: ∃ q,os[i]? =some q:=⟨_,ah I⟩
 have hqp:q.part<o.part:=HF (f:=mc.part) hor hq (hni▸ho)
 refine aw Z Z Z Z Z (fun w' hw'=>Yb Z)<|aw Z Z Z Z Z (fun w' hw'=>Zf dT Z)<|aw Z Z Z Z Z (fun w' hw'=>aV ex Z (aB ((H.later hw').ent (i:=1) Z) Z))<|aw Z Z Z Z Z (fun w' hw'=>Yi Z)<|aw Z Z Z Z Z (fun w' hw'=>xt ((i:Nat):Int) Z Z I I I)<|qg H 2 Z Z Z Z Z cV Z Z I I fun bq15 o15 x15 e15=> ?_
 obtain rfl:q=x15:=by have:=e15.at_;rw[hq]at this;exact bB this
 refine aw Z Z Z Z Z (fun w' hw'=>Zf jl Z)<|aw Z Z Z Z Z (fun w' hw'=>aV aj Z (e15.later hw' 0 _ Z))<|aw Z Z Z Z Z (fun w' hw'=>Zf jl Z)<|aw Z Z Z Z Z (fun w' hw'=>aV aj Z (aB ((H.later hw').ent (i:=0) Z) Z))<|aw Z Z Z Z Z (fun w' hw'=>rc Z Z I)<|aw Z Z Z Z Z (fun w' hw'=>Kt Z Z)<|aw Z Z Z Z Z (fun w' hw'=>N Z Z)<|aU ?_
 intro w16 hw' hF
 replace H:=H.later hw';clear hw' hF
 refine U<|ZF Z<|Zk<|Zr<|G (bp Z Z I I)<|G (Yi Z)<|U ?_
 exact⟨n+1,⟨by omega,H.forget (.cons _ (ap _)) (fun _ h=>h)⟩,dF Z,Qg,by show os.length- (n+1)<os.length-n;omega⟩
 refine aw Z Z Z Z Z (fun w' hw'=>Yb Z)<|eU Z Z Z Z<|eU Z Z Z Z<|eU Z Z Z Z<|eU Z Z Z Z<|eU Z Z Z Z<|eU Z Z Z Z<|eU Z Z Z Z<|eU Z Z Z Z<|eU Z Z Z Z<|eU Z Z Z Z<|aw Z Z Z Z Z (fun w' hw'=>N Z Z)<|aw Z Z Z Z Z (fun w' hw'=>N Z Z)<|aU ?_
 intro w17 hw' hF
 replace H:=H.later hw';clear hw' hF
 refine U<|ZF Z<|Zk<|Zr<|G (bp Z Z I I)<|G (Yi Z)<|U ?_
 exact⟨n+1,⟨by omega,H.forget (.cons _ (ap _)) (fun _ h=>h)⟩,dF Z,Qg,by show os.length- (n+1)<os.length-n;omega⟩
 refine U<|W<|ZF Z<|Zx<|W<|Zr<|G (Wi Z)<|U<|Zt ?_
 exact cF Z Z ⟨rfl,H.below⟩
theorem wH (g:Gr) (w:World) (h:g.rd 0 w.heap.size w):dd aa DF [g.v] w fun v w2=> ∃ (g':Gr) (Lm Lo:List (Nat×Obj)),v=g'.v/\qN w w2 g.a g' Lm Lo:=by
 refine aE BP Z Z ?_
 have hmC:=h.mC
 have hoC:=h.oC
 have hfew:=h.few
 have hfp:=h.fewP
 have H:=Hp.startGr h
 obtain⟨ck,wt,gn,ms,mA,mC,os,oA,oC⟩:=g
 dsimp only at hmC hoC hfew hfp H
 show CW _ _ _ _ (args [.agg #[J (ck),J (wt),J (gn),.slice mA ms.length mC,.slice oA os.length oC]]) w
 refine W<|Zr<|fS H Z Z fun w1 b1 H=>eC H dZ Z fun w2 b2 H=>U<|W ?_
 refine bD bZ [0,1,3,4,2,6,5] [7,8,9] [2,5] [0,3,6] (sp [(2,Sp.orow w2.heap.size jQ db ms),(5,Sp.orow w2.heap.size fR d8 os)]) N N N N Nq (cI _) ?_
 refine aw Z Z Z Z Z (fun w' hw'=>Zf dJ Z)<|aw Z Z Z Z Z (fun w' hw'=>aV dt Z (aB ((H.later hw').ent (i:=1) Z) Z))<|aw Z Z Z Z Z (fun w' hw'=>Zf dT Z)<|aw Z Z Z Z Z (fun w' hw'=>aV ex Z (aB ((H.later hw').ent (i:=1) Z) Z))<|xW nG Z Z Z Z Z (fun w' hw'=>hw'.size) (fun w' hw'=>yX ms _ _ w' ((H.later hw').rd0 0 Z) I) Z fun A6 c6 hc6=>aw Z Z Z Z Z (fun w' hw'=>Zf dJ Z)<|xW nF Z Z Z Z Z (fun w' hw'=>hw'.size) (fun w' hw'=>yW os _ _ w' ((H.later hw').rd0 2 Z) I) Z fun A9 c9 hc9=>aU ?_
 intro w3 hw' hF
 obtain⟨hF,Aq,cq,L9,eq,hcq,hm9,ho9,he9,hn9⟩:=hF;cases eq;clear hcq
 obtain⟨hF,Aq,cq,L6,eq,hcq,hm6,ho6,he6,hn6⟩:=hF;cases eq;clear hcq
 replace H:=Hp.join2 H (Hp.ofNew hw' he6 hn6) (Hp.ofNew hw' he9 hn9) ho6 ho9 Z
 clear hw' hF
 refine bl H 1 (#[J (ck),J (wt),J (gn),.slice A6 ms.length c6,.slice oA os.length oC]) tu Z Z Z Z Z N N fun w4 H=>G (Zf dT Z)<|bl H 1 (#[J (ck),J (wt),J (gn),.slice A6 ms.length c6,.slice A9 os.length c9]) nX Z Z Z Z Z N N fun w5 H=>U<|W<|W<|Zr<|G (Zf dJ Z)<|G (Zd dt H 1 Z Z Z)<|G (bn gm Z)<|G (Yi Z)<|U<|Zb ?_
 refine cf (τ:=Nat×List Mem×Option Addr) [3,15,16,17,18,19,20,21,22,23,24,25,26,27,28,29,30] (fun(k,_,_)=>[(15,J (k:Nat))]) (fun(k,out,A1) w'=>k<=out.length/\out.length=ms.length/\out.map Mem.a=ms.map Mem.a/\out.drop k=ms.drop k/\(∀ m∈out.take k,m.parts.length<=m.cap/\w.heap.size<=m.lo)/\ ∃ Lm,gi jQ (.slice A1 out.length c6) db out Lm/\Hp w w' ([(b2,.cells #[J 0,J 0,J 0,.slice none 0 0,.slice none 0 0] cM (0,0)),(b1,.cells #[J (ck),J (wt),J (gn),.slice A1 out.length c6,.slice A9 os.length c9] cM (0,0))]++Lm++L9) ([dG jQ 0 w.heap.size mA ms,Io 0 w.heap.size ms,dG fR 0 w.heap.size oA os]++(out.take k).map ng)) (fun(k,out,_)=>out.length-k) (0,ms,A6) ⟨by omega,rfl,rfl,rfl,by simp,L6,ho6,H⟩ (dF Z) ?_
 rintro⟨k,out,A1⟩ ρ1 w6 ⟨hk,hol,hma,hdr,hpc,Lm,ho,H⟩
 show CW _ _ _ _ (dv (gk _ _ ρ1) [(15,J (k:Nat))]) w6
 refine W<|Zr ?_
 refine cR (cG Z Z) Z Z Z (fun h16=> ?_) (fun h16=> ?_)
 refine U<|W<|ZT Z<|Zk<|W<|Zb<|W ?_
 obtain⟨x,hx⟩: ∃ x,out[k]? =some x:=⟨_,ah I⟩
 have hxt:=ze hdr hx
 have hmem:=ae hxt
 have hfx:=(hfp x hmem).1
 obtain⟨g,cur,rfl,rfl,row⟩:=ho.row I
 refine Zr<|G (Yi Z)<|G (Wi Z)<|U ?_
 have hlo:=H.size
 refine bD bZ [0,1,2,3,4,5,6,7,8,9,10,11] [12] [9] [0,2,3,5,6,7,10,11] (sp [(9,Sp.row w6.heap.size bS x.parts)]) N N N N Nq (cI _) ?_
 refine aw Z Z Z Z Z (fun w' hw'=>Zf dJ Z)<|aw Z Z Z Z Z (fun w' hw'=>aV dt Z (aB ((H.later hw').ent (i:=1) Z) Z))<|aw Z Z Z Z Z (fun w' hw'=>Yi Z)<|aw Z Z Z Z Z (fun w' hw'=>Zf dJ Z)<|aw Z Z Z Z Z (fun w' hw'=>aV dt Z (aB ((H.later hw').ent (i:=1) Z) Z))<|aw Z Z Z Z Z (fun w' hw'=>Yi Z)<|aw Z Z Z Z Z (fun w' hw'=>cC ez Z Z (by first|omega|(simp only[ab];omega)))<|aw Z Z Z Z Z (fun w' hw'=>Zf iS Z)<|aw Z Z Z Z Z (fun w' hw'=>bQ cr row hx 2 Z ((H.later hw').ent (i:=2) Z) Z)<|CR gg Z Z Z Z Z (fun w' hw'=>hw'.size) (fun w' hw'=>wT x.parts _ _ w' (y8 (H.later hw') 1 Z hmem) I) Z fun A27 c27 hc27=>aw Z Z Z Z Z (fun w' hw'=>cC ez Z Z (by first|omega|(simp only[ab];omega)))<|aw Z Z Z Z Z (fun w' hw'=>Zf iS Z)<|aU ?_
 intro w7 hw' hF
 obtain⟨hF,Aq,cq,eq,hcq,hrw27⟩:=hF;cases eq;clear hcq
 replace H:=H.learnRd hw' hrw27
 clear hw' hF
 refine kQ H 2 ({x with A:=A27,cap:=c27,lo:=w6.heap.size,hi:=w7.heap.size}) jF row hx 2 Z Z Z Z Z Z N fun w9 cur8 row8 H=> ?_
 have hs10:(out.set k ({x with A:=A27,cap:=c27,lo:=w6.heap.size,hi:=w7.heap.size}))[k]? =some ({x with A:=A27,cap:=c27,lo:=w6.heap.size,hi:=w7.heap.size}):=am (cD hx).1
 refine U<|Zr<|G (bp Z Z I I)<|G (Yi Z)<|U ?_
 obtain⟨z1,z2,z3⟩:=NN (x':={x with A:=A27,cap:=c27,lo:=w6.heap.size,hi:=w7.heap.size}) hx hma hdr Z
 have hown:=dU.own (g:=g) (e:=db) row8
 refine⟨(k+1,out.set k {x with A:=A27,cap:=c27,lo:=w6.heap.size,hi:=w7.heap.size},some ⟨g,0,none⟩),⟨by rw[ab];omega,by rw[ab];exact hol,z1,z2,?_,_,hown,?_⟩,dF Z,Qg,by show(out.set k _).length- (k+1)<out.length-k;rw[ab];omega⟩
 rw[z3];intro t ht;rcases ar.1 ht with ht|ht;exact hpc t ht;rw[aq.1 ht];exact⟨hc27,hlo⟩
 rw[ab];exact H.forget (ap _) (fun f hf=>by rw[z3]at hf;exact zU hf)
 refine U<|W<|ZF Z<|Zx<|W<|Zr<|G (Zw aR H 1 Z Z Z)<|bl H 0 (#[J (ck),J (wt),J (gn),.slice A1 out.length c6,.slice A9 os.length c9]) bF Z Z Z Z Z N N fun w11 H=>U<|Zt ?_
 have hke:k=out.length:=by omega
 rw[hke,bV]at H hpc
 exact eQ (cs0:= #[J (ck),J (wt),J (gn),.slice A1 out.length c6,.slice A9 os.length c9]) Z aR Z (H.ent (i:=0) Z) Z ⟨⟨ck,wt,gn,out,A1,c6,os,A9,c9⟩,Lm,L9,rfl,by unfold Gr.a;dsimp only;rw[hma],ho,ho9,by dsimp only;omega,hc9,hpc,H.forget (by rw[aD];exact .cons _ (.cons _ (ap _))) (fun f hf=>bW _ hf)⟩
theorem Hp.joinG {w0 w w':World} {L Lm Lo:List (Nat×Obj)} {F:List ci} {ms:List Mem} (H:Hp w0 w L F) (H':Hp w w' (Lm++Lo) (ms.map ng)) (hlo: ∀ m∈ms,w.heap.size<=m.lo):Hp w0 w' (L++Lm++Lo) (F++ms.map ng):=by
 refine(H.joinF H' fun f hf=> ?_).perm ?_
 obtain⟨m,hm,rfl⟩:=bv.1 hf
 exact hlo m hm
 rw[aD];exact xm
def pX (g:Gr) (s:ByteArray):Int:=lB (g.ms.findIdx? fun p=>decide (p.name=s))
theorem zV {l l2:List Mem} (h:l2.map Mem.a=l.map Mem.a) {i:Nat} {t:Mem} (ht:l[i]? =some t): ∃ t2,l2[i]? =some t2/\t2.a=t.a:=by
 have:=congrArg (fun x=>x[i]?) h
 simp only[aM,ht,eD]at this
 exact iH.1 this
def iT (g:Gr) (n:Int):Bool:=decide (0<=n)&&decide (n<=4)&&decide (g.gen<1073741824)
theorem Ng (n:Int) (w:World) (h1:1<=n) (h2:n<=1000):dd aa Ft [J n] w fun v w2=>v=.tuple #[.agg #[J 0,J n,J 0,.slice none 0 0,.slice none 0 0],J 0]/\Below w.heap.size w w2:=by
 refine aE DT Z Z ?_
 have H:=Hp.start w
 refine W<|Zr<|eC H dZ Z fun w1 b2 H=>G (Wi Z)<|U<|W<|W<|Zr<|G (Yi Z)<|G (cY Z Z I)<|G (Yb Z)<|ZG<|G (Yi Z)<|ZG<|G (er Z Z I)<|G (N Z Z)<|U<|ZF Z<|Zk<|W<|Zr<|G (Yi Z)<|G (bj (cs:= #[J (0),J (n),J (0),.slice none 0 0,.slice none 0 0]) j4 dZ N)<|bl H 0 (#[J (0),J (n),J (0),.slice none 0 0,.slice none 0 0]) bF Z Z Z Z Z N N fun w2 H=>G (Wi Z)<|U<|Zt ?_
 exact bG (cs0:= #[J 0,J n,J 0,.slice none 0 0,.slice none 0 0]) (v1:=J 0) Z aR Z (H.ent (i:=0) Z) Z Z ⟨rfl,H.below⟩
theorem sG (g:Gr) (n:Int) (w:World):dd aa yL [g.v,J n] w fun v w2=>v=.bool (iT g n)/\Below w.heap.size w w2:=by
 refine aE xK Z Z ?_
 have H:=Hp.start w
 obtain⟨ck,wt,gn,ms,mA,mC,os,oA,oC⟩:=g
 show CW _ _ _ _ (args [.agg #[J (ck),J (wt),J (gn),.slice mA ms.length mC,.slice oA os.length oC],J (n)]) w
 refine W<|Zr<|fS H Z Z fun w1 b2 H=>G (Wb Z)<|U<|W<|Zr<|G (Yi Z) ?_
 refine cR (ke Z Z) Z Z Z (fun h6=> ?_) (fun h6=> ?_)
 refine G (Yb Z)<|ZG<|G (Yi Z)<|ZG ?_
 refine cR (K7 Z Z) Z Z Z (fun h9=> ?_) (fun h9=> ?_)
 refine G (Kt Z Z)<|G (Yb Z)<|ZG<|G (Zf kj Z)<|ZG<|G (Zd aj H 0 Z Z Z)<|ZG ?_
 refine cR (cG Z Z) Z Z Z (fun h14=> ?_) (fun h14=> ?_)
 refine G (Kt Z Z)<|G (Wb Z)<|U<|Zt ?_
 have hv:iT ⟨ck,wt,gn,ms,mA,mC,os,oA,oC⟩ n=true:=by unfold iT;simp;omega
 exact cF (v:=.bool true) Z Z ⟨by rw[hv],H.below⟩
 refine G (Kt Z Z)<|G (Wb Z)<|U<|Zt ?_
 have hv:iT ⟨ck,wt,gn,ms,mA,mC,os,oA,oC⟩ n=false:=by unfold iT;simp;omega
 exact cF (v:=.bool false) Z Z ⟨by rw[hv],H.below⟩
 refine G (Kt Z Z)<|G (Yb Z)<|ZN<|ZN<|ZN<|G (N Z Z)<|G (Wb Z)<|U<|Zt ?_
 have hv:iT ⟨ck,wt,gn,ms,mA,mC,os,oA,oC⟩ n=false:=by unfold iT;simp;omega
 exact cF (v:=.bool false) Z Z ⟨by rw[hv],H.below⟩
 refine G (Yb Z)<|ZN<|ZN<|G (N Z Z)<|G (Yb Z)<|ZN<|ZN<|ZN<|G (N Z Z)<|G (Wb Z)<|U<|Zt ?_
 have hv:iT ⟨ck,wt,gn,ms,mA,mC,os,oA,oC⟩ n=false:=by unfold iT;simp;omega
 exact cF (v:=.bool false) Z Z ⟨by rw[hv],H.below⟩
theorem mw (g:Gr) (s:ByteArray) (w:World) (h:g.rd 0 w.heap.size w) (hok:lh g=true) (hn:bM s=true):dd aa DD [g.v,.string s] w fun v w2=> ∃ (g':Gr) (Lm Lo:List (Nat×Obj)),v=.tuple #[g'.v,J (pX g s),J 0]/\qN w w2 g.a g' Lm Lo:=by
 refine aE BN Z Z ?_
 have hmC:=h.mC
 have hoC:=h.oC
 have hfew:=h.few
 have hfp:=h.fewP
 have H:=Hp.startGr h
 obtain⟨ck,wt,gn,ms,mA,mC,os,oA,oC⟩:=g
 dsimp only at hmC hoC hfew hfp H
 show CW _ _ _ _ (args [.agg #[J (ck),J (wt),J (gn),.slice mA ms.length mC,.slice oA os.length oC],.string (s)]) w
 refine W<|Zr<|fS H Z Z fun w1 b2 H=>PW H Z Z fun w2 b3 H=>eC H dZ Z fun w3 b4 H=>G (Wi Z)<|G (Wi Z)<|U<|W<|W<|Zr<|G (Zw aR H 2 Z Z Z)<|cd t6 (CF ⟨ck,wt,gn,ms,mA,mC,os,oA,oC⟩ _ ⟨H.rd0 0 Z,fun m hm=>y8 H 1 Z hm,H.rd0 2 Z,hmC,hoC,hfew,hfp⟩ hok) Z Z ?_
 rintro _ w4 ⟨rfl,hb⟩;replace H:=H.later hb;clear hb
 refine G (Wi Z)<|U<|W<|Zr<|G (Yi Z)<|G (bX Z Z Z)<|U<|ZF Z<|Zk<|W<|W<|Zr<|G (Zd ba H 1 Z Z Z)<|cd vj (Fx s _) Z Z ?_
 rw[hn]
 rintro _ w5 ⟨rfl,hb⟩;replace H:=H.later hb;clear hb
 refine G (dO Z)<|U<|ZF Z<|Zk<|W ?_
 refine qI bZ [2,4] [0,1,3,5,6,7,8] [2,4] 7 N N N Nq ?_
 refine aw Z Z Z Z Z (fun w' hw'=>Zf dJ Z)<|aw Z Z Z Z Z (fun w' hw'=>zP Z)<|aU ?_
 intro w6 hw';replace H:=H.later hw';clear hw'
 refine tj 0 3 N Z Z ?_ ?_
 refine G (Zw aR H 2 Z Z Z)<|U ?_
 refine tj 1 3 N Z Z ?_ ?_
 refine cd nR (wH ⟨ck,wt,gn,ms,mA,mC,os,oA,oC⟩ _ ⟨H.rd0 0 Z,fun m hm=>y8 H 1 Z hm,H.rd0 2 Z,hmC,hoC,hfew,hfp⟩) Z Z ?_
 rintro _ w7 ⟨⟨ck2,wt2,gn2,ms2,mA2,mC2,os2,oA2,oC2⟩,Lm,Lo,rfl,ha2,ho2,hoo2,hmc2,hoc2,hpc2,hj2⟩
 have hlo2:=H.size
 replace H:=Hp.joinG H hj2 (fun m hm=>(hpc2 m hm).2);clear hj2
 simp only[Gr.a,Gr.mk.injEq]at ha2
 obtain⟨e1,e2,e3,hma,-,-,e4,-,-⟩:=ha2
 obtain rfl:ck=ck2:=e1.symm
 obtain rfl:wt=wt2:=e2.symm
 obtain rfl:gn=gn2:=e3.symm
 obtain rfl:os=os2:=e4.symm
 dsimp only at ho2 hoo2 hmc2 hoc2 hpc2 H
 replace hpc2: ∀ m∈ms2,m.parts.length<=m.cap/\w.heap.size<=m.lo:=fun m hm=>⟨(hpc2 m hm).1,aT hlo2 (hpc2 m hm).2⟩
 have hml2:ms2.length=ms.length:=by have:=congrArg cv hma;simpa using this
 refine U<|da 3 N Z<|G (Zd dt H 2 Z Z Z)<|U<|da 5 N Z<|cd dm (fN ms mA mC _ (H.rd0 0 Z) I lv [.pointer (Qd b3)] nH (fun p=>decide (p.name=s)) (fun e w2 _ hw2=>tL e s b3 w2 ((hw2.block _ (ce (H.ent (i:=1) Z))).trans (H.ent (i:=1) Z)))) Z Z ?_
 rintro _ w8 ⟨rfl,hb⟩;replace H:=H.later hb;clear hb
 refine U<|da 6 N Z<|bl H 0 (#[J (ck),J (wt),J (gn),.slice mA2 ms2.length mC2,.slice oA2 os.length oC2]) bF Z Z Z Z Z N N fun w9 H=>U<|da 7 N Z<|G (Wi Z)<|U<|da 8 N Z<|G (Wi Z)<|U<|cz N<|Zt ?_
 exact gw (cs0:= #[J (ck),J (wt),J (gn),.slice mA2 ms2.length mC2,.slice oA2 os.length oC2]) (v1:=J (lB (ms.findIdx? fun p=>decide (p.name=s)))) (v2:=J 0) Z aR Z (H.ent (i:=0) Z) Z Z Z ⟨⟨ck,wt,gn,ms2,mA2,mC2,os,oA2,oC2⟩,Lm,Lo,rfl,by unfold Gr.a;dsimp only;rw[hma],ho2,hoo2,hmc2,hoc2,hpc2,H.forget (by rw[aD];exact .cons _ (.cons _ (.cons _ (ap _)))) (fun f hf=>by simp only[av,ar];grind)⟩
 refine G (Zd dt H 2 Z Z Z)<|U<|da 1 N Z<|cd nR (wH ⟨ck,wt,gn,ms,mA,mC,os,oA,oC⟩ _ ⟨H.rd0 0 Z,fun m hm=>y8 H 1 Z hm,H.rd0 2 Z,hmC,hoC,hfew,hfp⟩) Z Z ?_
 rintro _ w10 ⟨⟨ck2,wt2,gn2,ms2,mA2,mC2,os2,oA2,oC2⟩,Lm,Lo,rfl,ha2,ho2,hoo2,hmc2,hoc2,hpc2,hj2⟩
 have hlo2:=H.size
 replace H:=Hp.joinG H hj2 (fun m hm=>(hpc2 m hm).2);clear hj2
 simp only[Gr.a,Gr.mk.injEq]at ha2
 obtain⟨e1,e2,e3,hma,-,-,e4,-,-⟩:=ha2
 obtain rfl:ck=ck2:=e1.symm
 obtain rfl:wt=wt2:=e2.symm
 obtain rfl:gn=gn2:=e3.symm
 obtain rfl:os=os2:=e4.symm
 dsimp only at ho2 hoo2 hmc2 hoc2 hpc2 H
 replace hpc2: ∀ m∈ms2,m.parts.length<=m.cap/\w.heap.size<=m.lo:=fun m hm=>⟨(hpc2 m hm).1,aT hlo2 (hpc2 m hm).2⟩
 have hml2:ms2.length=ms.length:=by have:=congrArg cv hma;simpa using this
 refine U<|da 5 N Z<|cd dm (fN ms mA mC _ (H.rd0 0 Z) I lv [.pointer (Qd b3)] nH (fun p=>decide (p.name=s)) (fun e w2 _ hw2=>tL e s b3 w2 ((hw2.block _ (ce (H.ent (i:=1) Z))).trans (H.ent (i:=1) Z)))) Z Z ?_
 rintro _ w11 ⟨rfl,hb⟩;replace H:=H.later hb;clear hb
 refine U<|da 6 N Z<|bl H 0 (#[J (ck),J (wt),J (gn),.slice mA2 ms2.length mC2,.slice oA2 os.length oC2]) bF Z Z Z Z Z N N fun w12 H=>U<|da 7 N Z<|G (Wi Z)<|U<|da 8 N Z<|G (Wi Z)<|U<|cz N<|Zt ?_
 exact gw (cs0:= #[J (ck),J (wt),J (gn),.slice mA2 ms2.length mC2,.slice oA2 os.length oC2]) (v1:=J (lB (ms.findIdx? fun p=>decide (p.name=s)))) (v2:=J 0) Z aR Z (H.ent (i:=0) Z) Z Z Z ⟨⟨ck,wt,gn,ms2,mA2,mC2,os,oA2,oC2⟩,Lm,Lo,rfl,by unfold Gr.a;dsimp only;rw[hma],ho2,hoo2,hmc2,hoc2,hpc2,H.forget (by rw[aD];exact .cons _ (.cons _ (.cons _ (ap _)))) (fun f hf=>by simp only[av,ar];grind)⟩
 refine G (Zd dt H 2 Z Z Z)<|U<|da 0 N Z<|G (Zw aR H 2 Z Z Z)<|U<|da 1 N Z<|cd nR (wH ⟨ck,wt,gn,ms,mA,mC,os,oA,oC⟩ _ ⟨H.rd0 0 Z,fun m hm=>y8 H 1 Z hm,H.rd0 2 Z,hmC,hoC,hfew,hfp⟩) Z Z ?_
 rintro _ w13 ⟨⟨ck2,wt2,gn2,ms2,mA2,mC2,os2,oA2,oC2⟩,Lm,Lo,rfl,ha2,ho2,hoo2,hmc2,hoc2,hpc2,hj2⟩
 have hlo2:=H.size
 replace H:=Hp.joinG H hj2 (fun m hm=>(hpc2 m hm).2);clear hj2
 simp only[Gr.a,Gr.mk.injEq]at ha2
 obtain⟨e1,e2,e3,hma,-,-,e4,-,-⟩:=ha2
 obtain rfl:ck=ck2:=e1.symm
 obtain rfl:wt=wt2:=e2.symm
 obtain rfl:gn=gn2:=e3.symm
 obtain rfl:os=os2:=e4.symm
 dsimp only at ho2 hoo2 hmc2 hoc2 hpc2 H
 replace hpc2: ∀ m∈ms2,m.parts.length<=m.cap/\w.heap.size<=m.lo:=fun m hm=>⟨(hpc2 m hm).1,aT hlo2 (hpc2 m hm).2⟩
 have hml2:ms2.length=ms.length:=by have:=congrArg cv hma;simpa using this
 refine U<|da 5 N Z<|cd dm (fN ms mA mC _ (H.rd0 0 Z) I lv [.pointer (Qd b3)] nH (fun p=>decide (p.name=s)) (fun e w2 _ hw2=>tL e s b3 w2 ((hw2.block _ (ce (H.ent (i:=1) Z))).trans (H.ent (i:=1) Z)))) Z Z ?_
 rintro _ w14 ⟨rfl,hb⟩;replace H:=H.later hb;clear hb
 refine U<|da 6 N Z<|bl H 0 (#[J (ck),J (wt),J (gn),.slice mA2 ms2.length mC2,.slice oA2 os.length oC2]) bF Z Z Z Z Z N N fun w15 H=>U<|da 7 N Z<|G (Wi Z)<|U<|da 8 N Z<|G (Wi Z)<|U<|cz N<|Zt ?_
 exact gw (cs0:= #[J (ck),J (wt),J (gn),.slice mA2 ms2.length mC2,.slice oA2 os.length oC2]) (v1:=J (lB (ms.findIdx? fun p=>decide (p.name=s)))) (v2:=J 0) Z aR Z (H.ent (i:=0) Z) Z Z Z ⟨⟨ck,wt,gn,ms2,mA2,mC2,os,oA2,oC2⟩,Lm,Lo,rfl,by unfold Gr.a;dsimp only;rw[hma],ho2,hoo2,hmc2,hoc2,hpc2,H.forget (by rw[aD];exact .cons _ (.cons _ (.cons _ (ap _)))) (fun f hf=>by simp only[av,ar];grind)⟩
theorem CE (g:Gr) (s:ByteArray) (gn_:Int) (w:World) (h:g.rd 0 w.heap.size w) (hok:lh g=true) (hn:bM s=true) (hi:pX g s= -1):dd aa su [g.v,.string s,J gn_] w fun v w2=>v=.tuple #[.agg #[J 0,J 0,J 0,.slice none 0 0,.slice none 0 0],J 0,J 5]/\Below w.heap.size w w2:=by
 refine aE rj Z Z ?_
 have hmC:=h.mC
 have hoC:=h.oC
 have hfew:=h.few
 have hfp:=h.fewP
 have H:=Hp.startGr h
 obtain⟨ck,wt,gn,ms,mA,mC,os,oA,oC⟩:=g
 dsimp only at hmC hoC hfew hfp H
 show CW _ _ _ _ (args [.agg #[J (ck),J (wt),J (gn),.slice mA ms.length mC,.slice oA os.length oC],.string (s),J (gn_)]) w
 refine W<|Zr<|fS H Z Z fun w1 b3 H=>eC H dZ Z fun w2 b6 H=>G (Wi Z)<|G (Wi Z)<|U<|W<|Zr<|G (Zw aR H 1 Z Z Z)<|G (Yt Z)<|cd gh (mw ⟨ck,wt,gn,ms,mA,mC,os,oA,oC⟩ s _ ⟨H.rd0 0 Z,fun m hm=>y8 H 1 Z hm,H.rd0 2 Z,hmC,hoC,hfew,hfp⟩ hok hn) Z Z ?_
 rintro _ w3 ⟨⟨ck2,wt2,gn2,ms2,mA2,mC2,os2,oA2,oC2⟩,Lm,Lo,rfl,ha2,ho2,hoo2,hmc2,hoc2,hpc2,hj2⟩
 have hlo2:=H.size
 replace H:=Hp.joinG H hj2 (fun m hm=>(hpc2 m hm).2);clear hj2
 simp only[Gr.a,Gr.mk.injEq]at ha2
 obtain⟨e1,e2,e3,hma,-,-,e4,-,-⟩:=ha2
 obtain rfl:ck=ck2:=e1.symm
 obtain rfl:wt=wt2:=e2.symm
 obtain rfl:gn=gn2:=e3.symm
 obtain rfl:os=os2:=e4.symm
 dsimp only at ho2 hoo2 hmc2 hoc2 hpc2 H
 replace hpc2: ∀ m∈ms2,m.parts.length<=m.cap/\w.heap.size<=m.lo:=fun m hm=>⟨(hpc2 m hm).1,aT hlo2 (hpc2 m hm).2⟩
 have hml2:ms2.length=ms.length:=by have:=congrArg cv hma;simpa using this
 rw[hi]
 refine G (Yu Z)<|G (Xa Z Z)<|G (Xi Z Z)<|G (Xi Z Z)<|bl H 1 (#[J (ck),J (wt),J (gn),.slice mA2 ms2.length mC2,.slice oA2 os.length oC2]) bF Z Z Z Z Z N N fun w4 H=>G (Wi Z)<|G (Wi Z)<|U<|W<|Zb<|W<|Zr<|G (Yi Z)<|G (bX Z Z Z)<|G (Wb Z)<|U<|ZF Z<|W<|Zr<|G (Yi Z)<|G (xD Z Z (by decide))<|G (Wb Z)<|U<|ZT Z<|W<|Zr<|G (bj (cs:= #[J (0),J (0),J (0),.slice none 0 0,.slice none 0 0]) j4 dZ N)<|bl H 0 (#[J (0),J (0),J (0),.slice none 0 0,.slice none 0 0]) bF Z Z Z Z Z N N fun w5 H=>G (Wi Z)<|G (Wi Z)<|U<|Zt ?_
 exact gw (cs0:= #[J 0,J 0,J 0,.slice none 0 0,.slice none 0 0]) (v1:=J 0) (v2:=J 5) Z aR Z (H.ent (i:=0) Z) Z Z Z ⟨rfl,H.below⟩
theorem Ap (g:Gr) (s:ByteArray) (gn_:Int) (w:World) (h:g.rd 0 w.heap.size w) (hok:lh g=true) (hn:bM s=true) (i:Nat) (hi:pX g s=i) (hg:g.gen≠gn_):dd aa su [g.v,.string s,J gn_] w fun v w2=>v=.tuple #[.agg #[J 0,J 0,J 0,.slice none 0 0,.slice none 0 0],J 0,J 10]/\Below w.heap.size w w2:=by
 refine aE rj Z Z ?_
 have hmC:=h.mC
 have hoC:=h.oC
 have hfew:=h.few
 have hfp:=h.fewP
 have H:=Hp.startGr h
 obtain⟨ck,wt,gn,ms,mA,mC,os,oA,oC⟩:=g
 dsimp only at hmC hoC hfew hfp H
 show CW _ _ _ _ (args [.agg #[J (ck),J (wt),J (gn),.slice mA ms.length mC,.slice oA os.length oC],.string (s),J (gn_)]) w
 dsimp only at hg
 refine W<|Zr<|fS H Z Z fun w1 b3 H=>eC H dZ Z fun w2 b6 H=>G (Wi Z)<|G (Wi Z)<|U<|W<|Zr<|G (Zw aR H 1 Z Z Z)<|G (Yt Z)<|cd gh (mw ⟨ck,wt,gn,ms,mA,mC,os,oA,oC⟩ s _ ⟨H.rd0 0 Z,fun m hm=>y8 H 1 Z hm,H.rd0 2 Z,hmC,hoC,hfew,hfp⟩ hok hn) Z Z ?_
 rintro _ w3 ⟨⟨ck2,wt2,gn2,ms2,mA2,mC2,os2,oA2,oC2⟩,Lm,Lo,rfl,ha2,ho2,hoo2,hmc2,hoc2,hpc2,hj2⟩
 have hlo2:=H.size
 replace H:=Hp.joinG H hj2 (fun m hm=>(hpc2 m hm).2);clear hj2
 simp only[Gr.a,Gr.mk.injEq]at ha2
 obtain⟨e1,e2,e3,hma,-,-,e4,-,-⟩:=ha2
 obtain rfl:ck=ck2:=e1.symm
 obtain rfl:wt=wt2:=e2.symm
 obtain rfl:gn=gn2:=e3.symm
 obtain rfl:os=os2:=e4.symm
 dsimp only at ho2 hoo2 hmc2 hoc2 hpc2 H
 replace hpc2: ∀ m∈ms2,m.parts.length<=m.cap/\w.heap.size<=m.lo:=fun m hm=>⟨(hpc2 m hm).1,aT hlo2 (hpc2 m hm).2⟩
 have hml2:ms2.length=ms.length:=by have:=congrArg cv hma;simpa using this
 rw[hi]
 refine G (Yu Z)<|G (Xa Z Z)<|G (Xi Z Z)<|G (Xi Z Z)<|bl H 1 (#[J (ck),J (wt),J (gn),.slice mA2 ms2.length mC2,.slice oA2 os.length oC2]) bF Z Z Z Z Z N N fun w4 H=>G (Wi Z)<|G (Wi Z)<|U<|W<|Zb<|W<|Zr<|G (Yi Z)<|G (bX Z Z Z)<|G (Wb Z)<|U<|ZF Z<|W<|Zr<|G (Yi Z)<|G (cY Z Z I)<|G (Wb Z)<|U<|ZF Z<|W<|Zr<|G (Zf kj Z)<|G (Zd aj H 1 Z Z Z)<|G (Yi Z)<|G (j9 Z Z I)<|G (Wb Z)<|U<|ZT Z<|W<|Zr<|G (bj (cs:= #[J (0),J (0),J (0),.slice none 0 0,.slice none 0 0]) j4 dZ N)<|bl H 0 (#[J (0),J (0),J (0),.slice none 0 0,.slice none 0 0]) bF Z Z Z Z Z N N fun w5 H=>G (Wi Z)<|G (Wi Z)<|U ?_
 refine Zt ?_
 exact gw (cs0:= #[J 0,J 0,J 0,.slice none 0 0,.slice none 0 0]) (v1:=J 0) (v2:=J 10) Z aR Z (H.ent (i:=0) Z) Z Z Z ⟨rfl,H.below⟩
theorem zc (g:Gr) (s:ByteArray) (gn_:Int) (w:World) (h:g.rd 0 w.heap.size w) (hok:lh g=true) (hn:bM s=true) (i:Nat) (hi:pX g s=i) (hg:g.gen=gn_):dd aa su [g.v,.string s,J gn_] w fun v w2=> ∃ (g':Gr) (Lm Lo:List (Nat×Obj)),v=.tuple #[g'.v,J (i:Nat),J 0]/\qN w w2 g.a g' Lm Lo:=by
 refine aE rj Z Z ?_
 have hmC:=h.mC
 have hoC:=h.oC
 have hfew:=h.few
 have hfp:=h.fewP
 have H:=Hp.startGr h
 obtain⟨ck,wt,gn,ms,mA,mC,os,oA,oC⟩:=g
 dsimp only at hmC hoC hfew hfp H
 show CW _ _ _ _ (args [.agg #[J (ck),J (wt),J (gn),.slice mA ms.length mC,.slice oA os.length oC],.string (s),J (gn_)]) w
 dsimp only at hg
 refine W<|Zr<|fS H Z Z fun w1 b3 H=>eC H dZ Z fun w2 b6 H=>G (Wi Z)<|G (Wi Z)<|U<|W<|Zr<|G (Zw aR H 1 Z Z Z)<|G (Yt Z)<|cd gh (mw ⟨ck,wt,gn,ms,mA,mC,os,oA,oC⟩ s _ ⟨H.rd0 0 Z,fun m hm=>y8 H 1 Z hm,H.rd0 2 Z,hmC,hoC,hfew,hfp⟩ hok hn) Z Z ?_
 rintro _ w3 ⟨⟨ck2,wt2,gn2,ms2,mA2,mC2,os2,oA2,oC2⟩,Lm,Lo,rfl,ha2,ho2,hoo2,hmc2,hoc2,hpc2,hj2⟩
 have hlo2:=H.size
 replace H:=Hp.joinG H hj2 (fun m hm=>(hpc2 m hm).2);clear hj2
 simp only[Gr.a,Gr.mk.injEq]at ha2
 obtain⟨e1,e2,e3,hma,-,-,e4,-,-⟩:=ha2
 obtain rfl:ck=ck2:=e1.symm
 obtain rfl:wt=wt2:=e2.symm
 obtain rfl:gn=gn2:=e3.symm
 obtain rfl:os=os2:=e4.symm
 dsimp only at ho2 hoo2 hmc2 hoc2 hpc2 H
 replace hpc2: ∀ m∈ms2,m.parts.length<=m.cap/\w.heap.size<=m.lo:=fun m hm=>⟨(hpc2 m hm).1,aT hlo2 (hpc2 m hm).2⟩
 have hml2:ms2.length=ms.length:=by have:=congrArg cv hma;simpa using this
 rw[hi]
 refine G (Yu Z)<|G (Xa Z Z)<|G (Xi Z Z)<|G (Xi Z Z)<|bl H 1 (#[J (ck),J (wt),J (gn),.slice mA2 ms2.length mC2,.slice oA2 os.length oC2]) bF Z Z Z Z Z N N fun w4 H=>G (Wi Z)<|G (Wi Z)<|U<|W<|Zb<|W<|Zr<|G (Yi Z)<|G (bX Z Z Z)<|G (Wb Z)<|U<|ZF Z<|W<|Zr<|G (Yi Z)<|G (cY Z Z I)<|G (Wb Z)<|U<|ZF Z<|W<|Zr<|G (Zf kj Z)<|G (Zd aj H 1 Z Z Z)<|G (Yi Z)<|G (bX Z Z I)<|G (Wb Z)<|U<|ZF Z<|Zk<|W<|Zr<|G (Zw aR H 1 Z Z Z)<|G (Yi Z)<|bl H 0 (#[J (ck),J (wt),J (gn),.slice mA2 ms2.length mC2,.slice oA2 os.length oC2]) bF Z Z Z Z Z N N fun w5 H=>G (Wi Z) ?_
 refine G (Wi Z)<|U<|Zt ?_
 exact gw (cs0:= #[J (ck),J (wt),J (gn),.slice mA2 ms2.length mC2,.slice oA2 os.length oC2]) (v1:=J (i:Nat)) (v2:=J 0) Z aR Z (H.ent (i:=0) Z) Z Z Z ⟨⟨ck,wt,gn,ms2,mA2,mC2,os,oA2,oC2⟩,Lm,Lo,rfl,by unfold Gr.a;dsimp only;rw[hma],ho2,hoo2,hmc2,hoc2,hpc2,H.forget (by rw[aD];exact .cons _ (.cons _ (ap _))) (fun f hf=>by simp only[av,ar];grind)⟩
/-- a comparing function's answer says less or not -/
def Mk (cmpv:Int->Int->Int) (a b:Int):Bool:=decide (cmpv a b<0)
theorem Je {w0 w:World} {M:List (Nat×Obj)} {F:List ci} {g n:Nat} {u:Array Value} (es:List Int) (c:Nat) (H:Hp w0 w ((g,.cells u cW (0,0))::M) F) (row:dU bS es c u) (hn:n=es.length) (h12:es.length<=19) {f:FuncId} {cap:List Value} (hf:bi aa f=true) (cmpv:Int->Int->Int) (hp: ∀ a b:Int,a∈es->b∈es-> ∀ (w':World) (u':Array Value),Hp w0 w' ((g,.cells u' cW (0,0))::M) F->dd aa f (J a::J b::cap) w' fun v w2=>v=J (cmpv a b)/\Below w'.heap.size w' w2):
  dd aa l5 [.slice (Qd g) n c,J 0,J (n:Nat),.func (.func f) #[] cap.toArray] w fun v w2=> ∃ u2,v=.tuple #[]/\dU bS (ka (Mk cmpv) n es) c u2/\Hp w0 w2 ((g,.cells u2 cW (0,0))::M) F:=by
 refine aE lD Z Z ?_
 have hle:=row.le
 refine W<|Zr<|G (Yi Z)<|G (bp Z Z I I)<|G (Wi Z)<|U<|Zb ?_
 refine cf (τ:=Nat×List Int×Array Value) [8,9,12,13,14,15,16,17,18,19,20,21,22,23,24,25,26,27,28,29,30,31,32,33,34,35,36,37,38,39,40,41,42,43,44,45,46,47,48,49,50,51,52] (fun(i,_,_)=>[(8,J (i:Nat))]) (fun(i,l,u1) w'=>1<=i/\i<=n+1/\(n≠0->i<=n)/\l=ka (Mk cmpv) i es/\(∀ y∈l,y∈es)/\dU bS l c u1/\Hp w0 w' ((g,.cells u1 cW (0,0))::M) F) (fun(i,_)=>n+1-i) (1,es,u) ⟨by omega,by omega,by omega,rfl,fun _ h=>h,row,H⟩ (dF Z) ?_
 rintro⟨i,l,u1⟩ ρ1 w1 ⟨hi1,hin,hi0,hl,hle1,row1,H⟩
 show CW _ _ _ _ (dv (gk _ _ ρ1) [(8,J (i:Nat))]) w1
 have hll:l.length=n:=by rw[hl,Ad,hn]
 refine W<|W<|Zr<|G (Yi Z)<|G (Yi Z) ?_
 refine cR (cG Z Z) Z Z Z (fun h14=> ?_) (fun h14=> ?_)
 refine U<|ZT Z<|Zk<|W<|Zb<|W<|Zr<|G (Yi Z)<|G (Wi Z)<|U<|Zb ?_
 refine cf (τ:=Nat×List Int×Array Value) [9,18,19,20,21,22,23,24,25,26,27,28,29,30,31,32,33,34,35,36,37,38,39,40,41,42,43,44,45,46,47,48,49,50,51,52] (fun(j,_,_)=>[(9,J (j:Nat))]) (fun(j,m,u2) w'=>j<=i/\m.length=n/\zD (Mk cmpv) j m=ka (Mk cmpv) (i+1) es/\(∀ y∈m,y∈es)/\dU bS m c u2/\Hp w0 w' ((g,.cells u2 cW (0,0))::M) F) (fun(j,_)=>j) (i,l,u1) ⟨by omega,hll,by rw[hl];rfl,hle1,row1,H⟩ (dF Z) ?_
 rintro⟨j,m,u2⟩ ρ2 w2 ⟨hj,hml,hm,hle2,row2,H⟩
 show CW _ _ _ _ (dv (gk _ _ ρ2) [(9,J (j:Nat))]) w2
 refine W<|W ?_
 obtain⟨a,ha0⟩: ∃ a,a=m.getD (j-1) 0:=⟨_,rfl⟩
 obtain⟨b,hb0⟩: ∃ b,b=m.getD j 0:=⟨_,rfl⟩
 refine bD bZ [0,1,2,3,4,5,6,7,8,9,10,11,12,13,14,15,16] [] [14] [0,1,2,3,4,5,6,7,9,10,11,12,15,16] (sp [(14,Sp.one (J (cmpv b a)))]) N N N N Nq (cI _) ?_
 refine aw Z Z Z Z Z (fun w' hw'=>Yi Z)<|aw Z Z Z Z Z (fun w' hw'=>Yi Z) ?_
 refine Bi Z Z Z Z Z (fun w' hw'=>jV Z Z) (fun h20=> ?_) (fun h20=> ?_)
 obtain⟨q,rfl⟩: ∃ q,j=q+1:=⟨j-1,by omega⟩
 have ha:m[q]? =some a:=by rw[ha0];exact getD_some 0 I
 have hb:m[q+1]? =some b:=by rw[hb0];exact getD_some 0 I
 have ha2:(m.set (q+1) a)[q]? =some a:=by rw[ch I];exact ha
 have hma:=hle2 a (ae ha)
 have hmb:=hle2 b (ae hb)
 refine aw Z Z Z Z Z (fun w' hw'=>Yb Z)<|aw Z Z Z Z Z (fun w' hw'=>sS Z)<|aw Z Z Z Z Z (fun w' hw'=>Ys Z)<|aw Z Z Z Z Z (fun w' hw'=>Yi Z)<|aw Z Z Z Z Z (fun w' hw'=>cC aZ Z Z (by first|omega|(simp only[ab];omega)))<|aw Z Z Z Z Z (fun w' hw'=>bQ aj row2 hb 0 Z ((H.later hw').ent (i:=0) Z) Z)<|aw Z Z Z Z Z (fun w' hw'=>Ys Z)<|aw Z Z Z Z Z (fun w' hw'=>Yi Z)<|aw Z Z Z Z Z (fun w' hw'=>xt ((q:Nat):Int) Z Z I I I)<|aw Z Z Z Z Z (fun w' hw'=>cC aZ Z Z (by first|omega|(simp only[ab];omega)))<|aw Z Z Z Z Z (fun w' hw'=>bQ aj row2 ha 0 Z ((H.later hw').ent (i:=0) Z) Z)<|Nv hf Z Z Z Z Z Z (fun w' hw'=>hp b a hmb hma w' u2 (H.later hw')) Z ?_
 refine Bi Z Z Z Z Z (fun w' hw'=>cG Z Z) (fun h33=> ?_) (fun h33=> ?_)
 refine aw Z Z Z Z Z (fun w' hw'=>Kt Z Z)<|aU ?_
 intro w3 hw' hF
 replace H:=H.later hw';clear hw' hF
 refine U<|ZT Z<|Zk<|W<|Zb ?_
 refine bD bZ [0,1,2,3,4,5,6,7,8,9,10,11,12,13,14] [15,16,17] [] [0,1,2,3,4,5,6,7,8,10,11,12,14] (sp []) N N N N Nq (cI _) ?_
 refine aw Z Z Z Z Z (fun w' hw'=>Ys Z)<|aw Z Z Z Z Z (fun w' hw'=>Yi Z)<|aw Z Z Z Z Z (fun w' hw'=>Ys Z)<|aw Z Z Z Z Z (fun w' hw'=>Yi Z)<|aw Z Z Z Z Z (fun w' hw'=>xt ((q:Nat):Int) Z Z I I I)<|aw Z Z Z Z Z (fun w' hw'=>Ys Z)<|aw Z Z Z Z Z (fun w' hw'=>Yi Z)<|aw Z Z Z Z Z (fun w' hw'=>xt ((q:Nat):Int) Z Z I I I)<|aw Z Z Z Z Z (fun w' hw'=>cC aZ Z Z (by first|omega|(simp only[ab];omega)))<|aw Z Z Z Z Z (fun w' hw'=>bQ aj row2 ha 0 Z ((H.later hw').ent (i:=0) Z) Z)<|aw Z Z Z Z Z (fun w' hw'=>Ys Z)<|aw Z Z Z Z Z (fun w' hw'=>Yi Z)<|aw Z Z Z Z Z (fun w' hw'=>cC aZ Z Z (by first|omega|(simp only[ab];omega)))<|aw Z Z Z Z Z (fun w' hw'=>bQ aj row2 hb 0 Z ((H.later hw').ent (i:=0) Z) Z)<|aw Z Z Z Z Z (fun w' hw'=>cC aZ Z Z (by first|omega|(simp only[ab];omega)))<|aU ?_
 intro w4 hw' hF
 replace H:=H.later hw';clear hw' hF
 refine kQ H 0 (a) bI row2 hb 0 Z Z Z Z Z Z N fun w6 cur5 row5 H=> ?_
 have hs7:(m.set (q+1) (a))[(q+1)]? =some (a):=am (cD hb).1
 refine G (cC aZ Z Z (by first|omega|(simp only[ab];omega)))<|kQ H 0 (b) bI row5 ha2 0 Z Z Z Z Z Z N fun w9 cur8 row8 H=> ?_
 have hs10:((m.set (q+1) (a)).set q (b))[q]? =some (b):=am (cD ha2).1
 refine U<|Zr<|G (Yi Z)<|G (xt ((q:Nat):Int) Z Z I I I)<|G (Wi Z)<|U ?_
 exact⟨(q,(m.set (q+1) a).set q b,_),⟨by omega,by simp[hml],by rw[<-hm,HE ha hb (decide_eq_true h33)],fun y hy=>(by rcases bH hy with hy|rfl;rcases bH hy with hy|rfl;exact hle2 y hy;exact hma;exact hmb),row8,H⟩,dF Z,Qg,by show q<q+1;omega⟩
 refine aw Z Z Z Z Z (fun w' hw'=>Kt Z Z)<|aU ?_
 intro w11 hw' hF
 replace H:=H.later hw';clear hw' hF
 refine U<|ZF Z<|Zx<|Zr<|G (Yi Z)<|G (bp Z Z I I)<|G (Wi Z)<|U ?_
 have hm2:m=ka (Mk cmpv) (i+1) es:=by rw[<-hm,Cp ha hb (decide_eq_false h33)]
 exact⟨(i+1,m,u2),⟨by omega,by omega,by omega,hm2,hle2,row2,H⟩,dF Z,Qg,by show n+1- (i+1)<n+1-i;omega⟩
 refine aw Z Z Z Z Z (fun w' hw'=>Yb Z)<|eU Z Z Z Z<|eU Z Z Z Z<|eU Z Z Z Z<|eU Z Z Z Z<|eU Z Z Z Z<|eU Z Z Z Z<|eU Z Z Z Z<|eU Z Z Z Z<|eU Z Z Z Z<|eU Z Z Z Z<|eU Z Z Z Z<|eU Z Z Z Z<|aw Z Z Z Z Z (fun w' hw'=>N Z Z)<|aU ?_
 intro w12 hw' hF
 replace H:=H.later hw';clear hw' hF
 refine U<|ZF Z<|Zx<|Zr<|G (Yi Z)<|G (bp Z Z I I)<|G (Wi Z)<|U ?_
 have hm2:m=ka (Mk cmpv) (i+1) es:=by rw[<-hm,show j=0 by omega];rfl
 exact⟨(i+1,m,u2),⟨by omega,by omega,by omega,hm2,hle2,row2,H⟩,dF Z,Qg,by show n+1- (i+1)<n+1-i;omega⟩
 refine U<|ZF Z<|Zx ?_
 have hfin:=Kl (n:=n) hl hi1 hin hi0 I
 subst hfin
 dsimp only[Bn,PX,Lh,en,cond]
 exact Ov Z ⟨u1,rfl,row1,H⟩
theorem Dc {w0 w:World} {M:List (Nat×Obj)} {F:List ci} {g n:Nat} {u:Array Value} (es:List Int) (c:Nat) (H:Hp w0 w ((g,.cells u cW (0,0))::M) F) (row:dU bS es c u) (hn:n=es.length) (h12:es.length<=19) {f:FuncId} {cap:List Value} (hf:bi aa f=true) (cmpv:Int->Int->Int) (hp: ∀ a b:Int,a∈es->b∈es-> ∀ (w':World) (u':Array Value),Hp w0 w' ((g,.cells u' cW (0,0))::M) F->dd aa f (J a::J b::cap) w' fun v w2=>v=J (cmpv a b)/\Below w'.heap.size w' w2):
  dd aa pU [.slice (Qd g) n c,J (n:Nat),.func (.func f) #[] cap.toArray] w fun v w2=> ∃ u2,v=.tuple #[]/\dU bS (ka (Mk cmpv) n es) c u2/\Hp w0 w2 ((g,.cells u2 cW (0,0))::M) F:=by
 refine aE pz Z Z ?_
 have hle:=row.le
 refine W<|Zr<|G (Wi Z)<|U<|W<|Zr<|G (Yi Z)<|G (Wi Z)<|G (Wi Z)<|U<|W<|Zb ?_
 refine cf (τ:=Unit) [7,8,11,12,13,14,15,16,17,18,19,20,21,22] (fun _=>[(7,J 0),(8,J 20)]) (fun _ w'=>w'=w) (fun _=>0) () Z (kZ Z Z) ?_
 rintro _ ρ1 _ rfl
 show CW _ _ _ _ (dv (gk _ _ ρ1) [(7,J 0),(8,J 20)]) _
 refine W<|W<|Zr<|G (Yi Z)<|G (Yi Z)<|G (Oj Z Z I)<|U<|ZF Z<|Zx<|W<|Zr<|G (Ys Z)<|G (Yi Z)<|G (Yi Z)<|G (sS Z)<|cd lH (Je es c H row hn h12 hf cmpv hp) Z Z ?_
 rintro _ w1 ⟨u2,rfl,row2,H⟩
 refine U<|Zb ?_
 refine cf (τ:=Unit) [6,7,8,9,28,29,30,31,32,33,34,35,36,37,38,39,40,41,42,43,44,45,46,47,48,49,50,51,52,53,54,55,56,57,58,59,60,61,62] (fun _=>[(6,J 20)]) (fun _ w'=>Hp w0 w' ((g,.cells u2 cW (0,0))::M) F) (fun _=>0) () H (dF Z) ?_
 rintro _ ρ2 w2 H
 show CW _ _ _ _ (dv (gk _ _ ρ2) [(6,J 20)]) w2
 refine W<|W<|Zr<|G (Yi Z)<|G (Yi Z)<|G (cY Z Z I)<|U<|ZF Z<|Zx ?_
 dsimp only[Bn,PX,Lh,en,cond]
 exact Ov Z ⟨u2,rfl,row2,H⟩
theorem Bo {w0 w:World} {M:List (Nat×Obj)} {F:List ci} {g n:Nat} {u:Array Value} (es:List Int) (c:Nat) (H:Hp w0 w ((g,.cells u cW (0,0))::M) F) (row:dU bS es c u) (hn:n=es.length) (h12:es.length<=19) {f:FuncId} {cap:List Value} (hf:bi aa f=true) (cmpv:Int->Int->Int) (hp: ∀ a b:Int,a∈es->b∈es-> ∀ (w':World) (u':Array Value),Hp w0 w' ((g,.cells u' cW (0,0))::M) F->dd aa f (J a::J b::cap) w' fun v w2=>v=J (cmpv a b)/\Below w'.heap.size w' w2):
  dd aa mr [.slice (Qd g) n c,.func (.func f) #[] cap.toArray] w fun v w2=> ∃ u2,v=.tuple #[]/\dU bS (ka (Mk cmpv) n es) c u2/\Hp w0 w2 ((g,.cells u2 cW (0,0))::M) F:=by
 refine aE l7 Z Z ?_
 have hle:=row.le
 refine Zr<|G (Ys Z)<|G (Ys Z)<|G (bn eF Z)<|G (sS Z)<|cd pI (Dc es c H row hn h12 hf cmpv hp) Z Z ?_
 rintro _ w1 ⟨u2,rfl,row2,H⟩
 refine U ?_
 show JQ aa Tryz.f141 _ .normal _ _
 exact Ov Z ⟨u2,rfl,row2,H⟩
/-- a list of numbers, and where it lies -/
structure Il where
 A:Option Addr
 cap:Nat
 es:List Int
def Il.c (x:Il):List Value:=[.slice x.A x.es.length x.cap]
def OQ:fj Il:=⟨Il.c,1,fun _=>rfl,by decide,fun a u hu=>by
 simp only[Il.c,aq]at hu;subst hu;rfl⟩
def PG:Il:=⟨none,0,[]⟩
def s0:List Il->List (Nat×Obj)->Prop
 |[],L=>L=[]
 |t::ts,L=> ∃ L1 L2,L=L1++L2/\gi bS (.slice t.A t.es.length t.cap) cW t.es L1/\s0 ts L2
theorem s0.at_: ∀ {ts:List Il} {L:List (Nat×Obj)} {i:Nat} {t:Il},s0 ts L->ts[i]? =some t-> ∃ La Lt Lb,L=La++Lt++Lb/\gi bS (.slice t.A t.es.length t.cap) cW t.es Lt/\ ∀ (t':Il) (Lt':List (Nat×Obj)),gi bS (.slice t'.A t'.es.length t'.cap) cW t'.es Lt'->s0 (ts.set i t') (La++Lt'++Lb)
 |x::ts,L,0,t,⟨L1,L2,h1,h2,h3⟩,hi=>by
  cases hi
  exact⟨[],L1,L2,by simpa using h1,h2,fun t' Lt' h'=>⟨Lt',L2,by simp,h',h3⟩⟩
 |x::ts,L,i+1,t,⟨L1,L2,h1,h2,h3⟩,hi=>by
  obtain⟨La,Lt,Lb,e,ho,hs⟩:=s0.at_ h3 (show ts[i]? =some t from hi)
  exact⟨L1++La,Lt,Lb,by rw[h1,e];simp[aD],ho,fun t' Lt' h'=>⟨L1,La++Lt'++Lb,by simp[aD],h2,hs t' Lt' h'⟩⟩
theorem s0.nils: ∀ n:Nat,s0 (au n PG) []
 |0=>rfl
 |n+1=>⟨[],[],rfl,gi.nil,s0.nils n⟩
theorem s0.rd {w0 w:World} {K L:List (Nat×Obj)} {F:List ci} {ts:List Il} (h:s0 ts L) (H:Hp w0 w (K++L) F) {t:Il} (ht:t∈ts):Rd bS w0.heap.size w.heap.size t.A t.es w/\t.es.length<=t.cap:=by
 obtain⟨i,hi⟩:=aK.1 ht
 obtain⟨La,Lt,Lb,rfl,ho,-⟩:=h.at_ hi
 refine⟨ho.rd (K:=K++La) (M:=Lb) (F:=F) (by simpa [aD]using H),?_⟩
 obtain⟨_,c,e,hc,_⟩:=ho.form
 injection e with _ _ e
 subst e;exact hc
theorem On {w0 w:World} {F:List ci} (X A B C:List (Nat×Obj)) (H:Hp w0 w (X++(A++B++C)) F):Hp w0 w ((X++A)++B++C) F:=by simpa [aD]using H
theorem Nc {w0 w:World} {F:List ci} (X A B C:List (Nat×Obj)) (H:Hp w0 w ((X++A)++B++C) F):Hp w0 w (X++(A++B++C)) F:=by simpa [aD]using H
def FT (x y:ByteArray):Int:=if OO x y then-1 else if !(OO x y||x.toList==y.toList)then 1 else 0
def Dq (names:List ByteArray) (a:Int):ByteArray:=names.getD a.toNat ⟨#[]⟩
def OD (names:List ByteArray) (a b:Int):Int:=FT (Dq names a) (Dq names b)
def qQ (n:Nat):List Int:=(Bl n).map fun(i:Nat)=>(i:Int)
def I2 (names:List ByteArray):List Int:=ka (Mk (OD names)) names.length (qQ names.length)
def zt (names:List ByteArray) (q:Nat):Int:=(I2 names).getD (q%names.length) 0
def mn (names:List ByteArray) (p:Nat) (i:Nat):List Int:=(qQ p).filter fun q=>decide (zt names q.toNat=i)
def gK (names:List ByteArray) (p:Nat):List (List Int):=(Bl names.length).map (mn names p)
theorem Cc (n:Nat):qQ (n+1)=qQ n++[(n:Int)]:=by unfold qQ;rw[xh,bk];rfl
theorem la (n:Nat):(qQ n).length=n:=by simp[qQ]
theorem wd {n:Nat} {x:Int}:x∈qQ n↔ ∃ i:Nat,i<n/\x=i:=by
 unfold qQ
 simp only[bv,List.mem_range]
 constructor<;>rintro⟨i,h1,h2⟩<;>exact⟨i,h1,h2.symm⟩
theorem Dk (names:List ByteArray) (p i:Nat):mn names (p+1) i=if zt names p=i then mn names p i++[(p:Int)]else mn names p i:=by
 unfold mn
 rw[Cc,i8]
 by_cases h:zt names p=i
 rw[if_pos h,jZ (by simpa using h)];rfl
 rw[if_neg h,oH (by simpa using h)];simp
theorem Ji:(aa.info? 3).map (fun i=>(i.zero,i.size,i.bytes))=some (some (J 0),1,8):=by kernel_rfl
theorem GZ:(aa.info? 44).map (fun i=>(i.zero,i.size,i.bytes))=some (some (.slice none 0 0),1,24):=by kernel_rfl
theorem HX {i n:Nat} (h:i<n):(qQ i++au (n-i) (0:Int))[i]? =some 0:=by
 rw[cw (by rw[la];omega),la,me,fQ,if_pos I]
theorem Ly {i n:Nat} (h:i<n):(qQ i++au (n-i) (0:Int)).set i (i:Int)=qQ (i+1)++au (n- (i+1)) 0:=by
 rw[i9 _ _ (by rw[la];omega),la,me,show n-i=(n- (i+1))+1 by omega,zj,Bj,Cc,aD]
 rfl
theorem Cs (names:List ByteArray):(I2 names).Perm (qQ names.length):=by
 have:=Ab (lt:=Mk (OD names)) (qQ names.length)
 rwa[la]at this
theorem Oa {names:List ByteArray} {q:Nat} (h:names.length≠0): ∃ i:Nat,i<names.length/\(I2 names)[q%names.length]? =some (i:Int)/\zt names q=i:=by
 have hl:(I2 names).length=names.length:=by rw[(Cs names).length_eq,la]
 have hm:q%names.length<(I2 names).length:=by rw[hl];exact jC _ I
 have h1:=getD_some (0:Int) hm
 obtain⟨i,hi,he⟩:=wd.1 ((Cs names).mem_iff.1 (ae h1))
 exact⟨i,hi,by rw[h1,he],he⟩
theorem yl (names:List ByteArray) (p i:Nat):(mn names p i).length<=p:=by
 have:=List.length_filter_le (fun q=>decide (zt names q.toNat=i)) (qQ p)
 rwa[la]at this
theorem Ee (names:List ByteArray) (A:Option Addr) (c:Nat) (x y:ByteArray) (i j b:Nat) (w:World) (hx:w.heap[b]? =some (.cells #[.slice A names.length c] lW (0,0))) (hr:Rd m8 0 w.heap.size A names w) (hi:names[i]? =some x) (hj:names[j]? =some y):
  dd aa wB [J (i:Nat),J (j:Nat),.pointer (Qd b)] w fun v w2=>v=J (FT x y)/\Below w.heap.size w w2:=by
 refine aE vL Z Z ?_
 have H:=Hp.startRd hr
 have hb:=ce hx
 have hil:=(cD hi).1
 have hjl:=(cD hj).1
 refine W<|Zr<|G (Wi Z)<|U<|W<|Zb<|W ?_
 refine bD bZ [0,1,2,3,4,5,6,7,8,9] [] [] [1,2,5,6,8,9] (sp []) N N N N Nq (cI _) ?_
 refine aw Z Z Z Z Z (fun w' hw'=>aV jj Z (((H.later hw').below.cell (p:=⟨b,_,none⟩) hb).trans (aB (j:=0) hx Z)))<|aw Z Z Z Z Z (fun w' hw'=>Yi Z)<|qg H 0 Z Z Z Z Z ig Z Z I I fun bq1 o1 x1 e1=> ?_
 obtain rfl:x=x1:=by have:=e1.at_;rw[hi]at this;exact bB this
 refine aw Z Z Z Z Z (fun w' hw'=>aV ba Z (e1.later hw' 0 _ Z))<|aw Z Z Z Z Z (fun w' hw'=>aV jj Z (((H.later hw').below.cell (p:=⟨b,_,none⟩) hb).trans (aB (j:=0) hx Z)))<|aw Z Z Z Z Z (fun w' hw'=>Yi Z)<|qg H 0 Z Z Z Z Z ig Z Z I I fun bq2 o2 x2 e2=> ?_
 obtain rfl:y=x2:=by have:=e2.at_;rw[hj]at this;exact bB this
 refine aw Z Z Z Z Z (fun w' hw'=>aV ba Z (e2.later hw' 0 _ Z))<|aw Z Z Z Z Z (fun w' hw'=>N0 Z Z)<|aw Z Z Z Z Z (fun w' hw'=>Wb Z)<|aU ?_
 intro w3 hw' hF
 replace H:=H.later hw';clear hw' hF
 refine U ?_
 refine jm Z (fun hc6=> ?_) (fun hc6=> ?_)
 refine W<|Zr<|G (Wi Z)<|U<|Zt ?_
 have hv:FT x y= -1:=by unfold FT;rw[if_pos hc6]
 exact cF (v:=J (-1)) Z Z ⟨by rw[hv],H.below⟩
 refine W ?_
 refine bD bZ [0,1,2,3,4,5,6,7,8,9] [] [] [1,2,5,6,8,9] (sp []) N N N N Nq (cI _) ?_
 refine aw Z Z Z Z Z (fun w' hw'=>aV jj Z (((H.later hw').below.cell (p:=⟨b,_,none⟩) hb).trans (aB (j:=0) hx Z)))<|aw Z Z Z Z Z (fun w' hw'=>Yi Z)<|qg H 0 Z Z Z Z Z ig Z Z I I fun bq4 o4 x4 e4=> ?_
 obtain rfl:x=x4:=by have:=e4.at_;rw[hi]at this;exact bB this
 refine aw Z Z Z Z Z (fun w' hw'=>aV ba Z (e4.later hw' 0 _ Z))<|aw Z Z Z Z Z (fun w' hw'=>aV jj Z (((H.later hw').below.cell (p:=⟨b,_,none⟩) hb).trans (aB (j:=0) hx Z)))<|aw Z Z Z Z Z (fun w' hw'=>Yi Z)<|qg H 0 Z Z Z Z Z ig Z Z I I fun bq5 o5 x5 e5=> ?_
 obtain rfl:y=x5:=by have:=e5.at_;rw[hj]at this;exact bB this
 refine aw Z Z Z Z Z (fun w' hw'=>aV ba Z (e5.later hw' 0 _ Z))<|aw Z Z Z Z Z (fun w' hw'=>N4 Z Z)<|aw Z Z Z Z Z (fun w' hw'=>Wb Z)<|aU ?_
 intro w6 hw' hF
 replace H:=H.later hw';clear hw' hF
 refine U ?_
 refine jm Z (fun hc16=> ?_) (fun hc16=> ?_)
 refine W<|Zr<|G (Wi Z)<|U<|Zt ?_
 have hv:FT x y=1:=by unfold FT;rw[if_neg (by rw[hc6];decide),if_pos hc16]
 exact cF (v:=J (1)) Z Z ⟨by rw[hv],H.below⟩
 refine Zk<|W<|Zr<|G (Wi Z)<|U<|Zt ?_
 have hv:FT x y=0:=by unfold FT;rw[if_neg (by rw[hc6];decide),if_neg (by rw[hc16];decide)]
 exact cF (v:=J (0)) Z Z ⟨by rw[hv],H.below⟩
theorem JH (names:List ByteArray) (A:Option Addr) (c p:Nat) (w:World) (hr:Rd m8 0 w.heap.size A names w) (hn:names.length<=6) (hp:p<=4):
  dd aa Aj [.slice A names.length c,J (p:Nat)] w fun v w2=> ∃ (out:List Il) (B:Option Addr) (d:Nat),v=.slice B out.length d/\out.length<=d/\out.map Il.es=gK names p/\Rd OQ w.heap.size w2.heap.size B out w2/\(∀ x∈out,Rd bS w.heap.size w2.heap.size x.A x.es w2/\x.es.length<=x.cap)/\Below w.heap.size w w2:=by
 refine aE yP Z Z ?_
 have H:=Hp.startRd hr
 refine W<|Zr<|QF H Z Z fun w1 b2 H=>G (Ws Z)<|U<|W<|Zr<|G (Zd jj H 0 Z Z Z)<|G (bn lM Z)<|oX (Y:=bS) (0) names.length H aZ Ji Z Z Z I I Z fun w2 b12 cur12 row12 H=>G (Ws Z)<|U<|W<|W<|Zr<|G (Ys Z)<|G (bn eF Z)<|G (Yi Z)<|U<|Zb ?_
 refine cf (τ:=Nat×Array Value) [6,15,16,17,18,19,20,21,22] (fun(i,_)=>[(15,J (i:Nat))]) (fun(i,u1) w'=>i<=names.length/\dU bS (qQ i++au (names.length-i) 0) names.length u1/\Hp w w' [(b12,.cells u1 cW (0,0)),(b2,.cells #[.slice A names.length c] lW (0,0))] [dG m8 0 w.heap.size A names]) (fun(i,_)=>names.length-i) (0,cur12) ⟨by omega,row12,H⟩ (dF Z) ?_
 rintro⟨i,u1⟩ ρ1 w3 ⟨hi,row,H⟩
 show CW _ _ _ _ (dv (gk _ _ ρ1) [(15,J (i:Nat))]) w3
 have hfl:(qQ i++au (names.length-i) (0:Int)).length=names.length:=by simp[la];omega
 refine W<|Zr ?_
 refine cR (cG Z Z) Z Z Z (fun h16=> ?_) (fun h16=> ?_)
 refine U<|W<|ZT Z<|Zk<|W<|Zb<|W<|Zr<|G (Yi Z)<|G (Wi Z)<|U<|Zr<|G (Ys Z)<|G (Yi Z)<|G (Yi Z)<|G (cC aZ Z Z (by first|omega|(simp only[ab];omega)))<|kQ H 0 ((i:Int)) bI row (HX I) 0 Z Z Z Z Z Z N fun w5 cur4 row4 H=> ?_
 have hs6:(((qQ i++au (names.length-i) 0)).set i ((i:Int)))[i]? =some ((i:Int)):=am (cD (HX I)).1
 refine U<|Zr<|G (bp Z Z I I)<|G (Yi Z)<|U ?_
 exact⟨(i+1,_),⟨by omega,(Ly (show i<names.length by omega))▸row4,H⟩,dF Z,Qg,by show names.length- (i+1)<names.length-i;omega⟩
 refine U<|W<|ZF Z<|Zx<|W ?_
 obtain rfl:i=names.length:=by omega
 rw[me,List.replicate_zero,aY]at row
 refine Zr<|G (Ys Z)<|G (zP Z)<|cd ma (Bo (M:=[(b2,.cells #[.slice A names.length c] lW (0,0))]) (qQ names.length) names.length H row (la _).symm (by rw[la];omega) (cap:=[.pointer (Qd b2)]) vR (OD names) (fun a b ha hb w' u' H'=>by obtain⟨i,hi,rfl⟩:=wd.1 ha;obtain⟨j,hj,rfl⟩:=wd.1 hb;exact Ee names A c (Dq names i) (Dq names j) i j b2 w' (H'.ent (i:=1) Z) (H'.rd0 0 Z) (getD_some _ hi) (getD_some _ hj))) Z Z ?_
 rintro _ w7 ⟨u2,rfl,row2,H⟩
 replace row2:dU bS (I2 names) names.length u2:=row2
 refine U<|W<|Zr<|G (Zd jj H 1 Z Z Z)<|G (bn lM Z)<|oX (Y:=OQ) (PG) names.length H wl GZ Z Z Z I I Z fun w8 b28 cur28 row28 H=>G (Ws Z)<|U<|W<|W<|Zr<|G (Zd jj H 2 Z Z Z)<|G (bn lM Z) ?_
 refine cR (bh Z Z) Z Z Z (fun h31=> ?_) (fun h31=> ?_)
 have hn0:names.length=0:=by omega
 refine U<|ZT Z<|W<|Zr<|G (Ys Z)<|G (Ws Z)<|U<|Zt ?_
 exact cF (v:=.slice (Qd b28) names.length names.length) Z Z ⟨[],_,names.length,by rw[hn0];rfl,bA _,by unfold gK;rw[hn0];rfl,Rd.nil,by simp,H.below⟩
 refine U<|ZF Z<|Zk<|W<|W<|Zr<|G (Yi Z)<|G (zX Z Z) ?_
 rw[show max ((p:Nat):Int) 0=((p:Nat):Int) by omega]
 refine G (Yi Z)<|U<|Zb ?_
 refine cf (τ:=Nat×List Il×Array Value) [8,9,35,36,37,38,39,40,41,42,43,44,45,46,47,48,49,50,51,52,53,54,55] (fun(q,_,_)=>[(35,J (q:Nat))]) (fun(q,out,u3) w'=>q<=p/\out.length=names.length/\(∀ i x,out[i]? =some x->x.es=mn names q i)/\dU OQ out names.length u3/\ ∃ Lp,s0 out Lp/\Hp w w' ([(b28,.cells u3 xZ (0,0)),(b12,.cells u2 cW (0,0)),(b2,.cells #[.slice A names.length c] lW (0,0))]++Lp) [dG m8 0 w.heap.size A names]) (fun(q,_,_)=>p-q) (0,au names.length PG,cur28) ⟨by omega,by simp,(fun i x hx=>by rw[fQ]at hx;split at hx;injection hx with hx;rw[<-hx];rfl;cases hx),row28,[],s0.nils _,H⟩ (dF Z) ?_
 rintro⟨q,out,u3⟩ ρ2 w9 ⟨hq,hol,hes,row3,Lp,hop,H⟩
 show CW _ _ _ _ (dv (gk _ _ ρ2) [(35,J (q:Nat))]) w9
 refine W<|Zr ?_
 refine cR (cG Z Z) Z Z Z (fun h36=> ?_) (fun h36=> ?_)
 refine U<|W<|ZT Z<|Zk<|W<|Zb<|W<|Zr<|G (Yi Z)<|G (Wi Z)<|U<|W ?_
 obtain⟨i,hin,hod,htn⟩:=Oa (names:=names) (q:=q) I
 obtain⟨r,hrq⟩: ∃ r,q%names.length=r:=⟨_,rfl⟩
 rw[hrq]at hod
 have hrn:r<names.length:=hrq▸jC _ I
 obtain⟨x,hx⟩: ∃ x,out[i]? =some x:=⟨_,ah I⟩
 have hxe:=hes i x hx
 have hxl:x.es.length<=4:=by rw[hxe];have:=yl names q i;omega
 refine Zr<|G (Ys Z)<|G (Yi Z)<|G (Ys Z)<|G (bn eF Z)<|G (NF Z Z I I) ?_
 rw[show((q:Nat):Int)%((names.length:Nat):Int)=((r:Nat):Int)from by rw[<-hrq];exact(Int.natCast_emod q names.length).symm]
 refine G (cC aZ Z Z (by first|omega|(simp only[ab];omega)))<|G (bQ aj row2 hod 0 Z (H.ent (i:=1) Z) Z)<|G (Wi Z)<|U ?_
 obtain⟨La,Lt,Lb,rfl,hot,hset⟩:=hop.at_ hx
 refine Zr<|G (Ys Z)<|G (Yi Z)<|G (Ys Z)<|G (Yi Z)<|G (cC wl Z Z (by first|omega|(simp only[ab];omega)))<|G (bQ cr row3 hx 0 Z (H.ent (i:=0) Z) Z)<|G (Yi Z)<|sY (vs:=[J (((q:Nat):Int))]) H aZ v8 Z Z Z Z Z Z fun w10 b52 H=>vU (Y:=bS) zf (K:=[(b52,.cells #[J (((q:Nat):Int))] cW (0,0)),(b28,.cells u3 xZ (0,0)),(b12,.cells u2 cW (0,0)),(b2,.cells #[.slice A names.length c] lW (0,0))]++La) (L:=Lt) (M:=Lb) (On _ La Lt Lb H) hot (news:=[((q:Nat):Int)]) Z Z Z (vY.row (m:=1) (sz:=bS.sz) (H.ent (i:=0) Z) Z) (show(x.es.length+1)*8<=140737488355328 by omega) Z ?_
 intro A53 c53 w11 L53 h53 _ ho53 HI
 replace H:=Nc [(b52,.cells #[J (((q:Nat):Int))] cW (0,0)),(b28,.cells u3 xZ (0,0)),(b12,.cells u2 cW (0,0)),(b2,.cells #[.slice A names.length c] lW (0,0))] La L53 Lb HI;clear HI
 refine G (cC wl Z Z (by first|omega|(simp only[ab];omega)))<|kQ H 1 ({A:=A53,cap:=c53,es:=x.es++[((q:Nat):Int)]}) jF row3 hx 0 Z Z Z Z Z Z N fun w13 cur12 row12 H=> ?_
 have hs14:(out.set i ({A:=A53,cap:=c53,es:=x.es++[((q:Nat):Int)]}))[i]? =some ({A:=A53,cap:=c53,es:=x.es++[((q:Nat):Int)]}):=am (cD hx).1
 refine U<|Zr<|G (bp Z Z I I)<|G (Yi Z)<|U ?_
 refine⟨(q+1,out.set i {A:=A53,cap:=c53,es:=x.es++[((q:Nat):Int)]},_),⟨by omega,by rw[ab];exact hol,fun j y hy=> ?_,row12,_,hset _ L53 ho53,H.forget (.cons _ (ap _)) (fun _ h=>h)⟩,dF Z,Qg,by show p- (q+1)<p-q;omega⟩
 rw[Dk,htn]
 by_cases hij:i=j
 subst hij;rw[am (cD hx).1]at hy;injection hy with hy;rw[<-hy,if_pos Z,hxe]
 rw[ch hij]at hy;rw[if_neg I];exact hes j y hy
 refine U<|W<|ZF Z<|Zx<|W<|Zr<|G (Ys Z)<|G (Ws Z)<|U<|Zt ?_
 obtain rfl:q=p:=by omega
 have hmap:out.map Il.es=gK names q:=by
  apply eJ
  intro j
  unfold gK
  rw[aM,aM]
  by_cases hj:j<names.length
  obtain⟨y,hy⟩: ∃ y,out[j]? =some y:=⟨_,ah I⟩
  rw[hy,zk hj];exact congrArg some (hes j y hy)
  rw[cJ I,cJ (by rw[List.length_range];omega)];rfl
 exact cF (v:=.slice (Qd b28) names.length names.length) Z Z ⟨out,_,names.length,by rw[hol],by omega,hmap,(dU.own row3).rd (K:=[]) (M:=(b12,_)::(b2,.cells #[.slice A names.length c] lW (0,0))::Lp) H,fun x hx=>hop.rd (K:=[(b28,_),(b12,_),(b2,.cells #[.slice A names.length c] lW (0,0))]) H hx,H.below⟩
/-- lists of numbers that a call has made, to be read -/
def Nx (lo hi:Nat) (B:Option Addr) (out:List Il):ci:=⟨lo,hi,fun w=>Rd OQ lo hi B out w/\ ∀ x∈out,Rd bS lo hi x.A x.es w,fun _ _ hk h=>⟨h.1.st hk,fun x hx=>(h.2 x hx).st hk⟩⟩
theorem Hp.ilRow {w0 w:World} {L:List (Nat×Obj)} {F:List ci} {lo hi:Nat} {B:Option Addr} {out:List Il} (H:Hp w0 w L F) (i:Nat) (hF:F[i]? =some (Nx lo hi B out)):Hp w0 w L (dG OQ lo hi B out::F):=by
 refine⟨H.below,H.ents,H.nodup,fun f hf=> ?_⟩
 rcases av.1 hf with rfl|hf
 obtain⟨h1,h2,h3⟩:=H.facts _ (ae hF)
 exact⟨h1.1,h2,h3⟩
 exact H.facts f hf
theorem Hp.ilPart {w0 w:World} {L:List (Nat×Obj)} {F:List ci} {lo hi:Nat} {B:Option Addr} {out:List Il} (H:Hp w0 w L F) (i:Nat) (hF:F[i]? =some (Nx lo hi B out)) {x:Il} (hx:x∈out):Hp w0 w L (dG bS lo hi x.A x.es::F):=by
 refine⟨H.below,H.ents,H.nodup,fun f hf=> ?_⟩
 rcases av.1 hf with rfl|hf
 obtain⟨h1,h2,h3⟩:=H.facts _ (ae hF)
 exact⟨h1.2 x hx,h2,h3⟩
 exact H.facts f hf
def oT (ms:List Mem) (p:Nat):List Mem:=List.zipWith (fun(m:Mem) l=>{m with parts:=l}) ms (gK (ms.map Mem.name) p)
theorem oB (names:List ByteArray) (p:Nat):(gK names p).length=names.length:=by simp[gK]
theorem LV {ms:List Mem} {p i:Nat} {m:Mem} {l:List Int} (hm:ms[i]? =some m) (hl:(gK (ms.map Mem.name) p)[i]? =some l):(oT ms p)[i]? =some {m with parts:=l}:=by
 unfold oT
 rw[qk,hm,hl]
theorem yD {w0 w:World} {M Lm:List (Nat×Obj)} {F:List ci} (ck wt gn:Int) (ms:List Mem) (mA:Option Addr) (mC:Nat) (os:List mc) (oA:Option Addr) (oC p:Nat) (H:Hp w0 w (Lm++M) F) (ho:gi jQ (.slice mA ms.length mC) db ms Lm) (hml:ms.length<=6) (hp:p<=4) (hg0:0<=gn) (hg1:gn<1073741824):
  dd aa xG [.agg #[J (ck),J (wt),J (gn),.slice mA ms.length mC,.slice oA os.length oC],J (p:Nat)] w fun v w2=> ∃ (ms':List Mem) (Lm':List (Nat×Obj)),v=.agg #[J (ck),J (wt),J (gn+1),.slice mA ms'.length mC,.slice oA os.length oC]/\ms'.map Mem.a=(oT ms p).map Mem.a/\gi jQ (.slice mA ms'.length mC) db ms' Lm'/\(∀ m∈ms',m.parts.length<=m.cap/\w0.heap.size<=m.lo)/\Hp w0 w2 (Lm'++M) (F++ms'.map ng):=by
 refine aE wJ Z Z ?_
 refine W<|Zr<|fS H Z Z fun w1 b2 H=>eC H dZ Z fun w2 b4 H=>U<|W<|Zr<|G (Zf kj Z)<|G (Zd aj H 1 Z Z Z)<|G (bp Z Z I I)<|G (Zf kj Z)<|bl H 1 (#[J (ck),J (wt),J (gn+1),.slice mA ms.length mC,.slice oA os.length oC]) bI Z Z Z Z Z N N fun w3 H=>U<|W<|Zr<|G (Ws Z)<|U<|W<|W<|Zr<|G (Zf dJ Z)<|G (Zd dt H 1 Z Z Z)<|G (bn gm Z)<|G (Yi Z)<|U<|Zb ?_
 refine cf (τ:=Nat×List ByteArray×Option Addr×Nat) [5,7,17,18,19,20,21,22,23,24,25,26] (fun(k,nl,A1,c1)=>[(17,J (k:Nat)),(5,.slice A1 nl.length c1)]) (fun(k,nl,A1,c1) w'=>k<=ms.length/\nl=(ms.take k).map Mem.name/\ ∃ Ln,gi m8 (.slice A1 nl.length c1) kD nl Ln/\Hp w0 w' ((([(b4,.cells #[J 0,J 0,J 0,.slice none 0 0,.slice none 0 0] cM (0,0)),(b2,.cells #[J (ck),J (wt),J (gn+1),.slice mA ms.length mC,.slice oA os.length oC] cM (0,0))]++Lm++M)++Ln)++[]) F) (fun(k,_)=>ms.length-k) (0,[],none,0) ⟨by omega,rfl,[],gi.nil,(by rw[aY,aY];exact H)⟩ (kZ Z Z) ?_
 rintro⟨k,nl,A1,c1⟩ ρ1 w4 ⟨hk,hnl,Ln,hoN,H⟩
 show CW _ _ _ _ (dv (gk _ _ ρ1) [(17,J (k:Nat)),(5,.slice A1 nl.length c1)]) w4
 have hnll:nl.length<=6:=by rw[hnl,bC,aH];omega
 refine W<|Zr ?_
 refine cR (cG Z Z) Z Z Z (fun h18=> ?_) (fun h18=> ?_)
 refine U<|W<|ZT Z<|Zk<|W<|Zb<|W ?_
 obtain⟨x,hx⟩: ∃ x,ms[k]? =some x:=⟨_,ah I⟩
 obtain⟨g,cur,rfl,rfl,row⟩:=ho.row I
 refine Zr<|G (cC ez Z Z (by first|omega|(simp only[ab];omega)))<|G (oN nJ row hx Z Z (H.ent (i:=2) Z))<|eC H tl Z fun w5 b7 H=>bl H 0 (#[.string (x.name),J (x.heard),.slice x.A x.parts.length x.cap]) sf Z Z Z Z Z N N fun w6 H=>U<|Zr<|G (Ys Z)<|G (Zf ou Z)<|G (Zd ba H 0 Z Z Z)<|sY (vs:=[.string (x.name)]) H ig v7 Z Z Z Z Z Z fun w7 b24 H=>vU (Y:=m8) vS (K:=[(b24,.cells #[.string (x.name)] kD (0,0)),(b7,.cells #[.string (x.name),J (x.heard),.slice x.A x.parts.length x.cap] db (0,0)),(b4,.cells #[J (0),J (0),J (0),.slice none 0 0,.slice none 0 0] cM (0,0)),(b2,.cells #[J (ck),J (wt),J (gn+1),.slice (Qd g) ms.length mC,.slice oA os.length oC] cM (0,0)),(g,.cells cur db (0,0))]++M) (L:=Ln) (M:=[]) H hoN (news:=[x.name]) Z Z Z (vY.row (m:=1) (sz:=m8.sz) (H.ent (i:=0) Z) Z) (show(nl.length+1)*16<=140737488355328 by omega) Z ?_
 intro A25 c25 w8 L25 h25 _ ho25 H
 refine G (Ws Z)<|U<|Zr<|G (bp Z Z I I)<|G (Yi Z)<|U ?_
 exact⟨(k+1,nl++[x.name],A25,c25),⟨by omega,by rw[eL hx,bk,hnl];rfl,L25,ho25,H.forget (.cons _ (.cons _ (ap _))) (fun _ h=>h)⟩,kZ Z Z,Qg,by show ms.length- (k+1)<ms.length-k;omega⟩
 refine U<|W<|ZF Z<|Zx<|W<|W ?_
 have hke:k=ms.length:=by omega
 rw[hke,bV]at hnl
 subst hnl
 obtain⟨lo2,hi2,H⟩:=Hp.sealO (K:=[(b4,.cells #[J 0,J 0,J 0,.slice none 0 0,.slice none 0 0] cM (0,0)),(b2,.cells #[J (ck),J (wt),J (gn+1),.slice mA ms.length mC,.slice oA os.length oC] cM (0,0))]++Lm++M) (M:=[]) H hoN
 have hlo1:=H.size
 refine Zr<|G (Ys Z)<|G (Yi Z)<|cd yY (by have hA:=JH (ms.map Mem.name) A1 c1 p _ ((H.rd0 0 Z)) (by simp;omega) hp;exact hA) Z Z ?_
 rintro _ w9 ⟨out,B,d,rfl,hbd,hout,hrB,hrx,hb⟩
 obtain⟨lo3,h3⟩: ∃ n,w4.heap.size=n:=⟨_,rfl⟩
 obtain⟨hi3,h4⟩: ∃ n,w9.heap.size=n:=⟨_,rfl⟩
 rw[h3]at hrB hrx
 rw[h4]at hrB hrx
 have hlw:w0.heap.size<=lo3:=by rw[<-h3];exact hlo1
 replace H:=H.learn hb (Nx lo3 hi3 B out) ⟨hrB,fun x hx=>(hrx x hx).1⟩ (Nat.le_of_eq h3) (Nat.le_of_eq h4.symm)
 have hol:out.length=ms.length:=by have:=congrArg cv hout;rw[oB]at this;simpa using this
 replace H:=Hp.ilRow H 0 Z
 refine G (bn I9 Z)<|G (Yi Z)<|U<|Zb ?_
 refine cf (τ:=Nat×List Mem) [8,9,31,32,33,34,35,36,37,38,39,40,41,42] (fun(i,_)=>[(31,J (i:Nat))]) (fun(i,ms1) w'=>i<=ms.length/\ms1.length=ms.length/\ms1.drop i=ms.drop i/\(ms1.take i).map Mem.a=((oT ms p).take i).map Mem.a/\(∀ m∈ms1.take i,m.parts.length<=m.cap/\w0.heap.size<=m.lo)/\ ∃ Lm1,gi jQ (.slice mA ms1.length mC) db ms1 Lm1/\Hp w0 w' ([(b4,.cells #[J 0,J 0,J 0,.slice none 0 0,.slice none 0 0] cM (0,0)),(b2,.cells #[J (ck),J (wt),J (gn+1),.slice mA ms1.length mC,.slice oA os.length oC] cM (0,0))]++Lm1++M) ((dG OQ lo3 hi3 B out::Nx lo3 hi3 B out::F)++(ms1.take i).map ng)) (fun(i,_)=>ms.length-i) (0,ms) ⟨by omega,rfl,rfl,rfl,by simp,Lm,ho,H.forget (by simp) (fun f hf=>by simp only[yG,mg,aY,av]at hf⊢;grind)⟩ (dF Z) ?_
 rintro⟨i,ms1⟩ ρ2 w10 ⟨hi,hm1,hdr,htk,hlc,Lm1,hom,H⟩
 show CW _ _ _ _ (dv (gk _ _ ρ2) [(31,J (i:Nat))]) w10
 refine W<|Zr ?_
 refine cR (cG Z Z) Z Z Z (fun h32=> ?_) (fun h32=> ?_)
 refine U<|W<|ZT Z<|Zk<|W<|Zb<|W ?_
 obtain⟨x,hx⟩: ∃ x,out[i]? =some x:=⟨_,ah I⟩
 have hmx:=ae hx
 obtain⟨y,hy⟩: ∃ y,ms1[i]? =some y:=⟨_,ah I⟩
 have hyt:=ze hdr hy
 obtain⟨g,cur,rfl,rfl,row⟩:=hom.row I
 refine Zr<|G (Yi Z)<|pK H 0 Z wl Z Z I I Z fun bq11 o11 x11 e11=> ?_
 obtain rfl:x=x11:=by have:=e11.at_;rw[hx]at this;exact bB this
 refine G (aV cr Z (e11.cl 0 _ Z))<|G (Wi Z)<|G (Ws Z)<|U<|Zr<|G (Zf dJ Z)<|G (Zd dt H 1 Z Z Z)<|G (Yi Z)<|G (Ys Z)<|G (cC ez Z Z (by first|omega|(simp only[ab];omega)))<|G (Zf iS Z)<|kQ H 2 ({y with parts:=x.es,A:=x.A,cap:=x.cap,lo:=lo3,hi:=hi3}) jF row hy 2 Z Z Z Z Z Z N fun w13 cur12 row12 H=> ?_
 have hs14:(ms1.set i ({y with parts:=x.es,A:=x.A,cap:=x.cap,lo:=lo3,hi:=hi3}))[i]? =some ({y with parts:=x.es,A:=x.A,cap:=x.cap,lo:=lo3,hi:=hi3}):=am (cD hy).1
 refine U<|Zr<|G (bp Z Z I I)<|G (Yi Z)<|U ?_
 replace H:=Hp.ilPart H 1 Z hmx
 have hown:=dU.own (g:=g) (e:=db) row12
 have z3:=Ch (show i<ms1.length by omega) ({y with parts:=x.es,A:=x.A,cap:=x.cap,lo:=lo3,hi:=hi3})
 have hle:(gK (ms.map Mem.name) p)[i]? =some x.es:=by rw[<-hout,aM,hx];rfl
 refine⟨(i+1,ms1.set i {y with parts:=x.es,A:=x.A,cap:=x.cap,lo:=lo3,hi:=hi3}),⟨by omega,by rw[ab];exact hm1,?_,?_,?_,_,hown,?_⟩,dF Z,Qg,by show ms.length- (i+1)<ms.length-i;omega⟩
 rw[rV I];exact vP hdr I
 rw[z3,eL (LV hyt hle),bk,bk,htk];rfl
 rw[z3];intro m hm;rcases ar.1 hm with hm|hm;exact hlc m hm;rw[aq.1 hm];exact⟨(hrx x hmx).2,hlw⟩
 rw[ab];exact H.forget (ap _) (fun f hf=>by rw[z3]at hf;simp only[bk,eI,mg,ar,av,bx,or_false]at hf⊢;grind)
 refine U<|W<|ZF Z<|Zx<|W<|Zr<|G (Zw aR H 1 Z Z Z)<|bl H 0 (#[J (ck),J (wt),J (gn+1),.slice mA ms1.length mC,.slice oA os.length oC]) bF Z Z Z Z Z N N fun w15 H=>U<|Zt ?_
 obtain rfl:i=ms.length:=by omega
 rw[show ms.length=ms1.length from hm1.symm,bV,show ms1.length=(oT ms p).length by unfold oT;rw[List.length_zipWith,oB,bC,hm1];omega,bV]at htk
 rw[<-hm1,bV]at hlc H
 exact eQ (cs0:= #[J (ck),J (wt),J (gn+1),.slice mA ms1.length mC,.slice oA os.length oC]) Z aR Z (H.ent (i:=0) Z) Z ⟨ms1,Lm1,rfl,htk,hom,hlc,H.forget (.cons _ (.cons _ (ap _))) (fun f hf=>by simp only[av,ar];grind)⟩
theorem oh:aa.funcs[(132:Nat)]? =some Tryz.f132:=Tryz.func132
theorem jv {w0 w:World} {K M Lt:List (Nat×Obj)} {F:List ci} {es:List mc} {x:mc} {i c vb:Nat} {A:Option Addr} (H:Hp w0 w (((vb,.cells (fR.f x).toArray d8 (0,0))::K)++Lt++M) F) (ho:gi fR (.slice A es.length c) d8 es Lt) (hi:i<=es.length) (hb:(es.length+1)*16<=140737488355328):
  dd aa nj [.slice A es.length c,J (i:Nat),.slice (Qd vb) ((1:Nat)) 1] w fun v w2=> ∃ A' c' L',v=.slice A' (es.take i++[x]++es.drop i).length c'/\gi fR (.slice A' (es.take i++[x]++es.drop i).length c') d8 (es.take i++[x]++es.drop i) L'/\Hp w0 w2 (((vb,.cells (fR.f x).toArray d8 (0,0))::K)++L'++M) F:=by
 refine aE mT Z Z ?_
 show CW _ _ _ _ (args [.slice A es.length c,J (i:Nat),.slice (Qd vb) ((1:Nat)) 1]) w
 have hc0:es.length<=c:=by
  obtain⟨_,c',he,hc,_⟩:=ho.form
  injection he with _ _ he
  omega
 have hxs:(fR.f x).length=fR.sz:=fR.len x
 have hx1: ∀ u∈fR.f x,u.oneCell'=true:=fun u hu=>fR.one x u hu
 have hsv: ∀ {w2:World} {K2:List (Nat×Obj)},Hp w0 w2 ((vb,.cells (fR.f x).toArray d8 (0,0))::K2) F->vY w2 (Qd vb) 1 fR.sz (fR.all [x]):=fun h=>⟨by rw[fj.length];rfl,fun _=>⟨_,rfl,fun j u hj=>by rw[all_one]at hj;rw[Addr.add_lit,cE];exact aB (h.ent (i:=0) Z) (by simpa using hj)⟩⟩
 refine W<|Zr<|uO Z Z<|U<|W<|Zr<|mb Z Z<|iv Z Z<|sQ cV Z Z I I I Z fun A12 hA12=>U<|W<|Zr<|mb Z Z<|uF g9 Z Z<|oU Z Z<|U<|W<|W<|Zr<|iv Z Z<|G (nC Z Z (by decide))<|U<|ZF Z<|Zk<|W<|Zr<|mb Z Z<|uF g9 Z Z<|oU Z Z<|U<|W<|W<|Zr<|iv Z Z<|iv Z Z ?_
 refine LF Z Z Z (fun h22=> ?_) (fun h22=> ?_)
 ·refine ni ?_
  refine ZT Z<|W<|Zr<|mb Z Z<|mb Z Z<|vU (Y:=fR) (es:=es) (news:=[x]) vT H ho Z Z Z (hsv H) (by show(es.length+1)*16<=_;omega) Z fun A25 c25 w25 L25 h25 h25b ho25 H25=>uO Z Z<|U<|Zt<|cF Z Z ?_
  have hi:i=es.length:=by omega
  subst hi
  have he:es.take es.length++[x]++es.drop es.length=es++[x]:=by rw[bV,fq,aY]
  rw[he]
  exact⟨A25,c25,L25,rfl,ho25,H25⟩
 refine U<|ZF Z<|Zk ?_
 have hlt:i<es.length:=by omega
 obtain⟨g,cur,rfl,rfl,row⟩:=ho.row I
 have hgE:w.heap[g]? =some (.cells cur d8 (0,0)):=H.ent (i:=((vb,.cells (fR.f x).toArray d8 (0,0))::K:List (Nat×Obj)).length) (by simp)
 have hle:=row.le
 have hmx:=row.max
 have hlen:=ut (x:=x) (mf hlt)
 have hfit:=row.fit hle
 have hif:=row.fit (i:=i) I
 have hdr:(fR.all (es.drop i)).length=(es.length-i)*fR.sz:=by rw[fj.length,dI]
 have hsm:(i+1)*fR.sz+(es.length-i)*fR.sz=(es.length+1)*fR.sz:=by rw[<-cQ];congr 1;omega
 have hi3:(i+1)*fR.sz=i*fR.sz+fR.sz:=by rw[cQ,gE]
 refine W<|W<|Zr<|iv Z Z<|iv Z Z<|add Z Z I I Z<|mb Z Z<|G (Ec g9 Z) ?_
 refine Jk Z Z Z (fun h31=> ?_) (fun h31=> ?_)
 ·refine ni ?_
  refine ZT Z<|W<|Zr<|mb Z Z<|iv Z Z<|zy cV Z Z I I Z fun A34 hA34=> ?_
  obtain rfl:=hA34 I
  refine iv Z Z<|iv Z Z<|add Z Z I I Z<|iv Z Z<|sub Z Z I I Z ?_
  refine Qo (m:=es.length+1-i) vT ip H Z (kd:=.i64) (show _=Value.int _ _ from congrArg (Value.int _) (show((es.length:Int)+((1:Nat):Int))- (i:Nat)=((es.length+1-i:Nat):Int) by omega)) (olds:=fR.all (es.take i)) (by rw[fj.length,aH,br I];rfl) (fun j u hj=>by rw[Addr.add_lit,cE];rw[<-row.pre I,df]at hj;split at hj;exact aB hgE (by simpa using hj);cases hj) I I (by show(((i:Nat):Int).toNat+(es.length+1-i))*16<=_;omega) Z ?_
  intro w1 g2 c2 cur2 hs2 hge2 hmx2 hp2 H
  have hs2':cur2.size=c2*fR.sz:=hs2
  have hc2:(es.length+1)*fR.sz<=cur2.size:=by rw[hs2'];exact di _ I
  have hg2:(oO cur2 (i*fR.sz) (fR.f x)).size=cur2.size:=jH (by rw[hxs];omega)
  refine uO Z Z<|U<|W<|Zr<|mb Z Z<|iv Z Z<|sQ cV Z Z I I I Z fun A43 hA43=>mb Z Z ?_
  have hsrc:=hsv (H.perm (al _ _ _))
  refine NM (K:=[]) (m:=1) (o:=i*fR.sz) cV H Z Z (Cw Z I) (fun _=>vW.at0 hA43 I) hsrc (by rw[all_one];exact hx1) (by rw[all_one,hxs];omega) Z ?_
  rw[all_one]
  intro w2 H
  refine U<|W ?_
  refine bD bZ [0,1,2,3,4,5,6,7] [8] [] [0,1,2,3,4,5,6,7] (sp []) N N N N Nq (cI _) ?_
  refine aw Z Z Z Z Z (fun _ _=>ij Z)<|aw Z Z Z Z Z (fun _ _=>ij Z)<|aw Z Z Z Z Z (fun _ _=>ij Z)<|aw Z Z Z Z Z (fun _ _=>bp Z Z I I)<|aw Z Z Z Z Z (fun _ _=>pj cV Z Z I I)<|aw Z Z Z Z Z (fun _ _=>ij Z)<|aw Z Z Z Z Z (fun _ _=>ij Z)<|aw Z Z Z Z Z (fun _ _=>pj cV Z Z I I)<|aU ?_
  intro w' hw' _;replace H:=H.later hw';clear hw'
  have hgE2:w'.heap[g]? =some (.cells cur d8 (0,0)):=(H.ents (g,.cells cur d8 (0,0)) (by simp)).1
  refine NM (K:=[]) (m:=es.length-i) (o:=(i+1)*fR.sz) cV H Z Z (Cw I I) (fun _=>AL I) (row.srcFrom hgE2 I (rN (ao _)) I) (fj.all_one _) (by rw[hdr,hg2];omega) Z ?_
  intro w3 H
  refine U<|W<|Zr<|mb Z Z<|uO Z Z<|U<|Zt<|cF Z Z ?_
  exact⟨some ⟨g2,0,none⟩,c2,_,by rw[hlen];show Value.slice _ (((i:Nat):Int).toNat+(es.length+1-i)) _=_;congr 1;omega,dU.own (dU.insNew hs2' hmx2 hp2 (mf hlt) I),H.swapRow⟩
 refine U<|ZF Z<|Zk ?_
 have hroom:es.length+1<=c:=by omega
 have hfr:=row.fit hroom
 refine W<|Zr<|mb Z Z<|iv Z Z<|iv Z Z<|add Z Z I I Z<|zy cV Z Z I I Z fun A60 hA60=> ?_
 obtain rfl:=hA60 I
 refine uO Z Z<|U<|W<|W<|Zr<|mb Z Z<|mb Z Z<|iv Z Z<|iv Z Z<|add Z Z I I Z<|sQ cV Z Z I I I Z fun A66 hA66=> ?_
 have hA:=vW.at0 hA66 I
 have hvE:w.heap[vb]? =some (.cells (fR.f x).toArray d8 (0,0)):=H.ent (i:=0) Z
 have hne:vb≠g:=fun he=>by
  have:=H.nodup
  simp only[bk,eI,qo,kN,ar]at this
  exact this.1 (.inl (.inr (by rw[he];exact aA)))
 have hov: ∀ lb cb,(callFunc oQ #[.slice (Qd vb) 1 1,.slice A66 lb cb]).run aa w=.ok (.value (.bool false)) w:=fun lb cb=>by
  rw[hA,run_callFunc_extern oh N N N (e:=Extern.SlicesOverlaps.overlaps #[ya,ya] #[jh]) N,
   Lib.run_overlaps_apart w ya jh d8 (eZ cV).1 fR.sz (by obtain⟨_,j,h1,h2⟩:=eZ cV;exact fun w=>by rw[fy h1,h2];rfl) ⟨vb,0,none⟩ _ 1 1 lb cb hne d8 d8 (fR.f x).length cur.size (by simp[World.shape?,hvE]) (by simp[World.shape?,hgE]) (by have:=fR.pos;have:=row.fit (i:=1) I;omega) (by simp[World.frozen?,hvE]) (by simp[World.frozen?,hvE])]
  rfl
 refine Pk (hov _ _) Z Z<|not Z Z<|U<|ZT Z<|W ?_
 refine bD bZ [0,1,2,3,4,5,6,7] [8] [] [0,1,2,3,4,5,6,7] (sp []) N N N N Nq (cI _) ?_
 refine aw Z Z Z Z Z (fun _ _=>ij Z)<|aw Z Z Z Z Z (fun _ _=>ij Z)<|aw Z Z Z Z Z (fun _ _=>ij Z)<|aw Z Z Z Z Z (fun _ _=>bp Z Z I I)<|aw Z Z Z Z Z (fun _ _=>pj cV Z Z I I)<|aw Z Z Z Z Z (fun _ _=>ij Z)<|aw Z Z Z Z Z (fun _ _=>ij Z)<|aw Z Z Z Z Z (fun _ _=>pj cV Z Z I I)<|aU ?_
 intro w' hw' _;replace H:=H.later hw';clear hw'
 have hgE2:w'.heap[g]? =some (.cells cur d8 (0,0)):=(H.ents (g,.cells cur d8 (0,0)) (by simp)).1
 have hz1:(oO cur ((i+1)*fR.sz) (fR.all (es.drop i))).size=cur.size:=jH (by rw[hdr];omega)
 refine NM (m:=es.length-i) (o:=(i+1)*fR.sz) cV H Z Z (NH I I) (fun _=>AL I) (row.srcFrom hgE2 I (rN (ao _)) I) (fj.all_one _) (by rw[hdr];omega) Z ?_
 intro w2 H
 refine U<|W<|Zr<|mb Z Z<|iv Z Z<|sQ cV Z Z I I I Z fun A80 hA80=>mb Z Z ?_
 have hsrc:=hsv H
 refine NM (m:=1) (o:=i*fR.sz) cV H Z Z (Cw Z I) (fun _=>vW.at0 hA80 I) hsrc (by rw[all_one];exact hx1) (by rw[all_one,hxs,hz1];omega) Z ?_
 rw[all_one]
 intro w3 H
 refine U<|W<|Zr<|mb Z Z<|uO Z Z<|U<|Zt<|cF Z Z ?_
 exact⟨some ⟨g,0,none⟩,c,_,by rw[hlen];show Value.slice _ ((es.length:Int)+((1:Nat):Int)).toNat _=_;congr 1,dU.own (row.insIn (mf hlt) hroom),H⟩
theorem Lu {α:Type} {l:List α} {pred:α->Bool} {ix:Option Nat} (h:l.findIdx? pred=ix) (hne:lB ix≠ -1): ∃ (k:Nat) (x:α),ix=some k/\k<l.length/\l[k]? =some x/\pred x=true/\(l.take k).filter (fun m=>!pred m)=l.take k:=by
 cases ix with
 |none=>exact absurd Z hne
 |some k=>
  obtain⟨hl,h1,h2⟩:=bg.1 h
  refine⟨k,_,rfl,hl,ah hl,h1,?_⟩
  rw[jU]
  intro m hm
  obtain⟨j,hj⟩:=aK.1 hm
  rw[df]at hj
  split at hj
  rename_i hjk
  obtain⟨hjl,rfl⟩:=cD hj
  have:=h2 j hjk
  simpa using this
  cases hj
theorem MR {α:Type} {l:List α} {pred:α->Bool} {ix:Option Nat} (h:l.findIdx? pred=ix) (hne:lB ix= -1):(l.filter fun m=>!pred m)=l:=by
 cases ix with
 |none=>
  rw[dp]at h
  rw[jU]
  intro m hm
  simp[h m hm]
 |some k=>simp[lB]at hne
theorem Nk {w0 w:World} {M:List (Nat×Obj)} {F:List ci} {g n:Nat} {u:Array Value} (ms:List Mem) (c:Nat) (H:Hp w0 w ((g,.cells u db (0,0))::M) F) (row:dU jQ ms c u) (hn:n=ms.length) (hm12:ms.length<=1000) {f:FuncId} {cap:List Value} (hf:bi aa f=true) (pred:Mem->Bool)
  (hp: ∀ e∈ms,∀ (w':World) (u':Array Value),Hp w0 w' ((g,.cells u' db (0,0))::M) F->dd aa f (.agg e.c.toArray::cap) w' fun v w2=>v=.bool (pred e)/\Below w'.heap.size w' w2):
  dd aa fv [.slice (Qd g) n c,.func (.func f) #[] cap.toArray] w fun v w2=> ∃ u2,v=.slice (Qd g) (ms.filter fun m=>!pred m).length c/\dU jQ (ms.filter fun m=>!pred m) c u2/\Hp w0 w2 ((g,.cells u2 db (0,0))::M) F:=by
 refine aE hJ Z Z ?_
 have hle:=row.le
 refine W<|Zr<|G (Ws Z)<|U<|W<|Zr<|G (Ys Z)<|G (sS Z)<|cd dm (by subst hn;exact fN ms _ c _ (row.rd0 (H.ent (i:=0) Z)) I f cap hf pred (fun e w2 he hb=>hp e he w2 u (H.later hb))) Z Z ?_
 rintro _ w1 ⟨rfl,hb⟩;replace H:=H.later hb;clear hb
 obtain⟨ix,hix⟩: ∃ i,ms.findIdx? pred=i:=⟨_,rfl⟩
 rw[hix]
 refine G (Wi Z)<|U<|W<|W<|Zr<|G (Yi Z) ?_
 refine cR (bh Z Z) Z Z Z (fun h12=> ?_) (fun h12=> ?_)
 have hall:=MR hix I
 refine U<|ZT Z<|W<|Zr<|G (Ys Z)<|G (Ws Z)<|U<|Zt ?_
 exact cF (v:=.slice (Qd g) n c) Z Z ⟨u,by rw[hall,hn],by rw[hall];exact row,H⟩
 refine U<|ZF Z<|Zk<|W<|W ?_
 obtain⟨k0,x0,rfl,hk0l,hk0,hk0p,hkn⟩:=Lu hix I
 refine Zr<|G (Yi Z)<|G (bp (a:=((k0:Nat):Int)) Z Z I I)<|G (Wi Z)<|U<|Zb ?_
 refine cf (τ:=Nat×Nat×List Mem×Array Value) [5,6,7,16,17,18,19,20,21,22,23,24,25,26,27,28,29,30,31,32,33,34,35] (fun(j,i,_,_)=>[(6,J (j:Nat)),(5,J (i:Nat))]) (fun(j,i,m,u1) w'=>j<=n/\i<j/\m.length=n/\m.drop j=ms.drop j/\m.take i=(ms.take j).filter (fun m=>!pred m)/\dU jQ m c u1/\Hp w0 w' ((g,.cells u1 db (0,0))::M) F) (fun(j,_,_,_)=>n-j) (k0+1,k0,ms,u) ⟨by omega,by omega,hn.symm,rfl,by rw[eL hk0,i8,hkn];simp[hk0p],row,H⟩ (kZ Z Z) ?_
 rintro⟨j,i,m,u1⟩ ρ1 w2 ⟨hjn,hij,hml,hdr,htk,row2,H⟩
 show CW _ _ _ _ (dv (gk _ _ ρ1) [(6,J (j:Nat)),(5,J (i:Nat))]) w2
 refine W<|W<|Zr<|G (Yi Z)<|G (Ys Z)<|G (bn gm Z) ?_
 refine cR (cG Z Z) Z Z Z (fun h19=> ?_) (fun h19=> ?_)
 obtain⟨y,hy⟩: ∃ y,m[j]? =some y:=⟨_,ah I⟩
 have hyt:=ze hdr hy
 have hmy:=ae hyt
 refine U<|ZT Z<|Zk<|W<|Zb<|W<|Zr<|G (Ys Z)<|G (Yi Z)<|G (cC ez Z Z (by first|omega|(simp only[ab];omega)))<|G (oN nJ row2 hy Z Z (H.ent (i:=0) Z))<|eC H tl Z fun w3 b7 H=>bl H 0 (#[.string (y.name),J (y.heard),.slice y.A y.parts.length y.cap]) sf Z Z Z Z Z N N fun w4 H=>U<|W<|Zr<|G (sS Z)<|G (Zw nJ H 0 Z Z Z) ?_
 refine Ns hf Z (hp y hmy _ _ (H.forget (.cons _ (ap _)) (fun _ h=>h))) Z Z ?_;rintro _ w5 ⟨rfl,hb2⟩;replace H:=H.later hb2;clear hb2
 refine G (dO Z)<|U ?_
 refine jm Z (fun hc29=> ?_) (fun hc29=> ?_)
 refine W<|Zr<|G (Ys Z)<|G (Yi Z)<|G (Zw nJ H 0 Z Z Z)<|G (cC ez Z Z (by first|omega|(simp only[ab];omega))) ?_
 obtain⟨x33,hx33⟩: ∃ x,m[i]? =some x:=⟨_,ah (by first|omega|(simp only[ab];omega))⟩
 refine kQ H 1 (y) sf row2 hx33 0 Z Z Z Z Z Z N fun w7 cur6 row6 H=> ?_
 have hs8:(m.set i (y))[i]? =some (y):=am (cD hx33).1
 refine U<|Zr<|G (Yi Z)<|G (bp Z Z I I)<|G (Wi Z)<|U<|Zr<|G (Yi Z)<|G (bp Z Z I I)<|G (Wi Z)<|U ?_
 exact⟨(j+1,i+1,m.set i y,_),⟨by omega,by omega,by simp[hml],by rw[rV I];exact vP hdr I,by rw[Ch I,htk,eL hyt,i8,jZ (by simpa using hc29)];rfl,row6,H.forget (.cons _ (ap _)) (fun _ h=>h)⟩,kZ Z Z,Qg,by show n- (j+1)<n-j;omega⟩
 refine Zk<|Zr<|G (Yi Z)<|G (bp Z Z I I)<|G (Wi Z)<|U ?_
 exact⟨(j+1,i,m,u1),⟨by omega,by omega,hml,vP hdr I,by rw[htk,eL hyt,i8,oH (by simpa using hc29)];simp,row2,H.forget (.cons _ (ap _)) (fun _ h=>h)⟩,kZ Z Z,Qg,by show n- (j+1)<n-j;omega⟩
 refine U<|ZF Z<|Zx<|W<|Zr<|G (Ys Z)<|G (Yi Z)<|sQ (A:=some ⟨g,0,none⟩) (len:=n) (cap:=c) (i:=((i:Nat):Int)) ez Z Z I I I Z fun A38 hA38=> ?_
 obtain rfl:=vW.at0 hA38 (show i<n by omega)
 show LW _ _ _ _ _ (fh _ _ (.slice (some ⟨g,i*3,none⟩) (n-i) (c-i))) _
 have hsz:=row2.size
 have hzl:(Builtin.zeroCells (Value.cells (.agg #[.string ⟨#[]⟩,J 0,.slice none 0 0])) (n-i)).toList.length=(n-i)*3:=by rw[cj,size_zeroCells];rfl
 refine Qi (K:=[]) (M:=M) (o:=i*3) (z:=.agg #[.string ⟨#[]⟩,J 0,.slice none 0 0]) ez N Z Z H Z (fun _=>rfl) (by rw[hsz];show i*3+(n-i)*3<=c*3;omega) fun w9 H=> ?_
 have row3:=dU.clr row2 (k:=i) (o:=i*3) (zs:=(Builtin.zeroCells (Value.cells (.agg #[.string ⟨#[]⟩,J 0,.slice none 0 0])) (n-i)).toList) I (ao _) (by rw[hzl,hsz];show i*3+(n-i)*3<=c*3;omega)
 refine U<|W<|Zr<|G (Ys Z)<|G (Yi Z)<|zy (A:=some ⟨g,0,none⟩) (len:=n) (cap:=c) (i:=((i:Nat):Int)) ez Z Z I I Z fun A41 hA41=> ?_
 obtain rfl:=hA41 I
 show LW _ _ _ _ _ (fh _ _ (.slice (Qd g) i c)) _
 refine G (Ws Z)<|U<|Zt ?_
 have hfin:m.take i=ms.filter (fun m=>!pred m):=by rw[htk,show j=ms.length by omega,bV]
 have hfl:i=(ms.filter fun m=>!pred m).length:=by rw[<-hfin,aH];omega
 exact cF (v:=.slice (Qd g) i c) Z Z ⟨_,by rw[<-hfl],hfin▸row3,H⟩
end Go.Proofs.YtclibalpdhhhfaaGreat
