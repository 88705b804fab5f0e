/- Part 2 of the proofs over this seat: what its theorems say holds for every input that they name. -/
import Derived.Test.YtclibalpdhhhfaaGreatDoorBF1
namespace Go.Proofs.YtclibalpdhhhfaaGreatDoor
open Go Go.Eng Go.RowKit
open Go.Eng renaming bP→U, cE→W, bK→Zr, og→Zk, wG→Zt, lB→Zb, xC→Zx, gg→Yi, IH→Yb, sE→Ys, Ra→Yp, Qt→Yt, IG→Yu, BN→Wi, DD→Wb, vV→Ws, Ri→Wp, zf→Zf, Rg→Xi, I0→Xa, IY→Xs, PA→Kt, LQ→N, jc→ZT, gQ→ZF
open Go.Proofs.Tryz renaming prog→aa
open _root_.List renaming mem_of_getElem?→ab,length_set→ae,mem_cons_of_mem→ai,getElem?_eq_getElem→aj,getElem?_set_self→al,mem_append→ap,replicate→aq,mem_singleton→ar,mem_cons→av,length_append→ay,mem_cons_self→az,mem_or_eq_of_mem_set→aA,append_assoc→aB,length_take→aD,getElem?_eq_some_iff→aE,getElem?_map→aI,mem_iff_getElem?→aN,findIdx?_eq_some_iff_getElem→aP,getElem?_set_ne→aT,append_nil→aZ,length_map→bc,mem_nil_iff→bd,length_cons→bf,map_append→bk,mem_map→bD,mem_map_of_mem→bF,take_length→bJ,eq_nil_of_length_eq_zero→bO,length_replicate→bW,getElem?_eq_none→bX,sublist_append_right→bZ,mem_append_right→cz,getElem?_append_left→cC,getElem?_append_right→cG,length_singleton→cH,findIdx?_eq_none_iff→cL,getD_eq_getElem?_getD→cS,eq_of_mem_replicate→cT,map_set→cU,length_drop→cZ,length→da,getElem?_take→di,getElem?_drop→dk,take_take→dv,ext_getElem?→dZ,mem_singleton_self→d9,all_eq_true→ej,drop_of_length_le→er,pairwise_cons→eD,map_cons→eU,getElem?_replicate→fv,drop_length→fC,set_set→fR,perm_append_comm_assoc→gj,range→gy,take_append_drop→g8,filter_append→jn,set_append_right→jo,nodup_cons→jz,pairwise_map→jD,length_range→jE,filter_eq_self→j7,prefix_refl→kb,filter_cons_of_pos→kc,drop_drop→ke,take_append_of_le_length→kO,mem_filter→lj,getElem?_set→lI,pairwise_append→ml,drop_zero→mn,pairwise_iff_getElem→nc,replicate_succ→ng,filter_cons_of_neg→ph,nodup_append→pK,map_nil→pL,map_map→pM,getElem?_zipWith→qN,take_subset→qO,perm_middle→qP,cons_append→qQ,range_succ→ss,getElem?_range→sU,drop_set_of_lt→sV,take→tN,perm_append_singleton→t5,any_eq_false→uV,getElem_mem→vZ,perm_append_comm→xX,take_zero→zn,mem_of_mem_take→zo,take_set_of_le→zZ,drop_succ_cons→z0,set_comm→BW,set_cons_zero→B1,find?_eq_none→B2,findIdx?_map→DK
open _root_.List.Perm renaming cons→ah,swap→ak
open _root_.Nat renaming le_refl→ao,le_trans→aV,le_succ→bx,min_eq_left→bB,zero_le→bN,zero_add→cF,add_mul→cN,mul_le_mul_right→dq,beq→eE,lt_of_lt_of_le→gf,one_mul→gh,mod_lt→kP,sub_self→mE,le_of_lt→mF
open _root_.List.Sublist renaming refl→au
open _root_.Bool renaming and_eq_true→aQ,true_and→ig,not_eq_true'→pQ,or_eq_true→su
open _root_.Option.some renaming inj→aY,injEq→lH
open _root_.Array renaming length_toList→bY
open _root_.Option renaming map_some→eQ,bind_some→fB,map_eq_some_iff→iY
open _root_.Int renaming le_refl→fl,toNat_natCast→uW
open _root_.List.Mem renaming head→ie
set_option maxHeartbeats 4000000
set_option maxRecDepth 20000
set_option linter.unusedSimpArgs false
set_option linter.unusedVariables false
set_option linter.unusedSectionVars false
/-- so many entries are alike, by the times of their leaders -/
def dT:List cr->List cr->Nat
 |a::l,b::m=>if a.epoch=b.epoch then dT l m+1 else 0
 |_,_=>0
theorem sG: ∀ (a b:List cr),dT a b<=a.length/\dT a b<=b.length
 |[],_=>by simp[dT]
 |_::_,[]=>by simp[dT]
 |a::l,b::m=>by
  have:=sG l m
  unfold dT
  split
  simp;omega
  simp
theorem FE {a b:List cr} {n:Nat} {x y:cr} (hx:a[n]? =some x) (hy:b[n]? =some y) (h:x.epoch=y.epoch):dT (a.drop n) (b.drop n)=dT (a.drop (n+1)) (b.drop (n+1))+1:=by
 rw[cM hx,cM hy]
 exact if_pos h
theorem FD {a b:List cr} {n:Nat} {x y:cr} (hx:a[n]? =some x) (hy:b[n]? =some y) (h: ¬ x.epoch=y.epoch):dT (a.drop n) (b.drop n)=0:=by
 rw[cM hx,cM hy]
 exact if_neg h
theorem AO {a b:List cr} {n:Nat} (h:a.length<=n∨b.length<=n):dT (a.drop n) (b.drop n)=0:=by
 rcases h with h|h
 rw[er h];rfl
 rw[er (l:=b) h];cases(a.drop n)<;>rfl
def im (x y:RA) (hl:Int):RA×Int:=match y.es[dT x.es y.es]? with
 |some z=>(⟨x.up,x.es.take (dT x.es y.es)++[z],min x.s (dT x.es y.es),min (max x.high hl) ((dT x.es y.es:Nat)+1)⟩,1)
 |none=>(⟨x.up,x.es.take (dT x.es y.es),min x.s (dT x.es y.es),min (max x.high hl) (dT x.es y.es:Nat)⟩,0)
def gx (p:f3) (r:Nat):f3×Int×Int:=match p.reps[r]? with
 |none=>(mp,0,5)
 |some x=>if p.leader<0∨p.leader=r then(mp,0,8)else if x.up=false then(mp,0,7)else match p.reps[p.leader.toNat]? with
  |none=>(mp,0,12)
  |some y=>let kn:=p.known.set r (min x.s (dT x.es y.es):Nat)
   let hl:=max y.high (min (cY p.isr kn 400) y.es.length)
   ({p with known:=kn,reps:=(p.reps.set p.leader.toNat {y with high:=hl}).set r (im x y hl).1},(im x y hl).2,0)
theorem qh {p:f3} {r l:Nat} {x y:RA} (hx:p.reps[r]? =some x) (hl:p.leader=l) (hne:r≠l) (hu:x.up=true) (hy:p.reps[l]? =some y):gx p r=({p with known:=p.known.set r (min x.s (dT x.es y.es):Nat),reps:=(p.reps.set l {y with high:=max y.high (min (cY p.isr (p.known.set r (min x.s (dT x.es y.es):Nat)) 400) y.es.length)}).set r (im x y (max y.high (min (cY p.isr (p.known.set r (min x.s (dT x.es y.es):Nat)) 400) y.es.length))).1},(im x y (max y.high (min (cY p.isr (p.known.set r (min x.s (dT x.es y.es):Nat)) 400) y.es.length))).2,0):=by
 have h1:p.leader.toNat=l:=by omega
 unfold gx
 rw[hx];dsimp only
 rw[if_neg I,if_neg (by simp[hu]),h1,hy]
theorem G3 (l:pf) (n:Nat) (w:World) (h:l.ok w) (hn:n<=l.es.length):dt aa Dp [.agg l.c.toArray,J (n:Nat)] w fun v w2=> ∃ A' c',v=.tuple #[.agg #[.slice A' (bG (l.es.take n)).length c',J (iS (l.es.take n) (min l.s n):Nat)],J 0]/\(bG (l.es.take n)).length<=c'/\Rd dP w.heap.size w2.heap.size A' (bG (l.es.take n)) w2/\Below w.heap.size w w2:=
 (Jy l n w h hn).mono fun _ _ ⟨A',c',h1,h2,h3⟩=>⟨A',c',h1,h2.2.1,h2.2.2,h3⟩
theorem JJ (p:Pa) (r:Nat) (w:World) (h:p.rd 0 w.heap.size w) (hok:p.a.ok) (hr:r<p.reps.length):dt aa Ek [p.v,J (r:Nat)] w fun v w2=> ∃ p':Pa,v=.tuple #[p'.v,J (gx p.a r).2.1,J (gx p.a r).2.2]/\p'.a=(gx p.a r).1/\iJ w w2 p':=by
 refine aG Cq Z Z ?_
 obtain⟨hn1,hn2,hil,hkl,hf1,hf2,he0,he1,hl0,hl1,hb0,hb1,hsm⟩:=Pa.facts hok
 have hkn:=hok.known
 have hiC:=h.iC
 have hkC:=h.kC
 have hrC:=h.rC
 have hfew:=h.few
 have H:=Hp.startPa h
 obtain⟨ep,ld,isr,iA,iC,kn,kA,kC,reps,rA,rC,fw,bs⟩:=p
 simp only[Pa.a]at hkn
 dsimp only at H hn1 hn2 hil hkl hf1 hf2 he0 he1 hl0 hl1 hb0 hb1 hsm hiC hkC hrC hfew
 dsimp only at hr
 show CW _ _ _ _ (args [.agg #[J (ep),J (ld),.slice iA isr.length iC,.slice kA kn.length kC,.slice rA reps.length rC,J (fw),J (bs)],J (((r:Nat):Int))]) w
 refine W<|Zr<|gY H Z Z fun w1 b2 H=>fc H bR Z fun w2 b4 H=>G (Wi Z)<|G (Wi Z)<|U<|W<|Zr<|G (Zw bo H 1 Z Z Z)<|G (Yi Z)<|cu wH (He ⟨ep,ld,isr,iA,iC,kn,kA,kC,reps,rA,rC,fw,bs⟩ r _ (Hp.pa H 0 Z) hok hr) Z Z ?_
 rintro _ w3 ⟨⟨ep2,ld2,is2,iA2,c1,kn2,kA2,c2,rs,rA2,c3,fw2,bs2⟩,g1,g2,g3,u1,u2,u3,rfl,ha2,ho⟩
 simp only[Pa.a,f3.mk.injEq]at ha2
 obtain⟨e1,e2,e3,e4,hma,e6,e7⟩:=ha2
 obtain rfl:ep=ep2:=e1.symm
 obtain rfl:ld=ld2:=e2.symm
 obtain rfl:isr=is2:=e3.symm
 obtain rfl:kn=kn2:=e4.symm
 obtain rfl:fw=fw2:=e6.symm
 obtain rfl:bs=bs2:=e7.symm
 have hrl:rs.length=reps.length:=by have:=congrArg da hma;simpa using this
 obtain⟨i1,i2,i3,row1,row2,row3,hcp,hlos,-,hjn⟩:=ho
 dsimp only at i1 i2 i3 row1 row2 row3 hcp hlos hjn
 subst i1;subst i2;subst i3
 have hlo0:=H.size
 replace H:=H.joinF hjn (by intro f hf;obtain⟨r,hr,rfl⟩:=bD.1 hf;exact hlos r hr)
 replace hlos: ∀ r∈rs,w.heap.size<=r.lo:=fun r hr=>aV hlo0 (hlos r hr)
 clear hjn
 have hlg:=ui.of (F:=[KI 0 w.heap.size ⟨ep,ld,isr,iA,iC,kn,kA,kC,reps,rA,rC,fw,bs⟩,ey fI 0 w.heap.size iA isr,ey bS 0 w.heap.size kA kn,ey jr 0 w.heap.size rA reps]) hcp hlos
 have hok2: ∀ {i:Nat} {x:gm},rs[i]? =some x->GL x.es x.s/\0<=x.high/\x.high<=x.es.length:=fun hx=>IC hma hok hx
 obtain⟨x,hx⟩: ∃ x,rs[r]? =some x:=⟨_,aj I⟩
 have hxa:=Hn hma hx
 refine G (Yu Z)<|G (Xa Z Z)<|G (Xi Z Z)<|bA H 4 (#[J (ep),J (ld),.slice (Qd g1) isr.length c1,.slice (Qd g2) kn.length c2,.slice (Qd g3) rs.length c3,J (fw),J (bs)]) bl Z Z Z Z Z N N fun w4 H=>G (Wi Z)<|U<|W<|W<|Zr<|G (Yi Z)<|G (cv Z Z Z)<|U<|ZF Z<|Zk<|W<|W<|Zr<|G (Zf eC Z)<|G (Zd am H 4 Z Z Z) ?_
 refine du (cO Z Z) Z Z Z (fun h31=> ?_) (fun h31=> ?_)
 refine G (Yb Z)<|ZN<|ZN<|ZN<|ZN<|G (Kt Z Z)<|U<|ZT Z<|W<|Zr<|G (bC (cs:= #[J (0),J (0),.slice none 0 0,.slice none 0 0,.slice none 0 0,J (0),J (0)]) dz bR N)<|bA H 3 (#[J (0),J (0),.slice none 0 0,.slice none 0 0,.slice none 0 0,J (0),J (0)]) bl Z Z Z Z Z N N fun w5 H=>G (Wi Z)<|G (Wi Z)<|U<|Zt ?_
 have hS:gx (Pa.a ⟨ep,ld,isr,iA,iC,kn,kA,kC,reps,rA,rC,fw,bs⟩) r=(mp,0,8):=by simp[gx,Pa.a,hxa,gm.a,show ld<0∨ld=(r:Int) by omega]
 rw[hS]
 exact gM (cs0:= #[J 0,J 0,.slice none 0 0,.slice none 0 0,.slice none 0 0,J 0,J 0]) (v1:=J 0) (v2:=J 8) Z bo Z (H.ent (i:=3) Z) Z Z Z ⟨Jg,rfl,rfl,iJ.zero H.below⟩
 refine G (Yb Z)<|ZG<|G (Zf eC Z)<|ZG<|G (Zd am H 4 Z Z Z)<|ZG<|G (Yi Z)<|ZG ?_
 refine du (bv Z Z) Z Z Z (fun h36=> ?_) (fun h36=> ?_)
 refine G (N Z Z)<|U<|ZT Z<|W<|Zr<|G (bC (cs:= #[J (0),J (0),.slice none 0 0,.slice none 0 0,.slice none 0 0,J (0),J (0)]) dz bR N)<|bA H 3 (#[J (0),J (0),.slice none 0 0,.slice none 0 0,.slice none 0 0,J (0),J (0)]) bl Z Z Z Z Z N N fun w6 H=>G (Wi Z)<|G (Wi Z)<|U<|Zt ?_
 have hS:gx (Pa.a ⟨ep,ld,isr,iA,iC,kn,kA,kC,reps,rA,rC,fw,bs⟩) r=(mp,0,8):=by simp[gx,Pa.a,hxa,gm.a,show ld<0∨ld=(r:Int) by omega]
 rw[hS]
 exact gM (cs0:= #[J 0,J 0,.slice none 0 0,.slice none 0 0,.slice none 0 0,J 0,J 0]) (v1:=J 0) (v2:=J 8) Z bo Z (H.ent (i:=3) Z) Z Z Z ⟨Jg,rfl,rfl,iJ.zero H.below⟩
 refine G (N Z Z)<|U<|ZF Z<|Zk<|W ?_
 obtain⟨l,hld⟩: ∃ l:Nat,ld=l:=⟨ld.toNat,by omega⟩
 have hrl1:r≠l:=by omega
 have hrl2:=hrl1
 obtain⟨y,hy⟩: ∃ y,rs[l]? =some y:=⟨_,aj I⟩
 refine Zr<|G (Zf dQ Z)<|G (Zd cJ H 4 Z Z Z)<|G (Yi Z)<|G (cR bM Z Z (by first|omega|(simp only[ae];omega)))<|G (Wp Z)<|U<|W<|W<|Zr<|G (Yp Z)<|G (aH Z)<|G (Zf kV Z) ?_
 refine zS (bU eS row3 hx 0 Z (H.ent (i:=2) Z) Z) Z Z Z (fun h46=> ?_) (fun h46=> ?_)
 refine G (ee Z)<|U<|ZF Z<|Zk<|W<|Zr<|G (Zf dQ Z)<|G (Zd cJ H 4 Z Z Z)<|G (Zf eC Z)<|G (Zd am H 4 Z Z Z)<|G (cR (k:=l) bM Z (congrArg (Value.int .i64) hld) (by first|omega|(simp only[ae];omega)))<|G (Zf dU Z)<|G (wu 1 [.slice y.A ((bG y.es).length) y.cap,J (((iS y.es y.s:Nat):Int))] fE row3 hy Z Z (H.ent (i:=2) Z) Z)<|cu gR (iq y.A y.cap y.es y.s _ (hlg.log H hy (hok2 hy).1)) Z Z ?_
 have hloth:=H.size
 rintro _ w7 ⟨Ath,cth,rfl,hrth,hcth,hbth⟩;replace H:=H.learnRd hbth hrth;clear hrth hbth
 refine G (Yu Z)<|G (Xs Z Z)<|G (Xi Z Z)<|G (Xi Z Z)<|G (Ws Z)<|G (Wi Z)<|G (Wi Z)<|U<|W<|Zr<|G (Yp Z)<|G (aH Z)<|G (Zf dU Z)<|G (wu 1 [.slice x.A ((bG x.es).length) x.cap,J (((iS x.es x.s:Nat):Int))] fE row3 hx Z Z (H.ent (i:=2) Z) Z)<|cu gR (iq x.A x.cap x.es x.s _ ((hlg.cons (f:=ey hJ w4.heap.size w7.heap.size Ath y.es)).log H hx (hok2 hx).1)) Z Z ?_
 have hlomi:=H.size
 rintro _ w8 ⟨Ami,cmi,rfl,hrmi,hcmi,hbmi⟩;replace H:=H.learnRd hbmi hrmi;clear hrmi hbmi
 refine G (Yu Z)<|G (Xs Z Z)<|G (Xi Z Z)<|G (Xi Z Z)<|G (Ws Z)<|G (Wi Z)<|G (Wi Z)<|U<|W<|Zr<|G (Wi Z)<|U<|W ?_
 obtain⟨n,hmn⟩: ∃ n,dT x.es y.es=n:=⟨_,rfl⟩
 have hnx:n<=x.es.length:=hmn▸(sG x.es y.es).1
 have hny:n<=y.es.length:=hmn▸(sG x.es y.es).2
 have hlg2:=(hlg.cons (f:=ey hJ w4.heap.size w7.heap.size Ath y.es)).cons (f:=ey hJ w7.heap.size w8.heap.size Ami x.es)
 refine ft (τ:=Unit) [15,70,71,72,73,74,75,76,77,78,79,80,81,82,83,84,85,86,87,88,89,90,91,92,93,94] (fun _=>[(15,J ((n:Nat):Int))]) (fun _ w'=>Hp w w' [(g1,.cells u1 j6 (0,0)),(g2,.cells u2 dg (0,0)),(g3,.cells u3 g7 (0,0)),(b4,.cells #[J (0),J (0),.slice none 0 0,.slice none 0 0,.slice none 0 0,J (0),J (0)] bI (0,0)),(b2,.cells #[J (ep),J (ld),.slice (Qd g1) isr.length c1,.slice (Qd g2) kn.length c2,.slice (Qd g3) rs.length c3,J (fw),J (bs)] bI (0,0))] ([ey hJ w7.heap.size w8.heap.size Ami x.es,ey hJ w4.heap.size w7.heap.size Ath y.es,KI 0 w.heap.size ⟨ep,ld,isr,iA,iC,kn,kA,kC,reps,rA,rC,fw,bs⟩,ey fI 0 w.heap.size iA isr,ey bS 0 w.heap.size kA kn,ey jr 0 w.heap.size rA reps]++vE rs)) ?_ ?_
 refine Zb ?_
 refine cf (τ:=Nat) [15,70,71,72,73,74,75,76,77,78,79,80,81,82,83,84,85,86,87,88,89,90,91,92,93,94] (fun j=>[(15,J (j:Nat))]) (fun j w'=>j<=x.es.length/\j<=y.es.length/\dT x.es y.es=j+dT (x.es.drop j) (y.es.drop j)/\Hp w w' [(g1,.cells u1 j6 (0,0)),(g2,.cells u2 dg (0,0)),(g3,.cells u3 g7 (0,0)),(b4,.cells #[J (0),J (0),.slice none 0 0,.slice none 0 0,.slice none 0 0,J (0),J (0)] bI (0,0)),(b2,.cells #[J (ep),J (ld),.slice (Qd g1) isr.length c1,.slice (Qd g2) kn.length c2,.slice (Qd g3) rs.length c3,J (fw),J (bs)] bI (0,0))] ([ey hJ w7.heap.size w8.heap.size Ami x.es,ey hJ w4.heap.size w7.heap.size Ath y.es,KI 0 w.heap.size ⟨ep,ld,isr,iA,iC,kn,kA,kC,reps,rA,rC,fw,bs⟩,ey fI 0 w.heap.size iA isr,ey bS 0 w.heap.size kA kn,ey jr 0 w.heap.size rA reps]++vE rs)) (fun j=>x.es.length-j) 0 ⟨by omega,by omega,by simp,H⟩ (dR Z) ?_
 rintro j ρ1 w9 ⟨hj1,hj2,hj,H⟩
 have hyl:=(hok2 hy).1.len
 show CW _ _ _ _ (dK (ia _ _ ρ1) [(15,J (j:Nat))]) w9
 refine W<|W ?_
 refine bL cD [0,1,2,3,4,5,6,7,8,9,10,11,12,13,14,15,16,17,18,19,20,21,22] [] [] [0,1,2,3,4,5,6,7,8,9,10,11,12,13,14,16,17,18,19,21,22] (sp []) N N N N Nq (cQ _) ?_
 refine aw Z Z Z Z Z (fun w' hw'=>Yi Z)<|aw Z Z Z Z Z (fun w' hw'=>Ys Z)<|aw Z Z Z Z Z (fun w' hw'=>bh eN Z) ?_
 refine CN Z Z Z Z Z (fun w' hw'=>cO Z Z) (fun h73=> ?_) (fun h73=> ?_)
 refine aw Z Z Z Z Z (fun w' hw'=>Yb Z)<|aw Z Z Z Z Z (fun w' hw'=>Yi Z)<|aw Z Z Z Z Z (fun w' hw'=>Ys Z)<|aw Z Z Z Z Z (fun w' hw'=>bh eN Z) ?_
 refine CN Z Z Z Z Z (fun w' hw'=>cO Z Z) (fun h78=> ?_) (fun h78=> ?_)
 refine aw Z Z Z Z Z (fun w' hw'=>Kt Z Z)<|aw Z Z Z Z Z (fun w' hw'=>Yb Z)<|aw Z Z Z Z Z (fun w' hw'=>Ys Z)<|aw Z Z Z Z Z (fun w' hw'=>Yi Z)<|qI H 0 Z Z Z Z Z dW Z Z I I fun b10 o10 x10 e10=>aw Z Z Z Z Z (fun w' hw'=>Zf nV Z)<|aw Z Z Z Z Z (fun w' hw'=>bi am Z (e10.later hw' 0 _ Z))<|aw Z Z Z Z Z (fun w' hw'=>Ys Z)<|aw Z Z Z Z Z (fun w' hw'=>Yi Z)<|qI H 1 Z Z Z Z Z dW Z Z I I fun b11 o11 x11 e11=>aw Z Z Z Z Z (fun w' hw'=>Zf nV Z)<|aw Z Z Z Z Z (fun w' hw'=>bi am Z (e11.later hw' 0 _ Z)) ?_
 refine CN Z Z Z Z Z (fun w' hw'=>bv Z Z) (fun h91=> ?_) (fun h91=> ?_)
 refine aw Z Z Z Z Z (fun w' hw'=>Kt Z Z)<|aU ?_
 intro w12 hw' hF
 replace H:=H.later hw';clear hw' hF
 refine U<|ZT Z<|Zk<|Zb<|Zr<|G (Yi Z)<|G (bp Z Z I I)<|G (Wi Z)<|U ?_
 refine⟨j+1,⟨by omega,by omega,by rw[hj,FE e10.at_ e11.at_ h91];omega,H⟩,dR Z,Qg,by show x.es.length- (j+1)<x.es.length-j;omega⟩
 refine aw Z Z Z Z Z (fun w' hw'=>Kt Z Z)<|aU ?_
 intro w13 hw' hF
 replace H:=H.later hw';clear hw' hF
 refine U<|ZF Z<|Zx ?_
 have hjn:j=n:=by rw[<-hmn,hj];rw[FD e10.at_ e11.at_ h91];rfl
 exact⟨(),H,dR (by rw[<-hjn];rfl),Qg⟩
 refine aw Z Z Z Z Z (fun w' hw'=>Kt Z Z)<|aw Z Z Z Z Z (fun w' hw'=>Yb Z)<|eZ Z Z Z Z<|eZ Z Z Z Z<|eZ Z Z Z Z<|eZ Z Z Z Z<|eZ Z Z Z Z<|eZ Z Z Z Z<|eZ Z Z Z Z<|eZ Z Z Z Z<|eZ Z Z Z Z<|eZ Z Z Z Z<|eZ Z Z Z Z<|aw Z Z Z Z Z (fun w' hw'=>N Z Z)<|aU ?_
 intro w14 hw' hF
 replace H:=H.later hw';clear hw' hF
 refine U<|ZF Z<|Zx ?_
 have hjn:j=n:=by rw[<-hmn,hj];rw[AO I];rfl
 exact⟨(),H,dR (by rw[<-hjn];rfl),Qg⟩
 refine aw Z Z Z Z Z (fun w' hw'=>Yb Z)<|eZ Z Z Z Z<|eZ Z Z Z Z<|eZ Z Z Z Z<|eZ Z Z Z Z<|aw Z Z Z Z Z (fun w' hw'=>N Z Z)<|aw Z Z Z Z Z (fun w' hw'=>Yb Z)<|eZ Z Z Z Z<|eZ Z Z Z Z<|eZ Z Z Z Z<|eZ Z Z Z Z<|eZ Z Z Z Z<|eZ Z Z Z Z<|eZ Z Z Z Z<|eZ Z Z Z Z<|eZ Z Z Z Z<|eZ Z Z Z Z<|eZ Z Z Z Z<|aw Z Z Z Z Z (fun w' hw'=>N Z Z)<|aU ?_
 intro w15 hw' hF
 replace H:=H.later hw';clear hw' hF
 refine U<|ZF Z<|Zx ?_
 have hjn:j=n:=by rw[<-hmn,hj];rw[AO I];rfl
 exact⟨(),H,dR (by rw[<-hjn];rfl),Qg⟩
 rintro⟨⟩ ρ1 w16 H
 have hyl:=(hok2 hy).1.len
 refine W<|Zr<|G (Yp Z)<|G (Yp Z)<|G (aH Z)<|G (Zf dU Z)<|G (wu 1 [.slice x.A ((bG x.es).length) x.cap,J (((iS x.es x.s:Nat):Int))] fE row3 hx Z Z (H.ent (i:=2) Z) Z)<|G (Yi Z)<|cu HV (G3 (gm.log x) n _ (hlg2.log H hx (hok2 hx).1) hnx) Z Z ?_
 have hlo9:=H.size
 rintro _ w17 ⟨A102,c102,rfl,hc102,hr102,hb102⟩;replace H:=H.learnRd hb102 hr102;clear hr102 hb102
 refine G (Yu Z)<|G (Xa Z Z)<|G (Xi Z Z)<|G (aH Z)<|G (Zf dU Z)<|ni H 2 ({x with A:=A102,cap:=c102,es:=x.es.take n,s:=min x.s n,lo:=w16.heap.size,hi:=w17.heap.size}) kR row3 hx 1 Z Z Z Z Z Z N fun w19 cur18 row18 H=> ?_
 have hs20:(rs.set r ({x with A:=A102,cap:=c102,es:=x.es.take n,s:=min x.s n,lo:=w16.heap.size,hi:=w17.heap.size}))[r]? =some ({x with A:=A102,cap:=c102,es:=x.es.take n,s:=min x.s n,lo:=w16.heap.size,hi:=w17.heap.size}):=al (cy hx).1
 refine U<|W ?_
 have hlo1:=hlo9
 have hlg3:=(hlg2.cons (f:=ey dP w16.heap.size w17.heap.size A102 (bG (x.es.take n)))).set r (x:={x with A:=A102,cap:=c102,es:=x.es.take n,s:=min x.s n,lo:=w16.heap.size,hi:=w17.heap.size}) ⟨hc102,hlo1,ie _⟩
 have hx2:(rs.set r {x with A:=A102,cap:=c102,es:=x.es.take n,s:=min x.s n,lo:=w16.heap.size,hi:=w17.heap.size})[r]? =some {x with A:=A102,cap:=c102,es:=x.es.take n,s:=min x.s n,lo:=w16.heap.size,hi:=w17.heap.size}:=al I
 have hy2:(rs.set r {x with A:=A102,cap:=c102,es:=x.es.take n,s:=min x.s n,lo:=w16.heap.size,hi:=w17.heap.size})[l]? =some y:=by rw[aT hrl1];exact hy
 have hgl2:GL (x.es.take n) (min x.s n:Nat):=(hok2 hx).1.take n (by simp;omega)
 obtain⟨kx,hkx⟩: ∃ kx,kn[r]? =some kx:=⟨_,aj I⟩
 refine bL cD [0,1,2,3,4,5,6,7,8,9] [10] [5] [0,2,4,6,7,8,9] (sp [(5,Sp.one (.tuple #[J (((x.es.take n).length:Nat):Int),J ((min x.s n:Nat):Int)]))]) N N N N Nq (cQ _) ?_
 refine aw Z Z Z Z Z (fun w' hw'=>Zf iX Z)<|aw Z Z Z Z Z (fun w' hw'=>bi cB Z (aJ ((H.later hw').ent (i:=4) Z) Z))<|aw Z Z Z Z Z (fun w' hw'=>Yi Z)<|aw Z Z Z Z Z (fun w' hw'=>jR bo Z ((H.later hw').ent (i:=4) Z) Z)<|aw Z Z Z Z Z (fun w' hw'=>Yi Z)<|qJ kY Z Z Z Z Z (fun w' hw'=>(by have hA:=sB ⟨ep,ld,isr,some ⟨g1,0,none⟩,c1,kn,some ⟨g2,0,none⟩,c2,(rs.set r {x with A:=A102,cap:=c102,es:=x.es.take n,s:=min x.s n,lo:=w16.heap.size,hi:=w17.heap.size}),some ⟨g3,0,none⟩,c3,fw,bs⟩ r {x with A:=A102,cap:=c102,es:=x.es.take n,s:=min x.s n,lo:=w16.heap.size,hi:=w17.heap.size} w' (row18.rd0 ((H.later hw').ent (i:=2) Z)) hx2 (hlg3.log (H.later hw') hx2 hgl2);simp only[Pa.v,Pa.c,ae]at hA;exact hA)) Z<|aw Z Z Z Z Z (fun w' hw'=>Yu Z)<|aw Z Z Z Z Z (fun w' hw'=>Xi Z Z)<|aw Z Z Z Z Z (fun w' hw'=>Xi Z Z)<|aw Z Z Z Z Z (fun w' hw'=>cR bj Z Z (by first|omega|(simp only[ae];omega)))<|aU ?_
 intro w21 hw' hF
 replace H:=H.later hw';clear hw' hF
 refine ni H 1 ((((min x.s n:Nat):Int))) bQ row2 hkx 0 Z Z Z Z Z Z N fun w23 cur22 row22 H=> ?_
 have hs24:(kn.set r ((((min x.s n:Nat):Int))))[r]? =some ((((min x.s n:Nat):Int))):=al (cy hkx).1
 refine U<|W<|Zr<|G (Zw bo H 4 Z Z Z)<|cu pE ((by have hA:=D8 ep ld isr c1 (kn.set r ((min x.s n:Nat):Int)) c2 (rs.set r {x with A:=A102,cap:=c102,es:=x.es.take n,s:=min x.s n,lo:=w16.heap.size,hi:=w17.heap.size}) c3 fw bs l y H row1 row22 row18 (by simp only[ae];omega) (by simp only[ae];omega) (by simp only[ae];omega) hld hy2 (hlg3 _ (ab hy2)).2.2 (hok2 hy).1 (hlg3 _ (ab hy2)).1;simp only[Pa.v,Pa.c,ae]at hA;exact hA)) Z Z ?_
 rintro _ w25 ⟨u9,rfl,row9,H⟩
 replace hlg3:=hlg3.same l (x':={y with high:=(max y.high (min (cY isr (kn.set r ((min x.s n:Nat):Int)) 400) (y.es.length:Nat)))}) hy2 Z Z Z Z Z
 have hx3:((rs.set r {x with A:=A102,cap:=c102,es:=x.es.take n,s:=min x.s n,lo:=w16.heap.size,hi:=w17.heap.size}).set l {y with high:=(max y.high (min (cY isr (kn.set r ((min x.s n:Nat):Int)) 400) (y.es.length:Nat)))})[r]? =some {x with A:=A102,cap:=c102,es:=x.es.take n,s:=min x.s n,lo:=w16.heap.size,hi:=w17.heap.size}:=by rw[aT (Ne.symm hrl1),al I]
 have hy3:((rs.set r {x with A:=A102,cap:=c102,es:=x.es.take n,s:=min x.s n,lo:=w16.heap.size,hi:=w17.heap.size}).set l {y with high:=(max y.high (min (cY isr (kn.set r ((min x.s n:Nat):Int)) 400) (y.es.length:Nat)))})[l]? =some {y with high:=(max y.high (min (cY isr (kn.set r ((min x.s n:Nat):Int)) 400) (y.es.length:Nat)))}:=al (by simp only[ae];omega)
 refine bA H 4 (#[J (ep),J (ld),.slice (Qd g1) isr.length c1,.slice (Qd g2) kn.length c2,.slice (Qd g3) rs.length c3,J (fw),J (bs)]) bl Z Z Z Z Z N N fun w26 H=>U<|W<|Zr<|G (Wi Z)<|U<|W<|W<|Zr<|G (Yi Z)<|G (Ys Z)<|G (bh eN Z) ?_
 refine du (cO Z Z) Z Z Z (fun h122=> ?_) (fun h122=> ?_)
 refine U<|ZT Z<|W ?_
 obtain⟨z,hz⟩: ∃ z,y.es[n]? =some z:=⟨_,aj I⟩
 have hgz:ob z:=(hok2 hy).1.good z (ab hz)
 have hrm:(x.es.take n).length<400:=by have:=(hok2 hy).1.len;simp;omega
 have hlo9:=H.size
 refine bL cD [0,1,2,3,4,5,6,7,8,9,10,11,12] [13,14] [8,12] [0,1,2,4,5,6,9,10,11] (sp [(8,Sp.nrow w26.heap.size dP (bG (x.es.take n++[z])) (fun A c=> .tuple #[.agg #[.slice A (bG (x.es.take n++[z])).length c,J (iS (x.es.take n++[z]) (min x.s n:Nat):Nat)],J 0])),(12,Sp.blk w26.heap.size (.agg #[.slice none 0 0,J 0]) GG)]) N N N N Nq (cQ _) ?_
 refine aw Z Z Z Z Z (fun w' hw'=>Yp Z)<|aw Z Z Z Z Z (fun w' hw'=>aH Z)<|aw Z Z Z Z Z (fun w' hw'=>Zf dU Z)<|aw Z Z Z Z Z (fun w' hw'=>wu 1 [.slice (({x with A:=A102,cap:=c102,es:=x.es.take n,s:=min x.s n,lo:=w16.heap.size,hi:=w17.heap.size}).A) ((bG ({x with A:=A102,cap:=c102,es:=x.es.take n,s:=min x.s n,lo:=w16.heap.size,hi:=w17.heap.size}).es).length) (({x with A:=A102,cap:=c102,es:=x.es.take n,s:=min x.s n,lo:=w16.heap.size,hi:=w17.heap.size}).cap),J (((iS ({x with A:=A102,cap:=c102,es:=x.es.take n,s:=min x.s n,lo:=w16.heap.size,hi:=w17.heap.size}).es ({x with A:=A102,cap:=c102,es:=x.es.take n,s:=min x.s n,lo:=w16.heap.size,hi:=w17.heap.size}).s:Nat):Int))] fE row9 hx3 Z Z ((H.later hw').ent (i:=2) Z) Z)<|aw Z Z Z Z Z (fun w' hw'=>Ys Z)<|aw Z Z Z Z Z (fun w' hw'=>Yi Z)<|qI H 2 Z Z Z Z Z dW Z Z I I fun b27 o27 x27 e27=> ?_
 obtain rfl:z=x27:=by have:=e27.at_;rw[hz]at this;exact aY this
 refine aw Z Z Z Z Z (fun w' hw'=>ka (xs:=cr.c z) dJ Z Z (e27.later hw'))<|HZ (gv:=(fun A c=> .tuple #[.agg #[.slice A (bG (x.es.take n++[z])).length c,J (iS (x.es.take n++[z]) (min x.s n:Nat):Nat)],J 0])) vP Z Z Z Z Z (fun w' hw'=>hw'.size) (fun w' hw'=>vD (gm.log {x with A:=A102,cap:=c102,es:=x.es.take n,s:=min x.s n,lo:=w16.heap.size,hi:=w17.heap.size}) z w' (hlg3.log (H.later hw') hx3 hgl2) hgz hrm) Z fun A132 c132 hc132=>aw Z Z Z Z Z (fun w' hw'=>Yu Z)<|aw Z Z Z Z Z (fun w' hw'=>Xa Z Z)<|aw Z Z Z Z Z (fun w' hw'=>Xi Z Z)<|yP tO Z Z Z Z Z (fun w' hw'=>hw'.size) fun b17=>aU ?_
 intro w28 hw' hF
 obtain⟨hF,bq,eq,hge17,hbl17⟩:=hF;cases eq
 obtain⟨hF,Aq,cq,eq,hcq,hrw132⟩:=hF;cases eq;clear hcq
 have Hb:=H
 replace H:=H.adoptNew hw' hbl17 hge17
 obtain⟨lo132,hi132,hlo132,H'⟩:=Hb.learnApart H hw'.size hrw132 (vO hbl17);replace H:=H';clear H'
 clear hw' hF
 refine bA H 0 (#[.slice A132 ((bG (x.es.take n++[z])).length) c132,J (((iS (x.es.take n++[z]) (min x.s n:Nat):Nat):Int))]) kR Z Z Z Z Z N N fun w29 H=>G (Wi Z)<|U<|W<|Zr<|G (Yi Z)<|G (se Z Z Z)<|U<|ZT Z<|Zr<|G (Yp Z)<|G (Zw fE H 0 Z Z Z)<|G (aH Z)<|G (Zf dU Z)<|ni H 3 ({x with A:=A132,cap:=c132,es:=x.es.take n++[z],s:=min x.s n,lo:=lo132,hi:=hi132}) kR row9 hx3 1 Z Z Z Z Z Z N fun w31 cur30 row30 H=> ?_
 have hs32:((((rs.set r {x with A:=A102,cap:=c102,es:=x.es.take n,s:=min x.s n,lo:=w16.heap.size,hi:=w17.heap.size}).set l {y with high:=(max y.high (min (cY isr (kn.set r ((min x.s n:Nat):Int)) 400) (y.es.length:Nat)))})).set r ({x with A:=A132,cap:=c132,es:=x.es.take n++[z],s:=min x.s n,lo:=lo132,hi:=hi132}))[r]? =some ({x with A:=A132,cap:=c132,es:=x.es.take n++[z],s:=min x.s n,lo:=lo132,hi:=hi132}):=al (cy hx3).1
 refine G (Wi Z)<|U<|W ?_
 have hlg8:=(hlg3.cons (f:=ey dP lo132 hi132 A132 (bG (x.es.take n++[z])))).set r (x:={x with A:=A132,cap:=c132,es:=x.es.take n++[z],s:=min x.s n,lo:=lo132,hi:=hi132}) ⟨hc132,aV hlo9 hlo132,ie _⟩
 have hx8:(((rs.set r {x with A:=A102,cap:=c102,es:=x.es.take n,s:=min x.s n,lo:=w16.heap.size,hi:=w17.heap.size}).set l {y with high:=(max y.high (min (cY isr (kn.set r ((min x.s n:Nat):Int)) 400) (y.es.length:Nat)))}).set r {x with A:=A132,cap:=c132,es:=x.es.take n++[z],s:=min x.s n,lo:=lo132,hi:=hi132})[r]? =some {x with A:=A132,cap:=c132,es:=x.es.take n++[z],s:=min x.s n,lo:=lo132,hi:=hi132}:=al (by simp only[ae];omega)
 have hy8:(((rs.set r {x with A:=A102,cap:=c102,es:=x.es.take n,s:=min x.s n,lo:=w16.heap.size,hi:=w17.heap.size}).set l {y with high:=(max y.high (min (cY isr (kn.set r ((min x.s n:Nat):Int)) 400) (y.es.length:Nat)))}).set r {x with A:=A132,cap:=c132,es:=x.es.take n++[z],s:=min x.s n,lo:=lo132,hi:=hi132})[l]? =some {y with high:=(max y.high (min (cY isr (kn.set r ((min x.s n:Nat):Int)) 400) (y.es.length:Nat)))}:=by rw[aT hrl1,al (by simp only[ae];omega)]
 refine bL cD [0,1,2,3,4,5,6,7,8,9,10,11,12,13,14,15,16,17,18] [19] [] [0,1,2,3,5,7,9,10,12,13,14,15,16,17,18] (sp []) N N N N Nq (cQ _) ?_
 refine aw Z Z Z Z Z (fun w' hw'=>Yp Z)<|aw Z Z Z Z Z (fun w' hw'=>Yp Z)<|aw Z Z Z Z Z (fun w' hw'=>aH Z)<|aw Z Z Z Z Z (fun w' hw'=>Zf eX Z)<|aw Z Z Z Z Z (fun w' hw'=>bU am row30 hx8 3 Z ((H.later hw').ent (i:=3) Z) Z)<|aw Z Z Z Z Z (fun w' hw'=>Zf dQ Z)<|aw Z Z Z Z Z (fun w' hw'=>bi cJ Z (aJ ((H.later hw').ent (i:=5) Z) Z))<|aw Z Z Z Z Z (fun w' hw'=>Zf eC Z)<|aw Z Z Z Z Z (fun w' hw'=>bi am Z (aJ ((H.later hw').ent (i:=5) Z) Z))<|aw Z Z Z Z Z (fun w' hw'=>cR (k:=l) bM Z (congrArg (Value.int .i64) hld) (by first|omega|(simp only[ae];omega)))<|aw Z Z Z Z Z (fun w' hw'=>Zf eX Z)<|aw Z Z Z Z Z (fun w' hw'=>bU am row30 hy8 3 Z ((H.later hw').ent (i:=3) Z) Z)<|aw Z Z Z Z Z (fun w' hw'=>Ef Z Z)<|aw Z Z Z Z Z (fun w' hw'=>Yi Z)<|aw Z Z Z Z Z (fun w' hw'=>Yi Z)<|aw Z Z Z Z Z (fun w' hw'=>bp Z Z I I)<|aw Z Z Z Z Z (fun w' hw'=>yp Z Z)<|aw Z Z Z Z Z (fun w' hw'=>aH Z)<|aw Z Z Z Z Z (fun w' hw'=>Zf eX Z)<|aU ?_
 intro w33 hw' hF
 replace H:=H.later hw';clear hw' hF
 refine ni H 3 ({x with A:=A132,cap:=c132,es:=x.es.take n++[z],s:=min x.s n,lo:=lo132,hi:=hi132,high:=min (max x.high (max y.high (min (cY isr (kn.set r ((min x.s n:Nat):Int)) 400) (y.es.length:Nat)))) ((n:Nat)+1)}) bQ row30 hx8 3 Z Z Z Z Z Z N fun w35 cur34 row34 H=> ?_
 have hs36:(((((rs.set r {x with A:=A102,cap:=c102,es:=x.es.take n,s:=min x.s n,lo:=w16.heap.size,hi:=w17.heap.size}).set l {y with high:=(max y.high (min (cY isr (kn.set r ((min x.s n:Nat):Int)) 400) (y.es.length:Nat)))})).set r ({x with A:=A132,cap:=c132,es:=x.es.take n++[z],s:=min x.s n,lo:=lo132,hi:=hi132})).set r ({x with A:=A132,cap:=c132,es:=x.es.take n++[z],s:=min x.s n,lo:=lo132,hi:=hi132,high:=min (max x.high (max y.high (min (cY isr (kn.set r ((min x.s n:Nat):Int)) 400) (y.es.length:Nat)))) ((n:Nat)+1)}))[r]? =some ({x with A:=A132,cap:=c132,es:=x.es.take n++[z],s:=min x.s n,lo:=lo132,hi:=hi132,high:=min (max x.high (max y.high (min (cY isr (kn.set r ((min x.s n:Nat):Int)) 400) (y.es.length:Nat)))) ((n:Nat)+1)}):=al (cy hx8).1
 refine U<|W<|Zr<|G (Zw bo H 5 Z Z Z)<|G (Yi Z)<|bA H 4 (#[J (ep),J (ld),.slice (Qd g1) isr.length c1,.slice (Qd g2) kn.length c2,.slice (Qd g3) rs.length c3,J (fw),J (bs)]) bl Z Z Z Z Z N N fun w37 H=>G (Wi Z)<|G (Wi Z)<|U<|Zt ?_
 have hzf:im x.a y.a (max y.high (min (cY isr (kn.set r ((min x.s n:Nat):Int)) 400) (y.es.length:Nat)))=(⟨x.up,x.es.take n++[z],min x.s n,min (max x.high (max y.high (min (cY isr (kn.set r ((min x.s n:Nat):Int)) 400) (y.es.length:Nat)))) ((n:Nat)+1)⟩,1):=by unfold im;rw[show dT x.a.es y.a.es=n from hmn,show y.a.es[n]? =some z from hz];rfl
 have hS:=qh (p:=(Pa.a ⟨ep,ld,isr,iA,iC,kn,kA,kC,reps,rA,rC,fw,bs⟩)) hxa hld hrl1 (show x.a.up=true from h46) (Hn hma hy)
 rw[show dT x.a.es y.a.es=n from hmn]at hS
 change gx (Pa.a ⟨ep,ld,isr,iA,iC,kn,kA,kC,reps,rA,rC,fw,bs⟩) r=({(Pa.a ⟨ep,ld,isr,iA,iC,kn,kA,kC,reps,rA,rC,fw,bs⟩)with known:=(kn.set r ((min x.s n:Nat):Int)),reps:=((reps.map gm.a).set l {y.a with high:=(max y.high (min (cY isr (kn.set r ((min x.s n:Nat):Int)) 400) (y.es.length:Nat)))}).set r (im x.a y.a (max y.high (min (cY isr (kn.set r ((min x.s n:Nat):Int)) 400) (y.es.length:Nat)))).1},(im x.a y.a (max y.high (min (cY isr (kn.set r ((min x.s n:Nat):Int)) 400) (y.es.length:Nat)))).2,0)at hS
 rw[hS,hzf]
 have hlg9:=hlg8.same r (x':={x with A:=A132,cap:=c132,es:=x.es.take n++[z],s:=min x.s n,lo:=lo132,hi:=hi132,high:=min (max x.high (max y.high (min (cY isr (kn.set r ((min x.s n:Nat):Int)) 400) (y.es.length:Nat)))) ((n:Nat)+1)}) hx8 Z Z Z Z Z
 exact gM (cs0:= #[J (ep),J (ld),.slice (Qd g1) isr.length c1,.slice (Qd g2) kn.length c2,.slice (Qd g3) rs.length c3,J (fw),J (bs)]) (v1:=J 1) (v2:=J 0) Z bo Z (H.ent (i:=4) Z) Z Z Z ⟨_,by simp[Pa.c],by simp only[Pa.a,cU,hma,gm.a,fR,BW _ _ hrl2],(iJ.mk_ (p:=⟨ep,ld,isr,some ⟨g1,0,none⟩,c1,(kn.set r ((min x.s n:Nat):Int)),some ⟨g2,0,none⟩,c2,_,some ⟨g3,0,none⟩,c3,fw,bs⟩) Z Z Z row1 row22 row34 hlg9 (by dsimp only;first|omega|(simp only[ae,bW];omega)) H ⟨by simp,by simp,by simp⟩)⟩
 refine U<|ZF Z<|Zk<|W ?_
 refine bL cD [0,1,2,3,4,5,6,7,8,9,10,11,12,13,14,15,16,17,18] [19] [] [0,1,2,3,5,7,9,10,12,13,14,15,16,17,18] (sp []) N N N N Nq (cQ _) ?_
 refine aw Z Z Z Z Z (fun w' hw'=>Yp Z)<|aw Z Z Z Z Z (fun w' hw'=>Yp Z)<|aw Z Z Z Z Z (fun w' hw'=>aH Z)<|aw Z Z Z Z Z (fun w' hw'=>Zf eX Z)<|aw Z Z Z Z Z (fun w' hw'=>bU am row9 hx3 3 Z ((H.later hw').ent (i:=2) Z) Z)<|aw Z Z Z Z Z (fun w' hw'=>Zf dQ Z)<|aw Z Z Z Z Z (fun w' hw'=>bi cJ Z (aJ ((H.later hw').ent (i:=4) Z) Z))<|aw Z Z Z Z Z (fun w' hw'=>Zf eC Z)<|aw Z Z Z Z Z (fun w' hw'=>bi am Z (aJ ((H.later hw').ent (i:=4) Z) Z))<|aw Z Z Z Z Z (fun w' hw'=>cR (k:=l) bM Z (congrArg (Value.int .i64) hld) (by first|omega|(simp only[ae];omega)))<|aw Z Z Z Z Z (fun w' hw'=>Zf eX Z)<|aw Z Z Z Z Z (fun w' hw'=>bU am row9 hy3 3 Z ((H.later hw').ent (i:=2) Z) Z)<|aw Z Z Z Z Z (fun w' hw'=>Ef Z Z)<|aw Z Z Z Z Z (fun w' hw'=>Yi Z)<|aw Z Z Z Z Z (fun w' hw'=>Yi Z)<|aw Z Z Z Z Z (fun w' hw'=>bp Z Z I I)<|aw Z Z Z Z Z (fun w' hw'=>yp Z Z)<|aw Z Z Z Z Z (fun w' hw'=>aH Z)<|aw Z Z Z Z Z (fun w' hw'=>Zf eX Z)<|aU ?_
 intro w38 hw' hF
 replace H:=H.later hw';clear hw' hF
 refine ni H 2 ({x with A:=A102,cap:=c102,es:=x.es.take n,s:=min x.s n,lo:=w16.heap.size,hi:=w17.heap.size,high:=min (max x.high (max y.high (min (cY isr (kn.set r ((min x.s n:Nat):Int)) 400) (y.es.length:Nat)))) (n:Nat)}) bQ row9 hx3 3 Z Z Z Z Z Z N fun w40 cur39 row39 H=> ?_
 have hs41:((((rs.set r {x with A:=A102,cap:=c102,es:=x.es.take n,s:=min x.s n,lo:=w16.heap.size,hi:=w17.heap.size}).set l {y with high:=(max y.high (min (cY isr (kn.set r ((min x.s n:Nat):Int)) 400) (y.es.length:Nat)))})).set r ({x with A:=A102,cap:=c102,es:=x.es.take n,s:=min x.s n,lo:=w16.heap.size,hi:=w17.heap.size,high:=min (max x.high (max y.high (min (cY isr (kn.set r ((min x.s n:Nat):Int)) 400) (y.es.length:Nat)))) (n:Nat)}))[r]? =some ({x with A:=A102,cap:=c102,es:=x.es.take n,s:=min x.s n,lo:=w16.heap.size,hi:=w17.heap.size,high:=min (max x.high (max y.high (min (cY isr (kn.set r ((min x.s n:Nat):Int)) 400) (y.es.length:Nat)))) (n:Nat)}):=al (cy hx3).1
 refine U<|W<|Zr<|G (Zw bo H 4 Z Z Z)<|G (Yi Z)<|bA H 3 (#[J (ep),J (ld),.slice (Qd g1) isr.length c1,.slice (Qd g2) kn.length c2,.slice (Qd g3) rs.length c3,J (fw),J (bs)]) bl Z Z Z Z Z N N fun w42 H=>G (Wi Z)<|G (Wi Z)<|U<|Zt ?_
 have hzf:im x.a y.a (max y.high (min (cY isr (kn.set r ((min x.s n:Nat):Int)) 400) (y.es.length:Nat)))=(⟨x.up,x.es.take n,min x.s n,min (max x.high (max y.high (min (cY isr (kn.set r ((min x.s n:Nat):Int)) 400) (y.es.length:Nat)))) (n:Nat)⟩,0):=by unfold im;rw[show dT x.a.es y.a.es=n from hmn,show y.a.es[n]? =none from bX (by show y.es.length<=n;omega)];rfl
 have hS:=qh (p:=(Pa.a ⟨ep,ld,isr,iA,iC,kn,kA,kC,reps,rA,rC,fw,bs⟩)) hxa hld hrl1 (show x.a.up=true from h46) (Hn hma hy)
 rw[show dT x.a.es y.a.es=n from hmn]at hS
 change gx (Pa.a ⟨ep,ld,isr,iA,iC,kn,kA,kC,reps,rA,rC,fw,bs⟩) r=({(Pa.a ⟨ep,ld,isr,iA,iC,kn,kA,kC,reps,rA,rC,fw,bs⟩)with known:=(kn.set r ((min x.s n:Nat):Int)),reps:=((reps.map gm.a).set l {y.a with high:=(max y.high (min (cY isr (kn.set r ((min x.s n:Nat):Int)) 400) (y.es.length:Nat)))}).set r (im x.a y.a (max y.high (min (cY isr (kn.set r ((min x.s n:Nat):Int)) 400) (y.es.length:Nat)))).1},(im x.a y.a (max y.high (min (cY isr (kn.set r ((min x.s n:Nat):Int)) 400) (y.es.length:Nat)))).2,0)at hS
 rw[hS,hzf]
 have hlg9:=hlg3.same r (x':={x with A:=A102,cap:=c102,es:=x.es.take n,s:=min x.s n,lo:=w16.heap.size,hi:=w17.heap.size,high:=min (max x.high (max y.high (min (cY isr (kn.set r ((min x.s n:Nat):Int)) 400) (y.es.length:Nat)))) (n:Nat)}) hx3 Z Z Z Z Z
 exact gM (cs0:= #[J (ep),J (ld),.slice (Qd g1) isr.length c1,.slice (Qd g2) kn.length c2,.slice (Qd g3) rs.length c3,J (fw),J (bs)]) (v1:=J 0) (v2:=J 0) Z bo Z (H.ent (i:=3) Z) Z Z Z ⟨_,by simp[Pa.c],by simp only[Pa.a,cU,hma,gm.a,fR,BW _ _ hrl2],(iJ.mk_ (p:=⟨ep,ld,isr,some ⟨g1,0,none⟩,c1,(kn.set r ((min x.s n:Nat):Int)),some ⟨g2,0,none⟩,c2,_,some ⟨g3,0,none⟩,c3,fw,bs⟩) Z Z Z row1 row22 row39 hlg9 (by dsimp only;first|omega|(simp only[ae,bW];omega)) H ⟨by simp,by simp,by simp⟩)⟩
 refine G (ee Z)<|U<|ZT Z<|W<|Zr<|G (bC (cs:= #[J (0),J (0),.slice none 0 0,.slice none 0 0,.slice none 0 0,J (0),J (0)]) dz bR N)<|bA H 3 (#[J (0),J (0),.slice none 0 0,.slice none 0 0,.slice none 0 0,J (0),J (0)]) bl Z Z Z Z Z N N fun w43 H=>G (Wi Z)<|G (Wi Z)<|U<|Zt ?_
 have hS:gx (Pa.a ⟨ep,ld,isr,iA,iC,kn,kA,kC,reps,rA,rC,fw,bs⟩) r=(mp,0,7):=by simp[gx,Pa.a,hxa,gm.a,show¬ (ld<0∨ld=(r:Int)) by omega,h46]
 rw[hS]
 exact gM (cs0:= #[J 0,J 0,.slice none 0 0,.slice none 0 0,.slice none 0 0,J 0,J 0]) (v1:=J 0) (v2:=J 7) Z bo Z (H.ent (i:=3) Z) Z Z Z ⟨Jg,rfl,rfl,iJ.zero H.below⟩
abbrev l7 (n few b25 b27 b29:Nat):Array Value:= #[J 0,J (-1),.slice (Qd b25) n n,.slice (Qd b27) n n,.slice (Qd b29) n n,J ((few:Nat):Int),J 0]
theorem f4:(aa.info? j6).map (fun i=>(i.zero,i.size,i.bytes))=some (some (.bool false),1,1):=by kernel_rfl
theorem ib:(aa.info? g7).map (fun i=>(i.zero,i.size,i.bytes))=some (some (.agg #[.bool false,.slice none 0 0,J 0,J 0]),4,48):=by kernel_rfl
theorem LH {α:Type} {l:List α} {n:Nat} {a:α} (hl:l.length=n) (h: ∀ j,j<n->l[j]? =some a):l=aq n a:=by
 rw[List.eq_replicate_iff]
 refine⟨hl,fun b hb=> ?_⟩
 obtain⟨j,hj⟩:=aN.1 hb
 have:=h j (by have:=(cy hj).1;omega)
 rw[hj]at this
 exact aY this
def mQ (n few:Nat):f3:=⟨0,-1,aq n true,aq n 0,aq n ⟨true,[],0,0⟩,few,0⟩
theorem NW (n few:Nat) (w:World) (hn:1<=n) (hn5:n<=5) (hf:1<=few) (hfn:few<=n):dt aa HB [J (n:Nat),J (few:Nat)] w fun v w2=> ∃ p':Pa,v=.tuple #[p'.v,J 0]/\p'.a=mQ n few/\iJ w w2 p':=by
 refine aG F7 Z Z ?_
 have H:=Hp.start w
 refine W<|Zr<|fc H bR Z fun w1 b4 H=>G (Wi Z)<|U<|W<|W<|Zr<|G (Yi Z)<|G (dp Z Z I)<|G (Yb Z)<|ZG<|G (Yi Z)<|ZG<|G (eB Z Z I)<|G (N Z Z)<|G (Yb Z)<|ZG<|G (Yi Z)<|ZG<|G (dp Z Z I)<|G (N Z Z)<|G (Yb Z)<|ZG<|G (Yi Z)<|ZG<|G (Yi Z)<|ZG<|G (eB Z Z I)<|G (N Z Z)<|U<|ZF Z<|Zk<|W ?_
 refine ft (τ:=Nat×Nat×Nat×Nat) [6,24,25,26,27,28,29,30,31] (fun(b6,_)=>[(6,.pointer (Qd b6))]) (fun(b6,b25,b27,b29) w'=> ∃ v1 v2 v3,d7 fI (aq n false) n v1/\d7 bS (aq n 0) n v2/\d7 jr (aq n ⟨false,none,0,[],0,0,w.heap.size,w.heap.size⟩) n v3/\Hp w w' [(b6,.cells #[J 0,J (-1),.slice (Qd b25) n n,.slice (Qd b27) n n,.slice (Qd b29) n n,J ((few:Nat):Int),J 0] bI (0,0)),(b25,.cells v1 j6 (0,0)),(b27,.cells v2 dg (0,0)),(b29,.cells v3 g7 (0,0)),(b4,.cells #[J 0,J 0,.slice none 0 0,.slice none 0 0,.slice none 0 0,J 0,J 0] bI (0,0))] []) ?_ ?_
 ·skip
  refine rz cD [0,2,4,6] [1,3,5,7,8,9] [0,2,4,6] 6 N N N Nq ?_
  refine aw Z Z Z Z Z (fun w' hw'=>Yi Z)<|aw Z Z Z Z Z (fun w' hw'=>Yi Z)<|aw Z Z Z Z Z (fun w' hw'=>Yi Z)<|aw Z Z Z Z Z (fun w' hw'=>Yi Z)<|aU ?_
  intro w2 hw';replace H:=H.later hw';clear hw'
  refine Rl 1 3 5 8 N Z Z Z Z ?_ ?_ ?_ ?_
  ·
   refine pH (Y:=fI) (false) n H fg f4 Z Z Z I I Z fun w3 b25 cur25 row25 H=>U ?_
   refine QN 3 5 8 N Z Z Z ?_ ?_ ?_
   ·
    refine pH (Y:=bS) (0) n H bj gJ Z Z Z I I Z fun w4 b27 cur27 row27 H=>U ?_
    refine uj 5 8 N Z Z ?_ ?_
    ·
     refine pH (Y:=jr) (⟨false,none,0,[],0,0,w.heap.size,w.heap.size⟩) n H bM ib Z Z Z I I Z fun w5 b29 cur29 row29 H=>U ?_
     refine uj 7 8 N Z Z ?_ ?_
     ·
      refine G (bC (cs:=(l7 n few b25 b27 b29)) dz bR N)<|U<|df 8 N Z<|fc H bR Z fun w6 b6 H=>U<|df 9 N Z<|bA H 0 (l7 n few b25 b27 b29) bl Z Z Z Z Z N N fun w7 H=>U<|cj N ?_
      exact⟨(b6,b25,b27,b29),⟨_,_,_,row25,row27,row29,H.perm ((ah _ (ah _ (ak _ _ _))).trans ((ah _ (ak _ _ _)).trans (ah _ (ah _ (ak _ _ _)))))⟩,dR Z,Qg⟩
     ·
      refine fc H bR Z fun w8 b6 H=>U<|df 7 N Z<|G (bC (cs:=(l7 n few b25 b27 b29)) dz bR N)<|U<|df 9 N Z<|bA H 0 (l7 n few b25 b27 b29) bl Z Z Z Z Z N N fun w9 H=>U<|cj N ?_
      exact⟨(b6,b25,b27,b29),⟨_,_,_,row25,row27,row29,H.perm ((ah _ (ah _ (ak _ _ _))).trans ((ah _ (ak _ _ _)).trans (ah _ (ah _ (ak _ _ _)))))⟩,dR Z,Qg⟩
    ·
     refine fc H bR Z fun w10 b6 H=>U<|df 5 N Z<|pH (Y:=jr) (⟨false,none,0,[],0,0,w.heap.size,w.heap.size⟩) n H bM ib Z Z Z I I Z fun w11 b29 cur29 row29 H=>U<|df 7 N Z<|G (bC (cs:=(l7 n few b25 b27 b29)) dz bR N)<|U<|df 9 N Z<|bA H 1 (l7 n few b25 b27 b29) bl Z Z Z Z Z N N fun w12 H=>U<|cj N ?_
     exact⟨(b6,b25,b27,b29),⟨_,_,_,row25,row27,row29,H.perm ((ah _ (ah _ (ak _ _ _))).trans ((ah _ (ak _ _ _)).trans ((ak _ _ _).trans (ah _ (ah _ (ak _ _ _))))))⟩,dR Z,Qg⟩
   ·
    refine pH (Y:=jr) (⟨false,none,0,[],0,0,w.heap.size,w.heap.size⟩) n H bM ib Z Z Z I I Z fun w13 b29 cur29 row29 H=>U ?_
    refine uj 3 8 N Z Z ?_ ?_
    ·
     refine pH (Y:=bS) (0) n H bj gJ Z Z Z I I Z fun w14 b27 cur27 row27 H=>U ?_
     refine uj 7 8 N Z Z ?_ ?_
     ·
      refine G (bC (cs:=(l7 n few b25 b27 b29)) dz bR N)<|U<|df 8 N Z<|fc H bR Z fun w15 b6 H=>U<|df 9 N Z<|bA H 0 (l7 n few b25 b27 b29) bl Z Z Z Z Z N N fun w16 H=>U<|cj N ?_
      exact⟨(b6,b25,b27,b29),⟨_,_,_,row25,row27,row29,H.perm ((ah _ (ak _ _ _)).trans (ah _ (ah _ (ak _ _ _))))⟩,dR Z,Qg⟩
     ·
      refine fc H bR Z fun w17 b6 H=>U<|df 7 N Z<|G (bC (cs:=(l7 n few b25 b27 b29)) dz bR N)<|U<|df 9 N Z<|bA H 0 (l7 n few b25 b27 b29) bl Z Z Z Z Z N N fun w18 H=>U<|cj N ?_
      exact⟨(b6,b25,b27,b29),⟨_,_,_,row25,row27,row29,H.perm ((ah _ (ak _ _ _)).trans (ah _ (ah _ (ak _ _ _))))⟩,dR Z,Qg⟩
    ·
     refine fc H bR Z fun w19 b6 H=>U<|df 3 N Z<|pH (Y:=bS) (0) n H bj gJ Z Z Z I I Z fun w20 b27 cur27 row27 H=>U<|df 7 N Z<|G (bC (cs:=(l7 n few b25 b27 b29)) dz bR N)<|U<|df 9 N Z<|bA H 1 (l7 n few b25 b27 b29) bl Z Z Z Z Z N N fun w21 H=>U<|cj N ?_
     exact⟨(b6,b25,b27,b29),⟨_,_,_,row25,row27,row29,H.perm ((ah _ (ak _ _ _)).trans ((ak _ _ _).trans (ah _ (ah _ (ak _ _ _)))))⟩,dR Z,Qg⟩
   ·
    refine fc H bR Z fun w22 b6 H=>U ?_
    refine uj 3 5 N Z Z ?_ ?_
    ·
     refine pH (Y:=bS) (0) n H bj gJ Z Z Z I I Z fun w23 b27 cur27 row27 H=>U<|df 5 N Z<|pH (Y:=jr) (⟨false,none,0,[],0,0,w.heap.size,w.heap.size⟩) n H bM ib Z Z Z I I Z fun w24 b29 cur29 row29 H=>U<|df 7 N Z<|G (bC (cs:=(l7 n few b25 b27 b29)) dz bR N)<|U<|df 9 N Z<|bA H 2 (l7 n few b25 b27 b29) bl Z Z Z Z Z N N fun w25 H=>U<|cj N ?_
     exact⟨(b6,b25,b27,b29),⟨_,_,_,row25,row27,row29,H.perm ((ah _ (ah _ (ak _ _ _))).trans ((ah _ (ak _ _ _)).trans ((ak _ _ _).trans ((ah _ (ah _ (ak _ _ _))).trans (ah _ (ak _ _ _))))))⟩,dR Z,Qg⟩
    ·
     refine pH (Y:=jr) (⟨false,none,0,[],0,0,w.heap.size,w.heap.size⟩) n H bM ib Z Z Z I I Z fun w26 b29 cur29 row29 H=>U<|df 3 N Z<|pH (Y:=bS) (0) n H bj gJ Z Z Z I I Z fun w27 b27 cur27 row27 H=>U<|df 7 N Z<|G (bC (cs:=(l7 n few b25 b27 b29)) dz bR N)<|U<|df 9 N Z<|bA H 2 (l7 n few b25 b27 b29) bl Z Z Z Z Z N N fun w28 H=>U<|cj N ?_
     exact⟨(b6,b25,b27,b29),⟨_,_,_,row25,row27,row29,H.perm ((ah _ (ak _ _ _)).trans ((ak _ _ _).trans ((ah _ (ah _ (ak _ _ _))).trans (ah _ (ak _ _ _)))))⟩,dR Z,Qg⟩
  ·
   refine pH (Y:=bS) (0) n H bj gJ Z Z Z I I Z fun w29 b27 cur27 row27 H=>U ?_
   refine QN 1 5 8 N Z Z Z ?_ ?_ ?_
   ·
    refine pH (Y:=fI) (false) n H fg f4 Z Z Z I I Z fun w30 b25 cur25 row25 H=>U ?_
    refine uj 5 8 N Z Z ?_ ?_
    ·
     refine pH (Y:=jr) (⟨false,none,0,[],0,0,w.heap.size,w.heap.size⟩) n H bM ib Z Z Z I I Z fun w31 b29 cur29 row29 H=>U ?_
     refine uj 7 8 N Z Z ?_ ?_
     ·
      refine G (bC (cs:=(l7 n few b25 b27 b29)) dz bR N)<|U<|df 8 N Z<|fc H bR Z fun w32 b6 H=>U<|df 9 N Z<|bA H 0 (l7 n few b25 b27 b29) bl Z Z Z Z Z N N fun w33 H=>U<|cj N ?_
      exact⟨(b6,b25,b27,b29),⟨_,_,_,row25,row27,row29,H.perm ((ah _ (ah _ (ak _ _ _))).trans (ah _ (ak _ _ _)))⟩,dR Z,Qg⟩
     ·
      refine fc H bR Z fun w34 b6 H=>U<|df 7 N Z<|G (bC (cs:=(l7 n few b25 b27 b29)) dz bR N)<|U<|df 9 N Z<|bA H 0 (l7 n few b25 b27 b29) bl Z Z Z Z Z N N fun w35 H=>U<|cj N ?_
      exact⟨(b6,b25,b27,b29),⟨_,_,_,row25,row27,row29,H.perm ((ah _ (ah _ (ak _ _ _))).trans (ah _ (ak _ _ _)))⟩,dR Z,Qg⟩
    ·
     refine fc H bR Z fun w36 b6 H=>U<|df 5 N Z<|pH (Y:=jr) (⟨false,none,0,[],0,0,w.heap.size,w.heap.size⟩) n H bM ib Z Z Z I I Z fun w37 b29 cur29 row29 H=>U<|df 7 N Z<|G (bC (cs:=(l7 n few b25 b27 b29)) dz bR N)<|U<|df 9 N Z<|bA H 1 (l7 n few b25 b27 b29) bl Z Z Z Z Z N N fun w38 H=>U<|cj N ?_
     exact⟨(b6,b25,b27,b29),⟨_,_,_,row25,row27,row29,H.perm ((ah _ (ah _ (ak _ _ _))).trans ((ah _ (ak _ _ _)).trans (ak _ _ _)))⟩,dR Z,Qg⟩
   ·
    refine pH (Y:=jr) (⟨false,none,0,[],0,0,w.heap.size,w.heap.size⟩) n H bM ib Z Z Z I I Z fun w39 b29 cur29 row29 H=>U ?_
    refine uj 1 8 N Z Z ?_ ?_
    ·
     refine pH (Y:=fI) (false) n H fg f4 Z Z Z I I Z fun w40 b25 cur25 row25 H=>U ?_
     refine uj 7 8 N Z Z ?_ ?_
     ·
      refine G (bC (cs:=(l7 n few b25 b27 b29)) dz bR N)<|U<|df 8 N Z<|fc H bR Z fun w41 b6 H=>U<|df 9 N Z<|bA H 0 (l7 n few b25 b27 b29) bl Z Z Z Z Z N N fun w42 H=>U<|cj N ?_
      exact⟨(b6,b25,b27,b29),⟨_,_,_,row25,row27,row29,H.perm (ah _ (ah _ (ak _ _ _)))⟩,dR Z,Qg⟩
     ·
      refine fc H bR Z fun w43 b6 H=>U<|df 7 N Z<|G (bC (cs:=(l7 n few b25 b27 b29)) dz bR N)<|U<|df 9 N Z<|bA H 0 (l7 n few b25 b27 b29) bl Z Z Z Z Z N N fun w44 H=>U<|cj N ?_
      exact⟨(b6,b25,b27,b29),⟨_,_,_,row25,row27,row29,H.perm (ah _ (ah _ (ak _ _ _)))⟩,dR Z,Qg⟩
    ·
     refine fc H bR Z fun w45 b6 H=>U<|df 1 N Z<|pH (Y:=fI) (false) n H fg f4 Z Z Z I I Z fun w46 b25 cur25 row25 H=>U<|df 7 N Z<|G (bC (cs:=(l7 n few b25 b27 b29)) dz bR N)<|U<|df 9 N Z<|bA H 1 (l7 n few b25 b27 b29) bl Z Z Z Z Z N N fun w47 H=>U<|cj N ?_
     exact⟨(b6,b25,b27,b29),⟨_,_,_,row25,row27,row29,H.perm ((ak _ _ _).trans (ah _ (ah _ (ak _ _ _))))⟩,dR Z,Qg⟩
   ·
    refine fc H bR Z fun w48 b6 H=>U ?_
    refine uj 1 5 N Z Z ?_ ?_
    ·
     refine pH (Y:=fI) (false) n H fg f4 Z Z Z I I Z fun w49 b25 cur25 row25 H=>U<|df 5 N Z<|pH (Y:=jr) (⟨false,none,0,[],0,0,w.heap.size,w.heap.size⟩) n H bM ib Z Z Z I I Z fun w50 b29 cur29 row29 H=>U<|df 7 N Z<|G (bC (cs:=(l7 n few b25 b27 b29)) dz bR N)<|U<|df 9 N Z<|bA H 2 (l7 n few b25 b27 b29) bl Z Z Z Z Z N N fun w51 H=>U<|cj N ?_
     exact⟨(b6,b25,b27,b29),⟨_,_,_,row25,row27,row29,H.perm ((ah _ (ah _ (ak _ _ _))).trans ((ah _ (ak _ _ _)).trans ((ak _ _ _).trans (ah _ (ak _ _ _)))))⟩,dR Z,Qg⟩
    ·
     refine pH (Y:=jr) (⟨false,none,0,[],0,0,w.heap.size,w.heap.size⟩) n H bM ib Z Z Z I I Z fun w52 b29 cur29 row29 H=>U<|df 1 N Z<|pH (Y:=fI) (false) n H fg f4 Z Z Z I I Z fun w53 b25 cur25 row25 H=>U<|df 7 N Z<|G (bC (cs:=(l7 n few b25 b27 b29)) dz bR N)<|U<|df 9 N Z<|bA H 2 (l7 n few b25 b27 b29) bl Z Z Z Z Z N N fun w54 H=>U<|cj N ?_
     exact⟨(b6,b25,b27,b29),⟨_,_,_,row25,row27,row29,H.perm ((ak _ _ _).trans ((ah _ (ah _ (ak _ _ _))).trans (ah _ (ak _ _ _))))⟩,dR Z,Qg⟩
  ·
   refine pH (Y:=jr) (⟨false,none,0,[],0,0,w.heap.size,w.heap.size⟩) n H bM ib Z Z Z I I Z fun w55 b29 cur29 row29 H=>U ?_
   refine QN 1 3 8 N Z Z Z ?_ ?_ ?_
   ·
    refine pH (Y:=fI) (false) n H fg f4 Z Z Z I I Z fun w56 b25 cur25 row25 H=>U ?_
    refine uj 3 8 N Z Z ?_ ?_
    ·
     refine pH (Y:=bS) (0) n H bj gJ Z Z Z I I Z fun w57 b27 cur27 row27 H=>U ?_
     refine uj 7 8 N Z Z ?_ ?_
     ·
      refine G (bC (cs:=(l7 n few b25 b27 b29)) dz bR N)<|U<|df 8 N Z<|fc H bR Z fun w58 b6 H=>U<|df 9 N Z<|bA H 0 (l7 n few b25 b27 b29) bl Z Z Z Z Z N N fun w59 H=>U<|cj N ?_
      exact⟨(b6,b25,b27,b29),⟨_,_,_,row25,row27,row29,H.perm (ah _ (ak _ _ _))⟩,dR Z,Qg⟩
     ·
      refine fc H bR Z fun w60 b6 H=>U<|df 7 N Z<|G (bC (cs:=(l7 n few b25 b27 b29)) dz bR N)<|U<|df 9 N Z<|bA H 0 (l7 n few b25 b27 b29) bl Z Z Z Z Z N N fun w61 H=>U<|cj N ?_
      exact⟨(b6,b25,b27,b29),⟨_,_,_,row25,row27,row29,H.perm (ah _ (ak _ _ _))⟩,dR Z,Qg⟩
    ·
     refine fc H bR Z fun w62 b6 H=>U<|df 3 N Z<|pH (Y:=bS) (0) n H bj gJ Z Z Z I I Z fun w63 b27 cur27 row27 H=>U<|df 7 N Z<|G (bC (cs:=(l7 n few b25 b27 b29)) dz bR N)<|U<|df 9 N Z<|bA H 1 (l7 n few b25 b27 b29) bl Z Z Z Z Z N N fun w64 H=>U<|cj N ?_
     exact⟨(b6,b25,b27,b29),⟨_,_,_,row25,row27,row29,H.perm ((ah _ (ak _ _ _)).trans (ak _ _ _))⟩,dR Z,Qg⟩
   ·
    refine pH (Y:=bS) (0) n H bj gJ Z Z Z I I Z fun w65 b27 cur27 row27 H=>U ?_
    refine uj 1 8 N Z Z ?_ ?_
    ·
     refine pH (Y:=fI) (false) n H fg f4 Z Z Z I I Z fun w66 b25 cur25 row25 H=>U ?_
     refine uj 7 8 N Z Z ?_ ?_
     ·
      refine G (bC (cs:=(l7 n few b25 b27 b29)) dz bR N)<|U<|df 8 N Z<|fc H bR Z fun w67 b6 H=>U<|df 9 N Z<|bA H 0 (l7 n few b25 b27 b29) bl Z Z Z Z Z N N fun w68 H=>U<|cj N ?_
      exact⟨(b6,b25,b27,b29),⟨_,_,_,row25,row27,row29,H.perm (List.Perm.refl _)⟩,dR Z,Qg⟩
     ·
      refine fc H bR Z fun w69 b6 H=>U<|df 7 N Z<|G (bC (cs:=(l7 n few b25 b27 b29)) dz bR N)<|U<|df 9 N Z<|bA H 0 (l7 n few b25 b27 b29) bl Z Z Z Z Z N N fun w70 H=>U<|cj N ?_
      exact⟨(b6,b25,b27,b29),⟨_,_,_,row25,row27,row29,H.perm (List.Perm.refl _)⟩,dR Z,Qg⟩
    ·
     refine fc H bR Z fun w71 b6 H=>U<|df 1 N Z<|pH (Y:=fI) (false) n H fg f4 Z Z Z I I Z fun w72 b25 cur25 row25 H=>U<|df 7 N Z<|G (bC (cs:=(l7 n few b25 b27 b29)) dz bR N)<|U<|df 9 N Z<|bA H 1 (l7 n few b25 b27 b29) bl Z Z Z Z Z N N fun w73 H=>U<|cj N ?_
     exact⟨(b6,b25,b27,b29),⟨_,_,_,row25,row27,row29,H.perm (ak _ _ _)⟩,dR Z,Qg⟩
   ·
    refine fc H bR Z fun w74 b6 H=>U ?_
    refine uj 1 3 N Z Z ?_ ?_
    ·
     refine pH (Y:=fI) (false) n H fg f4 Z Z Z I I Z fun w75 b25 cur25 row25 H=>U<|df 3 N Z<|pH (Y:=bS) (0) n H bj gJ Z Z Z I I Z fun w76 b27 cur27 row27 H=>U<|df 7 N Z<|G (bC (cs:=(l7 n few b25 b27 b29)) dz bR N)<|U<|df 9 N Z<|bA H 2 (l7 n few b25 b27 b29) bl Z Z Z Z Z N N fun w77 H=>U<|cj N ?_
     exact⟨(b6,b25,b27,b29),⟨_,_,_,row25,row27,row29,H.perm ((ah _ (ak _ _ _)).trans ((ak _ _ _).trans (ah _ (ak _ _ _))))⟩,dR Z,Qg⟩
    ·
     refine pH (Y:=bS) (0) n H bj gJ Z Z Z I I Z fun w78 b27 cur27 row27 H=>U<|df 1 N Z<|pH (Y:=fI) (false) n H fg f4 Z Z Z I I Z fun w79 b25 cur25 row25 H=>U<|df 7 N Z<|G (bC (cs:=(l7 n few b25 b27 b29)) dz bR N)<|U<|df 9 N Z<|bA H 2 (l7 n few b25 b27 b29) bl Z Z Z Z Z N N fun w80 H=>U<|cj N ?_
     exact⟨(b6,b25,b27,b29),⟨_,_,_,row25,row27,row29,H.perm ((ak _ _ _).trans (ah _ (ak _ _ _)))⟩,dR Z,Qg⟩
  ·
   refine fc H bR Z fun w81 b6 H=>U ?_
   refine QN 1 3 5 N Z Z Z ?_ ?_ ?_
   ·
    refine pH (Y:=fI) (false) n H fg f4 Z Z Z I I Z fun w82 b25 cur25 row25 H=>U ?_
    refine uj 3 5 N Z Z ?_ ?_
    ·
     refine pH (Y:=bS) (0) n H bj gJ Z Z Z I I Z fun w83 b27 cur27 row27 H=>U<|df 5 N Z<|pH (Y:=jr) (⟨false,none,0,[],0,0,w.heap.size,w.heap.size⟩) n H bM ib Z Z Z I I Z fun w84 b29 cur29 row29 H=>U<|df 7 N Z<|G (bC (cs:=(l7 n few b25 b27 b29)) dz bR N)<|U<|df 9 N Z<|bA H 3 (l7 n few b25 b27 b29) bl Z Z Z Z Z N N fun w85 H=>U<|cj N ?_
     exact⟨(b6,b25,b27,b29),⟨_,_,_,row25,row27,row29,H.perm ((ah _ (ah _ (ak _ _ _))).trans ((ah _ (ak _ _ _)).trans ((ak _ _ _).trans ((ah _ (ah _ (ak _ _ _))).trans ((ah _ (ak _ _ _)).trans (ah _ (ah _ (ak _ _ _))))))))⟩,dR Z,Qg⟩
    ·
     refine pH (Y:=jr) (⟨false,none,0,[],0,0,w.heap.size,w.heap.size⟩) n H bM ib Z Z Z I I Z fun w86 b29 cur29 row29 H=>U<|df 3 N Z<|pH (Y:=bS) (0) n H bj gJ Z Z Z I I Z fun w87 b27 cur27 row27 H=>U<|df 7 N Z<|G (bC (cs:=(l7 n few b25 b27 b29)) dz bR N)<|U<|df 9 N Z<|bA H 3 (l7 n few b25 b27 b29) bl Z Z Z Z Z N N fun w88 H=>U<|cj N ?_
     exact⟨(b6,b25,b27,b29),⟨_,_,_,row25,row27,row29,H.perm ((ah _ (ak _ _ _)).trans ((ak _ _ _).trans ((ah _ (ah _ (ak _ _ _))).trans ((ah _ (ak _ _ _)).trans (ah _ (ah _ (ak _ _ _)))))))⟩,dR Z,Qg⟩
   ·
    refine pH (Y:=bS) (0) n H bj gJ Z Z Z I I Z fun w89 b27 cur27 row27 H=>U ?_
    refine uj 1 5 N Z Z ?_ ?_
    ·
     refine pH (Y:=fI) (false) n H fg f4 Z Z Z I I Z fun w90 b25 cur25 row25 H=>U<|df 5 N Z<|pH (Y:=jr) (⟨false,none,0,[],0,0,w.heap.size,w.heap.size⟩) n H bM ib Z Z Z I I Z fun w91 b29 cur29 row29 H=>U<|df 7 N Z<|G (bC (cs:=(l7 n few b25 b27 b29)) dz bR N)<|U<|df 9 N Z<|bA H 3 (l7 n few b25 b27 b29) bl Z Z Z Z Z N N fun w92 H=>U<|cj N ?_
     exact⟨(b6,b25,b27,b29),⟨_,_,_,row25,row27,row29,H.perm ((ah _ (ah _ (ak _ _ _))).trans ((ah _ (ak _ _ _)).trans ((ak _ _ _).trans ((ah _ (ak _ _ _)).trans (ah _ (ah _ (ak _ _ _)))))))⟩,dR Z,Qg⟩
    ·
     refine pH (Y:=jr) (⟨false,none,0,[],0,0,w.heap.size,w.heap.size⟩) n H bM ib Z Z Z I I Z fun w93 b29 cur29 row29 H=>U<|df 1 N Z<|pH (Y:=fI) (false) n H fg f4 Z Z Z I I Z fun w94 b25 cur25 row25 H=>U<|df 7 N Z<|G (bC (cs:=(l7 n few b25 b27 b29)) dz bR N)<|U<|df 9 N Z<|bA H 3 (l7 n few b25 b27 b29) bl Z Z Z Z Z N N fun w95 H=>U<|cj N ?_
     exact⟨(b6,b25,b27,b29),⟨_,_,_,row25,row27,row29,H.perm ((ak _ _ _).trans ((ah _ (ah _ (ak _ _ _))).trans ((ah _ (ak _ _ _)).trans (ah _ (ah _ (ak _ _ _))))))⟩,dR Z,Qg⟩
   ·
    refine pH (Y:=jr) (⟨false,none,0,[],0,0,w.heap.size,w.heap.size⟩) n H bM ib Z Z Z I I Z fun w96 b29 cur29 row29 H=>U ?_
    refine uj 1 3 N Z Z ?_ ?_
    ·
     refine pH (Y:=fI) (false) n H fg f4 Z Z Z I I Z fun w97 b25 cur25 row25 H=>U<|df 3 N Z<|pH (Y:=bS) (0) n H bj gJ Z Z Z I I Z fun w98 b27 cur27 row27 H=>U<|df 7 N Z<|G (bC (cs:=(l7 n few b25 b27 b29)) dz bR N)<|U<|df 9 N Z<|bA H 3 (l7 n few b25 b27 b29) bl Z Z Z Z Z N N fun w99 H=>U<|cj N ?_
     exact⟨(b6,b25,b27,b29),⟨_,_,_,row25,row27,row29,H.perm ((ah _ (ak _ _ _)).trans ((ak _ _ _).trans ((ah _ (ak _ _ _)).trans (ah _ (ah _ (ak _ _ _))))))⟩,dR Z,Qg⟩
    ·
     refine pH (Y:=bS) (0) n H bj gJ Z Z Z I I Z fun w100 b27 cur27 row27 H=>U<|df 1 N Z<|pH (Y:=fI) (false) n H fg f4 Z Z Z I I Z fun w101 b25 cur25 row25 H=>U<|df 7 N Z<|G (bC (cs:=(l7 n few b25 b27 b29)) dz bR N)<|U<|df 9 N Z<|bA H 3 (l7 n few b25 b27 b29) bl Z Z Z Z Z N N fun w102 H=>U<|cj N ?_
     exact⟨(b6,b25,b27,b29),⟨_,_,_,row25,row27,row29,H.perm ((ak _ _ _).trans ((ah _ (ak _ _ _)).trans (ah _ (ah _ (ak _ _ _)))))⟩,dR Z,Qg⟩
 rintro⟨b6,b25,b27,b29⟩ ρ1 w103 ⟨v1,v2,v3,row25,row27,row29,H⟩
 show CW _ _ _ _ (dK (ia _ _ ρ1) [(6,.pointer (Qd b6))]) w103
 refine W<|W<|Zr<|G (Zf dQ Z)<|G (Zd cJ H 0 Z Z Z)<|G (bh ik Z)<|G (Yi Z)<|U<|Zb ?_
 refine cf (τ:=Nat×List Bool×List gm×Array Value×Array Value) [7,35,36,37,38,39,40,41,42,43,44,45,46,47] (fun(k,_)=>[(35,J (k:Nat))]) (fun(k,il,rl,v1,v3) w'=>k<=n/\il.length=n/\rl.length=n/\(∀ j,j<k->il[j]? =some true)/\(∀ j,j<k->rl[j]? =some ⟨true,none,0,[],0,0,w.heap.size,w.heap.size⟩)/\(∀ j,k<=j->j<n->rl[j]? =some ⟨false,none,0,[],0,0,w.heap.size,w.heap.size⟩)/\d7 fI il n v1/\d7 jr rl n v3/\Hp w w' [(b6,.cells (l7 n few b25 b27 b29) bI (0,0)),(b25,.cells v1 j6 (0,0)),(b27,.cells v2 dg (0,0)),(b29,.cells v3 g7 (0,0)),(b4,.cells #[J (0),J (0),.slice none 0 0,.slice none 0 0,.slice none 0 0,J (0),J (0)] bI (0,0))] []) (fun(k,_)=>n-k) (0,aq n false,aq n ⟨false,none,0,[],0,0,w.heap.size,w.heap.size⟩,v1,v3) ⟨by omega,by simp,by simp,by intro j hj;omega,by intro j hj;omega,by intro j _ hj;rw[fv,if_pos hj],row25,row29,H⟩ (dR Z) ?_
 rintro⟨k,il,rl,v1,v3⟩ ρ1 w104 ⟨hk,hil,hrl,hi1,hr1,hr2,row25,row29,H⟩
 show CW _ _ _ _ (dK (ia _ _ ρ1) [(35,J (k:Nat))]) w104
 refine W<|Zr ?_
 refine du (cO Z Z) Z Z Z (fun h36=> ?_) (fun h36=> ?_)
 ·
  refine U<|W<|ZT Z<|Zk<|W<|Zb<|W ?_
  obtain⟨b,hb⟩: ∃ b,il[k]? =some b:=⟨_,aj I⟩
  have hz:=hr2 k (ao k) I
  refine Zr<|G (Yi Z)<|G (Wi Z)<|U ?_
  refine tC cD (fun w'=>w'.heap[b6]? =some (.cells #[J 0,J (-1),.slice (Qd b25) n n,.slice (Qd b27) n n,.slice (Qd b29) n n,J ((few:Nat):Int),J 0] bI (0,0))) ?_
  intro w105 hw';replace H:=H.later hw';clear hw'
  refine bn 0 N N N Z Z Z Z Nq (H.ent (i:=0) Z) (fun _ hS=>Zf kW Z)<|bn 1 N N N Z Z Z Z Nq (H.ent (i:=0) Z) (fun _ hS=>bi l5 Z (aJ hS Z))<|bn 2 N N N Z Z Z Z Nq (H.ent (i:=0) Z) (fun _ hS=>Yi Z)<|bn 3 N N N Z Z Z Z Nq (H.ent (i:=0) Z) (fun _ hS=>Zf dQ Z)<|bn 4 N N N Z Z Z Z Nq (H.ent (i:=0) Z) (fun _ hS=>bi cJ Z (aJ hS Z))<|bn 5 N N N Z Z Z Z Nq (H.ent (i:=0) Z) (fun _ hS=>Yi Z)<|bn 6 N N N Z Z Z Z Nq (H.ent (i:=0) Z) (fun _ hS=>cR fg Z Z (by first|omega|(simp only[ae];omega)))<|z6 7 N Z<|ni H 1 (true) mL row25 hb 0 Z Z Z Z Z Z N fun w107 cur106 row106 H=> ?_
  have hs108:(il.set k (true))[k]? =some (true):=al (cy hb).1
  refine U ?_
  refine⟨(H.ent (i:=0) Z),?_⟩
  refine bn 8 N N N Z Z Z Z Nq (H.ent (i:=0) Z) (fun _ hS=>cR bM Z Z (by first|omega|(simp only[ae];omega)))<|bn 9 N N N Z Z Z Z Nq (H.ent (i:=0) Z) (fun _ hS=>Zf kV Z)<|z6 10 N Z<|ni H 3 (⟨true,none,0,[],0,0,w.heap.size,w.heap.size⟩) mL row29 hz 0 Z Z Z Z Z Z N fun w110 cur109 row109 H=> ?_
  have hs111:(rl.set k (⟨true,none,0,[],0,0,w.heap.size,w.heap.size⟩))[k]? =some (⟨true,none,0,[],0,0,w.heap.size,w.heap.size⟩):=al (cy hz).1
  refine U ?_
  refine⟨(H.ent (i:=0) Z),?_⟩
  refine rI N<|Zr<|G (bp Z Z I I)<|G (Yi Z)<|U ?_
  refine⟨(k+1,il.set k true,rl.set k ⟨true,none,0,[],0,0,w.heap.size,w.heap.size⟩,cur106,cur109),⟨by omega,by rw[ae];exact hil,by rw[ae];exact hrl,fun j hj=> ?_,fun j hj=> ?_,fun j hj hjn=> ?_,row106,row109,H⟩,dR Z,Qg,by show n- (k+1)<n-k;omega⟩
  ·by_cases hjk:k=j
   ·subst hjk;exact al I
   ·rw[aT hjk];exact hi1 j I
  ·by_cases hjk:k=j
   ·subst hjk;exact al I
   ·rw[aT hjk];exact hr1 j I
  ·rw[aT I];exact hr2 j I hjn
 ·
  have hke:n=k:=by omega
  subst hke
  have hie:=LH hil hi1
  have hre:=LH hrl hr1
  subst hie
  subst hre
  refine U<|W<|ZF Z<|Zx<|W<|Zr<|G (Zw bo H 0 Z Z Z)<|bA H 4 (l7 n few b25 b27 b29) bl Z Z Z Z Z N N fun w112 H=>G (Wi Z)<|U<|Zt ?_
  replace H:=H.learnNil (Y:=dP) w.heap.size H.size none
  exact ch (cs0:= #[J 0,J (-1),.slice (Qd b25) n n,.slice (Qd b27) n n,.slice (Qd b29) n n,J ((few:Nat):Int),J 0]) (v1:=J 0) Z bo Z (H.ent (i:=4) Z) Z Z ⟨⟨0,-1,aq n true,some ⟨b25,0,none⟩,n,aq n 0,some ⟨b27,0,none⟩,n,aq n ⟨true,none,0,[],0,0,w.heap.size,w.heap.size⟩,some ⟨b29,0,none⟩,n,(few:Nat),0⟩,by simp[Pa.c],by simp[Pa.a,mQ,gm.a],iJ.mk_ Z Z Z row25 row27 row29 (F:=[ey dP w.heap.size w.heap.size none []]) (fun r hr=>by rw[cT hr];exact⟨by simp[bG],ao _,d9 _⟩) (by simp;omega) H ⟨by simp,by simp,by simp⟩⟩
theorem Hd (p:Pa) (a m:Int) (w:World) (h:p.rd 0 w.heap.size w) (hok:p.a.ok) (hl:p.leader<0):dt aa uz [p.v,J a,J m] w fun v w2=>v=.tuple #[.slice none 0 0,J 0,J 8]/\Below w.heap.size w w2:=by
 refine aG tv Z Z ?_
 obtain⟨hn1,hn2,hil,hkl,hf1,hf2,he0,he1,hl0,hl1,hb0,hb1,hsm⟩:=Pa.facts hok
 have hkn:=hok.known
 have hiC:=h.iC
 have hkC:=h.kC
 have hrC:=h.rC
 have hfew:=h.few
 have H:=Hp.startPa h
 obtain⟨ep,ld,isr,iA,iC,kn,kA,kC,reps,rA,rC,fw,bs⟩:=p
 simp only[Pa.a]at hkn
 dsimp only at H hn1 hn2 hil hkl hf1 hf2 he0 he1 hl0 hl1 hb0 hb1 hsm hiC hkC hrC hfew
 dsimp only at hl
 show CW _ _ _ _ (args [.agg #[J (ep),J (ld),.slice iA isr.length iC,.slice kA kn.length kC,.slice rA reps.length rC,J (fw),J (bs)],J (a),J (m)]) w
 refine W<|Zr<|gY H Z Z fun w1 b3 H=>G (Ws Z)<|G (Wi Z)<|G (Wi Z)<|U<|W<|W<|Zr<|G (Zw bo H 0 Z Z Z)<|cu lF (sD ⟨ep,ld,isr,iA,iC,kn,kA,kC,reps,rA,rC,fw,bs⟩ _ (Hp.pa H 0 Z) hok) Z Z ?_
 rintro _ w2 ⟨rfl,hb⟩;replace H:=H.later hb;clear hb
 refine G (Wi Z)<|U<|W<|Zr<|G (Yi Z)<|G (cv Z Z Z)<|U<|ZF Z<|Zk<|W<|W<|Zr<|G (Zf eC Z)<|G (Zd am H 0 Z Z Z)<|G (wr Z Z hl)<|U<|ZT Z<|W<|Zr<|G (Ws Z)<|G (Wi Z)<|G (Wi Z)<|U<|Zt ?_
 exact HM Z Z Z Z ⟨rfl,H.below⟩
theorem LS (p:Pa) (a most l:Nat) (r:gm) (w:World) (h:p.rd 0 w.heap.size w) (hok:p.a.ok) (hld:p.leader=l) (hr:p.reps[l]? =some r) (ha:a<=r.es.length) (hm1:1<=most) (hm2:most<=20):dt aa uz [p.v,J (a:Nat),J (most:Nat)] w fun v w2=> ∃ (st:Nat) (out:List ByteArray) (b:Nat) (A':Option Addr) (c':Nat),rN (r.es.take r.high.toNat) st/\xS r.es r.high.toNat st a most out b/\v=.tuple #[.slice A' out.length c',J (b:Nat),J 0]/\Rd mq w.heap.size w2.heap.size A' out w2/\out.length<=c'/\Below w.heap.size w w2:=by
 refine aG tv Z Z ?_
 obtain⟨hn1,hn2,hil,hkl,hf1,hf2,he0,he1,hl0,hl1,hb0,hb1,hsm⟩:=Pa.facts hok
 have hkn:=hok.known
 have hiC:=h.iC
 have hkC:=h.kC
 have hrC:=h.rC
 have hfew:=h.few
 have H:=Hp.startPa h
 obtain⟨ep,ld,isr,iA,iC,kn,kA,kC,reps,rA,rC,fw,bs⟩:=p
 simp only[Pa.a]at hkn
 dsimp only at H hn1 hn2 hil hkl hf1 hf2 he0 he1 hl0 hl1 hb0 hb1 hsm hiC hkC hrC hfew
 dsimp only at hld hr
 have hll:=(cy hr).1
 show CW _ _ _ _ (args [.agg #[J (ep),J (ld),.slice iA isr.length iC,.slice kA kn.length kC,.slice rA reps.length rC,J (fw),J (bs)],J (((a:Nat):Int)),J (((most:Nat):Int))]) w
 refine W<|Zr<|gY H Z Z fun w1 b3 H=>G (Ws Z)<|G (Wi Z)<|G (Wi Z)<|U<|W<|W<|Zr<|G (Zw bo H 0 Z Z Z)<|cu lF (sD ⟨ep,ld,isr,iA,iC,kn,kA,kC,reps,rA,rC,fw,bs⟩ _ (Hp.pa H 0 Z) hok) Z Z ?_
 rintro _ w2 ⟨rfl,hb⟩;replace H:=H.later hb;clear hb
 refine G (Wi Z)<|U<|W<|Zr<|G (Yi Z)<|G (cv Z Z Z)<|U<|ZF Z<|Zk<|W<|W<|Zr<|G (Zf eC Z)<|G (Zd am H 0 Z Z Z)<|G (dp Z Z I)<|U<|ZF Z<|Zk<|W<|Zr<|G (Zf dQ Z)<|G (Zd cJ H 0 Z Z Z)<|G (Zf eC Z)<|G (Zd am H 0 Z Z Z)<|qg (k:=l) H 3 Z bM Z (congrArg (Value.int .i64) hld) I I Z fun bq3 o3 x3 e3=> ?_
 obtain rfl:x3=r:=by have:=e3.at_;rw[hr]at this;exact(aY this).symm
 obtain⟨n,hnn⟩: ∃ n:Nat,x3.high=n:=⟨x3.high.toNat,by have:=(Pa.repOk hok (i:=l) hr).2.1;omega⟩
 refine G (ka (xs:=gm.c x3) pb Z Z e3.cl)<|fc H sv Z fun w4 b10 H=>bA H 0 (#[.bool (x3.up),.slice x3.A ((bG x3.es).length) x3.cap,J (((iS x3.es x3.s:Nat):Int)),J (x3.high)]) ou Z Z Z Z Z N N fun w5 H=>U<|W<|Zr<|G (Zf dU Z)<|G (j9 1 [.slice x3.A ((bG x3.es).length) x3.cap,J (((iS x3.es x3.s:Nat):Int))] fE Z Z (H.ent (i:=0) Z) Z)<|cu gR (iq x3.A x3.cap x3.es x3.s _ (Pa.log (Hp.pa H 0 Z) hok (i:=l) hr)) Z Z ?_
 have hloen:=H.size
 rintro _ w6 ⟨Aen,cen,rfl,hren,hcen,hben⟩;replace H:=H.learnRd hben hren;clear hren hben
 refine G (Yu Z)<|G (Xs Z Z)<|G (Xi Z Z)<|G (Xi Z Z)<|G (Ws Z)<|G (Wi Z)<|G (Wi Z)<|U<|W<|Zr<|G (Ys Z)<|G (Zf eX Z)<|G (Zd am H 0 Z Z Z)<|G (Yi Z)<|G (Yi Z)<|cu xG ((by have hA:=NN x3.es Aen cen n a most _ (H.rd0 0 Z) hcen (by have:=(Pa.repOk hok (i:=l) hr).1.len;omega) (by have:=(Pa.repOk hok (i:=l) hr).2.2;omega) ha hm1 hm2;rw[<-hnn]at hA;exact hA)) Z Z ?_
 have hlo:=H.size
 rintro _ w7 ⟨st,out,b,A9,c9,hs9,hr9,rfl,hrd9,hc9,hb9⟩
 refine G (Xs Z Z)<|G (Xi Z Z)<|G (Xi Z Z)<|G (Ws Z)<|G (Wi Z)<|G (Wi Z)<|U<|Zt ?_
 have hnt:x3.high.toNat=n:=by omega
 rw[hnt]
 exact HM Z Z Z Z ⟨st,out,b,A9,c9,hs9,hr9,rfl,hrd9.mono hlo (ao _),hc9,H.below.trans (hb9.mono hlo)⟩
theorem GL.of {es:List cr} {s:Nat} (hg: ∀ e∈es,ob e) (hl:es.length<=400) (hs:s<=es.length):GL es s:=by
 have:=EH es hg
 exact⟨hg,hl,by omega,hs⟩
def f3.small (m:Nat) (p:f3):Prop:= ∀ r∈p.reps,r.es.length<=m
theorem f3.ok.at_ {p:f3} (h:p.ok) {i:Nat} {x:RA} (hx:p.reps[i]? =some x):x.ok:=h.reps x (ab hx)
theorem IB {p:f3} (h:p.ok) {rs:List RA} (hl:rs.length=p.reps.length) (hr: ∀ r∈rs,r.ok) (hu: ∀ (l:Nat) (r:RA),p.leader=l->rs[l]? =some r->r.up=true):({p with reps:=rs}:f3).ok:=
 ⟨by dsimp only;rw[hl];exact h.n1,by dsimp only;rw[hl];exact h.n2,by dsimp only;rw[hl];exact h.isrl,by dsimp only;rw[hl];exact h.knownl,h.few1,by dsimp only;rw[hl];exact h.few2,h.ep0,h.ep1,h.ld0,by dsimp only;rw[hl];exact h.ld1,h.base0,h.base1,h.some_,
  fun l r h1 h2=>by
   have hlt:=(aE.1 h2).1
   dsimp only at hlt h1 h2
   obtain⟨y,hy⟩: ∃ y,p.reps[l]? =some y:=⟨_,aj I⟩
   exact⟨(h.lead l y h1 hy).1,hu l r h1 h2⟩,hr,h.known⟩
theorem PE {p:f3} (h:p.ok) {i:Nat} {x x':RA} (hx:p.reps[i]? =some x) (hk:x'.ok) (hu:x'.up=x.up):({p with reps:=p.reps.set i x'}:f3).ok:=
 IB h (ae ..) (fun r hr=>by
  rcases aA hr with hr|rfl
  exact h.reps r hr
  exact hk) (fun l r h1 h2=>by
  by_cases hi:i=l
  subst hi
  rw[al (cy hx).1]at h2
  cases h2
  rw[hu];exact(h.lead i x h1 hx).2
  rw[aT hi]at h2
  exact(h.lead l r h1 h2).2)
theorem Fz {p:f3} (h:p.ok) {kn:List Int} (hl:kn.length=p.known.length) (hb: ∀ n∈kn,0<=n/\n<=400):({p with known:=kn}:f3).ok:=
 ⟨h.n1,h.n2,h.isrl,by dsimp only;rw[hl];exact h.knownl,h.few1,h.few2,h.ep0,h.ep1,h.ld0,h.ld1,h.base0,h.base1,h.some_,h.lead,h.reps,hb⟩
theorem D9 {p:f3} (h:p.ok) (r:Nat) {v:Int} (h1:0<=v) (h2:v<=400):({p with known:=p.known.set r v}:f3).ok:=
 Fz h (ae ..) fun n hn=>by
  rcases aA hn with hn|rfl
  exact h.known n hn
  exact⟨h1,h2⟩
theorem N2 {p:f3} (h:p.ok):({p with leader:= -1}:f3).ok:=
 ⟨h.n1,h.n2,h.isrl,h.knownl,h.few1,h.few2,h.ep0,h.ep1,by dsimp only;omega,by have:=h.n1;dsimp only;omega,h.base0,h.base1,h.some_,fun l r h1 h2=>by dsimp only at h1;omega,h.reps,h.known⟩
theorem N3 {p:f3} (h:p.ok) {r:Nat} {x:RA} {b:Int} (hx:p.reps[r]? =some x) (hu:x.up=true) (hi:p.isr[r]? =some true) (he:p.epoch≠1073741824) (hb0:0<=b) (hb1:b<=400):({p with epoch:=p.epoch+1,leader:=r,base:=b}:f3).ok:=
 ⟨h.n1,h.n2,h.isrl,h.knownl,h.few1,h.few2,by have:=h.ep0;dsimp only;omega,by have:=h.ep1;dsimp only;omega,by dsimp only;omega,by have:=(cy hx).1;dsimp only;omega,hb0,hb1,h.some_,fun l y h1 h2=>by
  dsimp only at h1 h2
  have:l=r:=by omega
  subst this
  rw[hx]at h2;cases h2
  exact⟨hi,hu⟩,h.reps,h.known⟩
theorem PF {p:f3} (h:p.ok):(m9 p).ok:=by
 unfold m9
 split
 rename_i x hx
 split
 exact h
 have hk:=h.at_ hx
 have:=hk.high0
 have:=hk.high1
 exact PE h hx ⟨hk.gl,by dsimp only;omega,by dsimp only;omega⟩ Z
 exact h
theorem Ae {p:f3} {r:Nat} (he:(jq p r).2=0): ∃ x,p.reps[r]? =some x/\x.up=true/\(jq p r).1=if p.leader=r then m9 {p with reps:=p.reps.set r {x with s:=x.es.length},known:=p.known.set r x.es.length}else{p with reps:=p.reps.set r {x with s:=x.es.length}}:=by
 unfold jq at he⊢
 cases hx:p.reps[r]? with
 |none=>rw[hx]at he;simp at he
 |some x=>
  rw[hx]at he
  dsimp only at he⊢
  by_cases hu:x.up=false
  rw[if_pos hu]at he;simp at he
  rw[if_neg hu]
  exact⟨x,rfl,by simpa using hu,by split<;>rfl⟩
theorem Dy {p:f3} {r:Nat} (hil:p.isr.length=p.reps.length) (he:(fq p r).2=0): ∃ x,p.reps[r]? =some x/\x.up=true/\p.isr[r]? =some true/\p.leader≠r/\p.epoch≠1073741824/\(fq p r).1=m9 {p with epoch:=p.epoch+1,leader:=r,known:=(aq p.reps.length 0).set r x.s,base:=x.es.length}:=by
 unfold fq at he⊢
 cases hx:p.reps[r]? with
 |none=>rw[hx]at he;simp at he
 |some x=>
  rw[hx]at he
  dsimp only at he⊢
  by_cases hu:x.up=false
  rw[if_pos hu]at he;simp at he
  rw[if_neg hu]at he⊢
  by_cases hi:p.isr[r]? =some false
  rw[if_pos hi]at he;simp at he
  rw[if_neg hi]at he⊢
  by_cases hl:p.leader=r
  rw[if_pos hl]at he;simp at he
  rw[if_neg hl]at he⊢
  by_cases hp:p.epoch=1073741824
  rw[if_pos hp]at he;simp at he
  rw[if_neg hp]
  obtain⟨b,hb⟩: ∃ b,p.isr[r]? =some b:=⟨_,aj (by have:=(cy hx).1;omega)⟩
  refine⟨x,rfl,by simpa using hu,?_,hl,hp,rfl⟩
  rw[hb]at hi⊢
  cases b
  exact absurd Z hi
  rfl
theorem yD {p:f3} {r:Nat} (h:p.ok) (he:(gx p r).2.2=0): ∃ (x y:RA) (l:Nat),p.reps[r]? =some x/\p.leader=l/\r≠l/\x.up=true/\p.reps[l]? =some y:=by
 unfold gx at he
 cases hx:p.reps[r]? with
 |none=>rw[hx]at he;simp at he
 |some x=>
  rw[hx]at he
  dsimp only at he
  by_cases h1:p.leader<0∨p.leader=r
  rw[if_pos h1]at he;simp at he
  rw[if_neg h1]at he
  by_cases hu:x.up=false
  rw[if_pos hu]at he;simp at he
  have h2:=h.ld1
  exact⟨x,p.reps[p.leader.toNat]'(by omega),p.leader.toNat,rfl,by omega,by omega,by simpa using hu,aj I⟩
theorem D5 {p:f3} {e:cr} (he:(eu p e).2.2=0): ∃ (x:RA) (l:Nat),p.leader=l/\p.reps[l]? =some x/\ob {e with epoch:=p.epoch}/\(fo x.es {e with epoch:=p.epoch}).2=0/\
  ((0<=(fo x.es {e with epoch:=p.epoch}).1/\(eu p e).1=p/\(eu p e).2.1=(fo x.es {e with epoch:=p.epoch}).1)∨((fo x.es {e with epoch:=p.epoch}).1<0/\p.few<=GJ p.isr p.reps 0/\(eu p e).1={p with reps:=p.reps.set l {x with es:=x.es++[{e with epoch:=p.epoch}]}}/\(eu p e).2.1=x.es.length)):=by
 unfold eu at he⊢
 by_cases h1:p.leader<0
 rw[if_pos h1]at he;simp at he
 rw[if_neg h1]at he⊢
 cases hx:p.reps[p.leader.toNat]? with
 |none=>rw[hx]at he;simp at he
 |some x=>
  rw[hx]at he
  dsimp only at he⊢
  by_cases h2:eI {e with epoch:=p.epoch}≠0
  rw[if_pos h2]at he;exact absurd he h2
  rw[if_neg h2]at he⊢
  by_cases h3:(fo x.es {e with epoch:=p.epoch}).2≠0
  rw[if_pos h3]at he;exact absurd he h3
  rw[if_neg h3]at he⊢
  refine⟨x,p.leader.toNat,by omega,hx,by unfold ob;simpa using h2,by simpa using h3,?_⟩
  by_cases h4:0<=(fo x.es {e with epoch:=p.epoch}).1
  rw[if_pos h4]
  exact .inl ⟨h4,rfl,rfl⟩
  rw[if_neg h4]at he⊢
  by_cases h5:GJ p.isr p.reps 0<p.few
  rw[if_pos h5]at he;simp at he
  rw[if_neg h5]
  exact .inr ⟨by omega,by omega,rfl,rfl⟩
theorem fL {α:Type} {l:List α} {r:Nat} {x':α} {i:Nat} {y:α} (h:(l.set r x')[i]? =some y):(i=r/\y=x')∨(i≠r/\l[i]? =some y):=by
 by_cases hi:r=i
 subst hi
 have hl:=(aE.1 h).1
 rw[ae]at hl
 rw[al hl]at h
 cases h
 exact .inl ⟨rfl,rfl⟩
 rw[aT hi]at h
 exact .inr ⟨fun h=>hi h.symm,h⟩
structure B3 (K:List cr) (p:f3):Prop where
 ep: ∀ (i:Nat) (x:RA),p.reps[i]? =some x-> ∀ e∈x.es,e.epoch<=p.epoch
 lm: ∀ (i j:Nat) (x y:RA) (n:Nat) (e f:cr),p.reps[i]? =some x->p.reps[j]? =some y->x.es[n]? =some e->y.es[n]? =some f->e.epoch=f.epoch->x.es.take (n+1)=y.es.take (n+1)
 cur: ∀ (l:Nat) (y:RA) (i:Nat) (x:RA) (n:Nat) (e:cr),p.leader=l->p.reps[l]? =some y->p.reps[i]? =some x->x.es[n]? =some e->e.epoch=p.epoch->n<y.es.length
 hi: ∀ (i:Nat) (x:RA),p.reps[i]? =some x->x.high.toNat<=K.length/\x.es.take x.high.toNat=K.take x.high.toNat
 keep: ∀ (i:Nat) (x:RA),p.reps[i]? =some x->p.isr[i]? =some true->K.length<=x.s/\x.es.take K.length=K
 kn: ∀ (l:Nat) (y:RA) (i:Nat) (x:RA) (v:Int),p.leader=l->p.reps[l]? =some y->p.reps[i]? =some x->p.known[i]? =some v->v.toNat<=x.s/\v.toNat<=y.es.length/\x.es.take v.toNat=y.es.take v.toNat
 base: ∀ (l:Nat) (y:RA),p.leader=l->p.reps[l]? =some y->(K.length:Int)<=max p.base y.high
theorem B3.set {K:List cr} {p:f3} (h:B3 K p) {r:Nat} {x x':RA} (hx:p.reps[r]? =some x)
  (c_ep: ∀ e∈x'.es,e.epoch<=p.epoch)
  (c_lm: ∀ (j:Nat) (y:RA) (n:Nat) (e f:cr),j≠r->p.reps[j]? =some y->x'.es[n]? =some e->y.es[n]? =some f->e.epoch=f.epoch->x'.es.take (n+1)=y.es.take (n+1))
  (c_cur1: ∀ (l:Nat) (y:RA) (n:Nat) (e:cr),p.leader=l->l≠r->p.reps[l]? =some y->x'.es[n]? =some e->e.epoch=p.epoch->n<y.es.length)
  (c_cur2:p.leader=r->x.es.length<=x'.es.length)
  (c_hi:x'.high.toNat<=K.length/\x'.es.take x'.high.toNat=K.take x'.high.toNat)
  (c_keep:p.isr[r]? =some true->K.length<=x'.s/\x'.es.take K.length=K)
  (c_kn1: ∀ (l:Nat) (y:RA) (v:Int),p.leader=l->l≠r->p.reps[l]? =some y->p.known[r]? =some v->v.toNat<=x'.s/\v.toNat<=y.es.length/\x'.es.take v.toNat=y.es.take v.toNat)
  (c_kn2:p.leader=r-> ∀ (i:Nat) (z:RA) (v:Int),i≠r->p.reps[i]? =some z->p.known[i]? =some v->v.toNat<=x'.es.length/\z.es.take v.toNat=x'.es.take v.toNat)
  (c_kn3:p.leader=r-> ∀ v:Int,p.known[r]? =some v->v.toNat<=x'.s/\v.toNat<=x'.es.length)
  (c_base:p.leader=r->(K.length:Int)<=max p.base x'.high):B3 K {p with reps:=p.reps.set r x'}:=by
 refine⟨fun i y hy e he=> ?_,fun i j y z n e f hy hz he hf hef=> ?_,fun l y i z n e hl hy hz he hee=> ?_,fun i y hy=> ?_,fun i y hy hi=> ?_,fun l y i z v hl hy hz hv=> ?_,fun l y hl hy=> ?_⟩
 rcases fL hy with⟨rfl,rfl⟩|⟨_,hy2⟩
 exact c_ep e he
 exact h.ep i y hy2 e he
 rcases fL hy with⟨rfl,rfl⟩|⟨hi,hy2⟩
 rcases fL hz with⟨rfl,rfl⟩|⟨hj,hz2⟩
 rfl
 exact c_lm j z n e f hj hz2 he hf hef
 rcases fL hz with⟨rfl,rfl⟩|⟨hj,hz2⟩
 exact(c_lm i y n f e hi hy2 hf he hef.symm).symm
 exact h.lm i j y z n e f hy2 hz2 he hf hef
 rcases fL hy with⟨rfl,rfl⟩|⟨hlr,hy2⟩
 rcases fL hz with⟨rfl,rfl⟩|⟨hir,hz2⟩
 exact(cy he).1
 exact gf (h.cur l x i z n e hl hx hz2 he hee) (c_cur2 hl)
 rcases fL hz with⟨rfl,rfl⟩|⟨hir,hz2⟩
 exact c_cur1 l y n e hl hlr hy2 he hee
 exact h.cur l y i z n e hl hy2 hz2 he hee
 rcases fL hy with⟨rfl,rfl⟩|⟨_,hy2⟩
 exact c_hi
 exact h.hi i y hy2
 rcases fL hy with⟨rfl,rfl⟩|⟨_,hy2⟩
 exact c_keep hi
 exact h.keep i y hy2 hi
 rcases fL hy with⟨rfl,rfl⟩|⟨hlr,hy2⟩
 rcases fL hz with⟨rfl,rfl⟩|⟨hir,hz2⟩
 obtain⟨h1,h2⟩:=c_kn3 hl v hv
 exact⟨h1,h2,rfl⟩
 have h1:=c_kn2 hl i z v hir hz2 hv
 exact⟨(h.kn l x i z v hl hx hz2 hv).1,h1⟩
 rcases fL hz with⟨rfl,rfl⟩|⟨hir,hz2⟩
 exact c_kn1 l y v hl hlr hy2 hv
 exact h.kn l y i z v hl hy2 hz2 hv
 rcases fL hy with⟨rfl,rfl⟩|⟨_,hy2⟩
 exact c_base hl
 exact h.base l y hl hy2
theorem B3.setK {K:List cr} {p:f3} (h:B3 K p) {r:Nat} {w:Int} (hw: ∀ (l:Nat) (y x:RA),p.leader=l->p.reps[l]? =some y->p.reps[r]? =some x->w.toNat<=x.s/\w.toNat<=y.es.length/\x.es.take w.toNat=y.es.take w.toNat):B3 K {p with known:=p.known.set r w}:=
 ⟨h.ep,h.lm,h.cur,h.hi,h.keep,fun l y i x v hl hy hx hv=>by
  rcases fL hv with⟨rfl,rfl⟩|⟨_,hv⟩
  exact hw l y x hl hy hx
  exact h.kn l y i x v hl hy hx hv,h.base⟩
theorem B3.setK0 {K:List cr} {p:f3} (h:B3 K p) (r:Nat):B3 K {p with known:=p.known.set r 0}:=h.setK fun _ _ _ _ _ _=>by simp
theorem B3.none {K:List cr} {p:f3} (h:B3 K p):B3 K {p with leader:= -1}:=
 ⟨h.ep,h.lm,fun l y i x n e hl=>by dsimp only at hl;omega,h.hi,h.keep,fun l y i x v hl=>by dsimp only at hl;omega,fun l y hl=>by dsimp only at hl;omega⟩
theorem B3.rebase {K:List cr} {p:f3} (h:B3 K p) {b:Int} (hb: ∀ (l:Nat) (y:RA),p.leader=l->p.reps[l]? =some y->(K.length:Int)<=max b y.high):B3 K {p with base:=b}:=
 ⟨h.ep,h.lm,h.cur,h.hi,h.keep,h.kn,hb⟩
theorem FL: ∀ (isr:List Bool) (kn:List Int) (m:Int),cY isr kn m<=m/\ ∀ (i:Nat) (v:Int),isr[i]? =some true->kn[i]? =some v->cY isr kn m<=v
 |[],_,m=>by simp[cY]
 |_::_,[],m=>by simp[cY]
 |b::bs,n::ns,m=>by
  obtain⟨h1,h2⟩:=FL bs ns (if b then min m n else m)
  refine⟨by unfold cY;split at h1<;>split<;>first|omega|simp_all,fun i v hi hv=> ?_⟩
  unfold cY
  cases i with
  |zero=>
   simp at hi hv
   subst hi;subst hv
   simp at h1⊢
   omega
  |succ i=>exact h2 i v (by simpa using hi) (by simpa using hv)
theorem K8 {α:Type} {a b:List α} {n m:Nat} (h:a.take m=b.take m) (hn:n<=m):a.take n=b.take n:=by
 have:=congrArg (tN n) h
 rwa[dv,dv,bB hn]at this
theorem B3.adv {K:List cr} {p:f3} (h:B3 K p) (hok:p.ok): ∃ K',K<+:K'/\B3 K' (m9 p):=by
 by_cases hneg:p.leader<0
 have:m9 p=p:=by
  unfold m9
  split
  rw[if_pos hneg]
  rfl
 rw[this]
 exact⟨K,kb K,h⟩
 obtain⟨l,hl⟩: ∃ l:Nat,p.leader=l:=⟨p.leader.toNat,by omega⟩
 obtain⟨y,hy⟩: ∃ y,p.reps[l]? =some y:=⟨_,aj (by have:=hok.ld1;omega)⟩
 rw[xR hl hy]
 obtain⟨hisr,hup⟩:=hok.lead l y hl hy
 obtain⟨hkp1,hkp2⟩:=h.keep l y hy hisr
 have hyok:=hok.at_ hy
 have hys:=hyok.gl.sle
 have hy0:=hyok.high0
 obtain⟨hh1,hh2⟩:=h.hi l y hy
 generalize hH:max y.high (min (cY p.isr p.known 400) y.es.length)=H
 by_cases hle:H.toNat<=K.length
 refine⟨K,kb K,h.set hy (h.ep l y hy) (fun j z n e f hj hz he hf hef=>h.lm l j y z n e f hy hz he hf hef) (fun l' y' n e h1 h2=>absurd I h2) (fun _=>ao _) ⟨hle,?_⟩ (fun hi=>h.keep l y hy hi) (fun l' y' v h1 h2=>absurd I h2) (fun _ i z v _ hz hv=>(h.kn l y i z v hl hy hz hv).2) (fun _ v hv=>⟨(h.kn l y l y v hl hy hy hv).1,(h.kn l y l y v hl hy hy hv).2.1⟩) (fun _=> ?_)⟩
 have:=congrArg (tN H.toNat) hkp2
 rwa[dv,bB hle]at this
 have:=h.base l y hl hy;dsimp only;omega
 have hHm:H=min (cY p.isr p.known 400) y.es.length:=by omega
 have hHl:H.toNat<=y.es.length:=by omega
 have hlen:(y.es.take H.toNat).length=H.toNat:=by rw[aD];omega
 have hKy:K=(y.es.take H.toNat).take K.length:=by rw[dv,bB I];exact hkp2.symm
 have hpre:K<+:y.es.take H.toNat:=by rw[hKy];exact List.take_prefix _ _
 have hKt: ∀ n,n<=K.length->K.take n=(y.es.take H.toNat).take n:=fun n hn=>by
  have:=congrArg (tN n) hkp2
  rw[dv,bB hn]at this
  rw[<-this,dv,bB I]
 have hG:B3 (y.es.take H.toNat) {p with base:=H}:=by
  refine⟨h.ep,h.lm,h.cur,fun i x hx=> ?_,fun i x hx hi=> ?_,h.kn,fun l' y' hl' hy'=>by dsimp only;omega⟩
  obtain⟨h1,h2⟩:=h.hi i x hx
  exact⟨by omega,by rw[h2];exact hKt _ h1⟩
  obtain⟨v,hv⟩: ∃ v,p.known[i]? =some v:=⟨_,aj (by have:=(cy hx).1;have:=hok.knownl;dsimp only at*;omega)⟩
  have h1:=(FL p.isr p.known 400).2 i v hi hv
  obtain⟨h2,h3,h4⟩:=h.kn l y i x v hl hy hx hv
  refine⟨by rw[hlen];omega,?_⟩
  rw[hlen]
  exact K8 h4 I
 have hS:=hG.set (x':={y with high:=H}) hy (h.ep l y hy) (fun j z n e f hj hz he hf hef=>h.lm l j y z n e f hy hz he hf hef) (fun l' y' n e h1 h2=>absurd (by dsimp only at h1;omega) h2) (fun _=>ao _) ⟨by rw[hlen];exact ao _,by rw[dv,Nat.min_self]⟩ (fun hi=>hG.keep l y hy hi) (fun l' y' v h1 h2=>absurd (by dsimp only at h1;omega) h2) (fun _ i z v _ hz hv=>(h.kn l y i z v hl hy hz hv).2) (fun _ v hv=>⟨(h.kn l y l y v hl hy hy hv).1,(h.kn l y l y v hl hy hy hv).2.1⟩) (fun _=>by dsimp only;omega)
 refine⟨_,hpre,hS.rebase (b:=p.base) fun l' z h1 hz=> ?_⟩
 dsimp only at h1 hz
 have:l'=l:=by omega
 subst this
 rw[al (cy hy).1]at hz
 cases hz
 dsimp only
 omega
section
/-- a part that may be: m bounds its logs, n replicas, Φ holds of all entries -/
structure Gd (Φ:cr->Prop) (K:List cr) (m n:Nat) (few:Int) (p:f3):Prop where
 ok:p.ok
 inv:B3 K p
 small: ∀ (i:Nat) (x:RA),p.reps[i]? =some x->x.es.length<=m
 ents: ∀ (i:Nat) (x:RA),p.reps[i]? =some x-> ∀ e∈x.es,Φ e
 len:p.reps.length=n
 few:p.few=few
variable {Φ:cr->Prop} {K:List cr} {m n:Nat} {few:Int} {p:f3} {r:Nat}
theorem Gd.mono (h:Gd Φ K m n few p) {m':Nat} (hm:m<=m'):Gd Φ K m' n few p:=⟨h.ok,h.inv,fun i x hx=>aV (h.small i x hx) hm,h.ents,h.len,h.few⟩
theorem N1 {p:f3} (h:p.ok) {i:Nat} {x x':RA} (hx:p.reps[i]? =some x) (hk:x'.ok) (hu:p.leader=i->x'.up=true):({p with reps:=p.reps.set i x'}:f3).ok:=
 IB h (ae ..) (fun r hr=>by
  rcases aA hr with hr|rfl
  exact h.reps r hr
  exact hk) (fun l r h1 h2=>by
  rcases fL h2 with⟨rfl,rfl⟩|⟨_,h3⟩
  exact hu h1
  exact(h.lead l r h1 h3).2)
theorem Gd.set (h:Gd Φ K m n few p) {r:Nat} {x x':RA} (hx:p.reps[r]? =some x) (hk:x'.ok) (hu:p.leader=r->x'.up=true) (hm:x'.es.length<=m) (hΦ: ∀ e∈x'.es,Φ e)
  (c_ep: ∀ e∈x'.es,e.epoch<=p.epoch)
  (c_lm: ∀ (j:Nat) (y:RA) (n:Nat) (e f:cr),j≠r->p.reps[j]? =some y->x'.es[n]? =some e->y.es[n]? =some f->e.epoch=f.epoch->x'.es.take (n+1)=y.es.take (n+1))
  (c_cur1: ∀ (l:Nat) (y:RA) (n:Nat) (e:cr),p.leader=l->l≠r->p.reps[l]? =some y->x'.es[n]? =some e->e.epoch=p.epoch->n<y.es.length)
  (c_cur2:p.leader=r->x.es.length<=x'.es.length)
  (c_hi:x'.high.toNat<=K.length/\x'.es.take x'.high.toNat=K.take x'.high.toNat)
  (c_keep:p.isr[r]? =some true->K.length<=x'.s/\x'.es.take K.length=K)
  (c_kn1: ∀ (l:Nat) (y:RA) (v:Int),p.leader=l->l≠r->p.reps[l]? =some y->p.known[r]? =some v->v.toNat<=x'.s/\v.toNat<=y.es.length/\x'.es.take v.toNat=y.es.take v.toNat)
  (c_kn2:p.leader=r-> ∀ (i:Nat) (z:RA) (v:Int),i≠r->p.reps[i]? =some z->p.known[i]? =some v->v.toNat<=x'.es.length/\z.es.take v.toNat=x'.es.take v.toNat)
  (c_kn3:p.leader=r-> ∀ v:Int,p.known[r]? =some v->v.toNat<=x'.s/\v.toNat<=x'.es.length)
  (c_base:p.leader=r->(K.length:Int)<=max p.base x'.high):Gd Φ K m n few {p with reps:=p.reps.set r x'}:=
 ⟨N1 h.ok hx hk hu,h.inv.set hx c_ep c_lm c_cur1 c_cur2 c_hi c_keep c_kn1 c_kn2 c_kn3 c_base,fun i y hy=>by
  rcases fL hy with⟨_,rfl⟩|⟨_,hy⟩
  exact hm
  exact h.small i y hy,fun i y hy=>by
  rcases fL hy with⟨_,rfl⟩|⟨_,hy⟩
  exact hΦ
  exact h.ents i y hy,by dsimp only;rw[ae];exact h.len,h.few⟩
theorem Gd.setK0 (h:Gd Φ K m n few p) (r:Nat):Gd Φ K m n few {p with known:=p.known.set r 0}:=⟨D9 h.ok r I I,h.inv.setK0 r,h.small,h.ents,h.len,h.few⟩
theorem Gd.none (h:Gd Φ K m n few p):Gd Φ K m n few {p with leader:= -1}:=⟨N2 h.ok,h.inv.none,h.small,h.ents,h.len,h.few⟩
theorem xQ {p:f3} {i:Nat} {x:RA} (h:(m9 p).reps[i]? =some x): ∃ y,p.reps[i]? =some y/\x.es=y.es/\x.s=y.s/\x.up=y.up:=by
 unfold m9 at h
 split at h
 rename_i z hz
 split at h
 exact⟨x,h,rfl,rfl,rfl⟩
 rcases fL h with⟨rfl,rfl⟩|⟨_,h⟩
 exact⟨z,hz,rfl,rfl,rfl⟩
 exact⟨x,h,rfl,rfl,rfl⟩
 exact⟨x,h,rfl,rfl,rfl⟩
theorem xP {p:f3}:(m9 p).reps.length=p.reps.length/\(m9 p).few=p.few/\(m9 p).epoch=p.epoch/\(m9 p).leader=p.leader/\(m9 p).isr=p.isr/\(m9 p).known=p.known:=by
 unfold m9
 split
 split
 simp
 simp
 simp
theorem Gd.adv (h:Gd Φ K m n few p): ∃ K',K<+:K'/\Gd Φ K' m n few (m9 p):=by
 obtain⟨K',h1,h2⟩:=h.inv.adv h.ok
 refine⟨K',h1,PF h.ok,h2,fun i x hx=> ?_,fun i x hx e he=> ?_,xP.1.trans h.len,xP.2.1.trans h.few⟩
 obtain⟨y,hy,he,-⟩:=xQ hx
 rw[he];exact h.small i y hy
 obtain⟨y,hy,hee,-⟩:=xQ hx
 rw[hee]at he;exact h.ents i y hy e he
theorem Gd.same (h:Gd Φ K m n few p) {x x':RA} (hx:p.reps[r]? =some x) (he:x'.es=x.es) (hh:x'.high=x.high) (hs:x.s<=x'.s) (hsl:x'.s<=x.es.length) (hu:p.leader=r->x'.up=true):Gd Φ K m n few {p with reps:=p.reps.set r x'}:=by
 have hk:=h.ok.at_ hx
 refine h.set hx ⟨by rw[he];exact⟨hk.gl.good,hk.gl.len,hk.gl.sz,hsl⟩,by rw[hh];exact hk.high0,by rw[hh,he];exact hk.high1⟩ hu (by rw[he];exact h.small r x hx) (by rw[he];exact h.ents r x hx) (by rw[he];exact h.inv.ep r x hx) (fun j y n e f hj hy=>by rw[he];exact h.inv.lm r j x y n e f hx hy) (fun l y n e h1 h2 hy=>by rw[he];exact h.inv.cur l y r x n e h1 hy hx) (fun _=>by rw[he];exact ao _) (by rw[he,hh];exact h.inv.hi r x hx) (fun hi=> ?_) (fun l y v h1 h2 hy hv=> ?_) (fun h1 i z v hi hz hv=> ?_) (fun h1 v hv=> ?_) (fun h1=>by rw[hh];exact h.inv.base r x h1 hx)
 obtain⟨h1,h2⟩:=h.inv.keep r x hx hi
 exact⟨by omega,by rw[he];exact h2⟩
 obtain⟨h3,h4,h5⟩:=h.inv.kn l y r x v h1 hy hx hv
 exact⟨by omega,h4,by rw[he];exact h5⟩
 obtain⟨h3,h4,h5⟩:=h.inv.kn r x i z v h1 hx hz hv
 rw[he];exact⟨h4,h5⟩
 obtain⟨h3,h4,h5⟩:=h.inv.kn r x r x v h1 hx hx hv
 rw[he];exact⟨by omega,h4⟩
theorem NC (h:Gd Φ K m n few p) (he:(jq p r).2=0): ∃ K',K<+:K'/\Gd Φ K' m n few (jq p r).1:=by
 obtain⟨x,hx,hu,hS⟩:=Ae he
 have hk:=h.ok.at_ hx
 have hsl:=hk.gl.sle
 have h1:=h.same (x':={x with s:=x.es.length}) hx Z Z hsl (ao _) (fun _=>hu)
 rw[hS]
 split
 rename_i hl
 have hx1:(p.reps.set r {x with s:=x.es.length})[r]? =some {x with s:=x.es.length}:=al (cy hx).1
 have h2:Gd Φ K m n few {p with reps:=p.reps.set r {x with s:=x.es.length},known:=p.known.set r x.es.length}:=
  ⟨D9 h1.ok r I (by have:=hk.gl.len;omega),h1.inv.setK (w:=x.es.length) fun l y z hl' hy hz=>by
   dsimp only at hl' hy hz
   have:l=r:=by omega
   subst this
   rw[hx1]at hy hz;cases hy;cases hz
   simp,h1.small,h1.ents,h1.len,h1.few⟩
 exact h2.adv
 exact⟨K,kb K,h1⟩
end
section
variable {Φ:cr->Prop} {K:List cr} {m n:Nat} {few:Int} {p:f3} {r:Nat}
theorem MY (h:Gd Φ K m n few p) (he:(fq p r).2=0): ∃ K',K<+:K'/\Gd Φ K' m n few (fq p r).1:=by
 obtain⟨x,hx,hu,hi,hne,hep,hS⟩:=Dy h.ok.isrl he
 rw[hS]
 have hk:=h.ok.at_ hx
 have hsl:=hk.gl.sle
 have hln:=hk.gl.len
 obtain⟨k1,k2⟩:=h.inv.keep r x hx hi
 have hok1:=N3 h.ok (b:=(x.es.length:Nat)) hx hu hi hep I I
 have h1:Gd Φ K m n few {p with epoch:=p.epoch+1,leader:=(r:Nat),known:=(aq p.reps.length 0).set r x.s,base:=(x.es.length:Nat)}:=by
  refine⟨Fz hok1 (by simp[h.ok.knownl]) (fun v hv=> ?_),⟨fun i y hy e he=> ?_,h.inv.lm,fun l y i z j e hl hy hz hj hee=> ?_,h.inv.hi,h.inv.keep,fun l y i z v hl hy hz hv=> ?_,fun l y hl hy=> ?_⟩,h.small,h.ents,h.len,h.few⟩
  rcases aA hv with hv|rfl
  rw[cT hv];omega
  omega
  have:=h.inv.ep i y hy e he;dsimp only;omega
  have:=h.inv.ep i z hz e (ab hj);dsimp only at hee;omega
  dsimp only at hl hy hz hv
  have:l=r:=by omega
  subst this
  rw[hx]at hy;cases hy
  rcases fL hv with⟨rfl,rfl⟩|⟨_,hv⟩
  rw[hx]at hz;cases hz
  simp;omega
  have:=cT (ab hv)
  subst this
  simp
  dsimp only at hl hy⊢
  have:l=r:=by omega
  subst this
  rw[hx]at hy;cases hy
  omega
 exact h1.adv
theorem Px {e:cr} (h:Gd Φ K m n few p) (hΦ:Φ {e with epoch:=p.epoch}) (hm:m<400) (he:(eu p e).2.2=0): ∃ K',K<+:K'/\Gd Φ K' (m+1) n few (eu p e).1:=by
 obtain⟨x,l,hl,hx,hg,-,hS⟩:=D5 he
 rcases hS with⟨-,hS,-⟩|⟨-,-,hS,-⟩
 rw[hS];exact⟨K,kb K,h.mono (bx m)⟩
 rw[hS]
 have hk:=h.ok.at_ hx
 have hsm:=h.small l x hx
 have hm1:=h.mono (bx m)
 have hlu:=(h.ok.lead l x hl hx).2
 have happ: ∀ {j:Nat} {f:cr},(x.es++[{e with epoch:=p.epoch}])[j]? =some f->x.es[j]? =some f∨(j=x.es.length/\f={e with epoch:=p.epoch}):=fun{j f} hj=>by
  by_cases hjl:j<x.es.length
  rw[cC hjl]at hj;exact .inl hj
  have h1:=(aE.1 hj).1
  simp at h1
  have:j=x.es.length:=by omega
  subst this
  simp at hj
  exact .inr ⟨rfl,hj.symm⟩
 have htk: ∀ j,j<=x.es.length->(x.es++[{e with epoch:=p.epoch}]).take j=x.es.take j:=fun j hj=>kO hj
 have hhi:=hk.high1
 have hh0:=hk.high0
 have hsl:=hk.gl.sle
 refine⟨K,kb K,hm1.set (x':={x with es:=x.es++[{e with epoch:=p.epoch}]}) hx ⟨GL.of (fun f hf=> ?_) (by simp;omega) (by simp;omega),hh0,by simp;omega⟩ (fun _=>hlu) (by simp;omega) (fun f hf=> ?_) (fun f hf=> ?_) (fun j y i e' f hj hy h4 h5 hef=> ?_) (fun l' y i e' h1 h2=>absurd I h2) (fun _=>by simp) ?_ (fun hi=> ?_) (fun l' y v h1 h2=>absurd I h2) (fun _ i z v hi hz hv=> ?_) (fun _ v hv=> ?_) (fun _=>h.inv.base l x hl hx)⟩
 rcases ap.1 hf with hf|hf
 exact hk.gl.good f hf
 rw[ar.1 hf];exact hg
 rcases ap.1 hf with hf|hf
 exact h.ents l x hx f hf
 rw[ar.1 hf];exact hΦ
 rcases ap.1 hf with hf|hf
 exact h.inv.ep l x hx f hf
 rw[ar.1 hf];exact fl _
 rcases happ h4 with h6|⟨rfl,rfl⟩
 have:=h.inv.lm l j x y i e' f hx hy h6 h5 hef
 dsimp only
 rw[htk _ (by have:=(cy h6).1;omega)];exact this
 have:=h.inv.cur l x j y _ f hl hx hy h5 hef.symm
 omega
 obtain⟨h1,h2⟩:=h.inv.hi l x hx
 exact⟨h1,by dsimp only;rw[htk _ I];exact h2⟩
 obtain⟨h1,h2⟩:=h.inv.keep l x hx hi
 exact⟨h1,by dsimp only;rw[htk _ I];exact h2⟩
 obtain⟨h1,h2,h3⟩:=h.inv.kn l x i z v hl hx hz hv
 exact⟨by simp;omega,by dsimp only;rw[htk _ h2];exact h3⟩
 obtain⟨h1,h2,h3⟩:=h.inv.kn l x l x v hl hx hx hv
 exact⟨h1,by simp;omega⟩
theorem AN: ∀ {a b:List cr} {k:Nat},k<=a.length->a.take k=b.take k->k<=dT a b
 |_,_,0,_,_=>bN _
 |[],_,k+1,h,_=>by simp at h
 |a::l,[],k+1,_,h=>by simp at h
 |a::l,b::m,k+1,hl,h=>by
  simp at h
  obtain⟨rfl,h⟩:=h
  unfold dT
  rw[if_pos Z]
  have:=AN (by simpa using hl) h
  omega
theorem wo: ∀ {a b:List cr} {k:Nat},k<dT a b-> ∃ e f,a[k]? =some e/\b[k]? =some f/\e.epoch=f.epoch
 |[],_,_,h=>by simp[dT]at h
 |_::_,[],_,h=>by simp[dT]at h
 |a::l,b::m,k,h=>by
  unfold dT at h
  split at h
  rename_i hab
  cases k with
  |zero=>exact⟨a,b,rfl,rfl,hab⟩
  |succ k=>
   obtain⟨e,f,h1,h2,h3⟩:=wo (a:=l) (b:=m) (k:=k) I
   exact⟨e,f,h1,h2,h3⟩
  omega
theorem MO (h:Gd Φ K m n few p) (he:(gx p r).2.2=0): ∃ K',K<+:K'/\Gd Φ K' m n few (gx p r).1:=by
 obtain⟨x,y,l,hx,hl,hne,hu,hy⟩:=yD h.ok he
 rw[qh hx hl hne hu hy]
 have hkx:=h.ok.at_ hx
 have hky:=h.ok.at_ hy
 have hle:=sG x.es y.es
 have hge:=fun k h1 h2=>AN (a:=x.es) (b:=y.es) (k:=k) h1 h2
 have hpre:x.es.take (dT x.es y.es)=y.es.take (dT x.es y.es):=by
  cases hc:dT x.es y.es with
  |zero=>simp
  |succ c=>
   obtain⟨e,f,h1,h2,h3⟩:=wo (a:=x.es) (b:=y.es) (k:=c) I
   exact h.inv.lm r l x y c e f hx hy h1 h2 h3
 generalize hc:dT x.es y.es=c at*
 have hlen:(x.es.take c).length=c:=by rw[aD];omega
 have hsx:=hkx.gl.sle
 have hxh0:=hkx.high0
 have hyh0:=hky.high0
 have hyh1:=hky.high1
 have hyl:=hky.gl.len
 have hkn:r<p.known.length:=by rw[h.ok.knownl];exact(cy hx).1
 have hlr:p.leader≠(r:Nat):=by omega
 obtain⟨hb1,hb2⟩:=h.inv.keep l y hy (h.ok.lead l y hl hy).1
 have key: ∀ {K:List cr} {q:f3} {x0:RA} (x1:RA) (c':Nat) (y':RA),Gd Φ K m n few q->q.reps[r]? =some x0->q.leader=l->q.reps[l]? =some y'->y'.es=y.es->q.epoch=p.epoch->x1.es=y.es.take c'->c'<=y.es.length->x1.s<=c'->0<=x1.high->x1.high<=c'->x1.high.toNat<=K.length->
   (q.isr[r]? =some true->K.length<=x1.s)->(∀ v:Int,q.known[r]? =some v->v.toNat<=x1.s)->Gd Φ K m n few {q with reps:=q.reps.set r x1}:=by
  intro K q x0 x1 c' y' hq hx0 hql hqy hye hqe h1 hc' h2 h3 h4 h5 h6 h7
  have hqlr:q.leader≠(r:Nat):=by omega
  obtain⟨hb3,hb4⟩:=hq.inv.keep l y' hqy (hq.ok.lead l y' hql hqy).1
  have hKl:K.length<=y.es.length:=by have:=(hq.ok.at_ hqy).gl.sle;rw[hye]at this;omega
  rw[hye]at hb4
  have hmem: ∀ e∈x1.es,e∈y'.es:=fun e he=>by rw[h1]at he;rw[hye];exact qO _ _ he
  have hget: ∀ {j:Nat} {e:cr},x1.es[j]? =some e->y.es[j]? =some e/\j<c':=fun{j e} hj=>by
   rw[h1,di]at hj
   split at hj
   exact⟨hj,by assumption⟩
   cases hj
  have hKt: ∀ k,k<=K.length->y.es.take k=K.take k:=fun k hk=>by
   have:=congrArg (tN k) hb4
   rwa[dv,bB hk]at this
  have hx1l:x1.es.length=c':=by rw[h1,aD];omega
  refine hq.set hx0 ⟨GL.of (fun e he=>(hq.ok.at_ hqy).gl.good e (hmem e he)) I I,h3,by omega⟩ (fun hl=>absurd hl hqlr) (by have:=hq.small l y' hqy;rw[hye]at this;omega) (fun e he=>hq.ents l y' hqy e (hmem e he)) (fun e he=>hq.inv.ep l y' hqy e (hmem e he)) (fun j z i e f hj hz h8 h9 hef=> ?_) (fun l' z i e hl' hlr' hz h8 hee=> ?_) (fun hl=>absurd hl hqlr) ⟨h5,?_⟩ (fun hi=>⟨h6 hi,?_⟩) (fun l' z v hl' hlr' hz hv=> ?_) (fun hl=>absurd hl hqlr) (fun hl=>absurd hl hqlr) (fun hl=>absurd hl hqlr)
  obtain⟨h10,h11⟩:=hget h8
  have:=hq.inv.lm l j y' z i e f hqy hz (by rw[hye];exact h10) h9 hef
  rw[h1,dv,bB I,<-hye];exact this
  have:l'=l:=by omega
  subst this
  rw[hqy]at hz;cases hz
  rw[hye]
  exact(cy (hget h8).1).1
  rw[h1,dv,bB I]
  exact hKt _ h5
  have:=h6 hi
  rw[h1,dv,bB I];exact hb4
  have:l'=l:=by omega
  subst this
  rw[hqy]at hz;cases hz
  have:=h7 v hv
  exact⟨this,by rw[hye];omega,by rw[h1,dv,bB I,hye]⟩
 have hKc:p.isr[r]? =some true->K.length<=min x.s c:=fun hi=>by
  obtain⟨h1,h2⟩:=h.inv.keep r x hx hi
  have:=hge K.length I (by rw[h2,hb2])
  omega
 obtain⟨hhx1,hhx2⟩:=h.inv.hi r x hx
 have hmx:min x.s c<=c:=by omega
 have g1:=h.setK0 r
 have g2:=key (K:=K) (q:={p with known:=p.known.set r 0}) (x0:=x) ⟨x.up,y.es.take c,min x.s c,min x.high c⟩ c y g1 hx hl hy Z Z Z hle.2 hmx (by dsimp only;omega) (by dsimp only;omega) (by dsimp only;omega) hKc (fun v hv=>by
  dsimp only at hv
  rw[al hkn]at hv
  cases hv;simp)
 have hx2:(p.reps.set r ⟨x.up,y.es.take c,min x.s c,min x.high c⟩)[r]? =some ⟨x.up,y.es.take c,min x.s c,min x.high c⟩:=al (cy hx).1
 have hy2:(p.reps.set r ⟨x.up,y.es.take c,min x.s c,min x.high c⟩)[l]? =some y:=by rw[aT hne];exact hy
 have g3:Gd Φ K m n few {p with reps:=p.reps.set r ⟨x.up,y.es.take c,min x.s c,min x.high c⟩,known:=p.known.set r (min x.s c:Nat)}:=by
  refine⟨?_,?_,g2.small,g2.ents,g2.len,g2.few⟩
  have:=D9 g2.ok r (v:=(min x.s c:Nat)) I (by have:=hky.gl.len;omega)
  dsimp only at this
  rw[fR]at this
  exact this
  have:=g2.inv.setK (r:=r) (w:=(min x.s c:Nat)) fun l' z z2 hl' hz hz2=>by
   dsimp only at hl' hz hz2
   have:l'=l:=by omega
   subst this
   rw[hy2]at hz;cases hz
   rw[hx2]at hz2;cases hz2
   dsimp only
   simp only[uW]
   refine⟨ao _,by omega,by rw[dv,bB hmx]⟩
  dsimp only at this
  rw[fR]at this
  exact this
 obtain⟨K',hK',g4⟩:=g3.adv
 rw[xR (p:={p with reps:=p.reps.set r ⟨x.up,y.es.take c,min x.s c,min x.high c⟩,known:=p.known.set r (min x.s c:Nat)}) (l:=l) (r:=y) hl hy2]at g4
 generalize hH:max y.high (min (cY p.isr (p.known.set r (min x.s c:Nat)) 400) y.es.length)=H at*
 have hy4:((p.reps.set r ⟨x.up,y.es.take c,min x.s c,min x.high c⟩).set l {y with high:=H})[l]? =some {y with high:=H}:=al (by rw[ae];exact(cy hy).1)
 have hx4:((p.reps.set r ⟨x.up,y.es.take c,min x.s c,min x.high c⟩).set l {y with high:=H})[r]? =some ⟨x.up,y.es.take c,min x.s c,min x.high c⟩:=by rw[aT (Ne.symm hne)];exact hx2
 have hK'l:K.length<=K'.length:=hK'.length_le
 have hHK:H.toNat<=K'.length:=(g4.inv.hi l _ hy4).1
 have hset: ∀ x1:RA,(((p.reps.set r ⟨x.up,y.es.take c,min x.s c,min x.high c⟩).set l {y with high:=H}).set r x1)=(p.reps.set l {y with high:=H}).set r x1:=fun x1=>by
  rw[BW _ _ (Ne.symm hne),fR,BW _ _ hne]
 have hK'c:p.isr[r]? =some true->K'.length<=min x.s c:=fun hi=>(g4.inv.keep r _ hx4 hi).1
 have hknr: ∀ v:Int,(p.known.set r (min x.s c:Nat))[r]? =some v->v.toNat<=min x.s c:=fun v hv=>by
  rw[al hkn]at hv
  cases hv;simp
 refine⟨K',hK',?_⟩
 unfold im
 rw[hc]
 cases hz:y.es[c]? with
 |none=>
  have g5:=key ⟨x.up,x.es.take c,min x.s c,min (max x.high H) (c:Nat)⟩ c {y with high:=H} g4 hx4 hl hy4 Z Z hpre hle.2 hmx (by dsimp only;omega) (by dsimp only;omega) (by dsimp only;omega) hK'c hknr
  dsimp only at g5⊢
  rw[hset]at g5
  exact g5
 |some z=>
  have hzl:=(cy hz).1
  have hes:x.es.take c++[z]=y.es.take (c+1):=by rw[hpre,List.take_add_one,hz];rfl
  have g5:=key ⟨x.up,x.es.take c++[z],min x.s c,min (max x.high H) ((c:Nat)+1)⟩ (c+1) {y with high:=H} g4 hx4 hl hy4 Z Z hes I (by dsimp only;omega) (by dsimp only;omega) (by dsimp only;omega) (by dsimp only;omega) hK'c hknr
  dsimp only at g5⊢
  rw[hset]at g5
  exact g5
theorem Eb {n few:Nat} (h1:1<=n) (h5:n<=5) (hf:1<=few) (hfn:few<=n):Gd Φ [] 0 n few (mQ n few):=by
 have hr: ∀ (i:Nat) (x:RA),(mQ n few).reps[i]? =some x->x=⟨true,[],0,0⟩:=fun i x hx=>cT (ab hx)
 refine⟨⟨by simp[mQ]<;>omega,by simp[mQ]<;>omega,by simp[mQ]<;>omega,by simp[mQ]<;>omega,by simp[mQ]<;>omega,by simp[mQ]<;>omega,by simp[mQ]<;>omega,by simp[mQ]<;>omega,by simp[mQ]<;>omega,by simp[mQ]<;>omega,by simp[mQ]<;>omega,by simp[mQ]<;>omega,by simp[mQ]<;>omega,fun l r hl=>by simp[mQ]at hl<;>omega,fun r hr=> ?_,fun v hv=> ?_⟩,⟨fun i x hx=>by rw[hr i x hx];simp,fun i j x y k e f hx hy he=>by rw[hr i x hx]at he;simp at he,fun l y i x k e hl=>by simp[mQ]at hl<;>omega,fun i x hx=>by rw[hr i x hx];simp,fun i x hx _=>by rw[hr i x hx];simp,fun l y i x v hl=>by simp[mQ]at hl<;>omega,fun l y hl=>by simp[mQ]at hl<;>omega⟩,fun i x hx=>by rw[hr i x hx];simp,fun i x hx=>by rw[hr i x hx];simp,by simp[mQ]<;>omega,rfl⟩
 rw[cT hr]
 exact⟨GL.of (by simp) (by simp) (by simp),by simp,by simp⟩
 rw[cT hv];omega
end

def QT:Nw Pa:=⟨fun p=>p.rd,fun _ _ _ _ _ hk h=>h.st hk,fun _ _ _ _ _ _ h h1 h2=>h.mono h1 h2⟩
/-- a producer's transactions, and where its parts lie -/
structure Tx where
 name:ByteArray
 pid:Int
 ver:Int
 state:Int
 parts:List Int
 since:Int
 done:Int
 A:Option Addr
 cap:Nat
def Tx.c (t:Tx):List Value:=[.string t.name,.int .i64 t.pid,.int .i64 t.ver,.int .i64 t.state,.slice t.A t.parts.length t.cap,.int .i64 t.since,.int .i64 t.done]
abbrev Tx.v (t:Tx):Value:=.agg t.c.toArray
def sr:fA Tx:=⟨Tx.c,7,fun _=>rfl,by decide,fun a u hu=>by
 simp only[Tx.c,av,bd,or_false]at hu
 rcases hu with h|h|h|h|h|h|h<;>subst h<;>rfl⟩
def rO (c:UInt8):Bool:=decide (97<=(c.toNat:Int))&&decide ((c.toNat:Int)<=122)
def bu (s:ByteArray):Bool:=decide (s≠⟨#[]⟩)&&decide ((s.size:Int)<=8)&&s.data.toList.all rO
def cW:Int->List Int->Bool
 |_,[]=>true
 |last,p::l=>decide (last<p)&&decide (p<4)&&cW p l
def fQ (clock next:Int) (t:Tx):Bool:=bu t.name&&decide (1<=t.pid)&&decide (t.pid<next)&&iP t.ver&&decide (1<=t.state)&&decide (t.state<=4)&&decide (0<=t.since)&&decide (t.since<=clock)&&(decide (t.done=0)||decide (t.done=3)||decide (t.done=4))
 &&cW (-1) t.parts&&(decide (t.state=1)==decide (t.parts.length=0))
theorem cd {ck nx:Int} {t:Tx}:fQ ck nx t=true↔bu t.name=true/\1<=t.pid/\t.pid<nx/\iP t.ver=true/\1<=t.state/\t.state<=4/\0<=t.since/\t.since<=ck/\(t.done=0∨t.done=3∨t.done=4)/\cW (-1) t.parts=true/\(t.state=1↔t.parts.length=0):=by
 unfold fQ
 simp only[aQ,su,decide_eq_true_eq,beq_iff_eq,decide_eq_decide,and_assoc,or_assoc]
theorem xh (es:List UInt8) (A:Option Addr) (c:Nat) (w:World) (hr:Rd dP 0 w.heap.size A es w) (hb:es.length<=1000000) (f:FuncId) (cap:List Value) (hf:bg aa f=true) (pred:UInt8->Bool)
  (hp: ∀ e w',e∈es->Below w.heap.size w w'->dt aa f (.int .u8 (e.toNat:Nat)::cap) w' fun v w2=>v=.bool (pred e)/\Below w'.heap.size w' w2):
  dt aa oF [.slice A es.length c,.func (.func f) #[] cap.toArray] w fun v w2=>v=J (lO (es.findIdx? pred))/\Below w.heap.size w w2:=by
 refine aG nO Z Z ?_
 have H:=Hp.startRd hr
 refine W<|Zr<|G (Wi Z)<|U<|W<|W<|Zr<|G (Ys Z)<|G (bh fb Z)<|G (Yi Z)<|U<|Zb ?_
 refine cf (τ:=Nat) [4,5,8,9,10,11,12,13,14,15,16,17,18] (fun k=>[(8,J (k:Nat))]) (fun k w'=>k<=es.length/\(∀ j e,j<k->es[j]? =some e->pred e=false)/\Hp w w' [] [ey dP 0 w.heap.size A es]) (fun k=>es.length-k) 0 ⟨by omega,by intro j e hj;omega,H⟩ (dR Z) ?_
 rintro k ρ1 w1 ⟨hk,hno,H⟩
 show CW _ _ _ _ (dK (ia _ _ ρ1) [(8,J (k:Nat))]) w1
 refine W<|Zr ?_
 refine du (cO Z Z) Z Z Z (fun h9=> ?_) (fun h9=> ?_)
 refine U<|W<|ZT Z<|Zk<|W<|Zb<|W<|Zr<|G (Yi Z)<|G (Wi Z)<|U<|W<|Zr<|G (tQ Z)<|G (Ys Z)<|G (Yi Z)<|qg H 0 Z eF Z Z I I Z fun b2 o2 x2 e2=>G (bi mO Z (e2.cl 0 _ Z)) ?_
 refine OK hf Z (hp x2 _ (ab e2.at_) H.below) Z Z ?_;rintro _ w3 ⟨rfl,hb2⟩;replace H:=H.later hb2;clear hb2
 refine nK 16 Z (fun h16=> ?_) (fun h16=> ?_)
 refine U<|ZT Z<|W<|Zr<|G (Yi Z)<|G (Wi Z)<|U<|Zt ?_
 have hi:es.findIdx? pred=some k:=by
  rw[aP]
  obtain⟨hl,hx⟩:=cy e2.at_
  exact⟨hl,by rw[hx];exact h16,fun j hj=>by rw[hno j _ hj (aj I)];simp⟩
 exact cn (v:=J (k:Nat)) Z Z ⟨by rw[hi];rfl,H.below⟩
 refine U<|ZF Z<|Zk<|Zr<|G (bp Z Z I I)<|G (Yi Z)<|U ?_
 refine⟨k+1,⟨by omega,fun j e hj he=> ?_,H⟩,dR Z,Qg,by show es.length- (k+1)<es.length-k;omega⟩
 by_cases hji:j<k
 exact hno j e hji he
 have:j=k:=by omega
 subst this;have he2:=e2.at_;rw[he]at he2;injection he2 with he2;subst he2;exact h16
 refine U<|W<|ZF Z<|Zx<|W<|Zr<|G (Wi Z)<|U<|Zt ?_
 have hi:es.findIdx? pred=none:=by
  rw[cL]
  intro e he
  obtain⟨j,hj⟩:=aN.1 he
  exact hno j e (by have:=(cy hj).1;omega) hj
 exact cn (v:=J (-1)) Z Z ⟨by rw[hi];rfl,H.below⟩
theorem oW (es:List UInt8) (A:Option Addr) (c:Nat) (w:World) (hr:Rd dP 0 w.heap.size A es w) (hb:es.length<=1000000) (f:FuncId) (cap:List Value) (hf:bg aa f=true) (pred:UInt8->Bool)
  (hp: ∀ e w',e∈es->Below w.heap.size w w'->dt aa f (.int .u8 (e.toNat:Nat)::cap) w' fun v w2=>v=.bool (pred e)/\Below w'.heap.size w' w2):
  dt aa mS [.slice A es.length c,.func (.func f) #[] cap.toArray] w fun v w2=>v=.bool (es.any pred)/\Below w.heap.size w w2:=by
 refine aG mw Z Z ?_
 have H:=Hp.start w
 refine W<|Zr<|G (Wb Z)<|U<|W<|Zr<|G (Ys Z)<|G (tQ Z)<|cu nW (xh es _ _ _ hr hb f cap hf pred hp) Z Z ?_
 rintro _ w1 ⟨rfl,hb⟩;replace H:=H.later hb;clear hb
 refine G (ku Z Z)<|G (Wb Z)<|U<|Zt ?_
 have hv:decide (0<=lO (es.findIdx? pred))=es.any pred:=by
  cases hi:es.findIdx? pred with
  |none=>rw[cL]at hi;simp[lO];exact fun a h=>hi a h
  |some i=>
   obtain⟨hl,h1,-⟩:=aP.1 hi
   have:es.any pred=true:=List.any_eq_true.2 ⟨_,vZ hl,h1⟩
   rw[this];simp[lO]
 exact cn (v:=.bool (decide (0<=lO (es.findIdx? pred)))) Z Z ⟨by rw[hv],H.below⟩
theorem gu (es:List Tx) (A:Option Addr) (c:Nat) (w:World) (hr:Rd sr 0 w.heap.size A es w) (hb:es.length<=1000000) (f:FuncId) (cap:List Value) (hf:bg aa f=true) (pred:Tx->Bool)
  (hp: ∀ e w',e∈es->Below w.heap.size w w'->dt aa f (.agg (sr.f e).toArray::cap) w' fun v w2=>v=.bool (pred e)/\Below w'.heap.size w' w2):
  dt aa pZ [.slice A es.length c,.func (.func f) #[] cap.toArray] w fun v w2=>v=J (lO (es.findIdx? pred))/\Below w.heap.size w w2:=by
 refine aG pD Z Z ?_
 have H:=Hp.startRd hr
 refine W<|Zr<|G (Wi Z)<|U<|W<|W<|Zr<|G (Ys Z)<|G (bh lx Z)<|G (Yi Z)<|U<|Zb ?_
 refine cf (τ:=Nat) [4,5,8,9,10,11,12,13,14,15,16,17,18] (fun k=>[(8,J (k:Nat))]) (fun k w'=>k<=es.length/\(∀ j e,j<k->es[j]? =some e->pred e=false)/\Hp w w' [] [ey sr 0 w.heap.size A es]) (fun k=>es.length-k) 0 ⟨by omega,by intro j e hj;omega,H⟩ (dR Z) ?_
 rintro k ρ1 w1 ⟨hk,hno,H⟩
 show CW _ _ _ _ (dK (ia _ _ ρ1) [(8,J (k:Nat))]) w1
 refine W<|Zr ?_
 refine du (cO Z Z) Z Z Z (fun h9=> ?_) (fun h9=> ?_)
 refine U<|W<|ZT Z<|Zk<|W<|Zb<|W<|Zr<|G (Yi Z)<|G (Wi Z)<|U<|W<|Zr<|G (tQ Z)<|G (Ys Z)<|G (Yi Z)<|qg H 0 Z gW Z Z I I Z fun b2 o2 x2 e2=>G (ka (xs:=sr.f x2) zY Z Z e2.cl) ?_
 refine OK hf Z (hp x2 _ (ab e2.at_) H.below) Z Z ?_;rintro _ w3 ⟨rfl,hb2⟩;replace H:=H.later hb2;clear hb2
 refine nK 16 Z (fun h16=> ?_) (fun h16=> ?_)
 refine U<|ZT Z<|W<|Zr<|G (Yi Z)<|G (Wi Z)<|U<|Zt ?_
 have hi:es.findIdx? pred=some k:=by
  rw[aP]
  obtain⟨hl,hx⟩:=cy e2.at_
  exact⟨hl,by rw[hx];exact h16,fun j hj=>by rw[hno j _ hj (aj I)];simp⟩
 exact cn (v:=J (k:Nat)) Z Z ⟨by rw[hi];rfl,H.below⟩
 refine U<|ZF Z<|Zk<|Zr<|G (bp Z Z I I)<|G (Yi Z)<|U ?_
 refine⟨k+1,⟨by omega,fun j e hj he=> ?_,H⟩,dR Z,Qg,by show es.length- (k+1)<es.length-k;omega⟩
 by_cases hji:j<k
 exact hno j e hji he
 have:j=k:=by omega
 subst this;have he2:=e2.at_;rw[he]at he2;injection he2 with he2;subst he2;exact h16
 refine U<|W<|ZF Z<|Zx<|W<|Zr<|G (Wi Z)<|U<|Zt ?_
 have hi:es.findIdx? pred=none:=by
  rw[cL]
  intro e he
  obtain⟨j,hj⟩:=aN.1 he
  exact hno j e (by have:=(cy hj).1;omega) hj
 exact cn (v:=J (-1)) Z Z ⟨by rw[hi];rfl,H.below⟩
theorem vx (es:List Tx) (A:Option Addr) (c:Nat) (w:World) (hr:Rd sr 0 w.heap.size A es w) (hb:es.length<=1000000) (f:FuncId) (cap:List Value) (hf:bg aa f=true) (pred:Tx->Bool)
  (hp: ∀ e w',e∈es->Below w.heap.size w w'->dt aa f (.agg (sr.f e).toArray::cap) w' fun v w2=>v=.bool (pred e)/\Below w'.heap.size w' w2):
  dt aa nM [.slice A es.length c,.func (.func f) #[] cap.toArray] w fun v w2=>v=.bool (es.any pred)/\Below w.heap.size w w2:=by
 refine aG nn Z Z ?_
 have H:=Hp.start w
 refine W<|Zr<|G (Wb Z)<|U<|W<|Zr<|G (Ys Z)<|G (tQ Z)<|cu dG (gu es _ _ _ hr hb f cap hf pred hp) Z Z ?_
 rintro _ w1 ⟨rfl,hb⟩;replace H:=H.later hb;clear hb
 refine G (ku Z Z)<|G (Wb Z)<|U<|Zt ?_
 have hv:decide (0<=lO (es.findIdx? pred))=es.any pred:=by
  cases hi:es.findIdx? pred with
  |none=>rw[cL]at hi;simp[lO];exact fun a h=>hi a h
  |some i=>
   obtain⟨hl,h1,-⟩:=aP.1 hi
   have:es.any pred=true:=List.any_eq_true.2 ⟨_,vZ hl,h1⟩
   rw[this];simp[lO]
 exact cn (v:=.bool (decide (0<=lO (es.findIdx? pred)))) Z Z ⟨by rw[hv],H.below⟩
theorem BH (n:Int) (w:World):dt aa Bg [J n] w fun v w2=>v=.bool (iP n)/\Below w.heap.size w w2:=by
 refine aG zB Z Z ?_
 have H:=Hp.start w
 refine W<|Zr<|G (Wb Z)<|U<|W<|Zr<|G (Yi Z) ?_
 refine du (ku Z Z) Z Z Z (fun h4=> ?_) (fun h4=> ?_)
 refine G (Yb Z)<|ZG<|G (Yi Z)<|ZG ?_
 refine du (IL Z Z) Z Z Z (fun h7=> ?_) (fun h7=> ?_)
 refine G (Kt Z Z)<|G (Wb Z)<|U<|Zt ?_
 have hv:iP n=true:=by unfold iP;simp;omega
 exact cn (v:=.bool true) Z Z ⟨by rw[hv],H.below⟩
 refine G (Kt Z Z)<|G (Wb Z)<|U<|Zt ?_
 have hv:iP n=false:=by unfold iP;simp;omega
 exact cn (v:=.bool false) Z Z ⟨by rw[hv],H.below⟩
 refine G (Yb Z)<|ZN<|ZN<|G (N Z Z)<|G (Wb Z)<|U<|Zt ?_
 have hv:iP n=false:=by unfold iP;simp;omega
 exact cn (v:=.bool false) Z Z ⟨by rw[hv],H.below⟩
theorem Hi (c:UInt8) (w:World):dt aa tS [.int .u8 (c.toNat:Nat)] w fun v w2=>v=.bool (!rO c)/\Below w.heap.size w w2:=by
 refine aG yA Z Z ?_
 have H:=Hp.start w
 refine W<|Zr<|G (Wb Z)<|U<|W<|Zr<|G (Yi Z) ?_
 refine du (cO Z Z) Z Z Z (fun h4=> ?_) (fun h4=> ?_)
 refine G (Yb Z)<|ZN<|ZN<|G (Kt Z Z)<|G (Wb Z)<|U<|Zt ?_
 have hv:(!rO c)=true:=by unfold rO;simp;omega
 exact cn (v:=.bool true) Z Z ⟨by rw[hv],H.below⟩
 refine G (Yb Z)<|ZG<|G (Yi Z)<|ZG ?_
 refine du (lf Z Z) Z Z Z (fun h7=> ?_) (fun h7=> ?_)
 refine G (N Z Z)<|G (Wb Z)<|U<|Zt ?_
 have hv:(!rO c)=true:=by unfold rO;simp;omega
 exact cn (v:=.bool true) Z Z ⟨by rw[hv],H.below⟩
 refine G (N Z Z)<|G (Wb Z)<|U<|Zt ?_
 have hv:(!rO c)=false:=by unfold rO;simp;omega
 exact cn (v:=.bool false) Z Z ⟨by rw[hv],H.below⟩
theorem Ec (s:ByteArray) (w:World):dt aa Et [.string s] w fun v w2=>v=.bool (bu s)/\Below w.heap.size w w2:=by
 refine aG Cy Z Z ?_
 have H:=Hp.start w
 refine W<|Zr<|G (Wb Z)<|U<|W<|W<|Zr<|G (Yt Z) ?_
 refine du (wg Z Z) Z Z Z (fun h4=> ?_) (fun h4=> ?_)
 refine G (Yb Z)<|ZN<|ZN<|ZN<|G (Kt Z Z)<|U<|ZT Z<|W<|Zr<|G (Wb Z)<|U<|Zt ?_
 have hv:bu s=false:=by unfold bu;simp;simp[h4]
 exact cn (v:=.bool false) Z Z ⟨by rw[hv],H.below⟩
 refine G (Yb Z)<|ZG<|G (Yt Z)<|ZG<|G (Hr kg Z)<|ZG ?_
 refine du (lf Z Z) Z Z Z (fun h8=> ?_) (fun h8=> ?_)
 refine G (N Z Z)<|U<|ZT Z<|W<|Zr<|G (Wb Z)<|U<|Zt ?_
 have hv:bu s=false:=by unfold bu;simp;omega
 exact cn (v:=.bool false) Z Z ⟨by rw[hv],H.below⟩
 refine G (N Z Z)<|U<|ZF Z<|Zk<|W<|Zr<|G (Yt Z)<|QC (Y:=dP) H kg eF iI Z (fun _=>rfl) Z Z fun w1 A11 c11 hc11 H=> ?_
 have hlen:s.data.toList.length=s.size:=by rw[bY];rfl
 refine cu iQ (oW s.data.toList _ _ _ (H.rd0 0 Z) I tS [] yL (fun c=>!rO c) (fun e w2 _ _=>Hi e w2)) Z Z ?_
 rintro _ w2 ⟨rfl,hb⟩;replace H:=H.later hb;clear hb
 refine G (ee Z)<|G (Wb Z)<|U<|Zt ?_
 have h8b:decide ((s.size:Int)<=8)=true:=decide_eq_true I
 have hv:bu s=!(s.data.toList.any fun c=>!rO c):=by unfold bu;rw[decide_eq_true h4,h8b,ig,ig,List.all_eq_not_any_not]
 exact cn (v:=.bool (!(s.data.toList.any fun c=>!rO c))) Z Z ⟨by rw[hv],H.below⟩
section
/-- an insertion sort's inner loop -/
def Al {α:Type} (lt:α->α->Bool):Nat->List α->List α
 |0,l=>l
 |j+1,l=>match l[j]?,l[j+1]? with
  |some a,some b=>if lt b a then Al lt j ((l.set (j+1) a).set j b)else l
  |_,_=>l
def kp {α:Type} (lt:α->α->Bool):Nat->List α->List α
 |0,l=>l
 |i+1,l=>Al lt i (kp lt i l)
theorem Fh {α:Type} {lt:α->α->Bool}: ∀ {j:Nat} {l:List α},(Al lt j l).length=l.length
 |0,_=>rfl
 |j+1,l=>by
  unfold Al
  split
  split
  rw[Fh];simp
  rfl
  rfl
theorem Bb {α:Type} {lt:α->α->Bool}: ∀ {i:Nat} {l:List α},(kp lt i l).length=l.length
 |0,_=>rfl
 |i+1,l=>by unfold kp;rw[Fh,Bb]
theorem Is {α:Type} {lt:α->α->Bool} {j:Nat} {l:List α} {a b:α} (ha:l[j]? =some a) (hb:l[j+1]? =some b) (h:lt b a=true):Al lt (j+1) l=Al lt j ((l.set (j+1) a).set j b):=by
 conv=>lhs;unfold Al
 rw[ha,hb]
 dsimp only
 rw[if_pos h]
theorem Db {α:Type} {lt:α->α->Bool} {j:Nat} {l:List α} {a b:α} (ha:l[j]? =some a) (hb:l[j+1]? =some b) (h:lt b a=false):Al lt (j+1) l=l:=by
 conv=>lhs;unfold Al
 rw[ha,hb]
 dsimp only
 rw[if_neg (by rw[h];decide)]
theorem yc {P:Program} {ρ:gV} {w:World} {t:TypeId} {p:String} {af:Array Edge} {g:Option (Nat×Bool)} {dst:Option Nat} {x y:Operand} {ty ty':TypeId} {a b:Int} (c:Int) (hx:ev ρ x=.int .i64 a) (hy:ev ρ y=.int .i64 b) (hc:a-b=c) (h1: -9000000000000000000<=c) (h2:c<=9000000000000000000):(execOp (ev ρ) (Og dst (.binOp .sub ty x y ty') t p af g)).run P w=.ok (.value (.int .i64 c)) w:=by
 subst hc
 exact lX hx hy h1 h2
theorem wF {α:Type} {m es:List α} {a b:Nat} (h:m.drop a=es.drop a) (hb:a<=b):m.drop b=es.drop b:=by
 have:=congrArg (List.drop (b-a)) h
 rw[ke,ke]at this
 rwa[show a+(b-a)=b by omega]at this
theorem C2 {α:Type} {l:List α} {k:Nat} (h:k<l.length) (a:α):(l.set k a).take (k+1)=l.take k++[a]:=by
 rw[d6 (e:=a) (by rw[al h]),zZ (ao k)]
theorem getD_some {α:Type} {l:List α} {i:Nat} (d:α) (h:i<l.length):l[i]? =some (l.getD i d):=by
 rw[cS,aj h];rfl
theorem Lk {α:Type} {lt:α->α->Bool} {es l:List α} {i n:Nat} (hl:l=kp lt i es) (h1:1<=i) (h2:i<=n+1) (h3:n≠0->i<=n) (h4:n<=i):l=kp lt n es:=by
 by_cases h0:n=0
 have:i=1:=by omega
 rw[hl,this,h0];rfl
 rw[hl,show i=n by omega]
section
variable {α:Type} {lt:α->α->Bool}
theorem Fi: ∀ (n:Nat) (p:List α) (x:α) (s:List α),p.length=n-> ∃ p1 p2,p=p1++p2/\Al lt n (p++x::s)=p1++x::p2++s/\(∀ y∈p2,lt x y=true)/\(∀ y,p1.getLast? =some y->lt x y=false)
 |0,p,x,s,h=>by
  rw[bO h]
  exact⟨[],[],rfl,rfl,by simp,by simp⟩
 |n+1,p,x,s,h=>by
  obtain⟨q,y,rfl⟩: ∃ q y,p=q++[y]:=⟨p.dropLast,p.getLast (by intro e;rw[e]at h;cases h),(List.dropLast_concat_getLast _).symm⟩
  have hq:q.length=n:=by simpa using h
  have ha:(q++[y]++x::s)[n]? =some y:=by rw[aB,cG (by omega),hq];simp
  have hb:(q++[y]++x::s)[n+1]? =some x:=by rw[aB,cG (by omega),hq];simp
  cases hl:lt x y with
  |false=>
   refine⟨q++[y],[],by simp,?_,by simp,?_⟩
   rw[Db ha hb hl];simp
   intro z hz
   simp only[List.getLast?_append,List.getLast?_singleton,Option.some_or,lH]at hz
   rw[<-hz];exact hl
  |true=>
   have hs:((q++[y]++x::s).set (n+1) y).set n x=q++x::(y::s):=by
    rw[aB,jo _ _ (by omega),jo _ _ (by omega),hq,mE,show n+1-n=1 by omega]
    rfl
   obtain⟨p1,p2,hp,h1,h2,h3⟩:=Fi n q x (y::s) hq
   refine⟨p1,p2++[y],by rw[hp];simp,?_,?_,h3⟩
   rw[Is ha hb hl,hs,h1];simp
   intro z hz
   rcases ap.1 hz with hz|hz
   exact h2 z hz
   rw[ar.1 hz];exact hl
theorem Ba: ∀ (i:Nat) (l:List α),i<=l.length-> ∃ p,kp lt i l=p++l.drop i/\p.Perm (l.take i)
 |0,l,_=>⟨[],by simp[kp],by simp⟩
 |i+1,l,h=>by
  obtain⟨p,h1,h2⟩:=Ba i l (by omega)
  obtain⟨x,hx⟩: ∃ x,l[i]? =some x:=⟨_,aj (by omega)⟩
  have hl:p.length=i:=by rw[h2.length_eq,aD];omega
  obtain⟨p1,p2,hp,h4,-,-⟩:=Fi (lt:=lt) i p x (l.drop (i+1)) hl
  refine⟨p1++x::p2,?_,?_⟩
  unfold kp
  rw[h1,cM hx,h4]
  rw[d6 hx]
  refine(qP).trans ?_
  rw[<-hp]
  exact(ah x h2).trans (t5 x _).symm
theorem AZ (l:List α):(kp lt l.length l).Perm l:=by
 obtain⟨p,h1,h2⟩:=Ba (lt:=lt) l.length l (ao _)
 rw[fC,aZ]at h1
 rw[bJ]at h2
 rw[h1];exact h2
end
theorem Hp.sealO {α:Type} {Y:fA α} {e:TypeId} {w0 w:World} {K L M:List (Nat×Obj)} {F:List ce} {A:Option Addr} {es:List α} {c:Nat} (H:Hp w0 w (K++L++M) F) (ho:gG Y (.slice A es.length c) e es L): ∃ lo hi,Hp w0 w (K++M) (ey Y lo hi A es::F):=by
 have H1:Hp w0 w (K++M) F:=H.forget (by rw[aB];exact(au K).append (bZ L M)) (fun _ h=>h)
 by_cases h0:es.length=0
 have:=bO h0
 subst this
 refine⟨0,0,H1.below,H1.ents,H1.nodup,fun f hf=> ?_⟩
 rcases av.1 hf with rfl|hf
 exact⟨Rd.nil,bN _,fun x _=> .inr (bN _)⟩
 exact H1.facts f hf
 obtain⟨g,cur,rfl,rfl,row⟩:=ho.row (by omega)
 have hg:=H.ents (g,.cells cur e (0,0)) (by simp)
 refine⟨g,g+1,H1.below,H1.ents,H1.nodup,fun f hf=> ?_⟩
 rcases av.1 hf with rfl|hf
 refine⟨row.rd hg.1,bV hg.1,fun x hx=> ?_⟩
 have hne:x.1≠g:=fun h=>by
  have hn:=H.nodup
  rw[aB,bk,bk,pK]at hn
  obtain⟨n1,n2,n3⟩:=hn
  rcases ap.1 hx with hx|hx
  exact n3 x.1 (bF hx) g (by simp) h
  have:=(jz.1 n2).1
  have hm:=bF (f:=_root_.Prod.fst) hx
  rw[h]at hm
  exact this hm
 show x.1<g∨g+1<=x.1
 omega
 exact H1.facts f hf
theorem d7.clr {α:Type} {Y:fA α} {es:List α} {c k o:Nat} {cur:Array Value} {zs:List Value} (h:d7 Y es c cur) (hk:k<=es.length) (ho:k*Y.sz<=o) (hz:o+zs.length<=cur.size):d7 Y (es.take k) c (pw cur o zs):=by
 refine⟨by rw[jS hz,h.size],?_,by rw[aD];have:=h.le;omega,h.max⟩
 rw[aD,bB hk,AU ho (by omega),h.pre hk]
end
/-- a member, and where its parts lie -/
structure Mem where
 name:ByteArray
 heard:Int
 parts:List Int
 A:Option Addr
 cap:Nat
 lo:Nat
 hi:Nat
def Mem.c (m:Mem):List Value:=[.string m.name,J m.heard,.slice m.A m.parts.length m.cap]
def j0:fA Mem:=⟨Mem.c,3,fun _=>rfl,by decide,fun a u hu=>by
 simp only[Mem.c,av,bd,or_false]at hu
 rcases hu with h|h|h<;>subst h<;>rfl⟩
structure lr where
 part:Int
 at_:Int
def lr.c (o:lr):List Value:=[J o.part,J o.at_]
def gi:fA lr:=⟨lr.c,2,fun _=>rfl,by decide,fun a u hu=>by
 simp only[lr.c,av,bd,or_false]at hu
 rcases hu with h|h<;>subst h<;>rfl⟩
structure Gr where
 clock:Int
 wait:Int
 gen:Int
 ms:List Mem
 mA:Option Addr
 mC:Nat
 os:List lr
 oA:Option Addr
 oC:Nat
def Gr.c (g:Gr):List Value:=[J g.clock,J g.wait,J g.gen,.slice g.mA g.ms.length g.mC,.slice g.oA g.os.length g.oC]
abbrev Gr.v (g:Gr):Value:=.agg g.c.toArray
def Mem.a (m:Mem):Mem:={m with A:=none,cap:=0,lo:=0,hi:=0}
abbrev nH (m:Mem):ce:=ey bS m.lo m.hi m.A m.parts
def Gr.a (g:Gr):Gr:={g with ms:=g.ms.map Mem.a,mA:=none,mC:=0,oA:=none,oC:=0}
def vG (ck:Int) (m:Mem):Bool:=bu m.name&&decide (0<=m.heard)&&decide (m.heard<=ck)&&cW (-1) m.parts
def pW (m p:Mem):Bool:=decide (p.name=m.name)
def yq (ck:Int):List Mem->List Mem->Bool
 |_,[]=>true
 |pre,m::l=>vG ck m&&!(pre.any (pW m))&&yq ck (pre++[m]) l
def yl:Int->List lr->Bool
 |_,[]=>true
 |last,o::l=>decide (last<o.part)&&decide (o.part<4)&&decide (0<=o.at_)&&decide (o.at_<=400)&&yl o.part l
def lP (g:Gr):Bool:=iP g.clock&&decide (1<=g.wait)&&decide (g.wait<=1000)&&iP g.gen&&decide ((g.ms.length:Int)<=6)&&decide ((g.os.length:Int)<=4)&&yq g.clock [] g.ms&&yl (-1) g.os
theorem MA {g:Gr}:lP g=true↔iP g.clock=true/\1<=g.wait/\g.wait<=1000/\iP g.gen=true/\(g.ms.length:Int)<=6/\(g.os.length:Int)<=4/\yq g.clock [] g.ms=true/\yl (-1) g.os=true:=by
 unfold lP
 simp only[aQ,decide_eq_true_eq,and_assoc]
theorem jV {ck:Int} {m:Mem}:vG ck m=true↔bu m.name=true/\0<=m.heard/\m.heard<=ck/\cW (-1) m.parts=true:=by
 unfold vG
 simp only[aQ,decide_eq_true_eq,and_assoc]
def Je (lo hi:Nat) (ms:List Mem):ce:=⟨lo,hi,fun w=> ∀ m∈ms,Rd bS lo hi m.A m.parts w,fun _ _ hk h m hm=>(h m hm).st hk⟩
theorem zR {w0 w:World} {L:List (Nat×Obj)} {F:List ce} {lo hi:Nat} {ms:List Mem} (H:Hp w0 w L F) (i:Nat) (hF:F[i]? =some (Je lo hi ms)) {m:Mem} (hm:m∈ms):Rd bS 0 w.heap.size m.A m.parts w:=
 Rd.mono ((H.fact hF) m hm) (bN _) (H.facts _ (ab hF)).2.1
theorem Hp.mpRow {w0 w:World} {L:List (Nat×Obj)} {F:List ce} {lo hi:Nat} {ms:List Mem} (H:Hp w0 w L F) (i:Nat) (hF:F[i]? =some (Je lo hi ms)) {m:Mem} (hm:m∈ms):Hp w0 w L (ey bS lo hi m.A m.parts::F):=by
 refine⟨H.below,H.ents,H.nodup,fun f hf=> ?_⟩
 rcases av.1 hf with rfl|hf
 obtain⟨h1,h2,h3⟩:=H.facts _ (ab hF)
 exact⟨h1 m hm,h2,h3⟩
 exact H.facts f hf
structure Gr.rd (g:Gr) (lo hi:Nat) (w:World):Prop where
 row:Rd j0 lo hi g.mA g.ms w
 parts: ∀ m∈g.ms,Rd bS lo hi m.A m.parts w
 offs:Rd gi lo hi g.oA g.os w
 mC:g.ms.length<=g.mC
 oC:g.os.length<=g.oC
 few:g.ms.length<=1000000/\g.os.length<=1000000
 fewP: ∀ m∈g.ms,m.parts.length<=1000000/\m.parts.length<=m.cap
theorem Gr.rd.st {g:Gr} {lo hi:Nat} {w w':World} (hk: ∀ k,lo<=k->k<hi->w'.heap[k]? =w.heap[k]?) (h:g.rd lo hi w):g.rd lo hi w':=
 ⟨h.row.st hk,fun m hm=>(h.parts m hm).st hk,h.offs.st hk,h.mC,h.oC,h.few,h.fewP⟩
theorem Gr.rd.mono {g:Gr} {lo hi lo' hi':Nat} {w:World} (h:g.rd lo hi w) (hl:lo'<=lo) (hh:hi<=hi'):g.rd lo' hi' w:=
 ⟨h.row.mono hl hh,fun m hm=>(h.parts m hm).mono hl hh,h.offs.mono hl hh,h.mC,h.oC,h.few,h.fewP⟩
def RK (lo hi:Nat) (g:Gr):ce:=⟨lo,hi,g.rd lo hi,fun _ _ hk h=>h.st hk⟩
theorem Hp.gr {w0 w:World} {L:List (Nat×Obj)} {F:List ce} {lo hi:Nat} {g:Gr} (H:Hp w0 w L F) (i:Nat) (hF:F[i]? =some (RK lo hi g)):g.rd 0 w.heap.size w:=
 Gr.rd.mono (H.fact hF) (bN _) (H.facts _ (ab hF)).2.1
theorem Hp.startGr {g:Gr} {w:World} (h:g.rd 0 w.heap.size w):Hp w w [] [ey j0 0 w.heap.size g.mA g.ms,Je 0 w.heap.size g.ms,ey gi 0 w.heap.size g.oA g.os]:=
 (((Hp.start w).learnOld (ey gi 0 w.heap.size g.oA g.os) h.offs (ao _)).learnOld (Je 0 w.heap.size g.ms) h.parts (ao _)).learnOld (ey j0 0 w.heap.size g.mA g.ms) h.row (ao _)
def zl (w w2:World) (g:Gr):Prop:=g.rd w.heap.size w2.heap.size w2/\Below w.heap.size w w2
def BZ:Gr:=⟨0,0,0,[],none,0,[],none,0⟩
theorem re {w w2:World} (h:Below w.heap.size w w2):zl w w2 BZ:=⟨⟨Rd.nil,by simp[BZ],Rd.nil,by simp[BZ],by simp[BZ],by simp[BZ],by simp[BZ]⟩,h⟩
def rF (w w2:World) (ga g':Gr) (Lm Lo:List (Nat×Obj)):Prop:=g'.a=ga/\gG j0 (.slice g'.mA g'.ms.length g'.mC) dh g'.ms Lm/\gG gi (.slice g'.oA g'.os.length g'.oC) eg g'.os Lo/\g'.ms.length<=g'.mC/\g'.os.length<=g'.oC/\(∀ m∈g'.ms,m.parts.length<=m.cap/\w.heap.size<=m.lo)/\Hp w w2 (Lm++Lo) (g'.ms.map nH)
theorem rF.new {w w2:World} {ga g':Gr} {Lm Lo:List (Nat×Obj)} (h:rF w w2 ga g' Lm Lo) (h1:g'.ms.length<=6) (h2:g'.os.length<=1000000) (h3: ∀ m∈g'.ms,m.parts.length<=4):zl w w2 g':=by
 obtain⟨_,a2,a3,a4,a5,a6,a8⟩:=h
 have h0:Hp w w2 (Lm++Lo) []:=a8.forget (au _) (by simp)
 refine⟨⟨a2.rd (K:=[]) (M:=Lo) (by simpa using h0),fun m hm=> ?_,a3.rd (K:=Lm) (M:=[]) (by simpa using h0),a4,a5,by omega,fun m hm=>⟨by have:=h3 m hm;omega,(a6 m hm).1⟩⟩,a8.below⟩
 obtain⟨f1,f2,-⟩:=a8.facts (nH m) (bF hm)
 exact Rd.mono f1 (a6 m hm).2 f2
theorem Fv {α:Type} {Y:fA α} {v:Value} {e:TypeId} {es:List α} {L:List (Nat×Obj)} (h:gG Y v e es L): ∀ x∈L,∃ cur,x.2=.cells cur e (0,0):=by
 rcases h.2 with⟨rfl,_⟩|⟨g,cap,cur,rfl,_⟩
 intro x hx;cases hx
 intro x hx;rw[ar.1 hx];exact⟨cur,rfl⟩
theorem Hp.join2 {α β:Type} {Y1:fA α} {Y2:fA β} {v1 v2:Value} {T1 T2:TypeId} {es1:List α} {es2:List β} {w0 w w':World} {L L1 L2:List (Nat×Obj)} {F:List ce} (H:Hp w0 w L F) (H1:Hp w w' L1 []) (H2:Hp w w' L2 []) (o1:gG Y1 v1 T1 es1 L1) (o2:gG Y2 v2 T2 es2 L2) (hT:eE T1 T2=false):Hp w0 w' (L++L1++L2) F:=by
 have HJ:=H.joinR H1
 rw[aZ]at HJ
 refine⟨HJ.below,fun e he=> ?_,?_,fun f hf=> ?_⟩
 rcases ap.1 he with he|he
 exact HJ.ents e he
 obtain⟨h1,h2⟩:=H2.ents e he
 exact⟨h1,aV H.size h2⟩
 rw[bk,pK]
 refine⟨HJ.nodup,H2.nodup,fun a ha b hb hab=> ?_⟩
 obtain⟨x,hx,rfl⟩:=bD.1 ha
 obtain⟨y,hy,rfl⟩:=bD.1 hb
 have hy2:=H2.ents y hy
 rcases ap.1 hx with hx|hx
 have:=H.ltAll x hx;omega
 have hx2:=H1.ents x hx
 obtain⟨c1,e1⟩:=Fv o1 x hx
 obtain⟨c2,e2⟩:=Fv o2 y hy
 rw[e1]at hx2
 rw[e2]at hy2
 exact sR hx2.1 hy2.1 hT hab
 obtain⟨h1,h2,h3⟩:=HJ.facts f hf
 refine⟨h1,h2,fun e he=> ?_⟩
 rcases ap.1 he with he|he
 exact h3 e he
 have:=(H.facts f hf).2.1
 have:=(H2.ents e he).2
 exact .inr I
theorem AI {F:List ce} {l:List Mem} {m:Mem} {f:ce} (h:f∈F++(l++[m]).map nH):f∈nH m::(F++l.map nH):=by
 simp only[bk,eU,pL,ap,av,bd,or_false]at h⊢
 grind
theorem FY (c:UInt8) (w:World):dt aa tR [.int .u8 (c.toNat:Nat)] w fun v w2=>v=.bool (!rO c)/\Below w.heap.size w w2:=by
 refine aG yw Z Z ?_
 have H:=Hp.start w
 refine W<|Zr<|G (Wb Z)<|U<|W<|Zr<|G (Yi Z) ?_
 refine du (cO Z Z) Z Z Z (fun h4=> ?_) (fun h4=> ?_)
 refine G (Yb Z)<|ZN<|ZN<|G (Kt Z Z)<|G (Wb Z)<|U<|Zt ?_
 have hv:(!rO c)=true:=by unfold rO;simp;omega
 exact cn (v:=.bool true) Z Z ⟨by rw[hv],H.below⟩
 refine G (Yb Z)<|ZG<|G (Yi Z)<|ZG ?_
 refine du (lf Z Z) Z Z Z (fun h7=> ?_) (fun h7=> ?_)
 refine G (N Z Z)<|G (Wb Z)<|U<|Zt ?_
 have hv:(!rO c)=true:=by unfold rO;simp;omega
 exact cn (v:=.bool true) Z Z ⟨by rw[hv],H.below⟩
 refine G (N Z Z)<|G (Wb Z)<|U<|Zt ?_
 have hv:(!rO c)=false:=by unfold rO;simp;omega
 exact cn (v:=.bool false) Z Z ⟨by rw[hv],H.below⟩
theorem FX (s:ByteArray) (w:World):dt aa Eo [.string s] w fun v w2=>v=.bool (bu s)/\Below w.heap.size w w2:=by
 refine aG Ct Z Z ?_
 have H:=Hp.start w
 refine W<|Zr<|G (Wb Z)<|U<|W<|W<|Zr<|G (Yt Z) ?_
 refine du (wg Z Z) Z Z Z (fun h4=> ?_) (fun h4=> ?_)
 refine G (Yb Z)<|ZN<|ZN<|ZN<|G (Kt Z Z)<|U<|ZT Z<|W<|Zr<|G (Wb Z)<|U<|Zt ?_
 have hv:bu s=false:=by unfold bu;simp;simp[h4]
 exact cn (v:=.bool false) Z Z ⟨by rw[hv],H.below⟩
 refine G (Yb Z)<|ZG<|G (Yt Z)<|ZG<|G (Hr kg Z)<|ZG ?_
 refine du (lf Z Z) Z Z Z (fun h8=> ?_) (fun h8=> ?_)
 refine G (N Z Z)<|U<|ZT Z<|W<|Zr<|G (Wb Z)<|U<|Zt ?_
 have hv:bu s=false:=by unfold bu;simp;omega
 exact cn (v:=.bool false) Z Z ⟨by rw[hv],H.below⟩
 refine G (N Z Z)<|U<|ZF Z<|Zk<|W<|Zr<|G (Yt Z)<|QC (Y:=dP) H kg eF iI Z (fun _=>rfl) Z Z fun w1 A11 c11 hc11 H=> ?_
 have hlen:s.data.toList.length=s.size:=by rw[bY];rfl
 refine cu iQ (oW s.data.toList _ _ _ (H.rd0 0 Z) I tR [] yJ (fun c=>!rO c) (fun e w2 _ _=>FY e w2)) Z Z ?_
 rintro _ w2 ⟨rfl,hb⟩;replace H:=H.later hb;clear hb
 refine G (ee Z)<|G (Wb Z)<|U<|Zt ?_
 have h8b:decide ((s.size:Int)<=8)=true:=decide_eq_true I
 have hv:bu s=!(s.data.toList.any fun c=>!rO c):=by unfold bu;rw[decide_eq_true h4,h8b,ig,ig,List.all_eq_not_any_not]
 exact cn (v:=.bool (!(s.data.toList.any fun c=>!rO c))) Z Z ⟨by rw[hv],H.below⟩
theorem f8 (es:List Mem) (A:Option Addr) (c:Nat) (w:World) (hr:Rd j0 0 w.heap.size A es w) (hb:es.length<=1000000) (f:FuncId) (cap:List Value) (hf:bg aa f=true) (pred:Mem->Bool)
  (hp: ∀ e w',e∈es->Below w.heap.size w w'->dt aa f (.agg (j0.f e).toArray::cap) w' fun v w2=>v=.bool (pred e)/\Below w'.heap.size w' w2):
  dt aa mt [.slice A es.length c,.func (.func f) #[] cap.toArray] w fun v w2=>v=J (lO (es.findIdx? pred))/\Below w.heap.size w w2:=by
 refine aG lR Z Z ?_
 have H:=Hp.startRd hr
 refine W<|Zr<|G (Wi Z)<|U<|W<|W<|Zr<|G (Ys Z)<|G (bh gI Z)<|G (Yi Z)<|U<|Zb ?_
 refine cf (τ:=Nat) [4,5,8,9,10,11,12,13,14,15,16,17,18] (fun k=>[(8,J (k:Nat))]) (fun k w'=>k<=es.length/\(∀ j e,j<k->es[j]? =some e->pred e=false)/\Hp w w' [] [ey j0 0 w.heap.size A es]) (fun k=>es.length-k) 0 ⟨by omega,by intro j e hj;omega,H⟩ (dR Z) ?_
 rintro k ρ1 w1 ⟨hk,hno,H⟩
 show CW _ _ _ _ (dK (ia _ _ ρ1) [(8,J (k:Nat))]) w1
 refine W<|Zr ?_
 refine du (cO Z Z) Z Z Z (fun h9=> ?_) (fun h9=> ?_)
 refine U<|W<|ZT Z<|Zk<|W<|Zb<|W<|Zr<|G (Yi Z)<|G (Wi Z)<|U<|W<|Zr<|G (tQ Z)<|G (Ys Z)<|G (Yi Z)<|qg H 0 Z eL Z Z I I Z fun b2 o2 x2 e2=>G (ka (xs:=j0.f x2) n9 Z Z e2.cl) ?_
 refine OK hf Z (hp x2 _ (ab e2.at_) H.below) Z Z ?_;rintro _ w3 ⟨rfl,hb2⟩;replace H:=H.later hb2;clear hb2
 refine nK 16 Z (fun h16=> ?_) (fun h16=> ?_)
 refine U<|ZT Z<|W<|Zr<|G (Yi Z)<|G (Wi Z)<|U<|Zt ?_
 have hi:es.findIdx? pred=some k:=by
  rw[aP]
  obtain⟨hl,hx⟩:=cy e2.at_
  exact⟨hl,by rw[hx];exact h16,fun j hj=>by rw[hno j _ hj (aj I)];simp⟩
 exact cn (v:=J (k:Nat)) Z Z ⟨by rw[hi];rfl,H.below⟩
 refine U<|ZF Z<|Zk<|Zr<|G (bp Z Z I I)<|G (Yi Z)<|U ?_
 refine⟨k+1,⟨by omega,fun j e hj he=> ?_,H⟩,dR Z,Qg,by show es.length- (k+1)<es.length-k;omega⟩
 by_cases hji:j<k
 exact hno j e hji he
 have:j=k:=by omega
 subst this;have he2:=e2.at_;rw[he]at he2;injection he2 with he2;subst he2;exact h16
 refine U<|W<|ZF Z<|Zx<|W<|Zr<|G (Wi Z)<|U<|Zt ?_
 have hi:es.findIdx? pred=none:=by
  rw[cL]
  intro e he
  obtain⟨j,hj⟩:=aN.1 he
  exact hno j e (by have:=(cy hj).1;omega) hj
 exact cn (v:=J (-1)) Z Z ⟨by rw[hi];rfl,H.below⟩
theorem tE (es:List Mem) (A:Option Addr) (c:Nat) (w:World) (hr:Rd j0 0 w.heap.size A es w) (hb:es.length<=1000000) (f:FuncId) (cap:List Value) (hf:bg aa f=true) (pred:Mem->Bool)
  (hp: ∀ e w',e∈es->Below w.heap.size w w'->dt aa f (.agg (j0.f e).toArray::cap) w' fun v w2=>v=.bool (pred e)/\Below w'.heap.size w' w2):
  dt aa lp [.slice A es.length c,.func (.func f) #[] cap.toArray] w fun v w2=>v=.bool (es.any pred)/\Below w.heap.size w w2:=by
 refine aG kT Z Z ?_
 have H:=Hp.start w
 refine W<|Zr<|G (Wb Z)<|U<|W<|Zr<|G (Ys Z)<|G (tQ Z)<|cu dr (f8 es _ _ _ hr hb f cap hf pred hp) Z Z ?_
 rintro _ w1 ⟨rfl,hb⟩;replace H:=H.later hb;clear hb
 refine G (ku Z Z)<|G (Wb Z)<|U<|Zt ?_
 have hv:decide (0<=lO (es.findIdx? pred))=es.any pred:=by
  cases hi:es.findIdx? pred with
  |none=>rw[cL]at hi;simp[lO];exact fun a h=>hi a h
  |some i=>
   obtain⟨hl,h1,-⟩:=aP.1 hi
   have:es.any pred=true:=List.any_eq_true.2 ⟨_,vZ hl,h1⟩
   rw[this];simp[lO]
 exact cn (v:=.bool (decide (0<=lO (es.findIdx? pred)))) Z Z ⟨by rw[hv],H.below⟩
theorem zI (es:List Mem) (A:Option Addr) (c:Nat) (w:World) (hr:Rd j0 0 w.heap.size A es w) (hb:es.length*48<=140737488355328):
  dt aa oH [.slice A es.length c] w fun v w2=> ∃ A' c' L',v=.slice A' es.length c'/\es.length<=c'/\c'<=maxLen/\gG j0 (.slice A' es.length c') dh es L'/\Hp w w2 L' []:=by
 refine aG nR Z Z ?_
 have H:=Hp.startRd hr
 refine W<|Zr<|G (Ws Z)<|U<|W<|W<|Zr<|G (Ys Z) ?_
 refine zS (pU gI Z) Z Z Z (fun h4=> ?_) (fun h4=> ?_)
 refine U<|ZT Z<|W<|Zr<|G (Ws Z)<|U<|Zt ?_
 have he:es=[]:=by
  cases es with
  |nil=>rfl
  |cons e es=>obtain⟨b,o,hA,_⟩:=hr (by simp);subst hA;cases h4
 subst he
 exact cn Z Z ⟨none,0,[],rfl,by simp,by decide,gG.nil,H.forget (by simp) (by simp)⟩
 refine U<|ZF Z<|Zk<|W<|Zr<|OL H eL Z fun w1 b5 H=>G (Ys Z)<|wN (Y:=j0) BP (K:=[]) (L:=[(b5,_)]) (M:=[]) H (sm.lit (by decide) (by rfl)) (es:=[]) (news:=es) Z Z Z (Rd.src (H.fact (i:=0) Z)) (by simpa using hb) Z ?_
 intro A3 c3 w3 L3 h3a h3b ho3 H
 refine G (Ws Z)<|U<|Zt ?_
 exact cn Z Z ⟨A3,c3,L3,rfl,h3a,h3b,ho3,H.forget (by simp) (by simp)⟩
theorem zH (es:List lr) (A:Option Addr) (c:Nat) (w:World) (hr:Rd gi 0 w.heap.size A es w) (hb:es.length*16<=140737488355328):
  dt aa oG [.slice A es.length c] w fun v w2=> ∃ A' c' L',v=.slice A' es.length c'/\es.length<=c'/\c'<=maxLen/\gG gi (.slice A' es.length c') eg es L'/\Hp w w2 L' []:=by
 refine aG nQ Z Z ?_
 have H:=Hp.startRd hr
 refine W<|Zr<|G (Ws Z)<|U<|W<|W<|Zr<|G (Ys Z) ?_
 refine zS (pU iu Z) Z Z Z (fun h4=> ?_) (fun h4=> ?_)
 refine U<|ZT Z<|W<|Zr<|G (Ws Z)<|U<|Zt ?_
 have he:es=[]:=by
  cases es with
  |nil=>rfl
  |cons e es=>obtain⟨b,o,hA,_⟩:=hr (by simp);subst hA;cases h4
 subst he
 exact cn Z Z ⟨none,0,[],rfl,by simp,by decide,gG.nil,H.forget (by simp) (by simp)⟩
 refine U<|ZF Z<|Zk<|W<|Zr<|OL H dd Z fun w1 b5 H=>G (Ys Z)<|wN (Y:=gi) wJ (K:=[]) (L:=[(b5,_)]) (M:=[]) H (sm.lit (by decide) (by rfl)) (es:=[]) (news:=es) Z Z Z (Rd.src (H.fact (i:=0) Z)) (by simpa using hb) Z ?_
 intro A3 c3 w3 L3 h3a h3b ho3 H
 refine G (Ws Z)<|U<|Zt ?_
 exact cn Z Z ⟨A3,c3,L3,rfl,h3a,h3b,ho3,H.forget (by simp) (by simp)⟩
theorem fV: ∀ {l:List Int} {a:Int},cW a l=true->l.Pairwise (· < ·)/\(∀ p∈l,a<p/\p<4)
 |[],_,_=>⟨List.Pairwise.nil,by intro p hp;cases hp⟩
 |x::l,a,h=>by
  unfold cW at h
  simp only[aQ,decide_eq_true_eq]at h
  obtain⟨h1,h2⟩:=fV h.2
  refine⟨eD.2 ⟨fun y hy=>(h2 y hy).1,h1⟩,fun p hp=> ?_⟩
  rcases av.1 hp with rfl|hp
  exact h.1
  have:=h2 p hp;omega
theorem mM: ∀ {l:List Int} {a:Int},cW a l=true->(l.length:Int)<=max 0 (3-a)
 |[],_,_=>by simp;omega
 |x::l,a,h=>by
  unfold cW at h
  simp only[aQ,decide_eq_true_eq]at h
  have:=mM h.2
  simp only[bf]
  omega
theorem AF {ck:Int}: ∀ {l pre:List Mem},yq ck pre l=true↔(∀ m∈l,vG ck m=true)/\(∀ m∈l,∀ p∈pre,pW m p=false)/\l.Pairwise (fun p m=>pW m p=false)
 |[],pre=>by simp[yq]
 |t::l,pre=>by
  unfold yq
  rw[aQ,aQ,AF,eD]
  simp only[av,ap,ar,forall_eq_or_imp,pQ,uV]
  constructor
  rintro⟨⟨h1,h2⟩,h3,h4,h5⟩
  exact⟨⟨h1,h3⟩,⟨fun p hp=>by simpa using h2 p hp,fun a ha p hp=>h4 a ha p (.inl hp)⟩,fun a ha=>h4 a ha t (by simp),h5⟩
  rintro⟨⟨h1,h3⟩,⟨h2,h4⟩,h5,h6⟩
  exact⟨⟨h1,fun p hp=>by simpa using h2 p hp⟩,h3,fun a ha p hp=>hp.elim (h4 a ha p) (fun h=>by have:=h5 a ha;simp at h;rwa[h]),h6⟩
def lu (l:List Mem):Prop:=(l.map Mem.name).Pairwise (· ≠ ·)
theorem BO {l:List Mem}:lu l↔l.Pairwise (fun p m=>pW m p=false):=by
 unfold lu
 rw[jD]
 constructor<;>intro h<;>refine h.imp fun{a b} hab=> ?_
 simpa [pW]using hab
 simpa [pW]using hab
theorem Az: ∀ {l:List lr} {last:Int},yl last l=true↔(∀ o∈l,last<o.part/\o.part<4/\0<=o.at_/\o.at_<=400)/\l.Pairwise (fun a b=>a.part<b.part)
 |[],_=>by simp[yl]
 |o::l,last=>by
  unfold yl
  simp only[aQ,decide_eq_true_eq,Az,eD,av,forall_eq_or_imp]
  constructor
  rintro⟨⟨⟨⟨h1,h2⟩,h3⟩,h4⟩,h5,h6⟩
  exact⟨⟨⟨h1,h2,h3,h4⟩,fun a ha=>by have:=h5 a ha;omega⟩,fun a ha=>(h5 a ha).1,h6⟩
  rintro⟨⟨⟨h1,h2,h3,h4⟩,h5⟩,h6,h7⟩
  exact⟨⟨⟨⟨h1,h2⟩,h3⟩,h4⟩,fun a ha=>by have:=h5 a ha;have:=h6 a ha;omega,h7⟩
theorem dC {g:Gr}:lP g=true↔((0<=g.clock/\g.clock<=1073741824)/\1<=g.wait/\g.wait<=1000/\(0<=g.gen/\g.gen<=1073741824)/\(g.ms.length:Int)<=6/\(g.os.length:Int)<=4)/\((∀ m∈g.ms,vG g.clock m=true)/\lu g.ms)/\(∀ o∈g.os,0<=o.part/\o.part<4/\0<=o.at_/\o.at_<=400)/\g.os.Pairwise (fun a b=>a.part<b.part):=by
 rw[MA,AF,BO,Az]
 unfold iP
 simp only[aQ,decide_eq_true_eq]
 constructor
 rintro⟨h1,h2,h3,h4,h5,h6,⟨h7,_,h9⟩,h10,h11⟩;exact⟨⟨h1,h2,h3,h4,h5,h6⟩,⟨h7,h9⟩,fun o ho=>by have:=h10 o ho;omega,h11⟩
 rintro⟨⟨h1,h2,h3,h4,h5,h6⟩,⟨h7,h9⟩,h10,h11⟩;exact⟨h1,h2,h3,h4,h5,h6,⟨h7,by simp,h9⟩,fun o ho=>by have:=h10 o ho;omega,h11⟩
theorem Ix {α:Type} {f:α->Int} {l:List α} (h:l.Pairwise (fun a b=>f a<f b)) {i:Nat} {a b:α} (ha:l[i]? =some a) (hb:l[i+1]? =some b):f a<f b:=by
 obtain⟨h1,rfl⟩:=cy ha
 obtain⟨h2,rfl⟩:=cy hb
 exact nc.1 h i (i+1) h1 h2 I
theorem Ia {l:List Mem} (h:lu l) {k:Nat} {x:Mem} (hx:l[k]? =some x):(l.take k).any (pW x)=false:=by
 rw[uV]
 intro p hp
 obtain⟨j,hj⟩:=aN.1 hp
 rw[di]at hj
 split at hj
 rename_i hjk
 rw[BO]at h
 obtain⟨h1,rfl⟩:=cy hj
 obtain⟨h2,rfl⟩:=cy hx
 have:=nc.1 h j k h1 h2 hjk
 rw[this];decide
 cases hj
theorem Ew (p t:Mem) (b:Nat) (w:World) (hx:w.heap[b]? =some (.cells t.c.toArray dh (0,0))):
  dt aa sN [.agg p.c.toArray,.pointer (Qd b)] w fun v w2=>v=.bool (pW t p)/\Below w.heap.size w w2:=by
 refine aG xv Z Z ?_
 have H:=Hp.start w
 have hb:=bV hx
 refine W<|Zr<|gY H Z Z fun w1 b2 H=>G (Wb Z)<|U<|W<|Zr<|G (Zf oS Z)<|G (Zd ba H 0 Z Z Z)<|G (Zf oS Z)<|G (bi ba Z ((H.below.cell (p:=⟨b,_,none⟩) hb).trans (aJ (j:=0) hx Z)))<|G (wg Z Z)<|G (Wb Z)<|U<|Zt ?_
 exact cn Z Z ⟨rfl,H.below⟩
theorem uA (p:Mem) (s:ByteArray) (b:Nat) (w:World) (hx:w.heap[b]? =some (.cells #[.string s] pd (0,0))):
  dt aa lJ [.agg p.c.toArray,.pointer (Qd b)] w fun v w2=>v=.bool (decide (p.name=s))/\Below w.heap.size w w2:=by
 refine aG yx Z Z ?_
 have H:=Hp.start w
 have hb:=bV hx
 refine W<|Zr<|gY H Z Z fun w1 b2 H=>G (Wb Z)<|U<|W<|Zr<|G (Zf oS Z)<|G (Zd ba H 0 Z Z Z)<|G (bi ba Z ((H.below.cell (p:=⟨b,_,none⟩) hb).trans (aJ (j:=0) hx Z)))<|G (wg Z Z)<|G (Wb Z)<|U<|Zt ?_
 exact cn Z Z ⟨rfl,H.below⟩
theorem Ds (g:Gr) (w:World) (h:g.rd 0 w.heap.size w) (hok:lP g=true):dt aa Ci [g.v] w fun v w2=>v=J 0/\Below w.heap.size w w2:=by
 refine aG Bs Z Z ?_
 have hmC:=h.mC
 have hoC:=h.oC
 have hfew:=h.few
 have hfp:=h.fewP
 have H:=Hp.startGr h
 obtain⟨ck,wt,gn,ms,mA,mC,os,oA,oC⟩:=g
 dsimp only at hmC hoC hfew hfp H
 show CW _ _ _ _ (args [.agg #[J (ck),J (wt),J (gn),.slice mA ms.length mC,.slice oA os.length oC]]) w
 obtain⟨⟨⟨k1,k2⟩,k3,k4,⟨k5,k6⟩,k7,k8⟩,⟨hmo,hap⟩,hof,hor⟩:=dC.1 hok
 dsimp only at k1 k2 k3 k4 k5 k6 k7 k8 hmo hap hof hor
 refine W<|Zr<|gY H Z Z fun w1 b1 H=>G (Wi Z)<|U<|W<|W<|Zr<|G (Zf jM Z)<|G (Zd am H 0 Z Z Z)<|G (dp Z Z I)<|G (Yb Z)<|ZG<|G (Zf jM Z)<|ZG<|G (Zd am H 0 Z Z Z)<|ZG<|G (eB Z Z I)<|G (N Z Z)<|G (Yb Z)<|ZG<|G (Zf wD Z)<|ZG<|G (Zd am H 0 Z Z Z)<|ZG<|G (dp Z Z I)<|G (N Z Z)<|G (Yb Z)<|ZG<|G (Zf wD Z)<|ZG<|G (Zd am H 0 Z Z Z)<|ZG<|G (eB Z Z I)<|G (N Z Z)<|G (Yb Z)<|ZG<|G (Zf kD Z)<|ZG<|G (Zd am H 0 Z Z Z) ?_
 refine ZG<|G (dp Z Z I)<|G (N Z Z)<|G (Yb Z)<|ZG<|G (Zf kD Z)<|ZG<|G (Zd am H 0 Z Z Z)<|ZG<|G (eB Z Z I)<|G (N Z Z)<|G (Yb Z)<|ZG<|G (Zf dM Z)<|ZG<|G (Zd dw H 0 Z Z Z)<|ZG<|G (bh gI Z)<|ZG<|G (eB Z Z I)<|G (N Z Z)<|G (Yb Z)<|ZG<|G (Zf d4 Z)<|ZG<|G (Zd eG H 0 Z Z Z)<|ZG<|G (bh iu Z)<|ZG<|G (eB Z Z I)<|G (N Z Z)<|U<|ZF Z<|Zk<|W<|W<|Zr<|G (Zf dM Z)<|G (Zd dw H 0 Z Z Z)<|G (bh gI Z) ?_
 refine G (Yi Z)<|U<|Zb ?_
 refine cf (τ:=Nat) [2,3,4,5,6,52,53,54,55,56,57,58,59,60,61,62,63,64,65,66,67,68,69,70,71,72,73,74,75,76,77,78,79,80,81,82,83,84,85,86,87,88,89,90,91,92,93,94,95,96,97,98,99,100,101,102,103,104,105,106,107,108,109,110] (fun k=>[(52,J (k:Nat))]) (fun k w'=>k<=ms.length/\Hp w w' [(b1,.cells #[J (ck),J (wt),J (gn),.slice mA ms.length mC,.slice oA os.length oC] cK (0,0))] [ey j0 0 w.heap.size mA ms,Je 0 w.heap.size ms,ey gi 0 w.heap.size oA os]) (fun k=>ms.length-k) 0 ⟨by omega,H⟩ (dR Z) ?_
 rintro k ρ1 w2 ⟨hk,H⟩
 show CW _ _ _ _ (dK (ia _ _ ρ1) [(52,J (k:Nat))]) w2
 refine W<|Zr ?_
 refine du (cO Z Z) Z Z Z (fun h53=> ?_) (fun h53=> ?_)
 refine U<|W<|ZT Z<|Zk<|W<|Zb<|W ?_
 obtain⟨x,hx⟩: ∃ x,ms[k]? =some x:=⟨_,aj I⟩
 have hmem:=ab hx
 obtain⟨hxn,hx0,hxc,hxp⟩:=jV.1 (hmo x hmem)
 have hxl:=(hfp x hmem).1
 obtain⟨hris,hbnd⟩:=fV hxp
 refine Zr<|G (Yi Z)<|qg H 0 Z eL Z Z I I Z fun bq3 o3 x3 e3=> ?_
 obtain rfl:x=x3:=by have:=e3.at_;rw[hx]at this;exact aY this
 refine G (ka (xs:=Mem.c x) n9 Z Z e3.cl)<|fc H uk Z fun w4 b4 H=>G (Wi Z)<|bA H 0 (#[.string (x.name),J (x.heard),.slice x.A x.parts.length x.cap]) ta Z Z Z Z Z N N fun w5 H=>U<|W<|W<|Zr<|G (Zf oS Z)<|G (Zd ba H 0 Z Z Z)<|cu vQ (FX x.name _) Z Z ?_
 rw[hxn]
 rintro _ w6 ⟨rfl,hb⟩;replace H:=H.later hb;clear hb
 refine G (ee Z)<|G (Yb Z)<|ZG<|G (Zf ru Z)<|ZG<|G (Zd am H 0 Z Z Z)<|ZG<|G (dp Z Z I)<|G (N Z Z)<|G (Yb Z)<|ZG<|G (Zf ru Z)<|ZG<|G (Zd am H 0 Z Z Z)<|ZG<|G (Zf jM Z)<|ZG<|G (Zd am H 1 Z Z Z)<|ZG<|G (eB Z Z I)<|G (N Z Z)<|G (Yb Z)<|ZG<|G (Zf dM Z)<|ZG<|G (Zd dw H 1 Z Z Z)<|ZG<|G (Yi Z)<|ZG<|wd (k:=k) H 0 Z eL Z Z hmC I Z fun A77 H=> ?_
 have htl:(ms.take k).length=k:=by rw[aD];omega
 refine ZG<|G (AE Z)<|ZG ?_
 have hC:=fun q=>tE (ms.take k) A77 q _ (H.rd0 0 Z) I sN [.pointer (Qd b4)] xH (pW x) (fun e w2 _ hw2=>Ew e x b4 w2 ((hw2.block _ (bV (H.ent (i:=0) Z))).trans (H.ent (i:=0) Z)))
 rw[htl,Ia hap hx]at hC
 replace hC:=hC mC
 refine cu kX (hC) Z Z ?_
 rintro _ w7 ⟨rfl,hb⟩;replace H:=H.later hb;clear hb
 refine G (N Z Z)<|U<|ZF Z<|Zk<|W ?_
 replace H:=Hp.mpRow H 2 Z hmem
 refine Zr<|G (Zf ja Z)<|G (Zd cB H 0 Z Z Z)<|G (bh eT Z)<|G (Yi Z)<|U<|Zb ?_
 refine cf (τ:=Nat) [2,5,6,84,85,86,87,88,89,90,91,92,93,94,95,96,97,98,99,100,101,102,103,104,105,106,107,108,109] (fun j=>[(84,J (j:Nat))]) (fun j w'=>j<=x.parts.length/\Hp w w' [(b4,.cells #[.string (x.name),J (x.heard),.slice x.A x.parts.length x.cap] dh (0,0)),(b1,.cells #[J (ck),J (wt),J (gn),.slice mA ms.length mC,.slice oA os.length oC] cK (0,0))] [ey bS 0 w.heap.size x.A x.parts,ey j0 0 w.heap.size A77 (ms.take k),ey j0 0 w.heap.size mA ms,Je 0 w.heap.size ms,ey gi 0 w.heap.size oA os]) (fun j=>x.parts.length-j) 0 ⟨by omega,H⟩ (dR Z) ?_
 rintro j ρ2 w8 ⟨hj,H⟩
 show CW _ _ _ _ (dK (ia _ _ ρ2) [(84,J (j:Nat))]) w8
 refine W<|Zr ?_
 refine du (cO Z Z) Z Z Z (fun h85=> ?_) (fun h85=> ?_)
 refine U<|W<|ZT Z<|Zk<|W<|Zb<|W ?_
 obtain⟨p,hp⟩: ∃ p,x.parts[j]? =some p:=⟨_,aj I⟩
 have hpb:=hbnd p (ab hp)
 refine Zr<|G (Yi Z)<|qg H 0 Z bj Z Z I I Z fun bq9 o9 x9 e9=> ?_
 obtain rfl:p=x9:=by have:=e9.at_;rw[hp]at this;exact aY this
 refine G (bi am Z (e9.cl 0 _ Z))<|G (Wi Z)<|G (Wi Z)<|U<|W<|Zr<|G (Yi Z)<|G (dp Z Z I)<|G (Yb Z)<|ZG<|G (Yi Z)<|ZG<|G (rU Z Z I)<|G (N Z Z)<|G (Yb Z)<|ZG<|G (Yi Z)<|ZG ?_
 refine du (lf Z Z) Z Z Z (fun h97=> ?_) (fun h97=> ?_)
 obtain⟨i,hji⟩: ∃ i,j=i+1:=⟨j-1,by omega⟩
 obtain⟨q,hq⟩: ∃ q,x.parts[i]? =some q:=⟨_,aj I⟩
 have hqp:q<p:=Ix (f:=fun a:Int=>a) hris hq (hji▸hp)
 refine ZG<|G (Yb Z)<|ZG<|G (Zf ja Z)<|ZG<|G (Zd cB H 0 Z Z Z)<|ZG<|G (Yi Z)<|ZG<|G (yc ((i:Nat):Int) Z Z I I I)<|ZG<|qg H 0 Z bj Z Z I I Z fun bq10 o10 x10 e10=> ?_
 obtain rfl:q=x10:=by have:=e10.at_;rw[hq]at this;exact aY this
 refine ZG<|G (bi am Z (e10.cl 0 _ Z))<|ZG<|G (Yi Z)<|ZG<|G (rU Z Z I)<|ZG<|G (Kt Z Z)<|G (N Z Z)<|U<|ZF Z<|Zk<|Zr<|G (bp Z Z I I)<|G (Yi Z)<|U ?_
 exact⟨j+1,⟨by omega,H⟩,dR Z,Qg,by show x.parts.length- (j+1)<x.parts.length-j;omega⟩
 refine ZG<|G (Yb Z)<|ZN<|ZN<|ZN<|ZN<|ZN<|ZN<|ZN<|ZN<|ZG<|G (N Z Z)<|G (N Z Z)<|U<|ZF Z<|Zk<|Zr<|G (bp Z Z I I)<|G (Yi Z)<|U ?_
 exact⟨j+1,⟨by omega,H⟩,dR Z,Qg,by show x.parts.length- (j+1)<x.parts.length-j;omega⟩
 refine U<|W<|ZF Z<|Zx<|Zr<|G (bp Z Z I I)<|G (Yi Z)<|U ?_
 exact⟨k+1,⟨by omega,H.forget (.cons _ (au _)) (fun f hf=>by simp only[av]at hf⊢;grind)⟩,dR Z,Qg,by show ms.length- (k+1)<ms.length-k;omega⟩
 refine U<|W<|ZF Z<|Zx<|W<|W<|Zr<|G (Zf d4 Z)<|G (Zd eG H 0 Z Z Z)<|G (bh iu Z)<|G (Yi Z)<|U<|Zb ?_
 refine cf (τ:=Nat) [2,7,8,114,115,116,117,118,119,120,121,122,123,124,125,126,127,128,129,130,131,132,133,134,135,136,137,138,139,140,141,142,143,144,145,146,147,148,149,150,151,152,153] (fun n=>[(114,J (n:Nat))]) (fun n w'=>n<=os.length/\Hp w w' [(b1,.cells #[J (ck),J (wt),J (gn),.slice mA ms.length mC,.slice oA os.length oC] cK (0,0))] [ey j0 0 w.heap.size mA ms,Je 0 w.heap.size ms,ey gi 0 w.heap.size oA os]) (fun n=>os.length-n) 0 ⟨by omega,H⟩ (dR Z) ?_
 rintro n ρ3 w11 ⟨hn,H⟩
 show CW _ _ _ _ (dK (ia _ _ ρ3) [(114,J (n:Nat))]) w11
 refine W<|Zr ?_
 refine du (cO Z Z) Z Z Z (fun h115=> ?_) (fun h115=> ?_)
 refine U<|W<|ZT Z<|Zk<|W<|Zb<|W ?_
 obtain⟨o,ho⟩: ∃ o,os[n]? =some o:=⟨_,aj I⟩
 have hob:=hof o (ab ho)
 refine Zr<|G (Yi Z)<|qg H 2 Z dd Z Z I I Z fun bq12 o12 x12 e12=> ?_
 obtain rfl:o=x12:=by have:=e12.at_;rw[ho]at this;exact aY this
 refine G (ka (xs:=lr.c o) BR Z Z e12.cl)<|fc H lv Z fun w13 b8 H=>G (Wi Z)<|bA H 0 (#[J (o.part),J (o.at_)]) Aj Z Z Z Z Z N N fun w14 H=>U<|W ?_
 refine bL cD [0,1,2,3,4,5,6,7,8,9,10,11,12,13,14,15,16,17,18,19,20,21,22,23,24,25,26,27,28,29,30,31,32,33] [] [] [0,2,3,4,6,7,8,9,11,12,13,14,16,17,18,19,20,21,22,24,25,26,27,29,31,32,33] (sp []) N N N N Nq (cQ _) ?_
 refine aw Z Z Z Z Z (fun w' hw'=>Zf jC Z)<|aw Z Z Z Z Z (fun w' hw'=>bi am Z (aJ ((H.later hw').ent (i:=0) Z) Z))<|aw Z Z Z Z Z (fun w' hw'=>dp Z Z I)<|aw Z Z Z Z Z (fun w' hw'=>Yb Z)<|aw Z Z Z Z Z (fun w' hw'=>Zf jC Z)<|aw Z Z Z Z Z (fun w' hw'=>bi am Z (aJ ((H.later hw').ent (i:=0) Z) Z))<|aw Z Z Z Z Z (fun w' hw'=>rU Z Z I)<|aw Z Z Z Z Z (fun w' hw'=>N Z Z)<|aw Z Z Z Z Z (fun w' hw'=>Yb Z)<|aw Z Z Z Z Z (fun w' hw'=>Zf oR Z)<|aw Z Z Z Z Z (fun w' hw'=>bi am Z (aJ ((H.later hw').ent (i:=0) Z) Z))<|aw Z Z Z Z Z (fun w' hw'=>dp Z Z I)<|aw Z Z Z Z Z (fun w' hw'=>N Z Z)<|aw Z Z Z Z Z (fun w' hw'=>Yb Z)<|aw Z Z Z Z Z (fun w' hw'=>Zf oR Z)<|aw Z Z Z Z Z (fun w' hw'=>bi am Z (aJ ((H.later hw').ent (i:=0) Z) Z))<|aw Z Z Z Z Z (fun w' hw'=>eB Z Z I)<|aw Z Z Z Z Z (fun w' hw'=>N Z Z)<|aw Z Z Z Z Z (fun w' hw'=>Yb Z)<|aw Z Z Z Z Z (fun w' hw'=>Yi Z) ?_
 refine CN Z Z Z Z Z (fun w' hw'=>lf Z Z) (fun h139=> ?_) (fun h139=> ?_)
 obtain⟨i,hni⟩: ∃ i,n=i+1:=⟨n-1,by omega⟩
 obtain⟨q,hq⟩: ∃ q,os[i]? =some q:=⟨_,aj I⟩
 have hqp:q.part<o.part:=Ix (f:=lr.part) hor hq (hni▸ho)
 refine aw Z Z Z Z Z (fun w' hw'=>Yb Z)<|aw Z Z Z Z Z (fun w' hw'=>Zf d4 Z)<|aw Z Z Z Z Z (fun w' hw'=>bi eG Z (aJ ((H.later hw').ent (i:=1) Z) Z))<|aw Z Z Z Z Z (fun w' hw'=>Yi Z)<|aw Z Z Z Z Z (fun w' hw'=>yc ((i:Nat):Int) Z Z I I I)<|qI H 2 Z Z Z Z Z dd Z Z I I fun bq15 o15 x15 e15=> ?_
 obtain rfl:q=x15:=by have:=e15.at_;rw[hq]at this;exact aY this
 refine aw Z Z Z Z Z (fun w' hw'=>Zf jC Z)<|aw Z Z Z Z Z (fun w' hw'=>bi am Z (e15.later hw' 0 _ Z))<|aw Z Z Z Z Z (fun w' hw'=>Zf jC Z)<|aw Z Z Z Z Z (fun w' hw'=>bi am Z (aJ ((H.later hw').ent (i:=0) Z) Z))<|aw Z Z Z Z Z (fun w' hw'=>rU Z Z I)<|aw Z Z Z Z Z (fun w' hw'=>Kt Z Z)<|aw Z Z Z Z Z (fun w' hw'=>N Z Z)<|aU ?_
 intro w16 hw' hF
 replace H:=H.later hw';clear hw' hF
 refine U<|ZF Z<|Zk<|Zr<|G (bp Z Z I I)<|G (Yi Z)<|U ?_
 exact⟨n+1,⟨by omega,H.forget (.cons _ (au _)) (fun _ h=>h)⟩,dR Z,Qg,by show os.length- (n+1)<os.length-n;omega⟩
 refine aw Z Z Z Z Z (fun w' hw'=>Yb Z)<|eZ Z Z Z Z<|eZ Z Z Z Z<|eZ Z Z Z Z<|eZ Z Z Z Z<|eZ Z Z Z Z<|eZ Z Z Z Z<|eZ Z Z Z Z<|eZ Z Z Z Z<|eZ Z Z Z Z<|eZ Z Z Z Z<|aw Z Z Z Z Z (fun w' hw'=>N Z Z)<|aw Z Z Z Z Z (fun w' hw'=>N Z Z)<|aU ?_
 intro w17 hw' hF
 replace H:=H.later hw';clear hw' hF
 refine U<|ZF Z<|Zk<|Zr<|G (bp Z Z I I)<|G (Yi Z)<|U ?_
 exact⟨n+1,⟨by omega,H.forget (.cons _ (au _)) (fun _ h=>h)⟩,dR Z,Qg,by show os.length- (n+1)<os.length-n;omega⟩
 refine U<|W<|ZF Z<|Zx<|W<|Zr<|G (Wi Z)<|U<|Zt ?_
 exact cn Z Z ⟨rfl,H.below⟩
theorem xr (g:Gr) (w:World) (h:g.rd 0 w.heap.size w):dt aa Es [g.v] w fun v w2=> ∃ (g':Gr) (Lm Lo:List (Nat×Obj)),v=g'.v/\rF w w2 g.a g' Lm Lo:=by
 refine aG Cx Z Z ?_
 have hmC:=h.mC
 have hoC:=h.oC
 have hfew:=h.few
 have hfp:=h.fewP
 have H:=Hp.startGr h
 obtain⟨ck,wt,gn,ms,mA,mC,os,oA,oC⟩:=g
 dsimp only at hmC hoC hfew hfp H
 show CW _ _ _ _ (args [.agg #[J (ck),J (wt),J (gn),.slice mA ms.length mC,.slice oA os.length oC]]) w
 refine W<|Zr<|gY H Z Z fun w1 b1 H=>fc H ed Z fun w2 b2 H=>U<|W ?_
 refine bL cD [0,1,3,4,2,6,5] [7,8,9] [2,5] [0,3,6] (sp [(2,Sp.orow w2.heap.size j0 dh ms),(5,Sp.orow w2.heap.size gi eg os)]) N N N N Nq (cQ _) ?_
 refine aw Z Z Z Z Z (fun w' hw'=>Zf dM Z)<|aw Z Z Z Z Z (fun w' hw'=>bi dw Z (aJ ((H.later hw').ent (i:=1) Z) Z))<|aw Z Z Z Z Z (fun w' hw'=>Zf d4 Z)<|aw Z Z Z Z Z (fun w' hw'=>bi eG Z (aJ ((H.later hw').ent (i:=1) Z) Z))<|yO nZ Z Z Z Z Z (fun w' hw'=>hw'.size) (fun w' hw'=>zI ms _ _ w' ((H.later hw').rd0 0 Z) I) Z fun A6 c6 hc6=>aw Z Z Z Z Z (fun w' hw'=>Zf dM Z)<|yO nY Z Z Z Z Z (fun w' hw'=>hw'.size) (fun w' hw'=>zH os _ _ w' ((H.later hw').rd0 2 Z) I) Z fun A9 c9 hc9=>aU ?_
 intro w3 hw' hF
 obtain⟨hF,Aq,cq,L9,eq,hcq,hm9,ho9,he9,hn9⟩:=hF;cases eq;clear hcq
 obtain⟨hF,Aq,cq,L6,eq,hcq,hm6,ho6,he6,hn6⟩:=hF;cases eq;clear hcq
 replace H:=Hp.join2 H (Hp.ofNew hw' he6 hn6) (Hp.ofNew hw' he9 hn9) ho6 ho9 Z
 clear hw' hF
 refine bA H 1 (#[J (ck),J (wt),J (gn),.slice A6 ms.length c6,.slice oA os.length oC]) un Z Z Z Z Z N N fun w4 H=>G (Zf d4 Z)<|bA H 1 (#[J (ck),J (wt),J (gn),.slice A6 ms.length c6,.slice A9 os.length c9]) ov Z Z Z Z Z N N fun w5 H=>U<|W<|W<|Zr<|G (Zf dM Z)<|G (Zd dw H 1 Z Z Z)<|G (bh gI Z)<|G (Yi Z)<|U<|Zb ?_
 refine cf (τ:=Nat×List Mem×Option Addr) [3,15,16,17,18,19,20,21,22,23,24,25,26,27,28,29,30] (fun(k,_,_)=>[(15,J (k:Nat))]) (fun(k,out,A1) w'=>k<=out.length/\out.length=ms.length/\out.map Mem.a=ms.map Mem.a/\out.drop k=ms.drop k/\(∀ m∈out.take k,m.parts.length<=m.cap/\w.heap.size<=m.lo)/\ ∃ Lm,gG j0 (.slice A1 out.length c6) dh out Lm/\Hp w w' ([(b2,.cells #[J 0,J 0,J 0,.slice none 0 0,.slice none 0 0] cK (0,0)),(b1,.cells #[J (ck),J (wt),J (gn),.slice A1 out.length c6,.slice A9 os.length c9] cK (0,0))]++Lm++L9) ([ey j0 0 w.heap.size mA ms,Je 0 w.heap.size ms,ey gi 0 w.heap.size oA os]++(out.take k).map nH)) (fun(k,out,_)=>out.length-k) (0,ms,A6) ⟨by omega,rfl,rfl,rfl,by simp,L6,ho6,H⟩ (dR Z) ?_
 rintro⟨k,out,A1⟩ ρ1 w6 ⟨hk,hol,hma,hdr,hpc,Lm,ho,H⟩
 show CW _ _ _ _ (dK (ia _ _ ρ1) [(15,J (k:Nat))]) w6
 refine W<|Zr ?_
 refine du (cO Z Z) Z Z Z (fun h16=> ?_) (fun h16=> ?_)
 refine U<|W<|ZT Z<|Zk<|W<|Zb<|W ?_
 obtain⟨x,hx⟩: ∃ x,out[k]? =some x:=⟨_,aj I⟩
 have hxt:=zW hdr hx
 have hmem:=ab hxt
 have hfx:=(hfp x hmem).1
 obtain⟨g,cur,rfl,rfl,row⟩:=ho.row I
 refine Zr<|G (Yi Z)<|G (Wi Z)<|U ?_
 have hlo:=H.size
 refine bL cD [0,1,2,3,4,5,6,7,8,9,10,11] [12] [9] [0,2,3,5,6,7,10,11] (sp [(9,Sp.row w6.heap.size bS x.parts)]) N N N N Nq (cQ _) ?_
 refine aw Z Z Z Z Z (fun w' hw'=>Zf dM Z)<|aw Z Z Z Z Z (fun w' hw'=>bi dw Z (aJ ((H.later hw').ent (i:=1) Z) Z))<|aw Z Z Z Z Z (fun w' hw'=>Yi Z)<|aw Z Z Z Z Z (fun w' hw'=>Zf dM Z)<|aw Z Z Z Z Z (fun w' hw'=>bi dw Z (aJ ((H.later hw').ent (i:=1) Z) Z))<|aw Z Z Z Z Z (fun w' hw'=>Yi Z)<|aw Z Z Z Z Z (fun w' hw'=>cR eL Z Z (by first|omega|(simp only[ae];omega)))<|aw Z Z Z Z Z (fun w' hw'=>Zf ja Z)<|aw Z Z Z Z Z (fun w' hw'=>bU cB row hx 2 Z ((H.later hw').ent (i:=2) Z) Z)<|DB gD Z Z Z Z Z (fun w' hw'=>hw'.size) (fun w' hw'=>xE x.parts _ _ w' (zR (H.later hw') 1 Z hmem) I) Z fun A27 c27 hc27=>aw Z Z Z Z Z (fun w' hw'=>cR eL Z Z (by first|omega|(simp only[ae];omega)))<|aw Z Z Z Z Z (fun w' hw'=>Zf ja Z)<|aU ?_
 intro w7 hw' hF
 obtain⟨hF,Aq,cq,eq,hcq,hrw27⟩:=hF;cases eq;clear hcq
 replace H:=H.learnRd hw' hrw27
 clear hw' hF
 refine ni H 2 ({x with A:=A27,cap:=c27,lo:=w6.heap.size,hi:=w7.heap.size}) jQ row hx 2 Z Z Z Z Z Z N fun w9 cur8 row8 H=> ?_
 have hs10:(out.set k ({x with A:=A27,cap:=c27,lo:=w6.heap.size,hi:=w7.heap.size}))[k]? =some ({x with A:=A27,cap:=c27,lo:=w6.heap.size,hi:=w7.heap.size}):=al (cy hx).1
 refine U<|Zr<|G (bp Z Z I I)<|G (Yi Z)<|U ?_
 obtain⟨z1,z2,z3⟩:=O7 (x':={x with A:=A27,cap:=c27,lo:=w6.heap.size,hi:=w7.heap.size}) hx hma hdr Z
 have hown:=d7.own (g:=g) (e:=dh) row8
 refine⟨(k+1,out.set k {x with A:=A27,cap:=c27,lo:=w6.heap.size,hi:=w7.heap.size},some ⟨g,0,none⟩),⟨by rw[ae];omega,by rw[ae];exact hol,z1,z2,?_,_,hown,?_⟩,dR Z,Qg,by show(out.set k _).length- (k+1)<out.length-k;rw[ae];omega⟩
 rw[z3];intro t ht;rcases ap.1 ht with ht|ht;exact hpc t ht;rw[ar.1 ht];exact⟨hc27,hlo⟩
 rw[ae];exact H.forget (au _) (fun f hf=>by rw[z3]at hf;exact AI hf)
 refine U<|W<|ZF Z<|Zx<|W<|Zr<|G (Zw aO H 1 Z Z Z)<|bA H 0 (#[J (ck),J (wt),J (gn),.slice A1 out.length c6,.slice A9 os.length c9]) bz Z Z Z Z Z N N fun w11 H=>U<|Zt ?_
 have hke:k=out.length:=by omega
 rw[hke,bJ]at H hpc
 exact eW (cs0:= #[J (ck),J (wt),J (gn),.slice A1 out.length c6,.slice A9 os.length c9]) Z aO Z (H.ent (i:=0) Z) Z ⟨⟨ck,wt,gn,out,A1,c6,os,A9,c9⟩,Lm,L9,rfl,by unfold Gr.a;dsimp only;rw[hma],ho,ho9,by dsimp only;omega,hc9,hpc,H.forget (by rw[aB];exact .cons _ (.cons _ (au _))) (fun f hf=>cz _ hf)⟩
theorem Hp.joinG {w0 w w':World} {L Lm Lo:List (Nat×Obj)} {F:List ce} {ms:List Mem} (H:Hp w0 w L F) (H':Hp w w' (Lm++Lo) (ms.map nH)) (hlo: ∀ m∈ms,w.heap.size<=m.lo):Hp w0 w' (L++Lm++Lo) (F++ms.map nH):=by
 refine(H.joinF H' fun f hf=> ?_).perm ?_
 obtain⟨m,hm,rfl⟩:=bD.1 hf
 exact hlo m hm
 rw[aB];exact xX
def qx (g:Gr) (s:ByteArray):Int:=lO (g.ms.findIdx? fun p=>decide (p.name=s))
theorem AJ {l l2:List Mem} (h:l2.map Mem.a=l.map Mem.a) {i:Nat} {t:Mem} (ht:l[i]? =some t): ∃ t2,l2[i]? =some t2/\t2.a=t.a:=by
 have:=congrArg (fun x=>x[i]?) h
 simp only[aI,ht,eQ]at this
 exact iY.1 this
def jd (g:Gr) (n:Int):Bool:=decide (0<=n)&&decide (n<=4)&&decide (g.gen<1073741824)
theorem OB (n:Int) (w:World) (h1:1<=n) (h2:n<=1000):dt aa FS [J n] w fun v w2=>v=.tuple #[.agg #[J 0,J n,J 0,.slice none 0 0,.slice none 0 0],J 0]/\Below w.heap.size w w2:=by
 refine aG EE Z Z ?_
 have H:=Hp.start w
 refine W<|Zr<|fc H ed Z fun w1 b2 H=>G (Wi Z)<|U<|W<|W<|Zr<|G (Yi Z)<|G (dp Z Z I)<|G (Yb Z)<|ZG<|G (Yi Z)<|ZG<|G (eB Z Z I)<|G (N Z Z)<|U<|ZF Z<|Zk<|W<|Zr<|G (Yi Z)<|G (bC (cs:= #[J (0),J (n),J (0),.slice none 0 0,.slice none 0 0]) kh ed N)<|bA H 0 (#[J (0),J (n),J (0),.slice none 0 0,.slice none 0 0]) bz Z Z Z Z Z N N fun w2 H=>G (Wi Z)<|U<|Zt ?_
 exact ch (cs0:= #[J 0,J n,J 0,.slice none 0 0,.slice none 0 0]) (v1:=J 0) Z aO Z (H.ent (i:=0) Z) Z Z ⟨rfl,H.below⟩
theorem tD (g:Gr) (n:Int) (w:World):dt aa zv [g.v,J n] w fun v w2=>v=.bool (jd g n)/\Below w.heap.size w w2:=by
 refine aG yy Z Z ?_
 have H:=Hp.start w
 obtain⟨ck,wt,gn,ms,mA,mC,os,oA,oC⟩:=g
 show CW _ _ _ _ (args [.agg #[J (ck),J (wt),J (gn),.slice mA ms.length mC,.slice oA os.length oC],J (n)]) w
 refine W<|Zr<|gY H Z Z fun w1 b2 H=>G (Wb Z)<|U<|W<|Zr<|G (Yi Z) ?_
 refine du (ku Z Z) Z Z Z (fun h6=> ?_) (fun h6=> ?_)
 refine G (Yb Z)<|ZG<|G (Yi Z)<|ZG ?_
 refine du (IL Z Z) Z Z Z (fun h9=> ?_) (fun h9=> ?_)
 refine G (Kt Z Z)<|G (Yb Z)<|ZG<|G (Zf kD Z)<|ZG<|G (Zd am H 0 Z Z Z)<|ZG ?_
 refine du (cO Z Z) Z Z Z (fun h14=> ?_) (fun h14=> ?_)
 refine G (Kt Z Z)<|G (Wb Z)<|U<|Zt ?_
 have hv:jd ⟨ck,wt,gn,ms,mA,mC,os,oA,oC⟩ n=true:=by unfold jd;simp;omega
 exact cn (v:=.bool true) Z Z ⟨by rw[hv],H.below⟩
 refine G (Kt Z Z)<|G (Wb Z)<|U<|Zt ?_
 have hv:jd ⟨ck,wt,gn,ms,mA,mC,os,oA,oC⟩ n=false:=by unfold jd;simp;omega
 exact cn (v:=.bool false) Z Z ⟨by rw[hv],H.below⟩
 refine G (Kt Z Z)<|G (Yb Z)<|ZN<|ZN<|ZN<|G (N Z Z)<|G (Wb Z)<|U<|Zt ?_
 have hv:jd ⟨ck,wt,gn,ms,mA,mC,os,oA,oC⟩ n=false:=by unfold jd;simp;omega
 exact cn (v:=.bool false) Z Z ⟨by rw[hv],H.below⟩
 refine G (Yb Z)<|ZN<|ZN<|G (N Z Z)<|G (Yb Z)<|ZN<|ZN<|ZN<|G (N Z Z)<|G (Wb Z)<|U<|Zt ?_
 have hv:jd ⟨ck,wt,gn,ms,mA,mC,os,oA,oC⟩ n=false:=by unfold jd;simp;omega
 exact cn (v:=.bool false) Z Z ⟨by rw[hv],H.below⟩
theorem mU (g:Gr) (s:ByteArray) (w:World) (h:g.rd 0 w.heap.size w) (hok:lP g=true) (hn:bu s=true):dt aa Ep [g.v,.string s] w fun v w2=> ∃ (g':Gr) (Lm Lo:List (Nat×Obj)),v=.tuple #[g'.v,J (qx g s),J 0]/\rF w w2 g.a g' Lm Lo:=by
 refine aG Cu Z Z ?_
 have hmC:=h.mC
 have hoC:=h.oC
 have hfew:=h.few
 have hfp:=h.fewP
 have H:=Hp.startGr h
 obtain⟨ck,wt,gn,ms,mA,mC,os,oA,oC⟩:=g
 dsimp only at hmC hoC hfew hfp H
 show CW _ _ _ _ (args [.agg #[J (ck),J (wt),J (gn),.slice mA ms.length mC,.slice oA os.length oC],.string (s)]) w
 refine W<|Zr<|gY H Z Z fun w1 b2 H=>Q7 H Z Z fun w2 b3 H=>fc H ed Z fun w3 b4 H=>G (Wi Z)<|G (Wi Z)<|U<|W<|W<|Zr<|G (Zw aO H 2 Z Z Z)<|cu uL (Ds ⟨ck,wt,gn,ms,mA,mC,os,oA,oC⟩ _ ⟨H.rd0 0 Z,fun m hm=>zR H 1 Z hm,H.rd0 2 Z,hmC,hoC,hfew,hfp⟩ hok) Z Z ?_
 rintro _ w4 ⟨rfl,hb⟩;replace H:=H.later hb;clear hb
 refine G (Wi Z)<|U<|W<|Zr<|G (Yi Z)<|G (cv Z Z Z)<|U<|ZF Z<|Zk<|W<|W<|Zr<|G (Zd ba H 1 Z Z Z)<|cu vQ (FX s _) Z Z ?_
 rw[hn]
 rintro _ w5 ⟨rfl,hb⟩;replace H:=H.later hb;clear hb
 refine G (ee Z)<|U<|ZF Z<|Zk<|W ?_
 refine rz cD [2,4] [0,1,3,5,6,7,8] [2,4] 7 N N N Nq ?_
 refine aw Z Z Z Z Z (fun w' hw'=>Zf dM Z)<|aw Z Z Z Z Z (fun w' hw'=>AE Z)<|aU ?_
 intro w6 hw';replace H:=H.later hw';clear hw'
 refine uj 0 3 N Z Z ?_ ?_
 refine G (Zw aO H 2 Z Z Z)<|U ?_
 refine uj 1 3 N Z Z ?_ ?_
 refine cu ol (xr ⟨ck,wt,gn,ms,mA,mC,os,oA,oC⟩ _ ⟨H.rd0 0 Z,fun m hm=>zR H 1 Z hm,H.rd0 2 Z,hmC,hoC,hfew,hfp⟩) Z Z ?_
 rintro _ w7 ⟨⟨ck2,wt2,gn2,ms2,mA2,mC2,os2,oA2,oC2⟩,Lm,Lo,rfl,ha2,ho2,hoo2,hmc2,hoc2,hpc2,hj2⟩
 have hlo2:=H.size
 replace H:=Hp.joinG H hj2 (fun m hm=>(hpc2 m hm).2);clear hj2
 simp only[Gr.a,Gr.mk.injEq]at ha2
 obtain⟨e1,e2,e3,hma,-,-,e4,-,-⟩:=ha2
 obtain rfl:ck=ck2:=e1.symm
 obtain rfl:wt=wt2:=e2.symm
 obtain rfl:gn=gn2:=e3.symm
 obtain rfl:os=os2:=e4.symm
 dsimp only at ho2 hoo2 hmc2 hoc2 hpc2 H
 replace hpc2: ∀ m∈ms2,m.parts.length<=m.cap/\w.heap.size<=m.lo:=fun m hm=>⟨(hpc2 m hm).1,aV hlo2 (hpc2 m hm).2⟩
 have hml2:ms2.length=ms.length:=by have:=congrArg da hma;simpa using this
 refine U<|df 3 N Z<|G (Zd dw H 2 Z Z Z)<|U<|df 5 N Z<|cu dr (f8 ms mA mC _ (H.rd0 0 Z) I lJ [.pointer (Qd b3)] n6 (fun p=>decide (p.name=s)) (fun e w2 _ hw2=>uA e s b3 w2 ((hw2.block _ (bV (H.ent (i:=1) Z))).trans (H.ent (i:=1) Z)))) Z Z ?_
 rintro _ w8 ⟨rfl,hb⟩;replace H:=H.later hb;clear hb
 refine U<|df 6 N Z<|bA H 0 (#[J (ck),J (wt),J (gn),.slice mA2 ms2.length mC2,.slice oA2 os.length oC2]) bz Z Z Z Z Z N N fun w9 H=>U<|df 7 N Z<|G (Wi Z)<|U<|df 8 N Z<|G (Wi Z)<|U<|cj N<|Zt ?_
 exact gM (cs0:= #[J (ck),J (wt),J (gn),.slice mA2 ms2.length mC2,.slice oA2 os.length oC2]) (v1:=J (lO (ms.findIdx? fun p=>decide (p.name=s)))) (v2:=J 0) Z aO Z (H.ent (i:=0) Z) Z Z Z ⟨⟨ck,wt,gn,ms2,mA2,mC2,os,oA2,oC2⟩,Lm,Lo,rfl,by unfold Gr.a;dsimp only;rw[hma],ho2,hoo2,hmc2,hoc2,hpc2,H.forget (by rw[aB];exact .cons _ (.cons _ (.cons _ (au _)))) (fun f hf=>by simp only[av,ap];grind)⟩
 refine G (Zd dw H 2 Z Z Z)<|U<|df 1 N Z<|cu ol (xr ⟨ck,wt,gn,ms,mA,mC,os,oA,oC⟩ _ ⟨H.rd0 0 Z,fun m hm=>zR H 1 Z hm,H.rd0 2 Z,hmC,hoC,hfew,hfp⟩) Z Z ?_
 rintro _ w10 ⟨⟨ck2,wt2,gn2,ms2,mA2,mC2,os2,oA2,oC2⟩,Lm,Lo,rfl,ha2,ho2,hoo2,hmc2,hoc2,hpc2,hj2⟩
 have hlo2:=H.size
 replace H:=Hp.joinG H hj2 (fun m hm=>(hpc2 m hm).2);clear hj2
 simp only[Gr.a,Gr.mk.injEq]at ha2
 obtain⟨e1,e2,e3,hma,-,-,e4,-,-⟩:=ha2
 obtain rfl:ck=ck2:=e1.symm
 obtain rfl:wt=wt2:=e2.symm
 obtain rfl:gn=gn2:=e3.symm
 obtain rfl:os=os2:=e4.symm
 dsimp only at ho2 hoo2 hmc2 hoc2 hpc2 H
 replace hpc2: ∀ m∈ms2,m.parts.length<=m.cap/\w.heap.size<=m.lo:=fun m hm=>⟨(hpc2 m hm).1,aV hlo2 (hpc2 m hm).2⟩
 have hml2:ms2.length=ms.length:=by have:=congrArg da hma;simpa using this
 refine U<|df 5 N Z<|cu dr (f8 ms mA mC _ (H.rd0 0 Z) I lJ [.pointer (Qd b3)] n6 (fun p=>decide (p.name=s)) (fun e w2 _ hw2=>uA e s b3 w2 ((hw2.block _ (bV (H.ent (i:=1) Z))).trans (H.ent (i:=1) Z)))) Z Z ?_
 rintro _ w11 ⟨rfl,hb⟩;replace H:=H.later hb;clear hb
 refine U<|df 6 N Z<|bA H 0 (#[J (ck),J (wt),J (gn),.slice mA2 ms2.length mC2,.slice oA2 os.length oC2]) bz Z Z Z Z Z N N fun w12 H=>U<|df 7 N Z<|G (Wi Z)<|U<|df 8 N Z<|G (Wi Z)<|U<|cj N<|Zt ?_
 exact gM (cs0:= #[J (ck),J (wt),J (gn),.slice mA2 ms2.length mC2,.slice oA2 os.length oC2]) (v1:=J (lO (ms.findIdx? fun p=>decide (p.name=s)))) (v2:=J 0) Z aO Z (H.ent (i:=0) Z) Z Z Z ⟨⟨ck,wt,gn,ms2,mA2,mC2,os,oA2,oC2⟩,Lm,Lo,rfl,by unfold Gr.a;dsimp only;rw[hma],ho2,hoo2,hmc2,hoc2,hpc2,H.forget (by rw[aB];exact .cons _ (.cons _ (.cons _ (au _)))) (fun f hf=>by simp only[av,ap];grind)⟩
 refine G (Zd dw H 2 Z Z Z)<|U<|df 0 N Z<|G (Zw aO H 2 Z Z Z)<|U<|df 1 N Z<|cu ol (xr ⟨ck,wt,gn,ms,mA,mC,os,oA,oC⟩ _ ⟨H.rd0 0 Z,fun m hm=>zR H 1 Z hm,H.rd0 2 Z,hmC,hoC,hfew,hfp⟩) Z Z ?_
 rintro _ w13 ⟨⟨ck2,wt2,gn2,ms2,mA2,mC2,os2,oA2,oC2⟩,Lm,Lo,rfl,ha2,ho2,hoo2,hmc2,hoc2,hpc2,hj2⟩
 have hlo2:=H.size
 replace H:=Hp.joinG H hj2 (fun m hm=>(hpc2 m hm).2);clear hj2
 simp only[Gr.a,Gr.mk.injEq]at ha2
 obtain⟨e1,e2,e3,hma,-,-,e4,-,-⟩:=ha2
 obtain rfl:ck=ck2:=e1.symm
 obtain rfl:wt=wt2:=e2.symm
 obtain rfl:gn=gn2:=e3.symm
 obtain rfl:os=os2:=e4.symm
 dsimp only at ho2 hoo2 hmc2 hoc2 hpc2 H
 replace hpc2: ∀ m∈ms2,m.parts.length<=m.cap/\w.heap.size<=m.lo:=fun m hm=>⟨(hpc2 m hm).1,aV hlo2 (hpc2 m hm).2⟩
 have hml2:ms2.length=ms.length:=by have:=congrArg da hma;simpa using this
 refine U<|df 5 N Z<|cu dr (f8 ms mA mC _ (H.rd0 0 Z) I lJ [.pointer (Qd b3)] n6 (fun p=>decide (p.name=s)) (fun e w2 _ hw2=>uA e s b3 w2 ((hw2.block _ (bV (H.ent (i:=1) Z))).trans (H.ent (i:=1) Z)))) Z Z ?_
 rintro _ w14 ⟨rfl,hb⟩;replace H:=H.later hb;clear hb
 refine U<|df 6 N Z<|bA H 0 (#[J (ck),J (wt),J (gn),.slice mA2 ms2.length mC2,.slice oA2 os.length oC2]) bz Z Z Z Z Z N N fun w15 H=>U<|df 7 N Z<|G (Wi Z)<|U<|df 8 N Z<|G (Wi Z)<|U<|cj N<|Zt ?_
 exact gM (cs0:= #[J (ck),J (wt),J (gn),.slice mA2 ms2.length mC2,.slice oA2 os.length oC2]) (v1:=J (lO (ms.findIdx? fun p=>decide (p.name=s)))) (v2:=J 0) Z aO Z (H.ent (i:=0) Z) Z Z Z ⟨⟨ck,wt,gn,ms2,mA2,mC2,os,oA2,oC2⟩,Lm,Lo,rfl,by unfold Gr.a;dsimp only;rw[hma],ho2,hoo2,hmc2,hoc2,hpc2,H.forget (by rw[aB];exact .cons _ (.cons _ (.cons _ (au _)))) (fun f hf=>by simp only[av,ap];grind)⟩
theorem Dr (g:Gr) (s:ByteArray) (gn_:Int) (w:World) (h:g.rd 0 w.heap.size w) (hok:lP g=true) (hn:bu s=true) (hi:qx g s= -1):dt aa tl [g.v,.string s,J gn_] w fun v w2=>v=.tuple #[.agg #[J 0,J 0,J 0,.slice none 0 0,.slice none 0 0],J 0,J 5]/\Below w.heap.size w w2:=by
 refine aG r7 Z Z ?_
 have hmC:=h.mC
 have hoC:=h.oC
 have hfew:=h.few
 have hfp:=h.fewP
 have H:=Hp.startGr h
 obtain⟨ck,wt,gn,ms,mA,mC,os,oA,oC⟩:=g
 dsimp only at hmC hoC hfew hfp H
 show CW _ _ _ _ (args [.agg #[J (ck),J (wt),J (gn),.slice mA ms.length mC,.slice oA os.length oC],.string (s),J (gn_)]) w
 refine W<|Zr<|gY H Z Z fun w1 b3 H=>fc H ed Z fun w2 b6 H=>G (Wi Z)<|G (Wi Z)<|U<|W<|Zr<|G (Zw aO H 1 Z Z Z)<|G (Yt Z)<|cu gE (mU ⟨ck,wt,gn,ms,mA,mC,os,oA,oC⟩ s _ ⟨H.rd0 0 Z,fun m hm=>zR H 1 Z hm,H.rd0 2 Z,hmC,hoC,hfew,hfp⟩ hok hn) Z Z ?_
 rintro _ w3 ⟨⟨ck2,wt2,gn2,ms2,mA2,mC2,os2,oA2,oC2⟩,Lm,Lo,rfl,ha2,ho2,hoo2,hmc2,hoc2,hpc2,hj2⟩
 have hlo2:=H.size
 replace H:=Hp.joinG H hj2 (fun m hm=>(hpc2 m hm).2);clear hj2
 simp only[Gr.a,Gr.mk.injEq]at ha2
 obtain⟨e1,e2,e3,hma,-,-,e4,-,-⟩:=ha2
 obtain rfl:ck=ck2:=e1.symm
 obtain rfl:wt=wt2:=e2.symm
 obtain rfl:gn=gn2:=e3.symm
 obtain rfl:os=os2:=e4.symm
 dsimp only at ho2 hoo2 hmc2 hoc2 hpc2 H
 replace hpc2: ∀ m∈ms2,m.parts.length<=m.cap/\w.heap.size<=m.lo:=fun m hm=>⟨(hpc2 m hm).1,aV hlo2 (hpc2 m hm).2⟩
 have hml2:ms2.length=ms.length:=by have:=congrArg da hma;simpa using this
 rw[hi]
 refine G (Yu Z)<|G (Xa Z Z)<|G (Xi Z Z)<|G (Xi Z Z)<|bA H 1 (#[J (ck),J (wt),J (gn),.slice mA2 ms2.length mC2,.slice oA2 os.length oC2]) bz Z Z Z Z Z N N fun w4 H=>G (Wi Z)<|G (Wi Z)<|U<|W<|Zb<|W<|Zr<|G (Yi Z)<|G (cv Z Z Z)<|G (Wb Z)<|U<|ZF Z<|W<|Zr<|G (Yi Z)<|G (wr Z Z (by decide))<|G (Wb Z)<|U<|ZT Z<|W<|Zr<|G (bC (cs:= #[J (0),J (0),J (0),.slice none 0 0,.slice none 0 0]) kh ed N)<|bA H 0 (#[J (0),J (0),J (0),.slice none 0 0,.slice none 0 0]) bz Z Z Z Z Z N N fun w5 H=>G (Wi Z)<|G (Wi Z)<|U<|Zt ?_
 exact gM (cs0:= #[J 0,J 0,J 0,.slice none 0 0,.slice none 0 0]) (v1:=J 0) (v2:=J 5) Z aO Z (H.ent (i:=0) Z) Z Z Z ⟨rfl,H.below⟩
theorem Bl (g:Gr) (s:ByteArray) (gn_:Int) (w:World) (h:g.rd 0 w.heap.size w) (hok:lP g=true) (hn:bu s=true) (i:Nat) (hi:qx g s=i) (hg:g.gen≠gn_):dt aa tl [g.v,.string s,J gn_] w fun v w2=>v=.tuple #[.agg #[J 0,J 0,J 0,.slice none 0 0,.slice none 0 0],J 0,J 10]/\Below w.heap.size w w2:=by
 refine aG r7 Z Z ?_
 have hmC:=h.mC
 have hoC:=h.oC
 have hfew:=h.few
 have hfp:=h.fewP
 have H:=Hp.startGr h
 obtain⟨ck,wt,gn,ms,mA,mC,os,oA,oC⟩:=g
 dsimp only at hmC hoC hfew hfp H
 show CW _ _ _ _ (args [.agg #[J (ck),J (wt),J (gn),.slice mA ms.length mC,.slice oA os.length oC],.string (s),J (gn_)]) w
 dsimp only at hg
 refine W<|Zr<|gY H Z Z fun w1 b3 H=>fc H ed Z fun w2 b6 H=>G (Wi Z)<|G (Wi Z)<|U<|W<|Zr<|G (Zw aO H 1 Z Z Z)<|G (Yt Z)<|cu gE (mU ⟨ck,wt,gn,ms,mA,mC,os,oA,oC⟩ s _ ⟨H.rd0 0 Z,fun m hm=>zR H 1 Z hm,H.rd0 2 Z,hmC,hoC,hfew,hfp⟩ hok hn) Z Z ?_
 rintro _ w3 ⟨⟨ck2,wt2,gn2,ms2,mA2,mC2,os2,oA2,oC2⟩,Lm,Lo,rfl,ha2,ho2,hoo2,hmc2,hoc2,hpc2,hj2⟩
 have hlo2:=H.size
 replace H:=Hp.joinG H hj2 (fun m hm=>(hpc2 m hm).2);clear hj2
 simp only[Gr.a,Gr.mk.injEq]at ha2
 obtain⟨e1,e2,e3,hma,-,-,e4,-,-⟩:=ha2
 obtain rfl:ck=ck2:=e1.symm
 obtain rfl:wt=wt2:=e2.symm
 obtain rfl:gn=gn2:=e3.symm
 obtain rfl:os=os2:=e4.symm
 dsimp only at ho2 hoo2 hmc2 hoc2 hpc2 H
 replace hpc2: ∀ m∈ms2,m.parts.length<=m.cap/\w.heap.size<=m.lo:=fun m hm=>⟨(hpc2 m hm).1,aV hlo2 (hpc2 m hm).2⟩
 have hml2:ms2.length=ms.length:=by have:=congrArg da hma;simpa using this
 rw[hi]
 refine G (Yu Z)<|G (Xa Z Z)<|G (Xi Z Z)<|G (Xi Z Z)<|bA H 1 (#[J (ck),J (wt),J (gn),.slice mA2 ms2.length mC2,.slice oA2 os.length oC2]) bz Z Z Z Z Z N N fun w4 H=>G (Wi Z)<|G (Wi Z)<|U<|W<|Zb<|W<|Zr<|G (Yi Z)<|G (cv Z Z Z)<|G (Wb Z)<|U<|ZF Z<|W<|Zr<|G (Yi Z)<|G (dp Z Z I)<|G (Wb Z)<|U<|ZF Z<|W<|Zr<|G (Zf kD Z)<|G (Zd am H 1 Z Z Z)<|G (Yi Z)<|G (lN Z Z I)<|G (Wb Z)<|U<|ZT Z<|W<|Zr<|G (bC (cs:= #[J (0),J (0),J (0),.slice none 0 0,.slice none 0 0]) kh ed N)<|bA H 0 (#[J (0),J (0),J (0),.slice none 0 0,.slice none 0 0]) bz Z Z Z Z Z N N fun w5 H=>G (Wi Z)<|G (Wi Z)<|U ?_
 refine Zt ?_
 exact gM (cs0:= #[J 0,J 0,J 0,.slice none 0 0,.slice none 0 0]) (v1:=J 0) (v2:=J 10) Z aO Z (H.ent (i:=0) Z) Z Z Z ⟨rfl,H.below⟩
theorem zU (g:Gr) (s:ByteArray) (gn_:Int) (w:World) (h:g.rd 0 w.heap.size w) (hok:lP g=true) (hn:bu s=true) (i:Nat) (hi:qx g s=i) (hg:g.gen=gn_):dt aa tl [g.v,.string s,J gn_] w fun v w2=> ∃ (g':Gr) (Lm Lo:List (Nat×Obj)),v=.tuple #[g'.v,J (i:Nat),J 0]/\rF w w2 g.a g' Lm Lo:=by
 refine aG r7 Z Z ?_
 have hmC:=h.mC
 have hoC:=h.oC
 have hfew:=h.few
 have hfp:=h.fewP
 have H:=Hp.startGr h
 obtain⟨ck,wt,gn,ms,mA,mC,os,oA,oC⟩:=g
 dsimp only at hmC hoC hfew hfp H
 show CW _ _ _ _ (args [.agg #[J (ck),J (wt),J (gn),.slice mA ms.length mC,.slice oA os.length oC],.string (s),J (gn_)]) w
 dsimp only at hg
 refine W<|Zr<|gY H Z Z fun w1 b3 H=>fc H ed Z fun w2 b6 H=>G (Wi Z)<|G (Wi Z)<|U<|W<|Zr<|G (Zw aO H 1 Z Z Z)<|G (Yt Z)<|cu gE (mU ⟨ck,wt,gn,ms,mA,mC,os,oA,oC⟩ s _ ⟨H.rd0 0 Z,fun m hm=>zR H 1 Z hm,H.rd0 2 Z,hmC,hoC,hfew,hfp⟩ hok hn) Z Z ?_
 rintro _ w3 ⟨⟨ck2,wt2,gn2,ms2,mA2,mC2,os2,oA2,oC2⟩,Lm,Lo,rfl,ha2,ho2,hoo2,hmc2,hoc2,hpc2,hj2⟩
 have hlo2:=H.size
 replace H:=Hp.joinG H hj2 (fun m hm=>(hpc2 m hm).2);clear hj2
 simp only[Gr.a,Gr.mk.injEq]at ha2
 obtain⟨e1,e2,e3,hma,-,-,e4,-,-⟩:=ha2
 obtain rfl:ck=ck2:=e1.symm
 obtain rfl:wt=wt2:=e2.symm
 obtain rfl:gn=gn2:=e3.symm
 obtain rfl:os=os2:=e4.symm
 dsimp only at ho2 hoo2 hmc2 hoc2 hpc2 H
 replace hpc2: ∀ m∈ms2,m.parts.length<=m.cap/\w.heap.size<=m.lo:=fun m hm=>⟨(hpc2 m hm).1,aV hlo2 (hpc2 m hm).2⟩
 have hml2:ms2.length=ms.length:=by have:=congrArg da hma;simpa using this
 rw[hi]
 refine G (Yu Z)<|G (Xa Z Z)<|G (Xi Z Z)<|G (Xi Z Z)<|bA H 1 (#[J (ck),J (wt),J (gn),.slice mA2 ms2.length mC2,.slice oA2 os.length oC2]) bz Z Z Z Z Z N N fun w4 H=>G (Wi Z)<|G (Wi Z)<|U<|W<|Zb<|W<|Zr<|G (Yi Z)<|G (cv Z Z Z)<|G (Wb Z)<|U<|ZF Z<|W<|Zr<|G (Yi Z)<|G (dp Z Z I)<|G (Wb Z)<|U<|ZF Z<|W<|Zr<|G (Zf kD Z)<|G (Zd am H 1 Z Z Z)<|G (Yi Z)<|G (cv Z Z I)<|G (Wb Z)<|U<|ZF Z<|Zk<|W<|Zr<|G (Zw aO H 1 Z Z Z)<|G (Yi Z)<|bA H 0 (#[J (ck),J (wt),J (gn),.slice mA2 ms2.length mC2,.slice oA2 os.length oC2]) bz Z Z Z Z Z N N fun w5 H=>G (Wi Z) ?_
 refine G (Wi Z)<|U<|Zt ?_
 exact gM (cs0:= #[J (ck),J (wt),J (gn),.slice mA2 ms2.length mC2,.slice oA2 os.length oC2]) (v1:=J (i:Nat)) (v2:=J 0) Z aO Z (H.ent (i:=0) Z) Z Z Z ⟨⟨ck,wt,gn,ms2,mA2,mC2,os,oA2,oC2⟩,Lm,Lo,rfl,by unfold Gr.a;dsimp only;rw[hma],ho2,hoo2,hmc2,hoc2,hpc2,H.forget (by rw[aB];exact .cons _ (.cons _ (au _))) (fun f hf=>by simp only[av,ap];grind)⟩
/-- a comparing function's answer says less or not -/
def Nx (cmpv:Int->Int->Int) (a b:Int):Bool:=decide (cmpv a b<0)
theorem J3 {w0 w:World} {M:List (Nat×Obj)} {F:List ce} {g n:Nat} {u:Array Value} (es:List Int) (c:Nat) (H:Hp w0 w ((g,.cells u dg (0,0))::M) F) (row:d7 bS es c u) (hn:n=es.length) (h12:es.length<=19) {f:FuncId} {cap:List Value} (hf:bg aa f=true) (cmpv:Int->Int->Int) (hp: ∀ a b:Int,a∈es->b∈es-> ∀ (w':World) (u':Array Value),Hp w0 w' ((g,.cells u' dg (0,0))::M) F->dt aa f (J a::J b::cap) w' fun v w2=>v=J (cmpv a b)/\Below w'.heap.size w' w2):
  dt aa mr [.slice (Qd g) n c,J 0,J (n:Nat),.func (.func f) #[] cap.toArray] w fun v w2=> ∃ u2,v=.tuple #[]/\d7 bS (kp (Nx cmpv) n es) c u2/\Hp w0 w2 ((g,.cells u2 dg (0,0))::M) F:=by
 refine aG lQ Z Z ?_
 have hle:=row.le
 refine W<|Zr<|G (Yi Z)<|G (bp Z Z I I)<|G (Wi Z)<|U<|Zb ?_
 refine cf (τ:=Nat×List Int×Array Value) [8,9,12,13,14,15,16,17,18,19,20,21,22,23,24,25,26,27,28,29,30,31,32,33,34,35,36,37,38,39,40,41,42,43,44,45,46,47,48,49,50,51,52] (fun(i,_,_)=>[(8,J (i:Nat))]) (fun(i,l,u1) w'=>1<=i/\i<=n+1/\(n≠0->i<=n)/\l=kp (Nx cmpv) i es/\(∀ y∈l,y∈es)/\d7 bS l c u1/\Hp w0 w' ((g,.cells u1 dg (0,0))::M) F) (fun(i,_)=>n+1-i) (1,es,u) ⟨by omega,by omega,by omega,rfl,fun _ h=>h,row,H⟩ (dR Z) ?_
 rintro⟨i,l,u1⟩ ρ1 w1 ⟨hi1,hin,hi0,hl,hle1,row1,H⟩
 show CW _ _ _ _ (dK (ia _ _ ρ1) [(8,J (i:Nat))]) w1
 have hll:l.length=n:=by rw[hl,Bb,hn]
 refine W<|W<|Zr<|G (Yi Z)<|G (Yi Z) ?_
 refine du (cO Z Z) Z Z Z (fun h14=> ?_) (fun h14=> ?_)
 refine U<|ZT Z<|Zk<|W<|Zb<|W<|Zr<|G (Yi Z)<|G (Wi Z)<|U<|Zb ?_
 refine cf (τ:=Nat×List Int×Array Value) [9,18,19,20,21,22,23,24,25,26,27,28,29,30,31,32,33,34,35,36,37,38,39,40,41,42,43,44,45,46,47,48,49,50,51,52] (fun(j,_,_)=>[(9,J (j:Nat))]) (fun(j,m,u2) w'=>j<=i/\m.length=n/\Al (Nx cmpv) j m=kp (Nx cmpv) (i+1) es/\(∀ y∈m,y∈es)/\d7 bS m c u2/\Hp w0 w' ((g,.cells u2 dg (0,0))::M) F) (fun(j,_)=>j) (i,l,u1) ⟨by omega,hll,by rw[hl];rfl,hle1,row1,H⟩ (dR Z) ?_
 rintro⟨j,m,u2⟩ ρ2 w2 ⟨hj,hml,hm,hle2,row2,H⟩
 show CW _ _ _ _ (dK (ia _ _ ρ2) [(9,J (j:Nat))]) w2
 refine W<|W ?_
 obtain⟨a,ha0⟩: ∃ a,a=m.getD (j-1) 0:=⟨_,rfl⟩
 obtain⟨b,hb0⟩: ∃ b,b=m.getD j 0:=⟨_,rfl⟩
 refine bL cD [0,1,2,3,4,5,6,7,8,9,10,11,12,13,14,15,16] [] [14] [0,1,2,3,4,5,6,7,9,10,11,12,15,16] (sp [(14,Sp.one (J (cmpv b a)))]) N N N N Nq (cQ _) ?_
 refine aw Z Z Z Z Z (fun w' hw'=>Yi Z)<|aw Z Z Z Z Z (fun w' hw'=>Yi Z) ?_
 refine CN Z Z Z Z Z (fun w' hw'=>lf Z Z) (fun h20=> ?_) (fun h20=> ?_)
 obtain⟨q,rfl⟩: ∃ q,j=q+1:=⟨j-1,by omega⟩
 have ha:m[q]? =some a:=by rw[ha0];exact getD_some 0 I
 have hb:m[q+1]? =some b:=by rw[hb0];exact getD_some 0 I
 have ha2:(m.set (q+1) a)[q]? =some a:=by rw[aT I];exact ha
 have hma:=hle2 a (ab ha)
 have hmb:=hle2 b (ab hb)
 refine aw Z Z Z Z Z (fun w' hw'=>Yb Z)<|aw Z Z Z Z Z (fun w' hw'=>tQ Z)<|aw Z Z Z Z Z (fun w' hw'=>Ys Z)<|aw Z Z Z Z Z (fun w' hw'=>Yi Z)<|aw Z Z Z Z Z (fun w' hw'=>cR bj Z Z (by first|omega|(simp only[ae];omega)))<|aw Z Z Z Z Z (fun w' hw'=>bU am row2 hb 0 Z ((H.later hw').ent (i:=0) Z) Z)<|aw Z Z Z Z Z (fun w' hw'=>Ys Z)<|aw Z Z Z Z Z (fun w' hw'=>Yi Z)<|aw Z Z Z Z Z (fun w' hw'=>yc ((q:Nat):Int) Z Z I I I)<|aw Z Z Z Z Z (fun w' hw'=>cR bj Z Z (by first|omega|(simp only[ae];omega)))<|aw Z Z Z Z Z (fun w' hw'=>bU am row2 ha 0 Z ((H.later hw').ent (i:=0) Z) Z)<|OO hf Z Z Z Z Z Z (fun w' hw'=>hp b a hmb hma w' u2 (H.later hw')) Z ?_
 refine CN Z Z Z Z Z (fun w' hw'=>cO Z Z) (fun h33=> ?_) (fun h33=> ?_)
 refine aw Z Z Z Z Z (fun w' hw'=>Kt Z Z)<|aU ?_
 intro w3 hw' hF
 replace H:=H.later hw';clear hw' hF
 refine U<|ZT Z<|Zk<|W<|Zb ?_
 refine bL cD [0,1,2,3,4,5,6,7,8,9,10,11,12,13,14] [15,16,17] [] [0,1,2,3,4,5,6,7,8,10,11,12,14] (sp []) N N N N Nq (cQ _) ?_
 refine aw Z Z Z Z Z (fun w' hw'=>Ys Z)<|aw Z Z Z Z Z (fun w' hw'=>Yi Z)<|aw Z Z Z Z Z (fun w' hw'=>Ys Z)<|aw Z Z Z Z Z (fun w' hw'=>Yi Z)<|aw Z Z Z Z Z (fun w' hw'=>yc ((q:Nat):Int) Z Z I I I)<|aw Z Z Z Z Z (fun w' hw'=>Ys Z)<|aw Z Z Z Z Z (fun w' hw'=>Yi Z)<|aw Z Z Z Z Z (fun w' hw'=>yc ((q:Nat):Int) Z Z I I I)<|aw Z Z Z Z Z (fun w' hw'=>cR bj Z Z (by first|omega|(simp only[ae];omega)))<|aw Z Z Z Z Z (fun w' hw'=>bU am row2 ha 0 Z ((H.later hw').ent (i:=0) Z) Z)<|aw Z Z Z Z Z (fun w' hw'=>Ys Z)<|aw Z Z Z Z Z (fun w' hw'=>Yi Z)<|aw Z Z Z Z Z (fun w' hw'=>cR bj Z Z (by first|omega|(simp only[ae];omega)))<|aw Z Z Z Z Z (fun w' hw'=>bU am row2 hb 0 Z ((H.later hw').ent (i:=0) Z) Z)<|aw Z Z Z Z Z (fun w' hw'=>cR bj Z Z (by first|omega|(simp only[ae];omega)))<|aU ?_
 intro w4 hw' hF
 replace H:=H.later hw';clear hw' hF
 refine ni H 0 (a) bQ row2 hb 0 Z Z Z Z Z Z N fun w6 cur5 row5 H=> ?_
 have hs7:(m.set (q+1) (a))[(q+1)]? =some (a):=al (cy hb).1
 refine G (cR bj Z Z (by first|omega|(simp only[ae];omega)))<|ni H 0 (b) bQ row5 ha2 0 Z Z Z Z Z Z N fun w9 cur8 row8 H=> ?_
 have hs10:((m.set (q+1) (a)).set q (b))[q]? =some (b):=al (cy ha2).1
 refine U<|Zr<|G (Yi Z)<|G (yc ((q:Nat):Int) Z Z I I I)<|G (Wi Z)<|U ?_
 exact⟨(q,(m.set (q+1) a).set q b,_),⟨by omega,by simp[hml],by rw[<-hm,Is ha hb (decide_eq_true h33)],fun y hy=>(by rcases aA hy with hy|rfl;rcases aA hy with hy|rfl;exact hle2 y hy;exact hma;exact hmb),row8,H⟩,dR Z,Qg,by show q<q+1;omega⟩
 refine aw Z Z Z Z Z (fun w' hw'=>Kt Z Z)<|aU ?_
 intro w11 hw' hF
 replace H:=H.later hw';clear hw' hF
 refine U<|ZF Z<|Zx<|Zr<|G (Yi Z)<|G (bp Z Z I I)<|G (Wi Z)<|U ?_
 have hm2:m=kp (Nx cmpv) (i+1) es:=by rw[<-hm,Db ha hb (decide_eq_false h33)]
 exact⟨(i+1,m,u2),⟨by omega,by omega,by omega,hm2,hle2,row2,H⟩,dR Z,Qg,by show n+1- (i+1)<n+1-i;omega⟩
 refine aw Z Z Z Z Z (fun w' hw'=>Yb Z)<|eZ Z Z Z Z<|eZ Z Z Z Z<|eZ Z Z Z Z<|eZ Z Z Z Z<|eZ Z Z Z Z<|eZ Z Z Z Z<|eZ Z Z Z Z<|eZ Z Z Z Z<|eZ Z Z Z Z<|eZ Z Z Z Z<|eZ Z Z Z Z<|eZ Z Z Z Z<|aw Z Z Z Z Z (fun w' hw'=>N Z Z)<|aU ?_
 intro w12 hw' hF
 replace H:=H.later hw';clear hw' hF
 refine U<|ZF Z<|Zx<|Zr<|G (Yi Z)<|G (bp Z Z I I)<|G (Wi Z)<|U ?_
 have hm2:m=kp (Nx cmpv) (i+1) es:=by rw[<-hm,show j=0 by omega];rfl
 exact⟨(i+1,m,u2),⟨by omega,by omega,by omega,hm2,hle2,row2,H⟩,dR Z,Qg,by show n+1- (i+1)<n+1-i;omega⟩
 refine U<|ZF Z<|Zx ?_
 have hfin:=Lk (n:=n) hl hi1 hin hi0 I
 subst hfin
 dsimp only[B4,Q8,My,eE,cond]
 exact PT Z ⟨u1,rfl,row1,H⟩
theorem DX {w0 w:World} {M:List (Nat×Obj)} {F:List ce} {g n:Nat} {u:Array Value} (es:List Int) (c:Nat) (H:Hp w0 w ((g,.cells u dg (0,0))::M) F) (row:d7 bS es c u) (hn:n=es.length) (h12:es.length<=19) {f:FuncId} {cap:List Value} (hf:bg aa f=true) (cmpv:Int->Int->Int) (hp: ∀ a b:Int,a∈es->b∈es-> ∀ (w':World) (u':Array Value),Hp w0 w' ((g,.cells u' dg (0,0))::M) F->dt aa f (J a::J b::cap) w' fun v w2=>v=J (cmpv a b)/\Below w'.heap.size w' w2):
  dt aa qu [.slice (Qd g) n c,J (n:Nat),.func (.func f) #[] cap.toArray] w fun v w2=> ∃ u2,v=.tuple #[]/\d7 bS (kp (Nx cmpv) n es) c u2/\Hp w0 w2 ((g,.cells u2 dg (0,0))::M) F:=by
 refine aG p7 Z Z ?_
 have hle:=row.le
 refine W<|Zr<|G (Wi Z)<|U<|W<|Zr<|G (Yi Z)<|G (Wi Z)<|G (Wi Z)<|U<|W<|Zb ?_
 refine cf (τ:=Unit) [7,8,11,12,13,14,15,16,17,18,19,20,21,22] (fun _=>[(7,J 0),(8,J 20)]) (fun _ w'=>w'=w) (fun _=>0) () Z (mK Z Z) ?_
 rintro _ ρ1 _ rfl
 show CW _ _ _ _ (dK (ia _ _ ρ1) [(7,J 0),(8,J 20)]) _
 refine W<|W<|Zr<|G (Yi Z)<|G (Yi Z)<|G (PK Z Z I)<|U<|ZF Z<|Zx<|W<|Zr<|G (Ys Z)<|G (Yi Z)<|G (Yi Z)<|G (tQ Z)<|cu lU (J3 es c H row hn h12 hf cmpv hp) Z Z ?_
 rintro _ w1 ⟨u2,rfl,row2,H⟩
 refine U<|Zb ?_
 refine cf (τ:=Unit) [6,7,8,9,28,29,30,31,32,33,34,35,36,37,38,39,40,41,42,43,44,45,46,47,48,49,50,51,52,53,54,55,56,57,58,59,60,61,62] (fun _=>[(6,J 20)]) (fun _ w'=>Hp w0 w' ((g,.cells u2 dg (0,0))::M) F) (fun _=>0) () H (dR Z) ?_
 rintro _ ρ2 w2 H
 show CW _ _ _ _ (dK (ia _ _ ρ2) [(6,J 20)]) w2
 refine W<|W<|Zr<|G (Yi Z)<|G (Yi Z)<|G (dp Z Z I)<|U<|ZF Z<|Zx ?_
 dsimp only[B4,Q8,My,eE,cond]
 exact PT Z ⟨u2,rfl,row2,H⟩
theorem B5 {w0 w:World} {M:List (Nat×Obj)} {F:List ce} {g n:Nat} {u:Array Value} (es:List Int) (c:Nat) (H:Hp w0 w ((g,.cells u dg (0,0))::M) F) (row:d7 bS es c u) (hn:n=es.length) (h12:es.length<=19) {f:FuncId} {cap:List Value} (hf:bg aa f=true) (cmpv:Int->Int->Int) (hp: ∀ a b:Int,a∈es->b∈es-> ∀ (w':World) (u':Array Value),Hp w0 w' ((g,.cells u' dg (0,0))::M) F->dt aa f (J a::J b::cap) w' fun v w2=>v=J (cmpv a b)/\Below w'.heap.size w' w2):
  dt aa mR [.slice (Qd g) n c,.func (.func f) #[] cap.toArray] w fun v w2=> ∃ u2,v=.tuple #[]/\d7 bS (kp (Nx cmpv) n es) c u2/\Hp w0 w2 ((g,.cells u2 dg (0,0))::M) F:=by
 refine aG mu Z Z ?_
 have hle:=row.le
 refine Zr<|G (Ys Z)<|G (Ys Z)<|G (bh eT Z)<|G (tQ Z)<|cu qc (DX es c H row hn h12 hf cmpv hp) Z Z ?_
 rintro _ w1 ⟨u2,rfl,row2,H⟩
 refine U ?_
 show KH aa Tryz.f150 _ .normal _ _
 exact PT Z ⟨u2,rfl,row2,H⟩
/-- a list of numbers, and where it lies -/
structure Il where
 A:Option Addr
 cap:Nat
 es:List Int
def Il.c (x:Il):List Value:=[.slice x.A x.es.length x.cap]
def Qi:fA Il:=⟨Il.c,1,fun _=>rfl,by decide,fun a u hu=>by
 simp only[Il.c,ar]at hu;subst hu;rfl⟩
def QW:Il:=⟨none,0,[]⟩
def tZ:List Il->List (Nat×Obj)->Prop
 |[],L=>L=[]
 |t::ts,L=> ∃ L1 L2,L=L1++L2/\gG bS (.slice t.A t.es.length t.cap) dg t.es L1/\tZ ts L2
theorem tZ.at_: ∀ {ts:List Il} {L:List (Nat×Obj)} {i:Nat} {t:Il},tZ ts L->ts[i]? =some t-> ∃ La Lt Lb,L=La++Lt++Lb/\gG bS (.slice t.A t.es.length t.cap) dg t.es Lt/\ ∀ (t':Il) (Lt':List (Nat×Obj)),gG bS (.slice t'.A t'.es.length t'.cap) dg t'.es Lt'->tZ (ts.set i t') (La++Lt'++Lb)
 |x::ts,L,0,t,⟨L1,L2,h1,h2,h3⟩,hi=>by
  cases hi
  exact⟨[],L1,L2,by simpa using h1,h2,fun t' Lt' h'=>⟨Lt',L2,by simp,h',h3⟩⟩
 |x::ts,L,i+1,t,⟨L1,L2,h1,h2,h3⟩,hi=>by
  obtain⟨La,Lt,Lb,e,ho,hs⟩:=tZ.at_ h3 (show ts[i]? =some t from hi)
  exact⟨L1++La,Lt,Lb,by rw[h1,e];simp[aB],ho,fun t' Lt' h'=>⟨L1,La++Lt'++Lb,by simp[aB],h2,hs t' Lt' h'⟩⟩
theorem tZ.nils: ∀ n:Nat,tZ (aq n QW) []
 |0=>rfl
 |n+1=>⟨[],[],rfl,gG.nil,tZ.nils n⟩
theorem tZ.rd {w0 w:World} {K L:List (Nat×Obj)} {F:List ce} {ts:List Il} (h:tZ ts L) (H:Hp w0 w (K++L) F) {t:Il} (ht:t∈ts):Rd bS w0.heap.size w.heap.size t.A t.es w/\t.es.length<=t.cap:=by
 obtain⟨i,hi⟩:=aN.1 ht
 obtain⟨La,Lt,Lb,rfl,ho,-⟩:=h.at_ hi
 refine⟨ho.rd (K:=K++La) (M:=Lb) (F:=F) (by simpa [aB]using H),?_⟩
 obtain⟨_,c,e,hc,_⟩:=ho.form
 injection e with _ _ e
 subst e;exact hc
theorem PN {w0 w:World} {F:List ce} (X A B C:List (Nat×Obj)) (H:Hp w0 w (X++(A++B++C)) F):Hp w0 w ((X++A)++B++C) F:=by simpa [aB]using H
theorem Ox {w0 w:World} {F:List ce} (X A B C:List (Nat×Obj)) (H:Hp w0 w ((X++A)++B++C) F):Hp w0 w (X++(A++B++C)) F:=by simpa [aB]using H
def Gw (x y:ByteArray):Int:=if Qe x y then-1 else if !(Qe x y||x.toList==y.toList)then 1 else 0
def Ed (names:List ByteArray) (a:Int):ByteArray:=names.getD a.toNat ⟨#[]⟩
def P2 (names:List ByteArray) (a b:Int):Int:=Gw (Ed names a) (Ed names b)
def rJ (n:Nat):List Int:=(gy n).map fun(i:Nat)=>(i:Int)
def JN (names:List ByteArray):List Int:=kp (Nx (P2 names)) names.length (rJ names.length)
def Aa (names:List ByteArray) (q:Nat):Int:=(JN names).getD (q%names.length) 0
def mN (names:List ByteArray) (p:Nat) (i:Nat):List Int:=(rJ p).filter fun q=>decide (Aa names q.toNat=i)
def gF (names:List ByteArray) (p:Nat):List (List Int):=(gy names.length).map (mN names p)
theorem CV (n:Nat):rJ (n+1)=rJ n++[(n:Int)]:=by unfold rJ;rw[ss,bk];rfl
theorem lw (n:Nat):(rJ n).length=n:=by simp[rJ]
theorem wT {n:Nat} {x:Int}:x∈rJ n↔ ∃ i:Nat,i<n/\x=i:=by
 unfold rJ
 simp only[bD,List.mem_range]
 constructor<;>rintro⟨i,h1,h2⟩<;>exact⟨i,h1,h2.symm⟩
theorem D7 (names:List ByteArray) (p i:Nat):mN names (p+1) i=if Aa names p=i then mN names p i++[(p:Int)]else mN names p i:=by
 unfold mN
 rw[CV,jn]
 by_cases h:Aa names p=i
 rw[if_pos h,kc (by simpa using h)];rfl
 rw[if_neg h,ph (by simpa using h)];simp
theorem J7:(aa.info? 3).map (fun i=>(i.zero,i.size,i.bytes))=some (some (J 0),1,8):=by kernel_rfl
theorem Hy:(aa.info? 23).map (fun i=>(i.zero,i.size,i.bytes))=some (some (.slice none 0 0),1,24):=by kernel_rfl
theorem IX {i n:Nat} (h:i<n):(rJ i++aq (n-i) (0:Int))[i]? =some 0:=by
 rw[cG (by rw[lw];omega),lw,mE,fv,if_pos I]
theorem MM {i n:Nat} (h:i<n):(rJ i++aq (n-i) (0:Int)).set i (i:Int)=rJ (i+1)++aq (n- (i+1)) 0:=by
 rw[jo _ _ (by rw[lw];omega),lw,mE,show n-i=(n- (i+1))+1 by omega,ng,B1,CV,aB]
 rfl
theorem Df (names:List ByteArray):(JN names).Perm (rJ names.length):=by
 have:=AZ (lt:=Nx (P2 names)) (rJ names.length)
 rwa[lw]at this
theorem PC {names:List ByteArray} {q:Nat} (h:names.length≠0): ∃ i:Nat,i<names.length/\(JN names)[q%names.length]? =some (i:Int)/\Aa names q=i:=by
 have hl:(JN names).length=names.length:=by rw[(Df names).length_eq,lw]
 have hm:q%names.length<(JN names).length:=by rw[hl];exact kP _ I
 have h1:=getD_some (0:Int) hm
 obtain⟨i,hi,he⟩:=wT.1 ((Df names).mem_iff.1 (ab h1))
 exact⟨i,hi,by rw[h1,he],he⟩
theorem y4 (names:List ByteArray) (p i:Nat):(mN names p i).length<=p:=by
 have:=List.length_filter_le (fun q=>decide (Aa names q.toNat=i)) (rJ p)
 rwa[lw]at this
theorem EV (names:List ByteArray) (A:Option Addr) (c:Nat) (x y:ByteArray) (i j b:Nat) (w:World) (hx:w.heap[b]? =some (.cells #[.slice A names.length c] mj (0,0))) (hr:Rd mq 0 w.heap.size A names w) (hi:names[i]? =some x) (hj:names[j]? =some y):
  dt aa xk [J (i:Nat),J (j:Nat),.pointer (Qd b)] w fun v w2=>v=J (Gw x y)/\Below w.heap.size w w2:=by
 refine aG wA Z Z ?_
 have H:=Hp.startRd hr
 have hb:=bV hx
 have hil:=(cy hi).1
 have hjl:=(cy hj).1
 refine W<|Zr<|G (Wi Z)<|U<|W<|Zb<|W ?_
 refine bL cD [0,1,2,3,4,5,6,7,8,9] [] [] [1,2,5,6,8,9] (sp []) N N N N Nq (cQ _) ?_
 refine aw Z Z Z Z Z (fun w' hw'=>bi ir Z (((H.later hw').below.cell (p:=⟨b,_,none⟩) hb).trans (aJ (j:=0) hx Z)))<|aw Z Z Z Z Z (fun w' hw'=>Yi Z)<|qI H 0 Z Z Z Z Z ki Z Z I I fun bq1 o1 x1 e1=> ?_
 obtain rfl:x=x1:=by have:=e1.at_;rw[hi]at this;exact aY this
 refine aw Z Z Z Z Z (fun w' hw'=>bi ba Z (e1.later hw' 0 _ Z))<|aw Z Z Z Z Z (fun w' hw'=>bi ir Z (((H.later hw').below.cell (p:=⟨b,_,none⟩) hb).trans (aJ (j:=0) hx Z)))<|aw Z Z Z Z Z (fun w' hw'=>Yi Z)<|qI H 0 Z Z Z Z Z ki Z Z I I fun bq2 o2 x2 e2=> ?_
 obtain rfl:y=x2:=by have:=e2.at_;rw[hj]at this;exact aY this
 refine aw Z Z Z Z Z (fun w' hw'=>bi ba Z (e2.later hw' 0 _ Z))<|aw Z Z Z Z Z (fun w' hw'=>Pl Z Z)<|aw Z Z Z Z Z (fun w' hw'=>Wb Z)<|aU ?_
 intro w3 hw' hF
 replace H:=H.later hw';clear hw' hF
 refine U ?_
 refine kI Z (fun hc6=> ?_) (fun hc6=> ?_)
 refine W<|Zr<|G (Wi Z)<|U<|Zt ?_
 have hv:Gw x y= -1:=by unfold Gw;rw[if_pos hc6]
 exact cn (v:=J (-1)) Z Z ⟨by rw[hv],H.below⟩
 refine W ?_
 refine bL cD [0,1,2,3,4,5,6,7,8,9] [] [] [1,2,5,6,8,9] (sp []) N N N N Nq (cQ _) ?_
 refine aw Z Z Z Z Z (fun w' hw'=>bi ir Z (((H.later hw').below.cell (p:=⟨b,_,none⟩) hb).trans (aJ (j:=0) hx Z)))<|aw Z Z Z Z Z (fun w' hw'=>Yi Z)<|qI H 0 Z Z Z Z Z ki Z Z I I fun bq4 o4 x4 e4=> ?_
 obtain rfl:x=x4:=by have:=e4.at_;rw[hi]at this;exact aY this
 refine aw Z Z Z Z Z (fun w' hw'=>bi ba Z (e4.later hw' 0 _ Z))<|aw Z Z Z Z Z (fun w' hw'=>bi ir Z (((H.later hw').below.cell (p:=⟨b,_,none⟩) hb).trans (aJ (j:=0) hx Z)))<|aw Z Z Z Z Z (fun w' hw'=>Yi Z)<|qI H 0 Z Z Z Z Z ki Z Z I I fun bq5 o5 x5 e5=> ?_
 obtain rfl:y=x5:=by have:=e5.at_;rw[hj]at this;exact aY this
 refine aw Z Z Z Z Z (fun w' hw'=>bi ba Z (e5.later hw' 0 _ Z))<|aw Z Z Z Z Z (fun w' hw'=>Pp Z Z)<|aw Z Z Z Z Z (fun w' hw'=>Wb Z)<|aU ?_
 intro w6 hw' hF
 replace H:=H.later hw';clear hw' hF
 refine U ?_
 refine kI Z (fun hc16=> ?_) (fun hc16=> ?_)
 refine W<|Zr<|G (Wi Z)<|U<|Zt ?_
 have hv:Gw x y=1:=by unfold Gw;rw[if_neg (by rw[hc6];decide),if_pos hc16]
 exact cn (v:=J (1)) Z Z ⟨by rw[hv],H.below⟩
 refine Zk<|W<|Zr<|G (Wi Z)<|U<|Zt ?_
 have hv:Gw x y=0:=by unfold Gw;rw[if_neg (by rw[hc6];decide),if_neg (by rw[hc16];decide)]
 exact cn (v:=J (0)) Z Z ⟨by rw[hv],H.below⟩
theorem Kw (names:List ByteArray) (A:Option Addr) (c p:Nat) (w:World) (hr:Rd mq 0 w.heap.size A names w) (hn:names.length<=6) (hp:p<=4):
  dt aa Bf [.slice A names.length c,J (p:Nat)] w fun v w2=> ∃ (out:List Il) (B:Option Addr) (d:Nat),v=.slice B out.length d/\out.length<=d/\out.map Il.es=gF names p/\Rd Qi w.heap.size w2.heap.size B out w2/\(∀ x∈out,Rd bS w.heap.size w2.heap.size x.A x.es w2/\x.es.length<=x.cap)/\Below w.heap.size w w2:=by
 refine aG zA Z Z ?_
 have H:=Hp.startRd hr
 refine W<|Zr<|RC H Z Z fun w1 b2 H=>G (Ws Z)<|U<|W<|Zr<|G (Zd ir H 0 Z Z Z)<|G (bh jA Z)<|pH (Y:=bS) (0) names.length H bj J7 Z Z Z I I Z fun w2 b12 cur12 row12 H=>G (Ws Z)<|U<|W<|W<|Zr<|G (Ys Z)<|G (bh eT Z)<|G (Yi Z)<|U<|Zb ?_
 refine cf (τ:=Nat×Array Value) [6,15,16,17,18,19,20,21,22] (fun(i,_)=>[(15,J (i:Nat))]) (fun(i,u1) w'=>i<=names.length/\d7 bS (rJ i++aq (names.length-i) 0) names.length u1/\Hp w w' [(b12,.cells u1 dg (0,0)),(b2,.cells #[.slice A names.length c] mj (0,0))] [ey mq 0 w.heap.size A names]) (fun(i,_)=>names.length-i) (0,cur12) ⟨by omega,row12,H⟩ (dR Z) ?_
 rintro⟨i,u1⟩ ρ1 w3 ⟨hi,row,H⟩
 show CW _ _ _ _ (dK (ia _ _ ρ1) [(15,J (i:Nat))]) w3
 have hfl:(rJ i++aq (names.length-i) (0:Int)).length=names.length:=by simp[lw];omega
 refine W<|Zr ?_
 refine du (cO Z Z) Z Z Z (fun h16=> ?_) (fun h16=> ?_)
 refine U<|W<|ZT Z<|Zk<|W<|Zb<|W<|Zr<|G (Yi Z)<|G (Wi Z)<|U<|Zr<|G (Ys Z)<|G (Yi Z)<|G (Yi Z)<|G (cR bj Z Z (by first|omega|(simp only[ae];omega)))<|ni H 0 ((i:Int)) bQ row (IX I) 0 Z Z Z Z Z Z N fun w5 cur4 row4 H=> ?_
 have hs6:(((rJ i++aq (names.length-i) 0)).set i ((i:Int)))[i]? =some ((i:Int)):=al (cy (IX I)).1
 refine U<|Zr<|G (bp Z Z I I)<|G (Yi Z)<|U ?_
 exact⟨(i+1,_),⟨by omega,(MM (show i<names.length by omega))▸row4,H⟩,dR Z,Qg,by show names.length- (i+1)<names.length-i;omega⟩
 refine U<|W<|ZF Z<|Zx<|W ?_
 obtain rfl:i=names.length:=by omega
 rw[mE,List.replicate_zero,aZ]at row
 refine Zr<|G (Ys Z)<|G (AE Z)<|cu mB (B5 (M:=[(b2,.cells #[.slice A names.length c] mj (0,0))]) (rJ names.length) names.length H row (lw _).symm (by rw[lw];omega) (cap:=[.pointer (Qd b2)]) wI (P2 names) (fun a b ha hb w' u' H'=>by obtain⟨i,hi,rfl⟩:=wT.1 ha;obtain⟨j,hj,rfl⟩:=wT.1 hb;exact EV names A c (Ed names i) (Ed names j) i j b2 w' (H'.ent (i:=1) Z) (H'.rd0 0 Z) (getD_some _ hi) (getD_some _ hj))) Z Z ?_
 rintro _ w7 ⟨u2,rfl,row2,H⟩
 replace row2:d7 bS (JN names) names.length u2:=row2
 refine U<|W<|Zr<|G (Zd ir H 1 Z Z Z)<|G (bh jA Z)<|pH (Y:=Qi) (QW) names.length H wX Hy Z Z Z I I Z fun w8 b28 cur28 row28 H=>G (Ws Z)<|U<|W<|W<|Zr<|G (Zd ir H 2 Z Z Z)<|G (bh jA Z) ?_
 refine du (bv Z Z) Z Z Z (fun h31=> ?_) (fun h31=> ?_)
 have hn0:names.length=0:=by omega
 refine U<|ZT Z<|W<|Zr<|G (Ys Z)<|G (Ws Z)<|U<|Zt ?_
 exact cn (v:=.slice (Qd b28) names.length names.length) Z Z ⟨[],_,names.length,by rw[hn0];rfl,bN _,by unfold gF;rw[hn0];rfl,Rd.nil,by simp,H.below⟩
 refine U<|ZF Z<|Zk<|W<|W<|Zr<|G (Yi Z)<|G (Ef Z Z) ?_
 rw[show max ((p:Nat):Int) 0=((p:Nat):Int) by omega]
 refine G (Yi Z)<|U<|Zb ?_
 refine cf (τ:=Nat×List Il×Array Value) [8,9,35,36,37,38,39,40,41,42,43,44,45,46,47,48,49,50,51,52,53,54,55] (fun(q,_,_)=>[(35,J (q:Nat))]) (fun(q,out,u3) w'=>q<=p/\out.length=names.length/\(∀ i x,out[i]? =some x->x.es=mN names q i)/\d7 Qi out names.length u3/\ ∃ Lp,tZ out Lp/\Hp w w' ([(b28,.cells u3 yS (0,0)),(b12,.cells u2 dg (0,0)),(b2,.cells #[.slice A names.length c] mj (0,0))]++Lp) [ey mq 0 w.heap.size A names]) (fun(q,_,_)=>p-q) (0,aq names.length QW,cur28) ⟨by omega,by simp,(fun i x hx=>by rw[fv]at hx;split at hx;injection hx with hx;rw[<-hx];rfl;cases hx),row28,[],tZ.nils _,H⟩ (dR Z) ?_
 rintro⟨q,out,u3⟩ ρ2 w9 ⟨hq,hol,hes,row3,Lp,hop,H⟩
 show CW _ _ _ _ (dK (ia _ _ ρ2) [(35,J (q:Nat))]) w9
 refine W<|Zr ?_
 refine du (cO Z Z) Z Z Z (fun h36=> ?_) (fun h36=> ?_)
 refine U<|W<|ZT Z<|Zk<|W<|Zb<|W<|Zr<|G (Yi Z)<|G (Wi Z)<|U<|W ?_
 obtain⟨i,hin,hod,htn⟩:=PC (names:=names) (q:=q) I
 obtain⟨r,hrq⟩: ∃ r,q%names.length=r:=⟨_,rfl⟩
 rw[hrq]at hod
 have hrn:r<names.length:=hrq▸kP _ I
 obtain⟨x,hx⟩: ∃ x,out[i]? =some x:=⟨_,aj I⟩
 have hxe:=hes i x hx
 have hxl:x.es.length<=4:=by rw[hxe];have:=y4 names q i;omega
 refine Zr<|G (Ys Z)<|G (Yi Z)<|G (Ys Z)<|G (bh eT Z)<|G (Qp Z Z I I) ?_
 rw[show((q:Nat):Int)%((names.length:Nat):Int)=((r:Nat):Int)from by rw[<-hrq];exact(Int.natCast_emod q names.length).symm]
 refine G (cR bj Z Z (by first|omega|(simp only[ae];omega)))<|G (bU am row2 hod 0 Z (H.ent (i:=1) Z) Z)<|G (Wi Z)<|U ?_
 obtain⟨La,Lt,Lb,rfl,hot,hset⟩:=hop.at_ hx
 refine Zr<|G (Ys Z)<|G (Yi Z)<|G (Ys Z)<|G (Yi Z)<|G (cR wX Z Z (by first|omega|(simp only[ae];omega)))<|G (bU cB row3 hx 0 Z (H.ent (i:=0) Z) Z)<|G (Yi Z)<|uO (vs:=[J (((q:Nat):Int))]) H bj CP Z Z Z Z Z Z fun w10 b52 H=>wN (Y:=bS) zX (K:=[(b52,.cells #[J (((q:Nat):Int))] dg (0,0)),(b28,.cells u3 yS (0,0)),(b12,.cells u2 dg (0,0)),(b2,.cells #[.slice A names.length c] mj (0,0))]++La) (L:=Lt) (M:=Lb) (PN _ La Lt Lb H) hot (news:=[((q:Nat):Int)]) Z Z Z (zk.row (m:=1) (sz:=bS.sz) (H.ent (i:=0) Z) Z) (show(x.es.length+1)*8<=140737488355328 by omega) Z ?_
 intro A53 c53 w11 L53 h53 _ ho53 HI
 replace H:=Ox [(b52,.cells #[J (((q:Nat):Int))] dg (0,0)),(b28,.cells u3 yS (0,0)),(b12,.cells u2 dg (0,0)),(b2,.cells #[.slice A names.length c] mj (0,0))] La L53 Lb HI;clear HI
 refine G (cR wX Z Z (by first|omega|(simp only[ae];omega)))<|ni H 1 ({A:=A53,cap:=c53,es:=x.es++[((q:Nat):Int)]}) jQ row3 hx 0 Z Z Z Z Z Z N fun w13 cur12 row12 H=> ?_
 have hs14:(out.set i ({A:=A53,cap:=c53,es:=x.es++[((q:Nat):Int)]}))[i]? =some ({A:=A53,cap:=c53,es:=x.es++[((q:Nat):Int)]}):=al (cy hx).1
 refine U<|Zr<|G (bp Z Z I I)<|G (Yi Z)<|U ?_
 refine⟨(q+1,out.set i {A:=A53,cap:=c53,es:=x.es++[((q:Nat):Int)]},_),⟨by omega,by rw[ae];exact hol,fun j y hy=> ?_,row12,_,hset _ L53 ho53,H.forget (.cons _ (au _)) (fun _ h=>h)⟩,dR Z,Qg,by show p- (q+1)<p-q;omega⟩
 rw[D7,htn]
 by_cases hij:i=j
 subst hij;rw[al (cy hx).1]at hy;injection hy with hy;rw[<-hy,if_pos Z,hxe]
 rw[aT hij]at hy;rw[if_neg I];exact hes j y hy
 refine U<|W<|ZF Z<|Zx<|W<|Zr<|G (Ys Z)<|G (Ws Z)<|U<|Zt ?_
 obtain rfl:q=p:=by omega
 have hmap:out.map Il.es=gF names q:=by
  apply dZ
  intro j
  unfold gF
  rw[aI,aI]
  by_cases hj:j<names.length
  obtain⟨y,hy⟩: ∃ y,out[j]? =some y:=⟨_,aj I⟩
  rw[hy,sU hj];exact congrArg some (hes j y hy)
  rw[bX I,bX (by rw[jE];omega)];rfl
 exact cn (v:=.slice (Qd b28) names.length names.length) Z Z ⟨out,_,names.length,by rw[hol],by omega,hmap,(d7.own row3).rd (K:=[]) (M:=(b12,_)::(b2,.cells #[.slice A names.length c] mj (0,0))::Lp) H,fun x hx=>hop.rd (K:=[(b28,_),(b12,_),(b2,.cells #[.slice A names.length c] mj (0,0))]) H hx,H.below⟩
/-- lists of numbers that a call has made, to be read -/
def OQ (lo hi:Nat) (B:Option Addr) (out:List Il):ce:=⟨lo,hi,fun w=>Rd Qi lo hi B out w/\ ∀ x∈out,Rd bS lo hi x.A x.es w,fun _ _ hk h=>⟨h.1.st hk,fun x hx=>(h.2 x hx).st hk⟩⟩
theorem Hp.ilRow {w0 w:World} {L:List (Nat×Obj)} {F:List ce} {lo hi:Nat} {B:Option Addr} {out:List Il} (H:Hp w0 w L F) (i:Nat) (hF:F[i]? =some (OQ lo hi B out)):Hp w0 w L (ey Qi lo hi B out::F):=by
 refine⟨H.below,H.ents,H.nodup,fun f hf=> ?_⟩
 rcases av.1 hf with rfl|hf
 obtain⟨h1,h2,h3⟩:=H.facts _ (ab hF)
 exact⟨h1.1,h2,h3⟩
 exact H.facts f hf
theorem Hp.ilPart {w0 w:World} {L:List (Nat×Obj)} {F:List ce} {lo hi:Nat} {B:Option Addr} {out:List Il} (H:Hp w0 w L F) (i:Nat) (hF:F[i]? =some (OQ lo hi B out)) {x:Il} (hx:x∈out):Hp w0 w L (ey bS lo hi x.A x.es::F):=by
 refine⟨H.below,H.ents,H.nodup,fun f hf=> ?_⟩
 rcases av.1 hf with rfl|hf
 obtain⟨h1,h2,h3⟩:=H.facts _ (ab hF)
 exact⟨h1.2 x hx,h2,h3⟩
 exact H.facts f hf
def n7 (ms:List Mem) (p:Nat):List Mem:=List.zipWith (fun(m:Mem) l=>{m with parts:=l}) ms (gF (ms.map Mem.name) p)
theorem oZ (names:List ByteArray) (p:Nat):(gF names p).length=names.length:=by simp[gF]
theorem M8 {ms:List Mem} {p i:Nat} {m:Mem} {l:List Int} (hm:ms[i]? =some m) (hl:(gF (ms.map Mem.name) p)[i]? =some l):(n7 ms p)[i]? =some {m with parts:=l}:=by
 unfold n7
 rw[qN,hm,hl]
theorem zj {w0 w:World} {M Lm:List (Nat×Obj)} {F:List ce} (ck wt gn:Int) (ms:List Mem) (mA:Option Addr) (mC:Nat) (os:List lr) (oA:Option Addr) (oC p:Nat) (H:Hp w0 w (Lm++M) F) (ho:gG j0 (.slice mA ms.length mC) dh ms Lm) (hml:ms.length<=6) (hp:p<=4) (hg0:0<=gn) (hg1:gn<1073741824):
  dt aa yu [.agg #[J (ck),J (wt),J (gn),.slice mA ms.length mC,.slice oA os.length oC],J (p:Nat)] w fun v w2=> ∃ (ms':List Mem) (Lm':List (Nat×Obj)),v=.agg #[J (ck),J (wt),J (gn+1),.slice mA ms'.length mC,.slice oA os.length oC]/\ms'.map Mem.a=(n7 ms p).map Mem.a/\gG j0 (.slice mA ms'.length mC) dh ms' Lm'/\(∀ m∈ms',m.parts.length<=m.cap/\w0.heap.size<=m.lo)/\Hp w0 w2 (Lm'++M) (F++ms'.map nH):=by
 refine aG xu Z Z ?_
 refine W<|Zr<|gY H Z Z fun w1 b2 H=>fc H ed Z fun w2 b4 H=>U<|W<|Zr<|G (Zf kD Z)<|G (Zd am H 1 Z Z Z)<|G (bp Z Z I I)<|G (Zf kD Z)<|bA H 1 (#[J (ck),J (wt),J (gn+1),.slice mA ms.length mC,.slice oA os.length oC]) bQ Z Z Z Z Z N N fun w3 H=>U<|W<|Zr<|G (Ws Z)<|U<|W<|W<|Zr<|G (Zf dM Z)<|G (Zd dw H 1 Z Z Z)<|G (bh gI Z)<|G (Yi Z)<|U<|Zb ?_
 refine cf (τ:=Nat×List ByteArray×Option Addr×Nat) [5,7,17,18,19,20,21,22,23,24,25,26] (fun(k,nl,A1,c1)=>[(17,J (k:Nat)),(5,.slice A1 nl.length c1)]) (fun(k,nl,A1,c1) w'=>k<=ms.length/\nl=(ms.take k).map Mem.name/\ ∃ Ln,gG mq (.slice A1 nl.length c1) pd nl Ln/\Hp w0 w' ((([(b4,.cells #[J 0,J 0,J 0,.slice none 0 0,.slice none 0 0] cK (0,0)),(b2,.cells #[J (ck),J (wt),J (gn+1),.slice mA ms.length mC,.slice oA os.length oC] cK (0,0))]++Lm++M)++Ln)++[]) F) (fun(k,_)=>ms.length-k) (0,[],none,0) ⟨by omega,rfl,[],gG.nil,(by rw[aZ,aZ];exact H)⟩ (mK Z Z) ?_
 rintro⟨k,nl,A1,c1⟩ ρ1 w4 ⟨hk,hnl,Ln,hoN,H⟩
 show CW _ _ _ _ (dK (ia _ _ ρ1) [(17,J (k:Nat)),(5,.slice A1 nl.length c1)]) w4
 have hnll:nl.length<=6:=by rw[hnl,bc,aD];omega
 refine W<|Zr ?_
 refine du (cO Z Z) Z Z Z (fun h18=> ?_) (fun h18=> ?_)
 refine U<|W<|ZT Z<|Zk<|W<|Zb<|W ?_
 obtain⟨x,hx⟩: ∃ x,ms[k]? =some x:=⟨_,aj I⟩
 obtain⟨g,cur,rfl,rfl,row⟩:=ho.row I
 refine Zr<|G (cR eL Z Z (by first|omega|(simp only[ae];omega)))<|G (pq n9 row hx Z Z (H.ent (i:=2) Z))<|fc H uk Z fun w5 b7 H=>bA H 0 (#[.string (x.name),J (x.heard),.slice x.A x.parts.length x.cap]) ta Z Z Z Z Z N N fun w6 H=>U<|Zr<|G (Ys Z)<|G (Zf oS Z)<|G (Zd ba H 0 Z Z Z)<|uO (vs:=[.string (x.name)]) H ki E1 Z Z Z Z Z Z fun w7 b24 H=>wN (Y:=mq) tL (K:=[(b24,.cells #[.string (x.name)] pd (0,0)),(b7,.cells #[.string (x.name),J (x.heard),.slice x.A x.parts.length x.cap] dh (0,0)),(b4,.cells #[J (0),J (0),J (0),.slice none 0 0,.slice none 0 0] cK (0,0)),(b2,.cells #[J (ck),J (wt),J (gn+1),.slice (Qd g) ms.length mC,.slice oA os.length oC] cK (0,0)),(g,.cells cur dh (0,0))]++M) (L:=Ln) (M:=[]) H hoN (news:=[x.name]) Z Z Z (zk.row (m:=1) (sz:=mq.sz) (H.ent (i:=0) Z) Z) (show(nl.length+1)*16<=140737488355328 by omega) Z ?_
 intro A25 c25 w8 L25 h25 _ ho25 H
 refine G (Ws Z)<|U<|Zr<|G (bp Z Z I I)<|G (Yi Z)<|U ?_
 exact⟨(k+1,nl++[x.name],A25,c25),⟨by omega,by rw[d6 hx,bk,hnl];rfl,L25,ho25,H.forget (.cons _ (.cons _ (au _))) (fun _ h=>h)⟩,mK Z Z,Qg,by show ms.length- (k+1)<ms.length-k;omega⟩
 refine U<|W<|ZF Z<|Zx<|W<|W ?_
 have hke:k=ms.length:=by omega
 rw[hke,bJ]at hnl
 subst hnl
 obtain⟨lo2,hi2,H⟩:=Hp.sealO (K:=[(b4,.cells #[J 0,J 0,J 0,.slice none 0 0,.slice none 0 0] cK (0,0)),(b2,.cells #[J (ck),J (wt),J (gn+1),.slice mA ms.length mC,.slice oA os.length oC] cK (0,0))]++Lm++M) (M:=[]) H hoN
 have hlo1:=H.size
 refine Zr<|G (Ys Z)<|G (Yi Z)<|cu zJ (by have hA:=Kw (ms.map Mem.name) A1 c1 p _ ((H.rd0 0 Z)) (by simp;omega) hp;exact hA) Z Z ?_
 rintro _ w9 ⟨out,B,d,rfl,hbd,hout,hrB,hrx,hb⟩
 obtain⟨lo3,h3⟩: ∃ n,w4.heap.size=n:=⟨_,rfl⟩
 obtain⟨hi3,h4⟩: ∃ n,w9.heap.size=n:=⟨_,rfl⟩
 rw[h3]at hrB hrx
 rw[h4]at hrB hrx
 have hlw:w0.heap.size<=lo3:=by rw[<-h3];exact hlo1
 replace H:=H.learn hb (OQ lo3 hi3 B out) ⟨hrB,fun x hx=>(hrx x hx).1⟩ (Nat.le_of_eq h3) (Nat.le_of_eq h4.symm)
 have hol:out.length=ms.length:=by have:=congrArg da hout;rw[oZ]at this;simpa using this
 replace H:=Hp.ilRow H 0 Z
 refine G (bh JX Z)<|G (Yi Z)<|U<|Zb ?_
 refine cf (τ:=Nat×List Mem) [8,9,31,32,33,34,35,36,37,38,39,40,41,42] (fun(i,_)=>[(31,J (i:Nat))]) (fun(i,ms1) w'=>i<=ms.length/\ms1.length=ms.length/\ms1.drop i=ms.drop i/\(ms1.take i).map Mem.a=((n7 ms p).take i).map Mem.a/\(∀ m∈ms1.take i,m.parts.length<=m.cap/\w0.heap.size<=m.lo)/\ ∃ Lm1,gG j0 (.slice mA ms1.length mC) dh ms1 Lm1/\Hp w0 w' ([(b4,.cells #[J 0,J 0,J 0,.slice none 0 0,.slice none 0 0] cK (0,0)),(b2,.cells #[J (ck),J (wt),J (gn+1),.slice mA ms1.length mC,.slice oA os.length oC] cK (0,0))]++Lm1++M) ((ey Qi lo3 hi3 B out::OQ lo3 hi3 B out::F)++(ms1.take i).map nH)) (fun(i,_)=>ms.length-i) (0,ms) ⟨by omega,rfl,rfl,rfl,by simp,Lm,ho,H.forget (by simp) (fun f hf=>by simp only[zn,pL,aZ,av]at hf⊢;grind)⟩ (dR Z) ?_
 rintro⟨i,ms1⟩ ρ2 w10 ⟨hi,hm1,hdr,htk,hlc,Lm1,hom,H⟩
 show CW _ _ _ _ (dK (ia _ _ ρ2) [(31,J (i:Nat))]) w10
 refine W<|Zr ?_
 refine du (cO Z Z) Z Z Z (fun h32=> ?_) (fun h32=> ?_)
 refine U<|W<|ZT Z<|Zk<|W<|Zb<|W ?_
 obtain⟨x,hx⟩: ∃ x,out[i]? =some x:=⟨_,aj I⟩
 have hmx:=ab hx
 obtain⟨y,hy⟩: ∃ y,ms1[i]? =some y:=⟨_,aj I⟩
 have hyt:=zW hdr hy
 obtain⟨g,cur,rfl,rfl,row⟩:=hom.row I
 refine Zr<|G (Yi Z)<|qg H 0 Z wX Z Z I I Z fun bq11 o11 x11 e11=> ?_
 obtain rfl:x=x11:=by have:=e11.at_;rw[hx]at this;exact aY this
 refine G (bi cB Z (e11.cl 0 _ Z))<|G (Wi Z)<|G (Ws Z)<|U<|Zr<|G (Zf dM Z)<|G (Zd dw H 1 Z Z Z)<|G (Yi Z)<|G (Ys Z)<|G (cR eL Z Z (by first|omega|(simp only[ae];omega)))<|G (Zf ja Z)<|ni H 2 ({y with parts:=x.es,A:=x.A,cap:=x.cap,lo:=lo3,hi:=hi3}) jQ row hy 2 Z Z Z Z Z Z N fun w13 cur12 row12 H=> ?_
 have hs14:(ms1.set i ({y with parts:=x.es,A:=x.A,cap:=x.cap,lo:=lo3,hi:=hi3}))[i]? =some ({y with parts:=x.es,A:=x.A,cap:=x.cap,lo:=lo3,hi:=hi3}):=al (cy hy).1
 refine U<|Zr<|G (bp Z Z I I)<|G (Yi Z)<|U ?_
 replace H:=Hp.ilPart H 1 Z hmx
 have hown:=d7.own (g:=g) (e:=dh) row12
 have z3:=C2 (show i<ms1.length by omega) ({y with parts:=x.es,A:=x.A,cap:=x.cap,lo:=lo3,hi:=hi3})
 have hle:(gF (ms.map Mem.name) p)[i]? =some x.es:=by rw[<-hout,aI,hx];rfl
 refine⟨(i+1,ms1.set i {y with parts:=x.es,A:=x.A,cap:=x.cap,lo:=lo3,hi:=hi3}),⟨by omega,by rw[ae];exact hm1,?_,?_,?_,_,hown,?_⟩,dR Z,Qg,by show ms.length- (i+1)<ms.length-i;omega⟩
 rw[sV I];exact wF hdr I
 rw[z3,d6 (M8 hyt hle),bk,bk,htk];rfl
 rw[z3];intro m hm;rcases ap.1 hm with hm|hm;exact hlc m hm;rw[ar.1 hm];exact⟨(hrx x hmx).2,hlw⟩
 rw[ae];exact H.forget (au _) (fun f hf=>by rw[z3]at hf;simp only[bk,eU,pL,ap,av,bd,or_false]at hf⊢;grind)
 refine U<|W<|ZF Z<|Zx<|W<|Zr<|G (Zw aO H 1 Z Z Z)<|bA H 0 (#[J (ck),J (wt),J (gn+1),.slice mA ms1.length mC,.slice oA os.length oC]) bz Z Z Z Z Z N N fun w15 H=>U<|Zt ?_
 obtain rfl:i=ms.length:=by omega
 rw[show ms.length=ms1.length from hm1.symm,bJ,show ms1.length=(n7 ms p).length by unfold n7;rw[List.length_zipWith,oZ,bc,hm1];omega,bJ]at htk
 rw[<-hm1,bJ]at hlc H
 exact eW (cs0:= #[J (ck),J (wt),J (gn+1),.slice mA ms1.length mC,.slice oA os.length oC]) Z aO Z (H.ent (i:=0) Z) Z ⟨ms1,Lm1,rfl,htk,hom,hlc,H.forget (.cons _ (.cons _ (au _))) (fun f hf=>by simp only[av,ap];grind)⟩
theorem oK:aa.funcs[(140:Nat)]? =some Tryz.f140:=Tryz.func140
theorem jH {w0 w:World} {K M Lt:List (Nat×Obj)} {F:List ce} {es:List lr} {x:lr} {i c vb:Nat} {A:Option Addr} (H:Hp w0 w (((vb,.cells (gi.f x).toArray eg (0,0))::K)++Lt++M) F) (ho:gG gi (.slice A es.length c) eg es Lt) (hi:i<=es.length) (hb:(es.length+1)*16<=140737488355328):
  dt aa nL [.slice A es.length c,J (i:Nat),.slice (Qd vb) ((1:Nat)) 1] w fun v w2=> ∃ A' c' L',v=.slice A' (es.take i++[x]++es.drop i).length c'/\gG gi (.slice A' (es.take i++[x]++es.drop i).length c') eg (es.take i++[x]++es.drop i) L'/\Hp w0 w2 (((vb,.cells (gi.f x).toArray eg (0,0))::K)++L'++M) F:=by
 refine aG nk Z Z ?_
 show CW _ _ _ _ (args [.slice A es.length c,J (i:Nat),.slice (Qd vb) ((1:Nat)) 1]) w
 have hc0:es.length<=c:=by
  obtain⟨_,c',he,hc,_⟩:=ho.form
  injection he with _ _ he
  omega
 have hxs:(gi.f x).length=gi.sz:=gi.len x
 have hx1: ∀ u∈gi.f x,u.oneCell'=true:=fun u hu=>gi.one x u hu
 have hsv: ∀ {w2:World} {K2:List (Nat×Obj)},Hp w0 w2 ((vb,.cells (gi.f x).toArray eg (0,0))::K2) F->zk w2 (Qd vb) 1 gi.sz (gi.all [x]):=fun h=>⟨by rw[fA.length];rfl,fun _=>⟨_,rfl,fun j u hj=>by rw[all_one]at hj;rw[Addr.add_lit,cF];exact aJ (h.ent (i:=0) Z) (by simpa using hj)⟩⟩
 refine W<|Zr<|vz Z Z<|U<|W<|Zr<|mD Z Z<|iN Z Z<|tP dd Z Z I I I Z fun A12 hA12=>U<|W<|Zr<|mD Z Z<|vt iu Z Z<|pF Z Z<|U<|W<|W<|Zr<|iN Z Z<|G (lS Z Z (by decide))<|U<|ZF Z<|Zk<|W<|Zr<|mD Z Z<|vt iu Z Z<|pF Z Z<|U<|W<|W<|Zr<|iN Z Z<|iN Z Z ?_
 refine MS Z Z Z (fun h22=> ?_) (fun h22=> ?_)
 ·refine bP ?_
  refine ZT Z<|W<|Zr<|mD Z Z<|mD Z Z<|wN (Y:=gi) (es:=es) (news:=[x]) wJ H ho Z Z Z (hsv H) (by show(es.length+1)*16<=_;omega) Z fun A25 c25 w25 L25 h25 h25b ho25 H25=>vz Z Z<|U<|Zt<|cn Z Z ?_
  have hi:i=es.length:=by omega
  subst hi
  have he:es.take es.length++[x]++es.drop es.length=es++[x]:=by rw[bJ,fC,aZ]
  rw[he]
  exact⟨A25,c25,L25,rfl,ho25,H25⟩
 refine U<|ZF Z<|Zk ?_
 have hlt:i<es.length:=by omega
 obtain⟨g,cur,rfl,rfl,row⟩:=ho.row I
 have hgE:w.heap[g]? =some (.cells cur eg (0,0)):=H.ent (i:=((vb,.cells (gi.f x).toArray eg (0,0))::K:List (Nat×Obj)).length) (by simp)
 have hle:=row.le
 have hmx:=row.max
 have hlen:=vf (x:=x) (mF hlt)
 have hfit:=row.fit hle
 have hif:=row.fit (i:=i) I
 have hdr:(gi.all (es.drop i)).length=(es.length-i)*gi.sz:=by rw[fA.length,cZ]
 have hsm:(i+1)*gi.sz+(es.length-i)*gi.sz=(es.length+1)*gi.sz:=by rw[<-cN];congr 1;omega
 have hi3:(i+1)*gi.sz=i*gi.sz+gi.sz:=by rw[cN,gh]
 refine W<|W<|Zr<|iN Z Z<|iN Z Z<|add Z Z I I Z<|mD Z Z<|G (ET iu Z) ?_
 refine J9 Z Z Z (fun h31=> ?_) (fun h31=> ?_)
 ·refine bP ?_
  refine ZT Z<|W<|Zr<|mD Z Z<|iN Z Z<|Ah dd Z Z I I Z fun A34 hA34=> ?_
  obtain rfl:=hA34 I
  refine iN Z Z<|iN Z Z<|add Z Z I I Z<|iN Z Z<|sub Z Z I I Z ?_
  refine Rj (m:=es.length+1-i) wJ i8 H Z (kd:=.i64) (show _=Value.int _ _ from congrArg (Value.int _) (show((es.length:Int)+((1:Nat):Int))- (i:Nat)=((es.length+1-i:Nat):Int) by omega)) (olds:=gi.all (es.take i)) (by rw[fA.length,aD,bB I];rfl) (fun j u hj=>by rw[Addr.add_lit,cF];rw[<-row.pre I,di]at hj;split at hj;exact aJ hgE (by simpa using hj);cases hj) I I (by show(((i:Nat):Int).toNat+(es.length+1-i))*16<=_;omega) Z ?_
  intro w1 g2 c2 cur2 hs2 hge2 hmx2 hp2 H
  have hs2':cur2.size=c2*gi.sz:=hs2
  have hc2:(es.length+1)*gi.sz<=cur2.size:=by rw[hs2'];exact dq _ I
  have hg2:(pw cur2 (i*gi.sz) (gi.f x)).size=cur2.size:=jS (by rw[hxs];omega)
  refine vz Z Z<|U<|W<|Zr<|mD Z Z<|iN Z Z<|tP dd Z Z I I I Z fun A43 hA43=>mD Z Z ?_
  have hsrc:=hsv (H.perm (ak _ _ _))
  refine O6 (K:=[]) (m:=1) (o:=i*gi.sz) dd H Z Z (Di Z I) (fun _=>wL.at0 hA43 I) hsrc (by rw[all_one];exact hx1) (by rw[all_one,hxs];omega) Z ?_
  rw[all_one]
  intro w2 H
  refine U<|W ?_
  refine bL cD [0,1,2,3,4,5,6,7] [8] [] [0,1,2,3,4,5,6,7] (sp []) N N N N Nq (cQ _) ?_
  refine aw Z Z Z Z Z (fun _ _=>iH Z)<|aw Z Z Z Z Z (fun _ _=>iH Z)<|aw Z Z Z Z Z (fun _ _=>iH Z)<|aw Z Z Z Z Z (fun _ _=>bp Z Z I I)<|aw Z Z Z Z Z (fun _ _=>pV dd Z Z I I)<|aw Z Z Z Z Z (fun _ _=>iH Z)<|aw Z Z Z Z Z (fun _ _=>iH Z)<|aw Z Z Z Z Z (fun _ _=>pV dd Z Z I I)<|aU ?_
  intro w' hw' _;replace H:=H.later hw';clear hw'
  have hgE2:w'.heap[g]? =some (.cells cur eg (0,0)):=(H.ents (g,.cells cur eg (0,0)) (by simp)).1
  refine O6 (K:=[]) (m:=es.length-i) (o:=(i+1)*gi.sz) dd H Z Z (Di I I) (fun _=>BG I) (row.srcFrom hgE2 I (sQ (ao _)) I) (fA.all_one _) (by rw[hdr,hg2];omega) Z ?_
  intro w3 H
  refine U<|W<|Zr<|mD Z Z<|vz Z Z<|U<|Zt<|cn Z Z ?_
  exact⟨some ⟨g2,0,none⟩,c2,_,by rw[hlen];show Value.slice _ (((i:Nat):Int).toNat+(es.length+1-i)) _=_;congr 1;omega,d7.own (d7.insNew hs2' hmx2 hp2 (mF hlt) I),H.swapRow⟩
 refine U<|ZF Z<|Zk ?_
 have hroom:es.length+1<=c:=by omega
 have hfr:=row.fit hroom
 refine W<|Zr<|mD Z Z<|iN Z Z<|iN Z Z<|add Z Z I I Z<|Ah dd Z Z I I Z fun A60 hA60=> ?_
 obtain rfl:=hA60 I
 refine vz Z Z<|U<|W<|W<|Zr<|mD Z Z<|mD Z Z<|iN Z Z<|iN Z Z<|add Z Z I I Z<|tP dd Z Z I I I Z fun A66 hA66=> ?_
 have hA:=wL.at0 hA66 I
 have hvE:w.heap[vb]? =some (.cells (gi.f x).toArray eg (0,0)):=H.ent (i:=0) Z
 have hne:vb≠g:=fun he=>by
  have:=H.nodup
  simp only[bk,eU,qQ,jz,ap]at this
  exact this.1 (.inl (.inr (by rw[he];exact az)))
 have hov: ∀ lb cb,(callFunc px #[.slice (Qd vb) 1 1,.slice A66 lb cb]).run aa w=.ok (.value (.bool false)) w:=fun lb cb=>by
  rw[hA,run_callFunc_extern oK N N N (e:=Extern.SlicesOverlaps.overlaps #[yT,yT] #[j6]) N,
   Lib.run_overlaps_apart w yT j6 eg (ff dd).1 gi.sz (by obtain⟨_,j,h1,h2⟩:=ff dd;exact fun w=>by rw[fT h1,h2];rfl) ⟨vb,0,none⟩ _ 1 1 lb cb hne eg eg (gi.f x).length cur.size (by simp[World.shape?,hvE]) (by simp[World.shape?,hgE]) (by have:=gi.pos;have:=row.fit (i:=1) I;omega) (by simp[World.frozen?,hvE]) (by simp[World.frozen?,hvE])]
  rfl
 refine QF (hov _ _) Z Z<|not Z Z<|U<|ZT Z<|W ?_
 refine bL cD [0,1,2,3,4,5,6,7] [8] [] [0,1,2,3,4,5,6,7] (sp []) N N N N Nq (cQ _) ?_
 refine aw Z Z Z Z Z (fun _ _=>iH Z)<|aw Z Z Z Z Z (fun _ _=>iH Z)<|aw Z Z Z Z Z (fun _ _=>iH Z)<|aw Z Z Z Z Z (fun _ _=>bp Z Z I I)<|aw Z Z Z Z Z (fun _ _=>pV dd Z Z I I)<|aw Z Z Z Z Z (fun _ _=>iH Z)<|aw Z Z Z Z Z (fun _ _=>iH Z)<|aw Z Z Z Z Z (fun _ _=>pV dd Z Z I I)<|aU ?_
 intro w' hw' _;replace H:=H.later hw';clear hw'
 have hgE2:w'.heap[g]? =some (.cells cur eg (0,0)):=(H.ents (g,.cells cur eg (0,0)) (by simp)).1
 have hz1:(pw cur ((i+1)*gi.sz) (gi.all (es.drop i))).size=cur.size:=jS (by rw[hdr];omega)
 refine O6 (m:=es.length-i) (o:=(i+1)*gi.sz) dd H Z Z (O1 I I) (fun _=>BG I) (row.srcFrom hgE2 I (sQ (ao _)) I) (fA.all_one _) (by rw[hdr];omega) Z ?_
 intro w2 H
 refine U<|W<|Zr<|mD Z Z<|iN Z Z<|tP dd Z Z I I I Z fun A80 hA80=>mD Z Z ?_
 have hsrc:=hsv H
 refine O6 (m:=1) (o:=i*gi.sz) dd H Z Z (Di Z I) (fun _=>wL.at0 hA80 I) hsrc (by rw[all_one];exact hx1) (by rw[all_one,hxs,hz1];omega) Z ?_
 rw[all_one]
 intro w3 H
 refine U<|W<|Zr<|mD Z Z<|vz Z Z<|U<|Zt<|cn Z Z ?_
 exact⟨some ⟨g,0,none⟩,c,_,by rw[hlen];show Value.slice _ ((es.length:Int)+((1:Nat):Int)).toNat _=_;congr 1,d7.own (row.insIn (mF hlt) hroom),H⟩
theorem MH {α:Type} {l:List α} {pred:α->Bool} {ix:Option Nat} (h:l.findIdx? pred=ix) (hne:lO ix≠ -1): ∃ (k:Nat) (x:α),ix=some k/\k<l.length/\l[k]? =some x/\pred x=true/\(l.take k).filter (fun m=>!pred m)=l.take k:=by
 cases ix with
 |none=>exact absurd Z hne
 |some k=>
  obtain⟨hl,h1,h2⟩:=aP.1 h
  refine⟨k,_,rfl,hl,aj hl,h1,?_⟩
  rw[j7]
  intro m hm
  obtain⟨j,hj⟩:=aN.1 hm
  rw[di]at hj
  split at hj
  rename_i hjk
  obtain⟨hjl,rfl⟩:=cy hj
  have:=h2 j hjk
  simpa using this
  cases hj
theorem N5 {α:Type} {l:List α} {pred:α->Bool} {ix:Option Nat} (h:l.findIdx? pred=ix) (hne:lO ix= -1):(l.filter fun m=>!pred m)=l:=by
 cases ix with
 |none=>
  rw[cL]at h
  rw[j7]
  intro m hm
  simp[h m hm]
 |some k=>simp[lO]at hne
theorem OF {w0 w:World} {M:List (Nat×Obj)} {F:List ce} {g n:Nat} {u:Array Value} (ms:List Mem) (c:Nat) (H:Hp w0 w ((g,.cells u dh (0,0))::M) F) (row:d7 j0 ms c u) (hn:n=ms.length) (hm12:ms.length<=1000) {f:FuncId} {cap:List Value} (hf:bg aa f=true) (pred:Mem->Bool)
  (hp: ∀ e∈ms,∀ (w':World) (u':Array Value),Hp w0 w' ((g,.cells u' dh (0,0))::M) F->dt aa f (.agg e.c.toArray::cap) w' fun v w2=>v=.bool (pred e)/\Below w'.heap.size w' w2):
  dt aa fG [.slice (Qd g) n c,.func (.func f) #[] cap.toArray] w fun v w2=> ∃ u2,v=.slice (Qd g) (ms.filter fun m=>!pred m).length c/\d7 j0 (ms.filter fun m=>!pred m) c u2/\Hp w0 w2 ((g,.cells u2 dh (0,0))::M) F:=by
 refine aG iv Z Z ?_
 have hle:=row.le
 refine W<|Zr<|G (Ws Z)<|U<|W<|Zr<|G (Ys Z)<|G (tQ Z)<|cu dr (by subst hn;exact f8 ms _ c _ (row.rd0 (H.ent (i:=0) Z)) I f cap hf pred (fun e w2 he hb=>hp e he w2 u (H.later hb))) Z Z ?_
 rintro _ w1 ⟨rfl,hb⟩;replace H:=H.later hb;clear hb
 obtain⟨ix,hix⟩: ∃ i,ms.findIdx? pred=i:=⟨_,rfl⟩
 rw[hix]
 refine G (Wi Z)<|U<|W<|W<|Zr<|G (Yi Z) ?_
 refine du (bv Z Z) Z Z Z (fun h12=> ?_) (fun h12=> ?_)
 have hall:=N5 hix I
 refine U<|ZT Z<|W<|Zr<|G (Ys Z)<|G (Ws Z)<|U<|Zt ?_
 exact cn (v:=.slice (Qd g) n c) Z Z ⟨u,by rw[hall,hn],by rw[hall];exact row,H⟩
 refine U<|ZF Z<|Zk<|W<|W ?_
 obtain⟨k0,x0,rfl,hk0l,hk0,hk0p,hkn⟩:=MH hix I
 refine Zr<|G (Yi Z)<|G (bp (a:=((k0:Nat):Int)) Z Z I I)<|G (Wi Z)<|U<|Zb ?_
 refine cf (τ:=Nat×Nat×List Mem×Array Value) [5,6,7,16,17,18,19,20,21,22,23,24,25,26,27,28,29,30,31,32,33,34,35] (fun(j,i,_,_)=>[(6,J (j:Nat)),(5,J (i:Nat))]) (fun(j,i,m,u1) w'=>j<=n/\i<j/\m.length=n/\m.drop j=ms.drop j/\m.take i=(ms.take j).filter (fun m=>!pred m)/\d7 j0 m c u1/\Hp w0 w' ((g,.cells u1 dh (0,0))::M) F) (fun(j,_,_,_)=>n-j) (k0+1,k0,ms,u) ⟨by omega,by omega,hn.symm,rfl,by rw[d6 hk0,jn,hkn];simp[hk0p],row,H⟩ (mK Z Z) ?_
 rintro⟨j,i,m,u1⟩ ρ1 w2 ⟨hjn,hij,hml,hdr,htk,row2,H⟩
 show CW _ _ _ _ (dK (ia _ _ ρ1) [(6,J (j:Nat)),(5,J (i:Nat))]) w2
 refine W<|W<|Zr<|G (Yi Z)<|G (Ys Z)<|G (bh gI Z) ?_
 refine du (cO Z Z) Z Z Z (fun h19=> ?_) (fun h19=> ?_)
 obtain⟨y,hy⟩: ∃ y,m[j]? =some y:=⟨_,aj I⟩
 have hyt:=zW hdr hy
 have hmy:=ab hyt
 refine U<|ZT Z<|Zk<|W<|Zb<|W<|Zr<|G (Ys Z)<|G (Yi Z)<|G (cR eL Z Z (by first|omega|(simp only[ae];omega)))<|G (pq n9 row2 hy Z Z (H.ent (i:=0) Z))<|fc H uk Z fun w3 b7 H=>bA H 0 (#[.string (y.name),J (y.heard),.slice y.A y.parts.length y.cap]) ta Z Z Z Z Z N N fun w4 H=>U<|W<|Zr<|G (tQ Z)<|G (Zw n9 H 0 Z Z Z) ?_
 refine OK hf Z (hp y hmy _ _ (H.forget (.cons _ (au _)) (fun _ h=>h))) Z Z ?_;rintro _ w5 ⟨rfl,hb2⟩;replace H:=H.later hb2;clear hb2
 refine G (ee Z)<|U ?_
 refine kI Z (fun hc29=> ?_) (fun hc29=> ?_)
 refine W<|Zr<|G (Ys Z)<|G (Yi Z)<|G (Zw n9 H 0 Z Z Z)<|G (cR eL Z Z (by first|omega|(simp only[ae];omega))) ?_
 obtain⟨x33,hx33⟩: ∃ x,m[i]? =some x:=⟨_,aj (by first|omega|(simp only[ae];omega))⟩
 refine ni H 1 (y) ta row2 hx33 0 Z Z Z Z Z Z N fun w7 cur6 row6 H=> ?_
 have hs8:(m.set i (y))[i]? =some (y):=al (cy hx33).1
 refine U<|Zr<|G (Yi Z)<|G (bp Z Z I I)<|G (Wi Z)<|U<|Zr<|G (Yi Z)<|G (bp Z Z I I)<|G (Wi Z)<|U ?_
 exact⟨(j+1,i+1,m.set i y,_),⟨by omega,by omega,by simp[hml],by rw[sV I];exact wF hdr I,by rw[C2 I,htk,d6 hyt,jn,kc (by simpa using hc29)];rfl,row6,H.forget (.cons _ (au _)) (fun _ h=>h)⟩,mK Z Z,Qg,by show n- (j+1)<n-j;omega⟩
 refine Zk<|Zr<|G (Yi Z)<|G (bp Z Z I I)<|G (Wi Z)<|U ?_
 exact⟨(j+1,i,m,u1),⟨by omega,by omega,hml,wF hdr I,by rw[htk,d6 hyt,jn,ph (by simpa using hc29)];simp,row2,H.forget (.cons _ (au _)) (fun _ h=>h)⟩,mK Z Z,Qg,by show n- (j+1)<n-j;omega⟩
 refine U<|ZF Z<|Zx<|W<|Zr<|G (Ys Z)<|G (Yi Z)<|tP (A:=some ⟨g,0,none⟩) (len:=n) (cap:=c) (i:=((i:Nat):Int)) eL Z Z I I I Z fun A38 hA38=> ?_
 obtain rfl:=wL.at0 hA38 (show i<n by omega)
 show LW _ _ _ _ _ (fD _ _ (.slice (some ⟨g,i*3,none⟩) (n-i) (c-i))) _
 have hsz:=row2.size
 have hzl:(Builtin.zeroCells (Value.cells (.agg #[.string ⟨#[]⟩,J 0,.slice none 0 0])) (n-i)).toList.length=(n-i)*3:=by rw[bY,size_zeroCells];rfl
 refine Rh (K:=[]) (M:=M) (o:=i*3) (z:=.agg #[.string ⟨#[]⟩,J 0,.slice none 0 0]) eL N Z Z H Z (fun _=>rfl) (by rw[hsz];show i*3+(n-i)*3<=c*3;omega) fun w9 H=> ?_
 have row3:=d7.clr row2 (k:=i) (o:=i*3) (zs:=(Builtin.zeroCells (Value.cells (.agg #[.string ⟨#[]⟩,J 0,.slice none 0 0])) (n-i)).toList) I (ao _) (by rw[hzl,hsz];show i*3+(n-i)*3<=c*3;omega)
 refine U<|W<|Zr<|G (Ys Z)<|G (Yi Z)<|Ah (A:=some ⟨g,0,none⟩) (len:=n) (cap:=c) (i:=((i:Nat):Int)) eL Z Z I I Z fun A41 hA41=> ?_
 obtain rfl:=hA41 I
 show LW _ _ _ _ _ (fD _ _ (.slice (Qd g) i c)) _
 refine G (Ws Z)<|U<|Zt ?_
 have hfin:m.take i=ms.filter (fun m=>!pred m):=by rw[htk,show j=ms.length by omega,bJ]
 have hfl:i=(ms.filter fun m=>!pred m).length:=by rw[<-hfin,aD];omega
 exact cn (v:=.slice (Qd g) i c) Z Z ⟨_,by rw[<-hfl],hfin▸row3,H⟩
theorem te {β:Type} (X A C:List β):(X++A++C).Perm (A++(X++C)):=by
 rw[aB]
 exact gj X A C
theorem tg (l:List Mem):(l.map Mem.a).map Mem.name=l.map Mem.name:=by rw[pM];rfl
theorem M9 (ms:List Mem) (p:Nat):(n7 ms p).map Mem.a=n7 (ms.map Mem.a) p:=by
 unfold n7
 rw[tg,List.map_zipWith,List.zipWith_map_left]
 rfl
theorem BL (ms:List Mem) (p:Nat):(n7 ms p).length=ms.length:=by
 unfold n7
 rw[List.length_zipWith,oZ,bc];omega
theorem BK {ms:List Mem} {p:Nat} {m:Mem} (h:m∈n7 ms p): ∃ i,m.parts=mN (ms.map Mem.name) p i:=by
 obtain⟨i,hi⟩:=aN.1 h
 have hl:=(cy hi).1
 rw[BL]at hl
 obtain⟨x,hx⟩: ∃ x,ms[i]? =some x:=⟨_,aj hl⟩
 have hp:(gF (ms.map Mem.name) p)[i]? =some (mN (ms.map Mem.name) p i):=by
  unfold gF
  rw[aI,bc,sU hl];rfl
 rw[M8 hx hp]at hi
 injection hi with hi
 exact⟨i,by rw[<-hi]⟩
def EW (g:Gr) (p:Nat):Gr:={g with gen:=g.gen+1,ms:=n7 g.ms p}
def zu (s:ByteArray) (ck:Int):Mem:=⟨s,ck,[],none,0,0,0⟩
theorem I5 {w w2:World} {ck wt gn:Int} {ms' l:List Mem} {mA oA:Option Addr} {mC oC p:Nat} {os:List lr} {Lm Lo:List (Nat×Obj)} (ha:ms'.map Mem.a=n7 (l.map Mem.a) p) (hl:l.length<=6) (hp:p<=4) (hol:os.length<=4) (ho:gG j0 (.slice mA ms'.length mC) dh ms' Lm) (hoo:gG gi (.slice oA os.length oC) eg os Lo) (hoc:os.length<=oC) (hc: ∀ m∈ms',m.parts.length<=m.cap/\w.heap.size<=m.lo) (H:Hp w w2 (Lm++Lo) (ms'.map nH)):zl w w2 ⟨ck,wt,gn,ms',mA,mC,os,oA,oC⟩:=by
 have hml:ms'.length=l.length:=by have:=congrArg da ha;rw[BL]at this;simpa using this
 have hmc:ms'.length<=mC:=by
  obtain⟨_,c,e,h,_⟩:=ho.form
  injection e with _ _ e
  rw[e];exact h
 refine rF.new (ga:=Gr.a ⟨ck,wt,gn,ms',mA,mC,os,oA,oC⟩) ⟨rfl,ho,hoo,hmc,hoc,hc,H⟩ (by dsimp only;omega) (by dsimp only;omega) fun m hm=> ?_
 have h1:m.a∈n7 (l.map Mem.a) p:=ha▸bF hm
 obtain⟨i,hi⟩:=BK h1
 have h2:m.parts=mN ((l.map Mem.a).map Mem.name) p i:=hi
 rw[h2]
 have:=y4 ((l.map Mem.a).map Mem.name) p i
 omega
theorem Hu (g:Gr) (s:ByteArray) (p:Nat) (w:World) (h:g.rd 0 w.heap.size w) (hok:lP g=true) (hn:bu s=true) (hp:p<=4) (hg1:g.gen<1073741824) (i:Nat) (hi:qx g s=i):dt aa p5 [g.v,.string s,J (p:Nat)] w fun v w2=>v=.tuple #[.agg #[J 0,J 0,J 0,.slice none 0 0,.slice none 0 0],J 6]/\Below w.heap.size w w2:=by
 refine aG r8 Z Z ?_
 have hmC:=h.mC
 have hoC:=h.oC
 have hfew:=h.few
 have hfp:=h.fewP
 have H:=Hp.startGr h
 obtain⟨ck,wt,gn,ms,mA,mC,os,oA,oC⟩:=g
 dsimp only at hmC hoC hfew hfp H
 show CW _ _ _ _ (args [.agg #[J (ck),J (wt),J (gn),.slice mA ms.length mC,.slice oA os.length oC],.string (s),J (((p:Nat):Int))]) w
 obtain⟨⟨⟨k1,k2⟩,k3,k4,⟨k5,k6⟩,k7,k8⟩,⟨hmo,hap⟩,hof,hor⟩:=dC.1 hok
 dsimp only at k1 k2 k3 k4 k5 k6 k7 k8 hg1
 refine W<|Zr<|gY H Z Z fun w1 b3 H=>fc H ed Z fun w2 b6 H=>G (Wi Z)<|U<|W<|Zr<|G (Zw aO H 1 Z Z Z)<|G (Yt Z)<|cu gE (mU ⟨ck,wt,gn,ms,mA,mC,os,oA,oC⟩ s _ ⟨H.rd0 0 Z,fun m hm=>zR H 1 Z hm,H.rd0 2 Z,hmC,hoC,hfew,hfp⟩ hok hn) Z Z ?_
 rintro _ w3 ⟨⟨ck2,wt2,gn2,ms2,mA2,mC2,os2,oA2,oC2⟩,Lm,Lo,rfl,ha2,ho2,hoo2,hmc2,hoc2,hpc2,hj2⟩
 have hlo2:=H.size
 replace H:=Hp.joinG H hj2 (fun m hm=>(hpc2 m hm).2);clear hj2
 simp only[Gr.a,Gr.mk.injEq]at ha2
 obtain⟨e1,e2,e3,hma,-,-,e4,-,-⟩:=ha2
 obtain rfl:ck=ck2:=e1.symm
 obtain rfl:wt=wt2:=e2.symm
 obtain rfl:gn=gn2:=e3.symm
 obtain rfl:os=os2:=e4.symm
 dsimp only at ho2 hoo2 hmc2 hoc2 hpc2 H
 replace hpc2: ∀ m∈ms2,m.parts.length<=m.cap/\w.heap.size<=m.lo:=fun m hm=>⟨(hpc2 m hm).1,aV hlo2 (hpc2 m hm).2⟩
 have hml2:ms2.length=ms.length:=by have:=congrArg da hma;simpa using this
 rw[hi]
 refine G (Yu Z)<|G (Xa Z Z)<|G (Xi Z Z)<|G (Xi Z Z)<|bA H 1 (#[J (ck),J (wt),J (gn),.slice mA2 ms2.length mC2,.slice oA2 os.length oC2]) bz Z Z Z Z Z N N fun w4 H=>G (Wi Z)<|G (Wi Z)<|U<|W<|Zb<|W<|Zr<|G (Yi Z)<|G (cv Z Z Z)<|G (Wb Z)<|U<|ZF Z<|W<|Zr<|G (Zw aO H 1 Z Z Z)<|G (Yi Z)<|cu kZ (tD ⟨ck,wt,gn,ms2,mA2,mC2,os,oA2,oC2⟩ p _) Z Z ?_
 rw[show jd ⟨ck,wt,gn,ms2,mA2,mC2,os,oA2,oC2⟩ p=true by unfold jd;simp;omega]
 rintro _ w5 ⟨rfl,hb⟩;replace H:=H.later hb;clear hb
 refine G (ee Z)<|G (Wb Z)<|U<|ZF Z<|W<|Zr<|G (Yi Z)<|G (PR Z Z I)<|G (Wb Z)<|U<|ZT Z<|W<|Zr<|G (bC (cs:= #[J (0),J (0),J (0),.slice none 0 0,.slice none 0 0]) kh ed N)<|bA H 0 (#[J (0),J (0),J (0),.slice none 0 0,.slice none 0 0]) bz Z Z Z Z Z N N fun w6 H=>G (Wi Z)<|U<|Zt ?_
 exact ch (cs0:= #[J 0,J 0,J 0,.slice none 0 0,.slice none 0 0]) (v1:=J 6) Z aO Z (H.ent (i:=0) Z) Z Z ⟨rfl,H.below⟩
theorem J0 (g:Gr) (s:ByteArray) (p:Nat) (w:World) (h:g.rd 0 w.heap.size w) (hok:lP g=true) (hn:bu s=true) (hp:p<=4) (hg1:g.gen<1073741824) (hi:qx g s= -1) (hf:g.ms.length=6):dt aa p5 [g.v,.string s,J (p:Nat)] w fun v w2=>v=.tuple #[.agg #[J 0,J 0,J 0,.slice none 0 0,.slice none 0 0],J 16]/\Below w.heap.size w w2:=by
 refine aG r8 Z Z ?_
 have hmC:=h.mC
 have hoC:=h.oC
 have hfew:=h.few
 have hfp:=h.fewP
 have H:=Hp.startGr h
 obtain⟨ck,wt,gn,ms,mA,mC,os,oA,oC⟩:=g
 dsimp only at hmC hoC hfew hfp H
 show CW _ _ _ _ (args [.agg #[J (ck),J (wt),J (gn),.slice mA ms.length mC,.slice oA os.length oC],.string (s),J (((p:Nat):Int))]) w
 obtain⟨⟨⟨k1,k2⟩,k3,k4,⟨k5,k6⟩,k7,k8⟩,⟨hmo,hap⟩,hof,hor⟩:=dC.1 hok
 dsimp only at k1 k2 k3 k4 k5 k6 k7 k8 hg1
 dsimp only at hf
 refine W<|Zr<|gY H Z Z fun w1 b3 H=>fc H ed Z fun w2 b6 H=>G (Wi Z)<|U<|W<|Zr<|G (Zw aO H 1 Z Z Z)<|G (Yt Z)<|cu gE (mU ⟨ck,wt,gn,ms,mA,mC,os,oA,oC⟩ s _ ⟨H.rd0 0 Z,fun m hm=>zR H 1 Z hm,H.rd0 2 Z,hmC,hoC,hfew,hfp⟩ hok hn) Z Z ?_
 rintro _ w3 ⟨⟨ck2,wt2,gn2,ms2,mA2,mC2,os2,oA2,oC2⟩,Lm,Lo,rfl,ha2,ho2,hoo2,hmc2,hoc2,hpc2,hj2⟩
 have hlo2:=H.size
 replace H:=Hp.joinG H hj2 (fun m hm=>(hpc2 m hm).2);clear hj2
 simp only[Gr.a,Gr.mk.injEq]at ha2
 obtain⟨e1,e2,e3,hma,-,-,e4,-,-⟩:=ha2
 obtain rfl:ck=ck2:=e1.symm
 obtain rfl:wt=wt2:=e2.symm
 obtain rfl:gn=gn2:=e3.symm
 obtain rfl:os=os2:=e4.symm
 dsimp only at ho2 hoo2 hmc2 hoc2 hpc2 H
 replace hpc2: ∀ m∈ms2,m.parts.length<=m.cap/\w.heap.size<=m.lo:=fun m hm=>⟨(hpc2 m hm).1,aV hlo2 (hpc2 m hm).2⟩
 have hml2:ms2.length=ms.length:=by have:=congrArg da hma;simpa using this
 rw[hi]
 refine G (Yu Z)<|G (Xa Z Z)<|G (Xi Z Z)<|G (Xi Z Z)<|bA H 1 (#[J (ck),J (wt),J (gn),.slice mA2 ms2.length mC2,.slice oA2 os.length oC2]) bz Z Z Z Z Z N N fun w4 H=>G (Wi Z)<|G (Wi Z)<|U<|W<|Zb<|W<|Zr<|G (Yi Z)<|G (cv Z Z Z)<|G (Wb Z)<|U<|ZF Z<|W<|Zr<|G (Zw aO H 1 Z Z Z)<|G (Yi Z)<|cu kZ (tD ⟨ck,wt,gn,ms2,mA2,mC2,os,oA2,oC2⟩ p _) Z Z ?_
 rw[show jd ⟨ck,wt,gn,ms2,mA2,mC2,os,oA2,oC2⟩ p=true by unfold jd;simp;omega]
 rintro _ w5 ⟨rfl,hb⟩;replace H:=H.later hb;clear hb
 refine G (ee Z)<|G (Wb Z)<|U<|ZF Z<|W<|Zr<|G (Yi Z)<|G (rU Z Z (by decide))<|G (Wb Z)<|U<|ZF Z<|W<|Zr<|G (Zf dM Z)<|G (Zd dw H 1 Z Z Z)<|G (bh gI Z)<|G (se Z Z I)<|G (Wb Z)<|U<|ZT Z<|W<|Zr<|G (bC (cs:= #[J (0),J (0),J (0),.slice none 0 0,.slice none 0 0]) kh ed N)<|bA H 0 (#[J (0),J (0),J (0),.slice none 0 0,.slice none 0 0]) bz Z Z Z Z Z N N fun w6 H=>G (Wi Z)<|U<|Zt ?_
 exact ch (cs0:= #[J 0,J 0,J 0,.slice none 0 0,.slice none 0 0]) (v1:=J 16) Z aO Z (H.ent (i:=0) Z) Z Z ⟨rfl,H.below⟩
theorem Oo (g:Gr) (s:ByteArray) (p:Nat) (w:World) (h:g.rd 0 w.heap.size w) (hok:lP g=true) (hn:bu s=true) (hp:p<=4) (hg1:g.gen<1073741824) (hi:qx g s= -1) (hf:g.ms.length≠6):dt aa p5 [g.v,.string s,J (p:Nat)] w fun v w2=> ∃ g':Gr,v=.tuple #[g'.v,J 0]/\g'.a=EW {g.a with ms:=g.a.ms++[zu s g.clock]} p/\zl w w2 g':=by
 refine aG r8 Z Z ?_
 have hmC:=h.mC
 have hoC:=h.oC
 have hfew:=h.few
 have hfp:=h.fewP
 have H:=Hp.startGr h
 obtain⟨ck,wt,gn,ms,mA,mC,os,oA,oC⟩:=g
 dsimp only at hmC hoC hfew hfp H
 show CW _ _ _ _ (args [.agg #[J (ck),J (wt),J (gn),.slice mA ms.length mC,.slice oA os.length oC],.string (s),J (((p:Nat):Int))]) w
 obtain⟨⟨⟨k1,k2⟩,k3,k4,⟨k5,k6⟩,k7,k8⟩,⟨hmo,hap⟩,hof,hor⟩:=dC.1 hok
 dsimp only at k1 k2 k3 k4 k5 k6 k7 k8 hg1
 dsimp only at hf
 refine W<|Zr<|gY H Z Z fun w1 b3 H=>fc H ed Z fun w2 b6 H=>G (Wi Z)<|U<|W<|Zr<|G (Zw aO H 1 Z Z Z)<|G (Yt Z)<|cu gE (mU ⟨ck,wt,gn,ms,mA,mC,os,oA,oC⟩ s _ ⟨H.rd0 0 Z,fun m hm=>zR H 1 Z hm,H.rd0 2 Z,hmC,hoC,hfew,hfp⟩ hok hn) Z Z ?_
 rintro _ w3 ⟨⟨ck2,wt2,gn2,ms2,mA2,mC2,os2,oA2,oC2⟩,Lm,Lo,rfl,ha2,ho2,hoo2,hmc2,hoc2,hpc2,hj2⟩
 have hlo2:=H.size
 replace H:=Hp.joinG H hj2 (fun m hm=>(hpc2 m hm).2);clear hj2
 simp only[Gr.a,Gr.mk.injEq]at ha2
 obtain⟨e1,e2,e3,hma,-,-,e4,-,-⟩:=ha2
 obtain rfl:ck=ck2:=e1.symm
 obtain rfl:wt=wt2:=e2.symm
 obtain rfl:gn=gn2:=e3.symm
 obtain rfl:os=os2:=e4.symm
 dsimp only at ho2 hoo2 hmc2 hoc2 hpc2 H
 replace hpc2: ∀ m∈ms2,m.parts.length<=m.cap/\w.heap.size<=m.lo:=fun m hm=>⟨(hpc2 m hm).1,aV hlo2 (hpc2 m hm).2⟩
 have hml2:ms2.length=ms.length:=by have:=congrArg da hma;simpa using this
 rw[hi]
 refine G (Yu Z)<|G (Xa Z Z)<|G (Xi Z Z)<|G (Xi Z Z)<|bA H 1 (#[J (ck),J (wt),J (gn),.slice mA2 ms2.length mC2,.slice oA2 os.length oC2]) bz Z Z Z Z Z N N fun w4 H=>G (Wi Z)<|G (Wi Z)<|U<|W<|Zb<|W<|Zr<|G (Yi Z)<|G (cv Z Z Z)<|G (Wb Z)<|U<|ZF Z<|W<|Zr<|G (Zw aO H 1 Z Z Z)<|G (Yi Z)<|cu kZ (tD ⟨ck,wt,gn,ms2,mA2,mC2,os,oA2,oC2⟩ p _) Z Z ?_
 rw[show jd ⟨ck,wt,gn,ms2,mA2,mC2,os,oA2,oC2⟩ p=true by unfold jd;simp;omega]
 rintro _ w5 ⟨rfl,hb⟩;replace H:=H.later hb;clear hb
 refine G (ee Z)<|G (Wb Z)<|U<|ZF Z<|W<|Zr<|G (Yi Z)<|G (rU Z Z (by decide))<|G (Wb Z)<|U<|ZF Z<|W<|Zr<|G (Zf dM Z)<|G (Zd dw H 1 Z Z Z)<|G (bh gI Z)<|G (lS Z Z I)<|G (Wb Z)<|U<|ZF Z<|Zk<|W<|Zr<|G (Zf dM Z)<|G (Zd dw H 1 Z Z Z)<|G (Yt Z)<|G (Zf jM Z)<|G (Zd am H 1 Z Z Z)<|G (bC (cs:= #[.string (s),J (ck),.slice none 0 0]) Js uk N)<|uO (vs:=[.agg #[.string (s),J (ck),.slice none 0 0]]) H eL uk Z Z Z Z Z Z fun w6 b44 H=>wN (Y:=j0) BP (K:=[(b44,.cells #[.string (s),J (ck),.slice none 0 0] dh (0,0)),(b6,.cells #[J (0),J (0),J (0),.slice none 0 0,.slice none 0 0] cK (0,0)),(b3,.cells #[J (ck),J (wt),J (gn),.slice mA2 ms2.length mC2,.slice oA2 os.length oC2] cK (0,0))]) (L:=Lm) (M:=Lo) H ho2 (news:=[zu s ck]) Z Z Z (zk.row (m:=1) (sz:=j0.sz) (H.ent (i:=0) Z) Z) (show(ms2.length+1)*48<=140737488355328 by omega) Z ?_
 intro A9 c9 w7 L9 h9 _ ho9 H
 have hl9:(ms2++[zu s ck]).length<=6:=by rw[ay,cH];omega
 refine G (Zf dM Z)<|bA H 2 (#[J (ck),J (wt),J (gn),.slice A9 ((ms2++[zu s ck]).length) c9,.slice oA2 os.length oC2]) un Z Z Z Z Z N N fun w8 H=>U<|W<|Zr<|G (Zw aO H 2 Z Z Z)<|G (Yi Z)<|cu rD (zj ck wt gn (ms2++[zu s ck]) A9 c9 os oA2 oC2 p (H.perm (te [(b44,.cells #[.string (s),J (ck),.slice none 0 0] dh (0,0)),(b6,.cells #[J (0),J (0),J (0),.slice none 0 0,.slice none 0 0] cK (0,0)),(b3,.cells #[J (ck),J (wt),J (gn),.slice A9 ((ms2++[zu s ck]).length) c9,.slice oA2 os.length oC2] cK (0,0))] L9 Lo).symm) ho9 I hp I I) Z Z ?_
 rintro _ w9 ⟨ms4,L4,rfl,ha4,ho4,hc4,H⟩
 replace H:=H.perm (te [(b44,.cells #[.string (s),J (ck),.slice none 0 0] dh (0,0)),(b6,.cells #[J (0),J (0),J (0),.slice none 0 0,.slice none 0 0] cK (0,0)),(b3,.cells #[J (ck),J (wt),J (gn),.slice A9 ((ms2++[zu s ck]).length) c9,.slice oA2 os.length oC2] cK (0,0))] L4 Lo)
 rw[M9]at ha4
 refine bA H 1 (#[J (ck),J (wt),J (gn+1),.slice A9 ms4.length c9,.slice oA2 os.length oC2]) bz Z Z Z Z Z N N fun w10 H=>G (Wi Z)<|U<|Zt ?_
 exact ch (cs0:= #[J (ck),J (wt),J (gn+1),.slice A9 ms4.length c9,.slice oA2 os.length oC2]) (v1:=J 0) Z aO Z (H.ent (i:=1) Z) Z Z ⟨⟨ck,wt,gn+1,ms4,A9,c9,os,oA2,oC2⟩,rfl,by unfold Gr.a EW;dsimp only;rw[ha4,bk,hma];rfl,I5 ha4 hl9 hp I ho4 hoo2 hoc2 hc4 (H.forget (by rw[aB];exact .cons _ (.cons _ (.cons _ (au _)))) (fun f hf=>by simp only[av,ap];grind))⟩
def uo (g:Gr) (n:Int) (m:Mem):Bool:=decide (g.wait<=g.clock+n-m.heard)
def ql (g:Gr) (n:Int) (p:Nat):Gr:=if(g.ms.filter fun m=>!uo g n m).length=g.ms.length then{g with clock:=g.clock+n}else EW {g with clock:=g.clock+n,ms:=g.ms.filter fun m=>!uo g n m} p
theorem iW {ck:Int} {l l2:List Mem} (ha:l2.map Mem.a=l.map Mem.a) (hm: ∀ m∈l,vG ck m=true): ∀ m∈l2,m.parts.length<=4:=fun m hm2=>by
 have h1:m.a∈l.map Mem.a:=ha▸bF hm2
 obtain⟨x,hx,he⟩:=bD.1 h1
 have h2:=(jV.1 (hm x hx)).2.2.2
 have h3:m.parts=x.parts:=(congrArg Mem.parts he).symm
 have:=mM h2
 rw[h3];omega
theorem Mz {ck:Int} {l l2:List Mem} (ha:l2.map Mem.a=l.map Mem.a) (hm: ∀ m∈l,vG ck m=true): ∀ m∈l2,0<=m.heard/\m.heard<=ck:=fun m hm2=>by
 have h1:m.a∈l.map Mem.a:=ha▸bF hm2
 obtain⟨x,hx,he⟩:=bD.1 h1
 obtain⟨_,h2,h3,_⟩:=jV.1 (hm x hx)
 have h4:m.heard=x.heard:=(congrArg Mem.heard he).symm
 rw[h4];exact⟨h2,h3⟩
theorem Gb (l:List Mem) (f:Mem->Bool) (hf: ∀ m,f m.a=f m):(l.filter f).map Mem.a=(l.map Mem.a).filter f:=by
 rw[List.filter_map,show f∘Mem.a=f from funext hf]
theorem HN {α:Type} {l:List α} {f:α->Bool} (h:(l.filter f).length=l.length):l.filter f=l:=j7.2 (List.length_filter_eq_length_iff.1 h)
theorem GT (m:Mem) (b:Nat) (ck wt gn:Int) (v3 v4:Value) (w:World) (hx:w.heap[b]? =some (.cells #[J ck,J wt,J gn,v3,v4] cK (0,0))) (h0:0<=m.heard) (h1:m.heard<=1073741824) (h2:0<=ck) (h3:ck<=1073741824):
  dt aa zw [.agg m.c.toArray,.pointer (Qd b)] w fun v w2=>v=.bool (decide (wt<=ck-m.heard))/\Below w.heap.size w w2:=by
 refine aG yz Z Z ?_
 have H:=Hp.start w
 have hb:=bV hx
 refine W<|Zr<|gY H Z Z fun w1 b2 H=>G (Wb Z)<|U<|W<|Zr<|G (Zf jM Z)<|G (bi am Z ((H.below.cell (p:=⟨b,_,none⟩) hb).trans (aJ (j:=0) hx Z)))<|G (Zf ru Z)<|G (Zd am H 0 Z Z Z)<|G (lX Z Z I I)<|G (Zf wD Z)<|G (bi am Z ((H.below.cell (p:=⟨b,_,none⟩) hb).trans (aJ (j:=1) hx Z)))<|G (ku Z Z)<|G (Wb Z)<|U<|Zt ?_
 exact cn Z Z ⟨rfl,H.below⟩
theorem M3 (A:Option Addr) (c:Nat) (w:World) {f:FuncId} {cap:List Value} (hf:bg aa f=true):dt aa fG [.slice A 0 c,.func (.func f) #[] cap.toArray] w fun v w2=>v=.slice A 0 c/\Below w.heap.size w w2:=by
 refine aG iv Z Z ?_
 have H:=Hp.start w
 refine W<|Zr<|G (Ws Z)<|U<|W<|Zr<|G (Ys Z)<|G (tQ Z)<|cu dr (f8 [] A c _ Rd.nil (by simp) f cap hf (fun _=>false) (fun e w2 he _=>absurd he (by simp))) Z Z ?_
 rintro _ w1 ⟨rfl,hb⟩;replace H:=H.later hb;clear hb
 refine G (Wi Z)<|U<|W<|W<|Zr<|G (Yi Z)<|G (se Z Z Z)<|U<|ZT Z<|W<|Zr<|G (Ys Z)<|G (Ws Z)<|U<|Zt ?_
 exact cn (v:=.slice A 0 c) Z Z ⟨rfl,H.below⟩
theorem M4 {w0 w:World} {K M Lt:List (Nat×Obj)} {F:List ce} {ms:List Mem} {c:Nat} {A:Option Addr} (H:Hp w0 w (K++Lt++M) F) (ho:gG j0 (.slice A ms.length c) dh ms Lt) (h12:ms.length<=1000) {f:FuncId} {cap:List Value} (hf:bg aa f=true) (pred:Mem->Bool)
  (hp: ∀ e∈ms,∀ (w':World) (L':List (Nat×Obj)),Hp w0 w' (K++L'++M) F->dt aa f (.agg e.c.toArray::cap) w' fun v w2=>v=.bool (pred e)/\Below w'.heap.size w' w2):
  dt aa fG [.slice A ms.length c,.func (.func f) #[] cap.toArray] w fun v w2=> ∃ L',v=.slice A (ms.filter fun m=>!pred m).length c/\gG j0 (.slice A (ms.filter fun m=>!pred m).length c) dh (ms.filter fun m=>!pred m) L'/\Hp w0 w2 (K++L'++M) F:=by
 by_cases h0:ms.length=0
 have:=bO h0
 subst this
 exact(M3 A c w hf).mono fun v w2 ⟨h1,h2⟩=>⟨Lt,h1,ho,H.later h2⟩
 obtain⟨g,cur,rfl,rfl,row⟩:=ho.row I
 have hpm: ∀ u:Array Value,(K++[(g,Obj.cells u dh (0,0))]++M).Perm ((g,Obj.cells u dh (0,0))::(K++M)):=fun u=>by rw[aB];exact qP
 exact(OF ms c (H.perm (hpm cur).symm) row Z h12 hf pred fun e he w' u' H'=>hp e he w' _ (H'.perm (hpm u'))).mono fun v w2 ⟨u2,h1,h2,h3⟩=>⟨_,h1,d7.own (g:=g) (e:=dh) h2,h3.perm (hpm u2)⟩
theorem FW (g:Gr) (n:Int) (p:Nat) (w:World) (h:g.rd 0 w.heap.size w) (hok:lP g=true) (hp:p<=4) (hg1:g.gen<1073741824) (hn0:0<=n) (hn1:n<=1000) (hcl:g.clock+n<=1073741824):dt aa Er [g.v,J n,J (p:Nat)] w fun v w2=> ∃ g':Gr,v=.tuple #[g'.v,J 0]/\g'.a=ql g.a n p/\zl w w2 g':=by
 refine aG Cv Z Z ?_
 have hmC:=h.mC
 have hoC:=h.oC
 have hfew:=h.few
 have hfp:=h.fewP
 have H:=Hp.startGr h
 obtain⟨ck,wt,gn,ms,mA,mC,os,oA,oC⟩:=g
 dsimp only at hmC hoC hfew hfp H
 show CW _ _ _ _ (args [.agg #[J (ck),J (wt),J (gn),.slice mA ms.length mC,.slice oA os.length oC],J (n),J (((p:Nat):Int))]) w
 obtain⟨⟨⟨k1,k2⟩,k3,k4,⟨k5,k6⟩,k7,k8⟩,⟨hmo,hap⟩,hof,hor⟩:=dC.1 hok
 dsimp only at k1 k2 k3 k4 k5 k6 k7 k8 hmo
 dsimp only at hg1 hcl
 refine W<|Zr<|gY H Z Z fun w1 b3 H=>fc H ed Z fun w2 b6 H=>G (Wi Z)<|U<|W<|W<|Zr<|G (Zw aO H 1 Z Z Z)<|cu uL (Ds ⟨ck,wt,gn,ms,mA,mC,os,oA,oC⟩ _ ⟨H.rd0 0 Z,fun m hm=>zR H 1 Z hm,H.rd0 2 Z,hmC,hoC,hfew,hfp⟩ hok) Z Z ?_
 rintro _ w3 ⟨rfl,hb⟩;replace H:=H.later hb;clear hb
 refine G (Wi Z)<|U<|W<|Zr<|G (Yi Z)<|G (cv Z Z Z)<|U<|ZF Z<|Zk<|W<|W<|Zr<|G (Yi Z)<|G (dp Z Z I)<|G (Yb Z)<|ZG<|G (Yi Z)<|ZG<|G (eB Z Z I)<|G (N Z Z)<|G (Yb Z)<|ZG<|G (Zf jM Z)<|ZG<|G (Zd am H 1 Z Z Z)<|ZG<|G (Yi Z)<|ZG<|G (bp Z Z I I)<|ZG<|G (eB Z Z I)<|G (N Z Z)<|G (Yb Z)<|ZG<|G (Zw aO H 1 Z Z Z)<|ZG<|G (Yi Z)<|ZG<|cu kZ (tD ⟨ck,wt,gn,ms,mA,mC,os,oA,oC⟩ p _) Z Z ?_
 rw[show jd ⟨ck,wt,gn,ms,mA,mC,os,oA,oC⟩ p=true by unfold jd;simp;omega]
 rintro _ w4 ⟨rfl,hb⟩;replace H:=H.later hb;clear hb
 refine ZG<|G (ee Z)<|G (N Z Z)<|U<|ZF Z<|Zk<|W<|Zr<|G (Zw aO H 1 Z Z Z)<|cu ol (xr ⟨ck,wt,gn,ms,mA,mC,os,oA,oC⟩ _ ⟨H.rd0 0 Z,fun m hm=>zR H 1 Z hm,H.rd0 2 Z,hmC,hoC,hfew,hfp⟩) Z Z ?_
 rintro _ w5 ⟨⟨ck2,wt2,gn2,ms2,mA2,mC2,os2,oA2,oC2⟩,Lm,Lo,rfl,ha2,ho2,hoo2,hmc2,hoc2,hpc2,hj2⟩
 have hlo2:=H.size
 replace H:=Hp.joinG H hj2 (fun m hm=>(hpc2 m hm).2);clear hj2
 simp only[Gr.a,Gr.mk.injEq]at ha2
 obtain⟨e1,e2,e3,hma,-,-,e4,-,-⟩:=ha2
 obtain rfl:ck=ck2:=e1.symm
 obtain rfl:wt=wt2:=e2.symm
 obtain rfl:gn=gn2:=e3.symm
 obtain rfl:os=os2:=e4.symm
 dsimp only at ho2 hoo2 hmc2 hoc2 hpc2 H
 replace hpc2: ∀ m∈ms2,m.parts.length<=m.cap/\w.heap.size<=m.lo:=fun m hm=>⟨(hpc2 m hm).1,aV hlo2 (hpc2 m hm).2⟩
 have hml2:ms2.length=ms.length:=by have:=congrArg da hma;simpa using this
 have hhd:=Mz hma hmo
 refine bA H 1 (#[J (ck),J (wt),J (gn),.slice mA2 ms2.length mC2,.slice oA2 os.length oC2]) bz Z Z Z Z Z N N fun w6 H=>U<|W<|Zr<|G (Zf jM Z)<|G (Zd am H 1 Z Z Z)<|G (Yi Z)<|G (bp Z Z I I)<|G (Zf jM Z)<|bA H 1 (#[J (ck+n),J (wt),J (gn),.slice mA2 ms2.length mC2,.slice oA2 os.length oC2]) bQ Z Z Z Z Z N N fun w7 H=>U<|W<|Zr<|G (Zf dM Z)<|G (Zd dw H 1 Z Z Z)<|G (bh gI Z)<|G (Wi Z)<|U<|W<|Zr<|G (Zf dM Z)<|G (Zd dw H 1 Z Z Z)<|G (AE Z)<|cu lD (M4 (K:=[(b6,.cells #[J (0),J (0),J (0),.slice none 0 0,.slice none 0 0] cK (0,0)),(b3,.cells #[J (ck+n),J (wt),J (gn),.slice mA2 ms2.length mC2,.slice oA2 os.length oC2] cK (0,0))]) (Lt:=Lm) (M:=Lo) H ho2 I (cap:=[.pointer (Qd b3)]) yK (fun m=>decide (wt<=(ck+n)-m.heard)) (fun e he w' L' H'=>GT e b3 (ck+n) wt gn _ _ w' (H'.ent (i:=1) Z) (hhd e he).1 (by have:=(hhd e he).2;omega) I hcl)) Z Z ?_
 rintro _ w8 ⟨L9,rfl,ho9,H⟩
 have hl9:(ms2.filter fun m=>!decide (wt<=(ck+n)-m.heard)).length<=6:=by have:=List.length_filter_le (fun m:Mem=>!decide (wt<=(ck+n)-m.heard)) ms2;omega
 refine G (Zf dM Z)<|bA H 1 (#[J (ck+n),J (wt),J (gn),.slice mA2 ((ms2.filter fun m=>!decide (wt<=(ck+n)-m.heard)).length) mC2,.slice oA2 os.length oC2]) un Z Z Z Z Z N N fun w9 H=>U<|W<|W<|Zr<|G (Zf dM Z)<|G (Zd dw H 1 Z Z Z)<|G (bh gI Z)<|G (Yi Z) ?_
 refine du (bv Z Z) Z Z Z (fun h55=> ?_) (fun h55=> ?_)
 have hall:(ms2.filter fun m=>!decide (wt<=(ck+n)-m.heard))=ms2:=HN I
 have hsl:((ms2.filter fun m=>!decide (wt<=(ck+n)-m.heard)).map Mem.a)=(ms.map Mem.a).filter fun m=>!uo (Gr.a ⟨ck,wt,gn,ms,mA,mC,os,oA,oC⟩) n m:=by rw[Gb _ _ (fun _=>rfl),hma];rfl
 refine U<|ZT Z<|W<|Zr<|G (Zw aO H 1 Z Z Z)<|bA H 0 (#[J (ck+n),J (wt),J (gn),.slice mA2 ((ms2.filter fun m=>!decide (wt<=(ck+n)-m.heard)).length) mC2,.slice oA2 os.length oC2]) bz Z Z Z Z Z N N fun w10 H=>G (Wi Z)<|U<|Zt ?_
 have hT:ql (Gr.a ⟨ck,wt,gn,ms,mA,mC,os,oA,oC⟩) n p={Gr.a ⟨ck,wt,gn,ms,mA,mC,os,oA,oC⟩with clock:=ck+n}:=by unfold ql;rw[if_pos (by show((ms.map Mem.a).filter _).length=(ms.map Mem.a).length;rw[<-hsl,bc,bc];omega)];rfl
 rw[hT]
 rw[hall]at ho9
 exact ch (cs0:= #[J (ck+n),J (wt),J (gn),.slice mA2 (((ms2.filter fun m=>!decide (wt<=(ck+n)-m.heard))).length) mC2,.slice oA2 os.length oC2]) (v1:=J 0) Z aO Z (H.ent (i:=0) Z) Z Z ⟨⟨ck+n,wt,gn,ms2,mA2,mC2,os,oA2,oC2⟩,by rw[hall];rfl,by unfold Gr.a;dsimp only;rw[hma],rF.new (ga:=Gr.a ⟨ck+n,wt,gn,ms2,mA2,mC2,os,oA2,oC2⟩) ⟨rfl,ho9,hoo2,hmc2,hoc2,hpc2,H.forget (by rw[aB];exact .cons _ (.cons _ (au _))) (fun f hf=>by simp only[av,ap];grind)⟩ (by dsimp only;omega) (by dsimp only;omega) (iW hma hmo)⟩
 have hsl:((ms2.filter fun m=>!decide (wt<=(ck+n)-m.heard)).map Mem.a)=(ms.map Mem.a).filter fun m=>!uo (Gr.a ⟨ck,wt,gn,ms,mA,mC,os,oA,oC⟩) n m:=by rw[Gb _ _ (fun _=>rfl),hma];rfl
 refine U<|ZF Z<|Zk<|W<|Zr<|G (Zw aO H 1 Z Z Z)<|G (Yi Z)<|cu rD (zj (ck+n) wt gn (ms2.filter fun m=>!decide (wt<=(ck+n)-m.heard)) mA2 mC2 os oA2 oC2 p (H.perm (te [(b6,.cells #[J (0),J (0),J (0),.slice none 0 0,.slice none 0 0] cK (0,0)),(b3,.cells #[J (ck+n),J (wt),J (gn),.slice mA2 ((ms2.filter fun m=>!decide (wt<=(ck+n)-m.heard)).length) mC2,.slice oA2 os.length oC2] cK (0,0))] L9 Lo).symm) ho9 I hp I I) Z Z ?_
 rintro _ w11 ⟨ms4,L4,rfl,ha4,ho4,hc4,H⟩
 replace H:=H.perm (te [(b6,.cells #[J (0),J (0),J (0),.slice none 0 0,.slice none 0 0] cK (0,0)),(b3,.cells #[J (ck+n),J (wt),J (gn),.slice mA2 ((ms2.filter fun m=>!decide (wt<=(ck+n)-m.heard)).length) mC2,.slice oA2 os.length oC2] cK (0,0))] L4 Lo)
 rw[M9]at ha4
 refine bA H 0 (#[J (ck+n),J (wt),J (gn+1),.slice mA2 ms4.length mC2,.slice oA2 os.length oC2]) bz Z Z Z Z Z N N fun w12 H=>G (Wi Z)<|U<|Zt ?_
 have hT:ql (Gr.a ⟨ck,wt,gn,ms,mA,mC,os,oA,oC⟩) n p=EW {Gr.a ⟨ck,wt,gn,ms,mA,mC,os,oA,oC⟩with clock:=ck+n,ms:=(ms.map Mem.a).filter fun m=>!uo (Gr.a ⟨ck,wt,gn,ms,mA,mC,os,oA,oC⟩) n m} p:=by unfold ql;rw[if_neg (by show¬ ((ms.map Mem.a).filter _).length=(ms.map Mem.a).length;rw[<-hsl,bc,bc];omega)];rfl
 rw[hT]
 exact ch (cs0:= #[J (ck+n),J (wt),J (gn+1),.slice mA2 ms4.length mC2,.slice oA2 os.length oC2]) (v1:=J 0) Z aO Z (H.ent (i:=0) Z) Z Z ⟨⟨ck+n,wt,gn+1,ms4,mA2,mC2,os,oA2,oC2⟩,rfl,by unfold Gr.a EW;dsimp only;rw[ha4,hsl];rfl,I5 ha4 hl9 hp I ho4 hoo2 hoc2 hc4 (H.forget (by rw[aB];exact .cons _ (.cons _ (au _))) (fun f hf=>by simp only[av,ap];grind))⟩
theorem lZ {α:Type} {Y:fA α} {w0 w:World} {L:List (Nat×Obj)} {F:List ce} {lo hi:Nat} {A:Option Addr} {es:List α} (H:Hp w0 w L F) (hf:ey Y lo hi A es∈F):Rd Y 0 w.heap.size A es w:=by
 obtain⟨h1,h2,-⟩:=H.facts _ hf
 exact Rd.mono h1 (bN _) h2
def M7 (g:Gr) (i:Nat) (t:Mem):Gr:={g with ms:=g.ms.set i {t with heard:=g.clock}}
def qk (os:List lr) (part:Int):Int:=match os.find? fun o=>decide (o.part=part)with|some o=>o.at_|none=>0
def l6 (os:List lr) (part:Int):Nat:=(os.takeWhile fun o=>decide (o.part<part)).length
def fO (os:List lr) (part at_:Int):List lr:=
 if(os[l6 os part]?).map lr.part=some part then os.set (l6 os part) ⟨part,at_⟩else os.take (l6 os part)++[⟨part,at_⟩]++os.drop (l6 os part)
theorem z9 {α:Type} {f:α->Bool}: ∀ {l:List α} {k:Nat},(∀ x∈l.take k,f x=true)->(∀ x,l[k]? =some x->f x=false)->k<=l.length->(l.takeWhile f).length=k
 |[],k,_,_,h=>by simp at h;simp[h]
 |x::l,0,_,h2,_=>by rw[List.takeWhile_cons_of_neg (by rw[h2 x Z];decide)];rfl
 |x::l,k+1,h1,h2,h3=>by
  rw[List.takeWhile_cons_of_pos (h1 x (by simp)),bf,z9 (k:=k) (fun y hy=>h1 y (by simp[hy])) h2 (by simpa using h3)]
theorem Eh (es:List Int) (v:Int) (A:Option Addr) (c:Nat) (w:World) (hr:Rd bS 0 w.heap.size A es w) (hb:es.length<=1000000):dt aa sJ [.slice A es.length c,J v] w fun r w2=>(∃ k:Int,r=J k/\(v∈es↔0<=k)/\ -1<=k/\k<=1000000)/\Below w.heap.size w w2:=by
 refine aG rW Z Z ?_
 have H:=Hp.startRd hr
 refine W<|Zr<|G (Wi Z)<|U<|W<|W<|Zr<|G (Ys Z)<|G (bh eT Z)<|G (Yi Z)<|U<|Zb ?_
 refine cf (τ:=Nat) [4,5,8,9,10,11,12,13,14,15,16,17,18] (fun k=>[(8,J (k:Nat))]) (fun k w'=>k<=es.length/\v∉es.take k/\Hp w w' [] [ey bS 0 w.heap.size A es]) (fun k=>es.length-k) 0 ⟨by omega,by simp,H⟩ (dR Z) ?_
 rintro k ρ1 w1 ⟨hk,hno,H⟩
 show CW _ _ _ _ (dK (ia _ _ ρ1) [(8,J (k:Nat))]) w1
 refine W<|Zr ?_
 refine du (cO Z Z) Z Z Z (fun h9=> ?_) (fun h9=> ?_)
 obtain⟨x,hx⟩: ∃ x,es[k]? =some x:=⟨_,aj I⟩
 refine U<|W<|ZT Z<|Zk<|W<|Zb<|W<|Zr<|G (Yi Z)<|G (Wi Z)<|U<|W<|Zr<|G (Yi Z)<|G (Ys Z)<|G (Yi Z)<|qg H 0 Z bj Z Z I I Z fun bq2 o2 x2 e2=> ?_
 obtain rfl:x=x2:=by have:=e2.at_;rw[hx]at this;exact aY this
 refine G (bi am Z (e2.cl 0 _ Z)) ?_
 refine du (bv Z Z) Z Z Z (fun h16=> ?_) (fun h16=> ?_)
 refine U<|ZT Z<|W<|Zr<|G (Yi Z)<|G (Wi Z)<|U<|Zt ?_
 exact cn (v:=J (k:Nat)) Z Z ⟨⟨(k:Nat),rfl,⟨fun _=>by omega,fun _=>by rw[h16];exact ab hx⟩,by omega,by omega⟩,H.below⟩
 refine U<|ZF Z<|Zk<|Zr<|G (bp Z Z I I)<|G (Yi Z)<|U ?_
 exact⟨k+1,⟨by omega,by rw[d6 hx];simp only[ap,ar];rintro(h|h);exact hno h;exact h16 h,H⟩,dR Z,Qg,by show es.length- (k+1)<es.length-k;omega⟩
 refine U<|W<|ZF Z<|Zx<|W<|Zr<|G (Wi Z)<|U<|Zt ?_
 have hke:k=es.length:=by omega
 rw[hke,bJ]at hno
 exact cn (v:=J (-1)) Z Z ⟨⟨-1,rfl,⟨fun h=>absurd h hno,fun h=>absurd h (by decide)⟩,by omega,by omega⟩,H.below⟩
theorem lK (es:List Int) (v:Int) (A:Option Addr) (c:Nat) (w:World) (hr:Rd bS 0 w.heap.size A es w) (hb:es.length<=1000000):dt aa qv [.slice A es.length c,J v] w fun r w2=>r=.bool (decide (v∈es))/\Below w.heap.size w w2:=by
 refine aG p8 Z Z ?_
 have H:=Hp.startRd hr
 refine W<|Zr<|G (Wb Z)<|U<|W<|Zr<|G (Ys Z)<|G (Yi Z)<|cu sg (Eh es v A c _ (H.rd0 0 Z) hb) Z Z ?_
 rintro _ w1 ⟨⟨k,rfl,hk,-,-⟩,hb2⟩;replace H:=H.later hb2;clear hb2
 refine G (ku Z Z)<|G (Wb Z)<|U<|Zt ?_
 exact cn (v:=.bool (decide (0<=k))) Z Z ⟨by rw[decide_eq_decide.2 hk.symm],H.below⟩
theorem Ku (g:Gr) (s:ByteArray) (gn_:Int) (w:World) (h:g.rd 0 w.heap.size w) (hok:lP g=true) (hn:bu s=true) (hi:qx g s= -1):dt aa p6 [g.v,.string s,J gn_] w fun v w2=>v=.tuple #[.agg #[J 0,J 0,J 0,.slice none 0 0,.slice none 0 0],J 5]/\Below w.heap.size w w2:=by
 refine aG r9 Z Z ?_
 have hmC:=h.mC
 have hoC:=h.oC
 have hfew:=h.few
 have hfp:=h.fewP
 have H:=Hp.startGr h
 obtain⟨ck,wt,gn,ms,mA,mC,os,oA,oC⟩:=g
 dsimp only at hmC hoC hfew hfp H
 show CW _ _ _ _ (args [.agg #[J (ck),J (wt),J (gn),.slice mA ms.length mC,.slice oA os.length oC],.string (s),J (gn_)]) w
 obtain⟨⟨⟨k1,k2⟩,k3,k4,⟨k5,k6⟩,k7,k8⟩,⟨hmo,hap⟩,hof,hor⟩:=dC.1 hok
 dsimp only at k1 k2 k3 k4 k5 k6 k7 k8 hmo
 refine W<|Zr<|gY H Z Z fun w1 b3 H=>fc H ed Z fun w2 b6 H=>G (Wi Z)<|U<|W<|Zr<|G (Zw aO H 1 Z Z Z)<|G (Yt Z)<|G (Yi Z)<|cu iy (Dr ⟨ck,wt,gn,ms,mA,mC,os,oA,oC⟩ s gn_ _ ⟨H.rd0 0 Z,fun m hm=>zR H 1 Z hm,H.rd0 2 Z,hmC,hoC,hfew,hfp⟩ hok hn hi) Z Z ?_
 rintro _ w3 ⟨rfl,hb⟩;replace H:=H.later hb;clear hb
 refine G (Yu Z)<|G (Xa Z Z)<|G (Xi Z Z)<|G (Xi Z Z)<|bA H 1 (#[J (0),J (0),J (0),.slice none 0 0,.slice none 0 0]) bz Z Z Z Z Z N N fun w4 H=>G (Wi Z)<|G (Wi Z)<|U<|W<|W<|Zr<|G (Yi Z)<|G (lN Z Z (by decide))<|U<|ZT Z<|W<|Zr<|G (bC (cs:= #[J (0),J (0),J (0),.slice none 0 0,.slice none 0 0]) kh ed N)<|G (Yi Z)<|bA H 0 (#[J (0),J (0),J (0),.slice none 0 0,.slice none 0 0]) bz Z Z Z Z Z N N fun w5 H=>G (Wi Z)<|U<|Zt ?_
 exact ch (cs0:= #[J 0,J 0,J 0,.slice none 0 0,.slice none 0 0]) (v1:=J 5) Z aO Z (H.ent (i:=0) Z) Z Z ⟨rfl,H.below⟩
theorem HY (g:Gr) (s:ByteArray) (gn_:Int) (w:World) (h:g.rd 0 w.heap.size w) (hok:lP g=true) (hn:bu s=true) (i:Nat) (hi:qx g s=i) (hg:g.gen≠gn_):dt aa p6 [g.v,.string s,J gn_] w fun v w2=>v=.tuple #[.agg #[J 0,J 0,J 0,.slice none 0 0,.slice none 0 0],J 10]/\Below w.heap.size w w2:=by
 refine aG r9 Z Z ?_
 have hmC:=h.mC
 have hoC:=h.oC
 have hfew:=h.few
 have hfp:=h.fewP
 have H:=Hp.startGr h
 obtain⟨ck,wt,gn,ms,mA,mC,os,oA,oC⟩:=g
 dsimp only at hmC hoC hfew hfp H
 show CW _ _ _ _ (args [.agg #[J (ck),J (wt),J (gn),.slice mA ms.length mC,.slice oA os.length oC],.string (s),J (gn_)]) w
 obtain⟨⟨⟨k1,k2⟩,k3,k4,⟨k5,k6⟩,k7,k8⟩,⟨hmo,hap⟩,hof,hor⟩:=dC.1 hok
 dsimp only at k1 k2 k3 k4 k5 k6 k7 k8 hmo
 refine W<|Zr<|gY H Z Z fun w1 b3 H=>fc H ed Z fun w2 b6 H=>G (Wi Z)<|U<|W<|Zr<|G (Zw aO H 1 Z Z Z)<|G (Yt Z)<|G (Yi Z)<|cu iy (Bl ⟨ck,wt,gn,ms,mA,mC,os,oA,oC⟩ s gn_ _ ⟨H.rd0 0 Z,fun m hm=>zR H 1 Z hm,H.rd0 2 Z,hmC,hoC,hfew,hfp⟩ hok hn i hi hg) Z Z ?_
 rintro _ w3 ⟨rfl,hb⟩;replace H:=H.later hb;clear hb
 refine G (Yu Z)<|G (Xa Z Z)<|G (Xi Z Z)<|G (Xi Z Z)<|bA H 1 (#[J (0),J (0),J (0),.slice none 0 0,.slice none 0 0]) bz Z Z Z Z Z N N fun w4 H=>G (Wi Z)<|G (Wi Z)<|U<|W<|W<|Zr<|G (Yi Z)<|G (lN Z Z (by decide))<|U<|ZT Z<|W<|Zr<|G (bC (cs:= #[J (0),J (0),J (0),.slice none 0 0,.slice none 0 0]) kh ed N)<|G (Yi Z)<|bA H 0 (#[J (0),J (0),J (0),.slice none 0 0,.slice none 0 0]) bz Z Z Z Z Z N N fun w5 H=>G (Wi Z)<|U<|Zt ?_
 exact ch (cs0:= #[J 0,J 0,J 0,.slice none 0 0,.slice none 0 0]) (v1:=J 10) Z aO Z (H.ent (i:=0) Z) Z Z ⟨rfl,H.below⟩
theorem ON (g:Gr) (s:ByteArray) (gn_:Int) (w:World) (h:g.rd 0 w.heap.size w) (hok:lP g=true) (hn:bu s=true) (i:Nat) (t:Mem) (hi:qx g s=i) (ht:g.ms[i]? =some t) (hg:g.gen=gn_):dt aa p6 [g.v,.string s,J gn_] w fun v w2=> ∃ g':Gr,v=.tuple #[g'.v,J 0]/\g'.a=M7 g.a i t.a/\zl w w2 g':=by
 refine aG r9 Z Z ?_
 have hmC:=h.mC
 have hoC:=h.oC
 have hfew:=h.few
 have hfp:=h.fewP
 have H:=Hp.startGr h
 obtain⟨ck,wt,gn,ms,mA,mC,os,oA,oC⟩:=g
 dsimp only at hmC hoC hfew hfp H
 show CW _ _ _ _ (args [.agg #[J (ck),J (wt),J (gn),.slice mA ms.length mC,.slice oA os.length oC],.string (s),J (gn_)]) w
 obtain⟨⟨⟨k1,k2⟩,k3,k4,⟨k5,k6⟩,k7,k8⟩,⟨hmo,hap⟩,hof,hor⟩:=dC.1 hok
 dsimp only at k1 k2 k3 k4 k5 k6 k7 k8 hmo
 dsimp only at ht
 refine W<|Zr<|gY H Z Z fun w1 b3 H=>fc H ed Z fun w2 b6 H=>G (Wi Z)<|U<|W<|Zr<|G (Zw aO H 1 Z Z Z)<|G (Yt Z)<|G (Yi Z)<|cu iy (zU ⟨ck,wt,gn,ms,mA,mC,os,oA,oC⟩ s gn_ _ ⟨H.rd0 0 Z,fun m hm=>zR H 1 Z hm,H.rd0 2 Z,hmC,hoC,hfew,hfp⟩ hok hn i hi hg) Z Z ?_
 rintro _ w3 ⟨⟨ck2,wt2,gn2,ms2,mA2,mC2,os2,oA2,oC2⟩,Lm,Lo,rfl,ha2,ho2,hoo2,hmc2,hoc2,hpc2,hj2⟩
 have hlo2:=H.size
 replace H:=Hp.joinG H hj2 (fun m hm=>(hpc2 m hm).2);clear hj2
 simp only[Gr.a,Gr.mk.injEq]at ha2
 obtain⟨e1,e2,e3,hma,-,-,e4,-,-⟩:=ha2
 obtain rfl:ck=ck2:=e1.symm
 obtain rfl:wt=wt2:=e2.symm
 obtain rfl:gn=gn2:=e3.symm
 obtain rfl:os=os2:=e4.symm
 dsimp only at ho2 hoo2 hmc2 hoc2 hpc2 H
 replace hpc2: ∀ m∈ms2,m.parts.length<=m.cap/\w.heap.size<=m.lo:=fun m hm=>⟨(hpc2 m hm).1,aV hlo2 (hpc2 m hm).2⟩
 have hml2:ms2.length=ms.length:=by have:=congrArg da hma;simpa using this
 refine G (Yu Z)<|G (Xa Z Z)<|G (Xi Z Z)<|G (Xi Z Z)<|bA H 1 (#[J (ck),J (wt),J (gn),.slice mA2 ms2.length mC2,.slice oA2 os.length oC2]) bz Z Z Z Z Z N N fun w4 H=>G (Wi Z)<|G (Wi Z)<|U<|W<|W<|Zr<|G (Yi Z)<|G (cv Z Z Z)<|U<|ZF Z<|Zk<|W ?_
 obtain⟨t2,ht2,hta⟩:=AJ hma ht
 have hl2:=(cy ht2).1
 obtain⟨g,cur,rfl,rfl,row⟩:=ho2.row I
 refine Zr<|G (Zf dM Z)<|G (Zd dw H 1 Z Z Z)<|G (Yi Z)<|G (Zf jM Z)<|G (Zd am H 1 Z Z Z)<|G (cR eL Z Z (by first|omega|(simp only[ae];omega)))<|G (Zf ru Z)<|ni H 2 ({t2 with heard:=ck}) bQ row ht2 1 Z Z Z Z Z Z N fun w6 cur5 row5 H=> ?_
 have hs7:(ms2.set i ({t2 with heard:=ck}))[i]? =some ({t2 with heard:=ck}):=al (cy ht2).1
 refine U<|W<|Zr<|G (Zw aO H 1 Z Z Z)<|bA H 0 (#[J (ck),J (wt),J (gn),.slice (Qd g) ms2.length mC2,.slice oA2 os.length oC2]) bz Z Z Z Z Z N N fun w8 H=>G (Wi Z)<|U<|Zt ?_
 have hmf:(ms2.set i {t2 with heard:=ck}).map nH=ms2.map nH:=by rw[cU];apply dZ;intro j;rw[lI];split;(rename_i hj;subst hj;rw[aI,ht2,if_pos (by simpa using hl2)];rfl);rfl
 have hma3:(ms2.set i {t2 with heard:=ck}).map Mem.a=(ms.map Mem.a).set i {t.a with heard:=ck}:=by rw[cU,hma];congr 1;exact congrArg (fun x:Mem=>({x with heard:=ck}:Mem)) hta
 have hpl:=iW hma hmo
 have hown:=d7.own (g:=g) (e:=dh) row5
 exact ch (cs0:= #[J (ck),J (wt),J (gn),.slice (Qd g) ms2.length mC2,.slice oA2 os.length oC2]) (v1:=J 0) Z aO Z (H.ent (i:=0) Z) Z Z ⟨⟨ck,wt,gn,ms2.set i {t2 with heard:=ck},some ⟨g,0,none⟩,mC2,os,oA2,oC2⟩,by unfold Gr.v Gr.c;dsimp only;rw[ae],by unfold Gr.a M7;dsimp only;rw[hma3],rF.new (ga:=Gr.a ⟨ck,wt,gn,ms2.set i {t2 with heard:=ck},some ⟨g,0,none⟩,mC2,os,oA2,oC2⟩) ⟨rfl,hown,hoo2,by dsimp only;rw[ae];exact hmc2,hoc2,fun m hm=>(by rcases aA hm with hm|rfl;exact hpc2 m hm;exact hpc2 t2 (ab ht2)),H.forget (.cons _ (.cons _ (au _))) (fun f hf=>by dsimp only at hf;rw[hmf]at hf;exact cz _ hf)⟩ (by dsimp only;rw[ae];omega) (by dsimp only;omega) (fun m hm=>(by rcases aA hm with hm|rfl;exact hpl m hm;exact hpl t2 (ab ht2)))⟩
theorem Jj {os:List lr} {part:Int} {k:Nat} {o:lr} (ho:os[k]? =some o) (hp:o.part=part) (hno: ∀ x∈os.take k,x.part≠part):qk os part=o.at_:=by
 have:(os.find? fun o=>decide (o.part=part))=some o:=by
  rw[<-g8 k os,List.find?_append,B2.2 fun x hx=>by simpa using hno x hx,cM ho,List.find?_cons_of_pos (by simpa using hp)]
  rfl
 unfold qk
 rw[this]
theorem GO {os:List lr} {part:Int} (hno: ∀ x∈os,x.part≠part):qk os part=0:=by
 unfold qk
 rw[B2.2 fun x hx=>by simpa using hno x hx]
theorem nE (os:List lr) (part at_:Int):(fO os part at_).length<=os.length+1:=by
 unfold fO
 split
 rw[ae];omega
 rw[ay,ay,aD,cZ,cH];omega
theorem GN (g:Gr) (s:ByteArray) (part:Int) (w:World) (h:g.rd 0 w.heap.size w) (hok:lP g=true) (hn:bu s=true) (hi:qx g s= -1):dt aa od [g.v,.string s,J part] w fun v w2=>v=.tuple #[J 0,J 5]/\Below w.heap.size w w2:=by
 refine aG qB Z Z ?_
 have hmC:=h.mC
 have hoC:=h.oC
 have hfew:=h.few
 have hfp:=h.fewP
 have H:=Hp.startGr h
 obtain⟨ck,wt,gn,ms,mA,mC,os,oA,oC⟩:=g
 dsimp only at hmC hoC hfew hfp H
 show CW _ _ _ _ (args [.agg #[J (ck),J (wt),J (gn),.slice mA ms.length mC,.slice oA os.length oC],.string (s),J (part)]) w
 obtain⟨⟨⟨k1,k2⟩,k3,k4,⟨k5,k6⟩,k7,k8⟩,⟨hmo,hap⟩,hof,hor⟩:=dC.1 hok
 dsimp only at k1 k2 k3 k4 k5 k6 k7 k8 hmo
 refine W<|Zr<|gY H Z Z fun w1 b3 H=>G (Wi Z)<|G (Wi Z)<|U<|W<|Zr<|G (Zw aO H 0 Z Z Z)<|G (Yt Z)<|cu gE (mU ⟨ck,wt,gn,ms,mA,mC,os,oA,oC⟩ s _ ⟨H.rd0 0 Z,fun m hm=>zR H 1 Z hm,H.rd0 2 Z,hmC,hoC,hfew,hfp⟩ hok hn) Z Z ?_
 rintro _ w2 ⟨⟨ck2,wt2,gn2,ms2,mA2,mC2,os2,oA2,oC2⟩,Lm,Lo,rfl,ha2,ho2,hoo2,hmc2,hoc2,hpc2,hj2⟩
 have hlo2:=H.size
 replace H:=Hp.joinG H hj2 (fun m hm=>(hpc2 m hm).2);clear hj2
 simp only[Gr.a,Gr.mk.injEq]at ha2
 obtain⟨e1,e2,e3,hma,-,-,e4,-,-⟩:=ha2
 obtain rfl:ck=ck2:=e1.symm
 obtain rfl:wt=wt2:=e2.symm
 obtain rfl:gn=gn2:=e3.symm
 obtain rfl:os=os2:=e4.symm
 dsimp only at ho2 hoo2 hmc2 hoc2 hpc2 H
 replace hpc2: ∀ m∈ms2,m.parts.length<=m.cap/\w.heap.size<=m.lo:=fun m hm=>⟨(hpc2 m hm).1,aV hlo2 (hpc2 m hm).2⟩
 have hml2:ms2.length=ms.length:=by have:=congrArg da hma;simpa using this
 rw[hi]
 refine G (Yu Z)<|G (Xa Z Z)<|G (Xi Z Z)<|G (Xi Z Z)<|bA H 0 (#[J (ck),J (wt),J (gn),.slice mA2 ms2.length mC2,.slice oA2 os.length oC2]) bz Z Z Z Z Z N N fun w3 H=>G (Wi Z)<|G (Wi Z)<|U<|W<|Zb<|W<|Zr<|G (Yi Z)<|G (cv Z Z Z)<|G (Wb Z)<|U<|ZF Z<|W<|Zr<|G (Yi Z)<|G (wr Z Z (by decide))<|G (Wb Z)<|U<|ZT Z<|W<|Zr<|G (Wi Z)<|G (Wi Z)<|U<|Zt ?_
 exact my (v:=J 0) (v2:=J 5) Z Z Z ⟨rfl,H.below⟩
theorem E2 (g:Gr) (s:ByteArray) (part:Int) (w:World) (h:g.rd 0 w.heap.size w) (hok:lP g=true) (hn:bu s=true) (i:Nat) (t:Mem) (hi:qx g s=i) (ht:g.ms[i]? =some t) (hpt:part∉t.parts):dt aa od [g.v,.string s,J part] w fun v w2=>v=.tuple #[J 0,J 12]/\Below w.heap.size w w2:=by
 refine aG qB Z Z ?_
 have hmC:=h.mC
 have hoC:=h.oC
 have hfew:=h.few
 have hfp:=h.fewP
 have H:=Hp.startGr h
 obtain⟨ck,wt,gn,ms,mA,mC,os,oA,oC⟩:=g
 dsimp only at hmC hoC hfew hfp H
 show CW _ _ _ _ (args [.agg #[J (ck),J (wt),J (gn),.slice mA ms.length mC,.slice oA os.length oC],.string (s),J (part)]) w
 obtain⟨⟨⟨k1,k2⟩,k3,k4,⟨k5,k6⟩,k7,k8⟩,⟨hmo,hap⟩,hof,hor⟩:=dC.1 hok
 dsimp only at k1 k2 k3 k4 k5 k6 k7 k8 hmo
 dsimp only at ht
 refine W<|Zr<|gY H Z Z fun w1 b3 H=>G (Wi Z)<|G (Wi Z)<|U<|W<|Zr<|G (Zw aO H 0 Z Z Z)<|G (Yt Z)<|cu gE (mU ⟨ck,wt,gn,ms,mA,mC,os,oA,oC⟩ s _ ⟨H.rd0 0 Z,fun m hm=>zR H 1 Z hm,H.rd0 2 Z,hmC,hoC,hfew,hfp⟩ hok hn) Z Z ?_
 rintro _ w2 ⟨⟨ck2,wt2,gn2,ms2,mA2,mC2,os2,oA2,oC2⟩,Lm,Lo,rfl,ha2,ho2,hoo2,hmc2,hoc2,hpc2,hj2⟩
 have hlo2:=H.size
 replace H:=Hp.joinG H hj2 (fun m hm=>(hpc2 m hm).2);clear hj2
 simp only[Gr.a,Gr.mk.injEq]at ha2
 obtain⟨e1,e2,e3,hma,-,-,e4,-,-⟩:=ha2
 obtain rfl:ck=ck2:=e1.symm
 obtain rfl:wt=wt2:=e2.symm
 obtain rfl:gn=gn2:=e3.symm
 obtain rfl:os=os2:=e4.symm
 dsimp only at ho2 hoo2 hmc2 hoc2 hpc2 H
 replace hpc2: ∀ m∈ms2,m.parts.length<=m.cap/\w.heap.size<=m.lo:=fun m hm=>⟨(hpc2 m hm).1,aV hlo2 (hpc2 m hm).2⟩
 have hml2:ms2.length=ms.length:=by have:=congrArg da hma;simpa using this
 rw[hi]
 refine G (Yu Z)<|G (Xa Z Z)<|G (Xi Z Z)<|G (Xi Z Z)<|bA H 0 (#[J (ck),J (wt),J (gn),.slice mA2 ms2.length mC2,.slice oA2 os.length oC2]) bz Z Z Z Z Z N N fun w3 H=>G (Wi Z)<|G (Wi Z)<|U<|W<|Zb<|W<|Zr<|G (Yi Z)<|G (cv Z Z Z)<|G (Wb Z)<|U<|ZF Z<|W<|Zr<|G (Yi Z)<|G (dp Z Z I)<|G (Wb Z)<|U<|ZF Z<|W ?_
 obtain⟨t2,ht2,hta⟩:=AJ hma ht
 have hl2:=(cy ht2).1
 obtain⟨g,cur,rfl,rfl,row⟩:=ho2.row I
 have htp:t2.parts=t.parts:=(congrArg Mem.parts hta:t2.a.parts=t.a.parts)
 have hpl:=iW hma hmo t2 (ab ht2)
 have hrp:=lZ H (show nH t2∈_ from cz _ (bF (ab ht2)))
 refine Zr<|G (Zf dM Z)<|G (Zd dw H 0 Z Z Z)<|G (Yi Z)<|G (cR eL Z Z (by first|omega|(simp only[ae];omega)))<|G (Zf ja Z)<|G (bU cB row ht2 2 Z (H.ent (i:=1) Z) Z)<|G (Yi Z)<|cu fM (lK t2.parts part t2.A t2.cap _ (lZ H (show nH t2∈_ from by first|exact cz _ (bF (ab ht2))|simp[ab ht2])) I) Z Z ?_
 rw[htp,decide_eq_false hpt]
 rintro _ w4 ⟨rfl,hb⟩;replace H:=H.later hb;clear hb
 refine G (ee Z)<|G (Wb Z)<|U<|ZT Z<|W<|Zr<|G (Wi Z)<|G (Wi Z)<|U<|Zt ?_
 exact my (v:=J 0) (v2:=J 12) Z Z Z ⟨rfl,H.below⟩
theorem KX (g:Gr) (s:ByteArray) (part:Int) (w:World) (h:g.rd 0 w.heap.size w) (hok:lP g=true) (hn:bu s=true) (i:Nat) (t:Mem) (hi:qx g s=i) (ht:g.ms[i]? =some t) (hpt:part∈t.parts):dt aa od [g.v,.string s,J part] w fun v w2=>v=.tuple #[J (qk g.os part),J 0]/\Below w.heap.size w w2:=by
 refine aG qB Z Z ?_
 have hmC:=h.mC
 have hoC:=h.oC
 have hfew:=h.few
 have hfp:=h.fewP
 have H:=Hp.startGr h
 obtain⟨ck,wt,gn,ms,mA,mC,os,oA,oC⟩:=g
 dsimp only at hmC hoC hfew hfp H
 show CW _ _ _ _ (args [.agg #[J (ck),J (wt),J (gn),.slice mA ms.length mC,.slice oA os.length oC],.string (s),J (part)]) w
 obtain⟨⟨⟨k1,k2⟩,k3,k4,⟨k5,k6⟩,k7,k8⟩,⟨hmo,hap⟩,hof,hor⟩:=dC.1 hok
 dsimp only at k1 k2 k3 k4 k5 k6 k7 k8 hmo
 dsimp only at ht
 refine W<|Zr<|gY H Z Z fun w1 b3 H=>G (Wi Z)<|G (Wi Z)<|U<|W<|Zr<|G (Zw aO H 0 Z Z Z)<|G (Yt Z)<|cu gE (mU ⟨ck,wt,gn,ms,mA,mC,os,oA,oC⟩ s _ ⟨H.rd0 0 Z,fun m hm=>zR H 1 Z hm,H.rd0 2 Z,hmC,hoC,hfew,hfp⟩ hok hn) Z Z ?_
 rintro _ w2 ⟨⟨ck2,wt2,gn2,ms2,mA2,mC2,os2,oA2,oC2⟩,Lm,Lo,rfl,ha2,ho2,hoo2,hmc2,hoc2,hpc2,hj2⟩
 have hlo2:=H.size
 replace H:=Hp.joinG H hj2 (fun m hm=>(hpc2 m hm).2);clear hj2
 simp only[Gr.a,Gr.mk.injEq]at ha2
 obtain⟨e1,e2,e3,hma,-,-,e4,-,-⟩:=ha2
 obtain rfl:ck=ck2:=e1.symm
 obtain rfl:wt=wt2:=e2.symm
 obtain rfl:gn=gn2:=e3.symm
 obtain rfl:os=os2:=e4.symm
 dsimp only at ho2 hoo2 hmc2 hoc2 hpc2 H
 replace hpc2: ∀ m∈ms2,m.parts.length<=m.cap/\w.heap.size<=m.lo:=fun m hm=>⟨(hpc2 m hm).1,aV hlo2 (hpc2 m hm).2⟩
 have hml2:ms2.length=ms.length:=by have:=congrArg da hma;simpa using this
 rw[hi]
 refine G (Yu Z)<|G (Xa Z Z)<|G (Xi Z Z)<|G (Xi Z Z)<|bA H 0 (#[J (ck),J (wt),J (gn),.slice mA2 ms2.length mC2,.slice oA2 os.length oC2]) bz Z Z Z Z Z N N fun w3 H=>G (Wi Z)<|G (Wi Z)<|U<|W<|Zb<|W<|Zr<|G (Yi Z)<|G (cv Z Z Z)<|G (Wb Z)<|U<|ZF Z<|W<|Zr<|G (Yi Z)<|G (dp Z Z I)<|G (Wb Z)<|U<|ZF Z<|W ?_
 obtain⟨t2,ht2,hta⟩:=AJ hma ht
 have hl2:=(cy ht2).1
 obtain⟨g,cur,rfl,rfl,row⟩:=ho2.row I
 have htp:t2.parts=t.parts:=(congrArg Mem.parts hta:t2.a.parts=t.a.parts)
 have hpl:=iW hma hmo t2 (ab ht2)
 have hrp:=lZ H (show nH t2∈_ from cz _ (bF (ab ht2)))
 refine Zr<|G (Zf dM Z)<|G (Zd dw H 0 Z Z Z)<|G (Yi Z)<|G (cR eL Z Z (by first|omega|(simp only[ae];omega)))<|G (Zf ja Z)<|G (bU cB row ht2 2 Z (H.ent (i:=1) Z) Z)<|G (Yi Z)<|cu fM (lK t2.parts part t2.A t2.cap _ (lZ H (show nH t2∈_ from by first|exact cz _ (bF (ab ht2))|simp[ab ht2])) I) Z Z ?_
 rw[htp,decide_eq_true hpt]
 rintro _ w4 ⟨rfl,hb⟩;replace H:=H.later hb;clear hb
 refine G (ee Z)<|G (Wb Z)<|U<|ZF Z<|Zk<|W<|W ?_
 obtain⟨lo3,hi3,H⟩:=Hp.sealO (K:=[(b3,.cells #[J (ck),J (wt),J (gn),.slice (Qd g) ms2.length mC2,.slice oA2 os.length oC2] cK (0,0)),(g,.cells cur dh (0,0))]) (M:=[]) (by simpa using H) hoo2
 rw[aZ]at H
 refine Zr<|G (Zf d4 Z)<|G (Zd eG H 0 Z Z Z)<|G (bh iu Z)<|G (Yi Z)<|U<|Zb ?_
 refine cf (τ:=Nat) [6,7,11,39,40,41,42,43,44,45,46,47,48,49] (fun k=>[(39,J (k:Nat))]) (fun k w'=>k<=os.length/\(∀ x∈os.take k,x.part≠part)/\Hp w w' [(b3,.cells #[J (ck),J (wt),J (gn),.slice (Qd g) ms2.length mC2,.slice oA2 os.length oC2] cK (0,0)),(g,.cells cur dh (0,0))] (ey gi lo3 hi3 oA2 os::([ey j0 0 w.heap.size mA ms,Je 0 w.heap.size ms,ey gi 0 w.heap.size oA os]++ms2.map nH))) (fun k=>os.length-k) 0 ⟨by omega,by simp,H⟩ (dR Z) ?_
 rintro k ρ1 w5 ⟨hk,hno,H⟩
 show CW _ _ _ _ (dK (ia _ _ ρ1) [(39,J (k:Nat))]) w5
 refine W<|Zr ?_
 refine du (cO Z Z) Z Z Z (fun h40=> ?_) (fun h40=> ?_)
 obtain⟨o,ho⟩: ∃ o,os[k]? =some o:=⟨_,aj I⟩
 refine U<|W<|ZT Z<|Zk<|W<|Zb<|W<|Zr<|qg H 0 Z dd Z Z I I Z fun bq6 o6 x6 e6=> ?_
 obtain rfl:o=x6:=by have:=e6.at_;rw[ho]at this;exact aY this
 refine G (ka (xs:=lr.c o) BR Z Z e6.cl)<|fc H lv Z fun w7 b11 H=>bA H 0 (#[J (o.part),J (o.at_)]) Aj Z Z Z Z Z N N fun w8 H=>U<|W<|Zr<|G (Zf jC Z)<|G (Zd am H 0 Z Z Z)<|G (Yi Z) ?_
 refine du (bv Z Z) Z Z Z (fun h46=> ?_) (fun h46=> ?_)
 refine U<|ZT Z<|W<|Zr<|G (Zf oR Z)<|G (Zd am H 0 Z Z Z)<|G (Wi Z)<|G (Wi Z)<|U<|Zt ?_
 exact my (v:=J o.at_) (v2:=J 0) Z Z Z ⟨by rw[Jj ho h46 hno],H.below⟩
 refine U<|ZF Z<|Zk<|Zr<|G (bp Z Z I I)<|G (Yi Z)<|U ?_
 exact⟨k+1,⟨by omega,by rw[d6 ho];intro x hx;rcases ap.1 hx with hx|hx;exact hno x hx;rw[ar.1 hx];exact h46,H.forget (.cons _ (au _)) (fun _ h=>h)⟩,dR Z,Qg,by show os.length- (k+1)<os.length-k;omega⟩
 refine U<|W<|ZF Z<|Zx<|W<|Zr<|G (Wi Z)<|G (Wi Z)<|U<|Zt ?_
 rw[show k=os.length by omega,bJ]at hno
 exact my (v:=J 0) (v2:=J 0) Z Z Z ⟨by rw[GO hno],H.below⟩
theorem GU (g:Gr) (s:ByteArray) (gn_ part at_:Int) (w:World) (h:g.rd 0 w.heap.size w) (hok:lP g=true) (hn:bu s=true) (hi:qx g s= -1):dt aa jX [g.v,.string s,J gn_,J part,J at_] w fun v w2=>v=.tuple #[.agg #[J 0,J 0,J 0,.slice none 0 0,.slice none 0 0],J 5]/\Below w.heap.size w w2:=by
 refine aG kw Z Z ?_
 have hmC:=h.mC
 have hoC:=h.oC
 have hfew:=h.few
 have hfp:=h.fewP
 have H:=Hp.startGr h
 obtain⟨ck,wt,gn,ms,mA,mC,os,oA,oC⟩:=g
 dsimp only at hmC hoC hfew hfp H
 show CW _ _ _ _ (args [.agg #[J (ck),J (wt),J (gn),.slice mA ms.length mC,.slice oA os.length oC],.string (s),J (gn_),J (part),J (at_)]) w
 obtain⟨⟨⟨k1,k2⟩,k3,k4,⟨k5,k6⟩,k7,k8⟩,⟨hmo,hap⟩,hof,hor⟩:=dC.1 hok
 dsimp only at k1 k2 k3 k4 k5 k6 k7 k8 hmo
 refine W<|Zr<|gY H Z Z fun w1 b5 H=>fc H ed Z fun w2 b10 H=>G (Wi Z)<|U<|W<|Zr<|G (Zw aO H 1 Z Z Z)<|G (Yt Z)<|G (Yi Z)<|cu iy (Dr ⟨ck,wt,gn,ms,mA,mC,os,oA,oC⟩ s gn_ _ ⟨H.rd0 0 Z,fun m hm=>zR H 1 Z hm,H.rd0 2 Z,hmC,hoC,hfew,hfp⟩ hok hn hi) Z Z ?_
 rintro _ w3 ⟨rfl,hb⟩;replace H:=H.later hb;clear hb
 refine G (Yu Z)<|G (Xa Z Z)<|G (Xi Z Z)<|G (Xi Z Z)<|bA H 1 (#[J (0),J (0),J (0),.slice none 0 0,.slice none 0 0]) bz Z Z Z Z Z N N fun w4 H=>G (Wi Z)<|G (Wi Z)<|U<|W<|Zb<|W<|Zr<|G (Yi Z)<|G (lN Z Z (by decide))<|G (Wb Z)<|U<|ZT Z<|W<|Zr<|G (bC (cs:= #[J (0),J (0),J (0),.slice none 0 0,.slice none 0 0]) kh ed N)<|G (Yi Z)<|bA H 0 (#[J (0),J (0),J (0),.slice none 0 0,.slice none 0 0]) bz Z Z Z Z Z N N fun w5 H=>G (Wi Z)<|U<|Zt ?_
 exact ch (cs0:= #[J 0,J 0,J 0,.slice none 0 0,.slice none 0 0]) (v1:=J 5) Z aO Z (H.ent (i:=0) Z) Z Z ⟨rfl,H.below⟩
theorem Fb (g:Gr) (s:ByteArray) (gn_ part at_:Int) (w:World) (h:g.rd 0 w.heap.size w) (hok:lP g=true) (hn:bu s=true) (i:Nat) (hi:qx g s=i) (hg:g.gen≠gn_):dt aa jX [g.v,.string s,J gn_,J part,J at_] w fun v w2=>v=.tuple #[.agg #[J 0,J 0,J 0,.slice none 0 0,.slice none 0 0],J 10]/\Below w.heap.size w w2:=by
 refine aG kw Z Z ?_
 have hmC:=h.mC
 have hoC:=h.oC
 have hfew:=h.few
 have hfp:=h.fewP
 have H:=Hp.startGr h
 obtain⟨ck,wt,gn,ms,mA,mC,os,oA,oC⟩:=g
 dsimp only at hmC hoC hfew hfp H
 show CW _ _ _ _ (args [.agg #[J (ck),J (wt),J (gn),.slice mA ms.length mC,.slice oA os.length oC],.string (s),J (gn_),J (part),J (at_)]) w
 obtain⟨⟨⟨k1,k2⟩,k3,k4,⟨k5,k6⟩,k7,k8⟩,⟨hmo,hap⟩,hof,hor⟩:=dC.1 hok
 dsimp only at k1 k2 k3 k4 k5 k6 k7 k8 hmo
 refine W<|Zr<|gY H Z Z fun w1 b5 H=>fc H ed Z fun w2 b10 H=>G (Wi Z)<|U<|W<|Zr<|G (Zw aO H 1 Z Z Z)<|G (Yt Z)<|G (Yi Z)<|cu iy (Bl ⟨ck,wt,gn,ms,mA,mC,os,oA,oC⟩ s gn_ _ ⟨H.rd0 0 Z,fun m hm=>zR H 1 Z hm,H.rd0 2 Z,hmC,hoC,hfew,hfp⟩ hok hn i hi hg) Z Z ?_
 rintro _ w3 ⟨rfl,hb⟩;replace H:=H.later hb;clear hb
 refine G (Yu Z)<|G (Xa Z Z)<|G (Xi Z Z)<|G (Xi Z Z)<|bA H 1 (#[J (0),J (0),J (0),.slice none 0 0,.slice none 0 0]) bz Z Z Z Z Z N N fun w4 H=>G (Wi Z)<|G (Wi Z)<|U<|W<|Zb<|W<|Zr<|G (Yi Z)<|G (lN Z Z (by decide))<|G (Wb Z)<|U<|ZT Z<|W<|Zr<|G (bC (cs:= #[J (0),J (0),J (0),.slice none 0 0,.slice none 0 0]) kh ed N)<|G (Yi Z)<|bA H 0 (#[J (0),J (0),J (0),.slice none 0 0,.slice none 0 0]) bz Z Z Z Z Z N N fun w5 H=>G (Wi Z)<|U<|Zt ?_
 exact ch (cs0:= #[J 0,J 0,J 0,.slice none 0 0,.slice none 0 0]) (v1:=J 10) Z aO Z (H.ent (i:=0) Z) Z Z ⟨rfl,H.below⟩
theorem Fa (g:Gr) (s:ByteArray) (gn_ part at_:Int) (w:World) (h:g.rd 0 w.heap.size w) (hok:lP g=true) (hn:bu s=true) (i:Nat) (hi:qx g s=i) (hg:g.gen=gn_) (hat:400<at_):dt aa jX [g.v,.string s,J gn_,J part,J at_] w fun v w2=>v=.tuple #[.agg #[J 0,J 0,J 0,.slice none 0 0,.slice none 0 0],J 2]/\Below w.heap.size w w2:=by
 refine aG kw Z Z ?_
 have hmC:=h.mC
 have hoC:=h.oC
 have hfew:=h.few
 have hfp:=h.fewP
 have H:=Hp.startGr h
 obtain⟨ck,wt,gn,ms,mA,mC,os,oA,oC⟩:=g
 dsimp only at hmC hoC hfew hfp H
 show CW _ _ _ _ (args [.agg #[J (ck),J (wt),J (gn),.slice mA ms.length mC,.slice oA os.length oC],.string (s),J (gn_),J (part),J (at_)]) w
 obtain⟨⟨⟨k1,k2⟩,k3,k4,⟨k5,k6⟩,k7,k8⟩,⟨hmo,hap⟩,hof,hor⟩:=dC.1 hok
 dsimp only at k1 k2 k3 k4 k5 k6 k7 k8 hmo
 refine W<|Zr<|gY H Z Z fun w1 b5 H=>fc H ed Z fun w2 b10 H=>G (Wi Z)<|U<|W<|Zr<|G (Zw aO H 1 Z Z Z)<|G (Yt Z)<|G (Yi Z)<|cu iy (zU ⟨ck,wt,gn,ms,mA,mC,os,oA,oC⟩ s gn_ _ ⟨H.rd0 0 Z,fun m hm=>zR H 1 Z hm,H.rd0 2 Z,hmC,hoC,hfew,hfp⟩ hok hn i hi hg) Z Z ?_
 rintro _ w3 ⟨⟨ck2,wt2,gn2,ms2,mA2,mC2,os2,oA2,oC2⟩,Lm,Lo,rfl,ha2,ho2,hoo2,hmc2,hoc2,hpc2,hj2⟩
 have hlo2:=H.size
 replace H:=Hp.joinG H hj2 (fun m hm=>(hpc2 m hm).2);clear hj2
 simp only[Gr.a,Gr.mk.injEq]at ha2
 obtain⟨e1,e2,e3,hma,-,-,e4,-,-⟩:=ha2
 obtain rfl:ck=ck2:=e1.symm
 obtain rfl:wt=wt2:=e2.symm
 obtain rfl:gn=gn2:=e3.symm
 obtain rfl:os=os2:=e4.symm
 dsimp only at ho2 hoo2 hmc2 hoc2 hpc2 H
 replace hpc2: ∀ m∈ms2,m.parts.length<=m.cap/\w.heap.size<=m.lo:=fun m hm=>⟨(hpc2 m hm).1,aV hlo2 (hpc2 m hm).2⟩
 have hml2:ms2.length=ms.length:=by have:=congrArg da hma;simpa using this
 refine G (Yu Z)<|G (Xa Z Z)<|G (Xi Z Z)<|G (Xi Z Z)<|bA H 1 (#[J (ck),J (wt),J (gn),.slice mA2 ms2.length mC2,.slice oA2 os.length oC2]) bz Z Z Z Z Z N N fun w4 H=>G (Wi Z)<|G (Wi Z)<|U<|W<|Zb<|W<|Zr<|G (Yi Z)<|G (cv Z Z Z)<|G (Wb Z)<|U<|ZF Z<|W<|Zr<|G (Yi Z)<|G (dp Z Z I)<|G (Yb Z)<|ZG<|G (Yi Z)<|ZG<|G (HD Z Z I)<|G (N Z Z)<|G (Wb Z)<|U<|ZT Z<|W<|Zr<|G (bC (cs:= #[J (0),J (0),J (0),.slice none 0 0,.slice none 0 0]) kh ed N)<|bA H 0 (#[J (0),J (0),J (0),.slice none 0 0,.slice none 0 0]) bz Z Z Z Z Z N N fun w5 H=>G (Wi Z)<|U<|Zt ?_
 exact ch (cs0:= #[J 0,J 0,J 0,.slice none 0 0,.slice none 0 0]) (v1:=J 2) Z aO Z (H.ent (i:=0) Z) Z Z ⟨rfl,H.below⟩
theorem E9 (g:Gr) (s:ByteArray) (gn_ part at_:Int) (w:World) (h:g.rd 0 w.heap.size w) (hok:lP g=true) (hn:bu s=true) (i:Nat) (t:Mem) (hi:qx g s=i) (ht:g.ms[i]? =some t) (hg:g.gen=gn_) (hat0:0<=at_) (hat:at_<=400) (hpt:part∉t.parts):dt aa jX [g.v,.string s,J gn_,J part,J at_] w fun v w2=>v=.tuple #[.agg #[J 0,J 0,J 0,.slice none 0 0,.slice none 0 0],J 12]/\Below w.heap.size w w2:=by
 refine aG kw Z Z ?_
 have hmC:=h.mC
 have hoC:=h.oC
 have hfew:=h.few
 have hfp:=h.fewP
 have H:=Hp.startGr h
 obtain⟨ck,wt,gn,ms,mA,mC,os,oA,oC⟩:=g
 dsimp only at hmC hoC hfew hfp H
 show CW _ _ _ _ (args [.agg #[J (ck),J (wt),J (gn),.slice mA ms.length mC,.slice oA os.length oC],.string (s),J (gn_),J (part),J (at_)]) w
 obtain⟨⟨⟨k1,k2⟩,k3,k4,⟨k5,k6⟩,k7,k8⟩,⟨hmo,hap⟩,hof,hor⟩:=dC.1 hok
 dsimp only at k1 k2 k3 k4 k5 k6 k7 k8 hmo
 dsimp only at ht
 refine W<|Zr<|gY H Z Z fun w1 b5 H=>fc H ed Z fun w2 b10 H=>G (Wi Z)<|U<|W<|Zr<|G (Zw aO H 1 Z Z Z)<|G (Yt Z)<|G (Yi Z)<|cu iy (zU ⟨ck,wt,gn,ms,mA,mC,os,oA,oC⟩ s gn_ _ ⟨H.rd0 0 Z,fun m hm=>zR H 1 Z hm,H.rd0 2 Z,hmC,hoC,hfew,hfp⟩ hok hn i hi hg) Z Z ?_
 rintro _ w3 ⟨⟨ck2,wt2,gn2,ms2,mA2,mC2,os2,oA2,oC2⟩,Lm,Lo,rfl,ha2,ho2,hoo2,hmc2,hoc2,hpc2,hj2⟩
 have hlo2:=H.size
 replace H:=Hp.joinG H hj2 (fun m hm=>(hpc2 m hm).2);clear hj2
 simp only[Gr.a,Gr.mk.injEq]at ha2
 obtain⟨e1,e2,e3,hma,-,-,e4,-,-⟩:=ha2
 obtain rfl:ck=ck2:=e1.symm
 obtain rfl:wt=wt2:=e2.symm
 obtain rfl:gn=gn2:=e3.symm
 obtain rfl:os=os2:=e4.symm
 dsimp only at ho2 hoo2 hmc2 hoc2 hpc2 H
 replace hpc2: ∀ m∈ms2,m.parts.length<=m.cap/\w.heap.size<=m.lo:=fun m hm=>⟨(hpc2 m hm).1,aV hlo2 (hpc2 m hm).2⟩
 have hml2:ms2.length=ms.length:=by have:=congrArg da hma;simpa using this
 refine G (Yu Z)<|G (Xa Z Z)<|G (Xi Z Z)<|G (Xi Z Z)<|bA H 1 (#[J (ck),J (wt),J (gn),.slice mA2 ms2.length mC2,.slice oA2 os.length oC2]) bz Z Z Z Z Z N N fun w4 H=>G (Wi Z)<|G (Wi Z)<|U<|W<|Zb<|W<|Zr<|G (Yi Z)<|G (cv Z Z Z)<|G (Wb Z)<|U<|ZF Z<|W<|Zr<|G (Yi Z)<|G (dp Z Z I)<|G (Yb Z)<|ZG<|G (Yi Z)<|ZG<|G (eB Z Z I)<|G (N Z Z)<|G (Wb Z)<|U<|ZF Z<|W ?_
 obtain⟨t2,ht2,hta⟩:=AJ hma ht
 have hl2:=(cy ht2).1
 obtain⟨g,cur,rfl,rfl,row⟩:=ho2.row I
 have htp:t2.parts=t.parts:=(congrArg Mem.parts hta:t2.a.parts=t.a.parts)
 have hpl:=iW hma hmo t2 (ab ht2)
 have hrp:=lZ H (show nH t2∈_ from cz _ (bF (ab ht2)))
 refine Zr<|G (Zf dM Z)<|G (Zd dw H 1 Z Z Z)<|G (Yi Z)<|G (cR eL Z Z (by first|omega|(simp only[ae];omega)))<|G (Zf ja Z)<|G (bU cB row ht2 2 Z (H.ent (i:=2) Z) Z)<|G (Yi Z)<|cu fM (lK t2.parts part t2.A t2.cap _ (lZ H (show nH t2∈_ from by first|exact cz _ (bF (ab ht2))|simp[ab ht2])) I) Z Z ?_
 rw[htp,decide_eq_false hpt]
 rintro _ w5 ⟨rfl,hb⟩;replace H:=H.later hb;clear hb
 refine G (ee Z)<|G (Wb Z)<|U<|ZT Z<|W<|Zr<|G (bC (cs:= #[J (0),J (0),J (0),.slice none 0 0,.slice none 0 0]) kh ed N)<|bA H 0 (#[J (0),J (0),J (0),.slice none 0 0,.slice none 0 0]) bz Z Z Z Z Z N N fun w6 H=>G (Wi Z)<|U<|Zt ?_
 exact ch (cs0:= #[J 0,J 0,J 0,.slice none 0 0,.slice none 0 0]) (v1:=J 12) Z aO Z (H.ent (i:=0) Z) Z Z ⟨rfl,H.below⟩
theorem Lc (g:Gr) (s:ByteArray) (gn_ part at_:Int) (w:World) (h:g.rd 0 w.heap.size w) (hok:lP g=true) (hn:bu s=true) (i:Nat) (t:Mem) (hi:qx g s=i) (ht:g.ms[i]? =some t) (hg:g.gen=gn_) (hat0:0<=at_) (hat:at_<=400) (hpt:part∈t.parts):dt aa jX [g.v,.string s,J gn_,J part,J at_] w fun v w2=> ∃ g':Gr,v=.tuple #[g'.v,J 0]/\g'.a={g.a with os:=fO g.os part at_}/\zl w w2 g':=by
 refine aG kw Z Z ?_
 have hmC:=h.mC
 have hoC:=h.oC
 have hfew:=h.few
 have hfp:=h.fewP
 have H:=Hp.startGr h
 obtain⟨ck,wt,gn,ms,mA,mC,os,oA,oC⟩:=g
 dsimp only at hmC hoC hfew hfp H
 show CW _ _ _ _ (args [.agg #[J (ck),J (wt),J (gn),.slice mA ms.length mC,.slice oA os.length oC],.string (s),J (gn_),J (part),J (at_)]) w
 obtain⟨⟨⟨k1,k2⟩,k3,k4,⟨k5,k6⟩,k7,k8⟩,⟨hmo,hap⟩,hof,hor⟩:=dC.1 hok
 dsimp only at k1 k2 k3 k4 k5 k6 k7 k8 hmo
 dsimp only at ht
 refine W<|Zr<|gY H Z Z fun w1 b5 H=>fc H ed Z fun w2 b10 H=>G (Wi Z)<|U<|W<|Zr<|G (Zw aO H 1 Z Z Z)<|G (Yt Z)<|G (Yi Z)<|cu iy (zU ⟨ck,wt,gn,ms,mA,mC,os,oA,oC⟩ s gn_ _ ⟨H.rd0 0 Z,fun m hm=>zR H 1 Z hm,H.rd0 2 Z,hmC,hoC,hfew,hfp⟩ hok hn i hi hg) Z Z ?_
 rintro _ w3 ⟨⟨ck2,wt2,gn2,ms2,mA2,mC2,os2,oA2,oC2⟩,Lm,Lo,rfl,ha2,ho2,hoo2,hmc2,hoc2,hpc2,hj2⟩
 have hlo2:=H.size
 replace H:=Hp.joinG H hj2 (fun m hm=>(hpc2 m hm).2);clear hj2
 simp only[Gr.a,Gr.mk.injEq]at ha2
 obtain⟨e1,e2,e3,hma,-,-,e4,-,-⟩:=ha2
 obtain rfl:ck=ck2:=e1.symm
 obtain rfl:wt=wt2:=e2.symm
 obtain rfl:gn=gn2:=e3.symm
 obtain rfl:os=os2:=e4.symm
 dsimp only at ho2 hoo2 hmc2 hoc2 hpc2 H
 replace hpc2: ∀ m∈ms2,m.parts.length<=m.cap/\w.heap.size<=m.lo:=fun m hm=>⟨(hpc2 m hm).1,aV hlo2 (hpc2 m hm).2⟩
 have hml2:ms2.length=ms.length:=by have:=congrArg da hma;simpa using this
 refine G (Yu Z)<|G (Xa Z Z)<|G (Xi Z Z)<|G (Xi Z Z)<|bA H 1 (#[J (ck),J (wt),J (gn),.slice mA2 ms2.length mC2,.slice oA2 os.length oC2]) bz Z Z Z Z Z N N fun w4 H=>G (Wi Z)<|G (Wi Z)<|U<|W<|Zb<|W<|Zr<|G (Yi Z)<|G (cv Z Z Z)<|G (Wb Z)<|U<|ZF Z<|W<|Zr<|G (Yi Z)<|G (dp Z Z I)<|G (Yb Z)<|ZG<|G (Yi Z)<|ZG<|G (eB Z Z I)<|G (N Z Z)<|G (Wb Z)<|U<|ZF Z<|W ?_
 obtain⟨t2,ht2,hta⟩:=AJ hma ht
 have hl2:=(cy ht2).1
 obtain⟨g,cur,rfl,rfl,row⟩:=ho2.row I
 have htp:t2.parts=t.parts:=(congrArg Mem.parts hta:t2.a.parts=t.a.parts)
 have hpl:=iW hma hmo t2 (ab ht2)
 have hrp:=lZ H (show nH t2∈_ from cz _ (bF (ab ht2)))
 refine Zr<|G (Zf dM Z)<|G (Zd dw H 1 Z Z Z)<|G (Yi Z)<|G (cR eL Z Z (by first|omega|(simp only[ae];omega)))<|G (Zf ja Z)<|G (bU cB row ht2 2 Z (H.ent (i:=2) Z) Z)<|G (Yi Z)<|cu fM (lK t2.parts part t2.A t2.cap _ (lZ H (show nH t2∈_ from by first|exact cz _ (bF (ab ht2))|simp[ab ht2])) I) Z Z ?_
 rw[htp,decide_eq_true hpt]
 rintro _ w5 ⟨rfl,hb⟩;replace H:=H.later hb;clear hb
 refine G (ee Z)<|G (Wb Z)<|U<|ZF Z<|Zk<|W<|Zr<|G (Wi Z)<|U<|W<|Zb ?_
 refine cf (τ:=Nat) [14,47,48,49,50,51,52,53,54,55,56,57,58,59,60,61,62,63] (fun k=>[(14,J (k:Nat))]) (fun k w'=>k<=os.length/\(∀ x∈os.take k,x.part<part)/\Hp w w' ([(b10,.cells #[J 0,J 0,J 0,.slice none 0 0,.slice none 0 0] cK (0,0)),(b5,.cells #[J (ck),J (wt),J (gn),.slice (Qd g) ms2.length mC2,.slice oA2 os.length oC2] cK (0,0)),(g,.cells cur dh (0,0))]++Lo) ([ey j0 0 w.heap.size mA ms,Je 0 w.heap.size ms,ey gi 0 w.heap.size oA os]++ms2.map nH)) (fun k=>os.length-k) 0 ⟨by omega,by simp,H⟩ (dR Z) ?_
 rintro k ρ1 w6 ⟨hk,hwh,H⟩
 show CW _ _ _ _ (dK (ia _ _ ρ1) [(14,J (k:Nat))]) w6
 refine W<|W<|Zr<|G (Yi Z)<|G (Zf d4 Z)<|G (Zd eG H 1 Z Z Z)<|G (bh iu Z) ?_
 refine du (cO Z Z) Z Z Z (fun h51=> ?_) (fun h51=> ?_)
 obtain⟨g2,cur2,rfl,rfl,row2⟩:=hoo2.row I
 obtain⟨o,ho⟩: ∃ o,os[k]? =some o:=⟨_,aj I⟩
 refine G (Yb Z)<|ZG<|G (Zf d4 Z)<|ZG<|G (Zd eG H 1 Z Z Z)<|ZG<|G (Yi Z)<|ZG<|G (cR dd Z Z (by first|omega|(simp only[ae];omega)))<|ZG<|G (Zf jC Z)<|ZG<|G (bU am row2 ho 0 Z (H.ent (i:=3) Z) Z)<|ZG<|G (Yi Z)<|ZG ?_
 refine du (cO Z Z) Z Z Z (fun h60=> ?_) (fun h60=> ?_)
 refine G (Kt Z Z)<|U<|ZT Z<|Zk<|Zb<|Zr<|G (Yi Z)<|G (bp Z Z I I)<|G (Wi Z)<|U ?_
 exact⟨k+1,⟨by omega,by rw[d6 ho];intro x hx;rcases ap.1 hx with hx|hx;exact hwh x hx;rw[ar.1 hx];exact h60,H⟩,dR Z,Qg,by show os.length- (k+1)<os.length-k;omega⟩
 refine G (Kt Z Z)<|U<|ZF Z<|Zx<|W<|W ?_
 have hkl:l6 os part=k:=z9 (fun x hx=>by simpa using hwh x hx) (fun x hx=>by rw[ho]at hx;injection hx with hx;subst hx;simpa using h60) hk
 refine Zr<|G (Yi Z)<|G (Zf d4 Z)<|G (Zd eG H 1 Z Z Z)<|G (bh iu Z) ?_
 refine du (cO Z Z) Z Z Z (fun h68=> ?_) (fun h68=> ?_)
 refine G (Yb Z)<|ZG<|G (Zf d4 Z)<|ZG<|G (Zd eG H 1 Z Z Z)<|ZG<|G (Yi Z)<|ZG<|G (cR dd Z Z (by first|omega|(simp only[ae];omega)))<|ZG<|G (Zf jC Z)<|ZG<|G (bU am row2 ho 0 Z (H.ent (i:=3) Z) Z)<|ZG<|G (Yi Z)<|ZG ?_
 refine du (bv Z Z) Z Z Z (fun h77=> ?_) (fun h77=> ?_)
 refine G (Kt Z Z)<|U<|ZT Z ?_
 have hput:fO os part at_=os.set k {o with at_:=at_}:=by unfold fO;rw[hkl,ho];rw[if_pos (show Option.map lr.part (some o)=some part from congrArg some h77)];subst h77;rfl
 refine Zr<|G (Zf d4 Z)<|G (Zd eG H 1 Z Z Z)<|G (Yi Z)<|G (Yi Z)<|G (cR dd Z Z (by first|omega|(simp only[ae];omega)))<|G (Zf oR Z)<|ni H 3 ({o with at_:=at_}) bQ row2 ho 1 Z Z Z Z Z Z N fun w8 cur7 row7 H=> ?_
 have hs9:(os.set k ({o with at_:=at_}))[k]? =some ({o with at_:=at_}):=al (cy ho).1
 refine U<|W<|Zr<|G (Zw aO H 1 Z Z Z)<|bA H 0 (#[J (ck),J (wt),J (gn),.slice (Qd g) ms2.length mC2,.slice (Qd g2) os.length oC2]) bz Z Z Z Z Z N N fun w10 H=>G (Wi Z)<|U<|Zt ?_
 exact ch (cs0:= #[J (ck),J (wt),J (gn),.slice (Qd g) ms2.length mC2,.slice (Qd g2) os.length oC2]) (v1:=J 0) Z aO Z (H.ent (i:=0) Z) Z Z ⟨⟨ck,wt,gn,ms2,some ⟨g,0,none⟩,mC2,os.set k {o with at_:=at_},some ⟨g2,0,none⟩,oC2⟩,by unfold Gr.v Gr.c;dsimp only;rw[ae],by unfold Gr.a;dsimp only;rw[hma];show _=({Gr.a ⟨ck,wt,gn,ms,mA,mC,os,oA,oC⟩with os:=fO os part at_}:Gr);rw[hput];rfl,rF.new (ga:=Gr.a ⟨ck,wt,gn,ms2,some ⟨g,0,none⟩,mC2,os.set k {o with at_:=at_},some ⟨g2,0,none⟩,oC2⟩) ⟨rfl,d7.own row,by dsimp only;rw[ae];have hO:=d7.own (g:=g2) (e:=eg) row7;rw[ae]at hO;exact hO,hmc2,by dsimp only;rw[ae];exact hoc2,hpc2,H.forget (.cons _ (.cons _ (au _))) (fun f hf=>by simp only[av,ap];grind)⟩ (by dsimp only;omega) (by dsimp only;rw[<-hput];have:=nE os part at_;omega) (iW hma hmo)⟩
 refine G (Kt Z Z)<|U<|ZF Z ?_
 have hput:fO os part at_=os.take k++[⟨part,at_⟩]++os.drop k:=by unfold fO;rw[hkl];rw[if_neg (by rw[ho];intro hx;exact h77 (aY hx))]
 refine Zr<|G (Zf d4 Z)<|G (Zd eG H 1 Z Z Z)<|G (Yi Z)<|G (Yi Z)<|G (Yi Z)<|G (bC (cs:= #[J (part),J (at_)]) u5 lv N)<|uO (vs:=[.agg #[J (part),J (at_)]]) H dd lv Z Z Z Z Z Z fun w11 b91 H=>cu fd (jH (K:=[(b10,.cells #[J (0),J (0),J (0),.slice none 0 0,.slice none 0 0] cK (0,0)),(b5,.cells #[J (ck),J (wt),J (gn),.slice (Qd g) ms2.length mC2,.slice (Qd g2) os.length oC2] cK (0,0)),(g,.cells cur dh (0,0))]) (Lt:=[(g2,.cells cur2 eg (0,0))]) (M:=[]) (x:=⟨part,at_⟩) (i:=k) (by rw[aZ];exact H) hoo2 I I) Z Z ?_
 rintro _ w12 ⟨A9,c9,L9,rfl,ho9,HI⟩
 replace H:Hp w w12 ([(b91,.cells #[J (part),J (at_)] eg (0,0)),(b10,.cells #[J (0),J (0),J (0),.slice none 0 0,.slice none 0 0] cK (0,0)),(b5,.cells #[J (ck),J (wt),J (gn),.slice (Qd g) ms2.length mC2,.slice (Qd g2) os.length oC2] cK (0,0)),(g,.cells cur dh (0,0))]++L9) ([ey j0 0 w.heap.size mA ms,Je 0 w.heap.size ms,ey gi 0 w.heap.size oA os]++ms2.map nH):=by rw[aZ]at HI;exact HI
 clear HI
 have hc9:(os.take k++[(⟨part,at_⟩:lr)]++os.drop k).length<=c9:=by obtain⟨_,_,e,h,_⟩:=ho9.form;injection e with _ _ e;rw[e];exact h
 refine G (Zf d4 Z)<|bA H 2 (#[J (ck),J (wt),J (gn),.slice (Qd g) ms2.length mC2,.slice A9 ((os.take k++[(⟨part,at_⟩:lr)]++os.drop k).length) c9]) ov Z Z Z Z Z N N fun w13 H=>U<|W<|Zr<|G (Zw aO H 2 Z Z Z)<|bA H 1 (#[J (ck),J (wt),J (gn),.slice (Qd g) ms2.length mC2,.slice A9 ((os.take k++[(⟨part,at_⟩:lr)]++os.drop k).length) c9]) bz Z Z Z Z Z N N fun w14 H=>G (Wi Z)<|U<|Zt ?_
 exact ch (cs0:= #[J (ck),J (wt),J (gn),.slice (Qd g) ms2.length mC2,.slice A9 (((os.take k++[(⟨part,at_⟩:lr)]++os.drop k)).length) c9]) (v1:=J 0) Z aO Z (H.ent (i:=1) Z) Z Z ⟨⟨ck,wt,gn,ms2,some ⟨g,0,none⟩,mC2,os.take k++[(⟨part,at_⟩:lr)]++os.drop k,A9,c9⟩,rfl,by unfold Gr.a;dsimp only;rw[hma];show _=({Gr.a ⟨ck,wt,gn,ms,mA,mC,os,oA,oC⟩with os:=fO os part at_}:Gr);rw[hput];rfl,rF.new (ga:=Gr.a ⟨ck,wt,gn,ms2,some ⟨g,0,none⟩,mC2,os.take k++[(⟨part,at_⟩:lr)]++os.drop k,A9,c9⟩) ⟨rfl,d7.own row,ho9,hmc2,hc9,hpc2,H.forget (.cons _ (.cons _ (.cons _ (au _)))) (fun f hf=>by simp only[av,ap];grind)⟩ (by dsimp only;omega) (by dsimp only;rw[<-hput];have:=nE os part at_;omega) (iW hma hmo)⟩
 refine G (Yb Z)<|ZN<|ZN<|ZN<|ZN<|ZN<|ZN<|ZN<|ZN<|G (N Z Z)<|U<|ZF Z ?_
 have hput:fO os part at_=os.take k++[⟨part,at_⟩]++os.drop k:=by unfold fO;rw[hkl];rw[if_neg (by rw[bX I];simp)]
 refine Zr<|G (Zf d4 Z)<|G (Zd eG H 1 Z Z Z)<|G (Yi Z)<|G (Yi Z)<|G (Yi Z)<|G (bC (cs:= #[J (part),J (at_)]) u5 lv N)<|uO (vs:=[.agg #[J (part),J (at_)]]) H dd lv Z Z Z Z Z Z fun w15 b91 H=>cu fd (jH (K:=[(b10,.cells #[J (0),J (0),J (0),.slice none 0 0,.slice none 0 0] cK (0,0)),(b5,.cells #[J (ck),J (wt),J (gn),.slice (Qd g) ms2.length mC2,.slice (Qd g2) os.length oC2] cK (0,0)),(g,.cells cur dh (0,0))]) (Lt:=[(g2,.cells cur2 eg (0,0))]) (M:=[]) (x:=⟨part,at_⟩) (i:=k) (by rw[aZ];exact H) hoo2 I I) Z Z ?_
 rintro _ w16 ⟨A9,c9,L9,rfl,ho9,HI⟩
 replace H:Hp w w16 ([(b91,.cells #[J (part),J (at_)] eg (0,0)),(b10,.cells #[J (0),J (0),J (0),.slice none 0 0,.slice none 0 0] cK (0,0)),(b5,.cells #[J (ck),J (wt),J (gn),.slice (Qd g) ms2.length mC2,.slice (Qd g2) os.length oC2] cK (0,0)),(g,.cells cur dh (0,0))]++L9) ([ey j0 0 w.heap.size mA ms,Je 0 w.heap.size ms,ey gi 0 w.heap.size oA os]++ms2.map nH):=by rw[aZ]at HI;exact HI
 clear HI
 have hc9:(os.take k++[(⟨part,at_⟩:lr)]++os.drop k).length<=c9:=by obtain⟨_,_,e,h,_⟩:=ho9.form;injection e with _ _ e;rw[e];exact h
 refine G (Zf d4 Z)<|bA H 2 (#[J (ck),J (wt),J (gn),.slice (Qd g) ms2.length mC2,.slice A9 ((os.take k++[(⟨part,at_⟩:lr)]++os.drop k).length) c9]) ov Z Z Z Z Z N N fun w17 H=>U<|W<|Zr<|G (Zw aO H 2 Z Z Z)<|bA H 1 (#[J (ck),J (wt),J (gn),.slice (Qd g) ms2.length mC2,.slice A9 ((os.take k++[(⟨part,at_⟩:lr)]++os.drop k).length) c9]) bz Z Z Z Z Z N N fun w18 H=>G (Wi Z)<|U<|Zt ?_
 exact ch (cs0:= #[J (ck),J (wt),J (gn),.slice (Qd g) ms2.length mC2,.slice A9 (((os.take k++[(⟨part,at_⟩:lr)]++os.drop k)).length) c9]) (v1:=J 0) Z aO Z (H.ent (i:=1) Z) Z Z ⟨⟨ck,wt,gn,ms2,some ⟨g,0,none⟩,mC2,os.take k++[(⟨part,at_⟩:lr)]++os.drop k,A9,c9⟩,rfl,by unfold Gr.a;dsimp only;rw[hma];show _=({Gr.a ⟨ck,wt,gn,ms,mA,mC,os,oA,oC⟩with os:=fO os part at_}:Gr);rw[hput];rfl,rF.new (ga:=Gr.a ⟨ck,wt,gn,ms2,some ⟨g,0,none⟩,mC2,os.take k++[(⟨part,at_⟩:lr)]++os.drop k,A9,c9⟩) ⟨rfl,d7.own row,ho9,hmc2,hc9,hpc2,H.forget (.cons _ (.cons _ (.cons _ (au _)))) (fun f hf=>by simp only[av,ap];grind)⟩ (by dsimp only;omega) (by dsimp only;rw[<-hput];have:=nE os part at_;omega) (iW hma hmo)⟩
 refine G (Yb Z)<|ZN<|ZN<|ZN<|ZN<|ZN<|ZN<|ZN<|ZN<|G (N Z Z)<|U<|ZF Z<|Zx<|W<|W ?_
 have hkl:l6 os part=k:=z9 (fun x hx=>by simpa using hwh x hx) (fun x hx=>absurd (cy hx).1 I) hk
 refine Zr<|G (Yi Z)<|G (Zf d4 Z)<|G (Zd eG H 1 Z Z Z)<|G (bh iu Z) ?_
 refine du (cO Z Z) Z Z Z (fun h68=> ?_) (fun h68=> ?_)
 obtain⟨g2,cur2,rfl,rfl,row2⟩:=hoo2.row I
 obtain⟨o,ho⟩: ∃ o,os[k]? =some o:=⟨_,aj I⟩
 refine G (Yb Z)<|ZG<|G (Zf d4 Z)<|ZG<|G (Zd eG H 1 Z Z Z)<|ZG<|G (Yi Z)<|ZG<|G (cR dd Z Z (by first|omega|(simp only[ae];omega)))<|ZG<|G (Zf jC Z)<|ZG<|G (bU am row2 ho 0 Z (H.ent (i:=3) Z) Z)<|ZG<|G (Yi Z)<|ZG ?_
 refine du (bv Z Z) Z Z Z (fun h77=> ?_) (fun h77=> ?_)
 refine G (Kt Z Z)<|U<|ZT Z ?_
 have hput:fO os part at_=os.set k {o with at_:=at_}:=by unfold fO;rw[hkl,ho];rw[if_pos (show Option.map lr.part (some o)=some part from congrArg some h77)];subst h77;rfl
 refine Zr<|G (Zf d4 Z)<|G (Zd eG H 1 Z Z Z)<|G (Yi Z)<|G (Yi Z)<|G (cR dd Z Z (by first|omega|(simp only[ae];omega)))<|G (Zf oR Z)<|ni H 3 ({o with at_:=at_}) bQ row2 ho 1 Z Z Z Z Z Z N fun w20 cur19 row19 H=> ?_
 have hs21:(os.set k ({o with at_:=at_}))[k]? =some ({o with at_:=at_}):=al (cy ho).1
 refine U<|W<|Zr<|G (Zw aO H 1 Z Z Z)<|bA H 0 (#[J (ck),J (wt),J (gn),.slice (Qd g) ms2.length mC2,.slice (Qd g2) os.length oC2]) bz Z Z Z Z Z N N fun w22 H=>G (Wi Z)<|U<|Zt ?_
 exact ch (cs0:= #[J (ck),J (wt),J (gn),.slice (Qd g) ms2.length mC2,.slice (Qd g2) os.length oC2]) (v1:=J 0) Z aO Z (H.ent (i:=0) Z) Z Z ⟨⟨ck,wt,gn,ms2,some ⟨g,0,none⟩,mC2,os.set k {o with at_:=at_},some ⟨g2,0,none⟩,oC2⟩,by unfold Gr.v Gr.c;dsimp only;rw[ae],by unfold Gr.a;dsimp only;rw[hma];show _=({Gr.a ⟨ck,wt,gn,ms,mA,mC,os,oA,oC⟩with os:=fO os part at_}:Gr);rw[hput];rfl,rF.new (ga:=Gr.a ⟨ck,wt,gn,ms2,some ⟨g,0,none⟩,mC2,os.set k {o with at_:=at_},some ⟨g2,0,none⟩,oC2⟩) ⟨rfl,d7.own row,by dsimp only;rw[ae];have hO:=d7.own (g:=g2) (e:=eg) row19;rw[ae]at hO;exact hO,hmc2,by dsimp only;rw[ae];exact hoc2,hpc2,H.forget (.cons _ (.cons _ (au _))) (fun f hf=>by simp only[av,ap];grind)⟩ (by dsimp only;omega) (by dsimp only;rw[<-hput];have:=nE os part at_;omega) (iW hma hmo)⟩
 refine G (Kt Z Z)<|U<|ZF Z ?_
 have hput:fO os part at_=os.take k++[⟨part,at_⟩]++os.drop k:=by unfold fO;rw[hkl];rw[if_neg (by rw[ho];intro hx;exact h77 (aY hx))]
 refine Zr<|G (Zf d4 Z)<|G (Zd eG H 1 Z Z Z)<|G (Yi Z)<|G (Yi Z)<|G (Yi Z)<|G (bC (cs:= #[J (part),J (at_)]) u5 lv N)<|uO (vs:=[.agg #[J (part),J (at_)]]) H dd lv Z Z Z Z Z Z fun w23 b91 H=>cu fd (jH (K:=[(b10,.cells #[J (0),J (0),J (0),.slice none 0 0,.slice none 0 0] cK (0,0)),(b5,.cells #[J (ck),J (wt),J (gn),.slice (Qd g) ms2.length mC2,.slice (Qd g2) os.length oC2] cK (0,0)),(g,.cells cur dh (0,0))]) (Lt:=[(g2,.cells cur2 eg (0,0))]) (M:=[]) (x:=⟨part,at_⟩) (i:=k) (by rw[aZ];exact H) hoo2 I I) Z Z ?_
 rintro _ w24 ⟨A9,c9,L9,rfl,ho9,HI⟩
 replace H:Hp w w24 ([(b91,.cells #[J (part),J (at_)] eg (0,0)),(b10,.cells #[J (0),J (0),J (0),.slice none 0 0,.slice none 0 0] cK (0,0)),(b5,.cells #[J (ck),J (wt),J (gn),.slice (Qd g) ms2.length mC2,.slice (Qd g2) os.length oC2] cK (0,0)),(g,.cells cur dh (0,0))]++L9) ([ey j0 0 w.heap.size mA ms,Je 0 w.heap.size ms,ey gi 0 w.heap.size oA os]++ms2.map nH):=by rw[aZ]at HI;exact HI
 clear HI
 have hc9:(os.take k++[(⟨part,at_⟩:lr)]++os.drop k).length<=c9:=by obtain⟨_,_,e,h,_⟩:=ho9.form;injection e with _ _ e;rw[e];exact h
 refine G (Zf d4 Z)<|bA H 2 (#[J (ck),J (wt),J (gn),.slice (Qd g) ms2.length mC2,.slice A9 ((os.take k++[(⟨part,at_⟩:lr)]++os.drop k).length) c9]) ov Z Z Z Z Z N N fun w25 H=>U<|W<|Zr<|G (Zw aO H 2 Z Z Z)<|bA H 1 (#[J (ck),J (wt),J (gn),.slice (Qd g) ms2.length mC2,.slice A9 ((os.take k++[(⟨part,at_⟩:lr)]++os.drop k).length) c9]) bz Z Z Z Z Z N N fun w26 H=>G (Wi Z)<|U<|Zt ?_
 exact ch (cs0:= #[J (ck),J (wt),J (gn),.slice (Qd g) ms2.length mC2,.slice A9 (((os.take k++[(⟨part,at_⟩:lr)]++os.drop k)).length) c9]) (v1:=J 0) Z aO Z (H.ent (i:=1) Z) Z Z ⟨⟨ck,wt,gn,ms2,some ⟨g,0,none⟩,mC2,os.take k++[(⟨part,at_⟩:lr)]++os.drop k,A9,c9⟩,rfl,by unfold Gr.a;dsimp only;rw[hma];show _=({Gr.a ⟨ck,wt,gn,ms,mA,mC,os,oA,oC⟩with os:=fO os part at_}:Gr);rw[hput];rfl,rF.new (ga:=Gr.a ⟨ck,wt,gn,ms2,some ⟨g,0,none⟩,mC2,os.take k++[(⟨part,at_⟩:lr)]++os.drop k,A9,c9⟩) ⟨rfl,d7.own row,ho9,hmc2,hc9,hpc2,H.forget (.cons _ (.cons _ (.cons _ (au _)))) (fun f hf=>by simp only[av,ap];grind)⟩ (by dsimp only;omega) (by dsimp only;rw[<-hput];have:=nE os part at_;omega) (iW hma hmo)⟩
 refine G (Yb Z)<|ZN<|ZN<|ZN<|ZN<|ZN<|ZN<|ZN<|ZN<|G (N Z Z)<|U<|ZF Z ?_
 have hput:fO os part at_=os.take k++[⟨part,at_⟩]++os.drop k:=by unfold fO;rw[hkl];rw[if_neg (by rw[bX I];simp)]
 refine Zr<|G (Zf d4 Z)<|G (Zd eG H 1 Z Z Z)<|G (Yi Z)<|G (Yi Z)<|G (Yi Z)<|G (bC (cs:= #[J (part),J (at_)]) u5 lv N)<|uO (vs:=[.agg #[J (part),J (at_)]]) H dd lv Z Z Z Z Z Z fun w27 b91 H=>cu fd (jH (K:=[(b10,.cells #[J (0),J (0),J (0),.slice none 0 0,.slice none 0 0] cK (0,0)),(b5,.cells #[J (ck),J (wt),J (gn),.slice (Qd g) ms2.length mC2,.slice oA2 os.length oC2] cK (0,0)),(g,.cells cur dh (0,0))]) (Lt:=Lo) (M:=[]) (x:=⟨part,at_⟩) (i:=k) (by rw[aZ];exact H) hoo2 I I) Z Z ?_
 rintro _ w28 ⟨A9,c9,L9,rfl,ho9,HI⟩
 replace H:Hp w w28 ([(b91,.cells #[J (part),J (at_)] eg (0,0)),(b10,.cells #[J (0),J (0),J (0),.slice none 0 0,.slice none 0 0] cK (0,0)),(b5,.cells #[J (ck),J (wt),J (gn),.slice (Qd g) ms2.length mC2,.slice oA2 os.length oC2] cK (0,0)),(g,.cells cur dh (0,0))]++L9) ([ey j0 0 w.heap.size mA ms,Je 0 w.heap.size ms,ey gi 0 w.heap.size oA os]++ms2.map nH):=by rw[aZ]at HI;exact HI
 clear HI
 have hc9:(os.take k++[(⟨part,at_⟩:lr)]++os.drop k).length<=c9:=by obtain⟨_,_,e,h,_⟩:=ho9.form;injection e with _ _ e;rw[e];exact h
 refine G (Zf d4 Z)<|bA H 2 (#[J (ck),J (wt),J (gn),.slice (Qd g) ms2.length mC2,.slice A9 ((os.take k++[(⟨part,at_⟩:lr)]++os.drop k).length) c9]) ov Z Z Z Z Z N N fun w29 H=>U<|W<|Zr<|G (Zw aO H 2 Z Z Z)<|bA H 1 (#[J (ck),J (wt),J (gn),.slice (Qd g) ms2.length mC2,.slice A9 ((os.take k++[(⟨part,at_⟩:lr)]++os.drop k).length) c9]) bz Z Z Z Z Z N N fun w30 H=>G (Wi Z)<|U<|Zt ?_
 exact ch (cs0:= #[J (ck),J (wt),J (gn),.slice (Qd g) ms2.length mC2,.slice A9 (((os.take k++[(⟨part,at_⟩:lr)]++os.drop k)).length) c9]) (v1:=J 0) Z aO Z (H.ent (i:=1) Z) Z Z ⟨⟨ck,wt,gn,ms2,some ⟨g,0,none⟩,mC2,os.take k++[(⟨part,at_⟩:lr)]++os.drop k,A9,c9⟩,rfl,by unfold Gr.a;dsimp only;rw[hma];show _=({Gr.a ⟨ck,wt,gn,ms,mA,mC,os,oA,oC⟩with os:=fO os part at_}:Gr);rw[hput];rfl,rF.new (ga:=Gr.a ⟨ck,wt,gn,ms2,some ⟨g,0,none⟩,mC2,os.take k++[(⟨part,at_⟩:lr)]++os.drop k,A9,c9⟩) ⟨rfl,d7.own row,ho9,hmc2,hc9,hpc2,H.forget (.cons _ (.cons _ (.cons _ (au _)))) (fun f hf=>by simp only[av,ap];grind)⟩ (by dsimp only;omega) (by dsimp only;rw[<-hput];have:=nE os part at_;omega) (iW hma hmo)⟩
theorem u7 {α:Type} {l:List α} {k:Nat} {a:α} (h:l[k]? =some a):l.set k a=l:=by
 apply dZ
 intro i
 rw[lI]
 split
 rename_i hi
 subst hi
 split
 exact h.symm
 rename_i hl
 rw[bX I]at h;cases h
 rfl
def jv (g:Gr) (s:ByteArray):Option (Nat×Mem):=(g.ms.findIdx? fun p=>decide (p.name=s)).bind fun i=>g.ms[i]?.map fun t=>(i,t)
theorem nU {g:Gr} {s:ByteArray} (h:jv g s=none):qx g s= -1:=by
 unfold jv at h
 unfold qx
 cases hi:g.ms.findIdx? fun p=>decide (p.name=s)with
 |none=>rfl
 |some i=>
  obtain⟨hl,-⟩:=aP.1 hi
  rw[hi]at h
  simp[aj hl]at h
theorem nT {g:Gr} {s:ByteArray} {i:Nat} {t:Mem} (h:jv g s=some (i,t)):qx g s=i/\g.ms[i]? =some t/\t.name=s:=by
 unfold jv at h
 unfold qx
 cases hi:g.ms.findIdx? fun p=>decide (p.name=s)with
 |none=>rw[hi]at h;cases h
 |some j=>
  obtain⟨hl,hn,-⟩:=aP.1 hi
  rw[hi]at h
  simp only[fB,aj hl,eQ,lH,Prod.mk.injEq]at h
  obtain⟨rfl,rfl⟩:=h
  exact⟨rfl,aj hl,by simpa using hn⟩
theorem IW (g:Gr) (s:ByteArray):jv g.a s=(jv g s).map fun(i,t)=>(i,t.a):=by
 have e:g.a.ms.findIdx? (fun p=>decide (p.name=s))=g.ms.findIdx? fun p=>decide (p.name=s):=by
  show(g.ms.map Mem.a).findIdx? _=_
  rw[DK]
  rfl
 unfold jv
 rw[e]
 cases g.ms.findIdx? fun p=>decide (p.name=s)with
 |none=>rfl
 |some i=>
  show(g.ms.map Mem.a)[i]?.map _=(g.ms[i]?.map _).map _
  rw[aI]
  cases g.ms[i]? <;>rfl
theorem MJ {g:Gr} {s:ByteArray} (h: ∀ t∈g.ms,t.name≠s):jv g s=none:=by
 unfold jv
 rw[cL.2 fun t ht=>decide_eq_false (h t ht)]
 rfl
theorem Mf {g:Gr} {s:ByteArray} (h:jv g s=none): ∀ t∈g.ms,t.name≠s:=by
 have:=nU h
 unfold qx at this
 cases hi:g.ms.findIdx? fun p=>decide (p.name=s)with
 |none=>rw[cL]at hi;intro t ht;simpa using hi t ht
 |some i=>rw[hi]at this;simp[lO]at this
def ro (g:Gr) (s:ByteArray) (p:Nat):Gr×Int:=match jv g s with
 |some _=>(BZ,6)
 |none=>if g.ms.length=6 then(BZ,16)else(EW {g with ms:=g.ms++[zu s g.clock]} p,0)
def xN (g:Gr) (s:ByteArray) (gn:Int):Gr×Int:=match jv g s with
 |none=>(BZ,5)
 |some (i,t)=>if g.gen=gn then(M7 g i t,0)else(BZ,10)
def qm (g:Gr) (s:ByteArray) (gn part at_:Int):Gr×Int:=match jv g s with
 |none=>(BZ,5)
 |some (_,t)=>if g.gen=gn then if 400<at_ then(BZ,2)else if part∈t.parts then({g with os:=fO g.os part at_},0)else(BZ,12)else(BZ,10)
def ez (g:Gr) (s:ByteArray) (part:Int):Int×Int:=match jv g s with
 |none=>(0,5)
 |some (_,t)=>if part∈t.parts then(qk g.os part,0)else(0,12)
theorem Nc (l:List Mem):lu (l.map Mem.a)↔lu l:=by
 unfold lu
 rw[tg]
theorem Ev (g:Gr):lP g.a=true↔lP g=true:=by
 rw[dC,dC]
 show(_/\_/\_/\_/\((g.ms.map Mem.a).length:Int)<=6/\_)/\((∀ m∈g.ms.map Mem.a,vG g.clock m=true)/\lu (g.ms.map Mem.a))/\_/\_↔_
 rw[bc,Nc]
 have:(∀ m∈g.ms.map Mem.a,vG g.clock m=true)↔ ∀ m∈g.ms,vG g.clock m=true:=by
  constructor
  intro h m hm;exact h m.a (bF hm)
  intro h m hm
  obtain⟨x,hx,rfl⟩:=bD.1 hm
  exact h x hx
 rw[this]
 exact Iff.rfl
structure rH (P:ByteArray->Prop) (wt:Int) (p k:Nat) (g:Gr):Prop where
 ok:lP g=true
 clock:g.clock<=1000*k
 gen:g.gen<=k
 wait:g.wait=wt
 names: ∀ m∈g.ms,P m.name
 asg:g.ms.map Mem.parts=gF (g.ms.map Mem.name) p
theorem rH.more {P:ByteArray->Prop} {wt:Int} {p k m:Nat} {g:Gr} (h:rH P wt p k g) (hm:k<=m):rH P wt p m g:=⟨h.ok,by have:=h.clock;omega,by have:=h.gen;omega,h.wait,h.names,h.asg⟩
theorem y6 (l:List Mem):(l.map Mem.a).map Mem.parts=l.map Mem.parts:=by rw[pM];rfl
theorem rH.a_iff {P:ByteArray->Prop} {wt:Int} {p k:Nat} {g:Gr}:rH P wt p k g.a↔rH P wt p k g:=by
 constructor
 rintro⟨h1,h2,h3,h4,h5,h6⟩
 refine⟨(Ev g).1 h1,h2,h3,h4,fun m hm=>h5 m.a (bF hm),?_⟩
 have h6:(g.ms.map Mem.a).map Mem.parts=gF ((g.ms.map Mem.a).map Mem.name) p:=h6
 rw[tg,y6]at h6
 exact h6
 rintro⟨h1,h2,h3,h4,h5,h6⟩
 refine⟨(Ev g).2 h1,h2,h3,h4,fun m hm=> ?_,?_⟩
 obtain⟨x,hx,rfl⟩:=bD.1 (show m∈g.ms.map Mem.a from hm)
 exact h5 x hx
 show(g.ms.map Mem.a).map Mem.parts=gF ((g.ms.map Mem.a).map Mem.name) p
 rw[tg,y6]
 exact h6
theorem rH.a {P:ByteArray->Prop} {wt:Int} {p k:Nat} {g:Gr} (h:rH P wt p k g):rH P wt p k g.a:=rH.a_iff.2 h
theorem rH.of_a {P:ByteArray->Prop} {wt:Int} {p k:Nat} {g:Gr} (h:rH P wt p k g.a):rH P wt p k g:=rH.a_iff.1 h
theorem wl: ∀ (l:List Int) (a:Int),l.Pairwise (· < ·)->(∀ q∈l,a<q/\q<4)->cW a l=true
 |[],_,_,_=>rfl
 |x::l,a,hp,hq=>by
  obtain⟨h1,h2⟩:=eD.1 hp
  unfold cW
  have:=hq x (az ..)
  rw[wl l x h2 fun q hq'=>⟨h1 q hq',(hq q (ai _ hq')).2⟩]
  simp[this.1,this.2]
theorem Jm (n:Nat):(rJ n).Pairwise (· < ·):=by
 unfold rJ
 rw[jD]
 exact List.pairwise_lt_range.imp fun h=>by omega
theorem Hc {names:List ByteArray} {p i:Nat} (hp:p<=4):cW (-1) (mN names p i)=true:=by
 refine wl _ _ ((Jm p).filter _) fun q hq=> ?_
 obtain⟨j,hj,rfl⟩:=wT.1 (lj.1 hq).1
 omega
theorem DC (ms:List Mem) (p:Nat):(n7 ms p).map Mem.name=ms.map Mem.name:=by
 unfold n7
 rw[List.map_zipWith]
 refine dZ fun i=> ?_
 rw[qN,aI]
 unfold gF
 rw[aI,bc]
 cases h:ms[i]? with
 |none=>rfl
 |some m=>
  have:=(cy h).1
  rw[sU this]
  rfl
theorem GA (ms:List Mem) (p:Nat):(n7 ms p).map Mem.parts=gF (ms.map Mem.name) p:=by
 unfold n7
 rw[List.map_zipWith]
 refine dZ fun i=> ?_
 rw[qN]
 cases h:ms[i]? with
 |none=>
  have:ms.length<=i:=by simpa using h
  rw[bX (by rw[oZ,bc];exact this)]
 |some m=>
  have:=(cy h).1
  have hl:i<(gF (ms.map Mem.name) p).length:=by rw[oZ,bc];exact this
  rw[aj hl]
theorem BM {ms:List Mem} {p:Nat} {m:Mem} (h:m∈n7 ms p): ∃ x∈ms,m.name=x.name/\m.heard=x.heard:=by
 obtain⟨i,hi⟩:=aN.1 h
 unfold n7 at hi
 rw[qN]at hi
 split at hi
 rename_i x l hx hl
 injection hi with hi
 exact⟨x,ab hx,by rw[<-hi],by rw[<-hi]⟩
 cases hi
theorem Na {P:ByteArray->Prop} {wt:Int} {p k:Nat} {g:Gr} (hp:p<=4) (hk:k<=100000) (hc:0<=g.clock/\g.clock<=1000*(k+1)) (hw:g.wait=wt) (hw1:1<=g.wait/\g.wait<=1000) (hg:0<=g.gen/\g.gen<=k) (hl:(g.ms.length:Int)<=6) (hol:(g.os.length:Int)<=4) (hm: ∀ m∈g.ms,bu m.name=true/\P m.name/\0<=m.heard/\m.heard<=g.clock) (ha:lu g.ms) (ho:(∀ o∈g.os,0<=o.part/\o.part<4/\0<=o.at_/\o.at_<=400)/\g.os.Pairwise (fun a b=>a.part<b.part)):rH P wt p (k+1) (EW g p):=by
 refine⟨dC.2 ⟨⟨⟨hc.1,by show g.clock<=_;omega⟩,hw1.1,hw1.2,⟨by show 0<=g.gen+1;omega,by show g.gen+1<=_;omega⟩,by show((n7 g.ms p).length:Int)<=6;rw[BL];exact hl,hol⟩,⟨fun m hm2=> ?_,?_⟩,ho⟩,by show g.clock<=_;omega,by show g.gen+1<=_;omega,hw,fun m hm2=> ?_,?_⟩
 obtain⟨x,hx,e1,e2⟩:=BM hm2
 obtain⟨i,hi⟩:=BK hm2
 obtain⟨a1,a2,a3,a4⟩:=hm x hx
 exact jV.2 ⟨by rw[e1];exact a1,by rw[e2];exact a3,by rw[e2];exact a4,by rw[hi];exact Hc hp⟩
 unfold lu
 show((n7 g.ms p).map _).Pairwise _
 rw[DC];exact ha
 obtain⟨x,hx,e1,-⟩:=BM hm2
 rw[e1];exact(hm x hx).2.1
 show(n7 g.ms p).map _=gF ((n7 g.ms p).map _) p
 rw[DC,GA]
theorem rH.mems {P:ByteArray->Prop} {wt:Int} {p k:Nat} {g:Gr} (h:rH P wt p k g): ∀ m∈g.ms,bu m.name=true/\P m.name/\0<=m.heard/\m.heard<=g.clock:=fun m hm=>by
 obtain⟨-,⟨h2,-⟩,-⟩:=dC.1 h.ok
 obtain⟨a1,a2,a3,-⟩:=jV.1 (h2 m hm)
 exact⟨a1,h.names m hm,a2,a3⟩
theorem rH.join {P:ByteArray->Prop} {wt:Int} {p k:Nat} {g:Gr} {s:ByteArray} (h:rH P wt p k g) (hp:p<=4) (hk:k<=100000) (hn:bu s=true) (hs:P s) (he:(ro g s p).2=0):rH P wt p (k+1) (ro g s p).1:=by
 obtain⟨⟨h1,h2,h3,h4,h5,h6⟩,⟨h7,h8⟩,h9⟩:=dC.1 h.ok
 unfold ro at he⊢
 cases hf:jv g s with
 |some x=>rw[hf]at he;cases he
 |none=>
  rw[hf]at he
  dsimp only at he⊢
  by_cases hl:g.ms.length=6
  rw[if_pos hl]at he;cases he
  rw[if_neg hl]
  have hno:=Mf hf
  have hck:=h.clock
  refine Na hp hk ⟨h1.1,by show g.clock<=_;omega⟩ h.wait ⟨h2,h3⟩ ⟨h4.1,h.gen⟩ ?_ h6 (fun m hm=> ?_) ?_ h9
  show((g.ms++[_]).length:Int)<=6
  rw[ay,cH];omega
  rcases ap.1 hm with hm|hm
  exact h.mems m hm
  rw[ar.1 hm]
  exact⟨hn,hs,h1.1,fl _⟩
  unfold lu at h8⊢
  show((g.ms++[zu s g.clock]).map _).Pairwise _
  rw[bk,ml]
  refine⟨h8,by simp,fun a ha b hb=> ?_⟩
  obtain⟨t,ht,rfl⟩:=bD.1 ha
  simp only[eU,pL,ar]at hb
  subst hb
  exact hno t ht
theorem Ib {l:List Mem} {i:Nat} {t t':Mem} (h:lu l) (hi:l[i]? =some t) (hn:t'.name=t.name):lu (l.set i t'):=by
 unfold lu at h⊢
 rw[cU,hn,u7 (by rw[aI,hi];rfl)]
 exact h
theorem rH.beat {P:ByteArray->Prop} {wt:Int} {p k:Nat} {g:Gr} {s:ByteArray} {gn:Int} (h:rH P wt p k g) (he:(xN g s gn).2=0):rH P wt p (k+1) (xN g s gn).1:=by
 obtain⟨⟨h1,h2,h3,h4,h5,h6⟩,⟨h7,h8⟩,h9⟩:=dC.1 h.ok
 unfold xN at he⊢
 cases hf:jv g s with
 |none=>rw[hf]at he;cases he
 |some x=>
  obtain⟨i,t⟩:=x
  rw[hf]at he
  dsimp only at he⊢
  obtain⟨-,ht,-⟩:=nT hf
  have hm:=ab ht
  have hck:=h.clock
  have hgn:=h.gen
  by_cases hg:g.gen=gn
  rw[if_pos hg]
  refine⟨dC.2 ⟨⟨h1,h2,h3,h4,?_,h6⟩,⟨fun m hm2=> ?_,Ib h8 ht Z⟩,h9⟩,?_,?_,h.wait,fun m hm2=> ?_,?_⟩
  show((g.ms.set i _).length:Int)<=6
  rw[ae];exact h5
  rcases aA hm2 with hm2|rfl
  exact h7 m hm2
  have:=jV.1 (h7 t hm)
  exact jV.2 ⟨this.1,h1.1,fl _,this.2.2.2⟩
  show g.clock<=_;omega
  show g.gen<=_;omega
  rcases aA hm2 with hm2|rfl
  exact h.names m hm2
  exact h.names t hm
  show(g.ms.set i _).map _=gF ((g.ms.set i _).map _) p
  rw[cU,cU]
  rw[u7 (by rw[aI,ht];rfl),u7 (by rw[aI,ht];rfl)]
  exact h.asg
  rw[if_neg hg]at he;cases he
theorem Hg {os:List lr} {part:Int}: ∀ o∈os.take (l6 os part),o.part<part:=by
 unfold l6
 intro o ho
 rw[<-List.prefix_iff_eq_take.1 (List.takeWhile_prefix _)]at ho
 have:=ej.1 (List.all_takeWhile (p:=fun o:lr=>decide (o.part<part)) (l:=os)) o ho
 simpa using this
theorem AB {os:List lr} {part:Int} (h:os.Pairwise (fun a b=>a.part<b.part)): ∀ o∈os.drop (l6 os part),part<=o.part:=by
 induction os with
 |nil=>intro o ho;simp at ho
 |cons x l ih=>
  obtain⟨h1,h2⟩:=eD.1 h
  intro o ho
  by_cases hx:x.part<part
  have e:l6 (x::l) part=l6 l part+1:=by unfold l6;rw[List.takeWhile_cons_of_pos (by simpa using hx)];rfl
  rw[e,z0]at ho
  exact ih h2 o ho
  have e:l6 (x::l) part=0:=by unfold l6;rw[List.takeWhile_cons_of_neg (by simpa using hx)];rfl
  rw[e,mn]at ho
  rcases av.1 ho with rfl|ho
  omega
  have:=h1 o ho;omega
theorem L7 {os:List lr} (h:os.Pairwise (fun a b=>a.part<b.part)) (hb: ∀ o∈os,0<=o.part/\o.part<4):(os.length:Int)<=4:=by
 have h1:cW (-1) (os.map lr.part)=true:=wl _ _ (jD.2 h) fun q hq=>by
  obtain⟨o,ho,rfl⟩:=bD.1 hq
  have:=hb o ho;omega
 have:=mM h1
 rw[bc]at this
 omega
theorem JD {os:List lr} {part at_:Int} (h0:0<=part) (h3:part<4) (ha0:0<=at_) (ha:at_<=400) (ho:(∀ o∈os,0<=o.part/\o.part<4/\0<=o.at_/\o.at_<=400)/\os.Pairwise (fun a b=>a.part<b.part)):((∀ o∈fO os part at_,0<=o.part/\o.part<4/\0<=o.at_/\o.at_<=400)/\(fO os part at_).Pairwise (fun a b=>a.part<b.part)):=by
 obtain⟨h1,h2⟩:=ho
 unfold fO
 split
 rename_i hp
 obtain⟨o,hx,hxp⟩:=iY.1 hp
 refine⟨fun y hy=> ?_,?_⟩
 rcases aA hy with hy|rfl
 exact h1 y hy
 exact⟨h0,h3,ha0,ha⟩
 have:(os.set (l6 os part) ⟨part,at_⟩).map lr.part=os.map lr.part:=by
  rw[cU,u7 (by rw[aI,hx];show some o.part=some part;rw[hxp])]
 rw[<-jD (f:=lr.part) (R:=fun a b:Int=>a<b),this,jD]
 exact h2
 rename_i hp
 refine⟨fun y hy=> ?_,?_⟩
 simp only[ap,ar]at hy
 rcases hy with(hy|rfl)|hy
 exact h1 y (zo hy)
 exact⟨h0,h3,ha0,ha⟩
 exact h1 y (List.mem_of_mem_drop hy)
 have hd: ∀ o∈os.drop (l6 os part),part<o.part:=fun o ho=>by
  have h4:=AB h2 o ho
  rcases Int.lt_or_eq_of_le h4 with h5|h5
  exact h5
  exfalso
  obtain⟨j,hj⟩:=aN.1 ho
  cases hd:os.drop (l6 os part)with
  |nil=>rw[hd]at hj;simp at hj
  |cons y l=>
   have hy:os[l6 os part]? =some y:=by
    have:=congrArg (fun l=>l[0]?) hd
    simpa [dk]using this
   have hyp:y.part≠part:=fun h=>hp (by rw[hy];exact congrArg some h)
   have hy1:=AB h2 y (by rw[hd];exact az ..)
   have hpw:(y::l).Pairwise (fun a b=>a.part<b.part):=hd▸h2.sublist (List.drop_sublist _ _)
   rw[hd]at ho
   rcases av.1 ho with rfl|ho
   exact hyp h5.symm
   have:=(eD.1 hpw).1 o ho;omega
 rw[aB,ml]
 refine⟨h2.sublist (List.take_sublist _ _),?_,fun a ha b hb=> ?_⟩
 show(_::os.drop (l6 os part)).Pairwise _
 exact eD.2 ⟨hd,h2.sublist (List.drop_sublist _ _)⟩
 have h5:=Hg a ha
 rcases ap.1 hb with hb|hb
 rw[ar.1 hb];exact h5
 have:=hd b hb;omega
theorem rH.store {P:ByteArray->Prop} {wt:Int} {p k:Nat} {g:Gr} {s:ByteArray} {gn part at_:Int} (h:rH P wt p k g) (ha0:0<=at_) (he:(qm g s gn part at_).2=0):rH P wt p (k+1) (qm g s gn part at_).1:=by
 obtain⟨⟨h1,h2,h3,h4,h5,h6⟩,⟨h7,h8⟩,h9⟩:=dC.1 h.ok
 unfold qm at he⊢
 cases hf:jv g s with
 |none=>rw[hf]at he;cases he
 |some x=>
  obtain⟨i,t⟩:=x
  rw[hf]at he
  dsimp only at he⊢
  obtain⟨-,ht,-⟩:=nT hf
  have hm:=ab ht
  have hck:=h.clock
  have hgn:=h.gen
  by_cases hg:g.gen=gn
  rw[if_pos hg]at he⊢
  by_cases hat:400<at_
  rw[if_pos hat]at he;cases he
  rw[if_neg hat]at he⊢
  by_cases hpt:part∈t.parts
  rw[if_pos hpt]
  have hp4:=(fV (jV.1 (h7 t hm)).2.2.2).2 part hpt
  have ho:=JD I hp4.2 ha0 I h9
  exact⟨dC.2 ⟨⟨h1,h2,h3,h4,h5,L7 ho.2 fun o hx=>⟨(ho.1 o hx).1,(ho.1 o hx).2.1⟩⟩,⟨h7,h8⟩,ho⟩,by show g.clock<=_;omega,by show g.gen<=_;omega,h.wait,h.names,h.asg⟩
  rw[if_neg hpt]at he;cases he
  rw[if_neg hg]at he;cases he
theorem rH.tick {P:ByteArray->Prop} {wt:Int} {p k:Nat} {g:Gr} {n:Int} (h:rH P wt p k g) (hp:p<=4) (hk:k<=100000) (hn0:0<=n) (hn:n<=1000):rH P wt p (k+1) (ql g n p):=by
 obtain⟨⟨h1,h2,h3,h4,h5,h6⟩,⟨h7,h8⟩,h9⟩:=dC.1 h.ok
 have hck:=h.clock
 have hgn:=h.gen
 unfold ql
 by_cases hl:(g.ms.filter fun m=>!uo g n m).length=g.ms.length
 rw[if_pos hl]
 refine⟨dC.2 ⟨⟨⟨by show 0<=g.clock+n;omega,by show g.clock+n<=_;omega⟩,h2,h3,h4,h5,h6⟩,⟨fun m hm=> ?_,h8⟩,h9⟩,by show g.clock+n<=_;omega,by show g.gen<=_;omega,h.wait,h.names,h.asg⟩
 obtain⟨a1,a2,a3,a4⟩:=jV.1 (h7 m hm)
 exact jV.2 ⟨a1,a2,by show m.heard<=g.clock+n;omega,a4⟩
 rw[if_neg hl]
 have hsub:(g.ms.filter fun m=>!uo g n m).Sublist g.ms:=List.filter_sublist
 refine Na hp hk ⟨by show 0<=g.clock+n;omega,by show g.clock+n<=_;omega⟩ h.wait ⟨h2,h3⟩ ⟨h4.1,h.gen⟩ ?_ h6 (fun m hm=> ?_) ?_ h9
 have:=hsub.length_le
 show((g.ms.filter fun m=>!uo g n m).length:Int)<=6
 omega
 obtain⟨a1,a2,a3,a4⟩:=h.mems m (hsub.subset hm)
 exact⟨a1,a2,a3,by show m.heard<=g.clock+n;omega⟩
 unfold lu at h8⊢
 exact h8.sublist (hsub.map _)
theorem rq {g:Gr} {s:ByteArray} {i:Nat} {t:Mem} (h:jv g s=some (i,t)):jv g.a s=some (i,t.a):=by rw[IW,h];rfl
theorem rt {g:Gr} {s:ByteArray} (h:jv g s=none):jv g.a s=none:=by rw[IW,h];rfl
abbrev DL (f:FuncId) (args:List Value) (w:World) (x:Gr×Int):Prop:=dt aa f args w fun v w2=> ∃ g':Gr,v=.tuple #[g'.v,J x.2]/\g'.a=x.1/\zl w w2 g'
theorem J1 (g:Gr) (s:ByteArray) (p:Nat) (w:World) (h:g.rd 0 w.heap.size w) (hok:lP g=true) (hn:bu s=true) (hp:p<=4) (hg1:g.gen<1073741824):DL p5 [g.v,.string s,J (p:Nat)] w (ro g.a s p):=by
 unfold DL ro
 cases hf:jv g s with
 |none=>
  rw[rt hf]
  dsimp only
  by_cases hl:g.ms.length=6
  rw[if_pos (show g.a.ms.length=6 by simpa [Gr.a]using hl)]
  exact(J0 g s p w h hok hn hp hg1 (nU hf) hl).mono fun v w2 ⟨h1,h2⟩=>⟨BZ,h1,rfl,re h2⟩
  rw[if_neg (show¬ g.a.ms.length=6 by simpa [Gr.a]using hl)]
  exact Oo g s p w h hok hn hp hg1 (nU hf) hl
 |some x=>
  obtain⟨i,t⟩:=x
  rw[rq hf]
  exact(Hu g s p w h hok hn hp hg1 i (nT hf).1).mono fun v w2 ⟨h1,h2⟩=>⟨BZ,h1,rfl,re h2⟩
theorem Kv (g:Gr) (s:ByteArray) (gn:Int) (w:World) (h:g.rd 0 w.heap.size w) (hok:lP g=true) (hn:bu s=true):DL p6 [g.v,.string s,J gn] w (xN g.a s gn):=by
 unfold DL xN
 cases hf:jv g s with
 |none=>
  rw[rt hf]
  exact(Ku g s gn w h hok hn (nU hf)).mono fun v w2 ⟨h1,h2⟩=>⟨BZ,h1,rfl,re h2⟩
 |some x=>
  obtain⟨i,t⟩:=x
  rw[rq hf]
  obtain⟨hi,ht,-⟩:=nT hf
  dsimp only
  by_cases hg:g.gen=gn
  rw[if_pos (show g.a.gen=gn from hg)]
  exact ON g s gn w h hok hn i t hi ht hg
  rw[if_neg (show¬ g.a.gen=gn from hg)]
  exact(HY g s gn w h hok hn i hi hg).mono fun v w2 ⟨h1,h2⟩=>⟨BZ,h1,rfl,re h2⟩
theorem GV (g:Gr) (s:ByteArray) (gn part at_:Int) (w:World) (h:g.rd 0 w.heap.size w) (hok:lP g=true) (hn:bu s=true) (ha:0<=at_):DL jX [g.v,.string s,J gn,J part,J at_] w (qm g.a s gn part at_):=by
 unfold DL qm
 cases hf:jv g s with
 |none=>
  rw[rt hf]
  exact(GU g s gn part at_ w h hok hn (nU hf)).mono fun v w2 ⟨h1,h2⟩=>⟨BZ,h1,rfl,re h2⟩
 |some x=>
  obtain⟨i,t⟩:=x
  rw[rq hf]
  obtain⟨hi,ht,-⟩:=nT hf
  dsimp only
  by_cases hg:g.gen=gn
  rw[if_pos (show g.a.gen=gn from hg)]
  by_cases hat:400<at_
  rw[if_pos hat]
  exact(Fa g s gn part at_ w h hok hn i hi hg hat).mono fun v w2 ⟨h1,h2⟩=>⟨BZ,h1,rfl,re h2⟩
  rw[if_neg hat]
  by_cases hp:part∈t.parts
  rw[if_pos (show part∈t.a.parts from hp)]
  exact Lc g s gn part at_ w h hok hn i t hi ht hg ha I hp
  rw[if_neg (show¬ part∈t.a.parts from hp)]
  exact(E9 g s gn part at_ w h hok hn i t hi ht hg ha I hp).mono fun v w2 ⟨h1,h2⟩=>⟨BZ,h1,rfl,re h2⟩
  rw[if_neg (show¬ g.a.gen=gn from hg)]
  exact(Fb g s gn part at_ w h hok hn i hi hg).mono fun v w2 ⟨h1,h2⟩=>⟨BZ,h1,rfl,re h2⟩
theorem s5 (g:Gr) (s:ByteArray) (part:Int) (w:World) (h:g.rd 0 w.heap.size w) (hok:lP g=true) (hn:bu s=true):dt aa od [g.v,.string s,J part] w fun v w2=>v=.tuple #[J (ez g.a s part).1,J (ez g.a s part).2]/\Below w.heap.size w w2:=by
 unfold ez
 cases hf:jv g s with
 |none=>
  rw[rt hf]
  exact GN g s part w h hok hn (nU hf)
 |some x=>
  obtain⟨i,t⟩:=x
  rw[rq hf]
  obtain⟨hi,ht,-⟩:=nT hf
  dsimp only
  by_cases hp:part∈t.parts
  rw[if_pos (show part∈t.a.parts from hp)]
  exact KX g s part w h hok hn i t hi ht hp
  rw[if_neg (show¬ part∈t.a.parts from hp)]
  exact E2 g s part w h hok hn i t hi ht hp
def Q6:Nw Gr:=⟨fun g=>g.rd,fun _ _ _ _ _ hk h=>h.st hk,fun _ _ _ _ _ _ h h1 h2=>h.mono h1 h2⟩
theorem Ob (P:ByteArray->Prop) {wt:Int} (p:Nat) (h1:1<=wt) (h2:wt<=1000):rH P wt p 0 ⟨0,wt,0,[],none,0,[],none,0⟩:=⟨dC.2 ⟨⟨⟨by simp,by simp⟩,h1,h2,⟨by simp,by simp⟩,by simp,by simp⟩,⟨by simp,by simp[lu]⟩,by simp,by simp⟩,by simp,by simp,rfl,by simp,by simp[gF]⟩
theorem rH.next {P:ByteArray->Prop} {wt:Int} {p k:Nat} {q:Gr} {r:Gr×Int} (h:r.2=0->rH P wt p (k+1) r.1) (ha:q.a=r.1):r.2=0->rH P wt p (k+1) q:=fun h0=>rH.of_a (ha▸h h0)
end Go.Proofs.YtclibalpdhhhfaaGreatDoor
