/- Part 5 of the proofs over this seat: what its theorems say holds for every input that they name. -/
import Derived.Test.YtclibalpdhhhfaaGreatCF4
namespace Go.Proofs.YtclibalpdhhhfaaGreat
open Go Go.Eng Go.RowKit
open Go.Eng renaming mD→U, ye→W, JK→Zr, Nz→Zk, PO→Zt, Pd→Zb, Pw→Zx, PX→Yi, PY→Yb, PV→Ys, PW→Yp, PU→Yt, PT→Yu, Qe→Wi, Qf→Wb, Qb→Ws, Qc→Wp, Qa→Wt, P1→Zf, P6→Xi, P8→Xa, P7→Xb, P3→Xs, PF→Kt, PG→N, n6→ZT, mP→ZF
open Go.Proofs.Tryz renaming prog→aa
open _root_.List renaming mem_of_getElem?→ae,getElem?_eq_getElem→ah,mem_cons_of_mem→ak,mem_singleton→aq,mem_append→ar,replicate→au,mem_cons→av,length_append→ay,mem_cons_self→aB,append_assoc→aD,length_take→aI,getElem?_map→aJ,sublist_cons_self→aX,append_nil→aY,map_append→bj,mem_nil_iff→bo,length_map→bw,mem_map→bz,mem_map_of_mem→bI,take_length→bL,length_singleton→bQ,mem_append_right→bX,sublist_append_right→ci,length→cu,mem_append_left→fU,perm_append_comm_assoc→fY,replicate_succ'→qY,nil_sublist→vJ,perm_append_comm→xC,mem_of_mem_take→yW,range→Bz
open _root_.List.Perm renaming cons→ai,swap→al
open _root_.Nat renaming le_refl→ao,le_trans→aS,min_eq_left→bv,zero_le→bD,zero_add→cI
open _root_.List.Sublist renaming refl→ap
open _root_.Option.some renaming inj→bx
set_option maxHeartbeats 4000000
set_option maxRecDepth 20000
set_option linter.unusedSimpArgs false
set_option linter.unusedVariables false
set_option linter.unusedSectionVars false
theorem xM (p:Pa) (w:World) (h:p.rd 0 w.heap.size w) (hok:p.a.ok):dd aa yL [p.v] w fun v w2=> ∃ p':Pa,v=p'.v/\p'.a=p.a/\eu w w2 p':=
 (z0 p w h hok).mono fun _ _ ⟨p',_,_,_,_,_,_,h1,h2,h3⟩=>⟨p',h1,h2,h3.new⟩
def OJ (wt:Int):Co:=⟨0,1,wt,[],none,0⟩
def NX (wt:Int):Gr:=⟨0,wt,0,[],none,0,[],none,0⟩
theorem OI (wt:Int) (lo hi:Nat) (w:World):(OJ wt).rd lo hi w:=⟨Rd.nil,by simp[OJ],by simp[OJ],by simp[OJ],by simp[OJ]⟩
theorem OA (wt:Int) (lo hi:Nat) (w:World):(NX wt).rd lo hi w:=⟨Rd.nil,by simp[NX],Rd.nil,by simp[NX],by simp[NX],by simp[NX],by simp[NX]⟩
structure QE (w00 w0 w:World) (b:Bk) (gP:Nat) (uP:Array Value) (F:List cr):Prop where
 pA:b.pA=some ⟨gP,0,none⟩
 row:dW Bv b.ps b.pC uP
 sns:b.sns=[]/\b.snA=none/\b.snC=0
 co:xz w00 b.clo b.chi b.co∈F
 gr:J1 w00 b.glo b.ghi b.gr∈F
 ps: ∀ q∈b.ps,tD w00 q.lo q.hi q.p∈F
 lo: ∀ f∈F,w0.heap.size<=f.lo
 H:Hp w0 w [(gP,.cells uP bC (0,0))] F
theorem Kb {np nr few:Nat} {wt:Int} (w00 w:World) (h00:w00.heap.size<=w.heap.size) (q1:1<=np) (q4:np<=4) (n1:1<=nr) (n5:nr<=5) (f1:1<=few) (f2:few<=nr) (t1:1<=wt) (t2:wt<=1000):dd aa AD [.agg #[J (np:Nat),J (nr:Nat),J (few:Nat),J wt]] w fun v w2=> ∃ (b:Bk) (gP:Nat) (uP:Array Value) (F:List cr),v=.tuple #[.agg b.c.toArray,J 0]/\b.a=re np nr few wt/\QE w00 w w2 b gP uP F:=by
 refine aF y7 Z Z ?_
 have H:=Hp.start w
 show CW _ _ _ _ (args [.agg #[J (np:Nat),J (nr:Nat),J (few:Nat),J wt]]) w
 refine W<|Zr<|fX H Z Z fun w1 b1 H=>ey H kJ Z fun w2 b2 H=>G (Wi Z)<|U<|W<|W<|Zr<|G (Zf nK Z)<|G (Zd aj H 1 Z Z Z)<|G (da Z Z I)<|G (Yb Z)<|ZG<|G (Zf nK Z)<|ZG<|G (Zd aj H 1 Z Z Z)<|ZG<|G (eh Z Z I)<|G (N Z Z)<|U<|ZF Z<|Zk<|W<|Zr<|G (Zf lO Z)<|G (Zd aj H 1 Z Z Z)<|G (Zf Hr Z)<|G (Zd aj H 1 Z Z Z)<|bW Gc (MV nr few _ n1 n5 f1 f2) Z Z ?_
 have hlo4:=H.size
 rintro _ w3 ⟨p4,rfl,hap4,hnp4⟩;replace H:=H.learn hnp4.2 (tD w00 w2.heap.size w3.heap.size p4) ⟨(aS h00 H.size),hnp4.1⟩ (ao _) (ao _);clear hnp4
 refine G (Yu Z)<|G (Xa Z Z)<|G (Xi Z Z)<|ey H bp Z fun w4 b4 H=>bk H 0 (#[J (p4.epoch),J (p4.leader),.slice p4.iA p4.isr.length p4.iC,.slice p4.kA p4.known.length p4.kC,.slice p4.rA p4.reps.length p4.rC,J (p4.few),J (p4.base)]) aL Z Z Z Z Z N N fun w5 H=>G (Wi Z)<|U<|W<|W<|Zr<|G (Yi Z)<|G (bV Z Z (by decide))<|U<|ZF Z<|Zk<|W<|Zr<|G (Zf AS Z)<|G (Zd aj H 2 Z Z Z)<|bW Eo (F6 wt _ t1 t2) Z Z ?_
 rintro _ w6 ⟨rfl,hb⟩;replace H:=H.later hb;clear hb
 refine G (Yu Z)<|G (Xa Z Z)<|G (Xi Z Z)<|ey H cK Z fun w7 b6 H=>bk H 0 (#[J (0),J (1),J (wt),.slice none 0 0]) aH Z Z Z Z Z N N fun w8 H=>G (Wi Z)<|U<|W<|W<|Zr<|G (Yi Z)<|G (bV Z Z (by decide))<|U<|ZF Z<|Zk<|W<|Zr<|G (Zf AS Z)<|G (Zd aj H 3 Z Z Z)<|bW Em (Nt wt _ t1 t2) Z Z ?_
 rintro _ w9 ⟨rfl,hb⟩;replace H:=H.later hb;clear hb
 refine G (Yu Z)<|G (Xa Z Z)<|G (Xi Z Z)<|ey H d6 Z fun w10 b7 H=>bk H 0 (#[J (0),J (wt),J (0),.slice none 0 0,.slice none 0 0]) bF Z Z Z Z Z N N fun w11 H=>G (Wi Z)<|U<|W<|Zr<|G (Zw ax H 1 Z Z Z)<|G (Zw aR H 0 Z Z Z)<|G (bi (cs:= #[.slice none 0 0,J (0),J (1),J (wt),.slice none 0 0,J (0),J (wt),J (0),.slice none 0 0,.slice none 0 0,.slice none 0 0]) Kp kJ N)<|ey H kJ Z fun w12 b8 H=>bk H 0 (#[.slice none 0 0,J (0),J (1),J (wt),.slice none 0 0,J (0),J (wt),J (0),.slice none 0 0,.slice none 0 0,.slice none 0 0]) iG Z Z Z Z Z N N fun w13 H=>U<|W<|W<|Zr<|G (Zf nK Z)<|G (Zd aj H 5 Z Z Z)<|G (Yi Z)<|U<|Zb ?_
 refine ce (τ:=Nat×List Pq×Option Addr×Nat×List (Nat×Obj)×List cr) [51,52,53,54,55,56,57,58,59,60] (fun(i,_)=>[(51,J (i:Nat))]) (fun(i,qs,A,c,Lq,F') w'=>i<=np/\qs.map (fun q=>q.p.a)=au i (nw nr few)/\f4 Bv (.slice A qs.length c) bC qs Lq/\(∀ q∈qs,tD w00 q.lo q.hi q.p∈F')/\(∀ f∈F',w.heap.size<=f.lo)/\(∃ lo hi,tD w00 lo hi p4∈F')/\Hp w w' ((b8,.cells #[.slice A qs.length c,J (0),J (1),J (wt),.slice none 0 0,J (0),J (wt),J (0),.slice none 0 0,.slice none 0 0,.slice none 0 0] jd (0,0))::(b7,.cells #[J (0),J (wt),J (0),.slice none 0 0,.slice none 0 0] cM (0,0))::(b6,.cells #[J (0),J (1),J (wt),.slice none 0 0] bf (0,0))::(b4,.cells #[J (p4.epoch),J (p4.leader),.slice p4.iA p4.isr.length p4.iC,.slice p4.kA p4.known.length p4.kC,.slice p4.rA p4.reps.length p4.rC,J (p4.few),J (p4.base)] bC (0,0))::(b2,.cells #[.slice none 0 0,J (0),J (0),J (0),.slice none 0 0,J (0),J (0),J (0),.slice none 0 0,.slice none 0 0,.slice none 0 0] jd (0,0))::(b1,.cells #[J (((np:Nat):Int)),J (((nr:Nat):Int)),J (((few:Nat):Int)),J (wt)] je (0,0))::(Lq++[])) F') (fun(i,_)=>np-i) (0,[],none,0,[],_) ⟨bD _,rfl,f4.nil,by simp,fun f hf=>(by rw[aq.1 hf];exact hlo4),⟨_,_,aB ..⟩,H⟩ (dK Z) ?_
 rintro⟨i,qs,A,c,Lq,F'⟩ ρ1 w14 ⟨hi,hqa,ho,hqs,hFl,⟨lo4,hi4,hp4⟩,H⟩
 show CW _ _ _ _ (dB (gJ _ _ ρ1) [(51,J (i:Nat))]) w14
 have hql:qs.length=i:=by have:=congrArg cu hqa;simpa using this
 refine W<|Zr ?_
 refine cU (cG Z Z) Z Z Z (fun h52=> ?_) (fun h52=> ?_)
 refine U<|W<|ZT Z<|Zk<|W ?_
 refine eD (τ:=List Pq×Option Addr×Nat×List (Nat×Obj)×List cr) [53,54,55,56,57,58,59] (fun _=>[]) (fun(q9,A9,c9,L9,F9) w'=>q9.map (fun q=>q.p.a)=au (i+1) (nw nr few)/\f4 Bv (.slice A9 q9.length c9) bC q9 L9/\(∀ q∈q9,tD w00 q.lo q.hi q.p∈F9)/\(∀ f∈F9,w.heap.size<=f.lo)/\(∃ lo hi,tD w00 lo hi p4∈F9)/\Hp w w' ((b8,.cells #[.slice A9 q9.length c9,J (0),J (1),J (wt),.slice none 0 0,J (0),J (wt),J (0),.slice none 0 0,.slice none 0 0,.slice none 0 0] jd (0,0))::(b7,.cells #[J (0),J (wt),J (0),.slice none 0 0,.slice none 0 0] cM (0,0))::(b6,.cells #[J (0),J (1),J (wt),.slice none 0 0] bf (0,0))::(b4,.cells #[J (p4.epoch),J (p4.leader),.slice p4.iA p4.isr.length p4.iC,.slice p4.kA p4.known.length p4.kC,.slice p4.rA p4.reps.length p4.rC,J (p4.few),J (p4.base)] bC (0,0))::(b2,.cells #[.slice none 0 0,J (0),J (0),J (0),.slice none 0 0,J (0),J (0),J (0),.slice none 0 0,.slice none 0 0,.slice none 0 0] jd (0,0))::(b1,.cells #[J (((np:Nat):Int)),J (((nr:Nat):Int)),J (((few:Nat):Int)),J (wt)] je (0,0))::(L9++[])) F9) ?_ ?_
 refine Zb ?_
 refine qS bY [0] [1,2,3,4,5,6,7] [0] 7 N N N Nq ?_
 refine aw Z Z Z Z Z (fun w' hw'=>Zf dz Z)<|aT ?_
 intro w15 hw';replace H:=H.later hw';clear hw'
 refine tC 1 2 N Z Z ?_ ?_
 refine G (Zd dX H 0 Z Z Z)<|U<|de 2 N Z<|G (Zw aG H 3 Z Z Z)<|U<|de 3 N Z<|bW mS (xM p4 _ (Hp.paM H hp4) (hap4▸(DB (Φ:=fun _=>True) n1 n5 f1 f2).ok)) Z Z ?_
 have hlo2:=H.size
 rintro _ w16 ⟨p2,rfl,hap2,hnp2⟩;replace H:=H.learn hnp2.2 (tD w00 w15.heap.size w16.heap.size p2) ⟨(aS h00 H.size),hnp2.1⟩ (ao _) (ao _);clear hnp2
 refine U<|de 4 N Z<|tf (vs:=[.agg #[J (p2.epoch),J (p2.leader),.slice p2.iA p2.isr.length p2.iC,.slice p2.kA p2.known.length p2.kC,.slice p2.rA p2.reps.length p2.rC,J (p2.few),J (p2.base)]]) H gw bp Z Z Z Z Z Z fun w17 b57 H=>U<|de 5 N Z<|vf (Y:=Bv) xv (K:=[(b57,_),(b8,_),(b7,_),(b6,_),(b4,_),(b2,_),(b1,_)]) (L:=Lq) (M:=[]) H ho (es:=qs) (news:=[⟨p2,w15.heap.size,w16.heap.size⟩]) Z Z Z (wr.row (m:=1) (sz:=Bv.sz) (H.ent (i:=0) Z) Z) (by simp only[bQ];omega) Z ?_
 intro A5 c5 w18 L5 h5 h5m ho5 H
 refine U<|de 6 N Z<|G (Zf dz Z)<|U<|de 7 N Z<|bk H 1 (#[.slice A5 ((qs++[(⟨p2,w15.heap.size,w16.heap.size⟩:Pq)]).length) c5,J (0),J (1),J (wt),.slice none 0 0,J (0),J (wt),J (0),.slice none 0 0,.slice none 0 0,.slice none 0 0]) uB Z Z Z Z Z N N fun w19 H=>U<|cB N ?_
 exact⟨(qs++[(⟨p2,w15.heap.size,w16.heap.size⟩:Pq)],A5,c5,L5,tD w00 w15.heap.size w16.heap.size p2::F'),⟨by rw[bj,hqa,qY];show _++[p2.a]=_;rw[hap2,hap4],ho5,fun q hq=>(by rcases ar.1 hq with hq|hq;exact ak _ (hqs q hq);rw[aq.1 hq];exact aB ..),fun f hf=>(by rcases av.1 hf with rfl|hf;exact hlo2;exact hFl f hf),⟨lo4,hi4,ak _ hp4⟩,H.forget (.cons _ (ap _)) (fun _ h=>h)⟩,wo,Qg⟩
 refine G (Zw aG H 3 Z Z Z)<|U ?_
 refine tC 1 3 N Z Z ?_ ?_
 refine G (Zd dX H 0 Z Z Z)<|U<|de 3 N Z<|bW mS (xM p4 _ (Hp.paM H hp4) (hap4▸(DB (Φ:=fun _=>True) n1 n5 f1 f2).ok)) Z Z ?_
 have hlo2:=H.size
 rintro _ w20 ⟨p2,rfl,hap2,hnp2⟩;replace H:=H.learn hnp2.2 (tD w00 w15.heap.size w20.heap.size p2) ⟨(aS h00 H.size),hnp2.1⟩ (ao _) (ao _);clear hnp2
 refine U<|de 4 N Z<|tf (vs:=[.agg #[J (p2.epoch),J (p2.leader),.slice p2.iA p2.isr.length p2.iC,.slice p2.kA p2.known.length p2.kC,.slice p2.rA p2.reps.length p2.rC,J (p2.few),J (p2.base)]]) H gw bp Z Z Z Z Z Z fun w21 b57 H=>U<|de 5 N Z<|vf (Y:=Bv) xv (K:=[(b57,_),(b8,_),(b7,_),(b6,_),(b4,_),(b2,_),(b1,_)]) (L:=Lq) (M:=[]) H ho (es:=qs) (news:=[⟨p2,w15.heap.size,w20.heap.size⟩]) Z Z Z (wr.row (m:=1) (sz:=Bv.sz) (H.ent (i:=0) Z) Z) (by simp only[bQ];omega) Z ?_
 intro A5 c5 w22 L5 h5 h5m ho5 H
 refine U<|de 6 N Z<|G (Zf dz Z)<|U<|de 7 N Z<|bk H 1 (#[.slice A5 ((qs++[(⟨p2,w15.heap.size,w20.heap.size⟩:Pq)]).length) c5,J (0),J (1),J (wt),.slice none 0 0,J (0),J (wt),J (0),.slice none 0 0,.slice none 0 0,.slice none 0 0]) uB Z Z Z Z Z N N fun w23 H=>U<|cB N ?_
 exact⟨(qs++[(⟨p2,w15.heap.size,w20.heap.size⟩:Pq)],A5,c5,L5,tD w00 w15.heap.size w20.heap.size p2::F'),⟨by rw[bj,hqa,qY];show _++[p2.a]=_;rw[hap2,hap4],ho5,fun q hq=>(by rcases ar.1 hq with hq|hq;exact ak _ (hqs q hq);rw[aq.1 hq];exact aB ..),fun f hf=>(by rcases av.1 hf with rfl|hf;exact hlo2;exact hFl f hf),⟨lo4,hi4,ak _ hp4⟩,H.forget (.cons _ (ap _)) (fun _ h=>h)⟩,wo,Qg⟩
 refine bW mS (xM p4 _ (Hp.paM H hp4) (hap4▸(DB (Φ:=fun _=>True) n1 n5 f1 f2).ok)) Z Z ?_
 have hlo2:=H.size
 rintro _ w24 ⟨p2,rfl,hap2,hnp2⟩;replace H:=H.learn hnp2.2 (tD w00 w15.heap.size w24.heap.size p2) ⟨(aS h00 H.size),hnp2.1⟩ (ao _) (ao _);clear hnp2
 refine U ?_
 refine tC 1 4 N Z Z ?_ ?_
 refine G (Zd dX H 0 Z Z Z)<|U<|de 4 N Z<|tf (vs:=[.agg #[J (p2.epoch),J (p2.leader),.slice p2.iA p2.isr.length p2.iC,.slice p2.kA p2.known.length p2.kC,.slice p2.rA p2.reps.length p2.rC,J (p2.few),J (p2.base)]]) H gw bp Z Z Z Z Z Z fun w25 b57 H=>U<|de 5 N Z<|vf (Y:=Bv) xv (K:=[(b57,_),(b8,_),(b7,_),(b6,_),(b4,_),(b2,_),(b1,_)]) (L:=Lq) (M:=[]) H ho (es:=qs) (news:=[⟨p2,w15.heap.size,w24.heap.size⟩]) Z Z Z (wr.row (m:=1) (sz:=Bv.sz) (H.ent (i:=0) Z) Z) (by simp only[bQ];omega) Z ?_
 intro A5 c5 w26 L5 h5 h5m ho5 H
 refine U<|de 6 N Z<|G (Zf dz Z)<|U<|de 7 N Z<|bk H 1 (#[.slice A5 ((qs++[(⟨p2,w15.heap.size,w24.heap.size⟩:Pq)]).length) c5,J (0),J (1),J (wt),.slice none 0 0,J (0),J (wt),J (0),.slice none 0 0,.slice none 0 0,.slice none 0 0]) uB Z Z Z Z Z N N fun w27 H=>U<|cB N ?_
 exact⟨(qs++[(⟨p2,w15.heap.size,w24.heap.size⟩:Pq)],A5,c5,L5,tD w00 w15.heap.size w24.heap.size p2::F'),⟨by rw[bj,hqa,qY];show _++[p2.a]=_;rw[hap2,hap4],ho5,fun q hq=>(by rcases ar.1 hq with hq|hq;exact ak _ (hqs q hq);rw[aq.1 hq];exact aB ..),fun f hf=>(by rcases av.1 hf with rfl|hf;exact hlo2;exact hFl f hf),⟨lo4,hi4,ak _ hp4⟩,H.forget (.cons _ (ap _)) (fun _ h=>h)⟩,wo,Qg⟩
 refine tf (vs:=[.agg #[J (p2.epoch),J (p2.leader),.slice p2.iA p2.isr.length p2.iC,.slice p2.kA p2.known.length p2.kC,.slice p2.rA p2.reps.length p2.rC,J (p2.few),J (p2.base)]]) H gw bp Z Z Z Z Z Z fun w28 b57 H=>U<|de 1 N Z<|G (Zd dX H 1 Z Z Z)<|U<|de 5 N Z<|vf (Y:=Bv) xv (K:=[(b57,_),(b8,_),(b7,_),(b6,_),(b4,_),(b2,_),(b1,_)]) (L:=Lq) (M:=[]) H ho (es:=qs) (news:=[⟨p2,w15.heap.size,w24.heap.size⟩]) Z Z Z (wr.row (m:=1) (sz:=Bv.sz) (H.ent (i:=0) Z) Z) (by simp only[bQ];omega) Z ?_
 intro A5 c5 w29 L5 h5 h5m ho5 H
 refine U<|de 6 N Z<|G (Zf dz Z)<|U<|de 7 N Z<|bk H 1 (#[.slice A5 ((qs++[(⟨p2,w15.heap.size,w24.heap.size⟩:Pq)]).length) c5,J (0),J (1),J (wt),.slice none 0 0,J (0),J (wt),J (0),.slice none 0 0,.slice none 0 0,.slice none 0 0]) uB Z Z Z Z Z N N fun w30 H=>U<|cB N ?_
 exact⟨(qs++[(⟨p2,w15.heap.size,w24.heap.size⟩:Pq)],A5,c5,L5,tD w00 w15.heap.size w24.heap.size p2::F'),⟨by rw[bj,hqa,qY];show _++[p2.a]=_;rw[hap2,hap4],ho5,fun q hq=>(by rcases ar.1 hq with hq|hq;exact ak _ (hqs q hq);rw[aq.1 hq];exact aB ..),fun f hf=>(by rcases av.1 hf with rfl|hf;exact hlo2;exact hFl f hf),⟨lo4,hi4,ak _ hp4⟩,H.forget (.cons _ (ap _)) (fun _ h=>h)⟩,wo,Qg⟩
 rintro⟨q9,A9,c9,L9,F9⟩ ρ1 w31 H9
 show CW _ _ _ _ (dB (gJ _ _ ρ1) []) w31
 refine Zr<|G (bu Z Z I I)<|G (Yi Z)<|U ?_
 exact⟨(i+1,q9,A9,c9,L9,F9),⟨by omega,H9⟩,dK Z,Qg,by show np- (i+1)<np-i;omega⟩
 refine U<|W<|ZF Z<|Zx<|W<|Zr<|G (Zw nS H 0 Z Z Z)<|G (Yi Z)<|bk H 4 (#[.slice A qs.length c,J (0),J (1),J (wt),.slice none 0 0,J (0),J (wt),J (0),.slice none 0 0,.slice none 0 0,.slice none 0 0]) iG Z Z Z Z Z N N fun w32 H=>G (Wi Z)<|U<|Zt ?_
 obtain rfl:i=np:=by omega
 obtain⟨gP,uP,rfl,rfl,row⟩:=ho.row I
 have H7:=((H.forget (L':=[(gP,_)]) ((.cons _ (.cons _ (.cons _ (.cons _ (.cons _ (.cons _ (ap _)))))))) (fun _ h=>h)).learnOld (xz w00 w.heap.size w.heap.size (OJ wt)) ⟨h00,OI ..⟩ (ao _)).learnOld (J1 w00 w.heap.size w.heap.size (NX wt)) ⟨h00,OA ..⟩ (ao _)
 exact bG (cs0:= #[.slice (Qd gP) qs.length c,J (0),J (1),J (wt),.slice none 0 0,J (0),J (wt),J (0),.slice none 0 0,.slice none 0 0,.slice none 0 0]) (v1:=J 0) Z nS Z (H.ent (i:=4) Z) Z Z ⟨⟨qs,some ⟨gP,0,none⟩,c,OJ wt,w.heap.size,w.heap.size,NX wt,w.heap.size,w.heap.size,[],none,0⟩,gP,uP,_,rfl,by unfold Bk.a re;rw[hqa];rfl,⟨rfl,row,⟨rfl,rfl,rfl⟩,ak _ (aB ..),aB ..,fun q hq=>ak _ (ak _ (hqs q hq)),fun f hf=>(by rcases av.1 hf with rfl|hf;exact ao _;rcases av.1 hf with rfl|hf;exact ao _;exact hFl f hf),H7⟩⟩
theorem za (es:List ByteArray) (A:Option Addr) (c:Nat) (w:World) (hr:Rd nk 0 w.heap.size A es w) (hb:es.length*16<=140737488355328):
  dd aa jo [.slice A es.length c] w fun v w2=> ∃ A' c' L',v=.slice A' es.length c'/\es.length<=c'/\c'<=maxLen/\f4 nk (.slice A' es.length c') kH es L'/\Hp w w2 L' []:=by
 refine aF nE Z Z ?_
 have H:=Hp.startRd hr
 refine W<|Zr<|G (Ws Z)<|U<|W<|W<|Zr<|G (Ys Z) ?_
 refine wq (pB lV Z) Z Z Z (fun h4=> ?_) (fun h4=> ?_)
 refine U<|ZT Z<|W<|Zr<|G (Ws Z)<|U<|Zt ?_
 have he:es=[]:=by
  cases es with
  |nil=>rfl
  |cons e es=>obtain⟨b,o,hA,_⟩:=hr (by simp);subst hA;cases h4
 subst he
 exact cy Z Z ⟨none,0,[],rfl,by simp,by decide,f4.nil,H.forget (by simp) (by simp)⟩
 refine U<|ZF Z<|Zk<|W<|Zr<|NF H ik Z fun w1 b5 H=>G (Ys Z)<|vf (Y:=nk) wk (K:=[]) (L:=[(b5,_)]) (M:=[]) H (rL.lit (by decide) (by rfl)) (es:=[]) (news:=es) Z Z Z (Rd.src (H.fact (i:=0) Z)) (by simpa using hb) Z ?_
 intro A3 c3 w3 L3 h3a h3b ho3 H
 refine G (Ws Z)<|U<|Zt ?_
 exact cy Z Z ⟨A3,c3,L3,rfl,h3a,h3b,ho3,H.forget (by simp) (by simp)⟩
theorem y9 (es:List ByteArray) (A:Option Addr) (c:Nat) (w:World) (hr:Rd nk 0 w.heap.size A es w) (hb:es.length*16<=140737488355328):
  dd aa jo [.slice A es.length c] w fun v w2=> ∃ A' c',v=.slice A' es.length c'/\es.length<=c'/\Rd nk w.heap.size w2.heap.size A' es w2/\Below w.heap.size w w2:=
 (za es A c w hr hb).mono fun v w2 ⟨A',c',L',h1,h2,_,h4,h5⟩=>⟨A',c',h1,h2,h4.rd (K:=[]) (M:=[]) (by simpa using h5),h5.below⟩
structure Aq where
 x:An
 A:Option Addr
 c:Nat
def Py:fi Aq:=⟨fun q=>[J q.x.code,J q.x.n,.slice q.A q.x.texts.length q.c],3,fun _=>rfl,by decide,fun a u hu=>by
 simp only[av,bo,or_false]at hu
 rcases hu with h|h|h<;>subst h<;>rfl⟩
structure Rn where
 xs:List Aq
 oA:Option Addr
 oC:Nat
 b:Bk
def Rn.v (r:Rn):Value:=.tuple #[.slice r.oA r.xs.length r.oC,.agg r.b.c.toArray,J 0]
structure Rn.rd (r:Rn) (lo hi:Nat) (w:World):Prop where
 xs:Rd Py lo hi r.oA r.xs w
 oC:r.xs.length<=r.oC
 tx: ∀ x∈r.xs,Rd nk lo hi x.A x.x.texts w/\x.x.texts.length<=x.c
 ps:Rd Bv lo hi r.b.pA r.b.ps w
 pC:r.b.ps.length<=r.b.pC
 pa: ∀ q∈r.b.ps,q.p.rd lo hi w
 co:r.b.co.rd lo hi w
 gr:r.b.gr.rd lo hi w
theorem Rn.rd.st {r:Rn} {lo hi:Nat} {w w':World} (hk: ∀ k,lo<=k->k<hi->w'.heap[k]? =w.heap[k]?) (h:r.rd lo hi w):r.rd lo hi w':=⟨h.xs.st hk,h.oC,fun x hx=>⟨(h.tx x hx).1.st hk,(h.tx x hx).2⟩,h.ps.st hk,h.pC,fun q hq=>(h.pa q hq).st hk,h.co.st hk,h.gr.st hk⟩
theorem Rn.rd.mono {r:Rn} {lo hi lo' hi':Nat} {w:World} (h:r.rd lo hi w) (h1:lo'<=lo) (h2:hi<=hi'):r.rd lo' hi' w:=⟨h.xs.mono h1 h2,h.oC,fun x hx=>⟨(h.tx x hx).1.mono h1 h2,(h.tx x hx).2⟩,h.ps.mono h1 h2,h.pC,fun q hq=>Pa.rd.mono (h.pa q hq) h1 h2,Co.rd.mono h.co h1 h2,Gr.rd.mono h.gr h1 h2⟩
theorem Hp.rdM {α:Type} {Y:fi α} {w0 w:World} {L:List (Nat×Obj)} {F:List cr} {lo hi:Nat} {A:Option Addr} {es:List α} (H:Hp w0 w L F) (h:dA Y lo hi A es∈F):Rd Y 0 w.heap.size A es w:=by
 obtain⟨h1,h2,-⟩:=H.facts _ h
 exact Rd.mono h1 (bD _) h2
theorem Bw.into2 {w0 w w2:World} {bb gP:Nat} {b:Bk} {uP:Array Value} {Ls Lo K:List (Nat×Obj)} {F F2:List cr} (B:Bw w0 w bb b gP uP Ls Lo K F) (X:List (Nat×Obj)) (H:Hp w0 w2 (X++((bb,.cells b.c.toArray bM (0,0))::(gP,.cells uP bC (0,0))::(Ls++(Lo++K)))) F2) (hF: ∀ f∈F,f∈F2):Bw w0 w2 bb b gP uP Ls Lo (X++K) F2:=
 ⟨B.pA,B.row,B.sn,B.own,hF _ B.co,hF _ B.gr,fun q hq=>hF _ (B.ps q hq),H.perm (Ow [(bb,_),(gP,_)] Ls Lo X K)⟩
theorem O9 (A Ls Lo oL K:List (Nat×Obj)):(A++(oL++(Ls++(Lo++K)))).Perm (A++(Ls++(Lo++(oL++K)))):=by
 refine List.Perm.append_left A ?_
 rw[show Ls++(Lo++(oL++K))=(Ls++Lo)++(oL++K) by simp,show Ls++(Lo++K)=(Ls++Lo)++K by simp]
 exact fY oL (Ls++Lo) K
structure OS (w0 w:World) (W0:Wa) (acts:List Act) (A0:Option Addr) (bb:Nat) (K:List (Nat×Obj)) (i:Nat) (b:Bk) (xs:List Aq) (gP:Nat) (uP:Array Value) (Ls Lo:List (Nat×Obj)) (oA:Option Addr) (oC:Nat) (oL:List (Nat×Obj)) (F:List cr):Prop where
 le:i<=acts.length
 run:mV W0 (acts.take i) (xs.map Aq.x) b.a
 B:Bw w0 w bb b gP uP Ls Lo (oL++K) F
 own:f4 Py (.slice oA xs.length oC) ee xs oL
 tx: ∀ x∈xs,x.x.texts.length<=x.c/\ ∃ lo hi,w0.heap.size<=lo/\dA nk lo hi x.A x.x.texts∈F
 ac:dA mn 0 w0.heap.size A0 acts∈F
theorem PM (bb gP:Nat×Obj) (Ls Lo oL K:List (Nat×Obj)):(bb::(K++(gP::(Ls++(Lo++oL))))).Perm (bb::gP::(Ls++(Lo++(oL++K)))):=by
 rw[show Ls++(Lo++(oL++K))=(Ls++(Lo++oL))++K by simp]
 refine ai _ ?_
 exact(xC (l₁:=K) (l₂:=gP::(Ls++(Lo++oL))))
theorem OS.rd {w0 w w2:World} {W0:Wa} {acts:List Act} {A0:Option Addr} {bb:Nat} {K:List (Nat×Obj)} {i:Nat} {b:Bk} {xs:List Aq} {gP:Nat} {uP:Array Value} {Ls Lo:List (Nat×Obj)} {oA:Option Addr} {oC:Nat} {oL:List (Nat×Obj)} {F F2:List cr} (Ii:OS w0 w W0 acts A0 bb K i b xs gP uP Ls Lo oA oC oL F) (X:List (Nat×Obj)) (H:Hp w0 w2 (X++((gP,.cells uP bC (0,0))::(Ls++(Lo++oL)))) F2) (hF: ∀ f∈F,f∈F2):(Rn.mk xs oA oC b).rd w0.heap.size w2.heap.size w2:=by
 have H1:=H.forget (L':=oL) (((ci Lo oL).trans (ci Ls _)).trans ((aX _ _).trans (ci X _))) (fun _ h=>h)
 have H2:=H.forget (L':=[(gP,.cells uP bC (0,0))]) (((List.cons_sublist_cons.2 (vJ _))).trans (ci X _)) (fun _ h=>h)
 obtain⟨A,c,e1,e2,-⟩:=Ii.own.form
 cases e1
 have hg:=H2.ge (i:=0) Z
 have hl:=H2.lt (i:=0) Z
 refine⟨Ii.own.rd (K:=[]) (M:=[]) (by simpa using H1),e2,fun x hx=> ?_,?_,Ii.B.row.le,fun q hq=> ?_,?_,?_⟩
 obtain⟨z1,lo,hi,z2,z3⟩:=Ii.tx x hx
 obtain⟨h1,h2,-⟩:=H.facts _ (hF _ z3)
 exact⟨Rd.mono h1 z2 h2,z1⟩
 have:=(Ii.B.row.rd (H2.ent (i:=0) Z)).mono hg (Nat.succ_le_of_lt hl)
 rw[<-Ii.B.pA]at this
 exact this
 obtain⟨h1,h2,-⟩:=H.facts _ (hF _ (Ii.B.ps q hq))
 exact Pa.rd.mono h1.2 h1.1 h2
 obtain⟨h1,h2,-⟩:=H.facts _ (hF _ Ii.B.co)
 exact Co.rd.mono h1.2 h1.1 h2
 obtain⟨h1,h2,-⟩:=H.facts _ (hF _ Ii.B.gr)
 exact Gr.rd.mono h1.2 h1.1 h2
theorem IY {es:List cN} {n st a most b:Nat} {out:List ByteArray} (h:Br es n st a most out b):out.length<=most:=h.2.2.2.1
theorem HL {w:Wa} {a:Act} {w':Wa} {x:An} (h:EA w a w' x) (hn:a.kind=19->a.n<=20) (h17:1<=a.kind):x.texts.length<=20:=by
 cases h with
 |poll x h1 h2=>
  cases h2 with
  |no=>exact bD _
  |yes p x h3 h4 h5=>
   cases h5 with
   |none=>exact bD _
   |range=>exact bD _
   |ok l r st out b g1 g2 g3 g4 g5=>have:=IY g5;have:=hn h1;show out.length<=20;omega
 |other h1=>
  have:(xx w a).2.texts=[]:=by
   obtain⟨a1,a2,a3,a4,a5,a6,a7,a8⟩:=pU a w
   rcases Classical.em (a.kind=1)with h|h
   rw[a1 h];exact yI ..
   rcases Classical.em (a.kind=2)with h|h
   rw[a2 h];exact xr ..
   rcases Classical.em (a.kind=3∨a.kind=4)with h|h
   rw[a3 h];exact yx ..
   rcases Classical.em (a.kind=5)with h|h
   rw[a4 h];exact vz ..
   rcases Classical.em (a.kind=6)with h|h
   rw[a5 h];exact yE ..
   rcases Classical.em (a.kind=7)with h|h
   rw[a6 h];rfl
   rcases Classical.em (8<=a.kind/\a.kind<=15)with h|h
   rw[a7 h];exact yA ..
   rw[a8 I];exact Ad ..
  rw[this];exact bD _
theorem Oe {np nr few:Nat} {wt:Int} {acts:List Act} {A0:Option Addr} {c0:Nat} (w:World) (q1:1<=np) (q4:np<=4) (n1:1<=nr) (n5:nr<=5) (f1:1<=few) (f2:few<=nr) (t1:1<=wt) (t2:wt<=1000) (hr:Rd mn 0 w.heap.size A0 acts w) (hl:acts.length<=400) (hg: ∀ a∈acts,rN np nr a):dd aa DU [.agg #[J (np:Nat),J (nr:Nat),J (few:Nat),J wt],.slice A0 acts.length c0] w fun v w2=> ∃ r:Rn,v=r.v/\mV (re np nr few wt) acts (r.xs.map Aq.x) r.b.a/\r.rd w.heap.size w2.heap.size w2/\Below w.heap.size w w2:=by
 refine aF B6 Z Z ?_
 have H:=Hp.startRd hr
 show CW _ _ _ _ (args [.agg #[J (np:Nat),J (nr:Nat),J (few:Nat),J wt],.slice A0 acts.length c0]) w
 refine W<|Zr<|fX H Z Z fun w1 b2 H=>G (Ws Z)<|ey H kJ Z fun w2 b5 H=>G (Wi Z)<|U<|W<|Zr<|G (Zw nT H 1 Z Z Z)<|bW zf (Kb w _ H.size q1 q4 n1 n5 f1 f2 t1 t2) Z Z ?_
 rintro _ w3 ⟨⟨ps,pA,pC,co,clo,chi,gr,glo,ghi,sns,snA,snC⟩,gP,uP,F1,rfl,hba,⟨hpA,row,⟨hs1,hs2,hs3⟩,hco,hgr,hps,hlo1,H1⟩⟩
 dsimp only at hpA row hs1 hs2 hs3 hco hgr hps
 subst hpA;subst hs1;subst hs2;subst hs3
 replace H:=H.joinF H1 hlo1;clear H1
 refine G (Yu Z)<|G (Xa Z Z)<|G (Xi Z Z)<|ey H kJ Z fun w4 b7 H=>bk H 0 (#[.slice (Qd gP) ps.length pC,J (co.clock),J (co.next),J (co.wait),.slice co.A co.txs.length co.cap,J (gr.clock),J (gr.wait),J (gr.gen),.slice gr.mA gr.ms.length gr.mC,.slice gr.oA gr.os.length gr.oC,.slice none (([]:List Sn).length) 0]) iG Z Z Z Z Z N N fun w5 H=>G (Wi Z)<|U<|W<|W<|Zr<|G (Yi Z)<|G (bV Z Z (by decide))<|U<|ZF Z<|Zk<|W<|W<|Zr<|G (Ys Z)<|G (bn wL Z)<|G (eh Z Z I)<|U<|ZF Z<|Zk<|W<|Zr<|G (Zw nS H 0 Z Z Z)<|G (bi (cs:= #[.slice (Qd gP) ps.length pC,J (co.clock),J (co.next),J (co.wait),.slice co.A co.txs.length co.cap,J (gr.clock),J (gr.wait),J (gr.gen),.slice gr.mA gr.ms.length gr.mC,.slice gr.oA gr.os.length gr.oC,.slice none (([]:List Sn).length) 0]) IN J8 N)<|fX H Z Z fun w6 b29 H=>G (Wp Z)<|U<|W<|Zr<|G (Ws Z)<|U<|W<|W<|Zr<|G (Ys Z)<|G (bn wL Z) ?_
 refine G (Yi Z)<|U<|Zb ?_
 obtain⟨K3,hK3⟩: ∃ l:List (Nat×Obj),([(b7,.cells #[.slice (Qd gP) ps.length pC,J (co.clock),J (co.next),J (co.wait),.slice co.A co.txs.length co.cap,J (gr.clock),J (gr.wait),J (gr.gen),.slice gr.mA gr.ms.length gr.mC,.slice gr.oA gr.os.length gr.oC,.slice none (([]:List Sn).length) 0] jd (0,0)),(b5,.cells #[.slice none 0 0,J (0),J (0),J (0),.slice none 0 0,J (0),J (0),J (0),.slice none 0 0,.slice none 0 0,.slice none 0 0] jd (0,0)),(b2,.cells #[J (((np:Nat):Int)),J (((nr:Nat):Int)),J (((few:Nat):Int)),J (wt)] je (0,0))]:List (Nat×Obj))=l:=⟨_,rfl⟩
 refine ce (τ:=Nat×Bk×List Aq×Nat×Array Value×List (Nat×Obj)×List (Nat×Obj)×Option Addr×Nat×List (Nat×Obj)×List cr) [10,12,13,32,33,34,35,36,37,38,39,40,41,42,43,44,45,46,47] (fun(i,_,xs,_,_,_,_,oA,oC,_,_)=>[(32,J (i:Nat)),(10,.slice oA xs.length oC)]) (fun(i,b,xs,gP,uP,Ls,Lo,oA,oC,oL,F') w'=>OS w w' (re np nr few wt) acts A0 b29 K3 i b xs gP uP Ls Lo oA oC oL F') (fun(i,_)=>acts.length-i) (0,⟨ps,some ⟨gP,0,none⟩,pC,co,clo,chi,gr,glo,ghi,[],none,0⟩,[],gP,uP,[],[],none,0,[],_) (by subst hK3;exact⟨bD _,by rw[hba];exact .nil _,⟨rfl,row,f4.nil,rfl,bX _ hco,bX _ hgr,fun q hq=>bX _ (hps q hq),H.perm (ai _ (al _ _ _))⟩,f4.nil,by simp,aB ..⟩) (lh Z Z) ?_
 rintro⟨i,b,xs,gP1,uP1,Ls,Lo,oA,oC,oL,F'⟩ ρ1 w7 Ii
 show CW _ _ _ _ (dB (gJ _ _ ρ1) [(32,J (i:Nat)),(10,.slice oA xs.length oC)]) w7
 have hile:=Ii.le
 have H:=Ii.B.H.learnOld (dA mn 0 w.heap.size A0 acts) (Ii.B.H.facts _ Ii.ac).1 (ao _)
 have hxl:xs.length=i:=by have:=Ii.run.len;rwa[bw,aI,bv hile]at this
 obtain⟨M',-,hwi⟩:=GI Ii.run (Id n1 n5 f1 f2 t1 t2) (by rw[aI];omega) q4 (fun a ha=>hg a (yW ha))
 rw[cI,aI,bv hile]at hwi
 refine W<|Zr ?_
 refine cU (cG Z Z) Z Z Z (fun h33=> ?_) (fun h33=> ?_)
 ·
  refine U<|W<|ZT Z<|Zk<|W<|Zb<|W ?_
  obtain⟨a,ha⟩: ∃ a,acts[i]? =some a:=⟨_,ah I⟩
  refine Zr<|pI H 0 Z pE Z Z I I Z fun bq8 o8 x8 e8=> ?_
  obtain rfl:a=x8:=by have:=e8.at_;rw[ha]at this;exact bx this
  refine G (iw (xs:=Act.c a) dR Z Z e8.cl)<|ey H jG Z fun w9 b12 H=>bk H 0 (#[J (a.kind),.string (a.name),J (a.part),J (a.n),J (a.m),.string (a.text),J (a.lost)]) iL Z Z Z Z Z N N fun w10 H=>U<|W<|Zr<|G (Yp Z)<|G (Zw dR H 0 Z Z Z)<|bW um (OR (Ii.B.into2 [(b12,_)] H (fun f hf=>ak _ hf)) hwi I q1 q4 (hg a (ae ha))) Z Z ?_
  rintro _ w11 ⟨b2,x2,A9,c9,lo9,hi9,hA9,rfl,hc9,gP9,uP9,Ls9,Lo9,F9,B9,hF9⟩
  replace H:=B9.out (X:=[(b12,_)])
  refine ey H dt Z fun w12 b13 H=>bk H 0 (#[J (x2.code),J (x2.n),.slice A9 x2.texts.length c9]) aQ Z Z Z Z Z N N fun w13 H=>U<|W<|Zr<|G (Zf yO Z)<|G (Zd jn H 0 Z Z Z)<|bW nO (y9 x2.texts A9 c9 _ (Hp.rdM H (hF9 _ (aB ..))) (by have:=HL hA9 (fun h=>((hg a (ae ha)).poll h).2) (hg a (ae ha)).kind.1;omega)) Z Z ?_
  have hz41:=H.size
  rintro _ w14 ⟨A41,c41,rfl,hc41,hr41,hb41⟩;replace H:=H.learnRd hb41 hr41;clear hr41 hb41
  refine G (Zf yO Z)<|bk H 0 (#[J (x2.code),J (x2.n),.slice A41 x2.texts.length c41]) ET Z Z Z Z Z N N fun w15 H=>U<|Zr<|G (Ys Z)<|G (Zw aN H 0 Z Z Z)<|tf (vs:=[.agg #[J (x2.code),J (x2.n),.slice A41 x2.texts.length c41]]) H GD dt Z Z Z Z Z Z fun w16 b45 H=> ?_
  replace H:=Hp.perm H (O9 [(b45,_),(b13,_),(b12,_),(b29,_),(gP9,_)] Ls9 Lo9 oL K3)
  refine vf (Y:=Py) HH (K:=[(b45,_),(b13,_),(b12,_),(b29,_),(gP9,_)]) (L:=oL) (M:=Ls9++(Lo9++K3)) H Ii.own (es:=xs) (news:=[(⟨x2,A41,c41⟩:Aq)]) Z Z Z (wr.row (m:=1) (sz:=Py.sz) (H.ent (i:=0) Z) Z) (by simp only[bQ];omega) Z ?_
  intro A5 c5 w17 L5 h5 h5m ho5 H
  replace H:=Hp.perm H (O9 [(b45,_),(b13,_),(b12,_),(b29,_),(gP9,_)] Ls9 Lo9 L5 K3).symm
  refine G (Ws Z)<|U<|Zr<|G (bu Z Z I I)<|G (Yi Z)<|U ?_
  exact⟨(i+1,b2,xs++[(⟨x2,A41,c41⟩:Aq)],gP9,uP9,Ls9,Lo9,A5,c5,L5,_),⟨by omega,by rw[fe ha,bj];exact Ii.run.snoc hA9,Bw.mk B9.pA B9.row B9.sn B9.own (ak _ B9.co) (ak _ B9.gr) (fun q hq=>ak _ (B9.ps q hq)) (H.forget (ci [(b45,_),(b13,_),(b12,_)] _) (fun _ h=>h)),ho5,fun x hx=>(by rcases ar.1 hx with hx|hx;obtain⟨z1,lo,hi,z2,z3⟩:=Ii.tx x hx;exact⟨z1,lo,hi,z2,ak _ (hF9 _ (ak _ (ak _ z3)))⟩;rw[aq.1 hx];exact⟨hc41,_,_,hz41,aB ..⟩),ak _ (hF9 _ (ak _ (aB ..)))⟩,lh Z Z,Qg,by show acts.length- (i+1)<acts.length-i;omega⟩
 ·
  refine U<|W<|ZF Z<|Zx<|W ?_
  obtain rfl:i=acts.length:=by omega
  have hrun:=Ii.run
  rw[bL]at hrun
  subst hK3
  obtain⟨ps2,pA2,pC2,co2,clo2,chi2,gr2,glo2,ghi2,sns2,snA2,snC2⟩:=b
  replace H:Hp w w7 ((b29,.cells #[.slice pA2 ps2.length pC2,J (co2.clock),J (co2.next),J (co2.wait),.slice co2.A co2.txs.length co2.cap,J (gr2.clock),J (gr2.wait),J (gr2.gen),.slice gr2.mA gr2.ms.length gr2.mC,.slice gr2.oA gr2.os.length gr2.oC,.slice snA2 sns2.length snC2] bM (0,0))::(b7,.cells #[.slice (Qd gP) ps.length pC,J (co.clock),J (co.next),J (co.wait),.slice co.A co.txs.length co.cap,J (gr.clock),J (gr.wait),J (gr.gen),.slice gr.mA gr.ms.length gr.mC,.slice gr.oA gr.os.length gr.oC,.slice none (([]:List Sn).length) 0] jd (0,0))::(b5,.cells #[.slice none 0 0,J (0),J (0),J (0),.slice none 0 0,J (0),J (0),J (0),.slice none 0 0,.slice none 0 0,.slice none 0 0] jd (0,0))::(b2,.cells #[J (((np:Nat):Int)),J (((nr:Nat):Int)),J (((few:Nat):Int)),J (wt)] je (0,0))::(gP1,.cells uP1 bC (0,0))::(Ls++(Lo++oL))) (dA mn 0 w.heap.size A0 acts::F'):=H.perm (PM (b29,_) (gP1,_) Ls Lo oL [(b7,_),(b5,_),(b2,_)])
  refine bB bY [0,1,2,3,4,5] [6,7] [] [0,1,2,3,5] (sp []) N N N N Nq (cH _) ?_
  refine aw Z Z Z Z Z (fun w' hw'=>Ys Z)<|aw Z Z Z Z Z (fun w' hw'=>Yp Z)<|aw Z Z Z Z Z (fun w' hw'=>aK Z)<|aw Z Z Z Z Z (fun w' hw'=>Zf aW Z)<|aw Z Z Z Z Z (fun w' hw'=>jh nS Z ((H.later hw').ent (i:=0) Z) Z)<|aw Z Z Z Z Z (fun w' hw'=>Ws Z)<|aT ?_
  intro w18 hw' hF
  replace H:=H.later hw';clear hw' hF
  refine bk H 2 (#[.slice pA2 ps2.length pC2,J (co2.clock),J (co2.next),J (co2.wait),.slice co2.A co2.txs.length co2.cap,J (gr2.clock),J (gr2.wait),J (gr2.gen),.slice gr2.mA gr2.ms.length gr2.mC,.slice gr2.oA gr2.os.length gr2.oC,.slice snA2 sns2.length snC2]) iG Z Z Z Z Z N N fun w19 H=>G (Wi Z)<|U<|Zt ?_
  exact LE (v0:=.slice oA xs.length oC) (cs1:= #[.slice pA2 ps2.length pC2,J (co2.clock),J (co2.next),J (co2.wait),.slice co2.A co2.txs.length co2.cap,J (gr2.clock),J (gr2.wait),J (gr2.gen),.slice gr2.mA gr2.ms.length gr2.mC,.slice gr2.oA gr2.os.length gr2.oC,.slice snA2 sns2.length snC2]) (v2:=J 0) Z Z nS Z (H.ent (i:=2) Z) Z Z ⟨⟨xs,oA,oC,⟨ps2,pA2,pC2,co2,clo2,chi2,gr2,glo2,ghi2,sns2,snA2,snC2⟩⟩,rfl,hrun,Ii.rd [(b29,_),(b7,_),(b5,_),(b2,_)] H (fun f hf=>ak _ hf),H.below⟩
/-- an act that the laws make -/
structure Gn (np nr:Nat) (hard:Bool) (a:Act):Prop where
 g:rN np nr a
 calm:hard=false->(a.kind<=9∨16<=a.kind)/\a.kind≠1/\a.lost=0
 txt:a.text=⟨#[]⟩∨ ∃ n,a.text=vi n
theorem iW {np nr:Nat} {hard:Bool} {k pt n m lo:Int} {nm t:ByteArray} (h:(1<=k/\k<=20/\k≠17)/\(0<=pt/\pt<np)/\(0<=n/\n<=1000)/\(8<=k->k<=15->n<nr)/\(k=5->n<=1)/\(k=19->1<=n/\n<=20)/\(0<=m/\m<=1000)/\(0<=lo/\lo<=2)) (hh:hard=false->(k<=9∨16<=k)/\k≠1/\lo=0) (hn:(k=1∨k=16∨k=18∨k=19∨k=20)->bO nm=true) (ht:t=⟨#[]⟩∨ ∃ n,t=vi n):Gn np nr hard ⟨k,nm,pt,n,m,t,lo⟩:=by
 obtain⟨h1,h2,h3,h4,h5,h6,h7,h8⟩:=h
 refine⟨⟨h1,hn,h2,h3,h4,h5,h6,h7,?_,h8⟩,hh,ht⟩
 rcases ht with ht|⟨x,ht⟩
 show t.size<=40;rw[ht];decide
 show t.size<=40;rw[ht];exact aS (IE x) (by decide)
def Eb (p:Nat):Act:=⟨13,⟨#[]⟩,p,0,0,⟨#[]⟩,0⟩
def Av (s:ByteArray):Act:=⟨1,s,0,0,0,⟨#[]⟩,0⟩
def G9 (s:ByteArray):Act:=⟨16,s,0,0,0,⟨#[]⟩,0⟩
def io (n:Nat):List Act:=(Bz n).map Eb
def jI (np:Nat):List Act:=io np++[Av (p6 0),Av (p6 1),G9 (p6 2)]
theorem FY (n:Nat):io (n+1)=io n++[Eb n]:=by unfold io;rw[List.range_succ,bj];rfl
theorem qk (n:Nat):(io n).length=n:=by simp[io]
def DG:Nat->Int
 |0=>11
 |1=>13
 |_=>1
theorem tU {k:Nat} (h:k<3):(qi [J 11,J 13,J 1]).toArray[0+k*1]? =some (J (DG k)):=by
 rcases k with _|_|_|k<;>first|rfl|omega
theorem Ap (k:Nat):DG k=11∨DG k=13∨DG k=1:=by
 rcases k with _|_|k
 exact .inl Z
 exact .inr (.inl Z)
 exact .inr (.inr Z)
theorem Kx (a b:Int) (w:World) (ha:i64 a) (hb:i64 b):dd aa oq [J a,J b] w fun v w2=>v=.agg #[J (1+(pk a 3:Nat):Int),J (1+(pk b 3:Nat):Int),J (1+(pk a (1+pk b 3):Nat):Int),J (5+(pk b 20:Nat):Int)]/\Below w.heap.size w w2:=by
 refine aF tw Z Z ?_
 have H:=Hp.start w
 have p1:=i6 a (show 0<3 by omega)
 have p2:=i6 b (show 0<3 by omega)
 have p3:=i6 a (show 0<1+pk b 3 by omega)
 have p4:=i6 b (show 0<20 by omega)
 refine W<|Zr<|ey H Dg Z fun w1 b4 H=>U<|W<|Zr<|G (Yi Z)<|bW aM (dq b (3) _ hb.1 hb.2 I I) Z Z ?_
 rintro _ w2 ⟨rfl,hb⟩;replace H:=H.later hb;clear hb
 refine G (bu Z Z I I)<|G (Wi Z)<|U<|W<|Zr<|G (Yi Z)<|bW aM (dq a (3) _ ha.1 ha.2 I I) Z Z ?_
 rintro _ w3 ⟨rfl,hb⟩;replace H:=H.later hb;clear hb
 refine G (bu Z Z I I)<|G (Yi Z)<|G (Yi Z)<|G (Yi Z)<|bW aM ((by have hA:=dq a (1+pk b 3) w3 ha.1 ha.2 I I;rw[show((1+pk b 3:Nat):Int)=(1:Int)+(pk b 3:Nat) by omega]at hA;exact hA)) Z Z ?_
 rintro _ w4 ⟨rfl,hb⟩;replace H:=H.later hb;clear hb
 refine G (bu Z Z I I)<|G (Yi Z)<|bW aM (dq b (20) _ hb.1 hb.2 I I) Z Z ?_
 rintro _ w5 ⟨rfl,hb⟩;replace H:=H.later hb;clear hb
 refine G (bu Z Z I I)<|G (bi (cs:= #[J (1+(((pk a (3):Nat):Int))),J (1+(((pk b (3):Nat):Int))),J (1+(((pk a (1+pk b 3):Nat):Int))),J (5+(((pk b (20):Nat):Int)))]) Kq Dg N)<|bk H 0 (#[J (1+(((pk a (3):Nat):Int))),J (1+(((pk b (3):Nat):Int))),J (1+(((pk a (1+pk b 3):Nat):Int))),J (5+(((pk b (20):Nat):Int)))]) CB Z Z Z Z Z N N fun w6 H=>U<|Zt ?_
 exact eO (cs0:= #[J (1+(pk a 3:Nat):Int),J (1+(pk b 3:Nat):Int),J (1+(pk a (1+pk b 3):Nat):Int),J (5+(pk b 20:Nat):Int)]) Z nT Z (H.ent (i:=0) Z) Z ⟨rfl,H.below⟩
def tW (j:Nat):List Act:=(Bz j).map fun k=>Av (p6 k)
theorem Hc (np j:Nat):io np++tW j++[Av (p6 j)]=io np++tW (j+1):=by unfold tW;rw[List.range_succ,bj,aD];rfl
theorem KH (np:Nat):io np++tW 2++[G9 (p6 2)]=jI np:=by rw[aD];rfl
theorem K4 {k:Nat} (h:k<2):(qi [.string ⟨#[97,110,110]⟩,.string ⟨#[98,111,98]⟩]).toArray[0+k*1]? =some (.string (p6 k)):=by
 rcases k with _|_|k<;>first|rfl|omega
theorem PE {a:Int}:i64 ((pk a 2:Nat):Int):=by
 have:=i6 a (show 0<2 by omega)
 exact⟨by omega,by omega⟩
theorem Ey {np nr most:Nat} {few wt:Int} {hard:Bool} (l:List Gk) (A0:Option Addr) (c0:Nat) (w:World) (p1:1<=np) (p4:np<=4) (n1:1<=nr) (n5:nr<=5) (hm:most<=400) (hr:Rd rT 0 w.heap.size A0 l w) (hok: ∀ r∈l,r.ok):dd aa u5 [.slice A0 l.length c0,.agg #[J (((np:Nat):Int)),J (((nr:Nat):Int)),J (few),J (wt)],J (most:Nat),.bool hard] w fun v w2=> ∃ (body:List Act) (A:Option Addr) (c:Nat) (L:List (Nat×Obj)),v=.slice A (jI np++body).length c/\body.length<=most/\(∀ a∈body,Gn np nr hard a)/\f4 mn (.slice A (jI np++body).length c) fS (jI np++body) L/\Hp w w2 L []:=by
 refine aF t6 Z Z ?_
 have H:=Hp.startRd hr
 show CW _ _ _ _ (args [.slice A0 l.length c0,.agg #[J (((np:Nat):Int)),J (((nr:Nat):Int)),J (few),J (wt)],J (most:Nat),.bool hard]) w
 refine W<|Zr<|fX H Z Z fun w1 b5 H=>G (Ws Z)<|U<|W<|Zr<|G (Ws Z)<|U<|W<|W<|Zr<|G (Zf nK Z)<|G (Zd aj H 0 Z Z Z)<|G (Yi Z)<|U<|Zb ?_
 refine ce (τ:=Nat×Option Addr×Nat×List (Nat×Obj)) [9,10,20,21,22,23,24,25,26,27,28] (fun(i,A,c,_)=>[(20,J (i:Nat)),(9,.slice A (io i).length c)]) (fun(i,A,c,L) w'=>i<=np/\f4 mn (.slice A (io i).length c) fS (io i) L/\Hp w w' ((b5,.cells #[J (((np:Nat):Int)),J (((nr:Nat):Int)),J (few),J (wt)] je (0,0))::(L++[])) ([dA rT 0 w.heap.size A0 l])) (fun(i,_)=>np-i) (0,none,0,[]) ⟨bD _,f4.nil,H⟩ (lh Z Z) ?_
 rintro⟨i,A,c,L⟩ ρ1 w2 ⟨hi,ho,H⟩
 show CW _ _ _ _ (dB (gJ _ _ ρ1) [(20,J (i:Nat)),(9,.slice A (io i).length c)]) w2
 refine W<|Zr ?_
 refine cU (cG Z Z) Z Z Z (fun h21=> ?_) (fun h21=> ?_)
 refine U<|W<|ZT Z<|Zk<|W<|Zb<|W<|Zr<|G (Yi Z)<|G (Wi Z)<|U<|Zr<|G (Ys Z)<|G (Yi Z)<|G (bi (cs:= #[J (13),.string (⟨#[]⟩),J (((i:Nat):Int)),J (0),J (0),.string (⟨#[]⟩),J (0)]) jv jG N)<|tf (vs:=[.agg #[J (13),.string (⟨#[]⟩),J (((i:Nat):Int)),J (0),J (0),.string (⟨#[]⟩),J (0)]]) H pE jG Z Z Z Z Z Z fun w3 b26 H=>vf (Y:=mn) uV (K:=[(b26,_),(b5,_)]) (L:=L) (M:=[]) H ho (es:=io i) (news:=[Eb i]) Z Z Z (wr.row (m:=1) (sz:=mn.sz) (H.ent (i:=0) Z) Z) (by simp only[bQ];rw[qk];omega) Z ?_
 intro A5 c5 w4 L5 h5 h5m ho5 H
 rw[<-FY]at ho5 h5⊢
 refine G (Ws Z)<|U<|Zr<|G (bu Z Z I I)<|G (Yi Z)<|U ?_
 exact⟨(i+1,A5,c5,L5),⟨by omega,ho5,H.forget (.cons _ (ap _)) (fun _ h=>h)⟩,lh Z Z,Qg,by show np- (i+1)<np-i;omega⟩
 refine U<|W<|ZF Z<|Zx<|W<|W<|Zr<|tf (vs:=[.string (⟨#[97,110,110]⟩),.string (⟨#[98,111,98]⟩)]) H ik ww Z Z Z Z Z Z fun w5 b29 H=>G (bn lV Z)<|G (Yi Z)<|U<|Zb ?_
 obtain rfl:np=i:=by omega
 refine ce (τ:=Nat×Option Addr×Nat×List (Nat×Obj)) [9,12,31,32,33,34,35,36,37,38,39,40] (fun(j,A,c,_)=>[(31,J (j:Nat)),(9,.slice A (io np++tW j).length c)]) (fun(j,A,c,L) w'=>j<=2/\f4 mn (.slice A (io np++tW j).length c) fS (io np++tW j) L/\Hp w w' ((b29,.cells #[.string (⟨#[97,110,110]⟩),.string (⟨#[98,111,98]⟩)] kH (0,0))::(b5,.cells #[J (((np:Nat):Int)),J (((nr:Nat):Int)),J (few),J (wt)] je (0,0))::(L++[])) ([dA rT 0 w.heap.size A0 l])) (fun(j,_)=>2-j) (0,A,c,L) ⟨by omega,by show f4 mn (.slice A (io np++[]).length c) fS (io np++[]) L;rw[aY];exact ho,H⟩ (lh Z (by show _=Value.slice A (io np++[]).length c;rw[aY];rfl)) ?_
 rintro⟨j,A,c,L⟩ ρ1 w6 ⟨hj,ho,H⟩
 show CW _ _ _ _ (dB (gJ _ _ ρ1) [(31,J (j:Nat)),(9,.slice A (io np++tW j).length c)]) w6
 refine W<|Zr ?_
 refine cU (cG Z Z) Z Z Z (fun h32=> ?_) (fun h32=> ?_)
 refine U<|W<|ZT Z<|Zk<|W<|Zb<|W<|Zr<|G (qM ik Z Z I I)<|G (aV bc Z (aC (H.ent (i:=0) Z) (K4 I)))<|G (Wt Z)<|U<|Zr<|G (Ys Z)<|G (Yt Z)<|G (bi (cs:= #[J (1),.string (p6 j),J (0),J (0),J (0),.string (⟨#[]⟩),J (0)]) jv jG N)<|tf (vs:=[.agg #[J (1),.string (p6 j),J (0),J (0),J (0),.string (⟨#[]⟩),J (0)]]) H pE jG Z Z Z Z Z Z fun w7 b38 H=>vf (Y:=mn) uV (K:=[(b38,_),(b29,_),(b5,_)]) (L:=L) (M:=[]) H ho (es:=io np++tW j) (news:=[Av (p6 j)]) Z Z Z (wr.row (m:=1) (sz:=mn.sz) (H.ent (i:=0) Z) Z) (by simp only[bQ];rw[ay,qk];unfold tW;rw[bw,List.length_range];omega) Z ?_
 intro A5 c5 w8 L5 h5 h5m ho5 H
 rw[Hc]at ho5 h5⊢
 refine G (Ws Z)<|U<|Zr<|G (bu Z Z I I)<|G (Yi Z)<|U ?_
 exact⟨(j+1,A5,c5,L5),⟨by omega,ho5,H.forget (.cons _ (ap _)) (fun _ h=>h)⟩,lh Z Z,Qg,by show 2- (j+1)<2-j;omega⟩
 refine U<|W<|ZF Z<|Zx<|W ?_
 obtain rfl:j=2:=by omega
 refine Zr<|G (Ys Z)<|G (bi (cs:= #[J (16),.string (⟨#[99,121]⟩),J (0),J (0),J (0),.string (⟨#[]⟩),J (0)]) jv jG N)<|tf (vs:=[.agg #[J (16),.string (⟨#[99,121]⟩),J (0),J (0),J (0),.string (⟨#[]⟩),J (0)]]) H pE jG Z Z Z Z Z Z fun w9 b43 H=>vf (Y:=mn) uV (K:=[(b43,_),(b29,_),(b5,_)]) (L:=L) (M:=[]) H ho (es:=io np++tW 2) (news:=[G9 (p6 2)]) Z Z Z (wr.row (m:=1) (sz:=mn.sz) (H.ent (i:=0) Z) Z) (by simp only[bQ];rw[ay,qk];show(np+2+1)*_<=_;omega) Z ?_
 intro A5 c5 w10 L5 h5 h5m ho5 H
 rw[KH]at ho5 h5⊢
 refine G (Ws Z)<|U<|W<|Zr<|G (Wi Z)<|U<|W<|W<|Zr<|G (Wi Z)<|U<|Zb ?_
 refine ce (τ:=Nat×List Act×Option Addr×Nat×List (Nat×Obj)) [9,14,15,16,17,45,46,47,48,49,50,51,52,53,54,55,56,57,58,59,60,61,62,63,64,65,66,67,68,69,70,71,72,73,74,75,76,77,78,79,80,81,82,83,84,85,86,87,88,89,90,91,92,93,94,95,96,97,98,99,100,101,102,103,104,105,106,107,108,109,110,111,112,113,114,115,116,117,118,119,120,121,122,123,124,125,126,127,128,129,130,131,132,133,134,135,136,137,138,139,140,141,142,143,144,145,146,147,148,149,150,151,152,153,154,155,156,157,158,159,160,161,162,163,164,165,166,167,168,169,170,171,172,173,174,175,176,177,178,179,180,181,182,183,184,185,186,187,188,189,190,191,192,193,194,195,196,197,198,199,200,201,202,203,204,205,206,207,208,209,210,211,212,213,214,215,216,217,218,219,220,221,222,223,224,225,226,227,228,229,230,231,232,233] (fun(i,es,A,c,_)=>[(14,J (i:Nat)),(9,.slice A (jI np++es).length c)]) (fun(i,es,A,c,L) w'=>i<=l.length/\i<=most/\es.length=i/\(∀ a∈es,Gn np nr hard a)/\f4 mn (.slice A (jI np++es).length c) fS (jI np++es) L/\Hp w w' ((b29,.cells #[.string (⟨#[97,110,110]⟩),.string (⟨#[98,111,98]⟩)] kH (0,0))::(b5,.cells #[J (((np:Nat):Int)),J (((nr:Nat):Int)),J (few),J (wt)] je (0,0))::(L++[])) ([dA rT 0 w.heap.size A0 l])) (fun(i,_)=>l.length-i) (0,[],A5,c5,L5) ⟨bD _,bD _,rfl,by simp,by rw[aY];exact ho5,H.forget (.cons _ (ap _)) (fun _ h=>h)⟩ (lh Z (by show _=Value.slice A5 (jI np++[]).length c5;rw[aY];rfl)) ?_
 rintro⟨i,es,A,c,L⟩ ρ1 w11 ⟨hi,him,hel,hes,ho,H⟩
 show CW _ _ _ _ (dB (gJ _ _ ρ1) [(14,J (i:Nat)),(9,.slice A (jI np++es).length c)]) w11
 refine W<|W<|Zr<|G (Yi Z)<|G (Ys Z)<|G (bn Lf Z) ?_
 refine cU (cG Z Z) Z Z Z (fun h48=> ?_) (fun h48=> ?_)
 refine G (Yb Z)<|ZG<|G (Yi Z)<|ZG<|G (Yi Z)<|ZG ?_
 refine cU (cG Z Z) Z Z Z (fun h52=> ?_) (fun h52=> ?_)
 refine G (Kt Z Z)<|U<|ZT Z<|Zk<|W<|Zb<|W ?_
 obtain⟨x,hx⟩: ∃ x,l[i]? =some x:=⟨_,ah I⟩
 have hxo:=hok x (ae hx)
 obtain⟨z,hz⟩: ∃ z,(hard&&decide (((pk x.c 6:Nat):Int)=0))=z:=⟨_,rfl⟩
 have hq0:=i6 x.a (show 0<2 by omega)
 have hq1:=i6 x.c (show 0<2 by omega)
 have hq2:=i6 x.c (show 0<3 by omega)
 have hq3:=i6 x.c (show 0<4 by omega)
 have hq4:=i6 x.c (show 0<5 by omega)
 have hq5:=i6 x.c (show 0<6 by omega)
 have hq6:=i6 x.c (show 0<40 by omega)
 have hq7:=i6 x.a (show 0<nr by omega)
 have hq8:=i6 x.b (show 0<np by omega)
 have hq9:=i6 x.kind (show 0<30 by omega)
 refine Zr<|G (Ys Z)<|G (Yi Z)<|pI H 0 Z MH Z Z I I Z fun bq12 o12 x12 e12=> ?_
 obtain rfl:x=x12:=by have:=e12.at_;rw[hx]at this;exact bx this
 refine G (iw (xs:=Gk.cs x) NK Z Z e12.cl)<|ey H OX Z fun w13 b15 H=>bk H 0 (#[J (x.kind),J (x.a),J (x.b),J (x.c)]) MI Z Z Z Z Z N N fun w14 H=>U<|W ?_
 refine bB bY [0,1,4,5,6,7,2,3,8,9,10] [11] [2,3,8,10] [0,4,6,9] (sp [(2,Sp.one (J ((pk x.a 2:Nat):Int))),(3,Sp.one (.string (p6 (pk ((pk x.a 2:Nat):Int) 3)))),(8,Sp.one (J ((pk x.b np:Nat):Int))),(10,Sp.blk w14.heap.size (.agg #[J 0,.string ⟨#[]⟩,J 0,J 0,J 0,.string ⟨#[]⟩,J 0]) fS)]) N N N N Nq (cH _) ?_
 refine aw Z Z Z Z Z (fun w' hw'=>Zf mM Z)<|aw Z Z Z Z Z (fun w' hw'=>aV aj Z (aC ((H.later hw').ent (i:=0) Z) Z))<|aw Z Z Z Z Z (fun w' hw'=>Zf LJ Z)<|aw Z Z Z Z Z (fun w' hw'=>aV aj Z (aC ((H.later hw').ent (i:=0) Z) Z))<|aw Z Z Z Z Z (fun w' hw'=>Zf nK Z)<|aw Z Z Z Z Z (fun w' hw'=>aV aj Z (aC ((H.later hw').ent (i:=2) Z) Z))<|hJ aM Z Z Z Z Z (fun w' hw'=>dq x.a 2 w' hxo.2.1.1 hxo.2.1.2 I I) Z<|hJ uj Z Z Z Z Z (fun w' hw'=>Lh ((pk x.a 2:Nat):Int) w' PE) Z<|hJ aM Z Z Z Z Z (fun w' hw'=>dq x.b np w' hxo.2.2.1.1 hxo.2.2.1.2 I I) Z<|aw Z Z Z Z Z (fun w' hw'=>bi (cs:= #[J (0),.string (p6 (pk ((pk x.a 2:Nat):Int) 3)),J (((pk x.b np:Nat):Int)),J (0),J (0),.string (⟨#[]⟩),J (0)]) jv jG N)<|xu jG Z Z Z Z Z (fun w' hw'=>hw'.size) fun b16=>aT ?_
 intro w15 hw' hF
 obtain⟨hF,bq,eq,hge16,hbl16⟩:=hF;cases eq
 obtain⟨hF,-⟩:=hF
 obtain⟨hF,-⟩:=hF
 obtain⟨hF,-⟩:=hF
 have Hb:=H
 replace H:=H.adoptNew hw' hbl16 hge16
 clear hw' hF
 refine bk H 0 (#[J (0),.string (p6 (pk ((pk x.a 2:Nat):Int) 3)),J (((pk x.b np:Nat):Int)),J (0),J (0),.string (⟨#[]⟩),J (0)]) iL Z Z Z Z Z N N fun w16 H=>U<|W<|W ?_
 refine eD (τ:=Unit) [70,71,72,73,74,75,76] (fun _=>[(76,.bool z)]) (fun _ w'=>Hp w w' ((b16,.cells #[J (0),.string (p6 (pk ((pk x.a 2:Nat):Int) 3)),J (((pk x.b np:Nat):Int)),J (0),J (0),.string (⟨#[]⟩),J (0)] fS (0,0))::(b15,.cells #[J (x.kind),J (x.a),J (x.b),J (x.c)] vH (0,0))::(b29,.cells #[.string (⟨#[97,110,110]⟩),.string (⟨#[98,111,98]⟩)] kH (0,0))::(b5,.cells #[J (((np:Nat):Int)),J (((nr:Nat):Int)),J (few),J (wt)] je (0,0))::(L++[])) ([dA rT 0 w.heap.size A0 l])) ?_ ?_
 refine Zr<|G (Yb Z)<|G (Yb Z) ?_
 refine mE 71 Z (fun h71=> ?_) (fun h71=> ?_)
 refine ZG<|G (Zf ls Z)<|ZG<|G (Zd aj H 1 Z Z Z)<|ZG<|bW aM (dq x.c 6 _ hxo.2.2.2.1 hxo.2.2.2.2 I I) Z Z ?_
 rintro _ w17 ⟨rfl,hb⟩;replace H:=H.later hb;clear hb
 refine ZG ?_
 refine cU (bl Z Z) Z Z Z (fun h75=> ?_) (fun h75=> ?_)
 refine G (Kt Z Z)<|U ?_
 exact⟨(),H,dK (congrArg Value.bool (by rw[<-hz];simp[h71,h75]<;>omega)),Qg⟩
 refine G (Kt Z Z)<|U ?_
 exact⟨(),H,dK (congrArg Value.bool (by rw[<-hz];simp[h71,h75]<;>omega)),Qg⟩
 refine ZN<|ZN<|ZN<|ZN<|G (N Z Z)<|U ?_
 exact⟨(),H,dK (congrArg Value.bool (by rw[<-hz];simp[h71]<;>omega)),Qg⟩
 rintro _ ρ1 w18 H
 show CW _ _ _ _ (dB (gJ _ _ ρ1) [(76,.bool z)]) w18
 refine eD (τ:=Int) [77,78,79,80,81] (fun _=>[]) (fun lo w'=>(0<=lo/\lo<=2)/\(hard=false->lo=0)/\Hp w w' ((b16,.cells #[J (0),.string (p6 (pk ((pk x.a 2:Nat):Int) 3)),J (((pk x.b np:Nat):Int)),J (0),J (0),.string (⟨#[]⟩),J (lo)] fS (0,0))::(b15,.cells #[J (x.kind),J (x.a),J (x.b),J (x.c)] vH (0,0))::(b29,.cells #[.string (⟨#[97,110,110]⟩),.string (⟨#[98,111,98]⟩)] kH (0,0))::(b5,.cells #[J (((np:Nat):Int)),J (((nr:Nat):Int)),J (few),J (wt)] je (0,0))::(L++[])) ([dA rT 0 w.heap.size A0 l])) ?_ ?_
 refine jq Z (fun hc76=> ?_) (fun hc76=> ?_)
 refine Zr<|G (Zf mM Z)<|G (Zd aj H 1 Z Z Z)<|bW aM (dq x.a 2 _ hxo.2.1.1 hxo.2.1.2 I I) Z Z ?_
 rintro _ w19 ⟨rfl,hb⟩;replace H:=H.later hb;clear hb
 refine G (bu Z Z I I)<|G (Zf jL Z)<|bk H 0 (#[J (0),.string (p6 (pk ((pk x.a 2:Nat):Int) 3)),J (((pk x.b np:Nat):Int)),J (0),J (0),.string (⟨#[]⟩),J (1+(((pk x.a 2:Nat):Int)))]) bK Z Z Z Z Z N N fun w20 H=>U ?_
 exact⟨1+((pk x.a 2:Nat):Int),⟨by have:=i6 x.a (show 0<2 by omega);omega,fun hh=>(by rw[hc76,hh]at hz;cases hz),H⟩,wo,Qg⟩
 refine Zk ?_
 exact⟨0,⟨by omega,fun _=>rfl,H⟩,wo,Qg⟩
 rintro lo ρ1 w21 ⟨hlo1,hlo2,H⟩
 show CW _ _ _ _ (dB (gJ _ _ ρ1) []) w21
 refine W<|W<|Zr<|G (Zf LK Z)<|G (Zd aj H 1 Z Z Z)<|bW aM (dq x.kind 30 _ hxo.1.1 hxo.1.2 I I) Z Z ?_
 rintro _ w22 ⟨rfl,hb⟩;replace H:=H.later hb;clear hb
 refine G (Wi Z)<|U ?_
 refine eD (τ:=Act) [85,86,87,88,89,90,91,92,93,94,95,96,97,98,99,100,101,102,103,104,105,106,107,108,109,110,111,112,113,114,115,116,117,118,119,120,121,122,123,124,125,126,127,128,129,130,131,132,133,134,135,136,137,138,139,140,141,142,143,144,145,146,147,148,149,150,151,152,153,154,155,156,157,158,159,160,161,162,163,164,165,166,167,168,169,170,171,172,173,174,175,176,177,178,179,180,181,182,183,184,185,186,187,188,189,190,191,192,193,194,195,196,197,198,199,200,201,202,203,204,205,206,207,208,209,210,211,212,213,214,215,216,217,218,219,220,221,222,223,224,225,226,227,228,229] (fun _=>[]) (fun a w'=>Gn np nr hard a/\Hp w w' ((b16,.cells #[J (a.kind),.string (a.name),J (a.part),J (a.n),J (a.m),.string (a.text),J (a.lost)] fS (0,0))::(b15,.cells #[J (x.kind),J (x.a),J (x.b),J (x.c)] vH (0,0))::(b29,.cells #[.string (⟨#[97,110,110]⟩),.string (⟨#[98,111,98]⟩)] kH (0,0))::(b5,.cells #[J (((np:Nat):Int)),J (((nr:Nat):Int)),J (few),J (wt)] je (0,0))::(L++[])) ([dA rT 0 w.heap.size A0 l])) ?_ ?_
 refine Zb<|W<|Zr<|G (Yi Z) ?_
 refine cU (cG Z Z) Z Z Z (fun h103=> ?_) (fun h103=> ?_)
 refine G (Wb Z)<|U<|ZT Z<|W<|Zr<|G (Zf mN Z)<|bk H 0 (#[J (3),.string (p6 (pk ((pk x.a 2:Nat):Int) 3)),J (((pk x.b np:Nat):Int)),J (0),J (0),.string (⟨#[]⟩),J (lo)]) bK Z Z Z Z Z N N fun w23 H=>U<|Zr<|G (Zf ls Z)<|G (Zd aj H 1 Z Z Z)<|bW ui (Mx x.c _ hxo.2.2.2) Z Z ?_
 rintro _ w24 ⟨rfl,hb⟩;replace H:=H.later hb;clear hb
 refine G (Zf AT Z)<|bk H 0 (#[J (3),.string (p6 (pk ((pk x.a 2:Nat):Int) 3)),J (((pk x.b np:Nat):Int)),J (0),J (0),.string (vi x.c),J (lo)]) zM Z Z Z Z Z N N fun w25 H=>U ?_
 exact⟨(⟨3,p6 (pk ((pk x.a 2:Nat):Int) 3),((pk x.b np:Nat):Int),0,0,vi x.c,lo⟩:Act),⟨iW I (fun hh=>by have:=hlo2 hh;omega) (fun _=>rc _) (.inr ⟨_,rfl⟩),H⟩,wo,Qg⟩
 refine G (Wb Z)<|U<|ZF Z<|W<|Zr<|G (Yi Z) ?_
 refine cU (bl Z Z) Z Z Z (fun h111=> ?_) (fun h111=> ?_)
 refine G (Wb Z)<|U<|ZT Z<|Zr<|G (Zf mN Z)<|bk H 0 (#[J (4),.string (p6 (pk ((pk x.a 2:Nat):Int) 3)),J (((pk x.b np:Nat):Int)),J (0),J (0),.string (⟨#[]⟩),J (lo)]) bK Z Z Z Z Z N N fun w26 H=>U ?_
 exact⟨(⟨4,p6 (pk ((pk x.a 2:Nat):Int) 3),((pk x.b np:Nat):Int),0,0,⟨#[]⟩,lo⟩:Act),⟨iW I (fun hh=>by have:=hlo2 hh;omega) (fun _=>rc _) (.inl Z),H⟩,wo,Qg⟩
 refine G (Wb Z)<|U<|ZF Z<|W<|Zr<|G (Yi Z) ?_
 refine cU (cG Z Z) Z Z Z (fun h115=> ?_) (fun h115=> ?_)
 refine G (Wb Z)<|U<|ZT Z<|Zr<|G (Zf mN Z)<|bk H 0 (#[J (2),.string (p6 (pk ((pk x.a 2:Nat):Int) 3)),J (((pk x.b np:Nat):Int)),J (0),J (0),.string (⟨#[]⟩),J (lo)]) bK Z Z Z Z Z N N fun w27 H=>U ?_
 exact⟨(⟨2,p6 (pk ((pk x.a 2:Nat):Int) 3),((pk x.b np:Nat):Int),0,0,⟨#[]⟩,lo⟩:Act),⟨iW I (fun hh=>by have:=hlo2 hh;omega) (fun _=>rc _) (.inl Z),H⟩,wo,Qg⟩
 refine G (Wb Z)<|U<|ZF Z<|W<|Zr<|G (Yi Z) ?_
 refine cU (cG Z Z) Z Z Z (fun h119=> ?_) (fun h119=> ?_)
 refine G (Wb Z)<|U<|ZT Z<|W<|Zr<|G (Zf mN Z)<|bk H 0 (#[J (5),.string (p6 (pk ((pk x.a 2:Nat):Int) 3)),J (((pk x.b np:Nat):Int)),J (0),J (0),.string (⟨#[]⟩),J (lo)]) bK Z Z Z Z Z N N fun w28 H=>U<|Zr<|G (Zf ls Z)<|G (Zd aj H 1 Z Z Z)<|bW aM (dq x.c 2 _ hxo.2.2.2.1 hxo.2.2.2.2 I I) Z Z ?_
 rintro _ w29 ⟨rfl,hb⟩;replace H:=H.later hb;clear hb
 refine G (Zf eP Z)<|bk H 0 (#[J (5),.string (p6 (pk ((pk x.a 2:Nat):Int) 3)),J (((pk x.b np:Nat):Int)),J (((pk x.c 2:Nat):Int)),J (0),.string (⟨#[]⟩),J (lo)]) bK Z Z Z Z Z N N fun w30 H=>U ?_
 exact⟨(⟨5,p6 (pk ((pk x.a 2:Nat):Int) 3),((pk x.b np:Nat):Int),((pk x.c 2:Nat):Int),0,⟨#[]⟩,lo⟩:Act),⟨iW I (fun hh=>by have:=hlo2 hh;omega) (fun _=>rc _) (.inl Z),H⟩,wo,Qg⟩
 refine G (Wb Z)<|U<|ZF Z<|W<|Zr<|G (Yi Z) ?_
 refine cU (cG Z Z) Z Z Z (fun h127=> ?_) (fun h127=> ?_)
 refine G (Wb Z)<|U<|ZT Z<|Zr<|G (Zf mM Z)<|G (Zd aj H 1 Z Z Z)<|bW aM (dq x.a 2 _ hxo.2.1.1 hxo.2.1.2 I I) Z Z ?_
 rintro _ w31 ⟨rfl,hb⟩;replace H:=H.later hb;clear hb
 refine G (bi (cs:= #[J (6),.string (⟨#[]⟩),J (0),J (((pk x.a 2:Nat):Int)),J (0),.string (⟨#[]⟩),J (0)]) jv jG N)<|bk H 0 (#[J (6),.string (⟨#[]⟩),J (0),J (((pk x.a 2:Nat):Int)),J (0),.string (⟨#[]⟩),J (0)]) iL Z Z Z Z Z N N fun w32 H=>U ?_
 exact⟨(⟨6,⟨#[]⟩,0,((pk x.a 2:Nat):Int),0,⟨#[]⟩,0⟩:Act),⟨iW I (fun hh=>by have:=hlo2 hh;omega) (fun h=>by omega) (.inl Z),H⟩,wo,Qg⟩
 refine G (Wb Z)<|U<|ZF Z<|W<|Zr<|G (Yi Z) ?_
 refine cU (cG Z Z) Z Z Z (fun h134=> ?_) (fun h134=> ?_)
 refine G (Wb Z)<|U<|ZT Z ?_
 refine bB bY [0,1,2,3,4,5,6,7] [8] [6] [0,2,4,7] (sp [(6,Sp.one (J ((pk x.a nr:Nat):Int)))]) N N N N Nq (cH _) ?_
 refine aw Z Z Z Z Z (fun w' hw'=>Zf dU Z)<|aw Z Z Z Z Z (fun w' hw'=>aV aj Z (aC ((H.later hw').ent (i:=0) Z) Z))<|aw Z Z Z Z Z (fun w' hw'=>Zf mM Z)<|aw Z Z Z Z Z (fun w' hw'=>aV aj Z (aC ((H.later hw').ent (i:=1) Z) Z))<|aw Z Z Z Z Z (fun w' hw'=>Zf lO Z)<|aw Z Z Z Z Z (fun w' hw'=>aV aj Z (aC ((H.later hw').ent (i:=3) Z) Z))<|hJ aM Z Z Z Z Z (fun w' hw'=>dq x.a nr w' hxo.2.1.1 hxo.2.1.2 I I) Z<|aw Z Z Z Z Z (fun w' hw'=>bi (cs:= #[J (8),.string (⟨#[]⟩),J (((pk x.b np:Nat):Int)),J (((pk x.a nr:Nat):Int)),J (0),.string (⟨#[]⟩),J (0)]) jv jG N)<|aT ?_
 intro w33 hw' hF
 replace H:=H.later hw';clear hw' hF
 refine bk H 0 (#[J (8),.string (⟨#[]⟩),J (((pk x.b np:Nat):Int)),J (((pk x.a nr:Nat):Int)),J (0),.string (⟨#[]⟩),J (0)]) iL Z Z Z Z Z N N fun w34 H=>U ?_
 exact⟨(⟨8,⟨#[]⟩,((pk x.b np:Nat):Int),((pk x.a nr:Nat):Int),0,⟨#[]⟩,0⟩:Act),⟨iW I (fun hh=>by have:=hlo2 hh;omega) (fun h=>by omega) (.inl Z),H⟩,wo,Qg⟩
 refine G (Wb Z)<|U<|ZF Z<|W<|Zr<|G (Yi Z) ?_
 refine cU (cG Z Z) Z Z Z (fun h145=> ?_) (fun h145=> ?_)
 refine G (Wb Z)<|U<|ZT Z ?_
 refine bB bY [0,1,2,3,4,5,6,7] [8] [6] [0,2,4,7] (sp [(6,Sp.one (J ((pk x.a nr:Nat):Int)))]) N N N N Nq (cH _) ?_
 refine aw Z Z Z Z Z (fun w' hw'=>Zf dU Z)<|aw Z Z Z Z Z (fun w' hw'=>aV aj Z (aC ((H.later hw').ent (i:=0) Z) Z))<|aw Z Z Z Z Z (fun w' hw'=>Zf mM Z)<|aw Z Z Z Z Z (fun w' hw'=>aV aj Z (aC ((H.later hw').ent (i:=1) Z) Z))<|aw Z Z Z Z Z (fun w' hw'=>Zf lO Z)<|aw Z Z Z Z Z (fun w' hw'=>aV aj Z (aC ((H.later hw').ent (i:=3) Z) Z))<|hJ aM Z Z Z Z Z (fun w' hw'=>dq x.a nr w' hxo.2.1.1 hxo.2.1.2 I I) Z<|aw Z Z Z Z Z (fun w' hw'=>bi (cs:= #[J (9),.string (⟨#[]⟩),J (((pk x.b np:Nat):Int)),J (((pk x.a nr:Nat):Int)),J (0),.string (⟨#[]⟩),J (0)]) jv jG N)<|aT ?_
 intro w35 hw' hF
 replace H:=H.later hw';clear hw' hF
 refine bk H 0 (#[J (9),.string (⟨#[]⟩),J (((pk x.b np:Nat):Int)),J (((pk x.a nr:Nat):Int)),J (0),.string (⟨#[]⟩),J (0)]) iL Z Z Z Z Z N N fun w36 H=>U ?_
 exact⟨(⟨9,⟨#[]⟩,((pk x.b np:Nat):Int),((pk x.a nr:Nat):Int),0,⟨#[]⟩,0⟩:Act),⟨iW I (fun hh=>by have:=hlo2 hh;omega) (fun h=>by omega) (.inl Z),H⟩,wo,Qg⟩
 refine G (Wb Z)<|U<|ZF Z<|W<|Zr<|G (Yi Z) ?_
 refine cU (cG Z Z) Z Z Z (fun h156=> ?_) (fun h156=> ?_)
 refine G (Wb Z)<|U<|ZT Z ?_
 refine bB bY [0,1,2,3,4,5,6] [7] [4] [0,2,5,6] (sp [(4,Sp.one (J ((pk x.c 5:Nat):Int)))]) N N N N Nq (cH _) ?_
 refine aw Z Z Z Z Z (fun w' hw'=>Zf dU Z)<|aw Z Z Z Z Z (fun w' hw'=>aV aj Z (aC ((H.later hw').ent (i:=0) Z) Z))<|aw Z Z Z Z Z (fun w' hw'=>Zf ls Z)<|aw Z Z Z Z Z (fun w' hw'=>aV aj Z (aC ((H.later hw').ent (i:=1) Z) Z))<|hJ aM Z Z Z Z Z (fun w' hw'=>dq x.c 5 w' hxo.2.2.2.1 hxo.2.2.2.2 I I) Z<|aw Z Z Z Z Z (fun w' hw'=>bu Z Z I I)<|aw Z Z Z Z Z (fun w' hw'=>bi (cs:= #[J (19),.string (⟨#[99,121]⟩),J (((pk x.b np:Nat):Int)),J (1+(((pk x.c 5:Nat):Int))),J (0),.string (⟨#[]⟩),J (0)]) jv jG N)<|aT ?_
 intro w37 hw' hF
 replace H:=H.later hw';clear hw' hF
 refine bk H 0 (#[J (19),.string (⟨#[99,121]⟩),J (((pk x.b np:Nat):Int)),J (1+(((pk x.c 5:Nat):Int))),J (0),.string (⟨#[]⟩),J (0)]) iL Z Z Z Z Z N N fun w38 H=>U ?_
 exact⟨(⟨19,⟨#[99,121]⟩,((pk x.b np:Nat):Int),1+(((pk x.c 5:Nat):Int)),0,⟨#[]⟩,0⟩:Act),⟨iW I (fun hh=>by have:=hlo2 hh;omega) (fun _=>zn) (.inl Z),H⟩,wo,Qg⟩
 refine G (Wb Z)<|U<|ZF Z<|W<|Zr<|G (Yi Z) ?_
 refine cU (bl Z Z) Z Z Z (fun h166=> ?_) (fun h166=> ?_)
 refine G (Wb Z)<|U<|ZT Z ?_
 refine bB bY [0,1,2,3,4,5,6] [7] [5] [0,1,3,6] (sp [(5,Sp.one (J ((pk x.c 6:Nat):Int)))]) N N N N Nq (cH _) ?_
 refine aw Z Z Z Z Z (fun w' hw'=>Yi Z)<|aw Z Z Z Z Z (fun w' hw'=>Zf dU Z)<|aw Z Z Z Z Z (fun w' hw'=>aV aj Z (aC ((H.later hw').ent (i:=0) Z) Z))<|aw Z Z Z Z Z (fun w' hw'=>Zf ls Z)<|aw Z Z Z Z Z (fun w' hw'=>aV aj Z (aC ((H.later hw').ent (i:=1) Z) Z))<|hJ aM Z Z Z Z Z (fun w' hw'=>dq x.c 6 w' hxo.2.2.2.1 hxo.2.2.2.2 I I) Z<|aw Z Z Z Z Z (fun w' hw'=>bi (cs:= #[J (20),.string (⟨#[99,121]⟩),J (((pk x.b np:Nat):Int)),J (1),J (((pk x.c 6:Nat):Int)),.string (⟨#[]⟩),J (0)]) jv jG N)<|aT ?_
 intro w39 hw' hF
 replace H:=H.later hw';clear hw' hF
 refine bk H 0 (#[J (20),.string (⟨#[99,121]⟩),J (((pk x.b np:Nat):Int)),J (1),J (((pk x.c 6:Nat):Int)),.string (⟨#[]⟩),J (0)]) iL Z Z Z Z Z N N fun w40 H=>U ?_
 exact⟨(⟨20,⟨#[99,121]⟩,((pk x.b np:Nat):Int),1,((pk x.c 6:Nat):Int),⟨#[]⟩,0⟩:Act),⟨iW I (fun hh=>by have:=hlo2 hh;omega) (fun _=>zn) (.inl Z),H⟩,wo,Qg⟩
 refine G (Wb Z)<|U<|ZF Z<|W<|Zr<|G (Yi Z) ?_
 refine cU (bl Z Z) Z Z Z (fun h176=> ?_) (fun h176=> ?_)
 refine G (Wb Z)<|U<|ZT Z<|Zr<|G (Zf ls Z)<|G (Zd aj H 1 Z Z Z)<|bW aM (dq x.c 4 _ hxo.2.2.2.1 hxo.2.2.2.2 I I) Z Z ?_
 rintro _ w41 ⟨rfl,hb⟩;replace H:=H.later hb;clear hb
 refine G (bi (cs:= #[J (7),.string (⟨#[]⟩),J (0),J (((pk x.c 4:Nat):Int)),J (0),.string (⟨#[]⟩),J (0)]) jv jG N)<|bk H 0 (#[J (7),.string (⟨#[]⟩),J (0),J (((pk x.c 4:Nat):Int)),J (0),.string (⟨#[]⟩),J (0)]) iL Z Z Z Z Z N N fun w42 H=>U ?_
 exact⟨(⟨7,⟨#[]⟩,0,((pk x.c 4:Nat):Int),0,⟨#[]⟩,0⟩:Act),⟨iW I (fun hh=>by have:=hlo2 hh;omega) (fun h=>by omega) (.inl Z),H⟩,wo,Qg⟩
 refine G (Wb Z)<|U<|ZF Z<|W<|Zr<|G (Yi Z) ?_
 refine cU (bl Z Z) Z Z Z (fun h183=> ?_) (fun h183=> ?_)
 refine G (Wb Z)<|U<|ZT Z<|Zr<|G (Yi Z)<|G (bi (cs:= #[J (18),.string (⟨#[99,121]⟩),J (0),J (1),J (0),.string (⟨#[]⟩),J (0)]) jv jG N)<|bk H 0 (#[J (18),.string (⟨#[99,121]⟩),J (0),J (1),J (0),.string (⟨#[]⟩),J (0)]) iL Z Z Z Z Z N N fun w43 H=>U ?_
 exact⟨(⟨18,⟨#[99,121]⟩,0,1,0,⟨#[]⟩,0⟩:Act),⟨iW I (fun hh=>by have:=hlo2 hh;omega) (fun _=>zn) (.inl Z),H⟩,wo,Qg⟩
 refine G (Wb Z)<|U<|ZF Z<|W<|Zr<|G (Yb Z)<|G (dI Z)<|G (Wb Z)<|U ?_
 refine jq Z (fun hc186=> ?_) (fun hc186=> ?_)
 refine bB bY [0,1,2,3,4,5,6,7] [8] [6] [0,2,4,7] (sp [(6,Sp.one (J ((pk x.a nr:Nat):Int)))]) N N N N Nq (cH _) ?_
 refine aw Z Z Z Z Z (fun w' hw'=>Zf dU Z)<|aw Z Z Z Z Z (fun w' hw'=>aV aj Z (aC ((H.later hw').ent (i:=0) Z) Z))<|aw Z Z Z Z Z (fun w' hw'=>Zf mM Z)<|aw Z Z Z Z Z (fun w' hw'=>aV aj Z (aC ((H.later hw').ent (i:=1) Z) Z))<|aw Z Z Z Z Z (fun w' hw'=>Zf lO Z)<|aw Z Z Z Z Z (fun w' hw'=>aV aj Z (aC ((H.later hw').ent (i:=3) Z) Z))<|hJ aM Z Z Z Z Z (fun w' hw'=>dq x.a nr w' hxo.2.1.1 hxo.2.1.2 I I) Z<|aw Z Z Z Z Z (fun w' hw'=>bi (cs:= #[J (9),.string (⟨#[]⟩),J (((pk x.b np:Nat):Int)),J (((pk x.a nr:Nat):Int)),J (0),.string (⟨#[]⟩),J (0)]) jv jG N)<|aT ?_
 intro w44 hw' hF
 replace H:=H.later hw';clear hw' hF
 refine bk H 0 (#[J (9),.string (⟨#[]⟩),J (((pk x.b np:Nat):Int)),J (((pk x.a nr:Nat):Int)),J (0),.string (⟨#[]⟩),J (0)]) iL Z Z Z Z Z N N fun w45 H=>U ?_
 exact⟨(⟨9,⟨#[]⟩,((pk x.b np:Nat):Int),((pk x.a nr:Nat):Int),0,⟨#[]⟩,0⟩:Act),⟨iW I (fun hh=>by have:=hlo2 hh;omega) (fun h=>by omega) (.inl Z),H⟩,wo,Qg⟩
 refine W<|Zr<|G (Yi Z) ?_
 refine cU (bl Z Z) Z Z Z (fun h199=> ?_) (fun h199=> ?_)
 refine G (Wb Z)<|U<|ZT Z ?_
 refine bB bY [0,1,4,5,6,7,8,9,11,12,2,3,10,13,14] [15] [2,10,13] [0,3,4,6,8,11,14] (sp [(2,Sp.one (J ((pk x.c 3:Nat):Int))),(10,Sp.one (J ((pk x.a nr:Nat):Int))),(13,Sp.one (J ((pk x.c 40:Nat):Int)))]) N N N N Nq (cH _) ?_
 refine aw Z Z Z Z Z (fun w' hw'=>Zf ls Z)<|aw Z Z Z Z Z (fun w' hw'=>aV aj Z (aC ((H.later hw').ent (i:=1) Z) Z))<|aw Z Z Z Z Z (fun w' hw'=>Zf dU Z)<|aw Z Z Z Z Z (fun w' hw'=>aV aj Z (aC ((H.later hw').ent (i:=0) Z) Z))<|aw Z Z Z Z Z (fun w' hw'=>Zf mM Z)<|aw Z Z Z Z Z (fun w' hw'=>aV aj Z (aC ((H.later hw').ent (i:=1) Z) Z))<|aw Z Z Z Z Z (fun w' hw'=>Zf lO Z)<|aw Z Z Z Z Z (fun w' hw'=>aV aj Z (aC ((H.later hw').ent (i:=3) Z) Z))<|aw Z Z Z Z Z (fun w' hw'=>Zf ls Z)<|aw Z Z Z Z Z (fun w' hw'=>aV aj Z (aC ((H.later hw').ent (i:=1) Z) Z))<|hJ aM Z Z Z Z Z (fun w' hw'=>dq x.c 3 w' hxo.2.2.2.1 hxo.2.2.2.2 I I) Z<|aw Z Z Z Z Z (fun w' hw'=>bu Z Z I I)<|hJ aM Z Z Z Z Z (fun w' hw'=>dq x.a nr w' hxo.2.1.1 hxo.2.1.2 I I) Z<|hJ aM Z Z Z Z Z (fun w' hw'=>dq x.c 40 w' hxo.2.2.2.1 hxo.2.2.2.2 I I) Z<|aw Z Z Z Z Z (fun w' hw'=>bi (cs:= #[J (10+(((pk x.c 3:Nat):Int))),.string (⟨#[]⟩),J (((pk x.b np:Nat):Int)),J (((pk x.a nr:Nat):Int)),J (((pk x.c 40:Nat):Int)),.string (⟨#[]⟩),J (0)]) jv jG N)<|aT ?_
 intro w46 hw' hF
 replace H:=H.later hw';clear hw' hF
 refine bk H 0 (#[J (10+(((pk x.c 3:Nat):Int))),.string (⟨#[]⟩),J (((pk x.b np:Nat):Int)),J (((pk x.a nr:Nat):Int)),J (((pk x.c 40:Nat):Int)),.string (⟨#[]⟩),J (0)]) iL Z Z Z Z Z N N fun w47 H=>U ?_
 exact⟨(⟨10+(((pk x.c 3:Nat):Int)),⟨#[]⟩,((pk x.b np:Nat):Int),((pk x.a nr:Nat):Int),((pk x.c 40:Nat):Int),⟨#[]⟩,0⟩:Act),⟨iW I (fun hh=>by rw[hh]at hc186;cases hc186) (fun h=>by omega) (.inl Z),H⟩,wo,Qg⟩
 refine G (Wb Z)<|U<|ZF Z<|W<|Zr<|G (Yi Z) ?_
 refine cU (bl Z Z) Z Z Z (fun h217=> ?_) (fun h217=> ?_)
 refine G (Wb Z)<|U<|ZT Z ?_
 refine bB bY [0,1,4,5,6,7,8,9,2,3,10,11] [12] [2,10] [0,3,4,6,8,11] (sp [(2,Sp.one (J ((pk x.c 3:Nat):Int))),(10,Sp.one (J ((pk x.a nr:Nat):Int)))]) N N N N Nq (cH _) ?_
 refine aw Z Z Z Z Z (fun w' hw'=>Zf ls Z)<|aw Z Z Z Z Z (fun w' hw'=>aV aj Z (aC ((H.later hw').ent (i:=1) Z) Z))<|aw Z Z Z Z Z (fun w' hw'=>Zf dU Z)<|aw Z Z Z Z Z (fun w' hw'=>aV aj Z (aC ((H.later hw').ent (i:=0) Z) Z))<|aw Z Z Z Z Z (fun w' hw'=>Zf mM Z)<|aw Z Z Z Z Z (fun w' hw'=>aV aj Z (aC ((H.later hw').ent (i:=1) Z) Z))<|aw Z Z Z Z Z (fun w' hw'=>Zf lO Z)<|aw Z Z Z Z Z (fun w' hw'=>aV aj Z (aC ((H.later hw').ent (i:=3) Z) Z))<|hJ aM Z Z Z Z Z (fun w' hw'=>dq x.c 3 w' hxo.2.2.2.1 hxo.2.2.2.2 I I) Z<|aw Z Z Z Z Z (fun w' hw'=>bu Z Z I I)<|hJ aM Z Z Z Z Z (fun w' hw'=>dq x.a nr w' hxo.2.1.1 hxo.2.1.2 I I) Z<|aw Z Z Z Z Z (fun w' hw'=>bi (cs:= #[J (13+(((pk x.c 3:Nat):Int))),.string (⟨#[]⟩),J (((pk x.b np:Nat):Int)),J (((pk x.a nr:Nat):Int)),J (0),.string (⟨#[]⟩),J (0)]) jv jG N)<|aT ?_
 intro w48 hw' hF
 replace H:=H.later hw';clear hw' hF
 refine bk H 0 (#[J (13+(((pk x.c 3:Nat):Int))),.string (⟨#[]⟩),J (((pk x.b np:Nat):Int)),J (((pk x.a nr:Nat):Int)),J (0),.string (⟨#[]⟩),J (0)]) iL Z Z Z Z Z N N fun w49 H=>U ?_
 exact⟨(⟨13+(((pk x.c 3:Nat):Int)),⟨#[]⟩,((pk x.b np:Nat):Int),((pk x.a nr:Nat):Int),0,⟨#[]⟩,0⟩:Act),⟨iW I (fun hh=>by rw[hh]at hc186;cases hc186) (fun h=>by omega) (.inl Z),H⟩,wo,Qg⟩
 refine G (Wb Z)<|U<|ZF Z<|mO bY (fun w'=>w'.heap[b15]? =some (.cells #[J (x.kind),J (x.a),J (x.b),J (x.c)] vH (0,0))/\w'.heap[b5]? =some (.cells #[J (((np:Nat):Int)),J (((nr:Nat):Int)),J (few),J (wt)] je (0,0))/\ ∃ cs,w'.heap[b16]? =some (.cells cs fS (0,0))/\cs[1]? =some (.string (p6 (pk ((pk x.a 2:Nat):Int) 3)))/\cs[2]? =some (J ((pk x.b np:Nat):Int))) ?_
 intro w50 hw';replace H:=H.later hw';clear hw'
 refine az 1 N N N Z Z Z Z Nq ⟨H.ent (i:=1) Z,H.ent (i:=3) Z,_,H.ent (i:=0) Z,rfl,rfl⟩ (fun _ hS=>Zf ls Z)<|az 2 N N N Z Z Z Z Nq ⟨H.ent (i:=1) Z,H.ent (i:=3) Z,_,H.ent (i:=0) Z,rfl,rfl⟩ (fun _ hS=>aV aj Z (aC hS.1 Z))<|az 6 N N N Z Z Z Z Nq ⟨H.ent (i:=1) Z,H.ent (i:=3) Z,_,H.ent (i:=0) Z,rfl,rfl⟩ (fun _ hS=>Zf fb Z)<|az 7 N N N Z Z Z Z Nq ⟨H.ent (i:=1) Z,H.ent (i:=3) Z,_,H.ent (i:=0) Z,rfl,rfl⟩ (fun _ hS=>aV bc Z (hS.2.2.elim fun _ h=>aC h.1 h.2.1))<|az 8 N N N Z Z Z Z Nq ⟨H.ent (i:=1) Z,H.ent (i:=3) Z,_,H.ent (i:=0) Z,rfl,rfl⟩ (fun _ hS=>Zf dU Z)<|az 9 N N N Z Z Z Z Nq ⟨H.ent (i:=1) Z,H.ent (i:=3) Z,_,H.ent (i:=0) Z,rfl,rfl⟩ (fun _ hS=>aV aj Z (hS.2.2.elim fun _ h=>aC h.1 h.2.2))<|az 10 N N N Z Z Z Z Nq ⟨H.ent (i:=1) Z,H.ent (i:=3) Z,_,H.ent (i:=0) Z,rfl,rfl⟩ (fun _ hS=>Zf mM Z)<|az 11 N N N Z Z Z Z Nq ⟨H.ent (i:=1) Z,H.ent (i:=3) Z,_,H.ent (i:=0) Z,rfl,rfl⟩ (fun _ hS=>aV aj Z (aC hS.1 Z))<|az 12 N N N Z Z Z Z Nq ⟨H.ent (i:=1) Z,H.ent (i:=3) Z,_,H.ent (i:=0) Z,rfl,rfl⟩ (fun _ hS=>Zf lO Z)<|az 13 N N N Z Z Z Z Nq ⟨H.ent (i:=1) Z,H.ent (i:=3) Z,_,H.ent (i:=0) Z,rfl,rfl⟩ (fun _ hS=>aV aj Z (aC hS.2.1 Z)) ?_
 refine Mv 0 3 N Z Z ?_ ?_
 refine tf (vs:=[J (11),J (13),J (1)]) H ba wx Z Z Z Z Z Z fun w51 b85 H=>U ?_
 refine⟨⟨H.ent (i:=2) Z,H.ent (i:=4) Z,_,H.ent (i:=1) Z,rfl,rfl⟩,?_⟩
 refine pz 3 N Z<|bW aM (dq x.c 3 _ hxo.2.2.2.1 hxo.2.2.2.2 I I) Z Z ?_
 rintro _ w52 ⟨rfl,hb⟩;replace H:=H.later hb;clear hb
 refine U ?_
 refine⟨⟨H.ent (i:=2) Z,H.ent (i:=4) Z,_,H.ent (i:=1) Z,rfl,rfl⟩,?_⟩
 refine az 4 N N N Z Z Z Z Nq ⟨H.ent (i:=2) Z,H.ent (i:=4) Z,_,H.ent (i:=1) Z,rfl,rfl⟩ (fun _ hS=>qM ba Z Z I I) ?_
 refine Mv 5 14 N Z Z ?_ ?_
 refine G (aV aj Z (aC (H.ent (i:=0) Z) (tU (i6 x.c (show 0<3 by omega)))))<|U ?_
 refine⟨⟨H.ent (i:=2) Z,H.ent (i:=4) Z,_,H.ent (i:=1) Z,rfl,rfl⟩,?_⟩
 refine pz 14 N Z<|bW aM (dq x.a nr _ hxo.2.1.1 hxo.2.1.2 I I) Z Z ?_
 rintro _ w53 ⟨rfl,hb⟩;replace H:=H.later hb;clear hb
 refine U ?_
 refine⟨⟨H.ent (i:=2) Z,H.ent (i:=4) Z,_,H.ent (i:=1) Z,rfl,rfl⟩,?_⟩
 refine az 15 N N N Z Z Z Z Nq ⟨H.ent (i:=2) Z,H.ent (i:=4) Z,_,H.ent (i:=1) Z,rfl,rfl⟩ (fun _ hS=>bi (cs:= #[J (DG (pk x.c 3)),.string (p6 (pk ((pk x.a 2:Nat):Int) 3)),J (((pk x.b np:Nat):Int)),J (((pk x.a nr:Nat):Int)),J (0),.string (⟨#[]⟩),J (0)]) jv jG N)<|pz 16 N Z<|bk H 1 (#[J (DG (pk x.c 3)),.string (p6 (pk ((pk x.a 2:Nat):Int) 3)),J (((pk x.b np:Nat):Int)),J (((pk x.a nr:Nat):Int)),J (0),.string (⟨#[]⟩),J (0)]) iL Z Z Z Z Z N N fun w54 H=>U ?_
 refine⟨⟨H.ent (i:=2) Z,H.ent (i:=4) Z,_,H.ent (i:=1) Z,rfl,rfl⟩,?_⟩
 refine jf N ?_
 have hkd:=Ap (pk x.c 3)
 exact⟨(⟨DG (pk x.c 3),p6 (pk ((pk x.a 2:Nat):Int) 3),((pk x.b np:Nat):Int),((pk x.a nr:Nat):Int),0,⟨#[]⟩,0⟩:Act),⟨iW I (fun hh=>by rw[hh]at hc186;cases hc186) (fun _=>rc _) (.inl Z),H.forget ((.cons _ (ap _))) (fun _ h=>h)⟩,wo,Qg⟩
 refine bW aM (dq x.a nr _ hxo.2.1.1 hxo.2.1.2 I I) Z Z ?_
 rintro _ w55 ⟨rfl,hb⟩;replace H:=H.later hb;clear hb
 refine U ?_
 refine⟨⟨H.ent (i:=2) Z,H.ent (i:=4) Z,_,H.ent (i:=1) Z,rfl,rfl⟩,?_⟩
 refine pz 5 N Z<|G (aV aj Z (aC (H.ent (i:=0) Z) (tU (i6 x.c (show 0<3 by omega)))))<|U ?_
 refine⟨⟨H.ent (i:=2) Z,H.ent (i:=4) Z,_,H.ent (i:=1) Z,rfl,rfl⟩,?_⟩
 refine az 15 N N N Z Z Z Z Nq ⟨H.ent (i:=2) Z,H.ent (i:=4) Z,_,H.ent (i:=1) Z,rfl,rfl⟩ (fun _ hS=>bi (cs:= #[J (DG (pk x.c 3)),.string (p6 (pk ((pk x.a 2:Nat):Int) 3)),J (((pk x.b np:Nat):Int)),J (((pk x.a nr:Nat):Int)),J (0),.string (⟨#[]⟩),J (0)]) jv jG N)<|pz 16 N Z<|bk H 1 (#[J (DG (pk x.c 3)),.string (p6 (pk ((pk x.a 2:Nat):Int) 3)),J (((pk x.b np:Nat):Int)),J (((pk x.a nr:Nat):Int)),J (0),.string (⟨#[]⟩),J (0)]) iL Z Z Z Z Z N N fun w56 H=>U ?_
 refine⟨⟨H.ent (i:=2) Z,H.ent (i:=4) Z,_,H.ent (i:=1) Z,rfl,rfl⟩,?_⟩
 refine jf N ?_
 have hkd:=Ap (pk x.c 3)
 exact⟨(⟨DG (pk x.c 3),p6 (pk ((pk x.a 2:Nat):Int) 3),((pk x.b np:Nat):Int),((pk x.a nr:Nat):Int),0,⟨#[]⟩,0⟩:Act),⟨iW I (fun hh=>by rw[hh]at hc186;cases hc186) (fun _=>rc _) (.inl Z),H.forget ((.cons _ (ap _))) (fun _ h=>h)⟩,wo,Qg⟩
 refine bW aM (dq x.c 3 _ hxo.2.2.2.1 hxo.2.2.2.2 I I) Z Z ?_
 rintro _ w57 ⟨rfl,hb⟩;replace H:=H.later hb;clear hb
 refine U ?_
 refine⟨⟨H.ent (i:=1) Z,H.ent (i:=3) Z,_,H.ent (i:=0) Z,rfl,rfl⟩,?_⟩
 refine Mv 0 14 N Z Z ?_ ?_
 refine tf (vs:=[J (11),J (13),J (1)]) H ba wx Z Z Z Z Z Z fun w58 b85 H=>U ?_
 refine⟨⟨H.ent (i:=2) Z,H.ent (i:=4) Z,_,H.ent (i:=1) Z,rfl,rfl⟩,?_⟩
 refine az 4 N N N Z Z Z Z Nq ⟨H.ent (i:=2) Z,H.ent (i:=4) Z,_,H.ent (i:=1) Z,rfl,rfl⟩ (fun _ hS=>qM ba Z Z I I) ?_
 refine Mv 5 14 N Z Z ?_ ?_
 refine G (aV aj Z (aC (H.ent (i:=0) Z) (tU (i6 x.c (show 0<3 by omega)))))<|U ?_
 refine⟨⟨H.ent (i:=2) Z,H.ent (i:=4) Z,_,H.ent (i:=1) Z,rfl,rfl⟩,?_⟩
 refine pz 14 N Z<|bW aM (dq x.a nr _ hxo.2.1.1 hxo.2.1.2 I I) Z Z ?_
 rintro _ w59 ⟨rfl,hb⟩;replace H:=H.later hb;clear hb
 refine U ?_
 refine⟨⟨H.ent (i:=2) Z,H.ent (i:=4) Z,_,H.ent (i:=1) Z,rfl,rfl⟩,?_⟩
 refine az 15 N N N Z Z Z Z Nq ⟨H.ent (i:=2) Z,H.ent (i:=4) Z,_,H.ent (i:=1) Z,rfl,rfl⟩ (fun _ hS=>bi (cs:= #[J (DG (pk x.c 3)),.string (p6 (pk ((pk x.a 2:Nat):Int) 3)),J (((pk x.b np:Nat):Int)),J (((pk x.a nr:Nat):Int)),J (0),.string (⟨#[]⟩),J (0)]) jv jG N)<|pz 16 N Z<|bk H 1 (#[J (DG (pk x.c 3)),.string (p6 (pk ((pk x.a 2:Nat):Int) 3)),J (((pk x.b np:Nat):Int)),J (((pk x.a nr:Nat):Int)),J (0),.string (⟨#[]⟩),J (0)]) iL Z Z Z Z Z N N fun w60 H=>U ?_
 refine⟨⟨H.ent (i:=2) Z,H.ent (i:=4) Z,_,H.ent (i:=1) Z,rfl,rfl⟩,?_⟩
 refine jf N ?_
 have hkd:=Ap (pk x.c 3)
 exact⟨(⟨DG (pk x.c 3),p6 (pk ((pk x.a 2:Nat):Int) 3),((pk x.b np:Nat):Int),((pk x.a nr:Nat):Int),0,⟨#[]⟩,0⟩:Act),⟨iW I (fun hh=>by rw[hh]at hc186;cases hc186) (fun _=>rc _) (.inl Z),H.forget ((.cons _ (ap _))) (fun _ h=>h)⟩,wo,Qg⟩
 refine bW aM (dq x.a nr _ hxo.2.1.1 hxo.2.1.2 I I) Z Z ?_
 rintro _ w61 ⟨rfl,hb⟩;replace H:=H.later hb;clear hb
 refine U ?_
 refine⟨⟨H.ent (i:=2) Z,H.ent (i:=4) Z,_,H.ent (i:=1) Z,rfl,rfl⟩,?_⟩
 refine pz 5 N Z<|G (aV aj Z (aC (H.ent (i:=0) Z) (tU (i6 x.c (show 0<3 by omega)))))<|U ?_
 refine⟨⟨H.ent (i:=2) Z,H.ent (i:=4) Z,_,H.ent (i:=1) Z,rfl,rfl⟩,?_⟩
 refine az 15 N N N Z Z Z Z Nq ⟨H.ent (i:=2) Z,H.ent (i:=4) Z,_,H.ent (i:=1) Z,rfl,rfl⟩ (fun _ hS=>bi (cs:= #[J (DG (pk x.c 3)),.string (p6 (pk ((pk x.a 2:Nat):Int) 3)),J (((pk x.b np:Nat):Int)),J (((pk x.a nr:Nat):Int)),J (0),.string (⟨#[]⟩),J (0)]) jv jG N)<|pz 16 N Z<|bk H 1 (#[J (DG (pk x.c 3)),.string (p6 (pk ((pk x.a 2:Nat):Int) 3)),J (((pk x.b np:Nat):Int)),J (((pk x.a nr:Nat):Int)),J (0),.string (⟨#[]⟩),J (0)]) iL Z Z Z Z Z N N fun w62 H=>U ?_
 refine⟨⟨H.ent (i:=2) Z,H.ent (i:=4) Z,_,H.ent (i:=1) Z,rfl,rfl⟩,?_⟩
 refine jf N ?_
 have hkd:=Ap (pk x.c 3)
 exact⟨(⟨DG (pk x.c 3),p6 (pk ((pk x.a 2:Nat):Int) 3),((pk x.b np:Nat):Int),((pk x.a nr:Nat):Int),0,⟨#[]⟩,0⟩:Act),⟨iW I (fun hh=>by rw[hh]at hc186;cases hc186) (fun _=>rc _) (.inl Z),H.forget ((.cons _ (ap _))) (fun _ h=>h)⟩,wo,Qg⟩
 refine bW aM (dq x.a nr _ hxo.2.1.1 hxo.2.1.2 I I) Z Z ?_
 rintro _ w63 ⟨rfl,hb⟩;replace H:=H.later hb;clear hb
 refine U ?_
 refine⟨⟨H.ent (i:=1) Z,H.ent (i:=3) Z,_,H.ent (i:=0) Z,rfl,rfl⟩,?_⟩
 refine pz 0 N Z<|tf (vs:=[J (11),J (13),J (1)]) H ba wx Z Z Z Z Z Z fun w64 b85 H=>U ?_
 refine⟨⟨H.ent (i:=2) Z,H.ent (i:=4) Z,_,H.ent (i:=1) Z,rfl,rfl⟩,?_⟩
 refine az 4 N N N Z Z Z Z Nq ⟨H.ent (i:=2) Z,H.ent (i:=4) Z,_,H.ent (i:=1) Z,rfl,rfl⟩ (fun _ hS=>qM ba Z Z I I)<|pz 5 N Z<|G (aV aj Z (aC (H.ent (i:=0) Z) (tU (i6 x.c (show 0<3 by omega)))))<|U ?_
 refine⟨⟨H.ent (i:=2) Z,H.ent (i:=4) Z,_,H.ent (i:=1) Z,rfl,rfl⟩,?_⟩
 refine az 15 N N N Z Z Z Z Nq ⟨H.ent (i:=2) Z,H.ent (i:=4) Z,_,H.ent (i:=1) Z,rfl,rfl⟩ (fun _ hS=>bi (cs:= #[J (DG (pk x.c 3)),.string (p6 (pk ((pk x.a 2:Nat):Int) 3)),J (((pk x.b np:Nat):Int)),J (((pk x.a nr:Nat):Int)),J (0),.string (⟨#[]⟩),J (0)]) jv jG N)<|pz 16 N Z<|bk H 1 (#[J (DG (pk x.c 3)),.string (p6 (pk ((pk x.a 2:Nat):Int) 3)),J (((pk x.b np:Nat):Int)),J (((pk x.a nr:Nat):Int)),J (0),.string (⟨#[]⟩),J (0)]) iL Z Z Z Z Z N N fun w65 H=>U ?_
 refine⟨⟨H.ent (i:=2) Z,H.ent (i:=4) Z,_,H.ent (i:=1) Z,rfl,rfl⟩,?_⟩
 refine jf N ?_
 have hkd:=Ap (pk x.c 3)
 exact⟨(⟨DG (pk x.c 3),p6 (pk ((pk x.a 2:Nat):Int) 3),((pk x.b np:Nat):Int),((pk x.a nr:Nat):Int),0,⟨#[]⟩,0⟩:Act),⟨iW I (fun hh=>by rw[hh]at hc186;cases hc186) (fun _=>rc _) (.inl Z),H.forget ((.cons _ (ap _))) (fun _ h=>h)⟩,wo,Qg⟩
 rintro a ρ1 w66 ⟨hga,H⟩
 show CW _ _ _ _ (dB (gJ _ _ ρ1) []) w66
 refine Zr<|G (Ys Z)<|G (Zw dR H 0 Z Z Z)<|tf (vs:=[.agg #[J (a.kind),.string (a.name),J (a.part),J (a.n),J (a.m),.string (a.text),J (a.lost)]]) H pE jG Z Z Z Z Z Z fun w67 b232 H=>vf (Y:=mn) uV (K:=[(b232,_),(b16,_),(b15,_),(b29,_),(b5,_)]) (L:=L) (M:=[]) H ho (es:=jI np++es) (news:=[a]) Z Z Z (wr.row (m:=1) (sz:=mn.sz) (H.ent (i:=0) Z) Z) (by simp only[bQ];rw[ay];unfold jI;rw[ay,qk];show(np+3+es.length+1)*_<=_;omega) Z ?_
 intro A5 c5 w68 L5 h5 h5m ho5 H
 rw[aD]at ho5 h5⊢
 refine G (Ws Z)<|U<|Zr<|G (Yi Z)<|G (bu Z Z I I)<|G (Wi Z)<|U ?_
 exact⟨(i+1,es++[a],A5,c5,L5),⟨by omega,by omega,by rw[ay,hel];rfl,fun y hy=>(by rcases ar.1 hy with hy|hy;exact hes y hy;rw[aq.1 hy];exact hga),ho5,H.forget (.cons _ (.cons _ (.cons _ (ap _)))) (fun _ h=>h)⟩,lh Z Z,Qg,by show l.length- (i+1)<l.length-i;omega⟩
 refine G (Kt Z Z)<|U<|ZF Z<|Zx<|W<|Zr<|G (Ys Z)<|G (Ws Z)<|U<|Zt ?_
 exact cy (v:=.slice A (jI np++es).length c) Z Z ⟨es,A,c,L,rfl,by omega,hes,ho,H.forget (L':=L) (.cons _ (.cons _ (by rw[aY];exact ap _))) (by simp)⟩
 refine G (Yb Z)<|ZN<|ZN<|ZN<|G (N Z Z)<|U<|ZF Z<|Zx<|W<|Zr<|G (Ys Z)<|G (Ws Z)<|U<|Zt ?_
 exact cy (v:=.slice A (jI np++es).length c) Z Z ⟨es,A,c,L,rfl,by omega,hes,ho,H.forget (L':=L) (.cons _ (.cons _ (by rw[aY];exact ap _))) (by simp)⟩
def EB (lo hi:Nat) (r:Rn):cr:=⟨lo,hi,r.rd lo hi,fun _ _ hk h=>h.st hk⟩
def PR (w:World) (W0:Wa) (acts:List Act) (v:Value) (w2:World):Prop:= ∃ (xs:List Aq) (oA:Option Addr) (oC:Nat) (b:Bk),v=.tuple #[.slice oA xs.length oC,.agg b.c.toArray,.bool true]/\mV W0 acts (xs.map Aq.x) b.a/\(Rn.mk xs oA oC b).rd w.heap.size w2.heap.size w2/\Below w.heap.size w w2
theorem Du {a b:Int}:1<=1+pk a 3/\1+pk a 3<=4/\1<=1+pk b 3/\1+pk b 3<=5/\1<=1+pk a (1+pk b 3)/\1+pk a (1+pk b 3)<=1+pk b 3/\(1:Int)<=5+(pk b 20:Nat)/\(5:Int)+(pk b 20:Nat)<=1000:=by
 have p1:=i6 a (show 0<3 by omega)
 have p2:=i6 b (show 0<3 by omega)
 have p3:=i6 a (show 0<1+pk b 3 by omega)
 have p4:=i6 b (show 0<20 by omega)
 omega
theorem Ee (es:List Act) (A:Option Addr) (c:Nat) (w:World) (hr:Rd mn 0 w.heap.size A es w) (hb:es.length*72<=140737488355328):
  dd aa rZ [.slice A es.length c] w fun v w2=> ∃ A' c' L',v=.slice A' es.length c'/\es.length<=c'/\c'<=maxLen/\f4 mn (.slice A' es.length c') fS es L'/\Hp w w2 L' []:=by
 refine aF rz Z Z ?_
 have H:=Hp.startRd hr
 refine W<|Zr<|G (Ws Z)<|U<|W<|W<|Zr<|G (Ys Z) ?_
 refine wq (pB wL Z) Z Z Z (fun h4=> ?_) (fun h4=> ?_)
 refine U<|ZT Z<|W<|Zr<|G (Ws Z)<|U<|Zt ?_
 have he:es=[]:=by
  cases es with
  |nil=>rfl
  |cons e es=>obtain⟨b,o,hA,_⟩:=hr (by simp);subst hA;cases h4
 subst he
 exact cy Z Z ⟨none,0,[],rfl,by simp,by decide,f4.nil,H.forget (by simp) (by simp)⟩
 refine U<|ZF Z<|Zk<|W<|Zr<|NF H pE Z fun w1 b5 H=>G (Ys Z)<|vf (Y:=mn) uV (K:=[]) (L:=[(b5,_)]) (M:=[]) H (rL.lit (by decide) (by rfl)) (es:=[]) (news:=es) Z Z Z (Rd.src (H.fact (i:=0) Z)) (by simpa using hb) Z ?_
 intro A3 c3 w3 L3 h3a h3b ho3 H
 refine G (Ws Z)<|U<|Zt ?_
 exact cy Z Z ⟨A3,c3,L3,rfl,h3a,h3b,ho3,H.forget (by simp) (by simp)⟩
theorem uy {np nr few:Nat} {wt:Int} {acts:List Act} {A0:Option Addr} {c0:Nat} (w:World) (q1:1<=np) (q4:np<=4) (n1:1<=nr) (n5:nr<=5) (f1:1<=few) (f2:few<=nr) (t1:1<=wt) (t2:wt<=1000) (hr:Rd mn 0 w.heap.size A0 acts w) (hl:acts.length<=400) (hg: ∀ a∈acts,rN np nr a):dd aa wR [.agg #[J (np:Nat),J (nr:Nat),J (few:Nat),J wt],.slice A0 acts.length c0] w (PR w (re np nr few wt) acts):=by
 refine aF v6 Z Z ?_
 have H:=Hp.startRd hr
 show CW _ _ _ _ (args [.agg #[J (np:Nat),J (nr:Nat),J (few:Nat),J wt],.slice A0 acts.length c0]) w
 refine W<|Zr<|fX H Z Z fun w1 b2 H=>G (Ws Z)<|ey H kJ Z fun w2 b5 H=>G (Wb Z)<|U<|W<|Zr<|G (Zw nT H 1 Z Z Z)<|G (Ys Z)<|bW Ci (Oe _ q1 q4 n1 n5 f1 f2 t1 t2 (H.rd0 0 Z) hl hg) Z Z ?_
 have hlo:=H.size
 rintro _ w3 ⟨⟨xs,oA,oC,⟨ps,pA,pC,co,clo,chi,gr,glo,ghi,sns,snA,snC⟩⟩,rfl,hrun,hrd,hb⟩;replace H:=H.learn hb (EB w2.heap.size w3.heap.size ⟨xs,oA,oC,⟨ps,pA,pC,co,clo,chi,gr,glo,ghi,sns,snA,snC⟩⟩) hrd (ao _) (ao _)
 have hxl:xs.length=acts.length:=by have:=hrun.len;rwa[bw]at this
 refine G (Yu Z)<|G (Xs Z Z)<|G (Xa Z Z)<|G (Xi Z Z)<|ey H kJ Z fun w4 b8 H=>G (Ws Z)<|bk H 0 (#[.slice pA ps.length pC,J (co.clock),J (co.next),J (co.wait),.slice co.A co.txs.length co.cap,J (gr.clock),J (gr.wait),J (gr.gen),.slice gr.mA gr.ms.length gr.mC,.slice gr.oA gr.os.length gr.oC,.slice snA sns.length snC]) iG Z Z Z Z Z N N fun w5 H=>G (Wi Z)<|U<|W ?_
 refine bB bY [0,1,2,3,4,5,6,7,8,9,10,11] [12,13] [] [0,2,3,4,5,6,7,8,9,10,11] (sp []) N N N N Nq (cH _) ?_
 refine aw Z Z Z Z Z (fun w' hw'=>Ys Z)<|aw Z Z Z Z Z (fun w' hw'=>jh nS Z ((H.later hw').ent (i:=0) Z) Z)<|aw Z Z Z Z Z (fun w' hw'=>Yi Z)<|aw Z Z Z Z Z (fun w' hw'=>ud Z Z Z)<|aw Z Z Z Z Z (fun w' hw'=>Yb Z)<|aw Z Z Z Z Z (fun w' hw'=>Ys Z)<|aw Z Z Z Z Z (fun w' hw'=>bn Fu Z)<|aw Z Z Z Z Z (fun w' hw'=>Ys Z)<|aw Z Z Z Z Z (fun w' hw'=>bn wL Z)<|aw Z Z Z Z Z (fun w' hw'=>ud Z Z (by dsimp only;omega))<|aw Z Z Z Z Z (fun w' hw'=>Kt Z Z)<|aw Z Z Z Z Z (fun w' hw'=>Ws Z)<|aT ?_
 intro w6 hw' hF
 replace H:=H.later hw';clear hw' hF
 refine bk H 1 (#[.slice pA ps.length pC,J (co.clock),J (co.next),J (co.wait),.slice co.A co.txs.length co.cap,J (gr.clock),J (gr.wait),J (gr.gen),.slice gr.mA gr.ms.length gr.mC,.slice gr.oA gr.os.length gr.oC,.slice snA sns.length snC]) iG Z Z Z Z Z N N fun w7 H=>G (Wb Z)<|U<|Zt ?_
 exact LE (v0:=.slice oA xs.length oC) (cs1:= #[.slice pA ps.length pC,J (co.clock),J (co.next),J (co.wait),.slice co.A co.txs.length co.cap,J (gr.clock),J (gr.wait),J (gr.gen),.slice gr.mA gr.ms.length gr.mC,.slice gr.oA gr.os.length gr.oC,.slice snA sns.length snC]) (v2:=.bool true) Z Z nS Z (H.ent (i:=1) Z) Z Z ⟨xs,oA,oC,⟨ps,pA,pC,co,clo,chi,gr,glo,ghi,sns,snA,snC⟩,rfl,hrun,Rn.rd.mono (H.fact (i:=0) Z) hlo (H.facts _ (aB ..)).2.1,H.below⟩
theorem zh {l m:List Act} {A0 A1:Option Addr} {c0 c1:Nat} (w:World) (hr:Rd mn 0 w.heap.size A0 l w) (hs:Rd mn 0 w.heap.size A1 m w) (hl:l.length<=1000) (hm:m.length<=1000):dd aa vZ [.slice A0 l.length c0,.slice A1 m.length c1] w fun v w2=> ∃ (A:Option Addr) (c:Nat) (L:List (Nat×Obj)),v=.slice A (l++m).length c/\f4 mn (.slice A (l++m).length c) fS (l++m) L/\Hp w w2 L []:=by
 refine aF u7 Z Z ?_
 have H:=(Hp.startRd hr).learnOld (dA mn 0 w.heap.size A1 m) hs (ao _)
 show CW _ _ _ _ (args [.slice A0 l.length c0,.slice A1 m.length c1]) w
 refine W<|Zr<|G (Ws Z)<|U<|W<|Zr<|G (Ys Z)<|bW rJ (Ee l A0 c0 _ (H.rd0 1 Z) I) Z Z ?_
 rintro _ w1 ⟨A2,c2,L2,rfl,hc2,hm2,ho2,hj2⟩;replace H:=H.join hj2;clear hj2
 refine G (Ys Z)<|vf (Y:=mn) uV (K:=[]) (L:=L2) (M:=[]) H ho2 (es:=l) (news:=m) Z Z Z (Rd.src (H.fact (i:=0) Z)) I Z ?_
 intro A5 c5 w2 L5 h5 h5m ho5 H
 refine G (Ws Z)<|U<|Zt ?_
 exact cy (v:=.slice A5 (l++m).length c5) Z Z ⟨A5,c5,L5,rfl,ho5,H.forget (L':=L5) (by simp) (by simp)⟩
theorem IS {a b:Int} (ha:i64 a) (hb:i64 b): ∃ (np nr few:Nat) (wt:Int),1<=np/\np<=4/\1<=nr/\nr<=5/\1<=few/\few<=nr/\1<=wt/\wt<=1000/\ ∀ w:World,dd aa oq [J a,J b] w fun v w2=>v=.agg #[J (np:Nat),J (nr:Nat),J (few:Nat),J wt]/\Below w.heap.size w w2:=by
 obtain⟨h1,h2,h3,h4,h5,h6,h7,h8⟩:=@Du a b
 refine⟨1+pk a 3,1+pk b 3,1+pk a (1+pk b 3),5+(pk b 20:Nat),h1,h2,h3,h4,h5,h6,h7,by omega,fun w=>(Kx a b w ha hb).mono fun v w2 ⟨g1,g2⟩=>⟨?_,g2⟩⟩
 rw[g1,show((1+pk a 3:Nat):Int)=1+(pk a 3:Nat) by omega,show((1+pk b 3:Nat):Int)=1+(pk b 3:Nat) by omega,show((1+pk a (1+pk b 3):Nat):Int)=1+(pk a (1+pk b 3):Nat) by omega]
theorem yp {np nr:Nat} {hard:Bool} {body:List Act} (h1:1<=np) (hr:1<=nr) (hb: ∀ a∈body,Gn np nr hard a): ∀ a∈jI np++body,rN np nr a:=fun a ha=>by
 rcases ar.1 ha with ha|ha
 unfold jI at ha
 rcases ar.1 ha with ha|ha
 obtain⟨p,hp,rfl⟩:=bz.1 ha
 have:=List.mem_range.1 hp
 refine(iW (hard:=true) (k:=13) (pt:=p) (n:=0) (m:=0) (lo:=0) I (by simp) I (.inl Z)).g
 simp only[av,bo,or_false]at ha
 rcases ha with rfl|rfl|rfl<;>exact(iW (hard:=true) (pt:=0) (n:=0) (m:=0) (lo:=0) I (by simp) (fun _=>rc _) (.inl Z)).g
 exact(hb a ha).g
theorem Hp.rnPs {w0 w:World} {L:List (Nat×Obj)} {F:List cr} {lo hi:Nat} {r:Rn} (H:Hp w0 w L F) (i:Nat) (hF:F[i]? =some (EB lo hi r)):Hp w0 w L (dA Bv lo hi r.b.pA r.b.ps::F):=by
 refine⟨H.below,H.ents,H.nodup,fun f hf=> ?_⟩
 rcases av.1 hf with rfl|hf
 obtain⟨h1,h2,h3⟩:=H.facts _ (ae hF)
 exact⟨h1.ps,h2,h3⟩
 exact H.facts f hf
theorem Hp.rn0 {w0 w:World} {L:List (Nat×Obj)} {F:List cr} {lo hi:Nat} {r:Rn} (H:Hp w0 w L F) (i:Nat) (hF:F[i]? =some (EB lo hi r)):r.rd 0 w.heap.size w:=
 Rn.rd.mono (H.fact hF) (bD _) (H.facts _ (ae hF)).2.1
theorem ip (np:Nat) (body:List Act):(jI np++body).length=np+3+body.length:=by rw[ay];unfold jI;rw[ay,qk];rfl
theorem lq {np nr:Nat} {l m:List Act} (h1: ∀ a∈l,rN np nr a) (h2: ∀ a∈m,rN np nr a): ∀ a∈l++m,rN np nr a:=fun a ha=>by
 rcases ar.1 ha with ha|ha
 exact h1 a ha
 exact h2 a ha
theorem Dy {α:Type} {Y:fi α} {e:TypeId} {es:List α} {A:Option Addr} {n c:Nat} {L:List (Nat×Obj)} (h:f4 Y (.slice A n c) e es L):es.length<=c:=by
 obtain⟨_,_,e,h1,-⟩:=h.form
 cases e
 exact h1
theorem AZ (np:Nat) (m:List Act):(jI np++m).drop (np+3)=m:=by
 have:(jI np).length=np+3:=by have:=ip np [];simpa using this
 rw[<-this]
 simp
theorem Hp.rnReps {w0 w:World} {L:List (Nat×Obj)} {F:List cr} {lo hi:Nat} {r:Rn} (H:Hp w0 w L F) (i:Nat) (hF:F[i]? =some (EB lo hi r)) {q:Pq} (hq:q∈r.b.ps):Hp w0 w L (dA gx lo hi q.p.rA q.p.reps::F):=by
 refine⟨H.below,H.ents,H.nodup,fun f hf=> ?_⟩
 rcases av.1 hf with rfl|hf
 obtain⟨h1,h2,h3⟩:=H.facts _ (ae hF)
 exact⟨(h1.pa q hq).reps,h2,h3⟩
 exact H.facts f hf
theorem Lj {np nr few:Nat} {wt:Int} {l m:List Act} {xs ys:List An} {w1 w2:Wa} (n1:1<=nr) (n5:nr<=5) (f1:1<=few) (f2:few<=nr) (t1:1<=wt) (t2:wt<=1000) (q4:np<=4) (h1:mV (re np nr few wt) l xs w1) (h2:mV (re np nr few wt) (l++m) ys w2) (hl:l.length+m.length<=400) (hg: ∀ a∈l++m,rN np nr a): ∃ k K k' K',WI np nr few wt k K w1/\WI np nr few wt k' K' w2/\Up K K':=by
 obtain⟨us,zs,w3,-,g1,g2⟩:=h2.split
 obtain⟨-,rfl⟩:=h1.det g1
 obtain⟨K,-,i1⟩:=GI h1 (Id n1 n5 f1 f2 t1 t2) I q4 (fun a ha=>hg a (fU _ ha))
 obtain⟨K',u,i2⟩:=GI g2 i1 I q4 (fun a ha=>hg a (bX _ ha))
 exact⟨_,K,_,K',i1,i2,u⟩
theorem Nj {np nr few k k':Nat} {wt:Int} {K K':Nat->List cN} {b b2:Bk} (h1:WI np nr few wt k K b.a) (h2:WI np nr few wt k' K' b2.a) (u:Up K K') {n d i:Nat} {q q2:Pq} {r y:eR} (hq:b.ps[n]? =some q) (hq2:b2.ps[n]? =some q2) (hd:q2.p.leader=d) (hy:q2.p.reps[d]? =some y) (hr:q.p.reps[i]? =some r):
  ∃ ks:List cN,r.es.take ks.length=ks/\y.es.take ks.length=ks/\r.high=(ks.length:Nat)/\ks.length<=r.es.length/\ks.length<=y.es.length/\r.es.length<=400/\y.es.length<=400:=by
 have e1:b.a.ps[n]? =some q.p.a:=by show(b.ps.map fun q=>q.p.a)[n]? =_;rw[aJ,hq];rfl
 have e2:b2.a.ps[n]? =some q2.p.a:=by show(b2.ps.map fun q=>q.p.a)[n]? =_;rw[aJ,hq2];rfl
 have e3:q.p.a.reps[i]? =some r.a:=by show(q.p.reps.map eR.a)[i]? =_;rw[aJ,hr];rfl
 have e4:q2.p.a.reps[d]? =some y.a:=by show(q2.p.reps.map eR.a)[d]? =_;rw[aJ,hy];rfl
 obtain⟨a1,a2,a3⟩:=Lk h1 h2 u e1 e2 hd e4 e3
 have o1:=(h1.ps.gt n _ e1).1.ok.at_ e3
 have o2:=(h2.ps.gt n _ e2).1.ok.at_ e4
 change r.high.toNat<=r.es.length at a1
 change r.high.toNat<=y.es.length at a2
 change r.es.take r.high.toNat=y.es.take r.high.toNat at a3
 have hl:(r.es.take r.high.toNat).length=r.high.toNat:=by rw[aI];omega
 have h0:0<=r.high:=o1.high0
 have l1:r.es.length<=400:=o1.gl.len
 have l2:y.es.length<=400:=o2.gl.len
 exact⟨r.es.take r.high.toNat,by rw[hl],by rw[hl];exact a3.symm,by rw[hl];omega,by omega,by omega,l1,l2⟩
theorem Gu (l:List Gk) (A:Option Addr) (c:Nat) (m:List Gk) (A2:Option Addr) (c2:Nat) (a b:Int) (w:World) (hr:Rd rT 0 w.heap.size A l w) (hok: ∀ r∈l,r.ok) (_:l.length<=9223372036854775807) (hr2:Rd rT 0 w.heap.size A2 m w) (hok2: ∀ r∈m,r.ok) (_:m.length<=9223372036854775807) (ha:i64 a) (hb:i64 b):dd aa tp [.slice A l.length c,.slice A2 m.length c2,J a,J b] w fun v w2=>v=.bool true/\Below w.heap.size w w2:=by
 refine aF sO Z Z ?_
 have H:=(Hp.startRd hr).learnOld (dA rT 0 w.heap.size A2 m) hr2 (ao _)
 obtain⟨np,nr,few,wt,q1,q4,n1,n5,f1,f2,t1,t2,hset⟩:=IS ha hb
 refine W<|Zr<|G (Wb Z)<|U<|W<|Zr<|G (Yi Z)<|G (Yi Z)<|bW tA (hset _) Z Z ?_
 rintro _ w1 ⟨rfl,hb⟩;replace H:=H.later hb;clear hb
 refine ey H Dg Z fun w2 b9 H=>bk H 0 (#[J (((np:Nat):Int)),J (((nr:Nat):Int)),J (((few:Nat):Int)),J (wt)]) CB Z Z Z Z Z N N fun w3 H=>U<|W<|Zr<|G (Ys Z)<|G (Zw nT H 0 Z Z Z)<|bW kB (Ey (few:=few) (wt:=wt) (np:=np) (nr:=nr) (most:=50) (hard:=true) l _ _ _ q1 q4 n1 n5 I (H.rd0 1 Z) hok) Z Z ?_
 rintro _ w4 ⟨body,Abody,cbody,Lbody,rfl,hblbody,hbgbody,hbobody,hbjbody⟩;replace H:=H.learnOwn hbjbody hbobody
 have hagbody:=yp q1 I hbgbody
 refine G (Ws Z)<|U<|W<|Zr<|G (Zw nT H 0 Z Z Z)<|G (Ys Z)<|bW gd (uy (np:=np) (nr:=nr) (few:=few) (wt:=wt) (acts:=(jI np++body)) _ q1 q4 n1 n5 f1 f2 t1 t2 (H.rd0 0 Z) (by rw[ip];omega) hagbody) Z Z ?_
 rintro _ w5 ⟨xs,oA,oC,⟨ps,pA,pC,co,clo,chi,gr,glo,ghi,sns,snA,snC⟩,rfl,hrun,hrd,hrb⟩;replace H:=H.learn hrb (EB w4.heap.size w5.heap.size ⟨xs,oA,oC,⟨ps,pA,pC,co,clo,chi,gr,glo,ghi,sns,snA,snC⟩⟩) hrd (ao _) (ao _);clear hrd hrb
 refine G (Yu Z)<|G (Xs Z Z)<|G (Xa Z Z)<|G (Xb Z Z)<|ey H kJ Z fun w6 b12 H=>G (Ws Z)<|bk H 0 (#[.slice pA ps.length pC,J (co.clock),J (co.next),J (co.wait),.slice co.A co.txs.length co.cap,J (gr.clock),J (gr.wait),J (gr.gen),.slice gr.mA gr.ms.length gr.mC,.slice gr.oA gr.os.length gr.oC,.slice snA sns.length snC]) iG Z Z Z Z Z N N fun w7 H=>G (Wb Z)<|U<|W ?_
 refine eD (τ:=List Act×Rn×Nat×Nat×Nat) [14,15,16,41,42,43,44,45,46,47,48,49,50,51,52,53,54,55] (fun(_,r,b15,_,_)=>[(14,.slice r.oA r.xs.length r.oC),(15,.pointer (Qd b15)),(16,.bool true)]) (fun(bd2,r,b15,lo,hi) w'=>bd2.length<=50/\(∀ a∈(jI np++body++bd2),rN np nr a)/\mV (re np nr few wt) (jI np++body++bd2) (r.xs.map Aq.x) r.b.a/\Hp w w' ((b15,.cells r.b.c.toArray jd (0,0))::(b12,.cells #[.slice pA ps.length pC,J (co.clock),J (co.next),J (co.wait),.slice co.A co.txs.length co.cap,J (gr.clock),J (gr.wait),J (gr.gen),.slice gr.mA gr.ms.length gr.mC,.slice gr.oA gr.os.length gr.oC,.slice snA sns.length snC] jd (0,0))::(b9,.cells #[J (((np:Nat):Int)),J (((nr:Nat):Int)),J (((few:Nat):Int)),J (wt)] je (0,0))::[]) (EB lo hi r::[EB w4.heap.size w5.heap.size ⟨xs,oA,oC,⟨ps,pA,pC,co,clo,chi,gr,glo,ghi,sns,snA,snC⟩⟩,dA mn w3.heap.size w4.heap.size Abody (jI np++body),dA rT 0 w.heap.size A2 m,dA rT 0 w.heap.size A l])) ?_ ?_
 ·skip
  refine mO bY (fun w'=>w'.heap[b9]? =some (.cells #[J (((np:Nat):Int)),J (((nr:Nat):Int)),J (((few:Nat):Int)),J (wt)] je (0,0))) ?_
  intro w8 hw';replace H:=H.later hw';clear hw'
  refine az 0 N N N Z Z Z Z Nq (H.ent (i:=1) Z) (fun _ hS=>jh nT Z hS Z)<|az 1 N N N Z Z Z Z Nq (H.ent (i:=1) Z) (fun _ hS=>Ys Z)<|az 2 N N N Z Z Z Z Nq (H.ent (i:=1) Z) (fun _ hS=>Ys Z)<|az 3 N N N Z Z Z Z Nq (H.ent (i:=1) Z) (fun _ hS=>jh nT Z hS Z)<|az 5 N N N Z Z Z Z Nq (H.ent (i:=1) Z) (fun _ hS=>Zf nK Z)<|az 6 N N N Z Z Z Z Nq (H.ent (i:=1) Z) (fun _ hS=>aV aj Z (aC hS Z))<|az 7 N N N Z Z Z Z Nq (H.ent (i:=1) Z) (fun _ hS=>bu Z Z I I) ?_
  refine Mv 4 15 N Z Z ?_ ?_
  ·
   refine bW kB (Ey (few:=few) (wt:=wt) (np:=np) (nr:=nr) (most:=50) (hard:=true) m _ _ _ q1 q4 n1 n5 I (H.rd0 2 Z) hok2) Z Z ?_
   rintro _ w9 ⟨bd2,Abd2,cbd2,Lbd2,rfl,hblbd2,hbgbd2,hbobd2,hbjbd2⟩;replace H:=H.learnOwn hbjbd2 hbobd2
   have hagbd2:=yp q1 I hbgbd2
   refine U ?_
   refine⟨(H.ent (i:=1) Z),?_⟩
   refine Mv 8 15 N Z Z ?_ ?_
   ·
    refine Dr (k:=np+3) H 0 Z pE Z (congrArg (Value.int .i64) (by omega:((np:Nat):Int)+3=((np+3:Nat):Int))) Z (Dy hbobd2) (by rw[ip];omega) Z fun A50 H=> ?_
    rw[AZ]at H
    rw[show(jI np++bd2).length- (np+3)=bd2.length by rw[ip];omega]
    refine U ?_
    refine⟨(H.ent (i:=1) Z),?_⟩
    refine Mv 9 15 N Z Z ?_ ?_
    ·
     refine bW jc (zh (l:=(jI np++body)) (m:=bd2) _ (H.rd0 3 Z) (H.rd0 0 Z) (by rw[ip];omega) I) Z Z ?_
     rintro _ w10 ⟨Aw,cw,Lw,rfl,how,hjw⟩;replace H:=H.learnOwn hjw how
     refine U ?_
     refine⟨(H.ent (i:=1) Z),?_⟩
     refine Mv 10 15 N Z Z ?_ ?_
     ·
      refine bW gd (uy (np:=np) (nr:=nr) (few:=few) (wt:=wt) (acts:=(jI np++body++bd2)) _ q1 q4 n1 n5 f1 f2 t1 t2 (H.rd0 0 Z) (by rw[ay,ip];omega) (lq hagbody (fun a ha=>(hbgbd2 a ha).g))) Z Z ?_
      rintro _ w11 ⟨xs2,oA2,oC2,⟨ps2,pA2,pC2,co2,clo2,chi2,gr2,glo2,ghi2,sns2,snA2,snC2⟩,rfl,hrun2,hrd2,hrb2⟩;replace H:=H.learn hrb2 (EB w10.heap.size w11.heap.size ⟨xs2,oA2,oC2,⟨ps2,pA2,pC2,co2,clo2,chi2,gr2,glo2,ghi2,sns2,snA2,snC2⟩⟩) hrd2 (ao _) (ao _);clear hrd2 hrb2
      refine U ?_
      refine⟨(H.ent (i:=1) Z),?_⟩
      refine az 11 N N N Z Z Z Z Nq (H.ent (i:=1) Z) (fun _ hS=>Yu Z)<|az 12 N N N Z Z Z Z Nq (H.ent (i:=1) Z) (fun _ hS=>Xs Z Z)<|az 13 N N N Z Z Z Z Nq (H.ent (i:=1) Z) (fun _ hS=>Xa Z Z)<|az 14 N N N Z Z Z Z Nq (H.ent (i:=1) Z) (fun _ hS=>Xb Z Z)<|pz 15 N Z<|ey H kJ Z fun w12 b15 H=>U ?_
      refine⟨(H.ent (i:=2) Z),?_⟩
      refine az 16 N N N Z Z Z Z Nq (H.ent (i:=2) Z) (fun _ hS=>Ws Z)<|pz 17 N Z<|bk H 0 (#[.slice pA2 ps2.length pC2,J (co2.clock),J (co2.next),J (co2.wait),.slice co2.A co2.txs.length co2.cap,J (gr2.clock),J (gr2.wait),J (gr2.gen),.slice gr2.mA gr2.ms.length gr2.mC,.slice gr2.oA gr2.os.length gr2.oC,.slice snA2 sns2.length snC2]) iG Z Z Z Z Z N N fun w13 H=>U ?_
      refine⟨(H.ent (i:=2) Z),?_⟩
      refine az 18 N N N Z Z Z Z Nq (H.ent (i:=2) Z) (fun _ hS=>Wb Z)<|jf N ?_
      exact⟨(bd2,⟨xs2,oA2,oC2,⟨ps2,pA2,pC2,co2,clo2,chi2,gr2,glo2,ghi2,sns2,snA2,snC2⟩⟩,b15,w10.heap.size,w11.heap.size),⟨hblbd2,(lq hagbody (fun a ha=>(hbgbd2 a ha).g)),hrun2,H.forget (by repeat (first|exact ap _|refine .cons_cons _ ?_|refine .cons _ ?_)) (fun f hf=>by simp only[av,bo,or_false]at hf⊢;grind)⟩,Ms Z Z Z,Qg⟩
     ·
      refine ey H kJ Z fun w14 b15 H=>U ?_
      refine⟨(H.ent (i:=2) Z),?_⟩
      refine pz 10 N Z<|bW gd (uy (np:=np) (nr:=nr) (few:=few) (wt:=wt) (acts:=(jI np++body++bd2)) _ q1 q4 n1 n5 f1 f2 t1 t2 (H.rd0 0 Z) (by rw[ay,ip];omega) (lq hagbody (fun a ha=>(hbgbd2 a ha).g))) Z Z ?_
      rintro _ w15 ⟨xs2,oA2,oC2,⟨ps2,pA2,pC2,co2,clo2,chi2,gr2,glo2,ghi2,sns2,snA2,snC2⟩,rfl,hrun2,hrd2,hrb2⟩;replace H:=H.learn hrb2 (EB w14.heap.size w15.heap.size ⟨xs2,oA2,oC2,⟨ps2,pA2,pC2,co2,clo2,chi2,gr2,glo2,ghi2,sns2,snA2,snC2⟩⟩) hrd2 (ao _) (ao _);clear hrd2 hrb2
      refine U ?_
      refine⟨(H.ent (i:=2) Z),?_⟩
      refine az 11 N N N Z Z Z Z Nq (H.ent (i:=2) Z) (fun _ hS=>Yu Z)<|az 12 N N N Z Z Z Z Nq (H.ent (i:=2) Z) (fun _ hS=>Xs Z Z)<|az 13 N N N Z Z Z Z Nq (H.ent (i:=2) Z) (fun _ hS=>Xa Z Z)<|az 14 N N N Z Z Z Z Nq (H.ent (i:=2) Z) (fun _ hS=>Xb Z Z)<|az 16 N N N Z Z Z Z Nq (H.ent (i:=2) Z) (fun _ hS=>Ws Z)<|pz 17 N Z<|bk H 0 (#[.slice pA2 ps2.length pC2,J (co2.clock),J (co2.next),J (co2.wait),.slice co2.A co2.txs.length co2.cap,J (gr2.clock),J (gr2.wait),J (gr2.gen),.slice gr2.mA gr2.ms.length gr2.mC,.slice gr2.oA gr2.os.length gr2.oC,.slice snA2 sns2.length snC2]) iG Z Z Z Z Z N N fun w16 H=>U ?_
      refine⟨(H.ent (i:=2) Z),?_⟩
      refine az 18 N N N Z Z Z Z Nq (H.ent (i:=2) Z) (fun _ hS=>Wb Z)<|jf N ?_
      exact⟨(bd2,⟨xs2,oA2,oC2,⟨ps2,pA2,pC2,co2,clo2,chi2,gr2,glo2,ghi2,sns2,snA2,snC2⟩⟩,b15,w14.heap.size,w15.heap.size),⟨hblbd2,(lq hagbody (fun a ha=>(hbgbd2 a ha).g)),hrun2,H.forget (by repeat (first|exact ap _|refine .cons_cons _ ?_|refine .cons _ ?_)) (fun f hf=>by simp only[av,bo,or_false]at hf⊢;grind)⟩,Ms Z Z Z,Qg⟩
    ·
     refine ey H kJ Z fun w17 b15 H=>U ?_
     refine⟨(H.ent (i:=2) Z),?_⟩
     refine pz 9 N Z<|bW jc (zh (l:=(jI np++body)) (m:=bd2) _ (H.rd0 3 Z) (H.rd0 0 Z) (by rw[ip];omega) I) Z Z ?_
     rintro _ w18 ⟨Aw,cw,Lw,rfl,how,hjw⟩;replace H:=H.learnOwn hjw how
     refine U ?_
     refine⟨(H.ent (i:=2) Z),?_⟩
     refine pz 10 N Z<|bW gd (uy (np:=np) (nr:=nr) (few:=few) (wt:=wt) (acts:=(jI np++body++bd2)) _ q1 q4 n1 n5 f1 f2 t1 t2 (H.rd0 0 Z) (by rw[ay,ip];omega) (lq hagbody (fun a ha=>(hbgbd2 a ha).g))) Z Z ?_
     rintro _ w19 ⟨xs2,oA2,oC2,⟨ps2,pA2,pC2,co2,clo2,chi2,gr2,glo2,ghi2,sns2,snA2,snC2⟩,rfl,hrun2,hrd2,hrb2⟩;replace H:=H.learn hrb2 (EB w18.heap.size w19.heap.size ⟨xs2,oA2,oC2,⟨ps2,pA2,pC2,co2,clo2,chi2,gr2,glo2,ghi2,sns2,snA2,snC2⟩⟩) hrd2 (ao _) (ao _);clear hrd2 hrb2
     refine U ?_
     refine⟨(H.ent (i:=2) Z),?_⟩
     refine az 11 N N N Z Z Z Z Nq (H.ent (i:=2) Z) (fun _ hS=>Yu Z)<|az 12 N N N Z Z Z Z Nq (H.ent (i:=2) Z) (fun _ hS=>Xs Z Z)<|az 13 N N N Z Z Z Z Nq (H.ent (i:=2) Z) (fun _ hS=>Xa Z Z)<|az 14 N N N Z Z Z Z Nq (H.ent (i:=2) Z) (fun _ hS=>Xb Z Z)<|az 16 N N N Z Z Z Z Nq (H.ent (i:=2) Z) (fun _ hS=>Ws Z)<|pz 17 N Z<|bk H 0 (#[.slice pA2 ps2.length pC2,J (co2.clock),J (co2.next),J (co2.wait),.slice co2.A co2.txs.length co2.cap,J (gr2.clock),J (gr2.wait),J (gr2.gen),.slice gr2.mA gr2.ms.length gr2.mC,.slice gr2.oA gr2.os.length gr2.oC,.slice snA2 sns2.length snC2]) iG Z Z Z Z Z N N fun w20 H=>U ?_
     refine⟨(H.ent (i:=2) Z),?_⟩
     refine az 18 N N N Z Z Z Z Nq (H.ent (i:=2) Z) (fun _ hS=>Wb Z)<|jf N ?_
     exact⟨(bd2,⟨xs2,oA2,oC2,⟨ps2,pA2,pC2,co2,clo2,chi2,gr2,glo2,ghi2,sns2,snA2,snC2⟩⟩,b15,w18.heap.size,w19.heap.size),⟨hblbd2,(lq hagbody (fun a ha=>(hbgbd2 a ha).g)),hrun2,H.forget (by repeat (first|exact ap _|refine .cons_cons _ ?_|refine .cons _ ?_)) (fun f hf=>by simp only[av,bo,or_false]at hf⊢;grind)⟩,Ms Z Z Z,Qg⟩
   ·
    refine ey H kJ Z fun w21 b15 H=>U ?_
    refine⟨(H.ent (i:=2) Z),?_⟩
    refine pz 8 N Z<|Dr (k:=np+3) H 0 Z pE Z (congrArg (Value.int .i64) (by omega:((np:Nat):Int)+3=((np+3:Nat):Int))) Z (Dy hbobd2) (by rw[ip];omega) Z fun A50 H=> ?_
    rw[AZ]at H
    rw[show(jI np++bd2).length- (np+3)=bd2.length by rw[ip];omega]
    refine U ?_
    refine⟨(H.ent (i:=2) Z),?_⟩
    refine pz 9 N Z<|bW jc (zh (l:=(jI np++body)) (m:=bd2) _ (H.rd0 3 Z) (H.rd0 0 Z) (by rw[ip];omega) I) Z Z ?_
    rintro _ w22 ⟨Aw,cw,Lw,rfl,how,hjw⟩;replace H:=H.learnOwn hjw how
    refine U ?_
    refine⟨(H.ent (i:=2) Z),?_⟩
    refine pz 10 N Z<|bW gd (uy (np:=np) (nr:=nr) (few:=few) (wt:=wt) (acts:=(jI np++body++bd2)) _ q1 q4 n1 n5 f1 f2 t1 t2 (H.rd0 0 Z) (by rw[ay,ip];omega) (lq hagbody (fun a ha=>(hbgbd2 a ha).g))) Z Z ?_
    rintro _ w23 ⟨xs2,oA2,oC2,⟨ps2,pA2,pC2,co2,clo2,chi2,gr2,glo2,ghi2,sns2,snA2,snC2⟩,rfl,hrun2,hrd2,hrb2⟩;replace H:=H.learn hrb2 (EB w22.heap.size w23.heap.size ⟨xs2,oA2,oC2,⟨ps2,pA2,pC2,co2,clo2,chi2,gr2,glo2,ghi2,sns2,snA2,snC2⟩⟩) hrd2 (ao _) (ao _);clear hrd2 hrb2
    refine U ?_
    refine⟨(H.ent (i:=2) Z),?_⟩
    refine az 11 N N N Z Z Z Z Nq (H.ent (i:=2) Z) (fun _ hS=>Yu Z)<|az 12 N N N Z Z Z Z Nq (H.ent (i:=2) Z) (fun _ hS=>Xs Z Z)<|az 13 N N N Z Z Z Z Nq (H.ent (i:=2) Z) (fun _ hS=>Xa Z Z)<|az 14 N N N Z Z Z Z Nq (H.ent (i:=2) Z) (fun _ hS=>Xb Z Z)<|az 16 N N N Z Z Z Z Nq (H.ent (i:=2) Z) (fun _ hS=>Ws Z)<|pz 17 N Z<|bk H 0 (#[.slice pA2 ps2.length pC2,J (co2.clock),J (co2.next),J (co2.wait),.slice co2.A co2.txs.length co2.cap,J (gr2.clock),J (gr2.wait),J (gr2.gen),.slice gr2.mA gr2.ms.length gr2.mC,.slice gr2.oA gr2.os.length gr2.oC,.slice snA2 sns2.length snC2]) iG Z Z Z Z Z N N fun w24 H=>U ?_
    refine⟨(H.ent (i:=2) Z),?_⟩
    refine az 18 N N N Z Z Z Z Nq (H.ent (i:=2) Z) (fun _ hS=>Wb Z)<|jf N ?_
    exact⟨(bd2,⟨xs2,oA2,oC2,⟨ps2,pA2,pC2,co2,clo2,chi2,gr2,glo2,ghi2,sns2,snA2,snC2⟩⟩,b15,w22.heap.size,w23.heap.size),⟨hblbd2,(lq hagbody (fun a ha=>(hbgbd2 a ha).g)),hrun2,H.forget (by repeat (first|exact ap _|refine .cons_cons _ ?_|refine .cons _ ?_)) (fun f hf=>by simp only[av,bo,or_false]at hf⊢;grind)⟩,Ms Z Z Z,Qg⟩
  ·
   refine ey H kJ Z fun w25 b15 H=>U ?_
   refine⟨(H.ent (i:=2) Z),?_⟩
   refine pz 4 N Z<|bW kB (Ey (few:=few) (wt:=wt) (np:=np) (nr:=nr) (most:=50) (hard:=true) m _ _ _ q1 q4 n1 n5 I (H.rd0 2 Z) hok2) Z Z ?_
   rintro _ w26 ⟨bd2,Abd2,cbd2,Lbd2,rfl,hblbd2,hbgbd2,hbobd2,hbjbd2⟩;replace H:=H.learnOwn hbjbd2 hbobd2
   have hagbd2:=yp q1 I hbgbd2
   refine U ?_
   refine⟨(H.ent (i:=2) Z),?_⟩
   refine pz 8 N Z<|Dr (k:=np+3) H 0 Z pE Z (congrArg (Value.int .i64) (by omega:((np:Nat):Int)+3=((np+3:Nat):Int))) Z (Dy hbobd2) (by rw[ip];omega) Z fun A50 H=> ?_
   rw[AZ]at H
   rw[show(jI np++bd2).length- (np+3)=bd2.length by rw[ip];omega]
   refine U ?_
   refine⟨(H.ent (i:=2) Z),?_⟩
   refine pz 9 N Z<|bW jc (zh (l:=(jI np++body)) (m:=bd2) _ (H.rd0 3 Z) (H.rd0 0 Z) (by rw[ip];omega) I) Z Z ?_
   rintro _ w27 ⟨Aw,cw,Lw,rfl,how,hjw⟩;replace H:=H.learnOwn hjw how
   refine U ?_
   refine⟨(H.ent (i:=2) Z),?_⟩
   refine pz 10 N Z<|bW gd (uy (np:=np) (nr:=nr) (few:=few) (wt:=wt) (acts:=(jI np++body++bd2)) _ q1 q4 n1 n5 f1 f2 t1 t2 (H.rd0 0 Z) (by rw[ay,ip];omega) (lq hagbody (fun a ha=>(hbgbd2 a ha).g))) Z Z ?_
   rintro _ w28 ⟨xs2,oA2,oC2,⟨ps2,pA2,pC2,co2,clo2,chi2,gr2,glo2,ghi2,sns2,snA2,snC2⟩,rfl,hrun2,hrd2,hrb2⟩;replace H:=H.learn hrb2 (EB w27.heap.size w28.heap.size ⟨xs2,oA2,oC2,⟨ps2,pA2,pC2,co2,clo2,chi2,gr2,glo2,ghi2,sns2,snA2,snC2⟩⟩) hrd2 (ao _) (ao _);clear hrd2 hrb2
   refine U ?_
   refine⟨(H.ent (i:=2) Z),?_⟩
   refine az 11 N N N Z Z Z Z Nq (H.ent (i:=2) Z) (fun _ hS=>Yu Z)<|az 12 N N N Z Z Z Z Nq (H.ent (i:=2) Z) (fun _ hS=>Xs Z Z)<|az 13 N N N Z Z Z Z Nq (H.ent (i:=2) Z) (fun _ hS=>Xa Z Z)<|az 14 N N N Z Z Z Z Nq (H.ent (i:=2) Z) (fun _ hS=>Xb Z Z)<|az 16 N N N Z Z Z Z Nq (H.ent (i:=2) Z) (fun _ hS=>Ws Z)<|pz 17 N Z<|bk H 0 (#[.slice pA2 ps2.length pC2,J (co2.clock),J (co2.next),J (co2.wait),.slice co2.A co2.txs.length co2.cap,J (gr2.clock),J (gr2.wait),J (gr2.gen),.slice gr2.mA gr2.ms.length gr2.mC,.slice gr2.oA gr2.os.length gr2.oC,.slice snA2 sns2.length snC2]) iG Z Z Z Z Z N N fun w29 H=>U ?_
   refine⟨(H.ent (i:=2) Z),?_⟩
   refine az 18 N N N Z Z Z Z Nq (H.ent (i:=2) Z) (fun _ hS=>Wb Z)<|jf N ?_
   exact⟨(bd2,⟨xs2,oA2,oC2,⟨ps2,pA2,pC2,co2,clo2,chi2,gr2,glo2,ghi2,sns2,snA2,snC2⟩⟩,b15,w27.heap.size,w28.heap.size),⟨hblbd2,(lq hagbody (fun a ha=>(hbgbd2 a ha).g)),hrun2,H.forget (by repeat (first|exact ap _|refine .cons_cons _ ?_|refine .cons _ ?_)) (fun f hf=>by simp only[av,bo,or_false]at hf⊢;grind)⟩,Ms Z Z Z,Qg⟩
 rintro⟨bd2,⟨xs2,oA2,oC2,⟨ps2,pA2,pC2,co2,clo2,chi2,gr2,glo2,ghi2,sns2,snA2,snC2⟩⟩,b15,lo,hi⟩ ρ1 w30 ⟨hbl2,hag2,hrun2,H⟩
 show CW _ _ _ _ (dB (gJ _ _ ρ1) [(14,.slice oA2 xs2.length oC2),(15,.pointer (Qd b15)),(16,.bool true)]) w30
 replace H:Hp w w30 ((b15,.cells #[.slice pA2 ps2.length pC2,J (co2.clock),J (co2.next),J (co2.wait),.slice co2.A co2.txs.length co2.cap,J (gr2.clock),J (gr2.wait),J (gr2.gen),.slice gr2.mA gr2.ms.length gr2.mC,.slice gr2.oA gr2.os.length gr2.oC,.slice snA2 sns2.length snC2] jd (0,0))::(b12,.cells #[.slice pA ps.length pC,J (co.clock),J (co.next),J (co.wait),.slice co.A co.txs.length co.cap,J (gr.clock),J (gr.wait),J (gr.gen),.slice gr.mA gr.ms.length gr.mC,.slice gr.oA gr.os.length gr.oC,.slice snA sns.length snC] jd (0,0))::(b9,.cells #[J (((np:Nat):Int)),J (((nr:Nat):Int)),J (((few:Nat):Int)),J (wt)] je (0,0))::[]) (EB lo hi ⟨xs2,oA2,oC2,⟨ps2,pA2,pC2,co2,clo2,chi2,gr2,glo2,ghi2,sns2,snA2,snC2⟩⟩::[EB w4.heap.size w5.heap.size ⟨xs,oA,oC,⟨ps,pA,pC,co,clo,chi,gr,glo,ghi,sns,snA,snC⟩⟩,dA mn w3.heap.size w4.heap.size Abody (jI np++body),dA rT 0 w.heap.size A2 m,dA rT 0 w.heap.size A l]):=H
 obtain⟨k1,K1,k2,K2,hw1,hw2,hup⟩:=Lj n1 n5 f1 f2 t1 t2 q4 hrun hrun2 (by rw[ip];omega) hag2
 have hl1:ps.length=np:=by have h1:(ps.map fun q=>q.p.a).length=np:=hw1.ps.len;rw[bw]at h1;exact h1
 have hl2:ps2.length=np:=by have h1:(ps2.map fun q=>q.p.a).length=np:=hw2.ps.len;rw[bw]at h1;exact h1
 replace H:=Hp.rnPs H 1 Z
 replace H:=Hp.rnPs H 1 Z
 refine W<|W<|Zr<|G (Yb Z)<|G (dI Z)<|G (Yb Z)<|ZG<|G (Yb Z)<|ZG<|G (dI Z)<|G (N Z Z)<|U<|ZF Z<|Zk<|W<|W<|Zr<|G (Zf dz Z)<|G (Zd dX H 1 Z Z Z)<|G (bn kM Z)<|G (Yi Z)<|U<|Zb ?_
 refine ce (τ:=Nat) [8,17,18,19,20,21,22,24,25,26,27,65,66,67,68,69,70,71,72,73,74,75,76,77,78,79,80,81,82,83,84,85,86,87,88,89,90,91,92,93,94,95,96,97,98,99,100,101,102,103,104,105,106,107,108,109,110,111,112,113,114,115,116,117,118,119,120,121,122,123,124,125,126,127,128,129,130,131,132,133,134,135,136,137] (fun i=>[(65,J (i:Nat))]) (fun i w'=>i<=ps.length/\Hp w w' [(b15,.cells #[.slice pA2 ps2.length pC2,J (co2.clock),J (co2.next),J (co2.wait),.slice co2.A co2.txs.length co2.cap,J (gr2.clock),J (gr2.wait),J (gr2.gen),.slice gr2.mA gr2.ms.length gr2.mC,.slice gr2.oA gr2.os.length gr2.oC,.slice snA2 sns2.length snC2] jd (0,0)),(b12,.cells #[.slice pA ps.length pC,J (co.clock),J (co.next),J (co.wait),.slice co.A co.txs.length co.cap,J (gr.clock),J (gr.wait),J (gr.gen),.slice gr.mA gr.ms.length gr.mC,.slice gr.oA gr.os.length gr.oC,.slice snA sns.length snC] jd (0,0)),(b9,.cells #[J (((np:Nat):Int)),J (((nr:Nat):Int)),J (((few:Nat):Int)),J (wt)] je (0,0))] ([dA Bv lo hi pA2 ps2,dA Bv w4.heap.size w5.heap.size pA ps,EB lo hi ⟨xs2,oA2,oC2,⟨ps2,pA2,pC2,co2,clo2,chi2,gr2,glo2,ghi2,sns2,snA2,snC2⟩⟩,EB w4.heap.size w5.heap.size ⟨xs,oA,oC,⟨ps,pA,pC,co,clo,chi,gr,glo,ghi,sns,snA,snC⟩⟩,dA mn w3.heap.size w4.heap.size Abody (jI np++body),dA rT 0 w.heap.size A2 m,dA rT 0 w.heap.size A l])) (fun i=>ps.length-i) 0 ⟨bD _,H⟩ (dK Z) ?_
 rintro i ρ1 w31 ⟨hii,H⟩
 show CW _ _ _ _ (dB (gJ _ _ ρ1) [(65,J (i:Nat))]) w31
 refine W<|Zr ?_
 refine cU (cG Z Z) Z Z Z (fun h66=> ?_) (fun h66=> ?_)
 ·
  refine U<|W<|ZT Z<|Zk<|W<|Zb<|W ?_
  obtain⟨q,hq⟩: ∃ q,ps[i]? =some q:=⟨_,ah I⟩
  obtain⟨q2,hq2⟩: ∃ q,ps2[i]? =some q:=⟨_,ah I⟩
  have hqm:=ae hq
  have hq2m:=ae hq2
  refine Zr<|G (Yi Z)<|pI H 1 Z gw Z Z I I Z fun bq32 o32 x32 e32=> ?_
  obtain rfl:q=x32:=by have:=e32.at_;rw[hq]at this;exact bx this
  refine G (iw (xs:=[J (q.p.epoch),J (q.p.leader),.slice q.p.iA q.p.isr.length q.p.iC,.slice q.p.kA q.p.known.length q.p.kC,.slice q.p.rA q.p.reps.length q.p.rC,J (q.p.few),J (q.p.base)]) aG Z Z (yh e32.cl 0 Z))<|ey H bp Z fun w33 b18 H=>G (Wi Z)<|bk H 0 (#[J (q.p.epoch),J (q.p.leader),.slice q.p.iA q.p.isr.length q.p.iC,.slice q.p.kA q.p.known.length q.p.kC,.slice q.p.rA q.p.reps.length q.p.rC,J (q.p.few),J (q.p.base)]) aL Z Z Z Z Z N N fun w34 H=>U<|W<|Zr<|G (Zf dz Z)<|G (Zd dX H 1 Z Z Z)<|G (Yi Z)<|pI H 0 Z gw Z Z I I Z fun bq35 o35 x35 e35=> ?_
  obtain rfl:q2=x35:=by have:=e35.at_;rw[hq2]at this;exact bx this
  refine G (iw (xs:=[J (q2.p.epoch),J (q2.p.leader),.slice q2.p.iA q2.p.isr.length q2.p.iC,.slice q2.p.kA q2.p.known.length q2.p.kC,.slice q2.p.rA q2.p.reps.length q2.p.rC,J (q2.p.few),J (q2.p.base)]) aG Z Z (yh e35.cl 0 Z))<|ey H bp Z fun w36 b19 H=>bk H 0 (#[J (q2.p.epoch),J (q2.p.leader),.slice q2.p.iA q2.p.isr.length q2.p.iC,.slice q2.p.kA q2.p.known.length q2.p.kC,.slice q2.p.rA q2.p.reps.length q2.p.rC,J (q2.p.few),J (q2.p.base)]) aL Z Z Z Z Z N N fun w37 H=>U<|W<|W<|Zr<|G (Zf dh Z)<|G (Zd aj H 0 Z Z Z) ?_
  refine cU (cG Z Z) Z Z Z (fun h77=> ?_) (fun h77=> ?_)
  ·
   refine U<|ZT Z<|Zx<|Zr<|G (bu Z Z I I)<|G (Yi Z)<|U ?_
   exact⟨i+1,⟨by omega,H.forget (by repeat (first|exact ap _|refine .cons _ ?_)) (fun f hf=>by simp only[av,bo,or_false]at hf⊢;grind)⟩,dK Z,Qg,by show ps.length- (i+1)<ps.length-i;omega⟩
  ·
   refine U<|ZF Z<|Zk<|W ?_
   have hok1q:q.p.a.ok:=(HQ hw1).1 q.p.a (bI (f:=fun q:Pq=>q.p.a) hqm)
   have hok2q:q2.p.a.ok:=(HQ hw2).1 q2.p.a (bI (f:=fun q:Pq=>q.p.a) hq2m)
   obtain⟨d,hd⟩: ∃ d:Nat,q2.p.leader=d:=⟨q2.p.leader.toNat,by omega⟩
   have hld:q2.p.leader<((q2.p.reps.map eR.a).length:Nat):=hok2q.ld1
   rw[bw]at hld
   have hn5:q.p.reps.length<=5:=by have h1:(q.p.reps.map eR.a).length<=5:=hok1q.n2;rw[bw]at h1;exact h1
   obtain⟨y,hy⟩: ∃ y,q2.p.reps[d]? =some y:=⟨_,ah I⟩
   replace H:=Hp.rnReps H 2 Z hq2m
   refine Zr<|G (Zf cP Z)<|G (Zd bN H 0 Z Z Z)<|G (Zf dh Z)<|G (Zd aj H 0 Z Z Z)<|pI (k:=d) H 0 Z br Z (congrArg (Value.int .i64) hd) I I Z fun bq38 o38 x38 e38=> ?_
   obtain rfl:y=x38:=by have:=e38.at_;rw[hy]at this;exact bx this
   refine G (Zf dn Z)<|G (iw (xs:=[.slice y.A ((bd y.es).length) y.cap,J (((fD y.es y.s:Nat):Int))]) eE Z Z (yh e38.cl 1 Z))<|bW fl (fI y.A y.cap y.es y.s _ (Pa.log ((Hp.rn0 H 3 Z).pa q2 hq2m) hok2q (i:=d) hy)) Z Z ?_
   have hloen:=H.size
   rintro _ w39 ⟨Aen,cen,rfl,hren,hcen,hben⟩;replace H:=H.learnRd hben hren;clear hren hben
   refine G (Yu Z)<|G (Xs Z Z)<|G (Xi Z Z)<|G (Xi Z Z)<|G (Ws Z)<|G (Wi Z)<|G (Wi Z)<|U<|W ?_
   replace H:=Hp.rnReps H 5 Z hqm
   refine Zr<|G (Zf cP Z)<|G (Zd bN H 1 Z Z Z)<|G (bn gj Z)<|G (Yi Z)<|U<|Zb ?_
   refine ce (τ:=Nat) [8,24,25,26,27,93,94,95,96,97,98,99,100,101,102,103,104,105,106,107,108,109,110,111,112,113,114,115,116,117,118,119,120,121,122,123,124,125,126,127,128,129,130,131,132,133,134,135,136] (fun j=>[(93,J (j:Nat))]) (fun j w'=>j<=q.p.reps.length/\Hp w w' [(b19,.cells #[J (q2.p.epoch),J (q2.p.leader),.slice q2.p.iA q2.p.isr.length q2.p.iC,.slice q2.p.kA q2.p.known.length q2.p.kC,.slice q2.p.rA q2.p.reps.length q2.p.rC,J (q2.p.few),J (q2.p.base)] bC (0,0)),(b18,.cells #[J (q.p.epoch),J (q.p.leader),.slice q.p.iA q.p.isr.length q.p.iC,.slice q.p.kA q.p.known.length q.p.kC,.slice q.p.rA q.p.reps.length q.p.rC,J (q.p.few),J (q.p.base)] bC (0,0)),(b15,.cells #[.slice pA2 ps2.length pC2,J (co2.clock),J (co2.next),J (co2.wait),.slice co2.A co2.txs.length co2.cap,J (gr2.clock),J (gr2.wait),J (gr2.gen),.slice gr2.mA gr2.ms.length gr2.mC,.slice gr2.oA gr2.os.length gr2.oC,.slice snA2 sns2.length snC2] jd (0,0)),(b12,.cells #[.slice pA ps.length pC,J (co.clock),J (co.next),J (co.wait),.slice co.A co.txs.length co.cap,J (gr.clock),J (gr.wait),J (gr.gen),.slice gr.mA gr.ms.length gr.mC,.slice gr.oA gr.os.length gr.oC,.slice snA sns.length snC] jd (0,0)),(b9,.cells #[J (((np:Nat):Int)),J (((nr:Nat):Int)),J (((few:Nat):Int)),J (wt)] je (0,0))] ([dA gx w4.heap.size w5.heap.size q.p.rA q.p.reps,dA gk w37.heap.size w39.heap.size Aen y.es,dA gx lo hi q2.p.rA q2.p.reps,dA Bv lo hi pA2 ps2,dA Bv w4.heap.size w5.heap.size pA ps,EB lo hi ⟨xs2,oA2,oC2,⟨ps2,pA2,pC2,co2,clo2,chi2,gr2,glo2,ghi2,sns2,snA2,snC2⟩⟩,EB w4.heap.size w5.heap.size ⟨xs,oA,oC,⟨ps,pA,pC,co,clo,chi,gr,glo,ghi,sns,snA,snC⟩⟩,dA mn w3.heap.size w4.heap.size Abody (jI np++body),dA rT 0 w.heap.size A2 m,dA rT 0 w.heap.size A l])) (fun j=>q.p.reps.length-j) 0 ⟨bD _,H⟩ (dK Z) ?_
   rintro j ρ1 w40 ⟨hjj,H⟩
   show CW _ _ _ _ (dB (gJ _ _ ρ1) [(93,J (j:Nat))]) w40
   refine W<|Zr ?_
   refine cU (cG Z Z) Z Z Z (fun h94=> ?_) (fun h94=> ?_)
   ·
    refine U<|W<|ZT Z<|Zk<|W<|Zb<|W ?_
    obtain⟨r,hr_⟩: ∃ r,q.p.reps[j]? =some r:=⟨_,ah I⟩
    refine Zr<|pI H 0 Z br Z Z I I Z fun bq41 o41 x41 e41=> ?_
    obtain rfl:r=x41:=by have:=e41.at_;rw[hr_]at this;exact bx this
    refine G (iw (xs:=eR.c r) l9 Z Z e41.cl)<|ey H nj Z fun w42 b24 H=>bk H 0 (#[.bool (r.up),.slice r.A ((bd r.es).length) r.cap,J (((fD r.es r.s:Nat):Int)),J (r.high)]) j7 Z Z Z Z Z N N fun w43 H=>U<|W<|Zr<|G (Zf dn Z)<|G (jJ 1 [.slice r.A ((bd r.es).length) r.cap,J (((fD r.es r.s:Nat):Int))] eE Z Z (H.ent (i:=0) Z) Z)<|bW fl (fI r.A r.cap r.es r.s _ (Pa.log ((Hp.rn0 H 6 Z).pa q hqm) hok1q (i:=j) hr_)) Z Z ?_
    have hloe1:=H.size
    rintro _ w44 ⟨Ae1,ce1,rfl,hre1,hce1,hbe1⟩;replace H:=H.learnRd hbe1 hre1;clear hre1 hbe1
    refine G (Yu Z)<|G (Xs Z Z)<|G (Xi Z Z)<|G (Xi Z Z)<|G (Ws Z)<|G (Wi Z)<|G (Wi Z)<|U<|W ?_
    obtain⟨ks,hk1,hk2,hkh,hkr,hky,hr4,hy4⟩:=Nj hw1 hw2 hup hq hq2 hd hy hr_
    refine mO bY (fun w'=>w'.heap[b24]? =some (.cells #[.bool (r.up),.slice r.A ((bd r.es).length) r.cap,J (((fD r.es r.s:Nat):Int)),J (r.high)] fz (0,0))) ?_
    intro w45 hw';replace H:=H.later hw';clear hw'
    refine az 0 N N N Z Z Z Z Nq (H.ent (i:=0) Z) (fun _ hS=>Yi Z)<|az 1 N N N Z Z Z Z Nq (H.ent (i:=0) Z) (fun _ hS=>bV Z Z Z)<|az 2 N N N Z Z Z Z Nq (H.ent (i:=0) Z) (fun _ hS=>Yb Z)<|az 3 N N N Z Z Z Z Nq (H.ent (i:=0) Z) (fun _ hS=>Yi Z)<|az 4 N N N Z Z Z Z Nq (H.ent (i:=0) Z) (fun _ hS=>bV Z Z Z)<|az 5 N N N Z Z Z Z Nq (H.ent (i:=0) Z) (fun _ hS=>N Z Z)<|az 6 N N N Z Z Z Z Nq (H.ent (i:=0) Z) (fun _ hS=>Yb Z)<|az 7 N N N Z Z Z Z Nq (H.ent (i:=0) Z) (fun _ hS=>Zf dv Z)<|az 8 N N N Z Z Z Z Nq (H.ent (i:=0) Z) (fun _ hS=>aV aj Z (aC hS Z))<|az 9 N N N Z Z Z Z Nq (H.ent (i:=0) Z) (fun _ hS=>Ys Z)<|az 10 N N N Z Z Z Z Nq (H.ent (i:=0) Z) (fun _ hS=>bn dM Z)<|az 11 N N N Z Z Z Z Nq (H.ent (i:=0) Z) (fun _ hS=>eh Z Z I)<|az 12 N N N Z Z Z Z Nq (H.ent (i:=0) Z) (fun _ hS=>N Z Z)<|az 13 N N N Z Z Z Z Nq (H.ent (i:=0) Z) (fun _ hS=>Yb Z)<|az 14 N N N Z Z Z Z Nq (H.ent (i:=0) Z) (fun _ hS=>Zf dv Z)<|az 15 N N N Z Z Z Z Nq (H.ent (i:=0) Z) (fun _ hS=>aV aj Z (aC hS Z))<|az 16 N N N Z Z Z Z Nq (H.ent (i:=0) Z) (fun _ hS=>Ys Z)<|az 17 N N N Z Z Z Z Nq (H.ent (i:=0) Z) (fun _ hS=>bn dM Z)<|az 18 N N N Z Z Z Z Nq (H.ent (i:=0) Z) (fun _ hS=>eh Z Z I)<|az 19 N N N Z Z Z Z Nq (H.ent (i:=0) Z) (fun _ hS=>N Z Z)<|az 20 N N N Z Z Z Z Nq (H.ent (i:=0) Z) (fun _ hS=>Yb Z)<|az 21 N N N Z Z Z Z Nq (H.ent (i:=0) Z) (fun _ hS=>Ys Z)<|az 22 N N N Z Z Z Z Nq (H.ent (i:=0) Z) (fun _ hS=>Zf dv Z)<|az 23 N N N Z Z Z Z Nq (H.ent (i:=0) Z) (fun _ hS=>aV aj Z (aC hS Z))<|az 25 N N N Z Z Z Z Nq (H.ent (i:=0) Z) (fun _ hS=>Ys Z)<|az 26 N N N Z Z Z Z Nq (H.ent (i:=0) Z) (fun _ hS=>Zf dv Z)<|az 27 N N N Z Z Z Z Nq (H.ent (i:=0) Z) (fun _ hS=>aV aj Z (aC hS Z)) ?_
    refine Mv 24 28 N Z Z ?_ ?_
    ·
     refine ZG<|nn (k:=ks.length) H 0 Z dg Z (congrArg (Value.int .i64) hkh) hce1 I Z fun A128 H=> ?_
     rw[hk1]at H
     refine U ?_
     refine⟨(H.ent (i:=0) Z),?_⟩
     refine pz 28 N Z<|ZG<|nn (k:=ks.length) H 3 Z dg Z (congrArg (Value.int .i64) hkh) hcen I Z fun A132 H=> ?_
     rw[hk2]at H
     refine U ?_
     refine⟨(H.ent (i:=0) Z),?_⟩
     refine pz 29 N Z<|ZG<|bW jM (FW ks ks _ _ _ _ _ (H.rd0 1 Z) (H.rd0 0 Z) I) Z Z ?_
     rintro _ w46 ⟨rfl,hb⟩;replace H:=H.later hb;clear hb
     rw[decide_eq_true Z]
     refine U ?_
     refine⟨(H.ent (i:=0) Z),?_⟩
     refine az 30 N N N Z Z Z Z Nq (H.ent (i:=0) Z) (fun _ hS=>dI Z)<|az 31 N N N Z Z Z Z Nq (H.ent (i:=0) Z) (fun _ hS=>N Z Z)<|jf N<|ZF Z<|Zk<|Zr<|G (bu Z Z I I)<|G (Yi Z)<|U ?_
     exact⟨j+1,⟨by omega,H.forget (.cons _ (ap _)) (fun f hf=>by simp only[av,bo,or_false]at hf⊢;grind)⟩,dK Z,Qg,by show q.p.reps.length- (j+1)<q.p.reps.length-j;omega⟩
    ·
     refine ZG<|nn (k:=ks.length) H 2 Z dg Z (congrArg (Value.int .i64) hkh) hcen I Z fun A132 H=> ?_
     rw[hk2]at H
     refine U ?_
     refine⟨(H.ent (i:=0) Z),?_⟩
     refine pz 24 N Z<|ZG<|nn (k:=ks.length) H 1 Z dg Z (congrArg (Value.int .i64) hkh) hce1 I Z fun A128 H=> ?_
     rw[hk1]at H
     refine U ?_
     refine⟨(H.ent (i:=0) Z),?_⟩
     refine pz 29 N Z<|ZG<|bW jM (FW ks ks _ _ _ _ _ (H.rd0 0 Z) (H.rd0 1 Z) I) Z Z ?_
     rintro _ w47 ⟨rfl,hb⟩;replace H:=H.later hb;clear hb
     rw[decide_eq_true Z]
     refine U ?_
     refine⟨(H.ent (i:=0) Z),?_⟩
     refine az 30 N N N Z Z Z Z Nq (H.ent (i:=0) Z) (fun _ hS=>dI Z)<|az 31 N N N Z Z Z Z Nq (H.ent (i:=0) Z) (fun _ hS=>N Z Z)<|jf N<|ZF Z<|Zk<|Zr<|G (bu Z Z I I)<|G (Yi Z)<|U ?_
     exact⟨j+1,⟨by omega,H.forget (.cons _ (ap _)) (fun f hf=>by simp only[av,bo,or_false]at hf⊢;grind)⟩,dK Z,Qg,by show q.p.reps.length- (j+1)<q.p.reps.length-j;omega⟩
   ·
    refine U<|W<|ZF Z<|Zx<|Zr<|G (bu Z Z I I)<|G (Yi Z)<|U ?_
    exact⟨i+1,⟨by omega,H.forget (by repeat (first|exact ap _|refine .cons _ ?_)) (fun f hf=>by simp only[av,bo,or_false]at hf⊢;grind)⟩,dK Z,Qg,by show ps.length- (i+1)<ps.length-i;omega⟩
 ·
  refine U<|W<|ZF Z<|Zx<|W<|Zr<|G (Wb Z)<|U<|Zt ?_
  exact cy Z Z ⟨rfl,H.below⟩
end Go.Proofs.YtclibalpdhhhfaaGreat
