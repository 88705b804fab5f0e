/- Part 5 of the proofs over this seat: what its theorems say holds for every input that they name. -/
import Derived.Test.YtclibalpdhhhfaaGreatAF4
namespace Go.Proofs.YtclibalpdhhhfaaGreat
open Go Go.Eng Go.RowKit
open Go.Eng renaming m8→U, AG→W, Jj→Zr, M1→Zk, Pm→Zt, OL→Zb, O4→Zx, Pv→Yi, Pw→Yb, Pt→Ys, Pu→Yp, Ps→Yt, Pr→Yu, PK→Wi, PL→Wb, PI→Ws, PJ→Wp, PH→Wt, Pz→Zf, PD→Xi, PF→Xa, PE→Xb, PC→Xs, Pc→Kt, Pd→N, pB→ZT, oq→ZF
open Go.Proofs.Tryz renaming prog→aa
open _root_.List renaming mem_of_getElem?→ae,getElem?_eq_getElem→ah,mem_cons_of_mem→ak,mem_singleton→aq,replicate→ar,mem_append→au,mem_cons→ax,length_append→ay,mem_cons_self→az,append_assoc→aE,length_take→aH,getElem?_map→aL,sublist_cons_self→aV,append_nil→aX,map_append→bk,mem_map→bw,length_map→bF,take_length→bJ,mem_map_of_mem→bL,length_singleton→bO,length_cons→bV,mem_append_right→ch,sublist_append_right→cj,length→cu,mem_nil_iff→cC,perm_append_comm_assoc→fR,length_nil→nH,replicate_succ'→qP,nil_sublist→vr,perm_append_comm→xj,mem_of_mem_take→yE,range→Bf
open _root_.List.Perm renaming cons→ai,swap→al
open _root_.Nat renaming le_refl→ao,le_trans→aS,min_eq_left→bu,zero_le→bG,zero_add→cH
open _root_.List.Sublist renaming refl→ap
open _root_.Option.some renaming inj→bj
set_option maxHeartbeats 4000000
set_option maxRecDepth 20000
set_option linter.unusedSimpArgs false
set_option linter.unusedVariables false
set_option linter.unusedSectionVars false
theorem xu (p:Pa) (w:World) (h:p.rd 0 w.heap.size w) (hok:p.a.ok):dd aa yr [p.v] w fun v w2=> ∃ p':Pa,v=p'.v/\p'.a=p.a/\ek w w2 p':=
 (zH p w h hok).mono fun _ _ ⟨p',_,_,_,_,_,_,h1,h2,h3⟩=>⟨p',h1,h2,h3.new⟩
def Oc (wt:Int):Co:=⟨0,1,wt,[],none,0⟩
def Ns (wt:Int):Gr:=⟨0,wt,0,[],none,0,[],none,0⟩
theorem Ob (wt:Int) (lo hi:Nat) (w:World):(Oc wt).rd lo hi w:=⟨Rd.nil,by simp[Oc],by simp[Oc],by simp[Oc],by simp[Oc]⟩
theorem N3 (wt:Int) (lo hi:Nat) (w:World):(Ns wt).rd lo hi w:=⟨Rd.nil,by simp[Ns],Rd.nil,by simp[Ns],by simp[Ns],by simp[Ns],by simp[Ns]⟩
structure Qc (w00 w0 w:World) (b:Bk) (gP:Nat) (uP:Array Value) (F:List cr):Prop where
 pA:b.pA=some ⟨gP,0,none⟩
 row:dT EI b.ps b.pC uP
 sns:b.sns=[]/\b.snA=none/\b.snC=0
 co:xf w00 b.clo b.chi b.co∈F
 gr:JB w00 b.glo b.ghi b.gr∈F
 ps: ∀ q∈b.ps,tg w00 q.lo q.hi q.p∈F
 lo: ∀ f∈F,w0.heap.size<=f.lo
 H:Hp w0 w [(gP,.cells uP bD (0,0))] F
theorem JL {np nr few:Nat} {wt:Int} (w00 w:World) (h00:w00.heap.size<=w.heap.size) (q1:1<=np) (q4:np<=4) (n1:1<=nr) (n5:nr<=5) (f1:1<=few) (f2:few<=nr) (t1:1<=wt) (t2:wt<=1000):dd aa Ai [.agg #[J (np:Nat),J (nr:Nat),J (few:Nat),J wt]] w fun v w2=> ∃ (b:Bk) (gP:Nat) (uP:Array Value) (F:List cr),v=.tuple #[.agg b.c.toArray,J 0]/\b.a=s6 np nr few wt/\Qc w00 w w2 b gP uP F:=by
 refine aD yP Z Z ?_
 have H:=Hp.start w
 show CW _ _ _ _ (args [.agg #[J (np:Nat),J (nr:Nat),J (few:Nat),J wt]]) w
 refine W<|Zr<|fQ H Z Z fun w1 b1 H=>eH H pb Z fun w2 b2 H=>G (Wi Z)<|U<|W<|W<|Zr<|G (Zf p6 Z)<|G (Zd aj H 1 Z Z Z)<|G (cY Z Z I)<|G (Yb Z)<|ZG<|G (Zf p6 Z)<|ZG<|G (Zd aj H 1 Z Z Z)<|ZG<|G (en Z Z I)<|G (N Z Z)<|U<|ZF Z<|Zk<|W<|Zr<|G (Zf lx Z)<|G (Zd aj H 1 Z Z Z)<|G (Zf GZ Z)<|G (Zd aj H 1 Z Z Z)<|cd FK (Ms nr few _ n1 n5 f1 f2) Z Z ?_
 have hlo4:=H.size
 rintro _ w3 ⟨p4,rfl,hap4,hnp4⟩;replace H:=H.learn hnp4.2 (tg w00 w2.heap.size w3.heap.size p4) ⟨(aS h00 H.size),hnp4.1⟩ (ao _) (ao _);clear hnp4
 refine G (Yu Z)<|G (Xa Z Z)<|G (Xi Z Z)<|eH H bp Z fun w4 b4 H=>bo H 0 (#[J (p4.epoch),J (p4.leader),.slice p4.iA p4.isr.length p4.iC,.slice p4.kA p4.known.length p4.kC,.slice p4.rA p4.reps.length p4.rC,J (p4.few),J (p4.base)]) aK Z Z Z Z Z N N fun w5 H=>G (Wi Z)<|U<|W<|W<|Zr<|G (Yi Z)<|G (bU Z Z (by decide))<|U<|ZF Z<|Zk<|W<|Zr<|G (Zf AA Z)<|G (Zd aj H 2 Z Z Z)<|cd D3 (FF wt _ t1 t2) Z Z ?_
 rintro _ w6 ⟨rfl,hb⟩;replace H:=H.later hb;clear hb
 refine G (Yu Z)<|G (Xa Z Z)<|G (Xi Z Z)<|eH H cJ Z fun w7 b6 H=>bo H 0 (#[J (0),J (1),J (wt),.slice none 0 0]) aF Z Z Z Z Z N N fun w8 H=>G (Wi Z)<|U<|W<|W<|Zr<|G (Yi Z)<|G (bU Z Z (by decide))<|U<|ZF Z<|Zk<|W<|Zr<|G (Zf AA Z)<|G (Zd aj H 3 Z Z Z)<|cd D1 (MX wt _ t1 t2) Z Z ?_
 rintro _ w9 ⟨rfl,hb⟩;replace H:=H.later hb;clear hb
 refine G (Yu Z)<|G (Xa Z Z)<|G (Xi Z Z)<|eH H dZ Z fun w10 b7 H=>bo H 0 (#[J (0),J (wt),J (0),.slice none 0 0,.slice none 0 0]) bB Z Z Z Z Z N N fun w11 H=>G (Wi Z)<|U<|W<|Zr<|G (Zw av H 1 Z Z Z)<|G (Zw aP H 0 Z Z Z)<|G (bi (cs:= #[.slice none 0 0,J (0),J (1),J (wt),.slice none 0 0,J (0),J (wt),J (0),.slice none 0 0,.slice none 0 0,.slice none 0 0]) JY pb N)<|eH H pb Z fun w12 b8 H=>bo H 0 (#[.slice none 0 0,J (0),J (1),J (wt),.slice none 0 0,J (0),J (wt),J (0),.slice none 0 0,.slice none 0 0,.slice none 0 0]) lE Z Z Z Z Z N N fun w13 H=>U<|W<|W<|Zr<|G (Zf p6 Z)<|G (Zd aj H 5 Z Z Z)<|G (Yi Z)<|U<|Zb ?_
 refine ce (τ:=Nat×List Pq×Option Addr×Nat×List (Nat×Obj)×List cr) [51,52,53,54,55,56,57,58,59,60] (fun(i,_)=>[(51,J (i:Nat))]) (fun(i,qs,A,c,Lq,F') w'=>i<=np/\qs.map (fun q=>q.p.a)=ar i (m5 nr few)/\gd EI (.slice A qs.length c) bD qs Lq/\(∀ q∈qs,tg w00 q.lo q.hi q.p∈F')/\(∀ f∈F',w.heap.size<=f.lo)/\(∃ lo hi,tg w00 lo hi p4∈F')/\Hp w w' ((b8,.cells #[.slice A qs.length c,J (0),J (1),J (wt),.slice none 0 0,J (0),J (wt),J (0),.slice none 0 0,.slice none 0 0,.slice none 0 0] nN (0,0))::(b7,.cells #[J (0),J (wt),J (0),.slice none 0 0,.slice none 0 0] cL (0,0))::(b6,.cells #[J (0),J (1),J (wt),.slice none 0 0] bd (0,0))::(b4,.cells #[J (p4.epoch),J (p4.leader),.slice p4.iA p4.isr.length p4.iC,.slice p4.kA p4.known.length p4.kC,.slice p4.rA p4.reps.length p4.rC,J (p4.few),J (p4.base)] bD (0,0))::(b2,.cells #[.slice none 0 0,J (0),J (0),J (0),.slice none 0 0,J (0),J (0),J (0),.slice none 0 0,.slice none 0 0,.slice none 0 0] nN (0,0))::(b1,.cells #[J (((np:Nat):Int)),J (((nr:Nat):Int)),J (((few:Nat):Int)),J (wt)] lp (0,0))::(Lq++[])) F') (fun(i,_)=>np-i) (0,[],none,0,[],_) ⟨bG _,rfl,gd.nil,by simp,fun f hf=>(by rw[aq.1 hf];exact hlo4),⟨_,_,az ..⟩,H⟩ (dF Z) ?_
 rintro⟨i,qs,A,c,Lq,F'⟩ ρ1 w14 ⟨hi,hqa,ho,hqs,hFl,⟨lo4,hi4,hp4⟩,H⟩
 show CW _ _ _ _ (dC (gC _ _ ρ1) [(51,J (i:Nat))]) w14
 have hql:qs.length=i:=by have:=congrArg cu hqa;simpa using this
 refine W<|Zr ?_
 refine cT (cG Z Z) Z Z Z (fun h52=> ?_) (fun h52=> ?_)
 refine U<|W<|ZT Z<|Zk<|W ?_
 refine eE (τ:=List Pq×Option Addr×Nat×List (Nat×Obj)×List cr) [53,54,55,56,57,58,59] (fun _=>[]) (fun(q9,A9,c9,L9,F9) w'=>q9.map (fun q=>q.p.a)=ar (i+1) (m5 nr few)/\gd EI (.slice A9 q9.length c9) bD q9 L9/\(∀ q∈q9,tg w00 q.lo q.hi q.p∈F9)/\(∀ f∈F9,w.heap.size<=f.lo)/\(∃ lo hi,tg w00 lo hi p4∈F9)/\Hp w w' ((b8,.cells #[.slice A9 q9.length c9,J (0),J (1),J (wt),.slice none 0 0,J (0),J (wt),J (0),.slice none 0 0,.slice none 0 0,.slice none 0 0] nN (0,0))::(b7,.cells #[J (0),J (wt),J (0),.slice none 0 0,.slice none 0 0] cL (0,0))::(b6,.cells #[J (0),J (1),J (wt),.slice none 0 0] bd (0,0))::(b4,.cells #[J (p4.epoch),J (p4.leader),.slice p4.iA p4.isr.length p4.iC,.slice p4.kA p4.known.length p4.kC,.slice p4.rA p4.reps.length p4.rC,J (p4.few),J (p4.base)] bD (0,0))::(b2,.cells #[.slice none 0 0,J (0),J (0),J (0),.slice none 0 0,J (0),J (0),J (0),.slice none 0 0,.slice none 0 0,.slice none 0 0] nN (0,0))::(b1,.cells #[J (((np:Nat):Int)),J (((nr:Nat):Int)),J (((few:Nat):Int)),J (wt)] lp (0,0))::(L9++[])) F9) ?_ ?_
 refine Zb ?_
 refine qJ bX [0] [1,2,3,4,5,6,7] [0] 7 N N N Nq ?_
 refine aw Z Z Z Z Z (fun w' hw'=>Zf dG Z)<|aR ?_
 intro w15 hw';replace H:=H.later hw';clear hw'
 refine tf 1 2 N Z Z ?_ ?_
 refine G (Zd eg H 0 Z Z Z)<|U<|da 2 N Z<|G (Zw aG H 3 Z Z Z)<|U<|da 3 N Z<|cd mB (xu p4 _ (Hp.paM H hp4) (hap4▸(Dh (Φ:=fun _=>True) n1 n5 f1 f2).ok)) Z Z ?_
 have hlo2:=H.size
 rintro _ w16 ⟨p2,rfl,hap2,hnp2⟩;replace H:=H.learn hnp2.2 (tg w00 w15.heap.size w16.heap.size p2) ⟨(aS h00 H.size),hnp2.1⟩ (ao _) (ao _);clear hnp2
 refine U<|da 4 N Z<|sW (vs:=[.agg #[J (p2.epoch),J (p2.leader),.slice p2.iA p2.isr.length p2.iC,.slice p2.kA p2.known.length p2.kC,.slice p2.rA p2.reps.length p2.rC,J (p2.few),J (p2.base)]]) H ic bp Z Z Z Z Z Z fun w17 b57 H=>U<|da 5 N Z<|vT (Y:=EI) xc (K:=[(b57,_),(b8,_),(b7,_),(b6,_),(b4,_),(b2,_),(b1,_)]) (L:=Lq) (M:=[]) H ho (es:=qs) (news:=[⟨p2,w15.heap.size,w16.heap.size⟩]) Z Z Z (vX.row (m:=1) (sz:=EI.sz) (H.ent (i:=0) Z) Z) (by simp only[bO];omega) Z ?_
 intro A5 c5 w18 L5 h5 h5m ho5 H
 refine U<|da 6 N Z<|G (Zf dG Z)<|U<|da 7 N Z<|bo H 1 (#[.slice A5 ((qs++[(⟨p2,w15.heap.size,w16.heap.size⟩:Pq)]).length) c5,J (0),J (1),J (wt),.slice none 0 0,J (0),J (wt),J (0),.slice none 0 0,.slice none 0 0,.slice none 0 0]) ui Z Z Z Z Z N N fun w19 H=>U<|cy N ?_
 exact⟨(qs++[(⟨p2,w15.heap.size,w16.heap.size⟩:Pq)],A5,c5,L5,tg w00 w15.heap.size w16.heap.size p2::F'),⟨by rw[bk,hqa,qP];show _++[p2.a]=_;rw[hap2,hap4],ho5,fun q hq=>(by rcases au.1 hq with hq|hq;exact ak _ (hqs q hq);rw[aq.1 hq];exact az ..),fun f hf=>(by rcases ax.1 hf with rfl|hf;exact hlo2;exact hFl f hf),⟨lo4,hi4,ak _ hp4⟩,H.forget (.cons _ (ap _)) (fun _ h=>h)⟩,vW,Qg⟩
 refine G (Zw aG H 3 Z Z Z)<|U ?_
 refine tf 1 3 N Z Z ?_ ?_
 refine G (Zd eg H 0 Z Z Z)<|U<|da 3 N Z<|cd mB (xu p4 _ (Hp.paM H hp4) (hap4▸(Dh (Φ:=fun _=>True) n1 n5 f1 f2).ok)) Z Z ?_
 have hlo2:=H.size
 rintro _ w20 ⟨p2,rfl,hap2,hnp2⟩;replace H:=H.learn hnp2.2 (tg w00 w15.heap.size w20.heap.size p2) ⟨(aS h00 H.size),hnp2.1⟩ (ao _) (ao _);clear hnp2
 refine U<|da 4 N Z<|sW (vs:=[.agg #[J (p2.epoch),J (p2.leader),.slice p2.iA p2.isr.length p2.iC,.slice p2.kA p2.known.length p2.kC,.slice p2.rA p2.reps.length p2.rC,J (p2.few),J (p2.base)]]) H ic bp Z Z Z Z Z Z fun w21 b57 H=>U<|da 5 N Z<|vT (Y:=EI) xc (K:=[(b57,_),(b8,_),(b7,_),(b6,_),(b4,_),(b2,_),(b1,_)]) (L:=Lq) (M:=[]) H ho (es:=qs) (news:=[⟨p2,w15.heap.size,w20.heap.size⟩]) Z Z Z (vX.row (m:=1) (sz:=EI.sz) (H.ent (i:=0) Z) Z) (by simp only[bO];omega) Z ?_
 intro A5 c5 w22 L5 h5 h5m ho5 H
 refine U<|da 6 N Z<|G (Zf dG Z)<|U<|da 7 N Z<|bo H 1 (#[.slice A5 ((qs++[(⟨p2,w15.heap.size,w20.heap.size⟩:Pq)]).length) c5,J (0),J (1),J (wt),.slice none 0 0,J (0),J (wt),J (0),.slice none 0 0,.slice none 0 0,.slice none 0 0]) ui Z Z Z Z Z N N fun w23 H=>U<|cy N ?_
 exact⟨(qs++[(⟨p2,w15.heap.size,w20.heap.size⟩:Pq)],A5,c5,L5,tg w00 w15.heap.size w20.heap.size p2::F'),⟨by rw[bk,hqa,qP];show _++[p2.a]=_;rw[hap2,hap4],ho5,fun q hq=>(by rcases au.1 hq with hq|hq;exact ak _ (hqs q hq);rw[aq.1 hq];exact az ..),fun f hf=>(by rcases ax.1 hf with rfl|hf;exact hlo2;exact hFl f hf),⟨lo4,hi4,ak _ hp4⟩,H.forget (.cons _ (ap _)) (fun _ h=>h)⟩,vW,Qg⟩
 refine cd mB (xu p4 _ (Hp.paM H hp4) (hap4▸(Dh (Φ:=fun _=>True) n1 n5 f1 f2).ok)) Z Z ?_
 have hlo2:=H.size
 rintro _ w24 ⟨p2,rfl,hap2,hnp2⟩;replace H:=H.learn hnp2.2 (tg w00 w15.heap.size w24.heap.size p2) ⟨(aS h00 H.size),hnp2.1⟩ (ao _) (ao _);clear hnp2
 refine U ?_
 refine tf 1 4 N Z Z ?_ ?_
 refine G (Zd eg H 0 Z Z Z)<|U<|da 4 N Z<|sW (vs:=[.agg #[J (p2.epoch),J (p2.leader),.slice p2.iA p2.isr.length p2.iC,.slice p2.kA p2.known.length p2.kC,.slice p2.rA p2.reps.length p2.rC,J (p2.few),J (p2.base)]]) H ic bp Z Z Z Z Z Z fun w25 b57 H=>U<|da 5 N Z<|vT (Y:=EI) xc (K:=[(b57,_),(b8,_),(b7,_),(b6,_),(b4,_),(b2,_),(b1,_)]) (L:=Lq) (M:=[]) H ho (es:=qs) (news:=[⟨p2,w15.heap.size,w24.heap.size⟩]) Z Z Z (vX.row (m:=1) (sz:=EI.sz) (H.ent (i:=0) Z) Z) (by simp only[bO];omega) Z ?_
 intro A5 c5 w26 L5 h5 h5m ho5 H
 refine U<|da 6 N Z<|G (Zf dG Z)<|U<|da 7 N Z<|bo H 1 (#[.slice A5 ((qs++[(⟨p2,w15.heap.size,w24.heap.size⟩:Pq)]).length) c5,J (0),J (1),J (wt),.slice none 0 0,J (0),J (wt),J (0),.slice none 0 0,.slice none 0 0,.slice none 0 0]) ui Z Z Z Z Z N N fun w27 H=>U<|cy N ?_
 exact⟨(qs++[(⟨p2,w15.heap.size,w24.heap.size⟩:Pq)],A5,c5,L5,tg w00 w15.heap.size w24.heap.size p2::F'),⟨by rw[bk,hqa,qP];show _++[p2.a]=_;rw[hap2,hap4],ho5,fun q hq=>(by rcases au.1 hq with hq|hq;exact ak _ (hqs q hq);rw[aq.1 hq];exact az ..),fun f hf=>(by rcases ax.1 hf with rfl|hf;exact hlo2;exact hFl f hf),⟨lo4,hi4,ak _ hp4⟩,H.forget (.cons _ (ap _)) (fun _ h=>h)⟩,vW,Qg⟩
 refine sW (vs:=[.agg #[J (p2.epoch),J (p2.leader),.slice p2.iA p2.isr.length p2.iC,.slice p2.kA p2.known.length p2.kC,.slice p2.rA p2.reps.length p2.rC,J (p2.few),J (p2.base)]]) H ic bp Z Z Z Z Z Z fun w28 b57 H=>U<|da 1 N Z<|G (Zd eg H 1 Z Z Z)<|U<|da 5 N Z<|vT (Y:=EI) xc (K:=[(b57,_),(b8,_),(b7,_),(b6,_),(b4,_),(b2,_),(b1,_)]) (L:=Lq) (M:=[]) H ho (es:=qs) (news:=[⟨p2,w15.heap.size,w24.heap.size⟩]) Z Z Z (vX.row (m:=1) (sz:=EI.sz) (H.ent (i:=0) Z) Z) (by simp only[bO];omega) Z ?_
 intro A5 c5 w29 L5 h5 h5m ho5 H
 refine U<|da 6 N Z<|G (Zf dG Z)<|U<|da 7 N Z<|bo H 1 (#[.slice A5 ((qs++[(⟨p2,w15.heap.size,w24.heap.size⟩:Pq)]).length) c5,J (0),J (1),J (wt),.slice none 0 0,J (0),J (wt),J (0),.slice none 0 0,.slice none 0 0,.slice none 0 0]) ui Z Z Z Z Z N N fun w30 H=>U<|cy N ?_
 exact⟨(qs++[(⟨p2,w15.heap.size,w24.heap.size⟩:Pq)],A5,c5,L5,tg w00 w15.heap.size w24.heap.size p2::F'),⟨by rw[bk,hqa,qP];show _++[p2.a]=_;rw[hap2,hap4],ho5,fun q hq=>(by rcases au.1 hq with hq|hq;exact ak _ (hqs q hq);rw[aq.1 hq];exact az ..),fun f hf=>(by rcases ax.1 hf with rfl|hf;exact hlo2;exact hFl f hf),⟨lo4,hi4,ak _ hp4⟩,H.forget (.cons _ (ap _)) (fun _ h=>h)⟩,vW,Qg⟩
 rintro⟨q9,A9,c9,L9,F9⟩ ρ1 w31 H9
 show CW _ _ _ _ (dC (gC _ _ ρ1) []) w31
 refine Zr<|G (br Z Z I I)<|G (Yi Z)<|U ?_
 exact⟨(i+1,q9,A9,c9,L9,F9),⟨by omega,H9⟩,dF Z,Qg,by show np- (i+1)<np-i;omega⟩
 refine U<|W<|ZF Z<|Zx<|W<|Zr<|G (Zw nC H 0 Z Z Z)<|G (Yi Z)<|bo H 4 (#[.slice A qs.length c,J (0),J (1),J (wt),.slice none 0 0,J (0),J (wt),J (0),.slice none 0 0,.slice none 0 0,.slice none 0 0]) lE Z Z Z Z Z N N fun w32 H=>G (Wi Z)<|U<|Zt ?_
 obtain rfl:i=np:=by omega
 obtain⟨gP,uP,rfl,rfl,row⟩:=ho.row I
 have H7:=((H.forget (L':=[(gP,_)]) ((.cons _ (.cons _ (.cons _ (.cons _ (.cons _ (.cons _ (ap _)))))))) (fun _ h=>h)).learnOld (xf w00 w.heap.size w.heap.size (Oc wt)) ⟨h00,Ob ..⟩ (ao _)).learnOld (JB w00 w.heap.size w.heap.size (Ns wt)) ⟨h00,N3 ..⟩ (ao _)
 exact bC (cs0:= #[.slice (Qd gP) qs.length c,J (0),J (1),J (wt),.slice none 0 0,J (0),J (wt),J (0),.slice none 0 0,.slice none 0 0,.slice none 0 0]) (v1:=J 0) Z nC Z (H.ent (i:=4) Z) Z Z ⟨⟨qs,some ⟨gP,0,none⟩,c,Oc wt,w.heap.size,w.heap.size,Ns wt,w.heap.size,w.heap.size,[],none,0⟩,gP,uP,_,rfl,by unfold Bk.a s6;rw[hqa];rfl,⟨rfl,row,⟨rfl,rfl,rfl⟩,ak _ (az ..),az ..,fun q hq=>ak _ (ak _ (hqs q hq)),fun f hf=>(by rcases ax.1 hf with rfl|hf;exact ao _;rcases ax.1 hf with rfl|hf;exact ao _;exact hFl f hf),H7⟩⟩
theorem yS (es:List ByteArray) (A:Option Addr) (c:Nat) (w:World) (hr:Rd kR 0 w.heap.size A es w) (hb:es.length*16<=140737488355328):
  dd aa jd [.slice A es.length c] w fun v w2=> ∃ A' c' L',v=.slice A' es.length c'/\es.length<=c'/\c'<=maxLen/\gd kR (.slice A' es.length c') km es L'/\Hp w w2 L' []:=by
 refine aD ng Z Z ?_
 have H:=Hp.startRd hr
 refine W<|Zr<|G (Ws Z)<|U<|W<|W<|Zr<|G (Ys Z) ?_
 refine wr (qz iM Z) Z Z Z (fun h4=> ?_) (fun h4=> ?_)
 refine U<|ZT Z<|W<|Zr<|G (Ws Z)<|U<|Zt ?_
 have he:es=[]:=by
  cases es with
  |nil=>rfl
  |cons e es=>obtain⟨b,o,hA,_⟩:=hr (by simp);subst hA;cases h4
 subst he
 exact cD Z Z ⟨none,0,[],rfl,by simp,by decide,gd.nil,H.forget (by simp) (by simp)⟩
 refine U<|ZF Z<|Zk<|W<|Zr<|Nw H fT Z fun w1 b5 H=>G (Ys Z)<|vT (Y:=kR) vR (K:=[]) (L:=[(b5,_)]) (M:=[]) H (rT.lit (by decide) (by rfl)) (es:=[]) (news:=es) Z Z Z (Rd.src (H.fact (i:=0) Z)) (by simpa using hb) Z ?_
 intro A3 c3 w3 L3 h3a h3b ho3 H
 refine G (Ws Z)<|U<|Zt ?_
 exact cD Z Z ⟨A3,c3,L3,rfl,h3a,h3b,ho3,H.forget (by simp) (by simp)⟩
theorem yR (es:List ByteArray) (A:Option Addr) (c:Nat) (w:World) (hr:Rd kR 0 w.heap.size A es w) (hb:es.length*16<=140737488355328):
  dd aa jd [.slice A es.length c] w fun v w2=> ∃ A' c',v=.slice A' es.length c'/\es.length<=c'/\Rd kR w.heap.size w2.heap.size A' es w2/\Below w.heap.size w w2:=
 (yS es A c w hr hb).mono fun v w2 ⟨A',c',L',h1,h2,_,h4,h5⟩=>⟨A',c',h1,h2,h4.rd (K:=[]) (M:=[]) (by simpa using h5),h5.below⟩
structure Aq where
 x:An
 A:Option Addr
 c:Nat
def Of:fg Aq:=⟨fun q=>[J q.x.code,J q.x.n,.slice q.A q.x.texts.length q.c],3,fun _=>rfl,by decide,fun a u hu=>by
 simp only[ax,cC,or_false]at hu
 rcases hu with h|h|h<;>subst h<;>rfl⟩
structure Rn where
 xs:List Aq
 oA:Option Addr
 oC:Nat
 b:Bk
def Rn.v (r:Rn):Value:=.tuple #[.slice r.oA r.xs.length r.oC,.agg r.b.c.toArray,J 0]
structure Rn.rd (r:Rn) (lo hi:Nat) (w:World):Prop where
 xs:Rd Of lo hi r.oA r.xs w
 oC:r.xs.length<=r.oC
 tx: ∀ x∈r.xs,Rd kR lo hi x.A x.x.texts w/\x.x.texts.length<=x.c
 ps:Rd EI lo hi r.b.pA r.b.ps w
 pC:r.b.ps.length<=r.b.pC
 pa: ∀ q∈r.b.ps,q.p.rd lo hi w
 co:r.b.co.rd lo hi w
 gr:r.b.gr.rd lo hi w
theorem Rn.rd.st {r:Rn} {lo hi:Nat} {w w':World} (hk: ∀ k,lo<=k->k<hi->w'.heap[k]? =w.heap[k]?) (h:r.rd lo hi w):r.rd lo hi w':=⟨h.xs.st hk,h.oC,fun x hx=>⟨(h.tx x hx).1.st hk,(h.tx x hx).2⟩,h.ps.st hk,h.pC,fun q hq=>(h.pa q hq).st hk,h.co.st hk,h.gr.st hk⟩
theorem Rn.rd.mono {r:Rn} {lo hi lo' hi':Nat} {w:World} (h:r.rd lo hi w) (h1:lo'<=lo) (h2:hi<=hi'):r.rd lo' hi' w:=⟨h.xs.mono h1 h2,h.oC,fun x hx=>⟨(h.tx x hx).1.mono h1 h2,(h.tx x hx).2⟩,h.ps.mono h1 h2,h.pC,fun q hq=>Pa.rd.mono (h.pa q hq) h1 h2,Co.rd.mono h.co h1 h2,Gr.rd.mono h.gr h1 h2⟩
theorem Hp.rdM {α:Type} {Y:fg α} {w0 w:World} {L:List (Nat×Obj)} {F:List cr} {lo hi:Nat} {A:Option Addr} {es:List α} (H:Hp w0 w L F) (h:dM Y lo hi A es∈F):Rd Y 0 w.heap.size A es w:=by
 obtain⟨h1,h2,-⟩:=H.facts _ h
 exact Rd.mono h1 (bG _) h2
theorem Bw.into2 {w0 w w2:World} {bb gP:Nat} {b:Bk} {uP:Array Value} {Ls Lo K:List (Nat×Obj)} {F F2:List cr} (B:Bw w0 w bb b gP uP Ls Lo K F) (X:List (Nat×Obj)) (H:Hp w0 w2 (X++((bb,.cells b.c.toArray bK (0,0))::(gP,.cells uP bD (0,0))::(Ls++(Lo++K)))) F2) (hF: ∀ f∈F,f∈F2):Bw w0 w2 bb b gP uP Ls Lo (X++K) F2:=
 ⟨B.pA,B.row,B.sn,B.own,hF _ B.co,hF _ B.gr,fun q hq=>hF _ (B.ps q hq),H.perm (NZ [(bb,_),(gP,_)] Ls Lo X K)⟩
theorem OI (A Ls Lo oL K:List (Nat×Obj)):(A++(oL++(Ls++(Lo++K)))).Perm (A++(Ls++(Lo++(oL++K)))):=by
 refine List.Perm.append_left A ?_
 rw[show Ls++(Lo++(oL++K))=(Ls++Lo)++(oL++K) by simp,show Ls++(Lo++K)=(Ls++Lo)++K by simp]
 exact fR oL (Ls++Lo) K
structure Ol (w0 w:World) (W0:Wa) (acts:List Act) (A0:Option Addr) (bb:Nat) (K:List (Nat×Obj)) (i:Nat) (b:Bk) (xs:List Aq) (gP:Nat) (uP:Array Value) (Ls Lo:List (Nat×Obj)) (oA:Option Addr) (oC:Nat) (oL:List (Nat×Obj)) (F:List cr):Prop where
 le:i<=acts.length
 run:nF W0 (acts.take i) (xs.map Aq.x) b.a
 B:Bw w0 w bb b gP uP Ls Lo (oL++K) F
 own:gd Of (.slice oA xs.length oC) d8 xs oL
 tx: ∀ x∈xs,x.x.texts.length<=x.c/\ ∃ lo hi,w0.heap.size<=lo/\dM kR lo hi x.A x.x.texts∈F
 ac:dM sM 0 w0.heap.size A0 acts∈F
theorem Pj (bb gP:Nat×Obj) (Ls Lo oL K:List (Nat×Obj)):(bb::(K++(gP::(Ls++(Lo++oL))))).Perm (bb::gP::(Ls++(Lo++(oL++K)))):=by
 rw[show Ls++(Lo++(oL++K))=(Ls++(Lo++oL))++K by simp]
 refine ai _ ?_
 exact(xj (l₁:=K) (l₂:=gP::(Ls++(Lo++oL))))
theorem Ol.rd {w0 w w2:World} {W0:Wa} {acts:List Act} {A0:Option Addr} {bb:Nat} {K:List (Nat×Obj)} {i:Nat} {b:Bk} {xs:List Aq} {gP:Nat} {uP:Array Value} {Ls Lo:List (Nat×Obj)} {oA:Option Addr} {oC:Nat} {oL:List (Nat×Obj)} {F F2:List cr} (Ii:Ol w0 w W0 acts A0 bb K i b xs gP uP Ls Lo oA oC oL F) (X:List (Nat×Obj)) (H:Hp w0 w2 (X++((gP,.cells uP bD (0,0))::(Ls++(Lo++oL)))) F2) (hF: ∀ f∈F,f∈F2):(Rn.mk xs oA oC b).rd w0.heap.size w2.heap.size w2:=by
 have H1:=H.forget (L':=oL) (((cj Lo oL).trans (cj Ls _)).trans ((aV _ _).trans (cj X _))) (fun _ h=>h)
 have H2:=H.forget (L':=[(gP,.cells uP bD (0,0))]) (((List.cons_sublist_cons.2 (vr _))).trans (cj X _)) (fun _ h=>h)
 obtain⟨A,c,e1,e2,-⟩:=Ii.own.form
 cases e1
 have hg:=H2.ge (i:=0) Z
 have hl:=H2.lt (i:=0) Z
 refine⟨Ii.own.rd (K:=[]) (M:=[]) (by simpa using H1),e2,fun x hx=> ?_,?_,Ii.B.row.le,fun q hq=> ?_,?_,?_⟩
 obtain⟨z1,lo,hi,z2,z3⟩:=Ii.tx x hx
 obtain⟨h1,h2,-⟩:=H.facts _ (hF _ z3)
 exact⟨Rd.mono h1 z2 h2,z1⟩
 have:=(Ii.B.row.rd (H2.ent (i:=0) Z)).mono hg (Nat.succ_le_of_lt hl)
 rw[<-Ii.B.pA]at this
 exact this
 obtain⟨h1,h2,-⟩:=H.facts _ (hF _ (Ii.B.ps q hq))
 exact Pa.rd.mono h1.2 h1.1 h2
 obtain⟨h1,h2,-⟩:=H.facts _ (hF _ Ii.B.co)
 exact Co.rd.mono h1.2 h1.1 h2
 obtain⟨h1,h2,-⟩:=H.facts _ (hF _ Ii.B.gr)
 exact Gr.rd.mono h1.2 h1.1 h2
theorem Iw {es:List cN} {n st a most b:Nat} {out:List ByteArray} (h:AZ es n st a most out b):out.length<=most:=h.2.2.2.1
theorem AV {w:Wa} {a:Act} {w':Wa} {x:An} (h:Ed w a w' x) (hn:a.kind=19->a.n<=20) (h17:1<=a.kind):x.texts.length<=20:=by
 cases h with
 |poll x h1 h2=>
  cases h2 with
  |no=>exact bG _
  |yes p x h3 h4 h5=>
   cases h5 with
   |none=>exact bG _
   |range=>exact bG _
   |ok l r st out b g1 g2 g3 g4 g5=>have:=Iw g5;have:=hn h1;show out.length<=20;omega
 |other h1=>
  have:(xe w a).2.texts=[]:=by
   obtain⟨a1,a2,a3,a4,a5,a6,a7,a8⟩:=pF a w
   rcases Classical.em (a.kind=1)with h|h
   rw[a1 h];exact yo ..
   rcases Classical.em (a.kind=2)with h|h
   rw[a2 h];exact wZ ..
   rcases Classical.em (a.kind=3∨a.kind=4)with h|h
   rw[a3 h];exact yb ..
   rcases Classical.em (a.kind=5)with h|h
   rw[a4 h];exact vf ..
   rcases Classical.em (a.kind=6)with h|h
   rw[a5 h];exact yj ..
   rcases Classical.em (a.kind=7)with h|h
   rw[a6 h];rfl
   rcases Classical.em (8<=a.kind/\a.kind<=15)with h|h
   rw[a7 h];exact ye ..
   rw[a8 I];exact zR ..
  rw[this];exact bG _
theorem NM {np nr few:Nat} {wt:Int} {acts:List Act} {A0:Option Addr} {c0:Nat} (w:World) (q1:1<=np) (q4:np<=4) (n1:1<=nr) (n5:nr<=5) (f1:1<=few) (f2:few<=nr) (t1:1<=wt) (t2:wt<=1000) (hr:Rd sM 0 w.heap.size A0 acts w) (hl:acts.length<=400) (hg: ∀ a∈acts,ue np nr a):dd aa DA [.agg #[J (np:Nat),J (nr:Nat),J (few:Nat),J wt],.slice A0 acts.length c0] w fun v w2=> ∃ r:Rn,v=r.v/\nF (s6 np nr few wt) acts (r.xs.map Aq.x) r.b.a/\r.rd w.heap.size w2.heap.size w2/\Below w.heap.size w w2:=by
 refine aD BP Z Z ?_
 have H:=Hp.startRd hr
 show CW _ _ _ _ (args [.agg #[J (np:Nat),J (nr:Nat),J (few:Nat),J wt],.slice A0 acts.length c0]) w
 refine W<|Zr<|fQ H Z Z fun w1 b2 H=>G (Ws Z)<|eH H pb Z fun w2 b5 H=>G (Wi Z)<|U<|W<|Zr<|G (Zw pI H 1 Z Z Z)<|cd yX (JL w _ H.size q1 q4 n1 n5 f1 f2 t1 t2) Z Z ?_
 rintro _ w3 ⟨⟨ps,pA,pC,co,clo,chi,gr,glo,ghi,sns,snA,snC⟩,gP,uP,F1,rfl,hba,⟨hpA,row,⟨hs1,hs2,hs3⟩,hco,hgr,hps,hlo1,H1⟩⟩
 dsimp only at hpA row hs1 hs2 hs3 hco hgr hps
 subst hpA;subst hs1;subst hs2;subst hs3
 replace H:=H.joinF H1 hlo1;clear H1
 refine G (Yu Z)<|G (Xa Z Z)<|G (Xi Z Z)<|eH H pb Z fun w4 b7 H=>bo H 0 (#[.slice (Qd gP) ps.length pC,J (co.clock),J (co.next),J (co.wait),.slice co.A co.txs.length co.cap,J (gr.clock),J (gr.wait),J (gr.gen),.slice gr.mA gr.ms.length gr.mC,.slice gr.oA gr.os.length gr.oC,.slice none (([]:List Sn).length) 0]) lE Z Z Z Z Z N N fun w5 H=>G (Wi Z)<|U<|W<|W<|Zr<|G (Yi Z)<|G (bU Z Z (by decide))<|U<|ZF Z<|Zk<|W<|W<|Zr<|G (Ys Z)<|G (bn zY Z)<|G (en Z Z I)<|U<|ZF Z<|Zk<|W<|Zr<|G (Zw nC H 0 Z Z Z)<|G (bi (cs:= #[.slice (Qd gP) ps.length pC,J (co.clock),J (co.next),J (co.wait),.slice co.A co.txs.length co.cap,J (gr.clock),J (gr.wait),J (gr.gen),.slice gr.mA gr.ms.length gr.mC,.slice gr.oA gr.os.length gr.oC,.slice none (([]:List Sn).length) 0]) Ij JI N)<|fQ H Z Z fun w6 b29 H=>G (Wp Z)<|U<|W<|Zr<|G (Ws Z)<|U<|W<|W<|Zr<|G (Ys Z)<|G (bn zY Z) ?_
 refine G (Yi Z)<|U<|Zb ?_
 obtain⟨K3,hK3⟩: ∃ l:List (Nat×Obj),([(b7,.cells #[.slice (Qd gP) ps.length pC,J (co.clock),J (co.next),J (co.wait),.slice co.A co.txs.length co.cap,J (gr.clock),J (gr.wait),J (gr.gen),.slice gr.mA gr.ms.length gr.mC,.slice gr.oA gr.os.length gr.oC,.slice none (([]:List Sn).length) 0] nN (0,0)),(b5,.cells #[.slice none 0 0,J (0),J (0),J (0),.slice none 0 0,J (0),J (0),J (0),.slice none 0 0,.slice none 0 0,.slice none 0 0] nN (0,0)),(b2,.cells #[J (((np:Nat):Int)),J (((nr:Nat):Int)),J (((few:Nat):Int)),J (wt)] lp (0,0))]:List (Nat×Obj))=l:=⟨_,rfl⟩
 refine ce (τ:=Nat×Bk×List Aq×Nat×Array Value×List (Nat×Obj)×List (Nat×Obj)×Option Addr×Nat×List (Nat×Obj)×List cr) [10,12,13,32,33,34,35,36,37,38,39,40,41,42,43,44,45,46,47] (fun(i,_,xs,_,_,_,_,oA,oC,_,_)=>[(32,J (i:Nat)),(10,.slice oA xs.length oC)]) (fun(i,b,xs,gP,uP,Ls,Lo,oA,oC,oL,F') w'=>Ol w w' (s6 np nr few wt) acts A0 b29 K3 i b xs gP uP Ls Lo oA oC oL F') (fun(i,_)=>acts.length-i) (0,⟨ps,some ⟨gP,0,none⟩,pC,co,clo,chi,gr,glo,ghi,[],none,0⟩,[],gP,uP,[],[],none,0,[],_) (by subst hK3;exact⟨bG _,by rw[hba];exact .nil _,⟨rfl,row,gd.nil,rfl,ch _ hco,ch _ hgr,fun q hq=>ch _ (hps q hq),H.perm (ai _ (al _ _ _))⟩,gd.nil,by simp,az ..⟩) (kO Z Z) ?_
 rintro⟨i,b,xs,gP1,uP1,Ls,Lo,oA,oC,oL,F'⟩ ρ1 w7 Ii
 show CW _ _ _ _ (dC (gC _ _ ρ1) [(32,J (i:Nat)),(10,.slice oA xs.length oC)]) w7
 have hile:=Ii.le
 have H:=Ii.B.H.learnOld (dM sM 0 w.heap.size A0 acts) (Ii.B.H.facts _ Ii.ac).1 (ao _)
 have hxl:xs.length=i:=by have:=Ii.run.len;rwa[bF,aH,bu hile]at this
 obtain⟨M',-,hwi⟩:=NL Ii.run (MD n1 n5 f1 f2 t1 t2) (by rw[aH];omega) q4 (fun a ha=>hg a (yE ha))
 rw[cH,aH,bu hile]at hwi
 refine W<|Zr ?_
 refine cT (cG Z Z) Z Z Z (fun h33=> ?_) (fun h33=> ?_)
 ·
  refine U<|W<|ZT Z<|Zk<|W<|Zb<|W ?_
  obtain⟨a,ha⟩: ∃ a,acts[i]? =some a:=⟨_,ah I⟩
  refine Zr<|qn H 0 Z wl Z Z I I Z fun bq8 o8 x8 e8=> ?_
  obtain rfl:a=x8:=by have:=e8.at_;rw[ha]at this;exact bj this
  refine G (jM (xs:=Act.c a) dN Z Z e8.cl)<|eH H ju Z fun w9 b12 H=>bo H 0 (#[J (a.kind),.string (a.name),J (a.part),J (a.n),J (a.m),.string (a.text),J (a.lost)]) iG Z Z Z Z Z N N fun w10 H=>U<|W<|Zr<|G (Yp Z)<|G (Zw dN H 0 Z Z Z)<|cd t6 (Ok (Ii.B.into2 [(b12,_)] H (fun f hf=>ak _ hf)) hwi I q1 q4 (hg a (ae ha))) Z Z ?_
  rintro _ w11 ⟨b2,x2,A9,c9,lo9,hi9,hA9,rfl,hc9,gP9,uP9,Ls9,Lo9,F9,B9,hF9⟩
  replace H:=B9.out (X:=[(b12,_)])
  refine eH H dk Z fun w12 b13 H=>bo H 0 (#[J (x2.code),J (x2.n),.slice A9 x2.texts.length c9]) aO Z Z Z Z Z N N fun w13 H=>U<|W<|Zr<|G (Zf qG Z)<|G (Zd gZ H 0 Z Z Z)<|cd ny (yR x2.texts A9 c9 _ (Hp.rdM H (hF9 _ (az ..))) (by have:=AV hA9 (fun h=>((hg a (ae ha)).poll h).2) (hg a (ae ha)).kind.1;omega)) Z Z ?_
  have hz41:=H.size
  rintro _ w14 ⟨A41,c41,rfl,hc41,hr41,hb41⟩;replace H:=H.learnRd hb41 hr41;clear hr41 hb41
  refine G (Zf qG Z)<|bo H 0 (#[J (x2.code),J (x2.n),.slice A41 x2.texts.length c41]) Ex Z Z Z Z Z N N fun w15 H=>U<|Zr<|G (Ys Z)<|G (Zw aM H 0 Z Z Z)<|sW (vs:=[.agg #[J (x2.code),J (x2.n),.slice A41 x2.texts.length c41]]) H lr dk Z Z Z Z Z Z fun w16 b45 H=> ?_
  replace H:=Hp.perm H (OI [(b45,_),(b13,_),(b12,_),(b29,_),(gP9,_)] Ls9 Lo9 oL K3)
  refine vT (Y:=Of) Hg (K:=[(b45,_),(b13,_),(b12,_),(b29,_),(gP9,_)]) (L:=oL) (M:=Ls9++(Lo9++K3)) H Ii.own (es:=xs) (news:=[(⟨x2,A41,c41⟩:Aq)]) Z Z Z (vX.row (m:=1) (sz:=Of.sz) (H.ent (i:=0) Z) Z) (by simp only[bO];omega) Z ?_
  intro A5 c5 w17 L5 h5 h5m ho5 H
  replace H:=Hp.perm H (OI [(b45,_),(b13,_),(b12,_),(b29,_),(gP9,_)] Ls9 Lo9 L5 K3).symm
  refine G (Ws Z)<|U<|Zr<|G (br Z Z I I)<|G (Yi Z)<|U ?_
  exact⟨(i+1,b2,xs++[(⟨x2,A41,c41⟩:Aq)],gP9,uP9,Ls9,Lo9,A5,c5,L5,_),⟨by omega,by rw[eI ha,bk];exact Ii.run.snoc hA9,Bw.mk B9.pA B9.row B9.sn B9.own (ak _ B9.co) (ak _ B9.gr) (fun q hq=>ak _ (B9.ps q hq)) (H.forget (cj [(b45,_),(b13,_),(b12,_)] _) (fun _ h=>h)),ho5,fun x hx=>(by rcases au.1 hx with hx|hx;obtain⟨z1,lo,hi,z2,z3⟩:=Ii.tx x hx;exact⟨z1,lo,hi,z2,ak _ (hF9 _ (ak _ (ak _ z3)))⟩;rw[aq.1 hx];exact⟨hc41,_,_,hz41,az ..⟩),ak _ (hF9 _ (ak _ (az ..)))⟩,kO Z Z,Qg,by show acts.length- (i+1)<acts.length-i;omega⟩
 ·
  refine U<|W<|ZF Z<|Zx<|W ?_
  obtain rfl:i=acts.length:=by omega
  have hrun:=Ii.run
  rw[bJ]at hrun
  subst hK3
  obtain⟨ps2,pA2,pC2,co2,clo2,chi2,gr2,glo2,ghi2,sns2,snA2,snC2⟩:=b
  replace H:Hp w w7 ((b29,.cells #[.slice pA2 ps2.length pC2,J (co2.clock),J (co2.next),J (co2.wait),.slice co2.A co2.txs.length co2.cap,J (gr2.clock),J (gr2.wait),J (gr2.gen),.slice gr2.mA gr2.ms.length gr2.mC,.slice gr2.oA gr2.os.length gr2.oC,.slice snA2 sns2.length snC2] bK (0,0))::(b7,.cells #[.slice (Qd gP) ps.length pC,J (co.clock),J (co.next),J (co.wait),.slice co.A co.txs.length co.cap,J (gr.clock),J (gr.wait),J (gr.gen),.slice gr.mA gr.ms.length gr.mC,.slice gr.oA gr.os.length gr.oC,.slice none (([]:List Sn).length) 0] nN (0,0))::(b5,.cells #[.slice none 0 0,J (0),J (0),J (0),.slice none 0 0,J (0),J (0),J (0),.slice none 0 0,.slice none 0 0,.slice none 0 0] nN (0,0))::(b2,.cells #[J (((np:Nat):Int)),J (((nr:Nat):Int)),J (((few:Nat):Int)),J (wt)] lp (0,0))::(gP1,.cells uP1 bD (0,0))::(Ls++(Lo++oL))) (dM sM 0 w.heap.size A0 acts::F'):=H.perm (Pj (b29,_) (gP1,_) Ls Lo oL [(b7,_),(b5,_),(b2,_)])
  refine bz bX [0,1,2,3,4,5] [6,7] [] [0,1,2,3,5] (sp []) N N N N Nq (cF _) ?_
  refine aw Z Z Z Z Z (fun w' hw'=>Ys Z)<|aw Z Z Z Z Z (fun w' hw'=>Yp Z)<|aw Z Z Z Z Z (fun w' hw'=>aI Z)<|aw Z Z Z Z Z (fun w' hw'=>Zf aU Z)<|aw Z Z Z Z Z (fun w' hw'=>jw nC Z ((H.later hw').ent (i:=0) Z) Z)<|aw Z Z Z Z Z (fun w' hw'=>Ws Z)<|aR ?_
  intro w18 hw' hF
  replace H:=H.later hw';clear hw' hF
  refine bo H 2 (#[.slice pA2 ps2.length pC2,J (co2.clock),J (co2.next),J (co2.wait),.slice co2.A co2.txs.length co2.cap,J (gr2.clock),J (gr2.wait),J (gr2.gen),.slice gr2.mA gr2.ms.length gr2.mC,.slice gr2.oA gr2.os.length gr2.oC,.slice snA2 sns2.length snC2]) lE Z Z Z Z Z N N fun w19 H=>G (Wi Z)<|U<|Zt ?_
  exact KY (v0:=.slice oA xs.length oC) (cs1:= #[.slice pA2 ps2.length pC2,J (co2.clock),J (co2.next),J (co2.wait),.slice co2.A co2.txs.length co2.cap,J (gr2.clock),J (gr2.wait),J (gr2.gen),.slice gr2.mA gr2.ms.length gr2.mC,.slice gr2.oA gr2.os.length gr2.oC,.slice snA2 sns2.length snC2]) (v2:=J 0) Z Z nC Z (H.ent (i:=2) Z) Z Z ⟨⟨xs,oA,oC,⟨ps2,pA2,pC2,co2,clo2,chi2,gr2,glo2,ghi2,sns2,snA2,snC2⟩⟩,rfl,hrun,Ii.rd [(b29,_),(b7,_),(b5,_),(b2,_)] H (fun f hf=>ak _ hf),H.below⟩
/-- an act that the laws make -/
structure FT (np nr:Nat) (hard:Bool) (a:Act):Prop where
 g:ue np nr a
 calm:hard=false->(a.kind<=9∨16<=a.kind)/\a.kind≠1/\a.lost=0
 txt:a.text=⟨#[]⟩∨ ∃ n,a.text=uT n
theorem iT {np nr:Nat} {hard:Bool} {k pt n m lo:Int} {nm t:ByteArray} (h:(1<=k/\k<=20/\k≠17)/\(0<=pt/\pt<np)/\(0<=n/\n<=1000)/\(8<=k->k<=15->n<nr)/\(k=5->n<=1)/\(k=19->1<=n/\n<=20)/\(0<=m/\m<=1000)/\(0<=lo/\lo<=2)) (hh:hard=false->(k<=9∨16<=k)/\k≠1/\lo=0) (hn:(k=1∨k=16∨k=18∨k=19∨k=20)->bM nm=true) (ht:t=⟨#[]⟩∨ ∃ n,t=uT n):FT np nr hard ⟨k,nm,pt,n,m,t,lo⟩:=by
 obtain⟨h1,h2,h3,h4,h5,h6,h7,h8⟩:=h
 refine⟨⟨h1,hn,h2,h3,h4,h5,h6,h7,?_,h8⟩,hh,ht⟩
 rcases ht with ht|⟨x,ht⟩
 show t.size<=40;rw[ht];decide
 show t.size<=40;rw[ht];exact aS (HZ x) (by decide)
def DS (p:Nat):Act:=⟨13,⟨#[]⟩,p,0,0,⟨#[]⟩,0⟩
def Aa (s:ByteArray):Act:=⟨1,s,0,0,0,⟨#[]⟩,0⟩
def GI (s:ByteArray):Act:=⟨16,s,0,0,0,⟨#[]⟩,0⟩
def ij (n:Nat):List Act:=(Bf n).map DS
def ql (np:Nat):List Act:=ij np++[Aa (pO 0),Aa (pO 1),GI (pO 2)]
theorem FA (n:Nat):ij (n+1)=ij n++[DS n]:=by unfold ij;rw[List.range_succ,bk];rfl
theorem ly (n:Nat):(ij n).length=n:=by simp[ij]
def Dm:Nat->Int
 |0=>11
 |1=>13
 |_=>1
theorem tE {k:Nat} (h:k<3):(p5 [J 11,J 13,J 1]).toArray[0+k*1]? =some (J (Dm k)):=by
 rcases k with _|_|_|k<;>first|rfl|omega
theorem z6 (k:Nat):Dm k=11∨Dm k=13∨Dm k=1:=by
 rcases k with _|_|k
 exact .inl Z
 exact .inr (.inl Z)
 exact .inr (.inr Z)
theorem J5 (a b:Int) (w:World) (ha:i64 a) (hb:i64 b):dd aa nZ [J a,J b] w fun v w2=>v=.agg #[J (1+(pk a 3:Nat):Int),J (1+(pk b 3:Nat):Int),J (1+(pk a (1+pk b 3):Nat):Int),J (5+(pk b 20:Nat):Int)]/\Below w.heap.size w w2:=by
 refine aD tb Z Z ?_
 have H:=Hp.start w
 have p1:=iZ a (show 0<3 by omega)
 have p2:=iZ b (show 0<3 by omega)
 have p3:=iZ a (show 0<1+pk b 3 by omega)
 have p4:=iZ b (show 0<20 by omega)
 refine W<|Zr<|eH H CY Z fun w1 b4 H=>U<|W<|Zr<|G (Yi Z)<|cd aJ (dh b (3) _ hb.1 hb.2 I I) Z Z ?_
 rintro _ w2 ⟨rfl,hb⟩;replace H:=H.later hb;clear hb
 refine G (br Z Z I I)<|G (Wi Z)<|U<|W<|Zr<|G (Yi Z)<|cd aJ (dh a (3) _ ha.1 ha.2 I I) Z Z ?_
 rintro _ w3 ⟨rfl,hb⟩;replace H:=H.later hb;clear hb
 refine G (br Z Z I I)<|G (Yi Z)<|G (Yi Z)<|G (Yi Z)<|cd aJ ((by have hA:=dh a (1+pk b 3) w3 ha.1 ha.2 I I;rw[show((1+pk b 3:Nat):Int)=(1:Int)+(pk b 3:Nat) by omega]at hA;exact hA)) Z Z ?_
 rintro _ w4 ⟨rfl,hb⟩;replace H:=H.later hb;clear hb
 refine G (br Z Z I I)<|G (Yi Z)<|cd aJ (dh b (20) _ hb.1 hb.2 I I) Z Z ?_
 rintro _ w5 ⟨rfl,hb⟩;replace H:=H.later hb;clear hb
 refine G (br Z Z I I)<|G (bi (cs:= #[J (1+(((pk a (3):Nat):Int))),J (1+(((pk b (3):Nat):Int))),J (1+(((pk a (1+pk b 3):Nat):Int))),J (5+(((pk b (20):Nat):Int)))]) JZ CY N)<|bo H 0 (#[J (1+(((pk a (3):Nat):Int))),J (1+(((pk b (3):Nat):Int))),J (1+(((pk a (1+pk b 3):Nat):Int))),J (5+(((pk b (20):Nat):Int)))]) Ci Z Z Z Z Z N N fun w6 H=>U<|Zt ?_
 exact eM (cs0:= #[J (1+(pk a 3:Nat):Int),J (1+(pk b 3:Nat):Int),J (1+(pk a (1+pk b 3):Nat):Int),J (5+(pk b 20:Nat):Int)]) Z pI Z (H.ent (i:=0) Z) Z ⟨rfl,H.below⟩
def tG (j:Nat):List Act:=(Bf j).map fun k=>Aa (pO k)
theorem GK (np j:Nat):ij np++tG j++[Aa (pO j)]=ij np++tG (j+1):=by unfold tG;rw[List.range_succ,bk,aE];rfl
theorem Kg (np:Nat):ij np++tG 2++[GI (pO 2)]=ql np:=by rw[aE];rfl
theorem KB {k:Nat} (h:k<2):(p5 [.string ⟨#[97,110,110]⟩,.string ⟨#[98,111,98]⟩]).toArray[0+k*1]? =some (.string (pO k)):=by
 rcases k with _|_|k<;>first|rfl|omega
theorem Pb {a:Int}:i64 ((pk a 2:Nat):Int):=by
 have:=iZ a (show 0<2 by omega)
 exact⟨by omega,by omega⟩
theorem Nc {np nr most:Nat} {few wt:Int} {hard:Bool} (l:List Hj) (A0:Option Addr) (c0:Nat) (w:World) (p1:1<=np) (p4:np<=4) (n1:1<=nr) (n5:nr<=5) (hm:most<=400) (hr:Rd Bn 0 w.heap.size A0 l w) (hok: ∀ r∈l,r.ok):dd aa uJ [.slice A0 l.length c0,.agg #[J (((np:Nat):Int)),J (((nr:Nat):Int)),J (few),J (wt)],J (most:Nat),.bool hard] w fun v w2=> ∃ (body:List Act) (A:Option Addr) (c:Nat) (L:List (Nat×Obj)),v=.slice A (ql np++body).length c/\body.length<=most/\(∀ a∈body,FT np nr hard a)/\gd sM (.slice A (ql np++body).length c) fZ (ql np++body) L/\Hp w w2 L []:=by
 refine aD tM Z Z ?_
 have H:=Hp.startRd hr
 show CW _ _ _ _ (args [.slice A0 l.length c0,.agg #[J (((np:Nat):Int)),J (((nr:Nat):Int)),J (few),J (wt)],J (most:Nat),.bool hard]) w
 refine W<|Zr<|fQ H Z Z fun w1 b5 H=>G (Ws Z)<|U<|W<|Zr<|G (Ws Z)<|U<|W<|W<|Zr<|G (Zf p6 Z)<|G (Zd aj H 0 Z Z Z)<|G (Yi Z)<|U<|Zb ?_
 refine ce (τ:=Nat×Option Addr×Nat×List (Nat×Obj)) [9,10,20,21,22,23,24,25,26,27,28] (fun(i,A,c,_)=>[(20,J (i:Nat)),(9,.slice A (ij i).length c)]) (fun(i,A,c,L) w'=>i<=np/\gd sM (.slice A (ij i).length c) fZ (ij i) L/\Hp w w' ((b5,.cells #[J (((np:Nat):Int)),J (((nr:Nat):Int)),J (few),J (wt)] lp (0,0))::(L++[])) ([dM Bn 0 w.heap.size A0 l])) (fun(i,_)=>np-i) (0,none,0,[]) ⟨bG _,gd.nil,H⟩ (kO Z Z) ?_
 rintro⟨i,A,c,L⟩ ρ1 w2 ⟨hi,ho,H⟩
 show CW _ _ _ _ (dC (gC _ _ ρ1) [(20,J (i:Nat)),(9,.slice A (ij i).length c)]) w2
 refine W<|Zr ?_
 refine cT (cG Z Z) Z Z Z (fun h21=> ?_) (fun h21=> ?_)
 refine U<|W<|ZT Z<|Zk<|W<|Zb<|W<|Zr<|G (Yi Z)<|G (Wi Z)<|U<|Zr<|G (Ys Z)<|G (Yi Z)<|G (bi (cs:= #[J (13),.string (⟨#[]⟩),J (((i:Nat):Int)),J (0),J (0),.string (⟨#[]⟩),J (0)]) jj ju N)<|sW (vs:=[.agg #[J (13),.string (⟨#[]⟩),J (((i:Nat):Int)),J (0),J (0),.string (⟨#[]⟩),J (0)]]) H wl ju Z Z Z Z Z Z fun w3 b26 H=>vT (Y:=sM) zb (K:=[(b26,_),(b5,_)]) (L:=L) (M:=[]) H ho (es:=ij i) (news:=[DS i]) Z Z Z (vX.row (m:=1) (sz:=sM.sz) (H.ent (i:=0) Z) Z) (by simp only[bO];rw[ly];omega) Z ?_
 intro A5 c5 w4 L5 h5 h5m ho5 H
 rw[<-FA]at ho5 h5⊢
 refine G (Ws Z)<|U<|Zr<|G (br Z Z I I)<|G (Yi Z)<|U ?_
 exact⟨(i+1,A5,c5,L5),⟨by omega,ho5,H.forget (.cons _ (ap _)) (fun _ h=>h)⟩,kO Z Z,Qg,by show np- (i+1)<np-i;omega⟩
 refine U<|W<|ZF Z<|Zx<|W<|W<|Zr<|sW (vs:=[.string (⟨#[97,110,110]⟩),.string (⟨#[98,111,98]⟩)]) H fT v5 Z Z Z Z Z Z fun w5 b29 H=>G (bn iM Z)<|G (Yi Z)<|U<|Zb ?_
 obtain rfl:np=i:=by omega
 refine ce (τ:=Nat×Option Addr×Nat×List (Nat×Obj)) [9,12,31,32,33,34,35,36,37,38,39,40] (fun(j,A,c,_)=>[(31,J (j:Nat)),(9,.slice A (ij np++tG j).length c)]) (fun(j,A,c,L) w'=>j<=2/\gd sM (.slice A (ij np++tG j).length c) fZ (ij np++tG j) L/\Hp w w' ((b29,.cells #[.string (⟨#[97,110,110]⟩),.string (⟨#[98,111,98]⟩)] km (0,0))::(b5,.cells #[J (((np:Nat):Int)),J (((nr:Nat):Int)),J (few),J (wt)] lp (0,0))::(L++[])) ([dM Bn 0 w.heap.size A0 l])) (fun(j,_)=>2-j) (0,A,c,L) ⟨by omega,by show gd sM (.slice A (ij np++[]).length c) fZ (ij np++[]) L;rw[aX];exact ho,H⟩ (kO Z (by show _=Value.slice A (ij np++[]).length c;rw[aX];rfl)) ?_
 rintro⟨j,A,c,L⟩ ρ1 w6 ⟨hj,ho,H⟩
 show CW _ _ _ _ (dC (gC _ _ ρ1) [(31,J (j:Nat)),(9,.slice A (ij np++tG j).length c)]) w6
 refine W<|Zr ?_
 refine cT (cG Z Z) Z Z Z (fun h32=> ?_) (fun h32=> ?_)
 refine U<|W<|ZT Z<|Zk<|W<|Zb<|W<|Zr<|G (sS fT Z Z I I)<|G (aT aY Z (aB (H.ent (i:=0) Z) (KB I)))<|G (Wt Z)<|U<|Zr<|G (Ys Z)<|G (Yt Z)<|G (bi (cs:= #[J (1),.string (pO j),J (0),J (0),J (0),.string (⟨#[]⟩),J (0)]) jj ju N)<|sW (vs:=[.agg #[J (1),.string (pO j),J (0),J (0),J (0),.string (⟨#[]⟩),J (0)]]) H wl ju Z Z Z Z Z Z fun w7 b38 H=>vT (Y:=sM) zb (K:=[(b38,_),(b29,_),(b5,_)]) (L:=L) (M:=[]) H ho (es:=ij np++tG j) (news:=[Aa (pO j)]) Z Z Z (vX.row (m:=1) (sz:=sM.sz) (H.ent (i:=0) Z) Z) (by simp only[bO];rw[ay,ly];unfold tG;rw[bF,List.length_range];omega) Z ?_
 intro A5 c5 w8 L5 h5 h5m ho5 H
 rw[GK]at ho5 h5⊢
 refine G (Ws Z)<|U<|Zr<|G (br Z Z I I)<|G (Yi Z)<|U ?_
 exact⟨(j+1,A5,c5,L5),⟨by omega,ho5,H.forget (.cons _ (ap _)) (fun _ h=>h)⟩,kO Z Z,Qg,by show 2- (j+1)<2-j;omega⟩
 refine U<|W<|ZF Z<|Zx<|W ?_
 obtain rfl:j=2:=by omega
 refine Zr<|G (Ys Z)<|G (bi (cs:= #[J (16),.string (⟨#[99,121]⟩),J (0),J (0),J (0),.string (⟨#[]⟩),J (0)]) jj ju N)<|sW (vs:=[.agg #[J (16),.string (⟨#[99,121]⟩),J (0),J (0),J (0),.string (⟨#[]⟩),J (0)]]) H wl ju Z Z Z Z Z Z fun w9 b43 H=>vT (Y:=sM) zb (K:=[(b43,_),(b29,_),(b5,_)]) (L:=L) (M:=[]) H ho (es:=ij np++tG 2) (news:=[GI (pO 2)]) Z Z Z (vX.row (m:=1) (sz:=sM.sz) (H.ent (i:=0) Z) Z) (by simp only[bO];rw[ay,ly];show(np+2+1)*_<=_;omega) Z ?_
 intro A5 c5 w10 L5 h5 h5m ho5 H
 rw[Kg]at ho5 h5⊢
 refine G (Ws Z)<|U<|W<|Zr<|G (Wi Z)<|U<|W<|W<|Zr<|G (Wi Z)<|U<|Zb ?_
 refine ce (τ:=Nat×List Act×Option Addr×Nat×List (Nat×Obj)) [9,14,15,16,17,45,46,47,48,49,50,51,52,53,54,55,56,57,58,59,60,61,62,63,64,65,66,67,68,69,70,71,72,73,74,75,76,77,78,79,80,81,82,83,84,85,86,87,88,89,90,91,92,93,94,95,96,97,98,99,100,101,102,103,104,105,106,107,108,109,110,111,112,113,114,115,116,117,118,119,120,121,122,123,124,125,126,127,128,129,130,131,132,133,134,135,136,137,138,139,140,141,142,143,144,145,146,147,148,149,150,151,152,153,154,155,156,157,158,159,160,161,162,163,164,165,166,167,168,169,170,171,172,173,174,175,176,177,178,179,180,181,182,183,184,185,186,187,188,189,190,191,192,193,194,195,196,197,198,199,200,201,202,203,204,205,206,207,208,209,210,211,212,213,214,215,216,217,218,219,220,221,222,223,224,225,226,227,228,229,230,231,232,233] (fun(i,es,A,c,_)=>[(14,J (i:Nat)),(9,.slice A (ql np++es).length c)]) (fun(i,es,A,c,L) w'=>i<=l.length/\i<=most/\es.length=i/\(∀ a∈es,FT np nr hard a)/\gd sM (.slice A (ql np++es).length c) fZ (ql np++es) L/\Hp w w' ((b29,.cells #[.string (⟨#[97,110,110]⟩),.string (⟨#[98,111,98]⟩)] km (0,0))::(b5,.cells #[J (((np:Nat):Int)),J (((nr:Nat):Int)),J (few),J (wt)] lp (0,0))::(L++[])) ([dM Bn 0 w.heap.size A0 l])) (fun(i,_)=>l.length-i) (0,[],A5,c5,L5) ⟨bG _,bG _,rfl,by simp,by rw[aX];exact ho5,H.forget (.cons _ (ap _)) (fun _ h=>h)⟩ (kO Z (by show _=Value.slice A5 (ql np++[]).length c5;rw[aX];rfl)) ?_
 rintro⟨i,es,A,c,L⟩ ρ1 w11 ⟨hi,him,hel,hes,ho,H⟩
 show CW _ _ _ _ (dC (gC _ _ ρ1) [(14,J (i:Nat)),(9,.slice A (ql np++es).length c)]) w11
 refine W<|W<|Zr<|G (Yi Z)<|G (Ys Z)<|G (bn KK Z) ?_
 refine cT (cG Z Z) Z Z Z (fun h48=> ?_) (fun h48=> ?_)
 refine G (Yb Z)<|ZG<|G (Yi Z)<|ZG<|G (Yi Z)<|ZG ?_
 refine cT (cG Z Z) Z Z Z (fun h52=> ?_) (fun h52=> ?_)
 refine G (Kt Z Z)<|U<|ZT Z<|Zk<|W<|Zb<|W ?_
 obtain⟨x,hx⟩: ∃ x,l[i]? =some x:=⟨_,ah I⟩
 have hxo:=hok x (ae hx)
 obtain⟨z,hz⟩: ∃ z,(hard&&decide (((pk x.c 6:Nat):Int)=0))=z:=⟨_,rfl⟩
 have hq0:=iZ x.a (show 0<2 by omega)
 have hq1:=iZ x.c (show 0<2 by omega)
 have hq2:=iZ x.c (show 0<3 by omega)
 have hq3:=iZ x.c (show 0<4 by omega)
 have hq4:=iZ x.c (show 0<5 by omega)
 have hq5:=iZ x.c (show 0<6 by omega)
 have hq6:=iZ x.c (show 0<40 by omega)
 have hq7:=iZ x.a (show 0<nr by omega)
 have hq8:=iZ x.b (show 0<np by omega)
 have hq9:=iZ x.kind (show 0<30 by omega)
 refine Zr<|G (Ys Z)<|G (Yi Z)<|qn H 0 Z Md Z Z I I Z fun bq12 o12 x12 e12=> ?_
 obtain rfl:x=x12:=by have:=e12.at_;rw[hx]at this;exact bj this
 refine G (jM (xs:=Hj.cs x) Nb Z Z e12.cl)<|eH H Ov Z fun w13 b15 H=>bo H 0 (#[J (x.kind),J (x.a),J (x.b),J (x.c)]) Me Z Z Z Z Z N N fun w14 H=>U<|W ?_
 refine bz bX [0,1,4,5,6,7,2,3,8,9,10] [11] [2,3,8,10] [0,4,6,9] (sp [(2,Sp.one (J ((pk x.a 2:Nat):Int))),(3,Sp.one (.string (pO (pk ((pk x.a 2:Nat):Int) 3)))),(8,Sp.one (J ((pk x.b np:Nat):Int))),(10,Sp.blk w14.heap.size (.agg #[J 0,.string ⟨#[]⟩,J 0,J 0,J 0,.string ⟨#[]⟩,J 0]) fZ)]) N N N N Nq (cF _) ?_
 refine aw Z Z Z Z Z (fun w' hw'=>Zf mu Z)<|aw Z Z Z Z Z (fun w' hw'=>aT aj Z (aB ((H.later hw').ent (i:=0) Z) Z))<|aw Z Z Z Z Z (fun w' hw'=>Zf K6 Z)<|aw Z Z Z Z Z (fun w' hw'=>aT aj Z (aB ((H.later hw').ent (i:=0) Z) Z))<|aw Z Z Z Z Z (fun w' hw'=>Zf p6 Z)<|aw Z Z Z Z Z (fun w' hw'=>aT aj Z (aB ((H.later hw').ent (i:=2) Z) Z))<|gL aJ Z Z Z Z Z (fun w' hw'=>dh x.a 2 w' hxo.2.1.1 hxo.2.1.2 I I) Z<|gL tZ Z Z Z Z Z (fun w' hw'=>KM ((pk x.a 2:Nat):Int) w' Pb) Z<|gL aJ Z Z Z Z Z (fun w' hw'=>dh x.b np w' hxo.2.2.1.1 hxo.2.2.1.2 I I) Z<|aw Z Z Z Z Z (fun w' hw'=>bi (cs:= #[J (0),.string (pO (pk ((pk x.a 2:Nat):Int) 3)),J (((pk x.b np:Nat):Int)),J (0),J (0),.string (⟨#[]⟩),J (0)]) jj ju N)<|xb ju Z Z Z Z Z (fun w' hw'=>hw'.size) fun b16=>aR ?_
 intro w15 hw' hF
 obtain⟨hF,bq,eq,hge16,hbl16⟩:=hF;cases eq
 obtain⟨hF,-⟩:=hF
 obtain⟨hF,-⟩:=hF
 obtain⟨hF,-⟩:=hF
 have Hb:=H
 replace H:=H.adoptNew hw' hbl16 hge16
 clear hw' hF
 refine bo H 0 (#[J (0),.string (pO (pk ((pk x.a 2:Nat):Int) 3)),J (((pk x.b np:Nat):Int)),J (0),J (0),.string (⟨#[]⟩),J (0)]) iG Z Z Z Z Z N N fun w16 H=>U<|W<|W ?_
 refine eE (τ:=Unit) [70,71,72,73,74,75,76] (fun _=>[(76,.bool z)]) (fun _ w'=>Hp w w' ((b16,.cells #[J (0),.string (pO (pk ((pk x.a 2:Nat):Int) 3)),J (((pk x.b np:Nat):Int)),J (0),J (0),.string (⟨#[]⟩),J (0)] fZ (0,0))::(b15,.cells #[J (x.kind),J (x.a),J (x.b),J (x.c)] vo (0,0))::(b29,.cells #[.string (⟨#[97,110,110]⟩),.string (⟨#[98,111,98]⟩)] km (0,0))::(b5,.cells #[J (((np:Nat):Int)),J (((nr:Nat):Int)),J (few),J (wt)] lp (0,0))::(L++[])) ([dM Bn 0 w.heap.size A0 l])) ?_ ?_
 refine Zr<|G (Yb Z)<|G (Yb Z) ?_
 refine mj 71 Z (fun h71=> ?_) (fun h71=> ?_)
 refine ZG<|G (Zf kV Z)<|ZG<|G (Zd aj H 1 Z Z Z)<|ZG<|cd aJ (dh x.c 6 _ hxo.2.2.2.1 hxo.2.2.2.2 I I) Z Z ?_
 rintro _ w17 ⟨rfl,hb⟩;replace H:=H.later hb;clear hb
 refine ZG ?_
 refine cT (bl Z Z) Z Z Z (fun h75=> ?_) (fun h75=> ?_)
 refine G (Kt Z Z)<|U ?_
 exact⟨(),H,dF (congrArg Value.bool (by rw[<-hz];simp[h71,h75]<;>omega)),Qg⟩
 refine G (Kt Z Z)<|U ?_
 exact⟨(),H,dF (congrArg Value.bool (by rw[<-hz];simp[h71,h75]<;>omega)),Qg⟩
 refine ZN<|ZN<|ZN<|ZN<|G (N Z Z)<|U ?_
 exact⟨(),H,dF (congrArg Value.bool (by rw[<-hz];simp[h71]<;>omega)),Qg⟩
 rintro _ ρ1 w18 H
 show CW _ _ _ _ (dC (gC _ _ ρ1) [(76,.bool z)]) w18
 refine eE (τ:=Int) [77,78,79,80,81] (fun _=>[]) (fun lo w'=>(0<=lo/\lo<=2)/\(hard=false->lo=0)/\Hp w w' ((b16,.cells #[J (0),.string (pO (pk ((pk x.a 2:Nat):Int) 3)),J (((pk x.b np:Nat):Int)),J (0),J (0),.string (⟨#[]⟩),J (lo)] fZ (0,0))::(b15,.cells #[J (x.kind),J (x.a),J (x.b),J (x.c)] vo (0,0))::(b29,.cells #[.string (⟨#[97,110,110]⟩),.string (⟨#[98,111,98]⟩)] km (0,0))::(b5,.cells #[J (((np:Nat):Int)),J (((nr:Nat):Int)),J (few),J (wt)] lp (0,0))::(L++[])) ([dM Bn 0 w.heap.size A0 l])) ?_ ?_
 refine jf Z (fun hc76=> ?_) (fun hc76=> ?_)
 refine Zr<|G (Zf mu Z)<|G (Zd aj H 1 Z Z Z)<|cd aJ (dh x.a 2 _ hxo.2.1.1 hxo.2.1.2 I I) Z Z ?_
 rintro _ w19 ⟨rfl,hb⟩;replace H:=H.later hb;clear hb
 refine G (br Z Z I I)<|G (Zf jy Z)<|bo H 0 (#[J (0),.string (pO (pk ((pk x.a 2:Nat):Int) 3)),J (((pk x.b np:Nat):Int)),J (0),J (0),.string (⟨#[]⟩),J (1+(((pk x.a 2:Nat):Int)))]) bI Z Z Z Z Z N N fun w20 H=>U ?_
 exact⟨1+((pk x.a 2:Nat):Int),⟨by have:=iZ x.a (show 0<2 by omega);omega,fun hh=>(by rw[hc76,hh]at hz;cases hz),H⟩,vW,Qg⟩
 refine Zk ?_
 exact⟨0,⟨by omega,fun _=>rfl,H⟩,vW,Qg⟩
 rintro lo ρ1 w21 ⟨hlo1,hlo2,H⟩
 show CW _ _ _ _ (dC (gC _ _ ρ1) []) w21
 refine W<|W<|Zr<|G (Zf K7 Z)<|G (Zd aj H 1 Z Z Z)<|cd aJ (dh x.kind 30 _ hxo.1.1 hxo.1.2 I I) Z Z ?_
 rintro _ w22 ⟨rfl,hb⟩;replace H:=H.later hb;clear hb
 refine G (Wi Z)<|U ?_
 refine eE (τ:=Act) [85,86,87,88,89,90,91,92,93,94,95,96,97,98,99,100,101,102,103,104,105,106,107,108,109,110,111,112,113,114,115,116,117,118,119,120,121,122,123,124,125,126,127,128,129,130,131,132,133,134,135,136,137,138,139,140,141,142,143,144,145,146,147,148,149,150,151,152,153,154,155,156,157,158,159,160,161,162,163,164,165,166,167,168,169,170,171,172,173,174,175,176,177,178,179,180,181,182,183,184,185,186,187,188,189,190,191,192,193,194,195,196,197,198,199,200,201,202,203,204,205,206,207,208,209,210,211,212,213,214,215,216,217,218,219,220,221,222,223,224,225,226,227,228,229] (fun _=>[]) (fun a w'=>FT np nr hard a/\Hp w w' ((b16,.cells #[J (a.kind),.string (a.name),J (a.part),J (a.n),J (a.m),.string (a.text),J (a.lost)] fZ (0,0))::(b15,.cells #[J (x.kind),J (x.a),J (x.b),J (x.c)] vo (0,0))::(b29,.cells #[.string (⟨#[97,110,110]⟩),.string (⟨#[98,111,98]⟩)] km (0,0))::(b5,.cells #[J (((np:Nat):Int)),J (((nr:Nat):Int)),J (few),J (wt)] lp (0,0))::(L++[])) ([dM Bn 0 w.heap.size A0 l])) ?_ ?_
 refine Zb<|W<|Zr<|G (Yi Z) ?_
 refine cT (cG Z Z) Z Z Z (fun h103=> ?_) (fun h103=> ?_)
 refine G (Wb Z)<|U<|ZT Z<|W<|Zr<|G (Zf mw Z)<|bo H 0 (#[J (3),.string (pO (pk ((pk x.a 2:Nat):Int) 3)),J (((pk x.b np:Nat):Int)),J (0),J (0),.string (⟨#[]⟩),J (lo)]) bI Z Z Z Z Z N N fun w23 H=>U<|Zr<|G (Zf kV Z)<|G (Zd aj H 1 Z Z Z)<|cd tY (LT x.c _ hxo.2.2.2) Z Z ?_
 rintro _ w24 ⟨rfl,hb⟩;replace H:=H.later hb;clear hb
 refine G (Zf AB Z)<|bo H 0 (#[J (3),.string (pO (pk ((pk x.a 2:Nat):Int) 3)),J (((pk x.b np:Nat):Int)),J (0),J (0),.string (uT x.c),J (lo)]) zu Z Z Z Z Z N N fun w25 H=>U ?_
 exact⟨(⟨3,pO (pk ((pk x.a 2:Nat):Int) 3),((pk x.b np:Nat):Int),0,0,uT x.c,lo⟩:Act),⟨iT I (fun hh=>by have:=hlo2 hh;omega) (fun _=>qT _) (.inr ⟨_,rfl⟩),H⟩,vW,Qg⟩
 refine G (Wb Z)<|U<|ZF Z<|W<|Zr<|G (Yi Z) ?_
 refine cT (bl Z Z) Z Z Z (fun h111=> ?_) (fun h111=> ?_)
 refine G (Wb Z)<|U<|ZT Z<|Zr<|G (Zf mw Z)<|bo H 0 (#[J (4),.string (pO (pk ((pk x.a 2:Nat):Int) 3)),J (((pk x.b np:Nat):Int)),J (0),J (0),.string (⟨#[]⟩),J (lo)]) bI Z Z Z Z Z N N fun w26 H=>U ?_
 exact⟨(⟨4,pO (pk ((pk x.a 2:Nat):Int) 3),((pk x.b np:Nat):Int),0,0,⟨#[]⟩,lo⟩:Act),⟨iT I (fun hh=>by have:=hlo2 hh;omega) (fun _=>qT _) (.inl Z),H⟩,vW,Qg⟩
 refine G (Wb Z)<|U<|ZF Z<|W<|Zr<|G (Yi Z) ?_
 refine cT (cG Z Z) Z Z Z (fun h115=> ?_) (fun h115=> ?_)
 refine G (Wb Z)<|U<|ZT Z<|Zr<|G (Zf mw Z)<|bo H 0 (#[J (2),.string (pO (pk ((pk x.a 2:Nat):Int) 3)),J (((pk x.b np:Nat):Int)),J (0),J (0),.string (⟨#[]⟩),J (lo)]) bI Z Z Z Z Z N N fun w27 H=>U ?_
 exact⟨(⟨2,pO (pk ((pk x.a 2:Nat):Int) 3),((pk x.b np:Nat):Int),0,0,⟨#[]⟩,lo⟩:Act),⟨iT I (fun hh=>by have:=hlo2 hh;omega) (fun _=>qT _) (.inl Z),H⟩,vW,Qg⟩
 refine G (Wb Z)<|U<|ZF Z<|W<|Zr<|G (Yi Z) ?_
 refine cT (cG Z Z) Z Z Z (fun h119=> ?_) (fun h119=> ?_)
 refine G (Wb Z)<|U<|ZT Z<|W<|Zr<|G (Zf mw Z)<|bo H 0 (#[J (5),.string (pO (pk ((pk x.a 2:Nat):Int) 3)),J (((pk x.b np:Nat):Int)),J (0),J (0),.string (⟨#[]⟩),J (lo)]) bI Z Z Z Z Z N N fun w28 H=>U<|Zr<|G (Zf kV Z)<|G (Zd aj H 1 Z Z Z)<|cd aJ (dh x.c 2 _ hxo.2.2.2.1 hxo.2.2.2.2 I I) Z Z ?_
 rintro _ w29 ⟨rfl,hb⟩;replace H:=H.later hb;clear hb
 refine G (Zf eN Z)<|bo H 0 (#[J (5),.string (pO (pk ((pk x.a 2:Nat):Int) 3)),J (((pk x.b np:Nat):Int)),J (((pk x.c 2:Nat):Int)),J (0),.string (⟨#[]⟩),J (lo)]) bI Z Z Z Z Z N N fun w30 H=>U ?_
 exact⟨(⟨5,pO (pk ((pk x.a 2:Nat):Int) 3),((pk x.b np:Nat):Int),((pk x.c 2:Nat):Int),0,⟨#[]⟩,lo⟩:Act),⟨iT I (fun hh=>by have:=hlo2 hh;omega) (fun _=>qT _) (.inl Z),H⟩,vW,Qg⟩
 refine G (Wb Z)<|U<|ZF Z<|W<|Zr<|G (Yi Z) ?_
 refine cT (cG Z Z) Z Z Z (fun h127=> ?_) (fun h127=> ?_)
 refine G (Wb Z)<|U<|ZT Z<|Zr<|G (Zf mu Z)<|G (Zd aj H 1 Z Z Z)<|cd aJ (dh x.a 2 _ hxo.2.1.1 hxo.2.1.2 I I) Z Z ?_
 rintro _ w31 ⟨rfl,hb⟩;replace H:=H.later hb;clear hb
 refine G (bi (cs:= #[J (6),.string (⟨#[]⟩),J (0),J (((pk x.a 2:Nat):Int)),J (0),.string (⟨#[]⟩),J (0)]) jj ju N)<|bo H 0 (#[J (6),.string (⟨#[]⟩),J (0),J (((pk x.a 2:Nat):Int)),J (0),.string (⟨#[]⟩),J (0)]) iG Z Z Z Z Z N N fun w32 H=>U ?_
 exact⟨(⟨6,⟨#[]⟩,0,((pk x.a 2:Nat):Int),0,⟨#[]⟩,0⟩:Act),⟨iT I (fun hh=>by have:=hlo2 hh;omega) (fun h=>by omega) (.inl Z),H⟩,vW,Qg⟩
 refine G (Wb Z)<|U<|ZF Z<|W<|Zr<|G (Yi Z) ?_
 refine cT (cG Z Z) Z Z Z (fun h134=> ?_) (fun h134=> ?_)
 refine G (Wb Z)<|U<|ZT Z ?_
 refine bz bX [0,1,2,3,4,5,6,7] [8] [6] [0,2,4,7] (sp [(6,Sp.one (J ((pk x.a nr:Nat):Int)))]) N N N N Nq (cF _) ?_
 refine aw Z Z Z Z Z (fun w' hw'=>Zf dQ Z)<|aw Z Z Z Z Z (fun w' hw'=>aT aj Z (aB ((H.later hw').ent (i:=0) Z) Z))<|aw Z Z Z Z Z (fun w' hw'=>Zf mu Z)<|aw Z Z Z Z Z (fun w' hw'=>aT aj Z (aB ((H.later hw').ent (i:=1) Z) Z))<|aw Z Z Z Z Z (fun w' hw'=>Zf lx Z)<|aw Z Z Z Z Z (fun w' hw'=>aT aj Z (aB ((H.later hw').ent (i:=3) Z) Z))<|gL aJ Z Z Z Z Z (fun w' hw'=>dh x.a nr w' hxo.2.1.1 hxo.2.1.2 I I) Z<|aw Z Z Z Z Z (fun w' hw'=>bi (cs:= #[J (8),.string (⟨#[]⟩),J (((pk x.b np:Nat):Int)),J (((pk x.a nr:Nat):Int)),J (0),.string (⟨#[]⟩),J (0)]) jj ju N)<|aR ?_
 intro w33 hw' hF
 replace H:=H.later hw';clear hw' hF
 refine bo H 0 (#[J (8),.string (⟨#[]⟩),J (((pk x.b np:Nat):Int)),J (((pk x.a nr:Nat):Int)),J (0),.string (⟨#[]⟩),J (0)]) iG Z Z Z Z Z N N fun w34 H=>U ?_
 exact⟨(⟨8,⟨#[]⟩,((pk x.b np:Nat):Int),((pk x.a nr:Nat):Int),0,⟨#[]⟩,0⟩:Act),⟨iT I (fun hh=>by have:=hlo2 hh;omega) (fun h=>by omega) (.inl Z),H⟩,vW,Qg⟩
 refine G (Wb Z)<|U<|ZF Z<|W<|Zr<|G (Yi Z) ?_
 refine cT (cG Z Z) Z Z Z (fun h145=> ?_) (fun h145=> ?_)
 refine G (Wb Z)<|U<|ZT Z ?_
 refine bz bX [0,1,2,3,4,5,6,7] [8] [6] [0,2,4,7] (sp [(6,Sp.one (J ((pk x.a nr:Nat):Int)))]) N N N N Nq (cF _) ?_
 refine aw Z Z Z Z Z (fun w' hw'=>Zf dQ Z)<|aw Z Z Z Z Z (fun w' hw'=>aT aj Z (aB ((H.later hw').ent (i:=0) Z) Z))<|aw Z Z Z Z Z (fun w' hw'=>Zf mu Z)<|aw Z Z Z Z Z (fun w' hw'=>aT aj Z (aB ((H.later hw').ent (i:=1) Z) Z))<|aw Z Z Z Z Z (fun w' hw'=>Zf lx Z)<|aw Z Z Z Z Z (fun w' hw'=>aT aj Z (aB ((H.later hw').ent (i:=3) Z) Z))<|gL aJ Z Z Z Z Z (fun w' hw'=>dh x.a nr w' hxo.2.1.1 hxo.2.1.2 I I) Z<|aw Z Z Z Z Z (fun w' hw'=>bi (cs:= #[J (9),.string (⟨#[]⟩),J (((pk x.b np:Nat):Int)),J (((pk x.a nr:Nat):Int)),J (0),.string (⟨#[]⟩),J (0)]) jj ju N)<|aR ?_
 intro w35 hw' hF
 replace H:=H.later hw';clear hw' hF
 refine bo H 0 (#[J (9),.string (⟨#[]⟩),J (((pk x.b np:Nat):Int)),J (((pk x.a nr:Nat):Int)),J (0),.string (⟨#[]⟩),J (0)]) iG Z Z Z Z Z N N fun w36 H=>U ?_
 exact⟨(⟨9,⟨#[]⟩,((pk x.b np:Nat):Int),((pk x.a nr:Nat):Int),0,⟨#[]⟩,0⟩:Act),⟨iT I (fun hh=>by have:=hlo2 hh;omega) (fun h=>by omega) (.inl Z),H⟩,vW,Qg⟩
 refine G (Wb Z)<|U<|ZF Z<|W<|Zr<|G (Yi Z) ?_
 refine cT (cG Z Z) Z Z Z (fun h156=> ?_) (fun h156=> ?_)
 refine G (Wb Z)<|U<|ZT Z ?_
 refine bz bX [0,1,2,3,4,5,6] [7] [4] [0,2,5,6] (sp [(4,Sp.one (J ((pk x.c 5:Nat):Int)))]) N N N N Nq (cF _) ?_
 refine aw Z Z Z Z Z (fun w' hw'=>Zf dQ Z)<|aw Z Z Z Z Z (fun w' hw'=>aT aj Z (aB ((H.later hw').ent (i:=0) Z) Z))<|aw Z Z Z Z Z (fun w' hw'=>Zf kV Z)<|aw Z Z Z Z Z (fun w' hw'=>aT aj Z (aB ((H.later hw').ent (i:=1) Z) Z))<|gL aJ Z Z Z Z Z (fun w' hw'=>dh x.c 5 w' hxo.2.2.2.1 hxo.2.2.2.2 I I) Z<|aw Z Z Z Z Z (fun w' hw'=>br Z Z I I)<|aw Z Z Z Z Z (fun w' hw'=>bi (cs:= #[J (19),.string (⟨#[99,121]⟩),J (((pk x.b np:Nat):Int)),J (1+(((pk x.c 5:Nat):Int))),J (0),.string (⟨#[]⟩),J (0)]) jj ju N)<|aR ?_
 intro w37 hw' hF
 replace H:=H.later hw';clear hw' hF
 refine bo H 0 (#[J (19),.string (⟨#[99,121]⟩),J (((pk x.b np:Nat):Int)),J (1+(((pk x.c 5:Nat):Int))),J (0),.string (⟨#[]⟩),J (0)]) iG Z Z Z Z Z N N fun w38 H=>U ?_
 exact⟨(⟨19,⟨#[99,121]⟩,((pk x.b np:Nat):Int),1+(((pk x.c 5:Nat):Int)),0,⟨#[]⟩,0⟩:Act),⟨iT I (fun hh=>by have:=hlo2 hh;omega) (fun _=>y4) (.inl Z),H⟩,vW,Qg⟩
 refine G (Wb Z)<|U<|ZF Z<|W<|Zr<|G (Yi Z) ?_
 refine cT (bl Z Z) Z Z Z (fun h166=> ?_) (fun h166=> ?_)
 refine G (Wb Z)<|U<|ZT Z ?_
 refine bz bX [0,1,2,3,4,5,6] [7] [5] [0,1,3,6] (sp [(5,Sp.one (J ((pk x.c 6:Nat):Int)))]) N N N N Nq (cF _) ?_
 refine aw Z Z Z Z Z (fun w' hw'=>Yi Z)<|aw Z Z Z Z Z (fun w' hw'=>Zf dQ Z)<|aw Z Z Z Z Z (fun w' hw'=>aT aj Z (aB ((H.later hw').ent (i:=0) Z) Z))<|aw Z Z Z Z Z (fun w' hw'=>Zf kV Z)<|aw Z Z Z Z Z (fun w' hw'=>aT aj Z (aB ((H.later hw').ent (i:=1) Z) Z))<|gL aJ Z Z Z Z Z (fun w' hw'=>dh x.c 6 w' hxo.2.2.2.1 hxo.2.2.2.2 I I) Z<|aw Z Z Z Z Z (fun w' hw'=>bi (cs:= #[J (20),.string (⟨#[99,121]⟩),J (((pk x.b np:Nat):Int)),J (1),J (((pk x.c 6:Nat):Int)),.string (⟨#[]⟩),J (0)]) jj ju N)<|aR ?_
 intro w39 hw' hF
 replace H:=H.later hw';clear hw' hF
 refine bo H 0 (#[J (20),.string (⟨#[99,121]⟩),J (((pk x.b np:Nat):Int)),J (1),J (((pk x.c 6:Nat):Int)),.string (⟨#[]⟩),J (0)]) iG Z Z Z Z Z N N fun w40 H=>U ?_
 exact⟨(⟨20,⟨#[99,121]⟩,((pk x.b np:Nat):Int),1,((pk x.c 6:Nat):Int),⟨#[]⟩,0⟩:Act),⟨iT I (fun hh=>by have:=hlo2 hh;omega) (fun _=>y4) (.inl Z),H⟩,vW,Qg⟩
 refine G (Wb Z)<|U<|ZF Z<|W<|Zr<|G (Yi Z) ?_
 refine cT (bl Z Z) Z Z Z (fun h176=> ?_) (fun h176=> ?_)
 refine G (Wb Z)<|U<|ZT Z<|Zr<|G (Zf kV Z)<|G (Zd aj H 1 Z Z Z)<|cd aJ (dh x.c 4 _ hxo.2.2.2.1 hxo.2.2.2.2 I I) Z Z ?_
 rintro _ w41 ⟨rfl,hb⟩;replace H:=H.later hb;clear hb
 refine G (bi (cs:= #[J (7),.string (⟨#[]⟩),J (0),J (((pk x.c 4:Nat):Int)),J (0),.string (⟨#[]⟩),J (0)]) jj ju N)<|bo H 0 (#[J (7),.string (⟨#[]⟩),J (0),J (((pk x.c 4:Nat):Int)),J (0),.string (⟨#[]⟩),J (0)]) iG Z Z Z Z Z N N fun w42 H=>U ?_
 exact⟨(⟨7,⟨#[]⟩,0,((pk x.c 4:Nat):Int),0,⟨#[]⟩,0⟩:Act),⟨iT I (fun hh=>by have:=hlo2 hh;omega) (fun h=>by omega) (.inl Z),H⟩,vW,Qg⟩
 refine G (Wb Z)<|U<|ZF Z<|W<|Zr<|G (Yi Z) ?_
 refine cT (bl Z Z) Z Z Z (fun h183=> ?_) (fun h183=> ?_)
 refine G (Wb Z)<|U<|ZT Z<|Zr<|G (Yi Z)<|G (bi (cs:= #[J (18),.string (⟨#[99,121]⟩),J (0),J (1),J (0),.string (⟨#[]⟩),J (0)]) jj ju N)<|bo H 0 (#[J (18),.string (⟨#[99,121]⟩),J (0),J (1),J (0),.string (⟨#[]⟩),J (0)]) iG Z Z Z Z Z N N fun w43 H=>U ?_
 exact⟨(⟨18,⟨#[99,121]⟩,0,1,0,⟨#[]⟩,0⟩:Act),⟨iT I (fun hh=>by have:=hlo2 hh;omega) (fun _=>y4) (.inl Z),H⟩,vW,Qg⟩
 refine G (Wb Z)<|U<|ZF Z<|W<|Zr<|G (Yb Z)<|G (dK Z)<|G (Wb Z)<|U ?_
 refine jf Z (fun hc186=> ?_) (fun hc186=> ?_)
 refine bz bX [0,1,2,3,4,5,6,7] [8] [6] [0,2,4,7] (sp [(6,Sp.one (J ((pk x.a nr:Nat):Int)))]) N N N N Nq (cF _) ?_
 refine aw Z Z Z Z Z (fun w' hw'=>Zf dQ Z)<|aw Z Z Z Z Z (fun w' hw'=>aT aj Z (aB ((H.later hw').ent (i:=0) Z) Z))<|aw Z Z Z Z Z (fun w' hw'=>Zf mu Z)<|aw Z Z Z Z Z (fun w' hw'=>aT aj Z (aB ((H.later hw').ent (i:=1) Z) Z))<|aw Z Z Z Z Z (fun w' hw'=>Zf lx Z)<|aw Z Z Z Z Z (fun w' hw'=>aT aj Z (aB ((H.later hw').ent (i:=3) Z) Z))<|gL aJ Z Z Z Z Z (fun w' hw'=>dh x.a nr w' hxo.2.1.1 hxo.2.1.2 I I) Z<|aw Z Z Z Z Z (fun w' hw'=>bi (cs:= #[J (9),.string (⟨#[]⟩),J (((pk x.b np:Nat):Int)),J (((pk x.a nr:Nat):Int)),J (0),.string (⟨#[]⟩),J (0)]) jj ju N)<|aR ?_
 intro w44 hw' hF
 replace H:=H.later hw';clear hw' hF
 refine bo H 0 (#[J (9),.string (⟨#[]⟩),J (((pk x.b np:Nat):Int)),J (((pk x.a nr:Nat):Int)),J (0),.string (⟨#[]⟩),J (0)]) iG Z Z Z Z Z N N fun w45 H=>U ?_
 exact⟨(⟨9,⟨#[]⟩,((pk x.b np:Nat):Int),((pk x.a nr:Nat):Int),0,⟨#[]⟩,0⟩:Act),⟨iT I (fun hh=>by have:=hlo2 hh;omega) (fun h=>by omega) (.inl Z),H⟩,vW,Qg⟩
 refine W<|Zr<|G (Yi Z) ?_
 refine cT (bl Z Z) Z Z Z (fun h199=> ?_) (fun h199=> ?_)
 refine G (Wb Z)<|U<|ZT Z ?_
 refine bz bX [0,1,4,5,6,7,8,9,11,12,2,3,10,13,14] [15] [2,10,13] [0,3,4,6,8,11,14] (sp [(2,Sp.one (J ((pk x.c 3:Nat):Int))),(10,Sp.one (J ((pk x.a nr:Nat):Int))),(13,Sp.one (J ((pk x.c 40:Nat):Int)))]) N N N N Nq (cF _) ?_
 refine aw Z Z Z Z Z (fun w' hw'=>Zf kV Z)<|aw Z Z Z Z Z (fun w' hw'=>aT aj Z (aB ((H.later hw').ent (i:=1) Z) Z))<|aw Z Z Z Z Z (fun w' hw'=>Zf dQ Z)<|aw Z Z Z Z Z (fun w' hw'=>aT aj Z (aB ((H.later hw').ent (i:=0) Z) Z))<|aw Z Z Z Z Z (fun w' hw'=>Zf mu Z)<|aw Z Z Z Z Z (fun w' hw'=>aT aj Z (aB ((H.later hw').ent (i:=1) Z) Z))<|aw Z Z Z Z Z (fun w' hw'=>Zf lx Z)<|aw Z Z Z Z Z (fun w' hw'=>aT aj Z (aB ((H.later hw').ent (i:=3) Z) Z))<|aw Z Z Z Z Z (fun w' hw'=>Zf kV Z)<|aw Z Z Z Z Z (fun w' hw'=>aT aj Z (aB ((H.later hw').ent (i:=1) Z) Z))<|gL aJ Z Z Z Z Z (fun w' hw'=>dh x.c 3 w' hxo.2.2.2.1 hxo.2.2.2.2 I I) Z<|aw Z Z Z Z Z (fun w' hw'=>br Z Z I I)<|gL aJ Z Z Z Z Z (fun w' hw'=>dh x.a nr w' hxo.2.1.1 hxo.2.1.2 I I) Z<|gL aJ Z Z Z Z Z (fun w' hw'=>dh x.c 40 w' hxo.2.2.2.1 hxo.2.2.2.2 I I) Z<|aw Z Z Z Z Z (fun w' hw'=>bi (cs:= #[J (10+(((pk x.c 3:Nat):Int))),.string (⟨#[]⟩),J (((pk x.b np:Nat):Int)),J (((pk x.a nr:Nat):Int)),J (((pk x.c 40:Nat):Int)),.string (⟨#[]⟩),J (0)]) jj ju N)<|aR ?_
 intro w46 hw' hF
 replace H:=H.later hw';clear hw' hF
 refine bo H 0 (#[J (10+(((pk x.c 3:Nat):Int))),.string (⟨#[]⟩),J (((pk x.b np:Nat):Int)),J (((pk x.a nr:Nat):Int)),J (((pk x.c 40:Nat):Int)),.string (⟨#[]⟩),J (0)]) iG Z Z Z Z Z N N fun w47 H=>U ?_
 exact⟨(⟨10+(((pk x.c 3:Nat):Int)),⟨#[]⟩,((pk x.b np:Nat):Int),((pk x.a nr:Nat):Int),((pk x.c 40:Nat):Int),⟨#[]⟩,0⟩:Act),⟨iT I (fun hh=>by rw[hh]at hc186;cases hc186) (fun h=>by omega) (.inl Z),H⟩,vW,Qg⟩
 refine G (Wb Z)<|U<|ZF Z<|W<|Zr<|G (Yi Z) ?_
 refine cT (bl Z Z) Z Z Z (fun h217=> ?_) (fun h217=> ?_)
 refine G (Wb Z)<|U<|ZT Z ?_
 refine bz bX [0,1,4,5,6,7,8,9,2,3,10,11] [12] [2,10] [0,3,4,6,8,11] (sp [(2,Sp.one (J ((pk x.c 3:Nat):Int))),(10,Sp.one (J ((pk x.a nr:Nat):Int)))]) N N N N Nq (cF _) ?_
 refine aw Z Z Z Z Z (fun w' hw'=>Zf kV Z)<|aw Z Z Z Z Z (fun w' hw'=>aT aj Z (aB ((H.later hw').ent (i:=1) Z) Z))<|aw Z Z Z Z Z (fun w' hw'=>Zf dQ Z)<|aw Z Z Z Z Z (fun w' hw'=>aT aj Z (aB ((H.later hw').ent (i:=0) Z) Z))<|aw Z Z Z Z Z (fun w' hw'=>Zf mu Z)<|aw Z Z Z Z Z (fun w' hw'=>aT aj Z (aB ((H.later hw').ent (i:=1) Z) Z))<|aw Z Z Z Z Z (fun w' hw'=>Zf lx Z)<|aw Z Z Z Z Z (fun w' hw'=>aT aj Z (aB ((H.later hw').ent (i:=3) Z) Z))<|gL aJ Z Z Z Z Z (fun w' hw'=>dh x.c 3 w' hxo.2.2.2.1 hxo.2.2.2.2 I I) Z<|aw Z Z Z Z Z (fun w' hw'=>br Z Z I I)<|gL aJ Z Z Z Z Z (fun w' hw'=>dh x.a nr w' hxo.2.1.1 hxo.2.1.2 I I) Z<|aw Z Z Z Z Z (fun w' hw'=>bi (cs:= #[J (13+(((pk x.c 3:Nat):Int))),.string (⟨#[]⟩),J (((pk x.b np:Nat):Int)),J (((pk x.a nr:Nat):Int)),J (0),.string (⟨#[]⟩),J (0)]) jj ju N)<|aR ?_
 intro w48 hw' hF
 replace H:=H.later hw';clear hw' hF
 refine bo H 0 (#[J (13+(((pk x.c 3:Nat):Int))),.string (⟨#[]⟩),J (((pk x.b np:Nat):Int)),J (((pk x.a nr:Nat):Int)),J (0),.string (⟨#[]⟩),J (0)]) iG Z Z Z Z Z N N fun w49 H=>U ?_
 exact⟨(⟨13+(((pk x.c 3:Nat):Int)),⟨#[]⟩,((pk x.b np:Nat):Int),((pk x.a nr:Nat):Int),0,⟨#[]⟩,0⟩:Act),⟨iT I (fun hh=>by rw[hh]at hc186;cases hc186) (fun h=>by omega) (.inl Z),H⟩,vW,Qg⟩
 refine G (Wb Z)<|U<|ZF Z<|pD bX (fun w'=>w'.heap[b15]? =some (.cells #[J (x.kind),J (x.a),J (x.b),J (x.c)] vo (0,0))/\w'.heap[b5]? =some (.cells #[J (((np:Nat):Int)),J (((nr:Nat):Int)),J (few),J (wt)] lp (0,0))/\ ∃ cs,w'.heap[b16]? =some (.cells cs fZ (0,0))/\cs[1]? =some (.string (pO (pk ((pk x.a 2:Nat):Int) 3)))/\cs[2]? =some (J ((pk x.b np:Nat):Int))) ?_
 intro w50 hw';replace H:=H.later hw';clear hw'
 refine bc 1 N N N Z Z Z Z Nq ⟨H.ent (i:=1) Z,H.ent (i:=3) Z,_,H.ent (i:=0) Z,rfl,rfl⟩ (fun _ hS=>Zf kV Z)<|bc 2 N N N Z Z Z Z Nq ⟨H.ent (i:=1) Z,H.ent (i:=3) Z,_,H.ent (i:=0) Z,rfl,rfl⟩ (fun _ hS=>aT aj Z (aB hS.1 Z))<|bc 6 N N N Z Z Z Z Nq ⟨H.ent (i:=1) Z,H.ent (i:=3) Z,_,H.ent (i:=0) Z,rfl,rfl⟩ (fun _ hS=>Zf eZ Z)<|bc 7 N N N Z Z Z Z Nq ⟨H.ent (i:=1) Z,H.ent (i:=3) Z,_,H.ent (i:=0) Z,rfl,rfl⟩ (fun _ hS=>aT aY Z (hS.2.2.elim fun _ h=>aB h.1 h.2.1))<|bc 8 N N N Z Z Z Z Nq ⟨H.ent (i:=1) Z,H.ent (i:=3) Z,_,H.ent (i:=0) Z,rfl,rfl⟩ (fun _ hS=>Zf dQ Z)<|bc 9 N N N Z Z Z Z Nq ⟨H.ent (i:=1) Z,H.ent (i:=3) Z,_,H.ent (i:=0) Z,rfl,rfl⟩ (fun _ hS=>aT aj Z (hS.2.2.elim fun _ h=>aB h.1 h.2.2))<|bc 10 N N N Z Z Z Z Nq ⟨H.ent (i:=1) Z,H.ent (i:=3) Z,_,H.ent (i:=0) Z,rfl,rfl⟩ (fun _ hS=>Zf mu Z)<|bc 11 N N N Z Z Z Z Nq ⟨H.ent (i:=1) Z,H.ent (i:=3) Z,_,H.ent (i:=0) Z,rfl,rfl⟩ (fun _ hS=>aT aj Z (aB hS.1 Z))<|bc 12 N N N Z Z Z Z Nq ⟨H.ent (i:=1) Z,H.ent (i:=3) Z,_,H.ent (i:=0) Z,rfl,rfl⟩ (fun _ hS=>Zf lx Z)<|bc 13 N N N Z Z Z Z Nq ⟨H.ent (i:=1) Z,H.ent (i:=3) Z,_,H.ent (i:=0) Z,rfl,rfl⟩ (fun _ hS=>aT aj Z (aB hS.2.1 Z)) ?_
 refine OX 0 3 N Z Z ?_ ?_
 refine sW (vs:=[J (11),J (13),J (1)]) H aZ v6 Z Z Z Z Z Z fun w51 b85 H=>U ?_
 refine⟨⟨H.ent (i:=2) Z,H.ent (i:=4) Z,_,H.ent (i:=1) Z,rfl,rfl⟩,?_⟩
 refine v8 3 N Z<|cd aJ (dh x.c 3 _ hxo.2.2.2.1 hxo.2.2.2.2 I I) Z Z ?_
 rintro _ w52 ⟨rfl,hb⟩;replace H:=H.later hb;clear hb
 refine U ?_
 refine⟨⟨H.ent (i:=2) Z,H.ent (i:=4) Z,_,H.ent (i:=1) Z,rfl,rfl⟩,?_⟩
 refine bc 4 N N N Z Z Z Z Nq ⟨H.ent (i:=2) Z,H.ent (i:=4) Z,_,H.ent (i:=1) Z,rfl,rfl⟩ (fun _ hS=>sS aZ Z Z I I) ?_
 refine OX 5 14 N Z Z ?_ ?_
 refine G (aT aj Z (aB (H.ent (i:=0) Z) (tE (iZ x.c (show 0<3 by omega)))))<|U ?_
 refine⟨⟨H.ent (i:=2) Z,H.ent (i:=4) Z,_,H.ent (i:=1) Z,rfl,rfl⟩,?_⟩
 refine v8 14 N Z<|cd aJ (dh x.a nr _ hxo.2.1.1 hxo.2.1.2 I I) Z Z ?_
 rintro _ w53 ⟨rfl,hb⟩;replace H:=H.later hb;clear hb
 refine U ?_
 refine⟨⟨H.ent (i:=2) Z,H.ent (i:=4) Z,_,H.ent (i:=1) Z,rfl,rfl⟩,?_⟩
 refine bc 15 N N N Z Z Z Z Nq ⟨H.ent (i:=2) Z,H.ent (i:=4) Z,_,H.ent (i:=1) Z,rfl,rfl⟩ (fun _ hS=>bi (cs:= #[J (Dm (pk x.c 3)),.string (pO (pk ((pk x.a 2:Nat):Int) 3)),J (((pk x.b np:Nat):Int)),J (((pk x.a nr:Nat):Int)),J (0),.string (⟨#[]⟩),J (0)]) jj ju N)<|v8 16 N Z<|bo H 1 (#[J (Dm (pk x.c 3)),.string (pO (pk ((pk x.a 2:Nat):Int) 3)),J (((pk x.b np:Nat):Int)),J (((pk x.a nr:Nat):Int)),J (0),.string (⟨#[]⟩),J (0)]) iG Z Z Z Z Z N N fun w54 H=>U ?_
 refine⟨⟨H.ent (i:=2) Z,H.ent (i:=4) Z,_,H.ent (i:=1) Z,rfl,rfl⟩,?_⟩
 refine m0 N ?_
 have hkd:=z6 (pk x.c 3)
 exact⟨(⟨Dm (pk x.c 3),pO (pk ((pk x.a 2:Nat):Int) 3),((pk x.b np:Nat):Int),((pk x.a nr:Nat):Int),0,⟨#[]⟩,0⟩:Act),⟨iT I (fun hh=>by rw[hh]at hc186;cases hc186) (fun _=>qT _) (.inl Z),H.forget ((.cons _ (ap _))) (fun _ h=>h)⟩,vW,Qg⟩
 refine cd aJ (dh x.a nr _ hxo.2.1.1 hxo.2.1.2 I I) Z Z ?_
 rintro _ w55 ⟨rfl,hb⟩;replace H:=H.later hb;clear hb
 refine U ?_
 refine⟨⟨H.ent (i:=2) Z,H.ent (i:=4) Z,_,H.ent (i:=1) Z,rfl,rfl⟩,?_⟩
 refine v8 5 N Z<|G (aT aj Z (aB (H.ent (i:=0) Z) (tE (iZ x.c (show 0<3 by omega)))))<|U ?_
 refine⟨⟨H.ent (i:=2) Z,H.ent (i:=4) Z,_,H.ent (i:=1) Z,rfl,rfl⟩,?_⟩
 refine bc 15 N N N Z Z Z Z Nq ⟨H.ent (i:=2) Z,H.ent (i:=4) Z,_,H.ent (i:=1) Z,rfl,rfl⟩ (fun _ hS=>bi (cs:= #[J (Dm (pk x.c 3)),.string (pO (pk ((pk x.a 2:Nat):Int) 3)),J (((pk x.b np:Nat):Int)),J (((pk x.a nr:Nat):Int)),J (0),.string (⟨#[]⟩),J (0)]) jj ju N)<|v8 16 N Z<|bo H 1 (#[J (Dm (pk x.c 3)),.string (pO (pk ((pk x.a 2:Nat):Int) 3)),J (((pk x.b np:Nat):Int)),J (((pk x.a nr:Nat):Int)),J (0),.string (⟨#[]⟩),J (0)]) iG Z Z Z Z Z N N fun w56 H=>U ?_
 refine⟨⟨H.ent (i:=2) Z,H.ent (i:=4) Z,_,H.ent (i:=1) Z,rfl,rfl⟩,?_⟩
 refine m0 N ?_
 have hkd:=z6 (pk x.c 3)
 exact⟨(⟨Dm (pk x.c 3),pO (pk ((pk x.a 2:Nat):Int) 3),((pk x.b np:Nat):Int),((pk x.a nr:Nat):Int),0,⟨#[]⟩,0⟩:Act),⟨iT I (fun hh=>by rw[hh]at hc186;cases hc186) (fun _=>qT _) (.inl Z),H.forget ((.cons _ (ap _))) (fun _ h=>h)⟩,vW,Qg⟩
 refine cd aJ (dh x.c 3 _ hxo.2.2.2.1 hxo.2.2.2.2 I I) Z Z ?_
 rintro _ w57 ⟨rfl,hb⟩;replace H:=H.later hb;clear hb
 refine U ?_
 refine⟨⟨H.ent (i:=1) Z,H.ent (i:=3) Z,_,H.ent (i:=0) Z,rfl,rfl⟩,?_⟩
 refine OX 0 14 N Z Z ?_ ?_
 refine sW (vs:=[J (11),J (13),J (1)]) H aZ v6 Z Z Z Z Z Z fun w58 b85 H=>U ?_
 refine⟨⟨H.ent (i:=2) Z,H.ent (i:=4) Z,_,H.ent (i:=1) Z,rfl,rfl⟩,?_⟩
 refine bc 4 N N N Z Z Z Z Nq ⟨H.ent (i:=2) Z,H.ent (i:=4) Z,_,H.ent (i:=1) Z,rfl,rfl⟩ (fun _ hS=>sS aZ Z Z I I) ?_
 refine OX 5 14 N Z Z ?_ ?_
 refine G (aT aj Z (aB (H.ent (i:=0) Z) (tE (iZ x.c (show 0<3 by omega)))))<|U ?_
 refine⟨⟨H.ent (i:=2) Z,H.ent (i:=4) Z,_,H.ent (i:=1) Z,rfl,rfl⟩,?_⟩
 refine v8 14 N Z<|cd aJ (dh x.a nr _ hxo.2.1.1 hxo.2.1.2 I I) Z Z ?_
 rintro _ w59 ⟨rfl,hb⟩;replace H:=H.later hb;clear hb
 refine U ?_
 refine⟨⟨H.ent (i:=2) Z,H.ent (i:=4) Z,_,H.ent (i:=1) Z,rfl,rfl⟩,?_⟩
 refine bc 15 N N N Z Z Z Z Nq ⟨H.ent (i:=2) Z,H.ent (i:=4) Z,_,H.ent (i:=1) Z,rfl,rfl⟩ (fun _ hS=>bi (cs:= #[J (Dm (pk x.c 3)),.string (pO (pk ((pk x.a 2:Nat):Int) 3)),J (((pk x.b np:Nat):Int)),J (((pk x.a nr:Nat):Int)),J (0),.string (⟨#[]⟩),J (0)]) jj ju N)<|v8 16 N Z<|bo H 1 (#[J (Dm (pk x.c 3)),.string (pO (pk ((pk x.a 2:Nat):Int) 3)),J (((pk x.b np:Nat):Int)),J (((pk x.a nr:Nat):Int)),J (0),.string (⟨#[]⟩),J (0)]) iG Z Z Z Z Z N N fun w60 H=>U ?_
 refine⟨⟨H.ent (i:=2) Z,H.ent (i:=4) Z,_,H.ent (i:=1) Z,rfl,rfl⟩,?_⟩
 refine m0 N ?_
 have hkd:=z6 (pk x.c 3)
 exact⟨(⟨Dm (pk x.c 3),pO (pk ((pk x.a 2:Nat):Int) 3),((pk x.b np:Nat):Int),((pk x.a nr:Nat):Int),0,⟨#[]⟩,0⟩:Act),⟨iT I (fun hh=>by rw[hh]at hc186;cases hc186) (fun _=>qT _) (.inl Z),H.forget ((.cons _ (ap _))) (fun _ h=>h)⟩,vW,Qg⟩
 refine cd aJ (dh x.a nr _ hxo.2.1.1 hxo.2.1.2 I I) Z Z ?_
 rintro _ w61 ⟨rfl,hb⟩;replace H:=H.later hb;clear hb
 refine U ?_
 refine⟨⟨H.ent (i:=2) Z,H.ent (i:=4) Z,_,H.ent (i:=1) Z,rfl,rfl⟩,?_⟩
 refine v8 5 N Z<|G (aT aj Z (aB (H.ent (i:=0) Z) (tE (iZ x.c (show 0<3 by omega)))))<|U ?_
 refine⟨⟨H.ent (i:=2) Z,H.ent (i:=4) Z,_,H.ent (i:=1) Z,rfl,rfl⟩,?_⟩
 refine bc 15 N N N Z Z Z Z Nq ⟨H.ent (i:=2) Z,H.ent (i:=4) Z,_,H.ent (i:=1) Z,rfl,rfl⟩ (fun _ hS=>bi (cs:= #[J (Dm (pk x.c 3)),.string (pO (pk ((pk x.a 2:Nat):Int) 3)),J (((pk x.b np:Nat):Int)),J (((pk x.a nr:Nat):Int)),J (0),.string (⟨#[]⟩),J (0)]) jj ju N)<|v8 16 N Z<|bo H 1 (#[J (Dm (pk x.c 3)),.string (pO (pk ((pk x.a 2:Nat):Int) 3)),J (((pk x.b np:Nat):Int)),J (((pk x.a nr:Nat):Int)),J (0),.string (⟨#[]⟩),J (0)]) iG Z Z Z Z Z N N fun w62 H=>U ?_
 refine⟨⟨H.ent (i:=2) Z,H.ent (i:=4) Z,_,H.ent (i:=1) Z,rfl,rfl⟩,?_⟩
 refine m0 N ?_
 have hkd:=z6 (pk x.c 3)
 exact⟨(⟨Dm (pk x.c 3),pO (pk ((pk x.a 2:Nat):Int) 3),((pk x.b np:Nat):Int),((pk x.a nr:Nat):Int),0,⟨#[]⟩,0⟩:Act),⟨iT I (fun hh=>by rw[hh]at hc186;cases hc186) (fun _=>qT _) (.inl Z),H.forget ((.cons _ (ap _))) (fun _ h=>h)⟩,vW,Qg⟩
 refine cd aJ (dh x.a nr _ hxo.2.1.1 hxo.2.1.2 I I) Z Z ?_
 rintro _ w63 ⟨rfl,hb⟩;replace H:=H.later hb;clear hb
 refine U ?_
 refine⟨⟨H.ent (i:=1) Z,H.ent (i:=3) Z,_,H.ent (i:=0) Z,rfl,rfl⟩,?_⟩
 refine v8 0 N Z<|sW (vs:=[J (11),J (13),J (1)]) H aZ v6 Z Z Z Z Z Z fun w64 b85 H=>U ?_
 refine⟨⟨H.ent (i:=2) Z,H.ent (i:=4) Z,_,H.ent (i:=1) Z,rfl,rfl⟩,?_⟩
 refine bc 4 N N N Z Z Z Z Nq ⟨H.ent (i:=2) Z,H.ent (i:=4) Z,_,H.ent (i:=1) Z,rfl,rfl⟩ (fun _ hS=>sS aZ Z Z I I)<|v8 5 N Z<|G (aT aj Z (aB (H.ent (i:=0) Z) (tE (iZ x.c (show 0<3 by omega)))))<|U ?_
 refine⟨⟨H.ent (i:=2) Z,H.ent (i:=4) Z,_,H.ent (i:=1) Z,rfl,rfl⟩,?_⟩
 refine bc 15 N N N Z Z Z Z Nq ⟨H.ent (i:=2) Z,H.ent (i:=4) Z,_,H.ent (i:=1) Z,rfl,rfl⟩ (fun _ hS=>bi (cs:= #[J (Dm (pk x.c 3)),.string (pO (pk ((pk x.a 2:Nat):Int) 3)),J (((pk x.b np:Nat):Int)),J (((pk x.a nr:Nat):Int)),J (0),.string (⟨#[]⟩),J (0)]) jj ju N)<|v8 16 N Z<|bo H 1 (#[J (Dm (pk x.c 3)),.string (pO (pk ((pk x.a 2:Nat):Int) 3)),J (((pk x.b np:Nat):Int)),J (((pk x.a nr:Nat):Int)),J (0),.string (⟨#[]⟩),J (0)]) iG Z Z Z Z Z N N fun w65 H=>U ?_
 refine⟨⟨H.ent (i:=2) Z,H.ent (i:=4) Z,_,H.ent (i:=1) Z,rfl,rfl⟩,?_⟩
 refine m0 N ?_
 have hkd:=z6 (pk x.c 3)
 exact⟨(⟨Dm (pk x.c 3),pO (pk ((pk x.a 2:Nat):Int) 3),((pk x.b np:Nat):Int),((pk x.a nr:Nat):Int),0,⟨#[]⟩,0⟩:Act),⟨iT I (fun hh=>by rw[hh]at hc186;cases hc186) (fun _=>qT _) (.inl Z),H.forget ((.cons _ (ap _))) (fun _ h=>h)⟩,vW,Qg⟩
 rintro a ρ1 w66 ⟨hga,H⟩
 show CW _ _ _ _ (dC (gC _ _ ρ1) []) w66
 refine Zr<|G (Ys Z)<|G (Zw dN H 0 Z Z Z)<|sW (vs:=[.agg #[J (a.kind),.string (a.name),J (a.part),J (a.n),J (a.m),.string (a.text),J (a.lost)]]) H wl ju Z Z Z Z Z Z fun w67 b232 H=>vT (Y:=sM) zb (K:=[(b232,_),(b16,_),(b15,_),(b29,_),(b5,_)]) (L:=L) (M:=[]) H ho (es:=ql np++es) (news:=[a]) Z Z Z (vX.row (m:=1) (sz:=sM.sz) (H.ent (i:=0) Z) Z) (by simp only[bO];rw[ay];unfold ql;rw[ay,ly];show(np+3+es.length+1)*_<=_;omega) Z ?_
 intro A5 c5 w68 L5 h5 h5m ho5 H
 rw[aE]at ho5 h5⊢
 refine G (Ws Z)<|U<|Zr<|G (Yi Z)<|G (br Z Z I I)<|G (Wi Z)<|U ?_
 exact⟨(i+1,es++[a],A5,c5,L5),⟨by omega,by omega,by rw[ay,hel];rfl,fun y hy=>(by rcases au.1 hy with hy|hy;exact hes y hy;rw[aq.1 hy];exact hga),ho5,H.forget (.cons _ (.cons _ (.cons _ (ap _)))) (fun _ h=>h)⟩,kO Z Z,Qg,by show l.length- (i+1)<l.length-i;omega⟩
 refine G (Kt Z Z)<|U<|ZF Z<|Zx<|W<|Zr<|G (Ys Z)<|G (Ws Z)<|U<|Zt ?_
 exact cD (v:=.slice A (ql np++es).length c) Z Z ⟨es,A,c,L,rfl,by omega,hes,ho,H.forget (L':=L) (.cons _ (.cons _ (by rw[aX];exact ap _))) (by simp)⟩
 refine G (Yb Z)<|ZN<|ZN<|ZN<|G (N Z Z)<|U<|ZF Z<|Zx<|W<|Zr<|G (Ys Z)<|G (Ws Z)<|U<|Zt ?_
 exact cD (v:=.slice A (ql np++es).length c) Z Z ⟨es,A,c,L,rfl,by omega,hes,ho,H.forget (L':=L) (.cons _ (.cons _ (by rw[aX];exact ap _))) (by simp)⟩
def On (lo hi:Nat) (r:Rn):cr:=⟨lo,hi,r.rd lo hi,fun _ _ hk h=>h.st hk⟩
def Pp (w:World) (W0:Wa) (acts:List Act) (v:Value) (w2:World):Prop:= ∃ (xs:List Aq) (oA:Option Addr) (oC:Nat) (b:Bk),v=.tuple #[.slice oA xs.length oC,.agg b.c.toArray,.bool true]/\nF W0 acts (xs.map Aq.x) b.a/\(Rn.mk xs oA oC b).rd w.heap.size w2.heap.size w2/\Below w.heap.size w w2
theorem Db {a b:Int}:1<=1+pk a 3/\1+pk a 3<=4/\1<=1+pk b 3/\1+pk b 3<=5/\1<=1+pk a (1+pk b 3)/\1+pk a (1+pk b 3)<=1+pk b 3/\(1:Int)<=5+(pk b 20:Nat)/\(5:Int)+(pk b 20:Nat)<=1000:=by
 have p1:=iZ a (show 0<3 by omega)
 have p2:=iZ b (show 0<3 by omega)
 have p3:=iZ a (show 0<1+pk b 3 by omega)
 have p4:=iZ b (show 0<20 by omega)
 omega
theorem Ho {np nr few:Nat} {wt:Int} {acts:List Act} {A0:Option Addr} {c0:Nat} (w:World) (q1:1<=np) (q4:np<=4) (n1:1<=nr) (n5:nr<=5) (f1:1<=few) (f2:few<=nr) (t1:1<=wt) (t2:wt<=1000) (hr:Rd sM 0 w.heap.size A0 acts w) (hl:acts.length<=400) (hg: ∀ a∈acts,ue np nr a):dd aa wz [.agg #[J (np:Nat),J (nr:Nat),J (few:Nat),J wt],.slice A0 acts.length c0] w (Pp w (s6 np nr few wt) acts):=by
 refine aD vJ Z Z ?_
 have H:=Hp.startRd hr
 show CW _ _ _ _ (args [.agg #[J (np:Nat),J (nr:Nat),J (few:Nat),J wt],.slice A0 acts.length c0]) w
 refine W<|Zr<|fQ H Z Z fun w1 b2 H=>G (Ws Z)<|eH H pb Z fun w2 b5 H=>G (Wb Z)<|U<|W<|Zr<|G (Zw pI H 1 Z Z Z)<|G (Ys Z)<|cd BZ (NM _ q1 q4 n1 n5 f1 f2 t1 t2 (H.rd0 0 Z) hl hg) Z Z ?_
 have hlo:=H.size
 rintro _ w3 ⟨⟨xs,oA,oC,⟨ps,pA,pC,co,clo,chi,gr,glo,ghi,sns,snA,snC⟩⟩,rfl,hrun,hrd,hb⟩;replace H:=H.learn hb (On w2.heap.size w3.heap.size ⟨xs,oA,oC,⟨ps,pA,pC,co,clo,chi,gr,glo,ghi,sns,snA,snC⟩⟩) hrd (ao _) (ao _)
 have hxl:xs.length=acts.length:=by have:=hrun.len;rwa[bF]at this
 refine G (Yu Z)<|G (Xs Z Z)<|G (Xa Z Z)<|G (Xi Z Z)<|eH H pb Z fun w4 b8 H=>G (Ws Z)<|bo H 0 (#[.slice pA ps.length pC,J (co.clock),J (co.next),J (co.wait),.slice co.A co.txs.length co.cap,J (gr.clock),J (gr.wait),J (gr.gen),.slice gr.mA gr.ms.length gr.mC,.slice gr.oA gr.os.length gr.oC,.slice snA sns.length snC]) lE Z Z Z Z Z N N fun w5 H=>G (Wi Z)<|U<|W ?_
 refine bz bX [0,1,2,3,4,5,6,7,8,9,10,11] [12,13] [] [0,2,3,4,5,6,7,8,9,10,11] (sp []) N N N N Nq (cF _) ?_
 refine aw Z Z Z Z Z (fun w' hw'=>Ys Z)<|aw Z Z Z Z Z (fun w' hw'=>jw nC Z ((H.later hw').ent (i:=0) Z) Z)<|aw Z Z Z Z Z (fun w' hw'=>Yi Z)<|aw Z Z Z Z Z (fun w' hw'=>tT Z Z Z)<|aw Z Z Z Z Z (fun w' hw'=>Yb Z)<|aw Z Z Z Z Z (fun w' hw'=>Ys Z)<|aw Z Z Z Z Z (fun w' hw'=>bn yl Z)<|aw Z Z Z Z Z (fun w' hw'=>Ys Z)<|aw Z Z Z Z Z (fun w' hw'=>bn zY Z)<|aw Z Z Z Z Z (fun w' hw'=>tT Z Z (by dsimp only;omega))<|aw Z Z Z Z Z (fun w' hw'=>Kt Z Z)<|aw Z Z Z Z Z (fun w' hw'=>Ws Z)<|aR ?_
 intro w6 hw' hF
 replace H:=H.later hw';clear hw' hF
 refine bo H 1 (#[.slice pA ps.length pC,J (co.clock),J (co.next),J (co.wait),.slice co.A co.txs.length co.cap,J (gr.clock),J (gr.wait),J (gr.gen),.slice gr.mA gr.ms.length gr.mC,.slice gr.oA gr.os.length gr.oC,.slice snA sns.length snC]) lE Z Z Z Z Z N N fun w7 H=>G (Wb Z)<|U<|Zt ?_
 exact KY (v0:=.slice oA xs.length oC) (cs1:= #[.slice pA ps.length pC,J (co.clock),J (co.next),J (co.wait),.slice co.A co.txs.length co.cap,J (gr.clock),J (gr.wait),J (gr.gen),.slice gr.mA gr.ms.length gr.mC,.slice gr.oA gr.os.length gr.oC,.slice snA sns.length snC]) (v2:=.bool true) Z Z nC Z (H.ent (i:=1) Z) Z Z ⟨xs,oA,oC,⟨ps,pA,pC,co,clo,chi,gr,glo,ghi,sns,snA,snC⟩,rfl,hrun,Rn.rd.mono (H.fact (i:=0) Z) hlo (H.facts _ (az ..)).2.1,H.below⟩
theorem Io {a b:Int} (ha:i64 a) (hb:i64 b): ∃ (np nr few:Nat) (wt:Int),1<=np/\np<=4/\1<=nr/\nr<=5/\1<=few/\few<=nr/\1<=wt/\wt<=1000/\ ∀ w:World,dd aa nZ [J a,J b] w fun v w2=>v=.agg #[J (np:Nat),J (nr:Nat),J (few:Nat),J wt]/\Below w.heap.size w w2:=by
 obtain⟨h1,h2,h3,h4,h5,h6,h7,h8⟩:=@Db a b
 refine⟨1+pk a 3,1+pk b 3,1+pk a (1+pk b 3),5+(pk b 20:Nat),h1,h2,h3,h4,h5,h6,h7,by omega,fun w=>(J5 a b w ha hb).mono fun v w2 ⟨g1,g2⟩=>⟨?_,g2⟩⟩
 rw[g1,show((1+pk a 3:Nat):Int)=1+(pk a 3:Nat) by omega,show((1+pk b 3:Nat):Int)=1+(pk b 3:Nat) by omega,show((1+pk a (1+pk b 3):Nat):Int)=1+(pk a (1+pk b 3):Nat) by omega]
theorem Jy {np nr:Nat} {hard:Bool} {body:List Act} (h1:1<=np) (hr:1<=nr) (hb: ∀ a∈body,FT np nr hard a): ∀ a∈ql np++body,ue np nr a:=fun a ha=>by
 rcases au.1 ha with ha|ha
 unfold ql at ha
 rcases au.1 ha with ha|ha
 obtain⟨p,hp,rfl⟩:=bw.1 ha
 have:=List.mem_range.1 hp
 refine(iT (hard:=true) (k:=13) (pt:=p) (n:=0) (m:=0) (lo:=0) I (by simp) I (.inl Z)).g
 simp only[ax,cC,or_false]at ha
 rcases ha with rfl|rfl|rfl<;>exact(iT (hard:=true) (pt:=0) (n:=0) (m:=0) (lo:=0) I (by simp) (fun _=>qT _) (.inl Z)).g
 exact(hb a ha).g
theorem Hp.rnXs {w0 w:World} {L:List (Nat×Obj)} {F:List cr} {lo hi:Nat} {r:Rn} (H:Hp w0 w L F) (i:Nat) (hF:F[i]? =some (On lo hi r)):Hp w0 w L (dM Of lo hi r.oA r.xs::F):=by
 refine⟨H.below,H.ents,H.nodup,fun f hf=> ?_⟩
 rcases ax.1 hf with rfl|hf
 obtain⟨h1,h2,h3⟩:=H.facts _ (ae hF)
 exact⟨h1.xs,h2,h3⟩
 exact H.facts f hf
theorem Hp.rn0 {w0 w:World} {L:List (Nat×Obj)} {F:List cr} {lo hi:Nat} {r:Rn} (H:Hp w0 w L F) (i:Nat) (hF:F[i]? =some (On lo hi r)):r.rd 0 w.heap.size w:=
 Rn.rd.mono (H.fact hF) (bG _) (H.facts _ (ae hF)).2.1
theorem It {np nr:Nat} {w w1:Wa} {l:List Act} {xs:List An} (h:nF w l xs w1):(∀ a∈l,ue np nr a)-> ∀ x∈xs,x.texts.length<=20:=by
 induction h with
 |nil=>intro _ x hx;cases hx
 |cons h1 _ ih=>
  intro hg x hx
  rcases ax.1 hx with rfl|hx
  exact AV h1 (fun h=>((hg _ (az ..)).poll h).2) (hg _ (az ..)).kind.1
  exact ih (fun a ha=>hg a (ak _ ha)) x hx
theorem Mp (np:Nat) (body:List Act):(ql np++body).length=np+3+body.length:=by rw[ay];unfold ql;rw[ay,ly];rfl
theorem LF {xs ys:List Aq} (h:ys.map Aq.x=xs.map Aq.x) {i:Nat} {x:Aq} (hx:xs[i]? =some x): ∃ y,ys[i]? =some y/\x.x=y.x:=by
 have h1:(ys.map Aq.x)[i]? =some x.x:=by rw[h,aL,hx];rfl
 rw[aL]at h1
 cases hy:ys[i]? with
 |none=>rw[hy]at h1;cases h1
 |some y=>rw[hy]at h1;exact⟨y,rfl,(bj h1).symm⟩
theorem DR (es fs:List ByteArray) (A B:Option Addr) (c d:Nat) (w:World) (hr:Rd kR 0 w.heap.size A es w) (hs:Rd kR 0 w.heap.size B fs w) (hb:es.length<=1000000000000):
  dd aa n7 [.slice A es.length c,.slice B fs.length d] w fun v w2=>v=.bool (decide (es=fs))/\Below w.heap.size w w2:=by
 refine aD nf Z Z ?_
 have H:=(Hp.startRd hr).learnOld (dM kR 0 w.heap.size B fs) hs (ao _)
 refine W<|Zr<|G (Wb Z)<|U<|W<|W<|Zr<|G (Ys Z)<|G (bn iM Z)<|G (Ys Z)<|G (bn iM Z) ?_
 refine qm (iL Z Z) Z Z Z (fun h10=> ?_) (fun h10=> ?_)
 have hne:es≠fs:=fun h=>h10 (by rw[h])
 refine U<|ZT Z<|W<|Zr<|G (Wb Z)<|U<|Zt ?_
 exact cD Z Z ⟨by rw[decide_eq_false hne];rfl,H.below⟩
 have hlen:es.length=fs.length:=by omega
 refine U<|ZF Z<|Zk<|W<|W<|Zr<|G (Ys Z)<|G (bn iM Z)<|G (Yi Z)<|U<|Zb ?_
 refine ce (τ:=Nat) [4,5,13,14,15,16,17,18,19,20,21,22,23,24,25] (fun k=>[(13,J (k:Nat))]) (fun k w'=>k<=es.length/\es.take k=fs.take k/\Hp w w' [] [dM kR 0 w.heap.size B fs,dM kR 0 w.heap.size A es]) (fun k=>es.length-k) 0 ⟨by omega,rfl,H⟩ (dF Z) ?_
 rintro k ρ1 w1 ⟨hk,heq,H⟩
 show CW _ _ _ _ (dC (gC _ _ ρ1) [(13,J (k:Nat))]) w1
 refine W<|Zr ?_
 refine cT (cG Z Z) Z Z Z (fun h14=> ?_) (fun h14=> ?_)
 refine U<|W<|ZT Z<|Zk<|W<|Zb<|W<|Zr<|G (Yi Z)<|G (Wi Z)<|U<|W ?_
 refine bz bX [0,1,2,3,4,5,6,7,8] [] [] [0,1,2,4,5,6,8] (sp []) N N N N Nq (cF _) ?_
 refine aw Z Z Z Z Z (fun w' hw'=>Ys Z)<|aw Z Z Z Z Z (fun w' hw'=>Yi Z)<|kj H 1 Z Z Z Z Z fT Z Z I I fun bq2 o2 x2 e2=>aw Z Z Z Z Z (fun w' hw'=>aT aY Z (e2.later hw' 0 _ Z))<|aw Z Z Z Z Z (fun w' hw'=>Ys Z)<|aw Z Z Z Z Z (fun w' hw'=>Yi Z)<|kj H 0 Z Z Z Z Z fT Z Z I I fun bq3 o3 x3 e3=>aw Z Z Z Z Z (fun w' hw'=>aT aY Z (e3.later hw' 0 _ Z)) ?_
 refine M9 Z Z Z Z Z (fun w' hw'=>F7 Z Z) (fun h24=> ?_) (fun h24=> ?_)
 refine aR ?_
 intro w4 hw' hF
 replace H:=H.later hw';clear hw' hF
 refine U<|ZT Z<|W<|Zr<|G (Wb Z)<|U<|Zt ?_
 have hne:es≠fs:=fun h=>by subst h;have h1:=e2.at_;rw[e3.at_]at h1;injection h1 with h1;exact h24 h1.symm
 exact cD Z Z ⟨by rw[decide_eq_false hne];rfl,H.below⟩
 refine aR ?_
 intro w5 hw' hF
 replace H:=H.later hw';clear hw' hF
 refine U<|ZF Z<|Zk<|Zr<|G (br Z Z I I)<|G (Yi Z)<|U ?_
 refine⟨k+1,⟨by omega,by rw[eI e2.at_,eI e3.at_,heq,h24],H⟩,dF Z,Qg,by show es.length- (k+1)<es.length-k;omega⟩
 refine U<|W<|ZF Z<|Zx<|W<|Zr<|G (Wb Z)<|U<|Zt ?_
 have hke:k=es.length:=by omega
 subst hke
 rw[bJ,hlen,bJ]at heq
 exact cD Z Z ⟨by rw[decide_eq_true heq];rfl,H.below⟩
theorem Em (l:List Hj) (A:Option Addr) (c:Nat) (a b:Int) (w:World) (hr:Rd Bn 0 w.heap.size A l w) (hok: ∀ r∈l,r.ok) (_:l.length<=9223372036854775807) (ha:i64 a) (hb:i64 b):dd aa sk [.slice A l.length c,J a,J b] w fun v w2=>v=.bool true/\Below w.heap.size w w2:=by
 refine aD rL Z Z ?_
 have H:=Hp.startRd hr
 obtain⟨np,nr,few,wt,q1,q4,n1,n5,f1,f2,t1,t2,hset⟩:=Io ha hb
 refine W<|Zr<|G (Wb Z)<|U<|W<|Zr<|G (Yi Z)<|G (Yi Z)<|cd td (hset _) Z Z ?_
 rintro _ w1 ⟨rfl,hb⟩;replace H:=H.later hb;clear hb
 refine eH H CY Z fun w2 b7 H=>bo H 0 (#[J (((np:Nat):Int)),J (((nr:Nat):Int)),J (((few:Nat):Int)),J (wt)]) Ci Z Z Z Z Z N N fun w3 H=>U<|W<|Zr<|G (Ys Z)<|G (Zw pI H 0 Z Z Z)<|cd t0 (Nc (few:=few) (wt:=wt) (np:=np) (nr:=nr) (most:=80) (hard:=true) l _ _ _ q1 q4 n1 n5 I (H.rd0 0 Z) hok) Z Z ?_
 rintro _ w4 ⟨body,Abody,cbody,Lbody,rfl,hblbody,hbgbody,hbobody,hbjbody⟩;replace H:=H.learnOwn hbjbody hbobody
 have hagbody:=Jy q1 I hbgbody
 refine G (Ws Z)<|U<|W<|Zr<|G (Zw pI H 0 Z Z Z)<|G (Ys Z)<|cd qa (Ho (np:=np) (nr:=nr) (few:=few) (wt:=wt) (acts:=(ql np++body)) _ q1 q4 n1 n5 f1 f2 t1 t2 (H.rd0 0 Z) (by simp only[ay,ql,ly];show _<=400;simp only[bV,nH];omega) hagbody) Z Z ?_
 rintro _ w5 ⟨xs,oA,oC,⟨ps,pA,pC,co,clo,chi,gr,glo,ghi,sns,snA,snC⟩,rfl,hrun,hrd,hrb⟩;replace H:=H.learn hrb (On w4.heap.size w5.heap.size ⟨xs,oA,oC,⟨ps,pA,pC,co,clo,chi,gr,glo,ghi,sns,snA,snC⟩⟩) hrd (ao _) (ao _);clear hrd hrb
 refine G (Yu Z)<|G (Xs Z Z)<|G (Xa Z Z)<|G (Xb Z Z)<|eH H pb Z fun w6 b10 H=>G (Ws Z)<|bo H 0 (#[.slice pA ps.length pC,J (co.clock),J (co.next),J (co.wait),.slice co.A co.txs.length co.cap,J (gr.clock),J (gr.wait),J (gr.gen),.slice gr.mA gr.ms.length gr.mC,.slice gr.oA gr.os.length gr.oC,.slice snA sns.length snC]) lE Z Z Z Z Z N N fun w7 H=>G (Wb Z)<|U<|W<|Zr<|G (Zw pI H 1 Z Z Z)<|G (Ys Z)<|cd qa (Ho (np:=np) (nr:=nr) (few:=few) (wt:=wt) (acts:=(ql np++body)) _ q1 q4 n1 n5 f1 f2 t1 t2 (H.rd0 1 Z) (by simp only[ay,ql,ly];show _<=400;simp only[bV,nH];omega) hagbody) Z Z ?_
 rintro _ w8 ⟨xs2,oA2,oC2,⟨ps2,pA2,pC2,co2,clo2,chi2,gr2,glo2,ghi2,sns2,snA2,snC2⟩,rfl,hrun2,hrd2,hrb2⟩;replace H:=H.learn hrb2 (On w7.heap.size w8.heap.size ⟨xs2,oA2,oC2,⟨ps2,pA2,pC2,co2,clo2,chi2,gr2,glo2,ghi2,sns2,snA2,snC2⟩⟩) hrd2 (ao _) (ao _);clear hrd2 hrb2
 refine G (Yu Z)<|G (Xs Z Z)<|G (Xa Z Z)<|G (Xb Z Z)<|eH H pb Z fun w9 b13 H=>G (Ws Z)<|bo H 0 (#[.slice pA2 ps2.length pC2,J (co2.clock),J (co2.next),J (co2.wait),.slice co2.A co2.txs.length co2.cap,J (gr2.clock),J (gr2.wait),J (gr2.gen),.slice gr2.mA gr2.ms.length gr2.mC,.slice gr2.oA gr2.os.length gr2.oC,.slice snA2 sns2.length snC2]) lE Z Z Z Z Z N N fun w10 H=>G (Wb Z)<|U<|W<|W<|Zr<|G (Ys Z)<|G (bn yl Z)<|G (Yi Z)<|U<|Zb ?_
 obtain⟨hdx,-⟩:=hrun2.det hrun
 have hxl:=It hrun hagbody
 have hxn:=hrun.len
 rw[bF,Mp]at hxn
 replace H:=Hp.rnXs H 1 Z
 replace H:=Hp.rnXs H 1 Z
 refine ce (τ:=Nat) [6,15,38,39,40,41,42,43,44,45,46,47,48,49,50,51,52,53,54,55,56,57,58,59,60,61,62,63,64,65,66,67,68,69,70,71,72,73,74,75,76,77,78,79] (fun i=>[(38,J (i:Nat))]) (fun i w'=>i<=xs.length/\Hp w w' [(b13,.cells #[.slice pA2 ps2.length pC2,J (co2.clock),J (co2.next),J (co2.wait),.slice co2.A co2.txs.length co2.cap,J (gr2.clock),J (gr2.wait),J (gr2.gen),.slice gr2.mA gr2.ms.length gr2.mC,.slice gr2.oA gr2.os.length gr2.oC,.slice snA2 sns2.length snC2] nN (0,0)),(b10,.cells #[.slice pA ps.length pC,J (co.clock),J (co.next),J (co.wait),.slice co.A co.txs.length co.cap,J (gr.clock),J (gr.wait),J (gr.gen),.slice gr.mA gr.ms.length gr.mC,.slice gr.oA gr.os.length gr.oC,.slice snA sns.length snC] nN (0,0)),(b7,.cells #[J (((np:Nat):Int)),J (((nr:Nat):Int)),J (((few:Nat):Int)),J (wt)] lp (0,0))] ([dM Of w7.heap.size w8.heap.size oA2 xs2,dM Of w4.heap.size w5.heap.size oA xs]++[On w7.heap.size w8.heap.size ⟨xs2,oA2,oC2,⟨ps2,pA2,pC2,co2,clo2,chi2,gr2,glo2,ghi2,sns2,snA2,snC2⟩⟩,On w4.heap.size w5.heap.size ⟨xs,oA,oC,⟨ps,pA,pC,co,clo,chi,gr,glo,ghi,sns,snA,snC⟩⟩,dM sM w3.heap.size w4.heap.size Abody (ql np++body),dM Bn 0 w.heap.size A l])) (fun i=>xs.length-i) 0 ⟨bG _,H⟩ (dF Z) ?_
 rintro i ρ1 w11 ⟨hi,H⟩
 show CW _ _ _ _ (dC (gC _ _ ρ1) [(38,J (i:Nat))]) w11
 refine W<|Zr ?_
 refine cT (cG Z Z) Z Z Z (fun h39=> ?_) (fun h39=> ?_)
 refine U<|W<|ZT Z<|Zk<|W<|Zb<|W ?_
 obtain⟨x,hx⟩: ∃ x,xs[i]? =some x:=⟨_,ah I⟩
 have hxm:=ae hx
 obtain⟨y,hy,hxy⟩:=LF hdx hx
 have hym:=ae hy
 have hxt:x.x.texts=y.x.texts:=by rw[hxy]
 have hx20:=hxl x.x (bL (f:=Aq.x) hxm)
 have hyl:=(cE hy).1
 refine Zr<|G (Yi Z)<|G (Wi Z)<|U<|W ?_
 refine bz bX [0,1,2,3,4,5,6,7,8,9,10,11,12,13,14,15,16,17,18,19,20,21,22,23,24,25,26,27,28,29,30,31,32,33,34,35,36,37] [] [35] [0,1,2,3,5,6,7,8,10,11,12,13,14,15,17,18,19,20,22,23,24,25,26,27,28,30,31,32,33,36,37] (sp [(35,Sp.one (.bool true))]) N N N N Nq (cF _) ?_
 refine aw Z Z Z Z Z (fun w' hw'=>Ys Z)<|aw Z Z Z Z Z (fun w' hw'=>Yi Z)<|kj H 1 Z Z Z Z Z lr Z Z I I fun bq12 o12 x12 e12=> ?_
 obtain rfl:x=x12:=by have:=e12.at_;rw[hx]at this;exact bj this
 refine aw Z Z Z Z Z (fun w' hw'=>Zf yw Z)<|aw Z Z Z Z Z (fun w' hw'=>aT Cp Z (e12.later hw' 0 _ Z))<|aw Z Z Z Z Z (fun w' hw'=>Ys Z)<|aw Z Z Z Z Z (fun w' hw'=>Yi Z)<|kj H 0 Z Z Z Z Z lr Z Z I I fun bq13 o13 x13 e13=> ?_
 obtain rfl:y=x13:=by have:=e13.at_;rw[hy]at this;exact bj this
 refine aw Z Z Z Z Z (fun w' hw'=>Zf yw Z)<|aw Z Z Z Z Z (fun w' hw'=>aT Cp Z (e13.later hw' 0 _ Z))<|aw Z Z Z Z Z (fun w' hw'=>bU Z Z (by rw[hxy]))<|aw Z Z Z Z Z (fun w' hw'=>Yb Z)<|aw Z Z Z Z Z (fun w' hw'=>Ys Z)<|aw Z Z Z Z Z (fun w' hw'=>Yi Z)<|kj H 1 Z Z Z Z Z lr Z Z I I fun bq14 o14 x14 e14=> ?_
 obtain rfl:x=x14:=by have:=e14.at_;rw[hx]at this;exact bj this
 refine aw Z Z Z Z Z (fun w' hw'=>Zf yv Z)<|aw Z Z Z Z Z (fun w' hw'=>aT aj Z (e14.later hw' 1 _ Z))<|aw Z Z Z Z Z (fun w' hw'=>Ys Z)<|aw Z Z Z Z Z (fun w' hw'=>Yi Z)<|kj H 0 Z Z Z Z Z lr Z Z I I fun bq15 o15 x15 e15=> ?_
 obtain rfl:y=x15:=by have:=e15.at_;rw[hy]at this;exact bj this
 refine aw Z Z Z Z Z (fun w' hw'=>Zf yv Z)<|aw Z Z Z Z Z (fun w' hw'=>aT aj Z (e15.later hw' 1 _ Z))<|aw Z Z Z Z Z (fun w' hw'=>bU Z Z (by rw[hxy]))<|aw Z Z Z Z Z (fun w' hw'=>N Z Z)<|aw Z Z Z Z Z (fun w' hw'=>Yb Z)<|aw Z Z Z Z Z (fun w' hw'=>Ys Z)<|aw Z Z Z Z Z (fun w' hw'=>Yi Z)<|kj H 1 Z Z Z Z Z lr Z Z I I fun bq16 o16 x16 e16=> ?_
 obtain rfl:x=x16:=by have:=e16.at_;rw[hx]at this;exact bj this
 refine aw Z Z Z Z Z (fun w' hw'=>Zf qG Z)<|aw Z Z Z Z Z (fun w' hw'=>aT gZ Z (e16.later hw' 2 _ Z))<|aw Z Z Z Z Z (fun w' hw'=>Ys Z)<|aw Z Z Z Z Z (fun w' hw'=>Yi Z)<|kj H 0 Z Z Z Z Z lr Z Z I I fun bq17 o17 x17 e17=> ?_
 obtain rfl:y=x17:=by have:=e17.at_;rw[hy]at this;exact bj this
 refine aw Z Z Z Z Z (fun w' hw'=>Zf qG Z)<|aw Z Z Z Z Z (fun w' hw'=>aT gZ Z (e17.later hw' 2 _ Z))<|gL nw Z Z Z Z Z (fun w' hw'=>(by have hA:=DR x.x.texts y.x.texts x.A y.A x.c y.c w' ((Hp.rn0 (H.later hw') 3 Z).tx x hxm).1 ((Hp.rn0 (H.later hw') 2 Z).tx y hym).1 I;rw[decide_eq_true hxt]at hA;exact hA)) Z<|aw Z Z Z Z Z (fun w' hw'=>dK Z)<|aw Z Z Z Z Z (fun w' hw'=>N Z Z)<|aR ?_
 intro w18 hw' hF
 replace H:=H.later hw';clear hw' hF
 refine U<|ZF Z<|Zk<|Zr<|G (br Z Z I I)<|G (Yi Z)<|U ?_
 exact⟨i+1,⟨by omega,H⟩,dF Z,Qg,by show xs.length- (i+1)<xs.length-i;omega⟩
 refine U<|W<|ZF Z<|Zx<|W<|Zr<|G (Yb Z)<|G (Yb Z)<|ZG<|G (Yb Z)<|G (Kt Z Z)<|G (Wb Z)<|U<|Zt ?_
 exact cD (v:=.bool true) Z Z ⟨rfl,H.below⟩
end Go.Proofs.YtclibalpdhhhfaaGreat
