/- Part 5 of the proofs over this seat: what its theorems say holds for every input that they name. -/
import Derived.Test.YtclibalpdhhhfaaGreatDF4
namespace Go.Proofs.YtclibalpdhhhfaaGreat
open Go Go.Eng Go.RowKit
open Go.Eng renaming ni→U, AK→W, JA→Zr, Nl→Zk, PV→Zt, Pe→Zb, PA→Zx, P3→Yi, P6→Yb, P1→Ys, P2→Yp, P0→Yt, PZ→Yu, Qm→Wi, Qn→Wb, Qk→Ws, Ql→Wp, Qj→Wt, Qa→Zf, Qe→Xi, Qh→Xa, Qf→Xb, Qc→Xs, PK→Kt, PL→N, pH→ZT, ox→ZF
open Go.Proofs.Tryz renaming prog→aa
open _root_.List renaming mem_of_getElem?→ae,getElem?_eq_getElem→ah,mem_cons_of_mem→ak,mem_singleton→aq,mem_append→ar,replicate→au,mem_cons→av,length_append→ay,mem_cons_self→aA,append_assoc→aD,length_take→aH,getElem?_map→aM,sublist_cons_self→aX,append_nil→aY,map_append→bk,mem_map→bv,mem_nil_iff→bx,length_map→bC,mem_map_of_mem→bL,length_cons→bO,length_singleton→bP,take_length→bV,mem_append_right→bW,sublist_append_right→cm,length→cv,perm_append_comm_assoc→fT,length_nil→ji,replicate_succ'→qO,nil_sublist→vt,range_succ→xh,perm_append_comm→xm,mem_of_mem_take→yH,range→Bl
open _root_.List.Perm renaming cons→ai,swap→al
open _root_.Nat renaming le_refl→ao,le_trans→aT,min_eq_left→br,zero_le→bA,zero_add→cE
open _root_.List.Sublist renaming refl→ap
open _root_.Option.some renaming inj→bB
set_option maxHeartbeats 4000000
set_option maxRecDepth 20000
set_option linter.unusedSimpArgs false
set_option linter.unusedVariables false
set_option linter.unusedSectionVars false
theorem xy (p:Pa) (w:World) (h:p.rd 0 w.heap.size w) (hok:p.a.ok):dd aa yw [p.v] w fun v w2=> ∃ p':Pa,v=p'.v/\p'.a=p.a/\eo w w2 p':=
 (zL p w h hok).mono fun _ _ ⟨p',_,_,_,_,_,_,h1,h2,h3⟩=>⟨p',h1,h2,h3.new⟩
def OC (wt:Int):Co:=⟨0,1,wt,[],none,0⟩
def NK (wt:Int):Gr:=⟨0,wt,0,[],none,0,[],none,0⟩
theorem OB (wt:Int) (lo hi:Nat) (w:World):(OC wt).rd lo hi w:=⟨Rd.nil,by simp[OC],by simp[OC],by simp[OC],by simp[OC]⟩
theorem Ot (wt:Int) (lo hi:Nat) (w:World):(NK wt).rd lo hi w:=⟨Rd.nil,by simp[NK],Rd.nil,by simp[NK],by simp[NK],by simp[NK],by simp[NK]⟩
structure QL (w00 w0 w:World) (b:Bk) (gP:Nat) (uP:Array Value) (F:List ci):Prop where
 pA:b.pA=some ⟨gP,0,none⟩
 row:dU Bh b.ps b.pC uP
 sns:b.sns=[]/\b.snA=none/\b.snC=0
 co:xi w00 b.clo b.chi b.co∈F
 gr:JS w00 b.glo b.ghi b.gr∈F
 ps: ∀ q∈b.ps,tk w00 q.lo q.hi q.p∈F
 lo: ∀ f∈F,w0.heap.size<=f.lo
 H:Hp w0 w [(gP,.cells uP bz (0,0))] F
theorem J3 {np nr few:Nat} {wt:Int} (w00 w:World) (h00:w00.heap.size<=w.heap.size) (q1:1<=np) (q4:np<=4) (n1:1<=nr) (n5:nr<=5) (f1:1<=few) (f2:few<=nr) (t1:1<=wt) (t2:wt<=1000):dd aa Am [.agg #[J (np:Nat),J (nr:Nat),J (few:Nat),J wt]] w fun v w2=> ∃ (b:Bk) (gP:Nat) (uP:Array Value) (F:List ci),v=.tuple #[.agg b.c.toArray,J 0]/\b.a=sm np nr few wt/\QL w00 w w2 b gP uP F:=by
 refine aE yS Z Z ?_
 have H:=Hp.start w
 show CW _ _ _ _ (args [.agg #[J (np:Nat),J (nr:Nat),J (few:Nat),J wt]]) w
 refine W<|Zr<|fS H Z Z fun w1 b1 H=>eC H nN Z fun w2 b2 H=>G (Wi Z)<|U<|W<|W<|Zr<|G (Zf p9 Z)<|G (Zd aj H 1 Z Z Z)<|G (cY Z Z I)<|G (Yb Z)<|ZG<|G (Zf p9 Z)<|ZG<|G (Zd aj H 1 Z Z Z)<|ZG<|G (er Z Z I)<|G (N Z Z)<|U<|ZF Z<|Zk<|W<|Zr<|G (Zf lF Z)<|G (Zd aj H 1 Z Z Z)<|G (Zf Ha Z)<|G (Zd aj H 1 Z Z Z)<|cd FW (MK nr few _ n1 n5 f1 f2) Z Z ?_
 have hlo4:=H.size
 rintro _ w3 ⟨p4,rfl,hap4,hnp4⟩;replace H:=H.learn hnp4.2 (tk w00 w2.heap.size w3.heap.size p4) ⟨(aT h00 H.size),hnp4.1⟩ (ao _) (ao _);clear hnp4
 refine G (Yu Z)<|G (Xa Z Z)<|G (Xi Z Z)<|eC H bo Z fun w4 b4 H=>bl H 0 (#[J (p4.epoch),J (p4.leader),.slice p4.iA p4.isr.length p4.iC,.slice p4.kA p4.known.length p4.kC,.slice p4.rA p4.reps.length p4.rC,J (p4.few),J (p4.base)]) aL Z Z Z Z Z N N fun w5 H=>G (Wi Z)<|U<|W<|W<|Zr<|G (Yi Z)<|G (bX Z Z (by decide))<|U<|ZF Z<|Zk<|W<|Zr<|G (Zf AE Z)<|G (Zd aj H 2 Z Z Z)<|cd Ea (FR wt _ t1 t2) Z Z ?_
 rintro _ w6 ⟨rfl,hb⟩;replace H:=H.later hb;clear hb
 refine G (Yu Z)<|G (Xa Z Z)<|G (Xi Z Z)<|eC H cK Z fun w7 b6 H=>bl H 0 (#[J (0),J (1),J (wt),.slice none 0 0]) aF Z Z Z Z Z N N fun w8 H=>G (Wi Z)<|U<|W<|W<|Zr<|G (Yi Z)<|G (bX Z Z (by decide))<|U<|ZF Z<|Zk<|W<|Zr<|G (Zf AE Z)<|G (Zd aj H 3 Z Z Z)<|cd D8 (Ng wt _ t1 t2) Z Z ?_
 rintro _ w9 ⟨rfl,hb⟩;replace H:=H.later hb;clear hb
 refine G (Yu Z)<|G (Xa Z Z)<|G (Xi Z Z)<|eC H dZ Z fun w10 b7 H=>bl H 0 (#[J (0),J (wt),J (0),.slice none 0 0,.slice none 0 0]) bF Z Z Z Z Z N N fun w11 H=>G (Wi Z)<|U<|W<|Zr<|G (Zw ax H 1 Z Z Z)<|G (Zw aR H 0 Z Z Z)<|G (bj (cs:= #[.slice none 0 0,J (0),J (1),J (wt),.slice none 0 0,J (0),J (wt),J (0),.slice none 0 0,.slice none 0 0,.slice none 0 0]) Ki nN N)<|eC H nN Z fun w12 b8 H=>bl H 0 (#[.slice none 0 0,J (0),J (1),J (wt),.slice none 0 0,J (0),J (wt),J (0),.slice none 0 0,.slice none 0 0,.slice none 0 0]) kF Z Z Z Z Z N N fun w13 H=>U<|W<|W<|Zr<|G (Zf p9 Z)<|G (Zd aj H 5 Z Z Z)<|G (Yi Z)<|U<|Zb ?_
 refine cf (τ:=Nat×List Pq×Option Addr×Nat×List (Nat×Obj)×List ci) [51,52,53,54,55,56,57,58,59,60] (fun(i,_)=>[(51,J (i:Nat))]) (fun(i,qs,A,c,Lq,F') w'=>i<=np/\qs.map (fun q=>q.p.a)=au i (nf nr few)/\gi Bh (.slice A qs.length c) bz qs Lq/\(∀ q∈qs,tk w00 q.lo q.hi q.p∈F')/\(∀ f∈F',w.heap.size<=f.lo)/\(∃ lo hi,tk w00 lo hi p4∈F')/\Hp w w' ((b8,.cells #[.slice A qs.length c,J (0),J (1),J (wt),.slice none 0 0,J (0),J (wt),J (0),.slice none 0 0,.slice none 0 0,.slice none 0 0] jY (0,0))::(b7,.cells #[J (0),J (wt),J (0),.slice none 0 0,.slice none 0 0] cM (0,0))::(b6,.cells #[J (0),J (1),J (wt),.slice none 0 0] bf (0,0))::(b4,.cells #[J (p4.epoch),J (p4.leader),.slice p4.iA p4.isr.length p4.iC,.slice p4.kA p4.known.length p4.kC,.slice p4.rA p4.reps.length p4.rC,J (p4.few),J (p4.base)] bz (0,0))::(b2,.cells #[.slice none 0 0,J (0),J (0),J (0),.slice none 0 0,J (0),J (0),J (0),.slice none 0 0,.slice none 0 0,.slice none 0 0] jY (0,0))::(b1,.cells #[J (((np:Nat):Int)),J (((nr:Nat):Int)),J (((few:Nat):Int)),J (wt)] iu (0,0))::(Lq++[])) F') (fun(i,_)=>np-i) (0,[],none,0,[],_) ⟨bA _,rfl,gi.nil,by simp,fun f hf=>(by rw[aq.1 hf];exact hlo4),⟨_,_,aA ..⟩,H⟩ (dF Z) ?_
 rintro⟨i,qs,A,c,Lq,F'⟩ ρ1 w14 ⟨hi,hqa,ho,hqs,hFl,⟨lo4,hi4,hp4⟩,H⟩
 show CW _ _ _ _ (dv (gk _ _ ρ1) [(51,J (i:Nat))]) w14
 have hql:qs.length=i:=by have:=congrArg cv hqa;simpa using this
 refine W<|Zr ?_
 refine cR (cG Z Z) Z Z Z (fun h52=> ?_) (fun h52=> ?_)
 refine U<|W<|ZT Z<|Zk<|W ?_
 refine eu (τ:=List Pq×Option Addr×Nat×List (Nat×Obj)×List ci) [53,54,55,56,57,58,59] (fun _=>[]) (fun(q9,A9,c9,L9,F9) w'=>q9.map (fun q=>q.p.a)=au (i+1) (nf nr few)/\gi Bh (.slice A9 q9.length c9) bz q9 L9/\(∀ q∈q9,tk w00 q.lo q.hi q.p∈F9)/\(∀ f∈F9,w.heap.size<=f.lo)/\(∃ lo hi,tk w00 lo hi p4∈F9)/\Hp w w' ((b8,.cells #[.slice A9 q9.length c9,J (0),J (1),J (wt),.slice none 0 0,J (0),J (wt),J (0),.slice none 0 0,.slice none 0 0,.slice none 0 0] jY (0,0))::(b7,.cells #[J (0),J (wt),J (0),.slice none 0 0,.slice none 0 0] cM (0,0))::(b6,.cells #[J (0),J (1),J (wt),.slice none 0 0] bf (0,0))::(b4,.cells #[J (p4.epoch),J (p4.leader),.slice p4.iA p4.isr.length p4.iC,.slice p4.kA p4.known.length p4.kC,.slice p4.rA p4.reps.length p4.rC,J (p4.few),J (p4.base)] bz (0,0))::(b2,.cells #[.slice none 0 0,J (0),J (0),J (0),.slice none 0 0,J (0),J (0),J (0),.slice none 0 0,.slice none 0 0,.slice none 0 0] jY (0,0))::(b1,.cells #[J (((np:Nat):Int)),J (((nr:Nat):Int)),J (((few:Nat):Int)),J (wt)] iu (0,0))::(L9++[])) F9) ?_ ?_
 refine Zb ?_
 refine qI bZ [0] [1,2,3,4,5,6,7] [0] 7 N N N Nq ?_
 refine aw Z Z Z Z Z (fun w' hw'=>Zf dC Z)<|aU ?_
 intro w15 hw';replace H:=H.later hw';clear hw'
 refine tj 1 2 N Z Z ?_ ?_
 refine G (Zd d4 H 0 Z Z Z)<|U<|da 2 N Z<|G (Zw aG H 3 Z Z Z)<|U<|da 3 N Z<|cd mI (xy p4 _ (Hp.paM H hp4) (hap4▸(Dn (Φ:=fun _=>True) n1 n5 f1 f2).ok)) Z Z ?_
 have hlo2:=H.size
 rintro _ w16 ⟨p2,rfl,hap2,hnp2⟩;replace H:=H.learn hnp2.2 (tk w00 w15.heap.size w16.heap.size p2) ⟨(aT h00 H.size),hnp2.1⟩ (ao _) (ao _);clear hnp2
 refine U<|da 4 N Z<|sY (vs:=[.agg #[J (p2.epoch),J (p2.leader),.slice p2.iA p2.isr.length p2.iC,.slice p2.kA p2.known.length p2.kC,.slice p2.rA p2.reps.length p2.rC,J (p2.few),J (p2.base)]]) H gU bo Z Z Z Z Z Z fun w17 b57 H=>U<|da 5 N Z<|vU (Y:=Bh) xe (K:=[(b57,_),(b8,_),(b7,_),(b6,_),(b4,_),(b2,_),(b1,_)]) (L:=Lq) (M:=[]) H ho (es:=qs) (news:=[⟨p2,w15.heap.size,w16.heap.size⟩]) Z Z Z (vY.row (m:=1) (sz:=Bh.sz) (H.ent (i:=0) Z) Z) (by simp only[bP];omega) Z ?_
 intro A5 c5 w18 L5 h5 h5m ho5 H
 refine U<|da 6 N Z<|G (Zf dC Z)<|U<|da 7 N Z<|bl H 1 (#[.slice A5 ((qs++[(⟨p2,w15.heap.size,w16.heap.size⟩:Pq)]).length) c5,J (0),J (1),J (wt),.slice none 0 0,J (0),J (wt),J (0),.slice none 0 0,.slice none 0 0,.slice none 0 0]) ui Z Z Z Z Z N N fun w19 H=>U<|cz N ?_
 exact⟨(qs++[(⟨p2,w15.heap.size,w16.heap.size⟩:Pq)],A5,c5,L5,tk w00 w15.heap.size w16.heap.size p2::F'),⟨by rw[bk,hqa,qO];show _++[p2.a]=_;rw[hap2,hap4],ho5,fun q hq=>(by rcases ar.1 hq with hq|hq;exact ak _ (hqs q hq);rw[aq.1 hq];exact aA ..),fun f hf=>(by rcases av.1 hf with rfl|hf;exact hlo2;exact hFl f hf),⟨lo4,hi4,ak _ hp4⟩,H.forget (.cons _ (ap _)) (fun _ h=>h)⟩,vX,Qg⟩
 refine G (Zw aG H 3 Z Z Z)<|U ?_
 refine tj 1 3 N Z Z ?_ ?_
 refine G (Zd d4 H 0 Z Z Z)<|U<|da 3 N Z<|cd mI (xy p4 _ (Hp.paM H hp4) (hap4▸(Dn (Φ:=fun _=>True) n1 n5 f1 f2).ok)) Z Z ?_
 have hlo2:=H.size
 rintro _ w20 ⟨p2,rfl,hap2,hnp2⟩;replace H:=H.learn hnp2.2 (tk w00 w15.heap.size w20.heap.size p2) ⟨(aT h00 H.size),hnp2.1⟩ (ao _) (ao _);clear hnp2
 refine U<|da 4 N Z<|sY (vs:=[.agg #[J (p2.epoch),J (p2.leader),.slice p2.iA p2.isr.length p2.iC,.slice p2.kA p2.known.length p2.kC,.slice p2.rA p2.reps.length p2.rC,J (p2.few),J (p2.base)]]) H gU bo Z Z Z Z Z Z fun w21 b57 H=>U<|da 5 N Z<|vU (Y:=Bh) xe (K:=[(b57,_),(b8,_),(b7,_),(b6,_),(b4,_),(b2,_),(b1,_)]) (L:=Lq) (M:=[]) H ho (es:=qs) (news:=[⟨p2,w15.heap.size,w20.heap.size⟩]) Z Z Z (vY.row (m:=1) (sz:=Bh.sz) (H.ent (i:=0) Z) Z) (by simp only[bP];omega) Z ?_
 intro A5 c5 w22 L5 h5 h5m ho5 H
 refine U<|da 6 N Z<|G (Zf dC Z)<|U<|da 7 N Z<|bl H 1 (#[.slice A5 ((qs++[(⟨p2,w15.heap.size,w20.heap.size⟩:Pq)]).length) c5,J (0),J (1),J (wt),.slice none 0 0,J (0),J (wt),J (0),.slice none 0 0,.slice none 0 0,.slice none 0 0]) ui Z Z Z Z Z N N fun w23 H=>U<|cz N ?_
 exact⟨(qs++[(⟨p2,w15.heap.size,w20.heap.size⟩:Pq)],A5,c5,L5,tk w00 w15.heap.size w20.heap.size p2::F'),⟨by rw[bk,hqa,qO];show _++[p2.a]=_;rw[hap2,hap4],ho5,fun q hq=>(by rcases ar.1 hq with hq|hq;exact ak _ (hqs q hq);rw[aq.1 hq];exact aA ..),fun f hf=>(by rcases av.1 hf with rfl|hf;exact hlo2;exact hFl f hf),⟨lo4,hi4,ak _ hp4⟩,H.forget (.cons _ (ap _)) (fun _ h=>h)⟩,vX,Qg⟩
 refine cd mI (xy p4 _ (Hp.paM H hp4) (hap4▸(Dn (Φ:=fun _=>True) n1 n5 f1 f2).ok)) Z Z ?_
 have hlo2:=H.size
 rintro _ w24 ⟨p2,rfl,hap2,hnp2⟩;replace H:=H.learn hnp2.2 (tk w00 w15.heap.size w24.heap.size p2) ⟨(aT h00 H.size),hnp2.1⟩ (ao _) (ao _);clear hnp2
 refine U ?_
 refine tj 1 4 N Z Z ?_ ?_
 refine G (Zd d4 H 0 Z Z Z)<|U<|da 4 N Z<|sY (vs:=[.agg #[J (p2.epoch),J (p2.leader),.slice p2.iA p2.isr.length p2.iC,.slice p2.kA p2.known.length p2.kC,.slice p2.rA p2.reps.length p2.rC,J (p2.few),J (p2.base)]]) H gU bo Z Z Z Z Z Z fun w25 b57 H=>U<|da 5 N Z<|vU (Y:=Bh) xe (K:=[(b57,_),(b8,_),(b7,_),(b6,_),(b4,_),(b2,_),(b1,_)]) (L:=Lq) (M:=[]) H ho (es:=qs) (news:=[⟨p2,w15.heap.size,w24.heap.size⟩]) Z Z Z (vY.row (m:=1) (sz:=Bh.sz) (H.ent (i:=0) Z) Z) (by simp only[bP];omega) Z ?_
 intro A5 c5 w26 L5 h5 h5m ho5 H
 refine U<|da 6 N Z<|G (Zf dC Z)<|U<|da 7 N Z<|bl H 1 (#[.slice A5 ((qs++[(⟨p2,w15.heap.size,w24.heap.size⟩:Pq)]).length) c5,J (0),J (1),J (wt),.slice none 0 0,J (0),J (wt),J (0),.slice none 0 0,.slice none 0 0,.slice none 0 0]) ui Z Z Z Z Z N N fun w27 H=>U<|cz N ?_
 exact⟨(qs++[(⟨p2,w15.heap.size,w24.heap.size⟩:Pq)],A5,c5,L5,tk w00 w15.heap.size w24.heap.size p2::F'),⟨by rw[bk,hqa,qO];show _++[p2.a]=_;rw[hap2,hap4],ho5,fun q hq=>(by rcases ar.1 hq with hq|hq;exact ak _ (hqs q hq);rw[aq.1 hq];exact aA ..),fun f hf=>(by rcases av.1 hf with rfl|hf;exact hlo2;exact hFl f hf),⟨lo4,hi4,ak _ hp4⟩,H.forget (.cons _ (ap _)) (fun _ h=>h)⟩,vX,Qg⟩
 refine sY (vs:=[.agg #[J (p2.epoch),J (p2.leader),.slice p2.iA p2.isr.length p2.iC,.slice p2.kA p2.known.length p2.kC,.slice p2.rA p2.reps.length p2.rC,J (p2.few),J (p2.base)]]) H gU bo Z Z Z Z Z Z fun w28 b57 H=>U<|da 1 N Z<|G (Zd d4 H 1 Z Z Z)<|U<|da 5 N Z<|vU (Y:=Bh) xe (K:=[(b57,_),(b8,_),(b7,_),(b6,_),(b4,_),(b2,_),(b1,_)]) (L:=Lq) (M:=[]) H ho (es:=qs) (news:=[⟨p2,w15.heap.size,w24.heap.size⟩]) Z Z Z (vY.row (m:=1) (sz:=Bh.sz) (H.ent (i:=0) Z) Z) (by simp only[bP];omega) Z ?_
 intro A5 c5 w29 L5 h5 h5m ho5 H
 refine U<|da 6 N Z<|G (Zf dC Z)<|U<|da 7 N Z<|bl H 1 (#[.slice A5 ((qs++[(⟨p2,w15.heap.size,w24.heap.size⟩:Pq)]).length) c5,J (0),J (1),J (wt),.slice none 0 0,J (0),J (wt),J (0),.slice none 0 0,.slice none 0 0,.slice none 0 0]) ui Z Z Z Z Z N N fun w30 H=>U<|cz N ?_
 exact⟨(qs++[(⟨p2,w15.heap.size,w24.heap.size⟩:Pq)],A5,c5,L5,tk w00 w15.heap.size w24.heap.size p2::F'),⟨by rw[bk,hqa,qO];show _++[p2.a]=_;rw[hap2,hap4],ho5,fun q hq=>(by rcases ar.1 hq with hq|hq;exact ak _ (hqs q hq);rw[aq.1 hq];exact aA ..),fun f hf=>(by rcases av.1 hf with rfl|hf;exact hlo2;exact hFl f hf),⟨lo4,hi4,ak _ hp4⟩,H.forget (.cons _ (ap _)) (fun _ h=>h)⟩,vX,Qg⟩
 rintro⟨q9,A9,c9,L9,F9⟩ ρ1 w31 H9
 show CW _ _ _ _ (dv (gk _ _ ρ1) []) w31
 refine Zr<|G (bp Z Z I I)<|G (Yi Z)<|U ?_
 exact⟨(i+1,q9,A9,c9,L9,F9),⟨by omega,H9⟩,dF Z,Qg,by show np- (i+1)<np-i;omega⟩
 refine U<|W<|ZF Z<|Zx<|W<|Zr<|G (Zw nI H 0 Z Z Z)<|G (Yi Z)<|bl H 4 (#[.slice A qs.length c,J (0),J (1),J (wt),.slice none 0 0,J (0),J (wt),J (0),.slice none 0 0,.slice none 0 0,.slice none 0 0]) kF Z Z Z Z Z N N fun w32 H=>G (Wi Z)<|U<|Zt ?_
 obtain rfl:i=np:=by omega
 obtain⟨gP,uP,rfl,rfl,row⟩:=ho.row I
 have H7:=((H.forget (L':=[(gP,_)]) ((.cons _ (.cons _ (.cons _ (.cons _ (.cons _ (.cons _ (ap _)))))))) (fun _ h=>h)).learnOld (xi w00 w.heap.size w.heap.size (OC wt)) ⟨h00,OB ..⟩ (ao _)).learnOld (JS w00 w.heap.size w.heap.size (NK wt)) ⟨h00,Ot ..⟩ (ao _)
 exact bG (cs0:= #[.slice (Qd gP) qs.length c,J (0),J (1),J (wt),.slice none 0 0,J (0),J (wt),J (0),.slice none 0 0,.slice none 0 0,.slice none 0 0]) (v1:=J 0) Z nI Z (H.ent (i:=4) Z) Z Z ⟨⟨qs,some ⟨gP,0,none⟩,c,OC wt,w.heap.size,w.heap.size,NK wt,w.heap.size,w.heap.size,[],none,0⟩,gP,uP,_,rfl,by unfold Bk.a sm;rw[hqa];rfl,⟨rfl,row,⟨rfl,rfl,rfl⟩,ak _ (aA ..),aA ..,fun q hq=>ak _ (ak _ (hqs q hq)),fun f hf=>(by rcases av.1 hf with rfl|hf;exact ao _;rcases av.1 hf with rfl|hf;exact ao _;exact hFl f hf),H7⟩⟩
theorem yV (es:List ByteArray) (A:Option Addr) (c:Nat) (w:World) (hr:Rd m8 0 w.heap.size A es w) (hb:es.length*16<=140737488355328):
  dd aa jk [.slice A es.length c] w fun v w2=> ∃ A' c' L',v=.slice A' es.length c'/\es.length<=c'/\c'<=maxLen/\gi m8 (.slice A' es.length c') kD es L'/\Hp w w2 L' []:=by
 refine aE nu Z Z ?_
 have H:=Hp.startRd hr
 refine W<|Zr<|G (Ws Z)<|U<|W<|W<|Zr<|G (Ys Z) ?_
 refine wu (qA lM Z) Z Z Z (fun h4=> ?_) (fun h4=> ?_)
 refine U<|ZT Z<|W<|Zr<|G (Ws Z)<|U<|Zt ?_
 have he:es=[]:=by
  cases es with
  |nil=>rfl
  |cons e es=>obtain⟨b,o,hA,_⟩:=hr (by simp);subst hA;cases h4
 subst he
 exact cF Z Z ⟨none,0,[],rfl,by simp,by decide,gi.nil,H.forget (by simp) (by simp)⟩
 refine U<|ZF Z<|Zk<|W<|Zr<|NP H ig Z fun w1 b5 H=>G (Ys Z)<|vU (Y:=m8) vS (K:=[]) (L:=[(b5,_)]) (M:=[]) H (rU.lit (by decide) (by rfl)) (es:=[]) (news:=es) Z Z Z (Rd.src (H.fact (i:=0) Z)) (by simpa using hb) Z ?_
 intro A3 c3 w3 L3 h3a h3b ho3 H
 refine G (Ws Z)<|U<|Zt ?_
 exact cF Z Z ⟨A3,c3,L3,rfl,h3a,h3b,ho3,H.forget (by simp) (by simp)⟩
theorem yU (es:List ByteArray) (A:Option Addr) (c:Nat) (w:World) (hr:Rd m8 0 w.heap.size A es w) (hb:es.length*16<=140737488355328):
  dd aa jk [.slice A es.length c] w fun v w2=> ∃ A' c',v=.slice A' es.length c'/\es.length<=c'/\Rd m8 w.heap.size w2.heap.size A' es w2/\Below w.heap.size w w2:=
 (yV es A c w hr hb).mono fun v w2 ⟨A',c',L',h1,h2,_,h4,h5⟩=>⟨A',c',h1,h2,h4.rd (K:=[]) (M:=[]) (by simpa using h5),h5.below⟩
structure Aq where
 x:An
 A:Option Addr
 c:Nat
def PD:fj Aq:=⟨fun q=>[J q.x.code,J q.x.n,.slice q.A q.x.texts.length q.c],3,fun _=>rfl,by decide,fun a u hu=>by
 simp only[av,bx,or_false]at hu
 rcases hu with h|h|h<;>subst h<;>rfl⟩
structure Rn where
 xs:List Aq
 oA:Option Addr
 oC:Nat
 b:Bk
def Rn.v (r:Rn):Value:=.tuple #[.slice r.oA r.xs.length r.oC,.agg r.b.c.toArray,J 0]
structure Rn.rd (r:Rn) (lo hi:Nat) (w:World):Prop where
 xs:Rd PD lo hi r.oA r.xs w
 oC:r.xs.length<=r.oC
 tx: ∀ x∈r.xs,Rd m8 lo hi x.A x.x.texts w/\x.x.texts.length<=x.c
 ps:Rd Bh lo hi r.b.pA r.b.ps w
 pC:r.b.ps.length<=r.b.pC
 pa: ∀ q∈r.b.ps,q.p.rd lo hi w
 co:r.b.co.rd lo hi w
 gr:r.b.gr.rd lo hi w
theorem Rn.rd.st {r:Rn} {lo hi:Nat} {w w':World} (hk: ∀ k,lo<=k->k<hi->w'.heap[k]? =w.heap[k]?) (h:r.rd lo hi w):r.rd lo hi w':=⟨h.xs.st hk,h.oC,fun x hx=>⟨(h.tx x hx).1.st hk,(h.tx x hx).2⟩,h.ps.st hk,h.pC,fun q hq=>(h.pa q hq).st hk,h.co.st hk,h.gr.st hk⟩
theorem Rn.rd.mono {r:Rn} {lo hi lo' hi':Nat} {w:World} (h:r.rd lo hi w) (h1:lo'<=lo) (h2:hi<=hi'):r.rd lo' hi' w:=⟨h.xs.mono h1 h2,h.oC,fun x hx=>⟨(h.tx x hx).1.mono h1 h2,(h.tx x hx).2⟩,h.ps.mono h1 h2,h.pC,fun q hq=>Pa.rd.mono (h.pa q hq) h1 h2,Co.rd.mono h.co h1 h2,Gr.rd.mono h.gr h1 h2⟩
theorem Hp.rdM {α:Type} {Y:fj α} {w0 w:World} {L:List (Nat×Obj)} {F:List ci} {lo hi:Nat} {A:Option Addr} {es:List α} (H:Hp w0 w L F) (h:dG Y lo hi A es∈F):Rd Y 0 w.heap.size A es w:=by
 obtain⟨h1,h2,-⟩:=H.facts _ h
 exact Rd.mono h1 (bA _) h2
theorem Bw.into2 {w0 w w2:World} {bb gP:Nat} {b:Bk} {uP:Array Value} {Ls Lo K:List (Nat×Obj)} {F F2:List ci} (B:Bw w0 w bb b gP uP Ls Lo K F) (X:List (Nat×Obj)) (H:Hp w0 w2 (X++((bb,.cells b.c.toArray bK (0,0))::(gP,.cells uP bz (0,0))::(Ls++(Lo++K)))) F2) (hF: ∀ f∈F,f∈F2):Bw w0 w2 bb b gP uP Ls Lo (X++K) F2:=
 ⟨B.pA,B.row,B.sn,B.own,hF _ B.co,hF _ B.gr,fun q hq=>hF _ (B.ps q hq),H.perm (Ol [(bb,_),(gP,_)] Ls Lo X K)⟩
theorem Pb (A Ls Lo oL K:List (Nat×Obj)):(A++(oL++(Ls++(Lo++K)))).Perm (A++(Ls++(Lo++(oL++K)))):=by
 refine List.Perm.append_left A ?_
 rw[show Ls++(Lo++(oL++K))=(Ls++Lo)++(oL++K) by simp,show Ls++(Lo++K)=(Ls++Lo)++K by simp]
 exact fT oL (Ls++Lo) K
structure OL (w0 w:World) (W0:Wa) (acts:List Act) (A0:Option Addr) (bb:Nat) (K:List (Nat×Obj)) (i:Nat) (b:Bk) (xs:List Aq) (gP:Nat) (uP:Array Value) (Ls Lo:List (Nat×Obj)) (oA:Option Addr) (oC:Nat) (oL:List (Nat×Obj)) (F:List ci):Prop where
 le:i<=acts.length
 run:nL W0 (acts.take i) (xs.map Aq.x) b.a
 B:Bw w0 w bb b gP uP Ls Lo (oL++K) F
 own:gi PD (.slice oA xs.length oC) d9 xs oL
 tx: ∀ x∈xs,x.x.texts.length<=x.c/\ ∃ lo hi,w0.heap.size<=lo/\dG m8 lo hi x.A x.x.texts∈F
 ac:dG tg 0 w0.heap.size A0 acts∈F
theorem PT (bb gP:Nat×Obj) (Ls Lo oL K:List (Nat×Obj)):(bb::(K++(gP::(Ls++(Lo++oL))))).Perm (bb::gP::(Ls++(Lo++(oL++K)))):=by
 rw[show Ls++(Lo++(oL++K))=(Ls++(Lo++oL))++K by simp]
 refine ai _ ?_
 exact(xm (l₁:=K) (l₂:=gP::(Ls++(Lo++oL))))
theorem OL.rd {w0 w w2:World} {W0:Wa} {acts:List Act} {A0:Option Addr} {bb:Nat} {K:List (Nat×Obj)} {i:Nat} {b:Bk} {xs:List Aq} {gP:Nat} {uP:Array Value} {Ls Lo:List (Nat×Obj)} {oA:Option Addr} {oC:Nat} {oL:List (Nat×Obj)} {F F2:List ci} (Ii:OL w0 w W0 acts A0 bb K i b xs gP uP Ls Lo oA oC oL F) (X:List (Nat×Obj)) (H:Hp w0 w2 (X++((gP,.cells uP bz (0,0))::(Ls++(Lo++oL)))) F2) (hF: ∀ f∈F,f∈F2):(Rn.mk xs oA oC b).rd w0.heap.size w2.heap.size w2:=by
 have H1:=H.forget (L':=oL) (((cm Lo oL).trans (cm Ls _)).trans ((aX _ _).trans (cm X _))) (fun _ h=>h)
 have H2:=H.forget (L':=[(gP,.cells uP bz (0,0))]) (((List.cons_sublist_cons.2 (vt _))).trans (cm X _)) (fun _ h=>h)
 obtain⟨A,c,e1,e2,-⟩:=Ii.own.form
 cases e1
 have hg:=H2.ge (i:=0) Z
 have hl:=H2.lt (i:=0) Z
 refine⟨Ii.own.rd (K:=[]) (M:=[]) (by simpa using H1),e2,fun x hx=> ?_,?_,Ii.B.row.le,fun q hq=> ?_,?_,?_⟩
 obtain⟨z1,lo,hi,z2,z3⟩:=Ii.tx x hx
 obtain⟨h1,h2,-⟩:=H.facts _ (hF _ z3)
 exact⟨Rd.mono h1 z2 h2,z1⟩
 have:=(Ii.B.row.rd (H2.ent (i:=0) Z)).mono hg (Nat.succ_le_of_lt hl)
 rw[<-Ii.B.pA]at this
 exact this
 obtain⟨h1,h2,-⟩:=H.facts _ (hF _ (Ii.B.ps q hq))
 exact Pa.rd.mono h1.2 h1.1 h2
 obtain⟨h1,h2,-⟩:=H.facts _ (hF _ Ii.B.co)
 exact Co.rd.mono h1.2 h1.1 h2
 obtain⟨h1,h2,-⟩:=H.facts _ (hF _ Ii.B.gr)
 exact Gr.rd.mono h1.2 h1.1 h2
theorem IN {es:List cH} {n st a most b:Nat} {out:List ByteArray} (h:Bc es n st a most out b):out.length<=most:=h.2.2.2.1
theorem Hu {w:Wa} {a:Act} {w':Wa} {x:An} (h:Em w a w' x) (hn:a.kind=19->a.n<=20) (h17:1<=a.kind):x.texts.length<=20:=by
 cases h with
 |poll x h1 h2=>
  cases h2 with
  |no=>exact bA _
  |yes p x h3 h4 h5=>
   cases h5 with
   |none=>exact bA _
   |range=>exact bA _
   |ok l r st out b g1 g2 g3 g4 g5=>have:=IN g5;have:=hn h1;show out.length<=20;omega
 |other h1=>
  have:(xg w a).2.texts=[]:=by
   obtain⟨a1,a2,a3,a4,a5,a6,a7,a8⟩:=pJ a w
   rcases Classical.em (a.kind=1)with h|h
   rw[a1 h];exact yt ..
   rcases Classical.em (a.kind=2)with h|h
   rw[a2 h];exact xb ..
   rcases Classical.em (a.kind=3∨a.kind=4)with h|h
   rw[a3 h];exact yg ..
   rcases Classical.em (a.kind=5)with h|h
   rw[a4 h];exact vg ..
   rcases Classical.em (a.kind=6)with h|h
   rw[a5 h];exact yo ..
   rcases Classical.em (a.kind=7)with h|h
   rw[a6 h];rfl
   rcases Classical.em (8<=a.kind/\a.kind<=15)with h|h
   rw[a7 h];exact yj ..
   rw[a8 I];exact zW ..
  rw[this];exact bA _
theorem N6 {np nr few:Nat} {wt:Int} {acts:List Act} {A0:Option Addr} {c0:Nat} (w:World) (q1:1<=np) (q4:np<=4) (n1:1<=nr) (n5:nr<=5) (f1:1<=few) (f2:few<=nr) (t1:1<=wt) (t2:wt<=1000) (hr:Rd tg 0 w.heap.size A0 acts w) (hl:acts.length<=400) (hg: ∀ a∈acts,ue np nr a):dd aa DH [.agg #[J (np:Nat),J (nr:Nat),J (few:Nat),J wt],.slice A0 acts.length c0] w fun v w2=> ∃ r:Rn,v=r.v/\nL (sm np nr few wt) acts (r.xs.map Aq.x) r.b.a/\r.rd w.heap.size w2.heap.size w2/\Below w.heap.size w w2:=by
 refine aE BT Z Z ?_
 have H:=Hp.startRd hr
 show CW _ _ _ _ (args [.agg #[J (np:Nat),J (nr:Nat),J (few:Nat),J wt],.slice A0 acts.length c0]) w
 refine W<|Zr<|fS H Z Z fun w1 b2 H=>G (Ws Z)<|eC H nN Z fun w2 b5 H=>G (Wi Z)<|U<|W<|Zr<|G (Zw rR H 1 Z Z Z)<|cd y0 (J3 w _ H.size q1 q4 n1 n5 f1 f2 t1 t2) Z Z ?_
 rintro _ w3 ⟨⟨ps,pA,pC,co,clo,chi,gr,glo,ghi,sns,snA,snC⟩,gP,uP,F1,rfl,hba,⟨hpA,row,⟨hs1,hs2,hs3⟩,hco,hgr,hps,hlo1,H1⟩⟩
 dsimp only at hpA row hs1 hs2 hs3 hco hgr hps
 subst hpA;subst hs1;subst hs2;subst hs3
 replace H:=H.joinF H1 hlo1;clear H1
 refine G (Yu Z)<|G (Xa Z Z)<|G (Xi Z Z)<|eC H nN Z fun w4 b7 H=>bl H 0 (#[.slice (Qd gP) ps.length pC,J (co.clock),J (co.next),J (co.wait),.slice co.A co.txs.length co.cap,J (gr.clock),J (gr.wait),J (gr.gen),.slice gr.mA gr.ms.length gr.mC,.slice gr.oA gr.os.length gr.oC,.slice none (([]:List Sn).length) 0]) kF Z Z Z Z Z N N fun w5 H=>G (Wi Z)<|U<|W<|W<|Zr<|G (Yi Z)<|G (bX Z Z (by decide))<|U<|ZF Z<|Zk<|W<|W<|Zr<|G (Ys Z)<|G (bn z5 Z)<|G (er Z Z I)<|U<|ZF Z<|Zk<|W<|Zr<|G (Zw nI H 0 Z Z Z)<|G (bj (cs:= #[.slice (Qd gP) ps.length pC,J (co.clock),J (co.next),J (co.wait),.slice co.A co.txs.length co.cap,J (gr.clock),J (gr.wait),J (gr.gen),.slice gr.mA gr.ms.length gr.mC,.slice gr.oA gr.os.length gr.oC,.slice none (([]:List Sn).length) 0]) IB JZ N)<|fS H Z Z fun w6 b29 H=>G (Wp Z)<|U<|W<|Zr<|G (Ws Z)<|U<|W<|W<|Zr<|G (Ys Z)<|G (bn z5 Z) ?_
 refine G (Yi Z)<|U<|Zb ?_
 obtain⟨K3,hK3⟩: ∃ l:List (Nat×Obj),([(b7,.cells #[.slice (Qd gP) ps.length pC,J (co.clock),J (co.next),J (co.wait),.slice co.A co.txs.length co.cap,J (gr.clock),J (gr.wait),J (gr.gen),.slice gr.mA gr.ms.length gr.mC,.slice gr.oA gr.os.length gr.oC,.slice none (([]:List Sn).length) 0] jY (0,0)),(b5,.cells #[.slice none 0 0,J (0),J (0),J (0),.slice none 0 0,J (0),J (0),J (0),.slice none 0 0,.slice none 0 0,.slice none 0 0] jY (0,0)),(b2,.cells #[J (((np:Nat):Int)),J (((nr:Nat):Int)),J (((few:Nat):Int)),J (wt)] iu (0,0))]:List (Nat×Obj))=l:=⟨_,rfl⟩
 refine cf (τ:=Nat×Bk×List Aq×Nat×Array Value×List (Nat×Obj)×List (Nat×Obj)×Option Addr×Nat×List (Nat×Obj)×List ci) [10,12,13,32,33,34,35,36,37,38,39,40,41,42,43,44,45,46,47] (fun(i,_,xs,_,_,_,_,oA,oC,_,_)=>[(32,J (i:Nat)),(10,.slice oA xs.length oC)]) (fun(i,b,xs,gP,uP,Ls,Lo,oA,oC,oL,F') w'=>OL w w' (sm np nr few wt) acts A0 b29 K3 i b xs gP uP Ls Lo oA oC oL F') (fun(i,_)=>acts.length-i) (0,⟨ps,some ⟨gP,0,none⟩,pC,co,clo,chi,gr,glo,ghi,[],none,0⟩,[],gP,uP,[],[],none,0,[],_) (by subst hK3;exact⟨bA _,by rw[hba];exact .nil _,⟨rfl,row,gi.nil,rfl,bW _ hco,bW _ hgr,fun q hq=>bW _ (hps q hq),H.perm (ai _ (al _ _ _))⟩,gi.nil,by simp,aA ..⟩) (kZ Z Z) ?_
 rintro⟨i,b,xs,gP1,uP1,Ls,Lo,oA,oC,oL,F'⟩ ρ1 w7 Ii
 show CW _ _ _ _ (dv (gk _ _ ρ1) [(32,J (i:Nat)),(10,.slice oA xs.length oC)]) w7
 have hile:=Ii.le
 have H:=Ii.B.H.learnOld (dG tg 0 w.heap.size A0 acts) (Ii.B.H.facts _ Ii.ac).1 (ao _)
 have hxl:xs.length=i:=by have:=Ii.run.len;rwa[bC,aH,br hile]at this
 obtain⟨M',-,hwi⟩:=Ks Ii.run (HP n1 n5 f1 f2 t1 t2) (by rw[aH];omega) q4 (fun a ha=>hg a (yH ha))
 rw[cE,aH,br hile]at hwi
 refine W<|Zr ?_
 refine cR (cG Z Z) Z Z Z (fun h33=> ?_) (fun h33=> ?_)
 ·
  refine U<|W<|ZT Z<|Zk<|W<|Zb<|W ?_
  obtain⟨a,ha⟩: ∃ a,acts[i]? =some a:=⟨_,ah I⟩
  refine Zr<|pK H 0 Z wm Z Z I I Z fun bq8 o8 x8 e8=> ?_
  obtain rfl:a=x8:=by have:=e8.at_;rw[ha]at this;exact bB this
  refine G (jd (xs:=Act.c a) dP Z Z e8.cl)<|eC H jD Z fun w9 b12 H=>bl H 0 (#[J (a.kind),.string (a.name),J (a.part),J (a.n),J (a.m),.string (a.text),J (a.lost)]) iK Z Z Z Z Z N N fun w10 H=>U<|W<|Zr<|G (Yp Z)<|G (Zw dP H 0 Z Z Z)<|cd t7 (OK (Ii.B.into2 [(b12,_)] H (fun f hf=>ak _ hf)) hwi I q1 q4 (hg a (ae ha))) Z Z ?_
  rintro _ w11 ⟨b2,x2,A9,c9,lo9,hi9,hA9,rfl,hc9,gP9,uP9,Ls9,Lo9,F9,B9,hF9⟩
  replace H:=B9.out (X:=[(b12,_)])
  refine eC H dn Z fun w12 b13 H=>bl H 0 (#[J (x2.code),J (x2.n),.slice A9 x2.texts.length c9]) aQ Z Z Z Z Z N N fun w13 H=>U<|W<|Zr<|G (Zf yz Z)<|G (Zd jj H 0 Z Z Z)<|cd nE (yU x2.texts A9 c9 _ (Hp.rdM H (hF9 _ (aA ..))) (by have:=Hu hA9 (fun h=>((hg a (ae ha)).poll h).2) (hg a (ae ha)).kind.1;omega)) Z Z ?_
  have hz41:=H.size
  rintro _ w14 ⟨A41,c41,rfl,hc41,hr41,hb41⟩;replace H:=H.learnRd hb41 hr41;clear hr41 hb41
  refine G (Zf yz Z)<|bl H 0 (#[J (x2.code),J (x2.n),.slice A41 x2.texts.length c41]) EF Z Z Z Z Z N N fun w15 H=>U<|Zr<|G (Ys Z)<|G (Zw aP H 0 Z Z Z)<|sY (vs:=[.agg #[J (x2.code),J (x2.n),.slice A41 x2.texts.length c41]]) H Gm dn Z Z Z Z Z Z fun w16 b45 H=> ?_
  replace H:=Hp.perm H (Pb [(b45,_),(b13,_),(b12,_),(b29,_),(gP9,_)] Ls9 Lo9 oL K3)
  refine vU (Y:=PD) Hr (K:=[(b45,_),(b13,_),(b12,_),(b29,_),(gP9,_)]) (L:=oL) (M:=Ls9++(Lo9++K3)) H Ii.own (es:=xs) (news:=[(⟨x2,A41,c41⟩:Aq)]) Z Z Z (vY.row (m:=1) (sz:=PD.sz) (H.ent (i:=0) Z) Z) (by simp only[bP];omega) Z ?_
  intro A5 c5 w17 L5 h5 h5m ho5 H
  replace H:=Hp.perm H (Pb [(b45,_),(b13,_),(b12,_),(b29,_),(gP9,_)] Ls9 Lo9 L5 K3).symm
  refine G (Ws Z)<|U<|Zr<|G (bp Z Z I I)<|G (Yi Z)<|U ?_
  exact⟨(i+1,b2,xs++[(⟨x2,A41,c41⟩:Aq)],gP9,uP9,Ls9,Lo9,A5,c5,L5,_),⟨by omega,by rw[eL ha,bk];exact Ii.run.snoc hA9,Bw.mk B9.pA B9.row B9.sn B9.own (ak _ B9.co) (ak _ B9.gr) (fun q hq=>ak _ (B9.ps q hq)) (H.forget (cm [(b45,_),(b13,_),(b12,_)] _) (fun _ h=>h)),ho5,fun x hx=>(by rcases ar.1 hx with hx|hx;obtain⟨z1,lo,hi,z2,z3⟩:=Ii.tx x hx;exact⟨z1,lo,hi,z2,ak _ (hF9 _ (ak _ (ak _ z3)))⟩;rw[aq.1 hx];exact⟨hc41,_,_,hz41,aA ..⟩),ak _ (hF9 _ (ak _ (aA ..)))⟩,kZ Z Z,Qg,by show acts.length- (i+1)<acts.length-i;omega⟩
 ·
  refine U<|W<|ZF Z<|Zx<|W ?_
  obtain rfl:i=acts.length:=by omega
  have hrun:=Ii.run
  rw[bV]at hrun
  subst hK3
  obtain⟨ps2,pA2,pC2,co2,clo2,chi2,gr2,glo2,ghi2,sns2,snA2,snC2⟩:=b
  replace H:Hp w w7 ((b29,.cells #[.slice pA2 ps2.length pC2,J (co2.clock),J (co2.next),J (co2.wait),.slice co2.A co2.txs.length co2.cap,J (gr2.clock),J (gr2.wait),J (gr2.gen),.slice gr2.mA gr2.ms.length gr2.mC,.slice gr2.oA gr2.os.length gr2.oC,.slice snA2 sns2.length snC2] bK (0,0))::(b7,.cells #[.slice (Qd gP) ps.length pC,J (co.clock),J (co.next),J (co.wait),.slice co.A co.txs.length co.cap,J (gr.clock),J (gr.wait),J (gr.gen),.slice gr.mA gr.ms.length gr.mC,.slice gr.oA gr.os.length gr.oC,.slice none (([]:List Sn).length) 0] jY (0,0))::(b5,.cells #[.slice none 0 0,J (0),J (0),J (0),.slice none 0 0,J (0),J (0),J (0),.slice none 0 0,.slice none 0 0,.slice none 0 0] jY (0,0))::(b2,.cells #[J (((np:Nat):Int)),J (((nr:Nat):Int)),J (((few:Nat):Int)),J (wt)] iu (0,0))::(gP1,.cells uP1 bz (0,0))::(Ls++(Lo++oL))) (dG tg 0 w.heap.size A0 acts::F'):=H.perm (PT (b29,_) (gP1,_) Ls Lo oL [(b7,_),(b5,_),(b2,_)])
  refine bD bZ [0,1,2,3,4,5] [6,7] [] [0,1,2,3,5] (sp []) N N N N Nq (cI _) ?_
  refine aw Z Z Z Z Z (fun w' hw'=>Ys Z)<|aw Z Z Z Z Z (fun w' hw'=>Yp Z)<|aw Z Z Z Z Z (fun w' hw'=>aI Z)<|aw Z Z Z Z Z (fun w' hw'=>Zf aW Z)<|aw Z Z Z Z Z (fun w' hw'=>iP nI Z ((H.later hw').ent (i:=0) Z) Z)<|aw Z Z Z Z Z (fun w' hw'=>Ws Z)<|aU ?_
  intro w18 hw' hF
  replace H:=H.later hw';clear hw' hF
  refine bl H 2 (#[.slice pA2 ps2.length pC2,J (co2.clock),J (co2.next),J (co2.wait),.slice co2.A co2.txs.length co2.cap,J (gr2.clock),J (gr2.wait),J (gr2.gen),.slice gr2.mA gr2.ms.length gr2.mC,.slice gr2.oA gr2.os.length gr2.oC,.slice snA2 sns2.length snC2]) kF Z Z Z Z Z N N fun w19 H=>G (Wi Z)<|U<|Zt ?_
  exact Lw (v0:=.slice oA xs.length oC) (cs1:= #[.slice pA2 ps2.length pC2,J (co2.clock),J (co2.next),J (co2.wait),.slice co2.A co2.txs.length co2.cap,J (gr2.clock),J (gr2.wait),J (gr2.gen),.slice gr2.mA gr2.ms.length gr2.mC,.slice gr2.oA gr2.os.length gr2.oC,.slice snA2 sns2.length snC2]) (v2:=J 0) Z Z nI Z (H.ent (i:=2) Z) Z Z ⟨⟨xs,oA,oC,⟨ps2,pA2,pC2,co2,clo2,chi2,gr2,glo2,ghi2,sns2,snA2,snC2⟩⟩,rfl,hrun,Ii.rd [(b29,_),(b7,_),(b5,_),(b2,_)] H (fun f hf=>ak _ hf),H.below⟩
/-- an act that the laws make -/
structure F6 (np nr:Nat) (hard:Bool) (a:Act):Prop where
 g:ue np nr a
 calm:hard=false->(a.kind<=9∨16<=a.kind)/\a.kind≠1/\a.lost=0
 txt:a.text=⟨#[]⟩∨ ∃ n,a.text=uU n
theorem iV {np nr:Nat} {hard:Bool} {k pt n m lo:Int} {nm t:ByteArray} (h:(1<=k/\k<=20/\k≠17)/\(0<=pt/\pt<np)/\(0<=n/\n<=1000)/\(8<=k->k<=15->n<nr)/\(k=5->n<=1)/\(k=19->1<=n/\n<=20)/\(0<=m/\m<=1000)/\(0<=lo/\lo<=2)) (hh:hard=false->(k<=9∨16<=k)/\k≠1/\lo=0) (hn:(k=1∨k=16∨k=18∨k=19∨k=20)->bM nm=true) (ht:t=⟨#[]⟩∨ ∃ n,t=uU n):F6 np nr hard ⟨k,nm,pt,n,m,t,lo⟩:=by
 obtain⟨h1,h2,h3,h4,h5,h6,h7,h8⟩:=h
 refine⟨⟨h1,hn,h2,h3,h4,h5,h6,h7,?_,h8⟩,hh,ht⟩
 rcases ht with ht|⟨x,ht⟩
 show t.size<=40;rw[ht];decide
 show t.size<=40;rw[ht];exact aT (Ir x) (by decide)
def DY (p:Nat):Act:=⟨13,⟨#[]⟩,p,0,0,⟨#[]⟩,0⟩
def Ae (s:ByteArray):Act:=⟨1,s,0,0,0,⟨#[]⟩,0⟩
def GU (s:ByteArray):Act:=⟨16,s,0,0,0,⟨#[]⟩,0⟩
def im (n:Nat):List Act:=(Bl n).map DY
def pq (np:Nat):List Act:=im np++[Ae (pR 0),Ae (pR 1),GU (pR 2)]
theorem FM (n:Nat):im (n+1)=im n++[DY n]:=by unfold im;rw[xh,bk];rfl
theorem ko (n:Nat):(im n).length=n:=by simp[im]
def Dt:Nat->Int
 |0=>11
 |1=>13
 |_=>1
theorem tG {k:Nat} (h:k<3):(p8 [J 11,J 13,J 1]).toArray[0+k*1]? =some (J (Dt k)):=by
 rcases k with _|_|_|k<;>first|rfl|omega
theorem Aa (k:Nat):Dt k=11∨Dt k=13∨Dt k=1:=by
 rcases k with _|_|k
 exact .inl Z
 exact .inr (.inl Z)
 exact .inr (.inr Z)
theorem Kq (a b:Int) (w:World) (ha:i64 a) (hb:i64 b):dd aa oa [J a,J b] w fun v w2=>v=.agg #[J (1+(pk a 3:Nat):Int),J (1+(pk b 3:Nat):Int),J (1+(pk a (1+pk b 3):Nat):Int),J (5+(pk b 20:Nat):Int)]/\Below w.heap.size w w2:=by
 refine aE tc Z Z ?_
 have H:=Hp.start w
 have p1:=i5 a (show 0<3 by omega)
 have p2:=i5 b (show 0<3 by omega)
 have p3:=i5 a (show 0<1+pk b 3 by omega)
 have p4:=i5 b (show 0<20 by omega)
 refine W<|Zr<|eC H C3 Z fun w1 b4 H=>U<|W<|Zr<|G (Yi Z)<|cd aJ (dk b (3) _ hb.1 hb.2 I I) Z Z ?_
 rintro _ w2 ⟨rfl,hb⟩;replace H:=H.later hb;clear hb
 refine G (bp Z Z I I)<|G (Wi Z)<|U<|W<|Zr<|G (Yi Z)<|cd aJ (dk a (3) _ ha.1 ha.2 I I) Z Z ?_
 rintro _ w3 ⟨rfl,hb⟩;replace H:=H.later hb;clear hb
 refine G (bp Z Z I I)<|G (Yi Z)<|G (Yi Z)<|G (Yi Z)<|cd aJ ((by have hA:=dk a (1+pk b 3) w3 ha.1 ha.2 I I;rw[show((1+pk b 3:Nat):Int)=(1:Int)+(pk b 3:Nat) by omega]at hA;exact hA)) Z Z ?_
 rintro _ w4 ⟨rfl,hb⟩;replace H:=H.later hb;clear hb
 refine G (bp Z Z I I)<|G (Yi Z)<|cd aJ (dk b (20) _ hb.1 hb.2 I I) Z Z ?_
 rintro _ w5 ⟨rfl,hb⟩;replace H:=H.later hb;clear hb
 refine G (bp Z Z I I)<|G (bj (cs:= #[J (1+(((pk a (3):Nat):Int))),J (1+(((pk b (3):Nat):Int))),J (1+(((pk a (1+pk b 3):Nat):Int))),J (5+(((pk b (20):Nat):Int)))]) Kj C3 N)<|bl H 0 (#[J (1+(((pk a (3):Nat):Int))),J (1+(((pk b (3):Nat):Int))),J (1+(((pk a (1+pk b 3):Nat):Int))),J (5+(((pk b (20):Nat):Int)))]) Cm Z Z Z Z Z N N fun w6 H=>U<|Zt ?_
 exact eQ (cs0:= #[J (1+(pk a 3:Nat):Int),J (1+(pk b 3:Nat):Int),J (1+(pk a (1+pk b 3):Nat):Int),J (5+(pk b 20:Nat):Int)]) Z rR Z (H.ent (i:=0) Z) Z ⟨rfl,H.below⟩
def tI (j:Nat):List Act:=(Bl j).map fun k=>Ae (pR k)
theorem GW (np j:Nat):im np++tI j++[Ae (pR j)]=im np++tI (j+1):=by unfold tI;rw[xh,bk,aD];rfl
theorem KC (np:Nat):im np++tI 2++[GU (pR 2)]=pq np:=by rw[aD];rfl
theorem KW {k:Nat} (h:k<2):(p8 [.string ⟨#[97,110,110]⟩,.string ⟨#[98,111,98]⟩]).toArray[0+k*1]? =some (.string (pR k)):=by
 rcases k with _|_|k<;>first|rfl|omega
theorem PJ {a:Int}:i64 ((pk a 2:Nat):Int):=by
 have:=i5 a (show 0<2 by omega)
 exact⟨by omega,by omega⟩
theorem Ik {np nr most:Nat} {few wt:Int} {hard:Bool} (l:List Hw) (A0:Option Addr) (c0:Nat) (w:World) (p1:1<=np) (p4:np<=4) (n1:1<=nr) (n5:nr<=5) (hm:most<=400) (hr:Rd vC 0 w.heap.size A0 l w) (hok: ∀ r∈l,r.ok):dd aa uI [.slice A0 l.length c0,.agg #[J (((np:Nat):Int)),J (((nr:Nat):Int)),J (few),J (wt)],J (most:Nat),.bool hard] w fun v w2=> ∃ (body:List Act) (A:Option Addr) (c:Nat) (L:List (Nat×Obj)),v=.slice A (pq np++body).length c/\body.length<=most/\(∀ a∈body,F6 np nr hard a)/\gi tg (.slice A (pq np++body).length c) f5 (pq np++body) L/\Hp w w2 L []:=by
 refine aE tO Z Z ?_
 have H:=Hp.startRd hr
 show CW _ _ _ _ (args [.slice A0 l.length c0,.agg #[J (((np:Nat):Int)),J (((nr:Nat):Int)),J (few),J (wt)],J (most:Nat),.bool hard]) w
 refine W<|Zr<|fS H Z Z fun w1 b5 H=>G (Ws Z)<|U<|W<|Zr<|G (Ws Z)<|U<|W<|W<|Zr<|G (Zf p9 Z)<|G (Zd aj H 0 Z Z Z)<|G (Yi Z)<|U<|Zb ?_
 refine cf (τ:=Nat×Option Addr×Nat×List (Nat×Obj)) [9,10,20,21,22,23,24,25,26,27,28] (fun(i,A,c,_)=>[(20,J (i:Nat)),(9,.slice A (im i).length c)]) (fun(i,A,c,L) w'=>i<=np/\gi tg (.slice A (im i).length c) f5 (im i) L/\Hp w w' ((b5,.cells #[J (((np:Nat):Int)),J (((nr:Nat):Int)),J (few),J (wt)] iu (0,0))::(L++[])) ([dG vC 0 w.heap.size A0 l])) (fun(i,_)=>np-i) (0,none,0,[]) ⟨bA _,gi.nil,H⟩ (kZ Z Z) ?_
 rintro⟨i,A,c,L⟩ ρ1 w2 ⟨hi,ho,H⟩
 show CW _ _ _ _ (dv (gk _ _ ρ1) [(20,J (i:Nat)),(9,.slice A (im i).length c)]) w2
 refine W<|Zr ?_
 refine cR (cG Z Z) Z Z Z (fun h21=> ?_) (fun h21=> ?_)
 refine U<|W<|ZT Z<|Zk<|W<|Zb<|W<|Zr<|G (Yi Z)<|G (Wi Z)<|U<|Zr<|G (Ys Z)<|G (Yi Z)<|G (bj (cs:= #[J (13),.string (⟨#[]⟩),J (((i:Nat):Int)),J (0),J (0),.string (⟨#[]⟩),J (0)]) jr jD N)<|sY (vs:=[.agg #[J (13),.string (⟨#[]⟩),J (((i:Nat):Int)),J (0),J (0),.string (⟨#[]⟩),J (0)]]) H wm jD Z Z Z Z Z Z fun w3 b26 H=>vU (Y:=tg) zg (K:=[(b26,_),(b5,_)]) (L:=L) (M:=[]) H ho (es:=im i) (news:=[DY i]) Z Z Z (vY.row (m:=1) (sz:=tg.sz) (H.ent (i:=0) Z) Z) (by simp only[bP];rw[ko];omega) Z ?_
 intro A5 c5 w4 L5 h5 h5m ho5 H
 rw[<-FM]at ho5 h5⊢
 refine G (Ws Z)<|U<|Zr<|G (bp Z Z I I)<|G (Yi Z)<|U ?_
 exact⟨(i+1,A5,c5,L5),⟨by omega,ho5,H.forget (.cons _ (ap _)) (fun _ h=>h)⟩,kZ Z Z,Qg,by show np- (i+1)<np-i;omega⟩
 refine U<|W<|ZF Z<|Zx<|W<|W<|Zr<|sY (vs:=[.string (⟨#[97,110,110]⟩),.string (⟨#[98,111,98]⟩)]) H ig v7 Z Z Z Z Z Z fun w5 b29 H=>G (bn lM Z)<|G (Yi Z)<|U<|Zb ?_
 obtain rfl:np=i:=by omega
 refine cf (τ:=Nat×Option Addr×Nat×List (Nat×Obj)) [9,12,31,32,33,34,35,36,37,38,39,40] (fun(j,A,c,_)=>[(31,J (j:Nat)),(9,.slice A (im np++tI j).length c)]) (fun(j,A,c,L) w'=>j<=2/\gi tg (.slice A (im np++tI j).length c) f5 (im np++tI j) L/\Hp w w' ((b29,.cells #[.string (⟨#[97,110,110]⟩),.string (⟨#[98,111,98]⟩)] kD (0,0))::(b5,.cells #[J (((np:Nat):Int)),J (((nr:Nat):Int)),J (few),J (wt)] iu (0,0))::(L++[])) ([dG vC 0 w.heap.size A0 l])) (fun(j,_)=>2-j) (0,A,c,L) ⟨by omega,by show gi tg (.slice A (im np++[]).length c) f5 (im np++[]) L;rw[aY];exact ho,H⟩ (kZ Z (by show _=Value.slice A (im np++[]).length c;rw[aY];rfl)) ?_
 rintro⟨j,A,c,L⟩ ρ1 w6 ⟨hj,ho,H⟩
 show CW _ _ _ _ (dv (gk _ _ ρ1) [(31,J (j:Nat)),(9,.slice A (im np++tI j).length c)]) w6
 refine W<|Zr ?_
 refine cR (cG Z Z) Z Z Z (fun h32=> ?_) (fun h32=> ?_)
 refine U<|W<|ZT Z<|Zk<|W<|Zb<|W<|Zr<|G (sU ig Z Z I I)<|G (aV ba Z (aB (H.ent (i:=0) Z) (KW I)))<|G (Wt Z)<|U<|Zr<|G (Ys Z)<|G (Yt Z)<|G (bj (cs:= #[J (1),.string (pR j),J (0),J (0),J (0),.string (⟨#[]⟩),J (0)]) jr jD N)<|sY (vs:=[.agg #[J (1),.string (pR j),J (0),J (0),J (0),.string (⟨#[]⟩),J (0)]]) H wm jD Z Z Z Z Z Z fun w7 b38 H=>vU (Y:=tg) zg (K:=[(b38,_),(b29,_),(b5,_)]) (L:=L) (M:=[]) H ho (es:=im np++tI j) (news:=[Ae (pR j)]) Z Z Z (vY.row (m:=1) (sz:=tg.sz) (H.ent (i:=0) Z) Z) (by simp only[bP];rw[ay,ko];unfold tI;rw[bC,List.length_range];omega) Z ?_
 intro A5 c5 w8 L5 h5 h5m ho5 H
 rw[GW]at ho5 h5⊢
 refine G (Ws Z)<|U<|Zr<|G (bp Z Z I I)<|G (Yi Z)<|U ?_
 exact⟨(j+1,A5,c5,L5),⟨by omega,ho5,H.forget (.cons _ (ap _)) (fun _ h=>h)⟩,kZ Z Z,Qg,by show 2- (j+1)<2-j;omega⟩
 refine U<|W<|ZF Z<|Zx<|W ?_
 obtain rfl:j=2:=by omega
 refine Zr<|G (Ys Z)<|G (bj (cs:= #[J (16),.string (⟨#[99,121]⟩),J (0),J (0),J (0),.string (⟨#[]⟩),J (0)]) jr jD N)<|sY (vs:=[.agg #[J (16),.string (⟨#[99,121]⟩),J (0),J (0),J (0),.string (⟨#[]⟩),J (0)]]) H wm jD Z Z Z Z Z Z fun w9 b43 H=>vU (Y:=tg) zg (K:=[(b43,_),(b29,_),(b5,_)]) (L:=L) (M:=[]) H ho (es:=im np++tI 2) (news:=[GU (pR 2)]) Z Z Z (vY.row (m:=1) (sz:=tg.sz) (H.ent (i:=0) Z) Z) (by simp only[bP];rw[ay,ko];show(np+2+1)*_<=_;omega) Z ?_
 intro A5 c5 w10 L5 h5 h5m ho5 H
 rw[KC]at ho5 h5⊢
 refine G (Ws Z)<|U<|W<|Zr<|G (Wi Z)<|U<|W<|W<|Zr<|G (Wi Z)<|U<|Zb ?_
 refine cf (τ:=Nat×List Act×Option Addr×Nat×List (Nat×Obj)) [9,14,15,16,17,45,46,47,48,49,50,51,52,53,54,55,56,57,58,59,60,61,62,63,64,65,66,67,68,69,70,71,72,73,74,75,76,77,78,79,80,81,82,83,84,85,86,87,88,89,90,91,92,93,94,95,96,97,98,99,100,101,102,103,104,105,106,107,108,109,110,111,112,113,114,115,116,117,118,119,120,121,122,123,124,125,126,127,128,129,130,131,132,133,134,135,136,137,138,139,140,141,142,143,144,145,146,147,148,149,150,151,152,153,154,155,156,157,158,159,160,161,162,163,164,165,166,167,168,169,170,171,172,173,174,175,176,177,178,179,180,181,182,183,184,185,186,187,188,189,190,191,192,193,194,195,196,197,198,199,200,201,202,203,204,205,206,207,208,209,210,211,212,213,214,215,216,217,218,219,220,221,222,223,224,225,226,227,228,229,230,231,232,233] (fun(i,es,A,c,_)=>[(14,J (i:Nat)),(9,.slice A (pq np++es).length c)]) (fun(i,es,A,c,L) w'=>i<=l.length/\i<=most/\es.length=i/\(∀ a∈es,F6 np nr hard a)/\gi tg (.slice A (pq np++es).length c) f5 (pq np++es) L/\Hp w w' ((b29,.cells #[.string (⟨#[97,110,110]⟩),.string (⟨#[98,111,98]⟩)] kD (0,0))::(b5,.cells #[J (((np:Nat):Int)),J (((nr:Nat):Int)),J (few),J (wt)] iu (0,0))::(L++[])) ([dG vC 0 w.heap.size A0 l])) (fun(i,_)=>l.length-i) (0,[],A5,c5,L5) ⟨bA _,bA _,rfl,by simp,by rw[aY];exact ho5,H.forget (.cons _ (ap _)) (fun _ h=>h)⟩ (kZ Z (by show _=Value.slice A5 (pq np++[]).length c5;rw[aY];rfl)) ?_
 rintro⟨i,es,A,c,L⟩ ρ1 w11 ⟨hi,him,hel,hes,ho,H⟩
 show CW _ _ _ _ (dv (gk _ _ ρ1) [(14,J (i:Nat)),(9,.slice A (pq np++es).length c)]) w11
 refine W<|W<|Zr<|G (Yi Z)<|G (Ys Z)<|G (bn K8 Z) ?_
 refine cR (cG Z Z) Z Z Z (fun h48=> ?_) (fun h48=> ?_)
 refine G (Yb Z)<|ZG<|G (Yi Z)<|ZG<|G (Yi Z)<|ZG ?_
 refine cR (cG Z Z) Z Z Z (fun h52=> ?_) (fun h52=> ?_)
 refine G (Kt Z Z)<|U<|ZT Z<|Zk<|W<|Zb<|W ?_
 obtain⟨x,hx⟩: ∃ x,l[i]? =some x:=⟨_,ah I⟩
 have hxo:=hok x (ae hx)
 obtain⟨z,hz⟩: ∃ z,(hard&&decide (((pk x.c 6:Nat):Int)=0))=z:=⟨_,rfl⟩
 have hq0:=i5 x.a (show 0<2 by omega)
 have hq1:=i5 x.c (show 0<2 by omega)
 have hq2:=i5 x.c (show 0<3 by omega)
 have hq3:=i5 x.c (show 0<4 by omega)
 have hq4:=i5 x.c (show 0<5 by omega)
 have hq5:=i5 x.c (show 0<6 by omega)
 have hq6:=i5 x.c (show 0<40 by omega)
 have hq7:=i5 x.a (show 0<nr by omega)
 have hq8:=i5 x.b (show 0<np by omega)
 have hq9:=i5 x.kind (show 0<30 by omega)
 refine Zr<|G (Ys Z)<|G (Yi Z)<|pK H 0 Z Mx Z Z I I Z fun bq12 o12 x12 e12=> ?_
 obtain rfl:x=x12:=by have:=e12.at_;rw[hx]at this;exact bB this
 refine G (jd (xs:=Hw.cs x) Nw Z Z e12.cl)<|eC H OR Z fun w13 b15 H=>bl H 0 (#[J (x.kind),J (x.a),J (x.b),J (x.c)]) My Z Z Z Z Z N N fun w14 H=>U<|W ?_
 refine bD bZ [0,1,4,5,6,7,2,3,8,9,10] [11] [2,3,8,10] [0,4,6,9] (sp [(2,Sp.one (J ((pk x.a 2:Nat):Int))),(3,Sp.one (.string (pR (pk ((pk x.a 2:Nat):Int) 3)))),(8,Sp.one (J ((pk x.b np:Nat):Int))),(10,Sp.blk w14.heap.size (.agg #[J 0,.string ⟨#[]⟩,J 0,J 0,J 0,.string ⟨#[]⟩,J 0]) f5)]) N N N N Nq (cI _) ?_
 refine aw Z Z Z Z Z (fun w' hw'=>Zf mD Z)<|aw Z Z Z Z Z (fun w' hw'=>aV aj Z (aB ((H.later hw').ent (i:=0) Z) Z))<|aw Z Z Z Z Z (fun w' hw'=>Zf LB Z)<|aw Z Z Z Z Z (fun w' hw'=>aV aj Z (aB ((H.later hw').ent (i:=0) Z) Z))<|aw Z Z Z Z Z (fun w' hw'=>Zf p9 Z)<|aw Z Z Z Z Z (fun w' hw'=>aV aj Z (aB ((H.later hw').ent (i:=2) Z) Z))<|g7 aJ Z Z Z Z Z (fun w' hw'=>dk x.a 2 w' hxo.2.1.1 hxo.2.1.2 I I) Z<|g7 t5 Z Z Z Z Z (fun w' hw'=>Lc ((pk x.a 2:Nat):Int) w' PJ) Z<|g7 aJ Z Z Z Z Z (fun w' hw'=>dk x.b np w' hxo.2.2.1.1 hxo.2.2.1.2 I I) Z<|aw Z Z Z Z Z (fun w' hw'=>bj (cs:= #[J (0),.string (pR (pk ((pk x.a 2:Nat):Int) 3)),J (((pk x.b np:Nat):Int)),J (0),J (0),.string (⟨#[]⟩),J (0)]) jr jD N)<|xd jD Z Z Z Z Z (fun w' hw'=>hw'.size) fun b16=>aU ?_
 intro w15 hw' hF
 obtain⟨hF,bq,eq,hge16,hbl16⟩:=hF;cases eq
 obtain⟨hF,-⟩:=hF
 obtain⟨hF,-⟩:=hF
 obtain⟨hF,-⟩:=hF
 have Hb:=H
 replace H:=H.adoptNew hw' hbl16 hge16
 clear hw' hF
 refine bl H 0 (#[J (0),.string (pR (pk ((pk x.a 2:Nat):Int) 3)),J (((pk x.b np:Nat):Int)),J (0),J (0),.string (⟨#[]⟩),J (0)]) iK Z Z Z Z Z N N fun w16 H=>U<|W<|W ?_
 refine eu (τ:=Unit) [70,71,72,73,74,75,76] (fun _=>[(76,.bool z)]) (fun _ w'=>Hp w w' ((b16,.cells #[J (0),.string (pR (pk ((pk x.a 2:Nat):Int) 3)),J (((pk x.b np:Nat):Int)),J (0),J (0),.string (⟨#[]⟩),J (0)] f5 (0,0))::(b15,.cells #[J (x.kind),J (x.a),J (x.b),J (x.c)] vp (0,0))::(b29,.cells #[.string (⟨#[97,110,110]⟩),.string (⟨#[98,111,98]⟩)] kD (0,0))::(b5,.cells #[J (((np:Nat):Int)),J (((nr:Nat):Int)),J (few),J (wt)] iu (0,0))::(L++[])) ([dG vC 0 w.heap.size A0 l])) ?_ ?_
 refine Zr<|G (Yb Z)<|G (Yb Z) ?_
 refine mq 71 Z (fun h71=> ?_) (fun h71=> ?_)
 refine ZG<|G (Zf lj Z)<|ZG<|G (Zd aj H 1 Z Z Z)<|ZG<|cd aJ (dk x.c 6 _ hxo.2.2.2.1 hxo.2.2.2.2 I I) Z Z ?_
 rintro _ w17 ⟨rfl,hb⟩;replace H:=H.later hb;clear hb
 refine ZG ?_
 refine cR (bh Z Z) Z Z Z (fun h75=> ?_) (fun h75=> ?_)
 refine G (Kt Z Z)<|U ?_
 exact⟨(),H,dF (congrArg Value.bool (by rw[<-hz];simp[h71,h75]<;>omega)),Qg⟩
 refine G (Kt Z Z)<|U ?_
 exact⟨(),H,dF (congrArg Value.bool (by rw[<-hz];simp[h71,h75]<;>omega)),Qg⟩
 refine ZN<|ZN<|ZN<|ZN<|G (N Z Z)<|U ?_
 exact⟨(),H,dF (congrArg Value.bool (by rw[<-hz];simp[h71]<;>omega)),Qg⟩
 rintro _ ρ1 w18 H
 show CW _ _ _ _ (dv (gk _ _ ρ1) [(76,.bool z)]) w18
 refine eu (τ:=Int) [77,78,79,80,81] (fun _=>[]) (fun lo w'=>(0<=lo/\lo<=2)/\(hard=false->lo=0)/\Hp w w' ((b16,.cells #[J (0),.string (pR (pk ((pk x.a 2:Nat):Int) 3)),J (((pk x.b np:Nat):Int)),J (0),J (0),.string (⟨#[]⟩),J (lo)] f5 (0,0))::(b15,.cells #[J (x.kind),J (x.a),J (x.b),J (x.c)] vp (0,0))::(b29,.cells #[.string (⟨#[97,110,110]⟩),.string (⟨#[98,111,98]⟩)] kD (0,0))::(b5,.cells #[J (((np:Nat):Int)),J (((nr:Nat):Int)),J (few),J (wt)] iu (0,0))::(L++[])) ([dG vC 0 w.heap.size A0 l])) ?_ ?_
 refine jm Z (fun hc76=> ?_) (fun hc76=> ?_)
 refine Zr<|G (Zf mD Z)<|G (Zd aj H 1 Z Z Z)<|cd aJ (dk x.a 2 _ hxo.2.1.1 hxo.2.1.2 I I) Z Z ?_
 rintro _ w19 ⟨rfl,hb⟩;replace H:=H.later hb;clear hb
 refine G (bp Z Z I I)<|G (Zf jI Z)<|bl H 0 (#[J (0),.string (pR (pk ((pk x.a 2:Nat):Int) 3)),J (((pk x.b np:Nat):Int)),J (0),J (0),.string (⟨#[]⟩),J (1+(((pk x.a 2:Nat):Int)))]) bI Z Z Z Z Z N N fun w20 H=>U ?_
 exact⟨1+((pk x.a 2:Nat):Int),⟨by have:=i5 x.a (show 0<2 by omega);omega,fun hh=>(by rw[hc76,hh]at hz;cases hz),H⟩,vX,Qg⟩
 refine Zk ?_
 exact⟨0,⟨by omega,fun _=>rfl,H⟩,vX,Qg⟩
 rintro lo ρ1 w21 ⟨hlo1,hlo2,H⟩
 show CW _ _ _ _ (dv (gk _ _ ρ1) []) w21
 refine W<|W<|Zr<|G (Zf LC Z)<|G (Zd aj H 1 Z Z Z)<|cd aJ (dk x.kind 30 _ hxo.1.1 hxo.1.2 I I) Z Z ?_
 rintro _ w22 ⟨rfl,hb⟩;replace H:=H.later hb;clear hb
 refine G (Wi Z)<|U ?_
 refine eu (τ:=Act) [85,86,87,88,89,90,91,92,93,94,95,96,97,98,99,100,101,102,103,104,105,106,107,108,109,110,111,112,113,114,115,116,117,118,119,120,121,122,123,124,125,126,127,128,129,130,131,132,133,134,135,136,137,138,139,140,141,142,143,144,145,146,147,148,149,150,151,152,153,154,155,156,157,158,159,160,161,162,163,164,165,166,167,168,169,170,171,172,173,174,175,176,177,178,179,180,181,182,183,184,185,186,187,188,189,190,191,192,193,194,195,196,197,198,199,200,201,202,203,204,205,206,207,208,209,210,211,212,213,214,215,216,217,218,219,220,221,222,223,224,225,226,227,228,229] (fun _=>[]) (fun a w'=>F6 np nr hard a/\Hp w w' ((b16,.cells #[J (a.kind),.string (a.name),J (a.part),J (a.n),J (a.m),.string (a.text),J (a.lost)] f5 (0,0))::(b15,.cells #[J (x.kind),J (x.a),J (x.b),J (x.c)] vp (0,0))::(b29,.cells #[.string (⟨#[97,110,110]⟩),.string (⟨#[98,111,98]⟩)] kD (0,0))::(b5,.cells #[J (((np:Nat):Int)),J (((nr:Nat):Int)),J (few),J (wt)] iu (0,0))::(L++[])) ([dG vC 0 w.heap.size A0 l])) ?_ ?_
 refine Zb<|W<|Zr<|G (Yi Z) ?_
 refine cR (cG Z Z) Z Z Z (fun h103=> ?_) (fun h103=> ?_)
 refine G (Wb Z)<|U<|ZT Z<|W<|Zr<|G (Zf mE Z)<|bl H 0 (#[J (3),.string (pR (pk ((pk x.a 2:Nat):Int) 3)),J (((pk x.b np:Nat):Int)),J (0),J (0),.string (⟨#[]⟩),J (lo)]) bI Z Z Z Z Z N N fun w23 H=>U<|Zr<|G (Zf lj Z)<|G (Zd aj H 1 Z Z Z)<|cd t0 (Mn x.c _ hxo.2.2.2) Z Z ?_
 rintro _ w24 ⟨rfl,hb⟩;replace H:=H.later hb;clear hb
 refine G (Zf AF Z)<|bl H 0 (#[J (3),.string (pR (pk ((pk x.a 2:Nat):Int) 3)),J (((pk x.b np:Nat):Int)),J (0),J (0),.string (uU x.c),J (lo)]) zz Z Z Z Z Z N N fun w25 H=>U ?_
 exact⟨(⟨3,pR (pk ((pk x.a 2:Nat):Int) 3),((pk x.b np:Nat):Int),0,0,uU x.c,lo⟩:Act),⟨iV I (fun hh=>by have:=hlo2 hh;omega) (fun _=>qS _) (.inr ⟨_,rfl⟩),H⟩,vX,Qg⟩
 refine G (Wb Z)<|U<|ZF Z<|W<|Zr<|G (Yi Z) ?_
 refine cR (bh Z Z) Z Z Z (fun h111=> ?_) (fun h111=> ?_)
 refine G (Wb Z)<|U<|ZT Z<|Zr<|G (Zf mE Z)<|bl H 0 (#[J (4),.string (pR (pk ((pk x.a 2:Nat):Int) 3)),J (((pk x.b np:Nat):Int)),J (0),J (0),.string (⟨#[]⟩),J (lo)]) bI Z Z Z Z Z N N fun w26 H=>U ?_
 exact⟨(⟨4,pR (pk ((pk x.a 2:Nat):Int) 3),((pk x.b np:Nat):Int),0,0,⟨#[]⟩,lo⟩:Act),⟨iV I (fun hh=>by have:=hlo2 hh;omega) (fun _=>qS _) (.inl Z),H⟩,vX,Qg⟩
 refine G (Wb Z)<|U<|ZF Z<|W<|Zr<|G (Yi Z) ?_
 refine cR (cG Z Z) Z Z Z (fun h115=> ?_) (fun h115=> ?_)
 refine G (Wb Z)<|U<|ZT Z<|Zr<|G (Zf mE Z)<|bl H 0 (#[J (2),.string (pR (pk ((pk x.a 2:Nat):Int) 3)),J (((pk x.b np:Nat):Int)),J (0),J (0),.string (⟨#[]⟩),J (lo)]) bI Z Z Z Z Z N N fun w27 H=>U ?_
 exact⟨(⟨2,pR (pk ((pk x.a 2:Nat):Int) 3),((pk x.b np:Nat):Int),0,0,⟨#[]⟩,lo⟩:Act),⟨iV I (fun hh=>by have:=hlo2 hh;omega) (fun _=>qS _) (.inl Z),H⟩,vX,Qg⟩
 refine G (Wb Z)<|U<|ZF Z<|W<|Zr<|G (Yi Z) ?_
 refine cR (cG Z Z) Z Z Z (fun h119=> ?_) (fun h119=> ?_)
 refine G (Wb Z)<|U<|ZT Z<|W<|Zr<|G (Zf mE Z)<|bl H 0 (#[J (5),.string (pR (pk ((pk x.a 2:Nat):Int) 3)),J (((pk x.b np:Nat):Int)),J (0),J (0),.string (⟨#[]⟩),J (lo)]) bI Z Z Z Z Z N N fun w28 H=>U<|Zr<|G (Zf lj Z)<|G (Zd aj H 1 Z Z Z)<|cd aJ (dk x.c 2 _ hxo.2.2.2.1 hxo.2.2.2.2 I I) Z Z ?_
 rintro _ w29 ⟨rfl,hb⟩;replace H:=H.later hb;clear hb
 refine G (Zf eT Z)<|bl H 0 (#[J (5),.string (pR (pk ((pk x.a 2:Nat):Int) 3)),J (((pk x.b np:Nat):Int)),J (((pk x.c 2:Nat):Int)),J (0),.string (⟨#[]⟩),J (lo)]) bI Z Z Z Z Z N N fun w30 H=>U ?_
 exact⟨(⟨5,pR (pk ((pk x.a 2:Nat):Int) 3),((pk x.b np:Nat):Int),((pk x.c 2:Nat):Int),0,⟨#[]⟩,lo⟩:Act),⟨iV I (fun hh=>by have:=hlo2 hh;omega) (fun _=>qS _) (.inl Z),H⟩,vX,Qg⟩
 refine G (Wb Z)<|U<|ZF Z<|W<|Zr<|G (Yi Z) ?_
 refine cR (cG Z Z) Z Z Z (fun h127=> ?_) (fun h127=> ?_)
 refine G (Wb Z)<|U<|ZT Z<|Zr<|G (Zf mD Z)<|G (Zd aj H 1 Z Z Z)<|cd aJ (dk x.a 2 _ hxo.2.1.1 hxo.2.1.2 I I) Z Z ?_
 rintro _ w31 ⟨rfl,hb⟩;replace H:=H.later hb;clear hb
 refine G (bj (cs:= #[J (6),.string (⟨#[]⟩),J (0),J (((pk x.a 2:Nat):Int)),J (0),.string (⟨#[]⟩),J (0)]) jr jD N)<|bl H 0 (#[J (6),.string (⟨#[]⟩),J (0),J (((pk x.a 2:Nat):Int)),J (0),.string (⟨#[]⟩),J (0)]) iK Z Z Z Z Z N N fun w32 H=>U ?_
 exact⟨(⟨6,⟨#[]⟩,0,((pk x.a 2:Nat):Int),0,⟨#[]⟩,0⟩:Act),⟨iV I (fun hh=>by have:=hlo2 hh;omega) (fun h=>by omega) (.inl Z),H⟩,vX,Qg⟩
 refine G (Wb Z)<|U<|ZF Z<|W<|Zr<|G (Yi Z) ?_
 refine cR (cG Z Z) Z Z Z (fun h134=> ?_) (fun h134=> ?_)
 refine G (Wb Z)<|U<|ZT Z ?_
 refine bD bZ [0,1,2,3,4,5,6,7] [8] [6] [0,2,4,7] (sp [(6,Sp.one (J ((pk x.a nr:Nat):Int)))]) N N N N Nq (cI _) ?_
 refine aw Z Z Z Z Z (fun w' hw'=>Zf dS Z)<|aw Z Z Z Z Z (fun w' hw'=>aV aj Z (aB ((H.later hw').ent (i:=0) Z) Z))<|aw Z Z Z Z Z (fun w' hw'=>Zf mD Z)<|aw Z Z Z Z Z (fun w' hw'=>aV aj Z (aB ((H.later hw').ent (i:=1) Z) Z))<|aw Z Z Z Z Z (fun w' hw'=>Zf lF Z)<|aw Z Z Z Z Z (fun w' hw'=>aV aj Z (aB ((H.later hw').ent (i:=3) Z) Z))<|g7 aJ Z Z Z Z Z (fun w' hw'=>dk x.a nr w' hxo.2.1.1 hxo.2.1.2 I I) Z<|aw Z Z Z Z Z (fun w' hw'=>bj (cs:= #[J (8),.string (⟨#[]⟩),J (((pk x.b np:Nat):Int)),J (((pk x.a nr:Nat):Int)),J (0),.string (⟨#[]⟩),J (0)]) jr jD N)<|aU ?_
 intro w33 hw' hF
 replace H:=H.later hw';clear hw' hF
 refine bl H 0 (#[J (8),.string (⟨#[]⟩),J (((pk x.b np:Nat):Int)),J (((pk x.a nr:Nat):Int)),J (0),.string (⟨#[]⟩),J (0)]) iK Z Z Z Z Z N N fun w34 H=>U ?_
 exact⟨(⟨8,⟨#[]⟩,((pk x.b np:Nat):Int),((pk x.a nr:Nat):Int),0,⟨#[]⟩,0⟩:Act),⟨iV I (fun hh=>by have:=hlo2 hh;omega) (fun h=>by omega) (.inl Z),H⟩,vX,Qg⟩
 refine G (Wb Z)<|U<|ZF Z<|W<|Zr<|G (Yi Z) ?_
 refine cR (cG Z Z) Z Z Z (fun h145=> ?_) (fun h145=> ?_)
 refine G (Wb Z)<|U<|ZT Z ?_
 refine bD bZ [0,1,2,3,4,5,6,7] [8] [6] [0,2,4,7] (sp [(6,Sp.one (J ((pk x.a nr:Nat):Int)))]) N N N N Nq (cI _) ?_
 refine aw Z Z Z Z Z (fun w' hw'=>Zf dS Z)<|aw Z Z Z Z Z (fun w' hw'=>aV aj Z (aB ((H.later hw').ent (i:=0) Z) Z))<|aw Z Z Z Z Z (fun w' hw'=>Zf mD Z)<|aw Z Z Z Z Z (fun w' hw'=>aV aj Z (aB ((H.later hw').ent (i:=1) Z) Z))<|aw Z Z Z Z Z (fun w' hw'=>Zf lF Z)<|aw Z Z Z Z Z (fun w' hw'=>aV aj Z (aB ((H.later hw').ent (i:=3) Z) Z))<|g7 aJ Z Z Z Z Z (fun w' hw'=>dk x.a nr w' hxo.2.1.1 hxo.2.1.2 I I) Z<|aw Z Z Z Z Z (fun w' hw'=>bj (cs:= #[J (9),.string (⟨#[]⟩),J (((pk x.b np:Nat):Int)),J (((pk x.a nr:Nat):Int)),J (0),.string (⟨#[]⟩),J (0)]) jr jD N)<|aU ?_
 intro w35 hw' hF
 replace H:=H.later hw';clear hw' hF
 refine bl H 0 (#[J (9),.string (⟨#[]⟩),J (((pk x.b np:Nat):Int)),J (((pk x.a nr:Nat):Int)),J (0),.string (⟨#[]⟩),J (0)]) iK Z Z Z Z Z N N fun w36 H=>U ?_
 exact⟨(⟨9,⟨#[]⟩,((pk x.b np:Nat):Int),((pk x.a nr:Nat):Int),0,⟨#[]⟩,0⟩:Act),⟨iV I (fun hh=>by have:=hlo2 hh;omega) (fun h=>by omega) (.inl Z),H⟩,vX,Qg⟩
 refine G (Wb Z)<|U<|ZF Z<|W<|Zr<|G (Yi Z) ?_
 refine cR (cG Z Z) Z Z Z (fun h156=> ?_) (fun h156=> ?_)
 refine G (Wb Z)<|U<|ZT Z ?_
 refine bD bZ [0,1,2,3,4,5,6] [7] [4] [0,2,5,6] (sp [(4,Sp.one (J ((pk x.c 5:Nat):Int)))]) N N N N Nq (cI _) ?_
 refine aw Z Z Z Z Z (fun w' hw'=>Zf dS Z)<|aw Z Z Z Z Z (fun w' hw'=>aV aj Z (aB ((H.later hw').ent (i:=0) Z) Z))<|aw Z Z Z Z Z (fun w' hw'=>Zf lj Z)<|aw Z Z Z Z Z (fun w' hw'=>aV aj Z (aB ((H.later hw').ent (i:=1) Z) Z))<|g7 aJ Z Z Z Z Z (fun w' hw'=>dk x.c 5 w' hxo.2.2.2.1 hxo.2.2.2.2 I I) Z<|aw Z Z Z Z Z (fun w' hw'=>bp Z Z I I)<|aw Z Z Z Z Z (fun w' hw'=>bj (cs:= #[J (19),.string (⟨#[99,121]⟩),J (((pk x.b np:Nat):Int)),J (1+(((pk x.c 5:Nat):Int))),J (0),.string (⟨#[]⟩),J (0)]) jr jD N)<|aU ?_
 intro w37 hw' hF
 replace H:=H.later hw';clear hw' hF
 refine bl H 0 (#[J (19),.string (⟨#[99,121]⟩),J (((pk x.b np:Nat):Int)),J (1+(((pk x.c 5:Nat):Int))),J (0),.string (⟨#[]⟩),J (0)]) iK Z Z Z Z Z N N fun w38 H=>U ?_
 exact⟨(⟨19,⟨#[99,121]⟩,((pk x.b np:Nat):Int),1+(((pk x.c 5:Nat):Int)),0,⟨#[]⟩,0⟩:Act),⟨iV I (fun hh=>by have:=hlo2 hh;omega) (fun _=>y7) (.inl Z),H⟩,vX,Qg⟩
 refine G (Wb Z)<|U<|ZF Z<|W<|Zr<|G (Yi Z) ?_
 refine cR (bh Z Z) Z Z Z (fun h166=> ?_) (fun h166=> ?_)
 refine G (Wb Z)<|U<|ZT Z ?_
 refine bD bZ [0,1,2,3,4,5,6] [7] [5] [0,1,3,6] (sp [(5,Sp.one (J ((pk x.c 6:Nat):Int)))]) N N N N Nq (cI _) ?_
 refine aw Z Z Z Z Z (fun w' hw'=>Yi Z)<|aw Z Z Z Z Z (fun w' hw'=>Zf dS Z)<|aw Z Z Z Z Z (fun w' hw'=>aV aj Z (aB ((H.later hw').ent (i:=0) Z) Z))<|aw Z Z Z Z Z (fun w' hw'=>Zf lj Z)<|aw Z Z Z Z Z (fun w' hw'=>aV aj Z (aB ((H.later hw').ent (i:=1) Z) Z))<|g7 aJ Z Z Z Z Z (fun w' hw'=>dk x.c 6 w' hxo.2.2.2.1 hxo.2.2.2.2 I I) Z<|aw Z Z Z Z Z (fun w' hw'=>bj (cs:= #[J (20),.string (⟨#[99,121]⟩),J (((pk x.b np:Nat):Int)),J (1),J (((pk x.c 6:Nat):Int)),.string (⟨#[]⟩),J (0)]) jr jD N)<|aU ?_
 intro w39 hw' hF
 replace H:=H.later hw';clear hw' hF
 refine bl H 0 (#[J (20),.string (⟨#[99,121]⟩),J (((pk x.b np:Nat):Int)),J (1),J (((pk x.c 6:Nat):Int)),.string (⟨#[]⟩),J (0)]) iK Z Z Z Z Z N N fun w40 H=>U ?_
 exact⟨(⟨20,⟨#[99,121]⟩,((pk x.b np:Nat):Int),1,((pk x.c 6:Nat):Int),⟨#[]⟩,0⟩:Act),⟨iV I (fun hh=>by have:=hlo2 hh;omega) (fun _=>y7) (.inl Z),H⟩,vX,Qg⟩
 refine G (Wb Z)<|U<|ZF Z<|W<|Zr<|G (Yi Z) ?_
 refine cR (bh Z Z) Z Z Z (fun h176=> ?_) (fun h176=> ?_)
 refine G (Wb Z)<|U<|ZT Z<|Zr<|G (Zf lj Z)<|G (Zd aj H 1 Z Z Z)<|cd aJ (dk x.c 4 _ hxo.2.2.2.1 hxo.2.2.2.2 I I) Z Z ?_
 rintro _ w41 ⟨rfl,hb⟩;replace H:=H.later hb;clear hb
 refine G (bj (cs:= #[J (7),.string (⟨#[]⟩),J (0),J (((pk x.c 4:Nat):Int)),J (0),.string (⟨#[]⟩),J (0)]) jr jD N)<|bl H 0 (#[J (7),.string (⟨#[]⟩),J (0),J (((pk x.c 4:Nat):Int)),J (0),.string (⟨#[]⟩),J (0)]) iK Z Z Z Z Z N N fun w42 H=>U ?_
 exact⟨(⟨7,⟨#[]⟩,0,((pk x.c 4:Nat):Int),0,⟨#[]⟩,0⟩:Act),⟨iV I (fun hh=>by have:=hlo2 hh;omega) (fun h=>by omega) (.inl Z),H⟩,vX,Qg⟩
 refine G (Wb Z)<|U<|ZF Z<|W<|Zr<|G (Yi Z) ?_
 refine cR (bh Z Z) Z Z Z (fun h183=> ?_) (fun h183=> ?_)
 refine G (Wb Z)<|U<|ZT Z<|Zr<|G (Yi Z)<|G (bj (cs:= #[J (18),.string (⟨#[99,121]⟩),J (0),J (1),J (0),.string (⟨#[]⟩),J (0)]) jr jD N)<|bl H 0 (#[J (18),.string (⟨#[99,121]⟩),J (0),J (1),J (0),.string (⟨#[]⟩),J (0)]) iK Z Z Z Z Z N N fun w43 H=>U ?_
 exact⟨(⟨18,⟨#[99,121]⟩,0,1,0,⟨#[]⟩,0⟩:Act),⟨iV I (fun hh=>by have:=hlo2 hh;omega) (fun _=>y7) (.inl Z),H⟩,vX,Qg⟩
 refine G (Wb Z)<|U<|ZF Z<|W<|Zr<|G (Yb Z)<|G (dO Z)<|G (Wb Z)<|U ?_
 refine jm Z (fun hc186=> ?_) (fun hc186=> ?_)
 refine bD bZ [0,1,2,3,4,5,6,7] [8] [6] [0,2,4,7] (sp [(6,Sp.one (J ((pk x.a nr:Nat):Int)))]) N N N N Nq (cI _) ?_
 refine aw Z Z Z Z Z (fun w' hw'=>Zf dS Z)<|aw Z Z Z Z Z (fun w' hw'=>aV aj Z (aB ((H.later hw').ent (i:=0) Z) Z))<|aw Z Z Z Z Z (fun w' hw'=>Zf mD Z)<|aw Z Z Z Z Z (fun w' hw'=>aV aj Z (aB ((H.later hw').ent (i:=1) Z) Z))<|aw Z Z Z Z Z (fun w' hw'=>Zf lF Z)<|aw Z Z Z Z Z (fun w' hw'=>aV aj Z (aB ((H.later hw').ent (i:=3) Z) Z))<|g7 aJ Z Z Z Z Z (fun w' hw'=>dk x.a nr w' hxo.2.1.1 hxo.2.1.2 I I) Z<|aw Z Z Z Z Z (fun w' hw'=>bj (cs:= #[J (9),.string (⟨#[]⟩),J (((pk x.b np:Nat):Int)),J (((pk x.a nr:Nat):Int)),J (0),.string (⟨#[]⟩),J (0)]) jr jD N)<|aU ?_
 intro w44 hw' hF
 replace H:=H.later hw';clear hw' hF
 refine bl H 0 (#[J (9),.string (⟨#[]⟩),J (((pk x.b np:Nat):Int)),J (((pk x.a nr:Nat):Int)),J (0),.string (⟨#[]⟩),J (0)]) iK Z Z Z Z Z N N fun w45 H=>U ?_
 exact⟨(⟨9,⟨#[]⟩,((pk x.b np:Nat):Int),((pk x.a nr:Nat):Int),0,⟨#[]⟩,0⟩:Act),⟨iV I (fun hh=>by have:=hlo2 hh;omega) (fun h=>by omega) (.inl Z),H⟩,vX,Qg⟩
 refine W<|Zr<|G (Yi Z) ?_
 refine cR (bh Z Z) Z Z Z (fun h199=> ?_) (fun h199=> ?_)
 refine G (Wb Z)<|U<|ZT Z ?_
 refine bD bZ [0,1,4,5,6,7,8,9,11,12,2,3,10,13,14] [15] [2,10,13] [0,3,4,6,8,11,14] (sp [(2,Sp.one (J ((pk x.c 3:Nat):Int))),(10,Sp.one (J ((pk x.a nr:Nat):Int))),(13,Sp.one (J ((pk x.c 40:Nat):Int)))]) N N N N Nq (cI _) ?_
 refine aw Z Z Z Z Z (fun w' hw'=>Zf lj Z)<|aw Z Z Z Z Z (fun w' hw'=>aV aj Z (aB ((H.later hw').ent (i:=1) Z) Z))<|aw Z Z Z Z Z (fun w' hw'=>Zf dS Z)<|aw Z Z Z Z Z (fun w' hw'=>aV aj Z (aB ((H.later hw').ent (i:=0) Z) Z))<|aw Z Z Z Z Z (fun w' hw'=>Zf mD Z)<|aw Z Z Z Z Z (fun w' hw'=>aV aj Z (aB ((H.later hw').ent (i:=1) Z) Z))<|aw Z Z Z Z Z (fun w' hw'=>Zf lF Z)<|aw Z Z Z Z Z (fun w' hw'=>aV aj Z (aB ((H.later hw').ent (i:=3) Z) Z))<|aw Z Z Z Z Z (fun w' hw'=>Zf lj Z)<|aw Z Z Z Z Z (fun w' hw'=>aV aj Z (aB ((H.later hw').ent (i:=1) Z) Z))<|g7 aJ Z Z Z Z Z (fun w' hw'=>dk x.c 3 w' hxo.2.2.2.1 hxo.2.2.2.2 I I) Z<|aw Z Z Z Z Z (fun w' hw'=>bp Z Z I I)<|g7 aJ Z Z Z Z Z (fun w' hw'=>dk x.a nr w' hxo.2.1.1 hxo.2.1.2 I I) Z<|g7 aJ Z Z Z Z Z (fun w' hw'=>dk x.c 40 w' hxo.2.2.2.1 hxo.2.2.2.2 I I) Z<|aw Z Z Z Z Z (fun w' hw'=>bj (cs:= #[J (10+(((pk x.c 3:Nat):Int))),.string (⟨#[]⟩),J (((pk x.b np:Nat):Int)),J (((pk x.a nr:Nat):Int)),J (((pk x.c 40:Nat):Int)),.string (⟨#[]⟩),J (0)]) jr jD N)<|aU ?_
 intro w46 hw' hF
 replace H:=H.later hw';clear hw' hF
 refine bl H 0 (#[J (10+(((pk x.c 3:Nat):Int))),.string (⟨#[]⟩),J (((pk x.b np:Nat):Int)),J (((pk x.a nr:Nat):Int)),J (((pk x.c 40:Nat):Int)),.string (⟨#[]⟩),J (0)]) iK Z Z Z Z Z N N fun w47 H=>U ?_
 exact⟨(⟨10+(((pk x.c 3:Nat):Int)),⟨#[]⟩,((pk x.b np:Nat):Int),((pk x.a nr:Nat):Int),((pk x.c 40:Nat):Int),⟨#[]⟩,0⟩:Act),⟨iV I (fun hh=>by rw[hh]at hc186;cases hc186) (fun h=>by omega) (.inl Z),H⟩,vX,Qg⟩
 refine G (Wb Z)<|U<|ZF Z<|W<|Zr<|G (Yi Z) ?_
 refine cR (bh Z Z) Z Z Z (fun h217=> ?_) (fun h217=> ?_)
 refine G (Wb Z)<|U<|ZT Z ?_
 refine bD bZ [0,1,4,5,6,7,8,9,2,3,10,11] [12] [2,10] [0,3,4,6,8,11] (sp [(2,Sp.one (J ((pk x.c 3:Nat):Int))),(10,Sp.one (J ((pk x.a nr:Nat):Int)))]) N N N N Nq (cI _) ?_
 refine aw Z Z Z Z Z (fun w' hw'=>Zf lj Z)<|aw Z Z Z Z Z (fun w' hw'=>aV aj Z (aB ((H.later hw').ent (i:=1) Z) Z))<|aw Z Z Z Z Z (fun w' hw'=>Zf dS Z)<|aw Z Z Z Z Z (fun w' hw'=>aV aj Z (aB ((H.later hw').ent (i:=0) Z) Z))<|aw Z Z Z Z Z (fun w' hw'=>Zf mD Z)<|aw Z Z Z Z Z (fun w' hw'=>aV aj Z (aB ((H.later hw').ent (i:=1) Z) Z))<|aw Z Z Z Z Z (fun w' hw'=>Zf lF Z)<|aw Z Z Z Z Z (fun w' hw'=>aV aj Z (aB ((H.later hw').ent (i:=3) Z) Z))<|g7 aJ Z Z Z Z Z (fun w' hw'=>dk x.c 3 w' hxo.2.2.2.1 hxo.2.2.2.2 I I) Z<|aw Z Z Z Z Z (fun w' hw'=>bp Z Z I I)<|g7 aJ Z Z Z Z Z (fun w' hw'=>dk x.a nr w' hxo.2.1.1 hxo.2.1.2 I I) Z<|aw Z Z Z Z Z (fun w' hw'=>bj (cs:= #[J (13+(((pk x.c 3:Nat):Int))),.string (⟨#[]⟩),J (((pk x.b np:Nat):Int)),J (((pk x.a nr:Nat):Int)),J (0),.string (⟨#[]⟩),J (0)]) jr jD N)<|aU ?_
 intro w48 hw' hF
 replace H:=H.later hw';clear hw' hF
 refine bl H 0 (#[J (13+(((pk x.c 3:Nat):Int))),.string (⟨#[]⟩),J (((pk x.b np:Nat):Int)),J (((pk x.a nr:Nat):Int)),J (0),.string (⟨#[]⟩),J (0)]) iK Z Z Z Z Z N N fun w49 H=>U ?_
 exact⟨(⟨13+(((pk x.c 3:Nat):Int)),⟨#[]⟩,((pk x.b np:Nat):Int),((pk x.a nr:Nat):Int),0,⟨#[]⟩,0⟩:Act),⟨iV I (fun hh=>by rw[hh]at hc186;cases hc186) (fun h=>by omega) (.inl Z),H⟩,vX,Qg⟩
 refine G (Wb Z)<|U<|ZF Z<|mF bZ (fun w'=>w'.heap[b15]? =some (.cells #[J (x.kind),J (x.a),J (x.b),J (x.c)] vp (0,0))/\w'.heap[b5]? =some (.cells #[J (((np:Nat):Int)),J (((nr:Nat):Int)),J (few),J (wt)] iu (0,0))/\ ∃ cs,w'.heap[b16]? =some (.cells cs f5 (0,0))/\cs[1]? =some (.string (pR (pk ((pk x.a 2:Nat):Int) 3)))/\cs[2]? =some (J ((pk x.b np:Nat):Int))) ?_
 intro w50 hw';replace H:=H.later hw';clear hw'
 refine aN 1 N N N Z Z Z Z Nq ⟨H.ent (i:=1) Z,H.ent (i:=3) Z,_,H.ent (i:=0) Z,rfl,rfl⟩ (fun _ hS=>Zf lj Z)<|aN 2 N N N Z Z Z Z Nq ⟨H.ent (i:=1) Z,H.ent (i:=3) Z,_,H.ent (i:=0) Z,rfl,rfl⟩ (fun _ hS=>aV aj Z (aB hS.1 Z))<|aN 6 N N N Z Z Z Z Nq ⟨H.ent (i:=1) Z,H.ent (i:=3) Z,_,H.ent (i:=0) Z,rfl,rfl⟩ (fun _ hS=>Zf fb Z)<|aN 7 N N N Z Z Z Z Nq ⟨H.ent (i:=1) Z,H.ent (i:=3) Z,_,H.ent (i:=0) Z,rfl,rfl⟩ (fun _ hS=>aV ba Z (hS.2.2.elim fun _ h=>aB h.1 h.2.1))<|aN 8 N N N Z Z Z Z Nq ⟨H.ent (i:=1) Z,H.ent (i:=3) Z,_,H.ent (i:=0) Z,rfl,rfl⟩ (fun _ hS=>Zf dS Z)<|aN 9 N N N Z Z Z Z Nq ⟨H.ent (i:=1) Z,H.ent (i:=3) Z,_,H.ent (i:=0) Z,rfl,rfl⟩ (fun _ hS=>aV aj Z (hS.2.2.elim fun _ h=>aB h.1 h.2.2))<|aN 10 N N N Z Z Z Z Nq ⟨H.ent (i:=1) Z,H.ent (i:=3) Z,_,H.ent (i:=0) Z,rfl,rfl⟩ (fun _ hS=>Zf mD Z)<|aN 11 N N N Z Z Z Z Nq ⟨H.ent (i:=1) Z,H.ent (i:=3) Z,_,H.ent (i:=0) Z,rfl,rfl⟩ (fun _ hS=>aV aj Z (aB hS.1 Z))<|aN 12 N N N Z Z Z Z Nq ⟨H.ent (i:=1) Z,H.ent (i:=3) Z,_,H.ent (i:=0) Z,rfl,rfl⟩ (fun _ hS=>Zf lF Z)<|aN 13 N N N Z Z Z Z Nq ⟨H.ent (i:=1) Z,H.ent (i:=3) Z,_,H.ent (i:=0) Z,rfl,rfl⟩ (fun _ hS=>aV aj Z (aB hS.2.1 Z)) ?_
 refine OM 0 3 N Z Z ?_ ?_
 refine sY (vs:=[J (11),J (13),J (1)]) H aZ v8 Z Z Z Z Z Z fun w51 b85 H=>U ?_
 refine⟨⟨H.ent (i:=2) Z,H.ent (i:=4) Z,_,H.ent (i:=1) Z,rfl,rfl⟩,?_⟩
 refine r5 3 N Z<|cd aJ (dk x.c 3 _ hxo.2.2.2.1 hxo.2.2.2.2 I I) Z Z ?_
 rintro _ w52 ⟨rfl,hb⟩;replace H:=H.later hb;clear hb
 refine U ?_
 refine⟨⟨H.ent (i:=2) Z,H.ent (i:=4) Z,_,H.ent (i:=1) Z,rfl,rfl⟩,?_⟩
 refine aN 4 N N N Z Z Z Z Nq ⟨H.ent (i:=2) Z,H.ent (i:=4) Z,_,H.ent (i:=1) Z,rfl,rfl⟩ (fun _ hS=>sU aZ Z Z I I) ?_
 refine OM 5 14 N Z Z ?_ ?_
 refine G (aV aj Z (aB (H.ent (i:=0) Z) (tG (i5 x.c (show 0<3 by omega)))))<|U ?_
 refine⟨⟨H.ent (i:=2) Z,H.ent (i:=4) Z,_,H.ent (i:=1) Z,rfl,rfl⟩,?_⟩
 refine r5 14 N Z<|cd aJ (dk x.a nr _ hxo.2.1.1 hxo.2.1.2 I I) Z Z ?_
 rintro _ w53 ⟨rfl,hb⟩;replace H:=H.later hb;clear hb
 refine U ?_
 refine⟨⟨H.ent (i:=2) Z,H.ent (i:=4) Z,_,H.ent (i:=1) Z,rfl,rfl⟩,?_⟩
 refine aN 15 N N N Z Z Z Z Nq ⟨H.ent (i:=2) Z,H.ent (i:=4) Z,_,H.ent (i:=1) Z,rfl,rfl⟩ (fun _ hS=>bj (cs:= #[J (Dt (pk x.c 3)),.string (pR (pk ((pk x.a 2:Nat):Int) 3)),J (((pk x.b np:Nat):Int)),J (((pk x.a nr:Nat):Int)),J (0),.string (⟨#[]⟩),J (0)]) jr jD N)<|r5 16 N Z<|bl H 1 (#[J (Dt (pk x.c 3)),.string (pR (pk ((pk x.a 2:Nat):Int) 3)),J (((pk x.b np:Nat):Int)),J (((pk x.a nr:Nat):Int)),J (0),.string (⟨#[]⟩),J (0)]) iK Z Z Z Z Z N N fun w54 H=>U ?_
 refine⟨⟨H.ent (i:=2) Z,H.ent (i:=4) Z,_,H.ent (i:=1) Z,rfl,rfl⟩,?_⟩
 refine jP N ?_
 have hkd:=Aa (pk x.c 3)
 exact⟨(⟨Dt (pk x.c 3),pR (pk ((pk x.a 2:Nat):Int) 3),((pk x.b np:Nat):Int),((pk x.a nr:Nat):Int),0,⟨#[]⟩,0⟩:Act),⟨iV I (fun hh=>by rw[hh]at hc186;cases hc186) (fun _=>qS _) (.inl Z),H.forget ((.cons _ (ap _))) (fun _ h=>h)⟩,vX,Qg⟩
 refine cd aJ (dk x.a nr _ hxo.2.1.1 hxo.2.1.2 I I) Z Z ?_
 rintro _ w55 ⟨rfl,hb⟩;replace H:=H.later hb;clear hb
 refine U ?_
 refine⟨⟨H.ent (i:=2) Z,H.ent (i:=4) Z,_,H.ent (i:=1) Z,rfl,rfl⟩,?_⟩
 refine r5 5 N Z<|G (aV aj Z (aB (H.ent (i:=0) Z) (tG (i5 x.c (show 0<3 by omega)))))<|U ?_
 refine⟨⟨H.ent (i:=2) Z,H.ent (i:=4) Z,_,H.ent (i:=1) Z,rfl,rfl⟩,?_⟩
 refine aN 15 N N N Z Z Z Z Nq ⟨H.ent (i:=2) Z,H.ent (i:=4) Z,_,H.ent (i:=1) Z,rfl,rfl⟩ (fun _ hS=>bj (cs:= #[J (Dt (pk x.c 3)),.string (pR (pk ((pk x.a 2:Nat):Int) 3)),J (((pk x.b np:Nat):Int)),J (((pk x.a nr:Nat):Int)),J (0),.string (⟨#[]⟩),J (0)]) jr jD N)<|r5 16 N Z<|bl H 1 (#[J (Dt (pk x.c 3)),.string (pR (pk ((pk x.a 2:Nat):Int) 3)),J (((pk x.b np:Nat):Int)),J (((pk x.a nr:Nat):Int)),J (0),.string (⟨#[]⟩),J (0)]) iK Z Z Z Z Z N N fun w56 H=>U ?_
 refine⟨⟨H.ent (i:=2) Z,H.ent (i:=4) Z,_,H.ent (i:=1) Z,rfl,rfl⟩,?_⟩
 refine jP N ?_
 have hkd:=Aa (pk x.c 3)
 exact⟨(⟨Dt (pk x.c 3),pR (pk ((pk x.a 2:Nat):Int) 3),((pk x.b np:Nat):Int),((pk x.a nr:Nat):Int),0,⟨#[]⟩,0⟩:Act),⟨iV I (fun hh=>by rw[hh]at hc186;cases hc186) (fun _=>qS _) (.inl Z),H.forget ((.cons _ (ap _))) (fun _ h=>h)⟩,vX,Qg⟩
 refine cd aJ (dk x.c 3 _ hxo.2.2.2.1 hxo.2.2.2.2 I I) Z Z ?_
 rintro _ w57 ⟨rfl,hb⟩;replace H:=H.later hb;clear hb
 refine U ?_
 refine⟨⟨H.ent (i:=1) Z,H.ent (i:=3) Z,_,H.ent (i:=0) Z,rfl,rfl⟩,?_⟩
 refine OM 0 14 N Z Z ?_ ?_
 refine sY (vs:=[J (11),J (13),J (1)]) H aZ v8 Z Z Z Z Z Z fun w58 b85 H=>U ?_
 refine⟨⟨H.ent (i:=2) Z,H.ent (i:=4) Z,_,H.ent (i:=1) Z,rfl,rfl⟩,?_⟩
 refine aN 4 N N N Z Z Z Z Nq ⟨H.ent (i:=2) Z,H.ent (i:=4) Z,_,H.ent (i:=1) Z,rfl,rfl⟩ (fun _ hS=>sU aZ Z Z I I) ?_
 refine OM 5 14 N Z Z ?_ ?_
 refine G (aV aj Z (aB (H.ent (i:=0) Z) (tG (i5 x.c (show 0<3 by omega)))))<|U ?_
 refine⟨⟨H.ent (i:=2) Z,H.ent (i:=4) Z,_,H.ent (i:=1) Z,rfl,rfl⟩,?_⟩
 refine r5 14 N Z<|cd aJ (dk x.a nr _ hxo.2.1.1 hxo.2.1.2 I I) Z Z ?_
 rintro _ w59 ⟨rfl,hb⟩;replace H:=H.later hb;clear hb
 refine U ?_
 refine⟨⟨H.ent (i:=2) Z,H.ent (i:=4) Z,_,H.ent (i:=1) Z,rfl,rfl⟩,?_⟩
 refine aN 15 N N N Z Z Z Z Nq ⟨H.ent (i:=2) Z,H.ent (i:=4) Z,_,H.ent (i:=1) Z,rfl,rfl⟩ (fun _ hS=>bj (cs:= #[J (Dt (pk x.c 3)),.string (pR (pk ((pk x.a 2:Nat):Int) 3)),J (((pk x.b np:Nat):Int)),J (((pk x.a nr:Nat):Int)),J (0),.string (⟨#[]⟩),J (0)]) jr jD N)<|r5 16 N Z<|bl H 1 (#[J (Dt (pk x.c 3)),.string (pR (pk ((pk x.a 2:Nat):Int) 3)),J (((pk x.b np:Nat):Int)),J (((pk x.a nr:Nat):Int)),J (0),.string (⟨#[]⟩),J (0)]) iK Z Z Z Z Z N N fun w60 H=>U ?_
 refine⟨⟨H.ent (i:=2) Z,H.ent (i:=4) Z,_,H.ent (i:=1) Z,rfl,rfl⟩,?_⟩
 refine jP N ?_
 have hkd:=Aa (pk x.c 3)
 exact⟨(⟨Dt (pk x.c 3),pR (pk ((pk x.a 2:Nat):Int) 3),((pk x.b np:Nat):Int),((pk x.a nr:Nat):Int),0,⟨#[]⟩,0⟩:Act),⟨iV I (fun hh=>by rw[hh]at hc186;cases hc186) (fun _=>qS _) (.inl Z),H.forget ((.cons _ (ap _))) (fun _ h=>h)⟩,vX,Qg⟩
 refine cd aJ (dk x.a nr _ hxo.2.1.1 hxo.2.1.2 I I) Z Z ?_
 rintro _ w61 ⟨rfl,hb⟩;replace H:=H.later hb;clear hb
 refine U ?_
 refine⟨⟨H.ent (i:=2) Z,H.ent (i:=4) Z,_,H.ent (i:=1) Z,rfl,rfl⟩,?_⟩
 refine r5 5 N Z<|G (aV aj Z (aB (H.ent (i:=0) Z) (tG (i5 x.c (show 0<3 by omega)))))<|U ?_
 refine⟨⟨H.ent (i:=2) Z,H.ent (i:=4) Z,_,H.ent (i:=1) Z,rfl,rfl⟩,?_⟩
 refine aN 15 N N N Z Z Z Z Nq ⟨H.ent (i:=2) Z,H.ent (i:=4) Z,_,H.ent (i:=1) Z,rfl,rfl⟩ (fun _ hS=>bj (cs:= #[J (Dt (pk x.c 3)),.string (pR (pk ((pk x.a 2:Nat):Int) 3)),J (((pk x.b np:Nat):Int)),J (((pk x.a nr:Nat):Int)),J (0),.string (⟨#[]⟩),J (0)]) jr jD N)<|r5 16 N Z<|bl H 1 (#[J (Dt (pk x.c 3)),.string (pR (pk ((pk x.a 2:Nat):Int) 3)),J (((pk x.b np:Nat):Int)),J (((pk x.a nr:Nat):Int)),J (0),.string (⟨#[]⟩),J (0)]) iK Z Z Z Z Z N N fun w62 H=>U ?_
 refine⟨⟨H.ent (i:=2) Z,H.ent (i:=4) Z,_,H.ent (i:=1) Z,rfl,rfl⟩,?_⟩
 refine jP N ?_
 have hkd:=Aa (pk x.c 3)
 exact⟨(⟨Dt (pk x.c 3),pR (pk ((pk x.a 2:Nat):Int) 3),((pk x.b np:Nat):Int),((pk x.a nr:Nat):Int),0,⟨#[]⟩,0⟩:Act),⟨iV I (fun hh=>by rw[hh]at hc186;cases hc186) (fun _=>qS _) (.inl Z),H.forget ((.cons _ (ap _))) (fun _ h=>h)⟩,vX,Qg⟩
 refine cd aJ (dk x.a nr _ hxo.2.1.1 hxo.2.1.2 I I) Z Z ?_
 rintro _ w63 ⟨rfl,hb⟩;replace H:=H.later hb;clear hb
 refine U ?_
 refine⟨⟨H.ent (i:=1) Z,H.ent (i:=3) Z,_,H.ent (i:=0) Z,rfl,rfl⟩,?_⟩
 refine r5 0 N Z<|sY (vs:=[J (11),J (13),J (1)]) H aZ v8 Z Z Z Z Z Z fun w64 b85 H=>U ?_
 refine⟨⟨H.ent (i:=2) Z,H.ent (i:=4) Z,_,H.ent (i:=1) Z,rfl,rfl⟩,?_⟩
 refine aN 4 N N N Z Z Z Z Nq ⟨H.ent (i:=2) Z,H.ent (i:=4) Z,_,H.ent (i:=1) Z,rfl,rfl⟩ (fun _ hS=>sU aZ Z Z I I)<|r5 5 N Z<|G (aV aj Z (aB (H.ent (i:=0) Z) (tG (i5 x.c (show 0<3 by omega)))))<|U ?_
 refine⟨⟨H.ent (i:=2) Z,H.ent (i:=4) Z,_,H.ent (i:=1) Z,rfl,rfl⟩,?_⟩
 refine aN 15 N N N Z Z Z Z Nq ⟨H.ent (i:=2) Z,H.ent (i:=4) Z,_,H.ent (i:=1) Z,rfl,rfl⟩ (fun _ hS=>bj (cs:= #[J (Dt (pk x.c 3)),.string (pR (pk ((pk x.a 2:Nat):Int) 3)),J (((pk x.b np:Nat):Int)),J (((pk x.a nr:Nat):Int)),J (0),.string (⟨#[]⟩),J (0)]) jr jD N)<|r5 16 N Z<|bl H 1 (#[J (Dt (pk x.c 3)),.string (pR (pk ((pk x.a 2:Nat):Int) 3)),J (((pk x.b np:Nat):Int)),J (((pk x.a nr:Nat):Int)),J (0),.string (⟨#[]⟩),J (0)]) iK Z Z Z Z Z N N fun w65 H=>U ?_
 refine⟨⟨H.ent (i:=2) Z,H.ent (i:=4) Z,_,H.ent (i:=1) Z,rfl,rfl⟩,?_⟩
 refine jP N ?_
 have hkd:=Aa (pk x.c 3)
 exact⟨(⟨Dt (pk x.c 3),pR (pk ((pk x.a 2:Nat):Int) 3),((pk x.b np:Nat):Int),((pk x.a nr:Nat):Int),0,⟨#[]⟩,0⟩:Act),⟨iV I (fun hh=>by rw[hh]at hc186;cases hc186) (fun _=>qS _) (.inl Z),H.forget ((.cons _ (ap _))) (fun _ h=>h)⟩,vX,Qg⟩
 rintro a ρ1 w66 ⟨hga,H⟩
 show CW _ _ _ _ (dv (gk _ _ ρ1) []) w66
 refine Zr<|G (Ys Z)<|G (Zw dP H 0 Z Z Z)<|sY (vs:=[.agg #[J (a.kind),.string (a.name),J (a.part),J (a.n),J (a.m),.string (a.text),J (a.lost)]]) H wm jD Z Z Z Z Z Z fun w67 b232 H=>vU (Y:=tg) zg (K:=[(b232,_),(b16,_),(b15,_),(b29,_),(b5,_)]) (L:=L) (M:=[]) H ho (es:=pq np++es) (news:=[a]) Z Z Z (vY.row (m:=1) (sz:=tg.sz) (H.ent (i:=0) Z) Z) (by simp only[bP];rw[ay];unfold pq;rw[ay,ko];show(np+3+es.length+1)*_<=_;omega) Z ?_
 intro A5 c5 w68 L5 h5 h5m ho5 H
 rw[aD]at ho5 h5⊢
 refine G (Ws Z)<|U<|Zr<|G (Yi Z)<|G (bp Z Z I I)<|G (Wi Z)<|U ?_
 exact⟨(i+1,es++[a],A5,c5,L5),⟨by omega,by omega,by rw[ay,hel];rfl,fun y hy=>(by rcases ar.1 hy with hy|hy;exact hes y hy;rw[aq.1 hy];exact hga),ho5,H.forget (.cons _ (.cons _ (.cons _ (ap _)))) (fun _ h=>h)⟩,kZ Z Z,Qg,by show l.length- (i+1)<l.length-i;omega⟩
 refine G (Kt Z Z)<|U<|ZF Z<|Zx<|W<|Zr<|G (Ys Z)<|G (Ws Z)<|U<|Zt ?_
 exact cF (v:=.slice A (pq np++es).length c) Z Z ⟨es,A,c,L,rfl,by omega,hes,ho,H.forget (L':=L) (.cons _ (.cons _ (by rw[aY];exact ap _))) (by simp)⟩
 refine G (Yb Z)<|ZN<|ZN<|ZN<|G (N Z Z)<|U<|ZF Z<|Zx<|W<|Zr<|G (Ys Z)<|G (Ws Z)<|U<|Zt ?_
 exact cF (v:=.slice A (pq np++es).length c) Z Z ⟨es,A,c,L,rfl,by omega,hes,ho,H.forget (L':=L) (.cons _ (.cons _ (by rw[aY];exact ap _))) (by simp)⟩
def JR (lo hi:Nat) (r:Rn):ci:=⟨lo,hi,r.rd lo hi,fun _ _ hk h=>h.st hk⟩
def PY (w:World) (W0:Wa) (acts:List Act) (v:Value) (w2:World):Prop:= ∃ (xs:List Aq) (oA:Option Addr) (oC:Nat) (b:Bk),v=.tuple #[.slice oA xs.length oC,.agg b.c.toArray,.bool true]/\nL W0 acts (xs.map Aq.x) b.a/\(Rn.mk xs oA oC b).rd w.heap.size w2.heap.size w2/\Below w.heap.size w w2
theorem Dh {a b:Int}:1<=1+pk a 3/\1+pk a 3<=4/\1<=1+pk b 3/\1+pk b 3<=5/\1<=1+pk a (1+pk b 3)/\1+pk a (1+pk b 3)<=1+pk b 3/\(1:Int)<=5+(pk b 20:Nat)/\(5:Int)+(pk b 20:Nat)<=1000:=by
 have p1:=i5 a (show 0<3 by omega)
 have p2:=i5 b (show 0<3 by omega)
 have p3:=i5 a (show 0<1+pk b 3 by omega)
 have p4:=i5 b (show 0<20 by omega)
 omega
theorem Ds {np nr few:Nat} {wt:Int} {acts:List Act} {A0:Option Addr} {c0:Nat} (w:World) (q1:1<=np) (q4:np<=4) (n1:1<=nr) (n5:nr<=5) (f1:1<=few) (f2:few<=nr) (t1:1<=wt) (t2:wt<=1000) (hr:Rd tg 0 w.heap.size A0 acts w) (hl:acts.length<=400) (hg: ∀ a∈acts,ue np nr a):dd aa vJ [.agg #[J (np:Nat),J (nr:Nat),J (few:Nat),J wt],.slice A0 acts.length c0] w (PY w (sm np nr few wt) acts):=by
 refine aE uK Z Z ?_
 have H:=Hp.startRd hr
 show CW _ _ _ _ (args [.agg #[J (np:Nat),J (nr:Nat),J (few:Nat),J wt],.slice A0 acts.length c0]) w
 refine W<|Zr<|fS H Z Z fun w1 b2 H=>G (Ws Z)<|eC H nN Z fun w2 b5 H=>G (Wb Z)<|U<|W<|Zr<|G (Zw rR H 1 Z Z Z)<|G (Ys Z)<|cd B3 (N6 _ q1 q4 n1 n5 f1 f2 t1 t2 (H.rd0 0 Z) hl hg) Z Z ?_
 have hlo:=H.size
 rintro _ w3 ⟨⟨xs,oA,oC,⟨ps,pA,pC,co,clo,chi,gr,glo,ghi,sns,snA,snC⟩⟩,rfl,hrun,hrd,hb⟩;replace H:=H.learn hb (JR w2.heap.size w3.heap.size ⟨xs,oA,oC,⟨ps,pA,pC,co,clo,chi,gr,glo,ghi,sns,snA,snC⟩⟩) hrd (ao _) (ao _)
 have hxl:xs.length=acts.length:=by have:=hrun.len;rwa[bC]at this
 refine G (Yu Z)<|G (Xs Z Z)<|G (Xa Z Z)<|G (Xi Z Z)<|eC H nN Z fun w4 b8 H=>G (Ws Z)<|bl H 0 (#[.slice pA ps.length pC,J (co.clock),J (co.next),J (co.wait),.slice co.A co.txs.length co.cap,J (gr.clock),J (gr.wait),J (gr.gen),.slice gr.mA gr.ms.length gr.mC,.slice gr.oA gr.os.length gr.oC,.slice snA sns.length snC]) kF Z Z Z Z Z N N fun w5 H=>G (Wi Z)<|U<|W ?_
 refine bD bZ [0,1,2,3,4,5,6,7,8,9,10,11] [12,13] [] [0,2,3,4,5,6,7,8,9,10,11] (sp []) N N N N Nq (cI _) ?_
 refine aw Z Z Z Z Z (fun w' hw'=>Ys Z)<|aw Z Z Z Z Z (fun w' hw'=>iP nI Z ((H.later hw').ent (i:=0) Z) Z)<|aw Z Z Z Z Z (fun w' hw'=>Yi Z)<|aw Z Z Z Z Z (fun w' hw'=>tV Z Z Z)<|aw Z Z Z Z Z (fun w' hw'=>Yb Z)<|aw Z Z Z Z Z (fun w' hw'=>Ys Z)<|aw Z Z Z Z Z (fun w' hw'=>bn Fi Z)<|aw Z Z Z Z Z (fun w' hw'=>Ys Z)<|aw Z Z Z Z Z (fun w' hw'=>bn z5 Z)<|aw Z Z Z Z Z (fun w' hw'=>tV Z Z (by dsimp only;omega))<|aw Z Z Z Z Z (fun w' hw'=>Kt Z Z)<|aw Z Z Z Z Z (fun w' hw'=>Ws Z)<|aU ?_
 intro w6 hw' hF
 replace H:=H.later hw';clear hw' hF
 refine bl H 1 (#[.slice pA ps.length pC,J (co.clock),J (co.next),J (co.wait),.slice co.A co.txs.length co.cap,J (gr.clock),J (gr.wait),J (gr.gen),.slice gr.mA gr.ms.length gr.mC,.slice gr.oA gr.os.length gr.oC,.slice snA sns.length snC]) kF Z Z Z Z Z N N fun w7 H=>G (Wb Z)<|U<|Zt ?_
 exact Lw (v0:=.slice oA xs.length oC) (cs1:= #[.slice pA ps.length pC,J (co.clock),J (co.next),J (co.wait),.slice co.A co.txs.length co.cap,J (gr.clock),J (gr.wait),J (gr.gen),.slice gr.mA gr.ms.length gr.mC,.slice gr.oA gr.os.length gr.oC,.slice snA sns.length snC]) (v2:=.bool true) Z Z nI Z (H.ent (i:=1) Z) Z Z ⟨xs,oA,oC,⟨ps,pA,pC,co,clo,chi,gr,glo,ghi,sns,snA,snC⟩,rfl,hrun,Rn.rd.mono (H.fact (i:=0) Z) hlo (H.facts _ (aA ..)).2.1,H.below⟩
theorem IF {a b:Int} (ha:i64 a) (hb:i64 b): ∃ (np nr few:Nat) (wt:Int),1<=np/\np<=4/\1<=nr/\nr<=5/\1<=few/\few<=nr/\1<=wt/\wt<=1000/\ ∀ w:World,dd aa oa [J a,J b] w fun v w2=>v=.agg #[J (np:Nat),J (nr:Nat),J (few:Nat),J wt]/\Below w.heap.size w w2:=by
 obtain⟨h1,h2,h3,h4,h5,h6,h7,h8⟩:=@Dh a b
 refine⟨1+pk a 3,1+pk b 3,1+pk a (1+pk b 3),5+(pk b 20:Nat),h1,h2,h3,h4,h5,h6,h7,by omega,fun w=>(Kq a b w ha hb).mono fun v w2 ⟨g1,g2⟩=>⟨?_,g2⟩⟩
 rw[g1,show((1+pk a 3:Nat):Int)=1+(pk a 3:Nat) by omega,show((1+pk b 3:Nat):Int)=1+(pk b 3:Nat) by omega,show((1+pk a (1+pk b 3):Nat):Int)=1+(pk a (1+pk b 3):Nat) by omega]
theorem CU {np nr:Nat} {hard:Bool} {body:List Act} (h1:1<=np) (hr:1<=nr) (hb: ∀ a∈body,F6 np nr hard a): ∀ a∈pq np++body,ue np nr a:=fun a ha=>by
 rcases ar.1 ha with ha|ha
 unfold pq at ha
 rcases ar.1 ha with ha|ha
 obtain⟨p,hp,rfl⟩:=bv.1 ha
 have:=List.mem_range.1 hp
 refine(iV (hard:=true) (k:=13) (pt:=p) (n:=0) (m:=0) (lo:=0) I (by simp) I (.inl Z)).g
 simp only[av,bx,or_false]at ha
 rcases ha with rfl|rfl|rfl<;>exact(iV (hard:=true) (pt:=0) (n:=0) (m:=0) (lo:=0) I (by simp) (fun _=>qS _) (.inl Z)).g
 exact(hb a ha).g
theorem Hp.rnPs {w0 w:World} {L:List (Nat×Obj)} {F:List ci} {lo hi:Nat} {r:Rn} (H:Hp w0 w L F) (i:Nat) (hF:F[i]? =some (JR lo hi r)):Hp w0 w L (dG Bh lo hi r.b.pA r.b.ps::F):=by
 refine⟨H.below,H.ents,H.nodup,fun f hf=> ?_⟩
 rcases av.1 hf with rfl|hf
 obtain⟨h1,h2,h3⟩:=H.facts _ (ae hF)
 exact⟨h1.ps,h2,h3⟩
 exact H.facts f hf
theorem Hp.rn0 {w0 w:World} {L:List (Nat×Obj)} {F:List ci} {lo hi:Nat} {r:Rn} (H:Hp w0 w L F) (i:Nat) (hF:F[i]? =some (JR lo hi r)):r.rd 0 w.heap.size w:=
 Rn.rd.mono (H.fact hF) (bA _) (H.facts _ (ae hF)).2.1


theorem Hp.rnReps {w0 w:World} {L:List (Nat×Obj)} {F:List ci} {lo hi:Nat} {r:Rn} (H:Hp w0 w L F) (i:Nat) (hF:F[i]? =some (JR lo hi r)) {q:Pq} (hq:q∈r.b.ps):Hp w0 w L (dG gd lo hi q.p.rA q.p.reps::F):=by
 refine⟨H.below,H.ents,H.nodup,fun f hf=> ?_⟩
 rcases av.1 hf with rfl|hf
 obtain⟨h1,h2,h3⟩:=H.facts _ (ae hF)
 exact⟨(h1.pa q hq).reps,h2,h3⟩
 exact H.facts f hf
section
open Go.Maps (Keyed)
theorem Ev:aa.underlying 70=some (.array 3 3):=by kernel_rfl
theorem HB:aa.underlying 69=some (.map 70 4):=by kernel_rfl
theorem O7:aa.keyTypeAt 2 70=true:=by kernel_rfl
theorem OW:aa.tiled 2 70=true:=by kernel_rfl
theorem O6:aa.keyType 70=true:=by kernel_rfl
theorem NO:aa.cellsOf 70=3:=by kernel_rfl
theorem OU:aa.underlying 3=some (.int .i64):=by kernel_rfl
theorem Pj:aa.cellsOf 3=1:=by kernel_rfl
theorem OV:aa.types.size=(aa.types.size-1)+1:=by kernel_rfl
theorem Ht:kW aa 70 3=true:=by kernel_rfl
theorem N2:(aa.info? 70).map (·.size)=some 3:=by kernel_rfl
theorem OS:(aa.info? 70).bind (·.zero)=some (.agg #[J 0,J 0,J 0]):=by kernel_rfl
theorem PE:Keyed aa 70:=Maps.Keyed.of_law (deep_law (m:=2) (by decide) O7 OW (by rw[Ev]))
theorem NV {a:Int} (h1:0<=a/\a<=1073741824):(Lit.int .i64 a).wf=true:=by
 have e1:IntKind.min .i64= -9223372036854775808:=by decide
 have e2:IntKind.max .i64=9223372036854775807:=by decide
 simp only[Lit.wf,e1,e2]
 simp;omega
def M6 (k:Int×Int×Int):Value:=.agg #[J k.1,J k.2.1,J k.2.2]
theorem zb (a b:Int×Int×Int) (h:M6 a=M6 b):a=b:=by
 unfold M6 at h
 simp at h
 exact Prod.ext h.1 (Prod.ext h.2.1 h.2.2)
theorem O8 {a b c:Int} (h1:0<=a/\a<=1073741824) (h2:0<=b/\b<=1073741824) (h3:0<=c/\c<=1073741824):keyOf aa 70 (M6 (a,b,c))=some (.string (keyBytes [Lit.int .i64 a,Lit.int .i64 b,Lit.int .i64 c])):=by
 have hl: ∀ m,aa.keyLits (m+1+1) 70 [J a,J b,J c]=some [Lit.int .i64 a,Lit.int .i64 b,Lit.int .i64 c]:=fun m=>by
  unfold Program.keyLits
  rw[Ev]
  simp[NO,Pj,Program.keyLits,OU,NV h1,NV h2,NV h3,xh]
 unfold keyOf
 rw[Ev]
 dsimp only
 rw[OV,show(M6 (a,b,c)).cells.toList=[J a,J b,J c]from rfl,hl]
 simp[O6,Value.formed,M6,Ev,NO]
theorem Nh {e:cH} (h:ql e):(0<=e.pid/\e.pid<=1073741824)/\(0<=e.ver/\e.ver<=1073741824)/\(0<=e.seq/\e.seq<=1073741824):=by
 obtain⟨_,_,hn,_⟩:=ov h
 exact⟨hn e.pid (by simp[cH.nums]),hn e.ver (by simp[cH.nums]),hn e.seq (by simp[cH.nums])⟩
def Ej (es:List cH) (k:Nat) (f:Int×Int×Int->Bool):Prop:= ∀ q,f q=true-> ∃ (i:Nat) (e:cH),i<k/\es[i]? =some e/\e.kind=1/\(e.pid,e.ver,e.seq)=q
theorem Ej.zero (es:List cH):Ej es 0 fun _=>false:=fun _ h=>by cases h
theorem Ej.put {es:List cH} {k:Nat} {f:Int×Int×Int->Bool} (h:Ej es k f) {x:cH} (hx:es[k]? =some x) {v:Bool} (hv:v=true->f (x.pid,x.ver,x.seq)=true∨x.kind=1):Ej es (k+1) (xv f (x.pid,x.ver,x.seq) v):=fun q hq=>by
 unfold xv at hq
 by_cases hk:q=(x.pid,x.ver,x.seq)
 subst hk
 rw[if_pos Z]at hq
 rcases hv hq with h1|h1
 obtain⟨i,e,g1,g⟩:=h _ h1
 exact⟨i,e,by omega,g⟩
 exact⟨k,x,by omega,hx,h1,rfl⟩
 rw[if_neg hk]at hq
 obtain⟨i,e,g1,g⟩:=h _ hq
 exact⟨i,e,by omega,g⟩
theorem Ej.no {es:List cH} {k:Nat} {f:Int×Int×Int->Bool} (h:Ej es k f) (hs:yb es) {x:cH} (hx:es[k]? =some x) (h0:x.pid>0) (h1:x.kind=1):f (x.pid,x.ver,x.seq)=false:=by
 cases hf:f (x.pid,x.ver,x.seq)with
 |false=>rfl
 |true=>
  obtain⟨i,e,g1,g2,g3,g4⟩:=h _ hf
  injection g4 with a b
  injection b with b c
  exact absurd ⟨a,b,c⟩ (IH hs g1 g2 hx I h1 g3)
theorem Oi {np nr few k:Nat} {wt:Int} {K:Nat->List cH} {b:Bk} (h:WI np nr few wt k K b.a) {n i:Nat} {q:Pq} {r:eW} (hq:b.ps[n]? =some q) (hr:q.p.reps[i]? =some r):yb r.es/\(∀ e∈r.es,ql e)/\r.es.length<=400:=by
 have e1:b.a.ps[n]? =some q.p.a:=by show(b.ps.map fun q=>q.p.a)[n]? =_;rw[aM,hq];rfl
 have e3:q.p.a.reps[i]? =some r.a:=by show(q.p.reps.map eW.a)[i]? =_;rw[aM,hr];rfl
 have o:=(h.ps.gt n _ e1).1.ok.at_ e3
 exact⟨(h.ps.gt n _ e1).2 i _ e3,o.gl.good,o.gl.len⟩
theorem Ff (l:List Hw) (A:Option Addr) (c:Nat) (a b:Int) (w:World) (hr:Rd vC 0 w.heap.size A l w) (hok: ∀ r∈l,r.ok) (_:l.length<=9223372036854775807) (ha:i64 a) (hb:i64 b):dd aa rG [.slice A l.length c,J a,J b] w fun v w2=>v=.bool true/\Below w.heap.size w w2:=by
 refine aE re Z Z ?_
 have H:=Hp.startRd hr
 obtain⟨np,nr,few,wt,q1,q4,n1,n5,f1,f2,t1,t2,hset⟩:=IF ha hb
 refine W<|Zr<|G (Wb Z)<|U<|W<|Zr<|G (Yi Z)<|G (Yi Z)<|cd te (hset _) Z Z ?_
 rintro _ w1 ⟨rfl,hb⟩;replace H:=H.later hb;clear hb
 refine eC H C3 Z fun w2 b7 H=>bl H 0 (#[J (((np:Nat):Int)),J (((nr:Nat):Int)),J (((few:Nat):Int)),J (wt)]) Cm Z Z Z Z Z N N fun w3 H=>U<|W ?_
 refine eu (τ:=List Act×Rn×Nat×Nat×Nat) [8,9,10,25,26,27,28,29,30,31,32,33] (fun(_,r,b9,_,_)=>[(8,.slice r.oA r.xs.length r.oC),(9,.pointer (Qd b9)),(10,.bool true)]) (fun(body,r,b9,lo,hi) w'=>body.length<=80/\(∀ a∈pq np++body,ue np nr a)/\nL (sm np nr few wt) (pq np++body) (r.xs.map Aq.x) r.b.a/\Hp w w' ((b9,.cells r.b.c.toArray jY (0,0))::(b7,.cells #[J (((np:Nat):Int)),J (((nr:Nat):Int)),J (((few:Nat):Int)),J (wt)] iu (0,0))::[]) (JR lo hi r::[dG vC 0 w.heap.size A l])) ?_ ?_
 ·skip
  refine mF bZ (fun w'=>w'.heap[b7]? =some (.cells #[J (((np:Nat):Int)),J (((nr:Nat):Int)),J (((few:Nat):Int)),J (wt)] iu (0,0))) ?_
  intro w4 hw';replace H:=H.later hw';clear hw'
  refine aN 0 N N N Z Z Z Z Nq (H.ent (i:=0) Z) (fun _ hS=>iP rR Z hS Z)<|aN 1 N N N Z Z Z Z Nq (H.ent (i:=0) Z) (fun _ hS=>Ys Z)<|aN 2 N N N Z Z Z Z Nq (H.ent (i:=0) Z) (fun _ hS=>iP rR Z hS Z) ?_
  refine OM 3 9 N Z Z ?_ ?_
  ·
   refine cd oz (Ik (few:=few) (wt:=wt) (np:=np) (nr:=nr) (most:=80) (hard:=true) l _ _ _ q1 q4 n1 n5 I (H.rd0 0 Z) hok) Z Z ?_
   rintro _ w5 ⟨body,Abody,cbody,Lbody,rfl,hblbody,hbgbody,hbobody,hbjbody⟩;replace H:=H.learnOwn hbjbody hbobody
   have hagbody:=CU q1 I hbgbody
   refine U ?_
   refine⟨(H.ent (i:=0) Z),?_⟩
   refine OM 4 9 N Z Z ?_ ?_
   ·
    refine cd kU (Ds (np:=np) (nr:=nr) (few:=few) (wt:=wt) (acts:=(pq np++body)) _ q1 q4 n1 n5 f1 f2 t1 t2 (H.rd0 0 Z) (by simp only[ay,pq,ko];show _<=400;simp only[bO,ji];omega) hagbody) Z Z ?_
    rintro _ w6 ⟨xs,oA,oC,⟨ps,pA,pC,co,clo,chi,gr,glo,ghi,sns,snA,snC⟩,rfl,hrun,hrd,hrb⟩;replace H:=H.learn hrb (JR w5.heap.size w6.heap.size ⟨xs,oA,oC,⟨ps,pA,pC,co,clo,chi,gr,glo,ghi,sns,snA,snC⟩⟩) hrd (ao _) (ao _);clear hrd hrb
    refine U ?_
    refine⟨(H.ent (i:=0) Z),?_⟩
    refine aN 5 N N N Z Z Z Z Nq (H.ent (i:=0) Z) (fun _ hS=>Yu Z)<|aN 6 N N N Z Z Z Z Nq (H.ent (i:=0) Z) (fun _ hS=>Xs Z Z)<|aN 7 N N N Z Z Z Z Nq (H.ent (i:=0) Z) (fun _ hS=>Xa Z Z)<|aN 8 N N N Z Z Z Z Nq (H.ent (i:=0) Z) (fun _ hS=>Xb Z Z)<|r5 9 N Z<|eC H nN Z fun w7 b9 H=>U ?_
    refine⟨(H.ent (i:=1) Z),?_⟩
    refine aN 10 N N N Z Z Z Z Nq (H.ent (i:=1) Z) (fun _ hS=>Ws Z)<|r5 11 N Z<|bl H 0 (#[.slice pA ps.length pC,J (co.clock),J (co.next),J (co.wait),.slice co.A co.txs.length co.cap,J (gr.clock),J (gr.wait),J (gr.gen),.slice gr.mA gr.ms.length gr.mC,.slice gr.oA gr.os.length gr.oC,.slice snA sns.length snC]) kF Z Z Z Z Z N N fun w8 H=>U ?_
    refine⟨(H.ent (i:=1) Z),?_⟩
    refine aN 12 N N N Z Z Z Z Nq (H.ent (i:=1) Z) (fun _ hS=>Wb Z)<|jP N ?_
    exact⟨(body,⟨xs,oA,oC,⟨ps,pA,pC,co,clo,chi,gr,glo,ghi,sns,snA,snC⟩⟩,b9,w5.heap.size,w6.heap.size),⟨hblbody,hagbody,hrun,H.forget (L':=(b9,_)::(b7,_)::[]) (by repeat (first|exact ap _|refine .cons_cons _ ?_|refine .cons _ ?_)) (fun f hf=>by simp only[av,bx,or_false]at hf⊢;rcases hf with h|h<;>simp[h])⟩,NC Z Z Z,Qg⟩
   ·
    refine eC H nN Z fun w9 b9 H=>U ?_
    refine⟨(H.ent (i:=1) Z),?_⟩
    refine r5 4 N Z<|cd kU (Ds (np:=np) (nr:=nr) (few:=few) (wt:=wt) (acts:=(pq np++body)) _ q1 q4 n1 n5 f1 f2 t1 t2 (H.rd0 0 Z) (by simp only[ay,pq,ko];show _<=400;simp only[bO,ji];omega) hagbody) Z Z ?_
    rintro _ w10 ⟨xs,oA,oC,⟨ps,pA,pC,co,clo,chi,gr,glo,ghi,sns,snA,snC⟩,rfl,hrun,hrd,hrb⟩;replace H:=H.learn hrb (JR w9.heap.size w10.heap.size ⟨xs,oA,oC,⟨ps,pA,pC,co,clo,chi,gr,glo,ghi,sns,snA,snC⟩⟩) hrd (ao _) (ao _);clear hrd hrb
    refine U ?_
    refine⟨(H.ent (i:=1) Z),?_⟩
    refine aN 5 N N N Z Z Z Z Nq (H.ent (i:=1) Z) (fun _ hS=>Yu Z)<|aN 6 N N N Z Z Z Z Nq (H.ent (i:=1) Z) (fun _ hS=>Xs Z Z)<|aN 7 N N N Z Z Z Z Nq (H.ent (i:=1) Z) (fun _ hS=>Xa Z Z)<|aN 8 N N N Z Z Z Z Nq (H.ent (i:=1) Z) (fun _ hS=>Xb Z Z)<|aN 10 N N N Z Z Z Z Nq (H.ent (i:=1) Z) (fun _ hS=>Ws Z)<|r5 11 N Z<|bl H 0 (#[.slice pA ps.length pC,J (co.clock),J (co.next),J (co.wait),.slice co.A co.txs.length co.cap,J (gr.clock),J (gr.wait),J (gr.gen),.slice gr.mA gr.ms.length gr.mC,.slice gr.oA gr.os.length gr.oC,.slice snA sns.length snC]) kF Z Z Z Z Z N N fun w11 H=>U ?_
    refine⟨(H.ent (i:=1) Z),?_⟩
    refine aN 12 N N N Z Z Z Z Nq (H.ent (i:=1) Z) (fun _ hS=>Wb Z)<|jP N ?_
    exact⟨(body,⟨xs,oA,oC,⟨ps,pA,pC,co,clo,chi,gr,glo,ghi,sns,snA,snC⟩⟩,b9,w9.heap.size,w10.heap.size),⟨hblbody,hagbody,hrun,H.forget (L':=(b9,_)::(b7,_)::[]) (by repeat (first|exact ap _|refine .cons_cons _ ?_|refine .cons _ ?_)) (fun f hf=>by simp only[av,bx,or_false]at hf⊢;rcases hf with h|h<;>simp[h])⟩,NC Z Z Z,Qg⟩
  ·
   refine eC H nN Z fun w12 b9 H=>U ?_
   refine⟨(H.ent (i:=1) Z),?_⟩
   refine r5 3 N Z<|cd oz (Ik (few:=few) (wt:=wt) (np:=np) (nr:=nr) (most:=80) (hard:=true) l _ _ _ q1 q4 n1 n5 I (H.rd0 0 Z) hok) Z Z ?_
   rintro _ w13 ⟨body,Abody,cbody,Lbody,rfl,hblbody,hbgbody,hbobody,hbjbody⟩;replace H:=H.learnOwn hbjbody hbobody
   have hagbody:=CU q1 I hbgbody
   refine U ?_
   refine⟨(H.ent (i:=1) Z),?_⟩
   refine r5 4 N Z<|cd kU (Ds (np:=np) (nr:=nr) (few:=few) (wt:=wt) (acts:=(pq np++body)) _ q1 q4 n1 n5 f1 f2 t1 t2 (H.rd0 0 Z) (by simp only[ay,pq,ko];show _<=400;simp only[bO,ji];omega) hagbody) Z Z ?_
   rintro _ w14 ⟨xs,oA,oC,⟨ps,pA,pC,co,clo,chi,gr,glo,ghi,sns,snA,snC⟩,rfl,hrun,hrd,hrb⟩;replace H:=H.learn hrb (JR w13.heap.size w14.heap.size ⟨xs,oA,oC,⟨ps,pA,pC,co,clo,chi,gr,glo,ghi,sns,snA,snC⟩⟩) hrd (ao _) (ao _);clear hrd hrb
   refine U ?_
   refine⟨(H.ent (i:=1) Z),?_⟩
   refine aN 5 N N N Z Z Z Z Nq (H.ent (i:=1) Z) (fun _ hS=>Yu Z)<|aN 6 N N N Z Z Z Z Nq (H.ent (i:=1) Z) (fun _ hS=>Xs Z Z)<|aN 7 N N N Z Z Z Z Nq (H.ent (i:=1) Z) (fun _ hS=>Xa Z Z)<|aN 8 N N N Z Z Z Z Nq (H.ent (i:=1) Z) (fun _ hS=>Xb Z Z)<|aN 10 N N N Z Z Z Z Nq (H.ent (i:=1) Z) (fun _ hS=>Ws Z)<|r5 11 N Z<|bl H 0 (#[.slice pA ps.length pC,J (co.clock),J (co.next),J (co.wait),.slice co.A co.txs.length co.cap,J (gr.clock),J (gr.wait),J (gr.gen),.slice gr.mA gr.ms.length gr.mC,.slice gr.oA gr.os.length gr.oC,.slice snA sns.length snC]) kF Z Z Z Z Z N N fun w15 H=>U ?_
   refine⟨(H.ent (i:=1) Z),?_⟩
   refine aN 12 N N N Z Z Z Z Nq (H.ent (i:=1) Z) (fun _ hS=>Wb Z)<|jP N ?_
   exact⟨(body,⟨xs,oA,oC,⟨ps,pA,pC,co,clo,chi,gr,glo,ghi,sns,snA,snC⟩⟩,b9,w13.heap.size,w14.heap.size),⟨hblbody,hagbody,hrun,H.forget (L':=(b9,_)::(b7,_)::[]) (by repeat (first|exact ap _|refine .cons_cons _ ?_|refine .cons _ ?_)) (fun f hf=>by simp only[av,bx,or_false]at hf⊢;rcases hf with h|h<;>simp[h])⟩,NC Z Z Z,Qg⟩
 rintro⟨body,⟨xs,oA,oC,⟨ps,pA,pC,co,clo,chi,gr,glo,ghi,sns,snA,snC⟩⟩,b9,lo,hi⟩ ρ1 w16 ⟨hbl,hag,hrun,H⟩
 show CW _ _ _ _ (dv (gk _ _ ρ1) [(8,.slice oA xs.length oC),(9,.pointer (Qd b9)),(10,.bool true)]) w16
 obtain⟨M,-,hwi⟩:=Ks hrun (HP n1 n5 f1 f2 t1 t2) (by simp only[ay,pq,ko];simp only[bO,ji];omega) q4 hag
 rw[cE]at hwi
 replace H:Hp w w16 ((b9,.cells #[.slice pA ps.length pC,J (co.clock),J (co.next),J (co.wait),.slice co.A co.txs.length co.cap,J (gr.clock),J (gr.wait),J (gr.gen),.slice gr.mA gr.ms.length gr.mC,.slice gr.oA gr.os.length gr.oC,.slice snA sns.length snC] jY (0,0))::(b7,.cells #[J (((np:Nat):Int)),J (((nr:Nat):Int)),J (((few:Nat):Int)),J (wt)] iu (0,0))::[]) (JR lo hi ⟨xs,oA,oC,⟨ps,pA,pC,co,clo,chi,gr,glo,ghi,sns,snA,snC⟩⟩::[dG vC 0 w.heap.size A l]):=H
 replace H:=Hp.rnPs H 0 Z
 refine W<|W<|Zr<|G (Zf dC Z)<|G (Zd d4 H 0 Z Z Z)<|G (bn kG Z)<|G (Yi Z)<|U<|Zb ?_
 have hpl:ps.length=np:=by have h1:(ps.map fun q=>q.p.a).length=np:=(HA hwi).2.1;rw[bC]at h1;exact h1
 have hpok: ∀ q∈ps,q.p.a.ok:=fun q hq=>(HA hwi).1 q.p.a (bL (f:=fun q:Pq=>q.p.a) hq)
 refine cf (τ:=Nat) [6,12,14,15,16,17,18,20,21,37,38,39,40,41,42,43,44,45,46,47,48,49,50,51,52,53,54,55,56,57,58,59,60,61,62,63,64,65,66,67,68,69,70,71,72,73,74,75,76,77,78,79,80,81,82,83,84,85,86,87,88,89,90,91,92,93,94,95,96] (fun i=>[(37,J (i:Nat))]) (fun i w'=>i<=ps.length/\Hp w w' [(b9,.cells #[.slice pA ps.length pC,J (co.clock),J (co.next),J (co.wait),.slice co.A co.txs.length co.cap,J (gr.clock),J (gr.wait),J (gr.gen),.slice gr.mA gr.ms.length gr.mC,.slice gr.oA gr.os.length gr.oC,.slice snA sns.length snC] jY (0,0)),(b7,.cells #[J (((np:Nat):Int)),J (((nr:Nat):Int)),J (((few:Nat):Int)),J (wt)] iu (0,0))] ([dG Bh lo hi pA ps,JR lo hi ⟨xs,oA,oC,⟨ps,pA,pC,co,clo,chi,gr,glo,ghi,sns,snA,snC⟩⟩,dG vC 0 w.heap.size A l])) (fun i=>ps.length-i) 0 ⟨bA _,H⟩ (dF Z) ?_
 rintro i ρ1 w17 ⟨hii,H⟩
 show CW _ _ _ _ (dv (gk _ _ ρ1) [(37,J (i:Nat))]) w17
 refine W<|Zr ?_
 refine cR (cG Z Z) Z Z Z (fun h38=> ?_) (fun h38=> ?_)
 ·
  refine U<|W<|ZT Z<|Zk<|W<|Zb<|W ?_
  obtain⟨q,hq⟩: ∃ q,ps[i]? =some q:=⟨_,ah I⟩
  have hqm:=ae hq
  have hok1q:=hpok q hqm
  refine Zr<|pK H 0 Z gU Z Z I I Z fun bq18 o18 x18 e18=> ?_
  obtain rfl:q=x18:=by have:=e18.at_;rw[hq]at this;exact bB this
  refine G (jd (xs:=[J (q.p.epoch),J (q.p.leader),.slice q.p.iA q.p.isr.length q.p.iC,.slice q.p.kA q.p.known.length q.p.kC,.slice q.p.rA q.p.reps.length q.p.rC,J (q.p.few),J (q.p.base)]) aG Z Z (D1 e18.cl 0 Z))<|eC H bo Z fun w19 b12 H=>bl H 0 (#[J (q.p.epoch),J (q.p.leader),.slice q.p.iA q.p.isr.length q.p.iC,.slice q.p.kA q.p.known.length q.p.kC,.slice q.p.rA q.p.reps.length q.p.rC,J (q.p.few),J (q.p.base)]) aL Z Z Z Z Z N N fun w20 H=>U<|W ?_
  have hn5:q.p.reps.length<=5:=by have h1:(q.p.reps.map eW.a).length<=5:=hok1q.n2;rw[bC]at h1;exact h1
  replace H:=Hp.rnReps H 1 Z hqm
  refine Zr<|G (Zf cP Z)<|G (Zd bR H 0 Z Z Z)<|G (bn gf Z)<|G (Yi Z)<|U<|Zb ?_
  refine cf (τ:=Nat) [6,14,15,16,17,18,20,21,44,45,46,47,48,49,50,51,52,53,54,55,56,57,58,59,60,61,62,63,64,65,66,67,68,69,70,71,72,73,74,75,76,77,78,79,80,81,82,83,84,85,86,87,88,89,90,91,92,93,94,95] (fun j=>[(44,J (j:Nat))]) (fun j w'=>j<=q.p.reps.length/\Hp w w' [(b12,.cells #[J (q.p.epoch),J (q.p.leader),.slice q.p.iA q.p.isr.length q.p.iC,.slice q.p.kA q.p.known.length q.p.kC,.slice q.p.rA q.p.reps.length q.p.rC,J (q.p.few),J (q.p.base)] bz (0,0)),(b9,.cells #[.slice pA ps.length pC,J (co.clock),J (co.next),J (co.wait),.slice co.A co.txs.length co.cap,J (gr.clock),J (gr.wait),J (gr.gen),.slice gr.mA gr.ms.length gr.mC,.slice gr.oA gr.os.length gr.oC,.slice snA sns.length snC] jY (0,0)),(b7,.cells #[J (((np:Nat):Int)),J (((nr:Nat):Int)),J (((few:Nat):Int)),J (wt)] iu (0,0))] ([dG gd lo hi q.p.rA q.p.reps,dG Bh lo hi pA ps,JR lo hi ⟨xs,oA,oC,⟨ps,pA,pC,co,clo,chi,gr,glo,ghi,sns,snA,snC⟩⟩,dG vC 0 w.heap.size A l])) (fun j=>q.p.reps.length-j) 0 ⟨bA _,H⟩ (dF Z) ?_
  rintro j ρ1 w21 ⟨hjj,H⟩
  show CW _ _ _ _ (dv (gk _ _ ρ1) [(44,J (j:Nat))]) w21
  refine W<|Zr ?_
  refine cR (cG Z Z) Z Z Z (fun h45=> ?_) (fun h45=> ?_)
  ·
   refine U<|W<|ZT Z<|Zk<|W<|Zb<|W ?_
   obtain⟨r,hr_⟩: ∃ r,q.p.reps[j]? =some r:=⟨_,ah I⟩
   obtain⟨hsn,hgd,hr4⟩:=Oi hwi hq hr_
   refine Zr<|pK H 0 Z bu Z Z I I Z fun bq22 o22 x22 e22=> ?_
   obtain rfl:r=x22:=by have:=e22.at_;rw[hr_]at this;exact bB this
   refine G (jd (xs:=eW.c r) lV Z Z e22.cl)<|eC H m7 Z fun w23 b14 H=>bl H 0 (#[.bool (r.up),.slice r.A ((bd r.es).length) r.cap,J (((fC r.es r.s:Nat):Int)),J (r.high)]) j5 Z Z Z Z Z N N fun w24 H=>U<|W<|Zr<|G (Zf dq Z)<|G (jG 1 [.slice r.A ((bd r.es).length) r.cap,J (((fC r.es r.s:Nat):Int))] eK Z Z (H.ent (i:=0) Z) Z)<|cd fL (gb r.A r.cap r.es r.s _ (Pa.log ((Hp.rn0 H 2 Z).pa q hqm) hok1q (i:=j) hr_)) Z Z ?_
   have hloen:=H.size
   rintro _ w25 ⟨Aen,cen,rfl,hren,hcen,hben⟩;replace H:=H.learnRd hben hren;clear hren hben
   refine G (Yu Z)<|G (Xs Z Z)<|G (Xi Z Z)<|G (Xi Z Z)<|G (Ws Z)<|G (Wi Z)<|G (Wi Z)<|U<|W<|Zr<|PO H Z fun w26 b55 H=>G (Ie Z)<|U<|W<|W<|Zr<|G (Ys Z)<|G (bn eh Z)<|G (Yi Z)<|U<|Zb ?_
   refine cf (τ:=Nat×Array MapEntry×Nat×(Int×Int×Int->Bool)) [6,20,21,58,59,60,61,62,63,64,65,66,67,68,69,70,71,72,73,74,75,76,77,78,79,80,81,82,83,84,85,86,87,88,89,90,91,92] (fun(k,_)=>[(58,J (k:Nat))]) (fun(k,esM,cl,fs) w'=>k<=r.es.length/\uQ aa 70 M6 fs esM cl/\Ej r.es k fs/\Hp w w' [(b55,.map esM cl),(b14,.cells #[.bool (r.up),.slice r.A ((bd r.es).length) r.cap,J (((fC r.es r.s:Nat):Int)),J (r.high)] fi (0,0)),(b12,.cells #[J (q.p.epoch),J (q.p.leader),.slice q.p.iA q.p.isr.length q.p.iC,.slice q.p.kA q.p.known.length q.p.kC,.slice q.p.rA q.p.reps.length q.p.rC,J (q.p.few),J (q.p.base)] bz (0,0)),(b9,.cells #[.slice pA ps.length pC,J (co.clock),J (co.next),J (co.wait),.slice co.A co.txs.length co.cap,J (gr.clock),J (gr.wait),J (gr.gen),.slice gr.mA gr.ms.length gr.mC,.slice gr.oA gr.os.length gr.oC,.slice snA sns.length snC] jY (0,0)),(b7,.cells #[J (((np:Nat):Int)),J (((nr:Nat):Int)),J (((few:Nat):Int)),J (wt)] iu (0,0))] ([dG gz w24.heap.size w25.heap.size Aen r.es,dG gd lo hi q.p.rA q.p.reps,dG Bh lo hi pA ps,JR lo hi ⟨xs,oA,oC,⟨ps,pA,pC,co,clo,chi,gr,glo,ghi,sns,snA,snC⟩⟩,dG vC 0 w.heap.size A l])) (fun(k,_)=>r.es.length-k) (0,#[],0,fun _=>false) ⟨bA _,uQ.nil,Ej.zero _,H⟩ (dF Z) ?_
   rintro⟨k,esM,cl,fs⟩ ρ1 w27 ⟨hkk,hM,hSn,H⟩
   show CW _ _ _ _ (dv (gk _ _ ρ1) [(58,J (k:Nat))]) w27
   refine W<|Zr ?_
   refine cR (cG Z Z) Z Z Z (fun h59=> ?_) (fun h59=> ?_)
   ·
    refine U<|W<|ZT Z<|Zk<|W<|Zb<|W ?_
    obtain⟨x,hxk⟩: ∃ x,r.es[k]? =some x:=⟨_,ah I⟩
    obtain⟨hp1,hp2,hp3⟩:=Nh (hgd _ (ae hxk))
    have hk70:=O8 hp1 hp2 hp3
    refine Zr<|pK H 0 Z dN Z Z I I Z fun bq28 o28 x28 e28=> ?_
    obtain rfl:x=x28:=by have:=e28.at_;rw[hxk]at this;exact bB this
    refine G (jd (xs:=cH.c x) dB Z Z e28.cl)<|eC H fU Z fun w29 b20 H=>bl H 0 (#[J (x.epoch),J (x.pid),J (x.ver),J (x.seq),J (x.kind),.bool (x.txn),.string (x.text)]) eM Z Z Z Z Z N N fun w30 H=>U<|W<|Zr<|G (Zf eS Z)<|G (Zd aj H 0 Z Z Z)<|G (Zf ei Z)<|G (Zd aj H 0 Z Z Z)<|G (Zf eR Z)<|G (Zd aj H 0 Z Z Z)<|G (OE (cs:= #[J x.pid,J x.ver,J x.seq]) Ev bI OS N)<|eC H OS Z fun w31 b21 H=>bl H 0 (#[J x.pid,J x.ver,J x.seq]) N2 Z Z Z Z Z N N fun w32 H=>U<|W<|W ?_
    refine eu (τ:=Unit) [69,70,71,72,73,74,75,76,77,78,79,80,81] (fun _=>[(81,.bool false)]) (fun _ w'=>Hp w w' [(b21,.cells #[J x.pid,J x.ver,J x.seq] 70 (0,0)),(b20,.cells (cH.c x).toArray dh (0,0)),(b55,.map esM cl),(b14,.cells #[.bool (r.up),.slice r.A ((bd r.es).length) r.cap,J (((fC r.es r.s:Nat):Int)),J (r.high)] fi (0,0)),(b12,.cells #[J (q.p.epoch),J (q.p.leader),.slice q.p.iA q.p.isr.length q.p.iC,.slice q.p.kA q.p.known.length q.p.kC,.slice q.p.rA q.p.reps.length q.p.rC,J (q.p.few),J (q.p.base)] bz (0,0)),(b9,.cells #[.slice pA ps.length pC,J (co.clock),J (co.next),J (co.wait),.slice co.A co.txs.length co.cap,J (gr.clock),J (gr.wait),J (gr.gen),.slice gr.mA gr.ms.length gr.mC,.slice gr.oA gr.os.length gr.oC,.slice snA sns.length snC] jY (0,0)),(b7,.cells #[J (((np:Nat):Int)),J (((nr:Nat):Int)),J (((few:Nat):Int)),J (wt)] iu (0,0))] ([dG gz w24.heap.size w25.heap.size Aen r.es,dG gd lo hi q.p.rA q.p.reps,dG Bh lo hi pA ps,JR lo hi ⟨xs,oA,oC,⟨ps,pA,pC,co,clo,chi,gr,glo,ghi,sns,snA,snC⟩⟩,dG vC 0 w.heap.size A l])) ?_ ?_
    ·skip
     refine Zr<|G (Zf eB Z)<|G (Zd aj H 1 Z Z Z) ?_
     refine cR (bh Z Z) Z Z Z (fun h71=> ?_) (fun h71=> ?_)
     ·
      refine G (Yb Z)<|ZG<|G (Zf eS Z)<|ZG<|G (Zd aj H 1 Z Z Z)<|ZG ?_
      refine cR (jV Z Z) Z Z Z (fun h75=> ?_) (fun h75=> ?_)
      ·
       refine G (Kt Z Z)<|G (Yb Z)<|ZG<|G (Cu Z)<|ZG<|G (Zw Ht H 0 Z Z Z)<|ZG<|G (K6 (kv:=M6) (k:=(x.pid,x.ver,x.seq)) HB J0 PE zb hM hk70 Z Z (H.ent (i:=2) Z)) ?_
       rw[hSn.no hsn hxk h75 h71]
       refine G (Kt Z Z)<|U ?_
       exact⟨(),H,dF Z,Qg⟩
      ·
       refine G (Kt Z Z)<|G (Yb Z)<|ZN<|ZN<|ZN<|G (N Z Z)<|U ?_
       exact⟨(),H,dF Z,Qg⟩
     ·
      refine G (Yb Z)<|ZN<|ZN<|ZN<|G (N Z Z)<|G (Yb Z)<|ZN<|ZN<|ZN<|G (N Z Z)<|U ?_
      exact⟨(),H,dF Z,Qg⟩
    rintro⟨⟩ ρ1 w33 H
    show CW _ _ _ _ (dv (gk _ _ ρ1) [(81,.bool false)]) w33
    refine ZF Z<|Zk ?_
    refine mF bZ (fun w'=>w'.heap[b21]? =some (.cells #[J x.pid,J x.ver,J x.seq] 70 (0,0))/\w'.heap[b20]? =some (.cells (cH.c x).toArray dh (0,0))) ?_
    intro w34 hw';replace H:=H.later hw';clear hw'
    refine aN 0 N N N Z Z Z Z Nq ⟨H.ent (i:=0) Z,H.ent (i:=1) Z⟩ (fun _ hS=>Cu Z)<|aN 1 N N N Z Z Z Z Nq ⟨H.ent (i:=0) Z,H.ent (i:=1) Z⟩ (fun _ hS=>iP Ht Z hS.1 Z)<|aN 2 N N N Z Z Z Z Nq ⟨H.ent (i:=0) Z,H.ent (i:=1) Z⟩ (fun _ hS=>Cu Z)<|aN 3 N N N Z Z Z Z Nq ⟨H.ent (i:=0) Z,H.ent (i:=1) Z⟩ (fun _ hS=>iP Ht Z hS.1 Z)<|r5 4 N Z<|G (K6 (kv:=M6) (k:=(x.pid,x.ver,x.seq)) HB J0 PE zb hM hk70 Z Z (H.ent (i:=2) Z)) ?_
    rcases hf86:fs (x.pid,x.ver,x.seq)with _|_
    ·
     refine U ?_
     refine⟨⟨H.ent (i:=0) Z,H.ent (i:=1) Z⟩,?_⟩
     refine aN 5 N N N Z Z Z Z Nq ⟨H.ent (i:=0) Z,H.ent (i:=1) Z⟩ (fun _ hS=>Yb Z)<|aN 6 N N N Z Z Z Z Nq ⟨H.ent (i:=0) Z,H.ent (i:=1) Z⟩ (fun _ hS=>Zf eB Z)<|aN 7 N N N Z Z Z Z Nq ⟨H.ent (i:=0) Z,H.ent (i:=1) Z⟩ (fun _ hS=>aV aj Z (aB hS.2 Z))<|aN 8 N N N Z Z Z Z Nq ⟨H.ent (i:=0) Z,H.ent (i:=1) Z⟩ (fun _ hS=>bh Z Z)<|aN 9 N N N Z Z Z Z Nq ⟨H.ent (i:=0) Z,H.ent (i:=1) Z⟩ (fun _ hS=>N Z Z)<|r5 10 N Z<|P8 H 2 HB PE zb hM hk70 Z Z Z Z fun w35 esM2 cl2 hM2 H=>U ?_
     refine⟨⟨H.ent (i:=0) Z,H.ent (i:=1) Z⟩,?_⟩
     refine jP N<|Zr<|G (bp Z Z I I)<|G (Yi Z)<|U ?_
     exact⟨(k+1,esM2,cl2,xv fs (x.pid,x.ver,x.seq) _),⟨by omega,hM2,hSn.put hxk (by intro h;first|exact .inl hf86|exact .inr (of_decide_eq_true h)),H.forget (by repeat (first|exact ap _|refine .cons _ ?_)) (fun f hf=>by simp only[av,bx,or_false]at hf⊢;grind)⟩,dF Z,Qg,by show r.es.length- (k+1)<r.es.length-k;omega⟩
    ·
     refine U ?_
     refine⟨⟨H.ent (i:=0) Z,H.ent (i:=1) Z⟩,?_⟩
     refine aN 5 N N N Z Z Z Z Nq ⟨H.ent (i:=0) Z,H.ent (i:=1) Z⟩ (fun _ hS=>Yb Z)<|C6 6 N N N Z Z Z Z Nq ⟨H.ent (i:=0) Z,H.ent (i:=1) Z⟩<|C6 7 N N N Z Z Z Z Nq ⟨H.ent (i:=0) Z,H.ent (i:=1) Z⟩<|C6 8 N N N Z Z Z Z Nq ⟨H.ent (i:=0) Z,H.ent (i:=1) Z⟩<|aN 9 N N N Z Z Z Z Nq ⟨H.ent (i:=0) Z,H.ent (i:=1) Z⟩ (fun _ hS=>Kt Z Z)<|r5 10 N Z<|P8 H 2 HB PE zb hM hk70 Z Z Z Z fun w36 esM2 cl2 hM2 H=>U ?_
     refine⟨⟨H.ent (i:=0) Z,H.ent (i:=1) Z⟩,?_⟩
     refine jP N<|Zr<|G (bp Z Z I I)<|G (Yi Z)<|U ?_
     exact⟨(k+1,esM2,cl2,xv fs (x.pid,x.ver,x.seq) _),⟨by omega,hM2,hSn.put hxk (by intro h;first|exact .inl hf86|exact .inr (of_decide_eq_true h)),H.forget (by repeat (first|exact ap _|refine .cons _ ?_)) (fun f hf=>by simp only[av,bx,or_false]at hf⊢;grind)⟩,dF Z,Qg,by show r.es.length- (k+1)<r.es.length-k;omega⟩
   ·
    refine U<|W<|ZF Z<|Zx<|W<|Zr<|G (Yi Z)<|G (bX Z Z Z)<|U<|ZF Z<|Zk<|Zr<|G (bp Z Z I I)<|G (Yi Z)<|U ?_
    exact⟨j+1,⟨by omega,H.forget (by repeat (first|exact ap _|refine .cons _ ?_)) (fun f hf=>by simp only[av,bx,or_false]at hf⊢;grind)⟩,dF Z,Qg,by show q.p.reps.length- (j+1)<q.p.reps.length-j;omega⟩
  ·
   refine U<|W<|ZF Z<|Zx<|Zr<|G (bp Z Z I I)<|G (Yi Z)<|U ?_
   exact⟨i+1,⟨by omega,H.forget (by repeat (first|exact ap _|refine .cons _ ?_)) (fun f hf=>by simp only[av,bx,or_false]at hf⊢;grind)⟩,dF Z,Qg,by show ps.length- (i+1)<ps.length-i;omega⟩
 ·
  refine U<|W<|ZF Z<|Zx<|W<|Zr<|G (Yb Z)<|G (Wb Z)<|U<|Zt ?_
  exact cF Z Z ⟨rfl,H.below⟩
end
end Go.Proofs.YtclibalpdhhhfaaGreat
