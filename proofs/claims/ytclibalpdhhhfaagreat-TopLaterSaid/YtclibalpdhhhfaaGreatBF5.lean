/- Part 5 of the proofs over this seat: what its theorems say holds for every input that they name. -/
import Derived.Test.YtclibalpdhhhfaaGreatBF4
namespace Go.Proofs.YtclibalpdhhhfaaGreat
open Go Go.Eng Go.RowKit
open Go.Eng renaming nk→U, AV→W, JB→Zr, Nj→Zk, PC→Zt, O0→Zb, Pj→Zx, PK→Yi, PL→Yb, PI→Ys, PJ→Yp, PH→Yt, PG→Yu, PZ→Wi, P0→Wb, PX→Ws, PY→Wp, PW→Wt, PO→Zf, PR→Xi, PU→Xa, PT→Xb, PQ→Xs, Ps→Kt, Pt→N, pL→ZT, oD→ZF
open Go.Proofs.Tryz renaming prog→aa
open _root_.List renaming mem_of_getElem?→ae,getElem?_eq_getElem→ah,mem_cons_of_mem→ak,mem_singleton→aq,mem_append→ar,replicate→au,mem_cons→ax,length_append→ay,mem_cons_self→az,append_assoc→aE,length_take→aH,getElem?_map→aL,sublist_cons_self→aW,append_nil→aY,map_append→bk,mem_map→bw,length_map→bA,take_length→bJ,mem_map_of_mem→bL,mem_nil_iff→bO,length_singleton→bP,getElem?_append_left→bV,mem_append_right→ci,sublist_append_right→cm,length→cu,perm_append_comm_assoc→fU,replicate_succ'→qU,nil_sublist→vG,perm_append_comm→xB,mem_of_mem_take→yV,range→Bv
open _root_.List.Perm renaming cons→ai,swap→al
open _root_.Nat renaming le_refl→ao,le_trans→aT,min_eq_left→bu,zero_le→bG,zero_add→cI
open _root_.List.Sublist renaming refl→ap
open _root_.Option.some renaming inj→bj
set_option maxHeartbeats 4000000
set_option maxRecDepth 20000
set_option linter.unusedSimpArgs false
set_option linter.unusedVariables false
set_option linter.unusedSectionVars false
theorem xL (p:Pa) (w:World) (h:p.rd 0 w.heap.size w) (hok:p.a.ok):db aa yJ [p.v] w fun v w2=> ∃ p':Pa,v=p'.v/\p'.a=p.a/\eo w w2 p':=
 (zX p w h hok).mono fun _ _ ⟨p',_,_,_,_,_,_,h1,h2,h3⟩=>⟨p',h1,h2,h3.new⟩
def Oy (wt:Int):Co:=⟨0,1,wt,[],none,0⟩
def NJ (wt:Int):Gr:=⟨0,wt,0,[],none,0,[],none,0⟩
theorem Ox (wt:Int) (lo hi:Nat) (w:World):(Oy wt).rd lo hi w:=⟨Rd.nil,by simp[Oy],by simp[Oy],by simp[Oy],by simp[Oy]⟩
theorem Ol (wt:Int) (lo hi:Nat) (w:World):(NJ wt).rd lo hi w:=⟨Rd.nil,by simp[NJ],Rd.nil,by simp[NJ],by simp[NJ],by simp[NJ],by simp[NJ]⟩
structure Qs (w00 w0 w:World) (b:Bk) (gP:Nat) (uP:Array Value) (F:List cr):Prop where
 pA:b.pA=some ⟨gP,0,none⟩
 row:dU E1 b.ps b.pC uP
 sns:b.sns=[]/\b.snA=none/\b.snC=0
 co:xx w00 b.clo b.chi b.co∈F
 gr:JT w00 b.glo b.ghi b.gr∈F
 ps: ∀ q∈b.ps,tz w00 q.lo q.hi q.p∈F
 lo: ∀ f∈F,w0.heap.size<=f.lo
 H:Hp w0 w [(gP,.cells uP bE (0,0))] F
theorem J3 {np nr few:Nat} {wt:Int} (w00 w:World) (h00:w00.heap.size<=w.heap.size) (q1:1<=np) (q4:np<=4) (n1:1<=nr) (n5:nr<=5) (f1:1<=few) (f2:few<=nr) (t1:1<=wt) (t2:wt<=1000):db aa AA [.agg #[J (np:Nat),J (nr:Nat),J (few:Nat),J wt]] w fun v w2=> ∃ (b:Bk) (gP:Nat) (uP:Array Value) (F:List cr),v=.tuple #[.agg b.c.toArray,J 0]/\b.a=sB np nr few wt/\Qs w00 w w2 b gP uP F:=by
 refine aD y6 Z Z ?_
 have H:=Hp.start w
 show CW _ _ _ _ (args [.agg #[J (np:Nat),J (nr:Nat),J (few:Nat),J wt]]) w
 refine W<|Zr<|fT H Z Z fun w1 b1 H=>eE H lx Z fun w2 b2 H=>G (Wi Z)<|U<|W<|W<|Zr<|G (Zf qd Z)<|G (Zd aj H 1 Z Z Z)<|G (cZ Z Z I)<|G (Yb Z)<|ZG<|G (Zf qd Z)<|ZG<|G (Zd aj H 1 Z Z Z)<|ZG<|G (er Z Z I)<|G (N Z Z)<|U<|ZF Z<|Zk<|W<|Zr<|G (Zf lK Z)<|G (Zd aj H 1 Z Z Z)<|G (Zf Hk Z)<|G (Zd aj H 1 Z Z Z)<|bY F6 (MJ nr few _ n1 n5 f1 f2) Z Z ?_
 have hlo4:=H.size
 rintro _ w3 ⟨p4,rfl,hap4,hnp4⟩;replace H:=H.learn hnp4.2 (tz w00 w2.heap.size w3.heap.size p4) ⟨(aT h00 H.size),hnp4.1⟩ (ao _) (ao _);clear hnp4
 refine G (Yu Z)<|G (Xa Z Z)<|G (Xi Z Z)<|eE H bp Z fun w4 b4 H=>bo H 0 (#[J (p4.epoch),J (p4.leader),.slice p4.iA p4.isr.length p4.iC,.slice p4.kA p4.known.length p4.kC,.slice p4.rA p4.reps.length p4.rC,J (p4.few),J (p4.base)]) aK Z Z Z Z Z N N fun w5 H=>G (Wi Z)<|U<|W<|W<|Zr<|G (Yi Z)<|G (bW Z Z (by decide))<|U<|ZF Z<|Zk<|W<|Zr<|G (Zf AP Z)<|G (Zd aj H 2 Z Z Z)<|bY Ek (FY wt _ t1 t2) Z Z ?_
 rintro _ w6 ⟨rfl,hb⟩;replace H:=H.later hb;clear hb
 refine G (Yu Z)<|G (Xa Z Z)<|G (Xi Z Z)<|eE H cK Z fun w7 b6 H=>bo H 0 (#[J (0),J (1),J (wt),.slice none 0 0]) aF Z Z Z Z Z N N fun w8 H=>G (Wi Z)<|U<|W<|W<|Zr<|G (Yi Z)<|G (bW Z Z (by decide))<|U<|ZF Z<|Zk<|W<|Zr<|G (Zf AP Z)<|G (Zd aj H 3 Z Z Z)<|bY Ei (Nf wt _ t1 t2) Z Z ?_
 rintro _ w9 ⟨rfl,hb⟩;replace H:=H.later hb;clear hb
 refine G (Yu Z)<|G (Xa Z Z)<|G (Xi Z Z)<|eE H d4 Z fun w10 b7 H=>bo H 0 (#[J (0),J (wt),J (0),.slice none 0 0,.slice none 0 0]) bC Z Z Z Z Z N N fun w11 H=>G (Wi Z)<|U<|W<|Zr<|G (Zw av H 1 Z Z Z)<|G (Zw aQ H 0 Z Z Z)<|G (bi (cs:= #[.slice none 0 0,J (0),J (1),J (wt),.slice none 0 0,J (0),J (wt),J (0),.slice none 0 0,.slice none 0 0,.slice none 0 0]) Kh lx N)<|eE H lx Z fun w12 b8 H=>bo H 0 (#[.slice none 0 0,J (0),J (1),J (wt),.slice none 0 0,J (0),J (wt),J (0),.slice none 0 0,.slice none 0 0,.slice none 0 0]) jd Z Z Z Z Z N N fun w13 H=>U<|W<|W<|Zr<|G (Zf qd Z)<|G (Zd aj H 5 Z Z Z)<|G (Yi Z)<|U<|Zb ?_
 refine cf (τ:=Nat×List Pq×Option Addr×Nat×List (Nat×Obj)×List cr) [51,52,53,54,55,56,57,58,59,60] (fun(i,_)=>[(51,J (i:Nat))]) (fun(i,qs,A,c,Lq,F') w'=>i<=np/\qs.map (fun q=>q.p.a)=au i (nh nr few)/\fW E1 (.slice A qs.length c) bE qs Lq/\(∀ q∈qs,tz w00 q.lo q.hi q.p∈F')/\(∀ f∈F',w.heap.size<=f.lo)/\(∃ lo hi,tz w00 lo hi p4∈F')/\Hp w w' ((b8,.cells #[.slice A qs.length c,J (0),J (1),J (wt),.slice none 0 0,J (0),J (wt),J (0),.slice none 0 0,.slice none 0 0,.slice none 0 0] jW (0,0))::(b7,.cells #[J (0),J (wt),J (0),.slice none 0 0,.slice none 0 0] cM (0,0))::(b6,.cells #[J (0),J (1),J (wt),.slice none 0 0] bd (0,0))::(b4,.cells #[J (p4.epoch),J (p4.leader),.slice p4.iA p4.isr.length p4.iC,.slice p4.kA p4.known.length p4.kC,.slice p4.rA p4.reps.length p4.rC,J (p4.few),J (p4.base)] bE (0,0))::(b2,.cells #[.slice none 0 0,J (0),J (0),J (0),.slice none 0 0,J (0),J (0),J (0),.slice none 0 0,.slice none 0 0,.slice none 0 0] jW (0,0))::(b1,.cells #[J (((np:Nat):Int)),J (((nr:Nat):Int)),J (((few:Nat):Int)),J (wt)] jz (0,0))::(Lq++[])) F') (fun(i,_)=>np-i) (0,[],none,0,[],_) ⟨bG _,rfl,fW.nil,by simp,fun f hf=>(by rw[aq.1 hf];exact hlo4),⟨_,_,az ..⟩,H⟩ (dI Z) ?_
 rintro⟨i,qs,A,c,Lq,F'⟩ ρ1 w14 ⟨hi,hqa,ho,hqs,hFl,⟨lo4,hi4,hp4⟩,H⟩
 show CW _ _ _ _ (dA (gC _ _ ρ1) [(51,J (i:Nat))]) w14
 have hql:qs.length=i:=by have:=congrArg cu hqa;simpa using this
 refine W<|Zr ?_
 refine cU (cH Z Z) Z Z Z (fun h52=> ?_) (fun h52=> ?_)
 refine U<|W<|ZT Z<|Zk<|W ?_
 refine eC (τ:=List Pq×Option Addr×Nat×List (Nat×Obj)×List cr) [53,54,55,56,57,58,59] (fun _=>[]) (fun(q9,A9,c9,L9,F9) w'=>q9.map (fun q=>q.p.a)=au (i+1) (nh nr few)/\fW E1 (.slice A9 q9.length c9) bE q9 L9/\(∀ q∈q9,tz w00 q.lo q.hi q.p∈F9)/\(∀ f∈F9,w.heap.size<=f.lo)/\(∃ lo hi,tz w00 lo hi p4∈F9)/\Hp w w' ((b8,.cells #[.slice A9 q9.length c9,J (0),J (1),J (wt),.slice none 0 0,J (0),J (wt),J (0),.slice none 0 0,.slice none 0 0,.slice none 0 0] jW (0,0))::(b7,.cells #[J (0),J (wt),J (0),.slice none 0 0,.slice none 0 0] cM (0,0))::(b6,.cells #[J (0),J (1),J (wt),.slice none 0 0] bd (0,0))::(b4,.cells #[J (p4.epoch),J (p4.leader),.slice p4.iA p4.isr.length p4.iC,.slice p4.kA p4.known.length p4.kC,.slice p4.rA p4.reps.length p4.rC,J (p4.few),J (p4.base)] bE (0,0))::(b2,.cells #[.slice none 0 0,J (0),J (0),J (0),.slice none 0 0,J (0),J (0),J (0),.slice none 0 0,.slice none 0 0,.slice none 0 0] jW (0,0))::(b1,.cells #[J (((np:Nat):Int)),J (((nr:Nat):Int)),J (((few:Nat):Int)),J (wt)] jz (0,0))::(L9++[])) F9) ?_ ?_
 refine Zb ?_
 refine qO bX [0] [1,2,3,4,5,6,7] [0] 7 N N N Nq ?_
 refine aw Z Z Z Z Z (fun w' hw'=>Zf dJ Z)<|aS ?_
 intro w15 hw';replace H:=H.later hw';clear hw'
 refine tw 1 2 N Z Z ?_ ?_
 refine G (Zd ei H 0 Z Z Z)<|U<|dd 2 N Z<|G (Zw aG H 3 Z Z Z)<|U<|dd 3 N Z<|bY mL (xL p4 _ (Hp.paM H hp4) (hap4▸(Dx (Φ:=fun _=>True) n1 n5 f1 f2).ok)) Z Z ?_
 have hlo2:=H.size
 rintro _ w16 ⟨p2,rfl,hap2,hnp2⟩;replace H:=H.learn hnp2.2 (tz w00 w15.heap.size w16.heap.size p2) ⟨(aT h00 H.size),hnp2.1⟩ (ao _) (ao _);clear hnp2
 refine U<|dd 4 N Z<|tb (vs:=[.agg #[J (p2.epoch),J (p2.leader),.slice p2.iA p2.isr.length p2.iC,.slice p2.kA p2.known.length p2.kC,.slice p2.rA p2.reps.length p2.rC,J (p2.few),J (p2.base)]]) H ig bp Z Z Z Z Z Z fun w17 b57 H=>U<|dd 5 N Z<|vc (Y:=E1) xt (K:=[(b57,_),(b8,_),(b7,_),(b6,_),(b4,_),(b2,_),(b1,_)]) (L:=Lq) (M:=[]) H ho (es:=qs) (news:=[⟨p2,w15.heap.size,w16.heap.size⟩]) Z Z Z (wn.row (m:=1) (sz:=E1.sz) (H.ent (i:=0) Z) Z) (by simp only[bP];omega) Z ?_
 intro A5 c5 w18 L5 h5 h5m ho5 H
 refine U<|dd 6 N Z<|G (Zf dJ Z)<|U<|dd 7 N Z<|bo H 1 (#[.slice A5 ((qs++[(⟨p2,w15.heap.size,w16.heap.size⟩:Pq)]).length) c5,J (0),J (1),J (wt),.slice none 0 0,J (0),J (wt),J (0),.slice none 0 0,.slice none 0 0,.slice none 0 0]) ux Z Z Z Z Z N N fun w19 H=>U<|cB N ?_
 exact⟨(qs++[(⟨p2,w15.heap.size,w16.heap.size⟩:Pq)],A5,c5,L5,tz w00 w15.heap.size w16.heap.size p2::F'),⟨by rw[bk,hqa,qU];show _++[p2.a]=_;rw[hap2,hap4],ho5,fun q hq=>(by rcases ar.1 hq with hq|hq;exact ak _ (hqs q hq);rw[aq.1 hq];exact az ..),fun f hf=>(by rcases ax.1 hf with rfl|hf;exact hlo2;exact hFl f hf),⟨lo4,hi4,ak _ hp4⟩,H.forget (.cons _ (ap _)) (fun _ h=>h)⟩,wl,Qg⟩
 refine G (Zw aG H 3 Z Z Z)<|U ?_
 refine tw 1 3 N Z Z ?_ ?_
 refine G (Zd ei H 0 Z Z Z)<|U<|dd 3 N Z<|bY mL (xL p4 _ (Hp.paM H hp4) (hap4▸(Dx (Φ:=fun _=>True) n1 n5 f1 f2).ok)) Z Z ?_
 have hlo2:=H.size
 rintro _ w20 ⟨p2,rfl,hap2,hnp2⟩;replace H:=H.learn hnp2.2 (tz w00 w15.heap.size w20.heap.size p2) ⟨(aT h00 H.size),hnp2.1⟩ (ao _) (ao _);clear hnp2
 refine U<|dd 4 N Z<|tb (vs:=[.agg #[J (p2.epoch),J (p2.leader),.slice p2.iA p2.isr.length p2.iC,.slice p2.kA p2.known.length p2.kC,.slice p2.rA p2.reps.length p2.rC,J (p2.few),J (p2.base)]]) H ig bp Z Z Z Z Z Z fun w21 b57 H=>U<|dd 5 N Z<|vc (Y:=E1) xt (K:=[(b57,_),(b8,_),(b7,_),(b6,_),(b4,_),(b2,_),(b1,_)]) (L:=Lq) (M:=[]) H ho (es:=qs) (news:=[⟨p2,w15.heap.size,w20.heap.size⟩]) Z Z Z (wn.row (m:=1) (sz:=E1.sz) (H.ent (i:=0) Z) Z) (by simp only[bP];omega) Z ?_
 intro A5 c5 w22 L5 h5 h5m ho5 H
 refine U<|dd 6 N Z<|G (Zf dJ Z)<|U<|dd 7 N Z<|bo H 1 (#[.slice A5 ((qs++[(⟨p2,w15.heap.size,w20.heap.size⟩:Pq)]).length) c5,J (0),J (1),J (wt),.slice none 0 0,J (0),J (wt),J (0),.slice none 0 0,.slice none 0 0,.slice none 0 0]) ux Z Z Z Z Z N N fun w23 H=>U<|cB N ?_
 exact⟨(qs++[(⟨p2,w15.heap.size,w20.heap.size⟩:Pq)],A5,c5,L5,tz w00 w15.heap.size w20.heap.size p2::F'),⟨by rw[bk,hqa,qU];show _++[p2.a]=_;rw[hap2,hap4],ho5,fun q hq=>(by rcases ar.1 hq with hq|hq;exact ak _ (hqs q hq);rw[aq.1 hq];exact az ..),fun f hf=>(by rcases ax.1 hf with rfl|hf;exact hlo2;exact hFl f hf),⟨lo4,hi4,ak _ hp4⟩,H.forget (.cons _ (ap _)) (fun _ h=>h)⟩,wl,Qg⟩
 refine bY mL (xL p4 _ (Hp.paM H hp4) (hap4▸(Dx (Φ:=fun _=>True) n1 n5 f1 f2).ok)) Z Z ?_
 have hlo2:=H.size
 rintro _ w24 ⟨p2,rfl,hap2,hnp2⟩;replace H:=H.learn hnp2.2 (tz w00 w15.heap.size w24.heap.size p2) ⟨(aT h00 H.size),hnp2.1⟩ (ao _) (ao _);clear hnp2
 refine U ?_
 refine tw 1 4 N Z Z ?_ ?_
 refine G (Zd ei H 0 Z Z Z)<|U<|dd 4 N Z<|tb (vs:=[.agg #[J (p2.epoch),J (p2.leader),.slice p2.iA p2.isr.length p2.iC,.slice p2.kA p2.known.length p2.kC,.slice p2.rA p2.reps.length p2.rC,J (p2.few),J (p2.base)]]) H ig bp Z Z Z Z Z Z fun w25 b57 H=>U<|dd 5 N Z<|vc (Y:=E1) xt (K:=[(b57,_),(b8,_),(b7,_),(b6,_),(b4,_),(b2,_),(b1,_)]) (L:=Lq) (M:=[]) H ho (es:=qs) (news:=[⟨p2,w15.heap.size,w24.heap.size⟩]) Z Z Z (wn.row (m:=1) (sz:=E1.sz) (H.ent (i:=0) Z) Z) (by simp only[bP];omega) Z ?_
 intro A5 c5 w26 L5 h5 h5m ho5 H
 refine U<|dd 6 N Z<|G (Zf dJ Z)<|U<|dd 7 N Z<|bo H 1 (#[.slice A5 ((qs++[(⟨p2,w15.heap.size,w24.heap.size⟩:Pq)]).length) c5,J (0),J (1),J (wt),.slice none 0 0,J (0),J (wt),J (0),.slice none 0 0,.slice none 0 0,.slice none 0 0]) ux Z Z Z Z Z N N fun w27 H=>U<|cB N ?_
 exact⟨(qs++[(⟨p2,w15.heap.size,w24.heap.size⟩:Pq)],A5,c5,L5,tz w00 w15.heap.size w24.heap.size p2::F'),⟨by rw[bk,hqa,qU];show _++[p2.a]=_;rw[hap2,hap4],ho5,fun q hq=>(by rcases ar.1 hq with hq|hq;exact ak _ (hqs q hq);rw[aq.1 hq];exact az ..),fun f hf=>(by rcases ax.1 hf with rfl|hf;exact hlo2;exact hFl f hf),⟨lo4,hi4,ak _ hp4⟩,H.forget (.cons _ (ap _)) (fun _ h=>h)⟩,wl,Qg⟩
 refine tb (vs:=[.agg #[J (p2.epoch),J (p2.leader),.slice p2.iA p2.isr.length p2.iC,.slice p2.kA p2.known.length p2.kC,.slice p2.rA p2.reps.length p2.rC,J (p2.few),J (p2.base)]]) H ig bp Z Z Z Z Z Z fun w28 b57 H=>U<|dd 1 N Z<|G (Zd ei H 1 Z Z Z)<|U<|dd 5 N Z<|vc (Y:=E1) xt (K:=[(b57,_),(b8,_),(b7,_),(b6,_),(b4,_),(b2,_),(b1,_)]) (L:=Lq) (M:=[]) H ho (es:=qs) (news:=[⟨p2,w15.heap.size,w24.heap.size⟩]) Z Z Z (wn.row (m:=1) (sz:=E1.sz) (H.ent (i:=0) Z) Z) (by simp only[bP];omega) Z ?_
 intro A5 c5 w29 L5 h5 h5m ho5 H
 refine U<|dd 6 N Z<|G (Zf dJ Z)<|U<|dd 7 N Z<|bo H 1 (#[.slice A5 ((qs++[(⟨p2,w15.heap.size,w24.heap.size⟩:Pq)]).length) c5,J (0),J (1),J (wt),.slice none 0 0,J (0),J (wt),J (0),.slice none 0 0,.slice none 0 0,.slice none 0 0]) ux Z Z Z Z Z N N fun w30 H=>U<|cB N ?_
 exact⟨(qs++[(⟨p2,w15.heap.size,w24.heap.size⟩:Pq)],A5,c5,L5,tz w00 w15.heap.size w24.heap.size p2::F'),⟨by rw[bk,hqa,qU];show _++[p2.a]=_;rw[hap2,hap4],ho5,fun q hq=>(by rcases ar.1 hq with hq|hq;exact ak _ (hqs q hq);rw[aq.1 hq];exact az ..),fun f hf=>(by rcases ax.1 hf with rfl|hf;exact hlo2;exact hFl f hf),⟨lo4,hi4,ak _ hp4⟩,H.forget (.cons _ (ap _)) (fun _ h=>h)⟩,wl,Qg⟩
 rintro⟨q9,A9,c9,L9,F9⟩ ρ1 w31 H9
 show CW _ _ _ _ (dA (gC _ _ ρ1) []) w31
 refine Zr<|G (br Z Z I I)<|G (Yi Z)<|U ?_
 exact⟨(i+1,q9,A9,c9,L9,F9),⟨by omega,H9⟩,dI Z,Qg,by show np- (i+1)<np-i;omega⟩
 refine U<|W<|ZF Z<|Zx<|W<|Zr<|G (Zw nM H 0 Z Z Z)<|G (Yi Z)<|bo H 4 (#[.slice A qs.length c,J (0),J (1),J (wt),.slice none 0 0,J (0),J (wt),J (0),.slice none 0 0,.slice none 0 0,.slice none 0 0]) jd Z Z Z Z Z N N fun w32 H=>G (Wi Z)<|U<|Zt ?_
 obtain rfl:i=np:=by omega
 obtain⟨gP,uP,rfl,rfl,row⟩:=ho.row I
 have H7:=((H.forget (L':=[(gP,_)]) ((.cons _ (.cons _ (.cons _ (.cons _ (.cons _ (.cons _ (ap _)))))))) (fun _ h=>h)).learnOld (xx w00 w.heap.size w.heap.size (Oy wt)) ⟨h00,Ox ..⟩ (ao _)).learnOld (JT w00 w.heap.size w.heap.size (NJ wt)) ⟨h00,Ol ..⟩ (ao _)
 exact bD (cs0:= #[.slice (Qd gP) qs.length c,J (0),J (1),J (wt),.slice none 0 0,J (0),J (wt),J (0),.slice none 0 0,.slice none 0 0,.slice none 0 0]) (v1:=J 0) Z nM Z (H.ent (i:=4) Z) Z Z ⟨⟨qs,some ⟨gP,0,none⟩,c,Oy wt,w.heap.size,w.heap.size,NJ wt,w.heap.size,w.heap.size,[],none,0⟩,gP,uP,_,rfl,by unfold Bk.a sB;rw[hqa];rfl,⟨rfl,row,⟨rfl,rfl,rfl⟩,ak _ (az ..),az ..,fun q hq=>ak _ (ak _ (hqs q hq)),fun f hf=>(by rcases ax.1 hf with rfl|hf;exact ao _;rcases ax.1 hf with rfl|hf;exact ao _;exact hFl f hf),H7⟩⟩
theorem y9 (es:List ByteArray) (A:Option Addr) (c:Nat) (w:World) (hr:Rd lf 0 w.heap.size A es w) (hb:es.length*16<=140737488355328):
  db aa jj [.slice A es.length c] w fun v w2=> ∃ A' c' L',v=.slice A' es.length c'/\es.length<=c'/\c'<=maxLen/\fW lf (.slice A' es.length c') kE es L'/\Hp w w2 L' []:=by
 refine aD ny Z Z ?_
 have H:=Hp.startRd hr
 refine W<|Zr<|G (Ws Z)<|U<|W<|W<|Zr<|G (Ys Z) ?_
 refine wm (pq iP Z) Z Z Z (fun h4=> ?_) (fun h4=> ?_)
 refine U<|ZT Z<|W<|Zr<|G (Ws Z)<|U<|Zt ?_
 have he:es=[]:=by
  cases es with
  |nil=>rfl
  |cons e es=>obtain⟨b,o,hA,_⟩:=hr (by simp);subst hA;cases h4
 subst he
 exact cy Z Z ⟨none,0,[],rfl,by simp,by decide,fW.nil,H.forget (by simp) (by simp)⟩
 refine U<|ZF Z<|Zk<|W<|Zr<|Nr H fX Z fun w1 b5 H=>G (Ys Z)<|vc (Y:=lf) wd (K:=[]) (L:=[(b5,_)]) (M:=[]) H (rF.lit (by decide) (by rfl)) (es:=[]) (news:=es) Z Z Z (Rd.src (H.fact (i:=0) Z)) (by simpa using hb) Z ?_
 intro A3 c3 w3 L3 h3a h3b ho3 H
 refine G (Ws Z)<|U<|Zt ?_
 exact cy Z Z ⟨A3,c3,L3,rfl,h3a,h3b,ho3,H.forget (by simp) (by simp)⟩
theorem y8 (es:List ByteArray) (A:Option Addr) (c:Nat) (w:World) (hr:Rd lf 0 w.heap.size A es w) (hb:es.length*16<=140737488355328):
  db aa jj [.slice A es.length c] w fun v w2=> ∃ A' c',v=.slice A' es.length c'/\es.length<=c'/\Rd lf w.heap.size w2.heap.size A' es w2/\Below w.heap.size w w2:=
 (y9 es A c w hr hb).mono fun v w2 ⟨A',c',L',h1,h2,_,h4,h5⟩=>⟨A',c',h1,h2,h4.rd (K:=[]) (M:=[]) (by simpa using h5),h5.below⟩
structure Aq where
 x:An
 A:Option Addr
 c:Nat
def OB:fi Aq:=⟨fun q=>[J q.x.code,J q.x.n,.slice q.A q.x.texts.length q.c],3,fun _=>rfl,by decide,fun a u hu=>by
 simp only[ax,bO,or_false]at hu
 rcases hu with h|h|h<;>subst h<;>rfl⟩
structure Rn where
 xs:List Aq
 oA:Option Addr
 oC:Nat
 b:Bk
def Rn.v (r:Rn):Value:=.tuple #[.slice r.oA r.xs.length r.oC,.agg r.b.c.toArray,J 0]
structure Rn.rd (r:Rn) (lo hi:Nat) (w:World):Prop where
 xs:Rd OB lo hi r.oA r.xs w
 oC:r.xs.length<=r.oC
 tx: ∀ x∈r.xs,Rd lf lo hi x.A x.x.texts w/\x.x.texts.length<=x.c
 ps:Rd E1 lo hi r.b.pA r.b.ps w
 pC:r.b.ps.length<=r.b.pC
 pa: ∀ q∈r.b.ps,q.p.rd lo hi w
 co:r.b.co.rd lo hi w
 gr:r.b.gr.rd lo hi w
theorem Rn.rd.st {r:Rn} {lo hi:Nat} {w w':World} (hk: ∀ k,lo<=k->k<hi->w'.heap[k]? =w.heap[k]?) (h:r.rd lo hi w):r.rd lo hi w':=⟨h.xs.st hk,h.oC,fun x hx=>⟨(h.tx x hx).1.st hk,(h.tx x hx).2⟩,h.ps.st hk,h.pC,fun q hq=>(h.pa q hq).st hk,h.co.st hk,h.gr.st hk⟩
theorem Rn.rd.mono {r:Rn} {lo hi lo' hi':Nat} {w:World} (h:r.rd lo hi w) (h1:lo'<=lo) (h2:hi<=hi'):r.rd lo' hi' w:=⟨h.xs.mono h1 h2,h.oC,fun x hx=>⟨(h.tx x hx).1.mono h1 h2,(h.tx x hx).2⟩,h.ps.mono h1 h2,h.pC,fun q hq=>Pa.rd.mono (h.pa q hq) h1 h2,Co.rd.mono h.co h1 h2,Gr.rd.mono h.gr h1 h2⟩
theorem Hp.rdM {α:Type} {Y:fi α} {w0 w:World} {L:List (Nat×Obj)} {F:List cr} {lo hi:Nat} {A:Option Addr} {es:List α} (H:Hp w0 w L F) (h:dE Y lo hi A es∈F):Rd Y 0 w.heap.size A es w:=by
 obtain⟨h1,h2,-⟩:=H.facts _ h
 exact Rd.mono h1 (bG _) h2
theorem Bw.into2 {w0 w w2:World} {bb gP:Nat} {b:Bk} {uP:Array Value} {Ls Lo K:List (Nat×Obj)} {F F2:List cr} (B:Bw w0 w bb b gP uP Ls Lo K F) (X:List (Nat×Obj)) (H:Hp w0 w2 (X++((bb,.cells b.c.toArray bK (0,0))::(gP,.cells uP bE (0,0))::(Ls++(Lo++K)))) F2) (hF: ∀ f∈F,f∈F2):Bw w0 w2 bb b gP uP Ls Lo (X++K) F2:=
 ⟨B.pA,B.row,B.sn,B.own,hF _ B.co,hF _ B.gr,fun q hq=>hF _ (B.ps q hq),H.perm (Oh [(bb,_),(gP,_)] Ls Lo X K)⟩
theorem OX (A Ls Lo oL K:List (Nat×Obj)):(A++(oL++(Ls++(Lo++K)))).Perm (A++(Ls++(Lo++(oL++K)))):=by
 refine List.Perm.append_left A ?_
 rw[show Ls++(Lo++(oL++K))=(Ls++Lo)++(oL++K) by simp,show Ls++(Lo++K)=(Ls++Lo)++K by simp]
 exact fU oL (Ls++Lo) K
structure OG (w0 w:World) (W0:Wa) (acts:List Act) (A0:Option Addr) (bb:Nat) (K:List (Nat×Obj)) (i:Nat) (b:Bk) (xs:List Aq) (gP:Nat) (uP:Array Value) (Ls Lo:List (Nat×Obj)) (oA:Option Addr) (oC:Nat) (oL:List (Nat×Obj)) (F:List cr):Prop where
 le:i<=acts.length
 run:m1 W0 (acts.take i) (xs.map Aq.x) b.a
 B:Bw w0 w bb b gP uP Ls Lo (oL++K) F
 own:fW OB (.slice oA xs.length oC) ec xs oL
 tx: ∀ x∈xs,x.x.texts.length<=x.c/\ ∃ lo hi,w0.heap.size<=lo/\dE lf lo hi x.A x.x.texts∈F
 ac:dE mO 0 w0.heap.size A0 acts∈F
theorem Pz (bb gP:Nat×Obj) (Ls Lo oL K:List (Nat×Obj)):(bb::(K++(gP::(Ls++(Lo++oL))))).Perm (bb::gP::(Ls++(Lo++(oL++K)))):=by
 rw[show Ls++(Lo++(oL++K))=(Ls++(Lo++oL))++K by simp]
 refine ai _ ?_
 exact(xB (l₁:=K) (l₂:=gP::(Ls++(Lo++oL))))
theorem OG.rd {w0 w w2:World} {W0:Wa} {acts:List Act} {A0:Option Addr} {bb:Nat} {K:List (Nat×Obj)} {i:Nat} {b:Bk} {xs:List Aq} {gP:Nat} {uP:Array Value} {Ls Lo:List (Nat×Obj)} {oA:Option Addr} {oC:Nat} {oL:List (Nat×Obj)} {F F2:List cr} (Ii:OG w0 w W0 acts A0 bb K i b xs gP uP Ls Lo oA oC oL F) (X:List (Nat×Obj)) (H:Hp w0 w2 (X++((gP,.cells uP bE (0,0))::(Ls++(Lo++oL)))) F2) (hF: ∀ f∈F,f∈F2):(Rn.mk xs oA oC b).rd w0.heap.size w2.heap.size w2:=by
 have H1:=H.forget (L':=oL) (((cm Lo oL).trans (cm Ls _)).trans ((aW _ _).trans (cm X _))) (fun _ h=>h)
 have H2:=H.forget (L':=[(gP,.cells uP bE (0,0))]) (((List.cons_sublist_cons.2 (vG _))).trans (cm X _)) (fun _ h=>h)
 obtain⟨A,c,e1,e2,-⟩:=Ii.own.form
 cases e1
 have hg:=H2.ge (i:=0) Z
 have hl:=H2.lt (i:=0) Z
 refine⟨Ii.own.rd (K:=[]) (M:=[]) (by simpa using H1),e2,fun x hx=> ?_,?_,Ii.B.row.le,fun q hq=> ?_,?_,?_⟩
 obtain⟨z1,lo,hi,z2,z3⟩:=Ii.tx x hx
 obtain⟨h1,h2,-⟩:=H.facts _ (hF _ z3)
 exact⟨Rd.mono h1 z2 h2,z1⟩
 have:=(Ii.B.row.rd (H2.ent (i:=0) Z)).mono hg (Nat.succ_le_of_lt hl)
 rw[<-Ii.B.pA]at this
 exact this
 obtain⟨h1,h2,-⟩:=H.facts _ (hF _ (Ii.B.ps q hq))
 exact Pa.rd.mono h1.2 h1.1 h2
 obtain⟨h1,h2,-⟩:=H.facts _ (hF _ Ii.B.co)
 exact Co.rd.mono h1.2 h1.1 h2
 obtain⟨h1,h2,-⟩:=H.facts _ (hF _ Ii.B.gr)
 exact Gr.rd.mono h1.2 h1.1 h2
theorem IQ {es:List cO} {n st a most b:Nat} {out:List ByteArray} (h:Bp es n st a most out b):out.length<=most:=h.2.2.2.1
theorem Bn {w:Wa} {a:Act} {w':Wa} {x:An} (h:Ex w a w' x) (hn:a.kind=19->a.n<=20) (h17:1<=a.kind):x.texts.length<=20:=by
 cases h with
 |poll x h1 h2=>
  cases h2 with
  |no=>exact bG _
  |yes p x h3 h4 h5=>
   cases h5 with
   |none=>exact bG _
   |range=>exact bG _
   |ok l r st out b g1 g2 g3 g4 g5=>have:=IQ g5;have:=hn h1;show out.length<=20;omega
 |other h1=>
  have:(xv w a).2.texts=[]:=by
   obtain⟨a1,a2,a3,a4,a5,a6,a7,a8⟩:=pN a w
   rcases Classical.em (a.kind=1)with h|h
   rw[a1 h];exact yG ..
   rcases Classical.em (a.kind=2)with h|h
   rw[a2 h];exact xp ..
   rcases Classical.em (a.kind=3∨a.kind=4)with h|h
   rw[a3 h];exact yu ..
   rcases Classical.em (a.kind=5)with h|h
   rw[a4 h];exact vw ..
   rcases Classical.em (a.kind=6)with h|h
   rw[a5 h];exact yB ..
   rcases Classical.em (a.kind=7)with h|h
   rw[a6 h];rfl
   rcases Classical.em (8<=a.kind/\a.kind<=15)with h|h
   rw[a7 h];exact yx ..
   rw[a8 I];exact Aa ..
  rw[this];exact bG _
theorem N3 {np nr few:Nat} {wt:Int} {acts:List Act} {A0:Option Addr} {c0:Nat} (w:World) (q1:1<=np) (q4:np<=4) (n1:1<=nr) (n5:nr<=5) (f1:1<=few) (f2:few<=nr) (t1:1<=wt) (t2:wt<=1000) (hr:Rd mO 0 w.heap.size A0 acts w) (hl:acts.length<=400) (hg: ∀ a∈acts,r8 np nr a):db aa DQ [.agg #[J (np:Nat),J (nr:Nat),J (few:Nat),J wt],.slice A0 acts.length c0] w fun v w2=> ∃ r:Rn,v=r.v/\m1 (sB np nr few wt) acts (r.xs.map Aq.x) r.b.a/\r.rd w.heap.size w2.heap.size w2/\Below w.heap.size w w2:=by
 refine aD B3 Z Z ?_
 have H:=Hp.startRd hr
 show CW _ _ _ _ (args [.agg #[J (np:Nat),J (nr:Nat),J (few:Nat),J wt],.slice A0 acts.length c0]) w
 refine W<|Zr<|fT H Z Z fun w1 b2 H=>G (Ws Z)<|eE H lx Z fun w2 b5 H=>G (Wi Z)<|U<|W<|Zr<|G (Zw nN H 1 Z Z Z)<|bY ze (J3 w _ H.size q1 q4 n1 n5 f1 f2 t1 t2) Z Z ?_
 rintro _ w3 ⟨⟨ps,pA,pC,co,clo,chi,gr,glo,ghi,sns,snA,snC⟩,gP,uP,F1,rfl,hba,⟨hpA,row,⟨hs1,hs2,hs3⟩,hco,hgr,hps,hlo1,H1⟩⟩
 dsimp only at hpA row hs1 hs2 hs3 hco hgr hps
 subst hpA;subst hs1;subst hs2;subst hs3
 replace H:=H.joinF H1 hlo1;clear H1
 refine G (Yu Z)<|G (Xa Z Z)<|G (Xi Z Z)<|eE H lx Z fun w4 b7 H=>bo H 0 (#[.slice (Qd gP) ps.length pC,J (co.clock),J (co.next),J (co.wait),.slice co.A co.txs.length co.cap,J (gr.clock),J (gr.wait),J (gr.gen),.slice gr.mA gr.ms.length gr.mC,.slice gr.oA gr.os.length gr.oC,.slice none (([]:List Sn).length) 0]) jd Z Z Z Z Z N N fun w5 H=>G (Wi Z)<|U<|W<|W<|Zr<|G (Yi Z)<|G (bW Z Z (by decide))<|U<|ZF Z<|Zk<|W<|W<|Zr<|G (Ys Z)<|G (bn wI Z)<|G (er Z Z I)<|U<|ZF Z<|Zk<|W<|Zr<|G (Zw nM H 0 Z Z Z)<|G (bi (cs:= #[.slice (Qd gP) ps.length pC,J (co.clock),J (co.next),J (co.wait),.slice co.A co.txs.length co.cap,J (gr.clock),J (gr.wait),J (gr.gen),.slice gr.mA gr.ms.length gr.mC,.slice gr.oA gr.os.length gr.oC,.slice none (([]:List Sn).length) 0]) IE J0 N)<|fT H Z Z fun w6 b29 H=>G (Wp Z)<|U<|W<|Zr<|G (Ws Z)<|U<|W<|W<|Zr<|G (Ys Z)<|G (bn wI Z) ?_
 refine G (Yi Z)<|U<|Zb ?_
 obtain⟨K3,hK3⟩: ∃ l:List (Nat×Obj),([(b7,.cells #[.slice (Qd gP) ps.length pC,J (co.clock),J (co.next),J (co.wait),.slice co.A co.txs.length co.cap,J (gr.clock),J (gr.wait),J (gr.gen),.slice gr.mA gr.ms.length gr.mC,.slice gr.oA gr.os.length gr.oC,.slice none (([]:List Sn).length) 0] jW (0,0)),(b5,.cells #[.slice none 0 0,J (0),J (0),J (0),.slice none 0 0,J (0),J (0),J (0),.slice none 0 0,.slice none 0 0,.slice none 0 0] jW (0,0)),(b2,.cells #[J (((np:Nat):Int)),J (((nr:Nat):Int)),J (((few:Nat):Int)),J (wt)] jz (0,0))]:List (Nat×Obj))=l:=⟨_,rfl⟩
 refine cf (τ:=Nat×Bk×List Aq×Nat×Array Value×List (Nat×Obj)×List (Nat×Obj)×Option Addr×Nat×List (Nat×Obj)×List cr) [10,12,13,32,33,34,35,36,37,38,39,40,41,42,43,44,45,46,47] (fun(i,_,xs,_,_,_,_,oA,oC,_,_)=>[(32,J (i:Nat)),(10,.slice oA xs.length oC)]) (fun(i,b,xs,gP,uP,Ls,Lo,oA,oC,oL,F') w'=>OG w w' (sB np nr few wt) acts A0 b29 K3 i b xs gP uP Ls Lo oA oC oL F') (fun(i,_)=>acts.length-i) (0,⟨ps,some ⟨gP,0,none⟩,pC,co,clo,chi,gr,glo,ghi,[],none,0⟩,[],gP,uP,[],[],none,0,[],_) (by subst hK3;exact⟨bG _,by rw[hba];exact .nil _,⟨rfl,row,fW.nil,rfl,ci _ hco,ci _ hgr,fun q hq=>ci _ (hps q hq),H.perm (ai _ (al _ _ _))⟩,fW.nil,by simp,az ..⟩) (kZ Z Z) ?_
 rintro⟨i,b,xs,gP1,uP1,Ls,Lo,oA,oC,oL,F'⟩ ρ1 w7 Ii
 show CW _ _ _ _ (dA (gC _ _ ρ1) [(32,J (i:Nat)),(10,.slice oA xs.length oC)]) w7
 have hile:=Ii.le
 have H:=Ii.B.H.learnOld (dE mO 0 w.heap.size A0 acts) (Ii.B.H.facts _ Ii.ac).1 (ao _)
 have hxl:xs.length=i:=by have:=Ii.run.len;rwa[bA,aH,bu hile]at this
 obtain⟨M',-,hwi⟩:=N2 Ii.run (MU n1 n5 f1 f2 t1 t2) (by rw[aH];omega) q4 (fun a ha=>hg a (yV ha))
 rw[cI,aH,bu hile]at hwi
 refine W<|Zr ?_
 refine cU (cH Z Z) Z Z Z (fun h33=> ?_) (fun h33=> ?_)
 ·
  refine U<|W<|ZT Z<|Zk<|W<|Zb<|W ?_
  obtain⟨a,ha⟩: ∃ a,acts[i]? =some a:=⟨_,ah I⟩
  refine Zr<|qu H 0 Z uw Z Z I I Z fun bq8 o8 x8 e8=> ?_
  obtain rfl:a=x8:=by have:=e8.at_;rw[ha]at this;exact bj this
  refine G (jT (xs:=Act.c a) dO Z Z e8.cl)<|eE H jB Z fun w9 b12 H=>bo H 0 (#[J (a.kind),.string (a.name),J (a.part),J (a.n),J (a.m),.string (a.text),J (a.lost)]) iJ Z Z Z Z Z N N fun w10 H=>U<|W<|Zr<|G (Yp Z)<|G (Zw dO H 0 Z Z Z)<|bY uh (OF (Ii.B.into2 [(b12,_)] H (fun f hf=>ak _ hf)) hwi I q1 q4 (hg a (ae ha))) Z Z ?_
  rintro _ w11 ⟨b2,x2,A9,c9,lo9,hi9,hA9,rfl,hc9,gP9,uP9,Ls9,Lo9,F9,B9,hF9⟩
  replace H:=B9.out (X:=[(b12,_)])
  refine eE H dm Z fun w12 b13 H=>bo H 0 (#[J (x2.code),J (x2.n),.slice A9 x2.texts.length c9]) aP Z Z Z Z Z N N fun w13 H=>U<|W<|Zr<|G (Zf qL Z)<|G (Zd g8 H 0 Z Z Z)<|bY nI (y8 x2.texts A9 c9 _ (Hp.rdM H (hF9 _ (az ..))) (by have:=Bn hA9 (fun h=>((hg a (ae ha)).poll h).2) (hg a (ae ha)).kind.1;omega)) Z Z ?_
  have hz41:=H.size
  rintro _ w14 ⟨A41,c41,rfl,hc41,hr41,hb41⟩;replace H:=H.learnRd hb41 hr41;clear hr41 hb41
  refine G (Zf qL Z)<|bo H 0 (#[J (x2.code),J (x2.n),.slice A41 x2.texts.length c41]) EQ Z Z Z Z Z N N fun w15 H=>U<|Zr<|G (Ys Z)<|G (Zw aN H 0 Z Z Z)<|tb (vs:=[.agg #[J (x2.code),J (x2.n),.slice A41 x2.texts.length c41]]) H lF dm Z Z Z Z Z Z fun w16 b45 H=> ?_
  replace H:=Hp.perm H (OX [(b45,_),(b13,_),(b12,_),(b29,_),(gP9,_)] Ls9 Lo9 oL K3)
  refine vc (Y:=OB) HB (K:=[(b45,_),(b13,_),(b12,_),(b29,_),(gP9,_)]) (L:=oL) (M:=Ls9++(Lo9++K3)) H Ii.own (es:=xs) (news:=[(⟨x2,A41,c41⟩:Aq)]) Z Z Z (wn.row (m:=1) (sz:=OB.sz) (H.ent (i:=0) Z) Z) (by simp only[bP];omega) Z ?_
  intro A5 c5 w17 L5 h5 h5m ho5 H
  replace H:=Hp.perm H (OX [(b45,_),(b13,_),(b12,_),(b29,_),(gP9,_)] Ls9 Lo9 L5 K3).symm
  refine G (Ws Z)<|U<|Zr<|G (br Z Z I I)<|G (Yi Z)<|U ?_
  exact⟨(i+1,b2,xs++[(⟨x2,A41,c41⟩:Aq)],gP9,uP9,Ls9,Lo9,A5,c5,L5,_),⟨by omega,by rw[eK ha,bk];exact Ii.run.snoc hA9,Bw.mk B9.pA B9.row B9.sn B9.own (ak _ B9.co) (ak _ B9.gr) (fun q hq=>ak _ (B9.ps q hq)) (H.forget (cm [(b45,_),(b13,_),(b12,_)] _) (fun _ h=>h)),ho5,fun x hx=>(by rcases ar.1 hx with hx|hx;obtain⟨z1,lo,hi,z2,z3⟩:=Ii.tx x hx;exact⟨z1,lo,hi,z2,ak _ (hF9 _ (ak _ (ak _ z3)))⟩;rw[aq.1 hx];exact⟨hc41,_,_,hz41,az ..⟩),ak _ (hF9 _ (ak _ (az ..)))⟩,kZ Z Z,Qg,by show acts.length- (i+1)<acts.length-i;omega⟩
 ·
  refine U<|W<|ZF Z<|Zx<|W ?_
  obtain rfl:i=acts.length:=by omega
  have hrun:=Ii.run
  rw[bJ]at hrun
  subst hK3
  obtain⟨ps2,pA2,pC2,co2,clo2,chi2,gr2,glo2,ghi2,sns2,snA2,snC2⟩:=b
  replace H:Hp w w7 ((b29,.cells #[.slice pA2 ps2.length pC2,J (co2.clock),J (co2.next),J (co2.wait),.slice co2.A co2.txs.length co2.cap,J (gr2.clock),J (gr2.wait),J (gr2.gen),.slice gr2.mA gr2.ms.length gr2.mC,.slice gr2.oA gr2.os.length gr2.oC,.slice snA2 sns2.length snC2] bK (0,0))::(b7,.cells #[.slice (Qd gP) ps.length pC,J (co.clock),J (co.next),J (co.wait),.slice co.A co.txs.length co.cap,J (gr.clock),J (gr.wait),J (gr.gen),.slice gr.mA gr.ms.length gr.mC,.slice gr.oA gr.os.length gr.oC,.slice none (([]:List Sn).length) 0] jW (0,0))::(b5,.cells #[.slice none 0 0,J (0),J (0),J (0),.slice none 0 0,J (0),J (0),J (0),.slice none 0 0,.slice none 0 0,.slice none 0 0] jW (0,0))::(b2,.cells #[J (((np:Nat):Int)),J (((nr:Nat):Int)),J (((few:Nat):Int)),J (wt)] jz (0,0))::(gP1,.cells uP1 bE (0,0))::(Ls++(Lo++oL))) (dE mO 0 w.heap.size A0 acts::F'):=H.perm (Pz (b29,_) (gP1,_) Ls Lo oL [(b7,_),(b5,_),(b2,_)])
  refine bz bX [0,1,2,3,4,5] [6,7] [] [0,1,2,3,5] (sp []) N N N N Nq (cG _) ?_
  refine aw Z Z Z Z Z (fun w' hw'=>Ys Z)<|aw Z Z Z Z Z (fun w' hw'=>Yp Z)<|aw Z Z Z Z Z (fun w' hw'=>aI Z)<|aw Z Z Z Z Z (fun w' hw'=>Zf aV Z)<|aw Z Z Z Z Z (fun w' hw'=>je nM Z ((H.later hw').ent (i:=0) Z) Z)<|aw Z Z Z Z Z (fun w' hw'=>Ws Z)<|aS ?_
  intro w18 hw' hF
  replace H:=H.later hw';clear hw' hF
  refine bo H 2 (#[.slice pA2 ps2.length pC2,J (co2.clock),J (co2.next),J (co2.wait),.slice co2.A co2.txs.length co2.cap,J (gr2.clock),J (gr2.wait),J (gr2.gen),.slice gr2.mA gr2.ms.length gr2.mC,.slice gr2.oA gr2.os.length gr2.oC,.slice snA2 sns2.length snC2]) jd Z Z Z Z Z N N fun w19 H=>G (Wi Z)<|U<|Zt ?_
  exact Lk (v0:=.slice oA xs.length oC) (cs1:= #[.slice pA2 ps2.length pC2,J (co2.clock),J (co2.next),J (co2.wait),.slice co2.A co2.txs.length co2.cap,J (gr2.clock),J (gr2.wait),J (gr2.gen),.slice gr2.mA gr2.ms.length gr2.mC,.slice gr2.oA gr2.os.length gr2.oC,.slice snA2 sns2.length snC2]) (v2:=J 0) Z Z nM Z (H.ent (i:=2) Z) Z Z ⟨⟨xs,oA,oC,⟨ps2,pA2,pC2,co2,clo2,chi2,gr2,glo2,ghi2,sns2,snA2,snC2⟩⟩,rfl,hrun,Ii.rd [(b29,_),(b7,_),(b5,_),(b2,_)] H (fun f hf=>ak _ hf),H.below⟩
/-- an act that the laws make -/
structure Gi (np nr:Nat) (hard:Bool) (a:Act):Prop where
 g:r8 np nr a
 calm:hard=false->(a.kind<=9∨16<=a.kind)/\a.kind≠1/\a.lost=0
 txt:a.text=⟨#[]⟩∨ ∃ n,a.text=vf n
theorem iW {np nr:Nat} {hard:Bool} {k pt n m lo:Int} {nm t:ByteArray} (h:(1<=k/\k<=20/\k≠17)/\(0<=pt/\pt<np)/\(0<=n/\n<=1000)/\(8<=k->k<=15->n<nr)/\(k=5->n<=1)/\(k=19->1<=n/\n<=20)/\(0<=m/\m<=1000)/\(0<=lo/\lo<=2)) (hh:hard=false->(k<=9∨16<=k)/\k≠1/\lo=0) (hn:(k=1∨k=16∨k=18∨k=19∨k=20)->bM nm=true) (ht:t=⟨#[]⟩∨ ∃ n,t=vf n):Gi np nr hard ⟨k,nm,pt,n,m,t,lo⟩:=by
 obtain⟨h1,h2,h3,h4,h5,h6,h7,h8⟩:=h
 refine⟨⟨h1,hn,h2,h3,h4,h5,h6,h7,?_,h8⟩,hh,ht⟩
 rcases ht with ht|⟨x,ht⟩
 show t.size<=40;rw[ht];decide
 show t.size<=40;rw[ht];exact aT (Iu x) (by decide)
def D8 (p:Nat):Act:=⟨13,⟨#[]⟩,p,0,0,⟨#[]⟩,0⟩
def Ar (s:ByteArray):Act:=⟨1,s,0,0,0,⟨#[]⟩,0⟩
def G3 (s:ByteArray):Act:=⟨16,s,0,0,0,⟨#[]⟩,0⟩
def im (n:Nat):List Act:=(Bv n).map D8
def jL (np:Nat):List Act:=im np++[Ar (pV 0),Ar (pV 1),G3 (pV 2)]
theorem FT (n:Nat):im (n+1)=im n++[D8 n]:=by unfold im;rw[List.range_succ,bk];rfl
theorem qf (n:Nat):(im n).length=n:=by simp[im]
def DC:Nat->Int
 |0=>11
 |1=>13
 |_=>1
theorem tQ {k:Nat} (h:k<3):(qc [J 11,J 13,J 1]).toArray[0+k*1]? =some (J (DC k)):=by
 rcases k with _|_|_|k<;>first|rfl|omega
theorem Al (k:Nat):DC k=11∨DC k=13∨DC k=1:=by
 rcases k with _|_|k
 exact .inl Z
 exact .inr (.inl Z)
 exact .inr (.inr Z)
theorem Kn (a b:Int) (w:World) (ha:i64 a) (hb:i64 b):db aa oe [J a,J b] w fun v w2=>v=.agg #[J (1+(pk a 3:Nat):Int),J (1+(pk b 3:Nat):Int),J (1+(pk a (1+pk b 3):Nat):Int),J (5+(pk b 20:Nat):Int)]/\Below w.heap.size w w2:=by
 refine aD tq Z Z ?_
 have H:=Hp.start w
 have p1:=i6 a (show 0<3 by omega)
 have p2:=i6 b (show 0<3 by omega)
 have p3:=i6 a (show 0<1+pk b 3 by omega)
 have p4:=i6 b (show 0<20 by omega)
 refine W<|Zr<|eE H Dd Z fun w1 b4 H=>U<|W<|Zr<|G (Yi Z)<|bY aJ (di b (3) _ hb.1 hb.2 I I) Z Z ?_
 rintro _ w2 ⟨rfl,hb⟩;replace H:=H.later hb;clear hb
 refine G (br Z Z I I)<|G (Wi Z)<|U<|W<|Zr<|G (Yi Z)<|bY aJ (di a (3) _ ha.1 ha.2 I I) Z Z ?_
 rintro _ w3 ⟨rfl,hb⟩;replace H:=H.later hb;clear hb
 refine G (br Z Z I I)<|G (Yi Z)<|G (Yi Z)<|G (Yi Z)<|bY aJ ((by have hA:=di a (1+pk b 3) w3 ha.1 ha.2 I I;rw[show((1+pk b 3:Nat):Int)=(1:Int)+(pk b 3:Nat) by omega]at hA;exact hA)) Z Z ?_
 rintro _ w4 ⟨rfl,hb⟩;replace H:=H.later hb;clear hb
 refine G (br Z Z I I)<|G (Yi Z)<|bY aJ (di b (20) _ hb.1 hb.2 I I) Z Z ?_
 rintro _ w5 ⟨rfl,hb⟩;replace H:=H.later hb;clear hb
 refine G (br Z Z I I)<|G (bi (cs:= #[J (1+(((pk a (3):Nat):Int))),J (1+(((pk b (3):Nat):Int))),J (1+(((pk a (1+pk b 3):Nat):Int))),J (5+(((pk b (20):Nat):Int)))]) Ki Dd N)<|bo H 0 (#[J (1+(((pk a (3):Nat):Int))),J (1+(((pk b (3):Nat):Int))),J (1+(((pk a (1+pk b 3):Nat):Int))),J (5+(((pk b (20):Nat):Int)))]) Cx Z Z Z Z Z N N fun w6 H=>U<|Zt ?_
 exact eO (cs0:= #[J (1+(pk a 3:Nat):Int),J (1+(pk b 3:Nat):Int),J (1+(pk a (1+pk b 3):Nat):Int),J (5+(pk b 20:Nat):Int)]) Z nN Z (H.ent (i:=0) Z) Z ⟨rfl,H.below⟩
def tS (j:Nat):List Act:=(Bv j).map fun k=>Ar (pV k)
theorem G5 (np j:Nat):im np++tS j++[Ar (pV j)]=im np++tS (j+1):=by unfold tS;rw[List.range_succ,bk,aE];rfl
theorem Ky (np:Nat):im np++tS 2++[G3 (pV 2)]=jL np:=by rw[aE];rfl
theorem KS {k:Nat} (h:k<2):(qc [.string ⟨#[97,110,110]⟩,.string ⟨#[98,111,98]⟩]).toArray[0+k*1]? =some (.string (pV k)):=by
 rcases k with _|_|k<;>first|rfl|omega
theorem Pr {a:Int}:i64 ((pk a 2:Nat):Int):=by
 have:=i6 a (show 0<2 by omega)
 exact⟨by omega,by omega⟩
theorem Ev {np nr most:Nat} {few wt:Int} {hard:Bool} (l:List Gf) (A0:Option Addr) (c0:Nat) (w:World) (p1:1<=np) (p4:np<=4) (n1:1<=nr) (n5:nr<=5) (hm:most<=400) (hr:Rd tj 0 w.heap.size A0 l w) (hok: ∀ r∈l,r.ok):db aa uX [.slice A0 l.length c0,.agg #[J (((np:Nat):Int)),J (((nr:Nat):Int)),J (few),J (wt)],J (most:Nat),.bool hard] w fun v w2=> ∃ (body:List Act) (A:Option Addr) (c:Nat) (L:List (Nat×Obj)),v=.slice A (jL np++body).length c/\body.length<=most/\(∀ a∈body,Gi np nr hard a)/\fW mO (.slice A (jL np++body).length c) fP (jL np++body) L/\Hp w w2 L []:=by
 refine aD tY Z Z ?_
 have H:=Hp.startRd hr
 show CW _ _ _ _ (args [.slice A0 l.length c0,.agg #[J (((np:Nat):Int)),J (((nr:Nat):Int)),J (few),J (wt)],J (most:Nat),.bool hard]) w
 refine W<|Zr<|fT H Z Z fun w1 b5 H=>G (Ws Z)<|U<|W<|Zr<|G (Ws Z)<|U<|W<|W<|Zr<|G (Zf qd Z)<|G (Zd aj H 0 Z Z Z)<|G (Yi Z)<|U<|Zb ?_
 refine cf (τ:=Nat×Option Addr×Nat×List (Nat×Obj)) [9,10,20,21,22,23,24,25,26,27,28] (fun(i,A,c,_)=>[(20,J (i:Nat)),(9,.slice A (im i).length c)]) (fun(i,A,c,L) w'=>i<=np/\fW mO (.slice A (im i).length c) fP (im i) L/\Hp w w' ((b5,.cells #[J (((np:Nat):Int)),J (((nr:Nat):Int)),J (few),J (wt)] jz (0,0))::(L++[])) ([dE tj 0 w.heap.size A0 l])) (fun(i,_)=>np-i) (0,none,0,[]) ⟨bG _,fW.nil,H⟩ (kZ Z Z) ?_
 rintro⟨i,A,c,L⟩ ρ1 w2 ⟨hi,ho,H⟩
 show CW _ _ _ _ (dA (gC _ _ ρ1) [(20,J (i:Nat)),(9,.slice A (im i).length c)]) w2
 refine W<|Zr ?_
 refine cU (cH Z Z) Z Z Z (fun h21=> ?_) (fun h21=> ?_)
 refine U<|W<|ZT Z<|Zk<|W<|Zb<|W<|Zr<|G (Yi Z)<|G (Wi Z)<|U<|Zr<|G (Ys Z)<|G (Yi Z)<|G (bi (cs:= #[J (13),.string (⟨#[]⟩),J (((i:Nat):Int)),J (0),J (0),.string (⟨#[]⟩),J (0)]) jp jB N)<|tb (vs:=[.agg #[J (13),.string (⟨#[]⟩),J (((i:Nat):Int)),J (0),J (0),.string (⟨#[]⟩),J (0)]]) H uw jB Z Z Z Z Z Z fun w3 b26 H=>vc (Y:=mO) uQ (K:=[(b26,_),(b5,_)]) (L:=L) (M:=[]) H ho (es:=im i) (news:=[D8 i]) Z Z Z (wn.row (m:=1) (sz:=mO.sz) (H.ent (i:=0) Z) Z) (by simp only[bP];rw[qf];omega) Z ?_
 intro A5 c5 w4 L5 h5 h5m ho5 H
 rw[<-FT]at ho5 h5⊢
 refine G (Ws Z)<|U<|Zr<|G (br Z Z I I)<|G (Yi Z)<|U ?_
 exact⟨(i+1,A5,c5,L5),⟨by omega,ho5,H.forget (.cons _ (ap _)) (fun _ h=>h)⟩,kZ Z Z,Qg,by show np- (i+1)<np-i;omega⟩
 refine U<|W<|ZF Z<|Zx<|W<|W<|Zr<|tb (vs:=[.string (⟨#[97,110,110]⟩),.string (⟨#[98,111,98]⟩)]) H fX wr Z Z Z Z Z Z fun w5 b29 H=>G (bn iP Z)<|G (Yi Z)<|U<|Zb ?_
 obtain rfl:np=i:=by omega
 refine cf (τ:=Nat×Option Addr×Nat×List (Nat×Obj)) [9,12,31,32,33,34,35,36,37,38,39,40] (fun(j,A,c,_)=>[(31,J (j:Nat)),(9,.slice A (im np++tS j).length c)]) (fun(j,A,c,L) w'=>j<=2/\fW mO (.slice A (im np++tS j).length c) fP (im np++tS j) L/\Hp w w' ((b29,.cells #[.string (⟨#[97,110,110]⟩),.string (⟨#[98,111,98]⟩)] kE (0,0))::(b5,.cells #[J (((np:Nat):Int)),J (((nr:Nat):Int)),J (few),J (wt)] jz (0,0))::(L++[])) ([dE tj 0 w.heap.size A0 l])) (fun(j,_)=>2-j) (0,A,c,L) ⟨by omega,by show fW mO (.slice A (im np++[]).length c) fP (im np++[]) L;rw[aY];exact ho,H⟩ (kZ Z (by show _=Value.slice A (im np++[]).length c;rw[aY];rfl)) ?_
 rintro⟨j,A,c,L⟩ ρ1 w6 ⟨hj,ho,H⟩
 show CW _ _ _ _ (dA (gC _ _ ρ1) [(31,J (j:Nat)),(9,.slice A (im np++tS j).length c)]) w6
 refine W<|Zr ?_
 refine cU (cH Z Z) Z Z Z (fun h32=> ?_) (fun h32=> ?_)
 refine U<|W<|ZT Z<|Zk<|W<|Zb<|W<|Zr<|G (s7 fX Z Z I I)<|G (aU aZ Z (aB (H.ent (i:=0) Z) (KS I)))<|G (Wt Z)<|U<|Zr<|G (Ys Z)<|G (Yt Z)<|G (bi (cs:= #[J (1),.string (pV j),J (0),J (0),J (0),.string (⟨#[]⟩),J (0)]) jp jB N)<|tb (vs:=[.agg #[J (1),.string (pV j),J (0),J (0),J (0),.string (⟨#[]⟩),J (0)]]) H uw jB Z Z Z Z Z Z fun w7 b38 H=>vc (Y:=mO) uQ (K:=[(b38,_),(b29,_),(b5,_)]) (L:=L) (M:=[]) H ho (es:=im np++tS j) (news:=[Ar (pV j)]) Z Z Z (wn.row (m:=1) (sz:=mO.sz) (H.ent (i:=0) Z) Z) (by simp only[bP];rw[ay,qf];unfold tS;rw[bA,List.length_range];omega) Z ?_
 intro A5 c5 w8 L5 h5 h5m ho5 H
 rw[G5]at ho5 h5⊢
 refine G (Ws Z)<|U<|Zr<|G (br Z Z I I)<|G (Yi Z)<|U ?_
 exact⟨(j+1,A5,c5,L5),⟨by omega,ho5,H.forget (.cons _ (ap _)) (fun _ h=>h)⟩,kZ Z Z,Qg,by show 2- (j+1)<2-j;omega⟩
 refine U<|W<|ZF Z<|Zx<|W ?_
 obtain rfl:j=2:=by omega
 refine Zr<|G (Ys Z)<|G (bi (cs:= #[J (16),.string (⟨#[99,121]⟩),J (0),J (0),J (0),.string (⟨#[]⟩),J (0)]) jp jB N)<|tb (vs:=[.agg #[J (16),.string (⟨#[99,121]⟩),J (0),J (0),J (0),.string (⟨#[]⟩),J (0)]]) H uw jB Z Z Z Z Z Z fun w9 b43 H=>vc (Y:=mO) uQ (K:=[(b43,_),(b29,_),(b5,_)]) (L:=L) (M:=[]) H ho (es:=im np++tS 2) (news:=[G3 (pV 2)]) Z Z Z (wn.row (m:=1) (sz:=mO.sz) (H.ent (i:=0) Z) Z) (by simp only[bP];rw[ay,qf];show(np+2+1)*_<=_;omega) Z ?_
 intro A5 c5 w10 L5 h5 h5m ho5 H
 rw[Ky]at ho5 h5⊢
 refine G (Ws Z)<|U<|W<|Zr<|G (Wi Z)<|U<|W<|W<|Zr<|G (Wi Z)<|U<|Zb ?_
 refine cf (τ:=Nat×List Act×Option Addr×Nat×List (Nat×Obj)) [9,14,15,16,17,45,46,47,48,49,50,51,52,53,54,55,56,57,58,59,60,61,62,63,64,65,66,67,68,69,70,71,72,73,74,75,76,77,78,79,80,81,82,83,84,85,86,87,88,89,90,91,92,93,94,95,96,97,98,99,100,101,102,103,104,105,106,107,108,109,110,111,112,113,114,115,116,117,118,119,120,121,122,123,124,125,126,127,128,129,130,131,132,133,134,135,136,137,138,139,140,141,142,143,144,145,146,147,148,149,150,151,152,153,154,155,156,157,158,159,160,161,162,163,164,165,166,167,168,169,170,171,172,173,174,175,176,177,178,179,180,181,182,183,184,185,186,187,188,189,190,191,192,193,194,195,196,197,198,199,200,201,202,203,204,205,206,207,208,209,210,211,212,213,214,215,216,217,218,219,220,221,222,223,224,225,226,227,228,229,230,231,232,233] (fun(i,es,A,c,_)=>[(14,J (i:Nat)),(9,.slice A (jL np++es).length c)]) (fun(i,es,A,c,L) w'=>i<=l.length/\i<=most/\es.length=i/\(∀ a∈es,Gi np nr hard a)/\fW mO (.slice A (jL np++es).length c) fP (jL np++es) L/\Hp w w' ((b29,.cells #[.string (⟨#[97,110,110]⟩),.string (⟨#[98,111,98]⟩)] kE (0,0))::(b5,.cells #[J (((np:Nat):Int)),J (((nr:Nat):Int)),J (few),J (wt)] jz (0,0))::(L++[])) ([dE tj 0 w.heap.size A0 l])) (fun(i,_)=>l.length-i) (0,[],A5,c5,L5) ⟨bG _,bG _,rfl,by simp,by rw[aY];exact ho5,H.forget (.cons _ (ap _)) (fun _ h=>h)⟩ (kZ Z (by show _=Value.slice A5 (jL np++[]).length c5;rw[aY];rfl)) ?_
 rintro⟨i,es,A,c,L⟩ ρ1 w11 ⟨hi,him,hel,hes,ho,H⟩
 show CW _ _ _ _ (dA (gC _ _ ρ1) [(14,J (i:Nat)),(9,.slice A (jL np++es).length c)]) w11
 refine W<|W<|Zr<|G (Yi Z)<|G (Ys Z)<|G (bn K4 Z) ?_
 refine cU (cH Z Z) Z Z Z (fun h48=> ?_) (fun h48=> ?_)
 refine G (Yb Z)<|ZG<|G (Yi Z)<|ZG<|G (Yi Z)<|ZG ?_
 refine cU (cH Z Z) Z Z Z (fun h52=> ?_) (fun h52=> ?_)
 refine G (Kt Z Z)<|U<|ZT Z<|Zk<|W<|Zb<|W ?_
 obtain⟨x,hx⟩: ∃ x,l[i]? =some x:=⟨_,ah I⟩
 have hxo:=hok x (ae hx)
 obtain⟨z,hz⟩: ∃ z,(hard&&decide (((pk x.c 6:Nat):Int)=0))=z:=⟨_,rfl⟩
 have hq0:=i6 x.a (show 0<2 by omega)
 have hq1:=i6 x.c (show 0<2 by omega)
 have hq2:=i6 x.c (show 0<3 by omega)
 have hq3:=i6 x.c (show 0<4 by omega)
 have hq4:=i6 x.c (show 0<5 by omega)
 have hq5:=i6 x.c (show 0<6 by omega)
 have hq6:=i6 x.c (show 0<40 by omega)
 have hq7:=i6 x.a (show 0<nr by omega)
 have hq8:=i6 x.b (show 0<np by omega)
 have hq9:=i6 x.kind (show 0<30 by omega)
 refine Zr<|G (Ys Z)<|G (Yi Z)<|qu H 0 Z Mu Z Z I I Z fun bq12 o12 x12 e12=> ?_
 obtain rfl:x=x12:=by have:=e12.at_;rw[hx]at this;exact bj this
 refine G (jT (xs:=Gf.cs x) Nw Z Z e12.cl)<|eE H OL Z fun w13 b15 H=>bo H 0 (#[J (x.kind),J (x.a),J (x.b),J (x.c)]) Mw Z Z Z Z Z N N fun w14 H=>U<|W ?_
 refine bz bX [0,1,4,5,6,7,2,3,8,9,10] [11] [2,3,8,10] [0,4,6,9] (sp [(2,Sp.one (J ((pk x.a 2:Nat):Int))),(3,Sp.one (.string (pV (pk ((pk x.a 2:Nat):Int) 3)))),(8,Sp.one (J ((pk x.b np:Nat):Int))),(10,Sp.blk w14.heap.size (.agg #[J 0,.string ⟨#[]⟩,J 0,J 0,J 0,.string ⟨#[]⟩,J 0]) fP)]) N N N N Nq (cG _) ?_
 refine aw Z Z Z Z Z (fun w' hw'=>Zf mH Z)<|aw Z Z Z Z Z (fun w' hw'=>aU aj Z (aB ((H.later hw').ent (i:=0) Z) Z))<|aw Z Z Z Z Z (fun w' hw'=>Zf Ly Z)<|aw Z Z Z Z Z (fun w' hw'=>aU aj Z (aB ((H.later hw').ent (i:=0) Z) Z))<|aw Z Z Z Z Z (fun w' hw'=>Zf qd Z)<|aw Z Z Z Z Z (fun w' hw'=>aU aj Z (aB ((H.later hw').ent (i:=2) Z) Z))<|gN aJ Z Z Z Z Z (fun w' hw'=>di x.a 2 w' hxo.2.1.1 hxo.2.1.2 I I) Z<|gN uf Z Z Z Z Z (fun w' hw'=>K6 ((pk x.a 2:Nat):Int) w' Pr) Z<|gN aJ Z Z Z Z Z (fun w' hw'=>di x.b np w' hxo.2.2.1.1 hxo.2.2.1.2 I I) Z<|aw Z Z Z Z Z (fun w' hw'=>bi (cs:= #[J (0),.string (pV (pk ((pk x.a 2:Nat):Int) 3)),J (((pk x.b np:Nat):Int)),J (0),J (0),.string (⟨#[]⟩),J (0)]) jp jB N)<|xr jB Z Z Z Z Z (fun w' hw'=>hw'.size) fun b16=>aS ?_
 intro w15 hw' hF
 obtain⟨hF,bq,eq,hge16,hbl16⟩:=hF;cases eq
 obtain⟨hF,-⟩:=hF
 obtain⟨hF,-⟩:=hF
 obtain⟨hF,-⟩:=hF
 have Hb:=H
 replace H:=H.adoptNew hw' hbl16 hge16
 clear hw' hF
 refine bo H 0 (#[J (0),.string (pV (pk ((pk x.a 2:Nat):Int) 3)),J (((pk x.b np:Nat):Int)),J (0),J (0),.string (⟨#[]⟩),J (0)]) iJ Z Z Z Z Z N N fun w16 H=>U<|W<|W ?_
 refine eC (τ:=Unit) [70,71,72,73,74,75,76] (fun _=>[(76,.bool z)]) (fun _ w'=>Hp w w' ((b16,.cells #[J (0),.string (pV (pk ((pk x.a 2:Nat):Int) 3)),J (((pk x.b np:Nat):Int)),J (0),J (0),.string (⟨#[]⟩),J (0)] fP (0,0))::(b15,.cells #[J (x.kind),J (x.a),J (x.b),J (x.c)] vE (0,0))::(b29,.cells #[.string (⟨#[97,110,110]⟩),.string (⟨#[98,111,98]⟩)] kE (0,0))::(b5,.cells #[J (((np:Nat):Int)),J (((nr:Nat):Int)),J (few),J (wt)] jz (0,0))::(L++[])) ([dE tj 0 w.heap.size A0 l])) ?_ ?_
 refine Zr<|G (Yb Z)<|G (Yb Z) ?_
 refine mw 71 Z (fun h71=> ?_) (fun h71=> ?_)
 refine ZG<|G (Zf lj Z)<|ZG<|G (Zd aj H 1 Z Z Z)<|ZG<|bY aJ (di x.c 6 _ hxo.2.2.2.1 hxo.2.2.2.2 I I) Z Z ?_
 rintro _ w17 ⟨rfl,hb⟩;replace H:=H.later hb;clear hb
 refine ZG ?_
 refine cU (bl Z Z) Z Z Z (fun h75=> ?_) (fun h75=> ?_)
 refine G (Kt Z Z)<|U ?_
 exact⟨(),H,dI (congrArg Value.bool (by rw[<-hz];simp[h71,h75]<;>omega)),Qg⟩
 refine G (Kt Z Z)<|U ?_
 exact⟨(),H,dI (congrArg Value.bool (by rw[<-hz];simp[h71,h75]<;>omega)),Qg⟩
 refine ZN<|ZN<|ZN<|ZN<|G (N Z Z)<|U ?_
 exact⟨(),H,dI (congrArg Value.bool (by rw[<-hz];simp[h71]<;>omega)),Qg⟩
 rintro _ ρ1 w18 H
 show CW _ _ _ _ (dA (gC _ _ ρ1) [(76,.bool z)]) w18
 refine eC (τ:=Int) [77,78,79,80,81] (fun _=>[]) (fun lo w'=>(0<=lo/\lo<=2)/\(hard=false->lo=0)/\Hp w w' ((b16,.cells #[J (0),.string (pV (pk ((pk x.a 2:Nat):Int) 3)),J (((pk x.b np:Nat):Int)),J (0),J (0),.string (⟨#[]⟩),J (lo)] fP (0,0))::(b15,.cells #[J (x.kind),J (x.a),J (x.b),J (x.c)] vE (0,0))::(b29,.cells #[.string (⟨#[97,110,110]⟩),.string (⟨#[98,111,98]⟩)] kE (0,0))::(b5,.cells #[J (((np:Nat):Int)),J (((nr:Nat):Int)),J (few),J (wt)] jz (0,0))::(L++[])) ([dE tj 0 w.heap.size A0 l])) ?_ ?_
 refine jl Z (fun hc76=> ?_) (fun hc76=> ?_)
 refine Zr<|G (Zf mH Z)<|G (Zd aj H 1 Z Z Z)<|bY aJ (di x.a 2 _ hxo.2.1.1 hxo.2.1.2 I I) Z Z ?_
 rintro _ w19 ⟨rfl,hb⟩;replace H:=H.later hb;clear hb
 refine G (br Z Z I I)<|G (Zf jE Z)<|bo H 0 (#[J (0),.string (pV (pk ((pk x.a 2:Nat):Int) 3)),J (((pk x.b np:Nat):Int)),J (0),J (0),.string (⟨#[]⟩),J (1+(((pk x.a 2:Nat):Int)))]) bI Z Z Z Z Z N N fun w20 H=>U ?_
 exact⟨1+((pk x.a 2:Nat):Int),⟨by have:=i6 x.a (show 0<2 by omega);omega,fun hh=>(by rw[hc76,hh]at hz;cases hz),H⟩,wl,Qg⟩
 refine Zk ?_
 exact⟨0,⟨by omega,fun _=>rfl,H⟩,wl,Qg⟩
 rintro lo ρ1 w21 ⟨hlo1,hlo2,H⟩
 show CW _ _ _ _ (dA (gC _ _ ρ1) []) w21
 refine W<|W<|Zr<|G (Zf Lz Z)<|G (Zd aj H 1 Z Z Z)<|bY aJ (di x.kind 30 _ hxo.1.1 hxo.1.2 I I) Z Z ?_
 rintro _ w22 ⟨rfl,hb⟩;replace H:=H.later hb;clear hb
 refine G (Wi Z)<|U ?_
 refine eC (τ:=Act) [85,86,87,88,89,90,91,92,93,94,95,96,97,98,99,100,101,102,103,104,105,106,107,108,109,110,111,112,113,114,115,116,117,118,119,120,121,122,123,124,125,126,127,128,129,130,131,132,133,134,135,136,137,138,139,140,141,142,143,144,145,146,147,148,149,150,151,152,153,154,155,156,157,158,159,160,161,162,163,164,165,166,167,168,169,170,171,172,173,174,175,176,177,178,179,180,181,182,183,184,185,186,187,188,189,190,191,192,193,194,195,196,197,198,199,200,201,202,203,204,205,206,207,208,209,210,211,212,213,214,215,216,217,218,219,220,221,222,223,224,225,226,227,228,229] (fun _=>[]) (fun a w'=>Gi np nr hard a/\Hp w w' ((b16,.cells #[J (a.kind),.string (a.name),J (a.part),J (a.n),J (a.m),.string (a.text),J (a.lost)] fP (0,0))::(b15,.cells #[J (x.kind),J (x.a),J (x.b),J (x.c)] vE (0,0))::(b29,.cells #[.string (⟨#[97,110,110]⟩),.string (⟨#[98,111,98]⟩)] kE (0,0))::(b5,.cells #[J (((np:Nat):Int)),J (((nr:Nat):Int)),J (few),J (wt)] jz (0,0))::(L++[])) ([dE tj 0 w.heap.size A0 l])) ?_ ?_
 refine Zb<|W<|Zr<|G (Yi Z) ?_
 refine cU (cH Z Z) Z Z Z (fun h103=> ?_) (fun h103=> ?_)
 refine G (Wb Z)<|U<|ZT Z<|W<|Zr<|G (Zf mI Z)<|bo H 0 (#[J (3),.string (pV (pk ((pk x.a 2:Nat):Int) 3)),J (((pk x.b np:Nat):Int)),J (0),J (0),.string (⟨#[]⟩),J (lo)]) bI Z Z Z Z Z N N fun w23 H=>U<|Zr<|G (Zf lj Z)<|G (Zd aj H 1 Z Z Z)<|bY ue (Mk x.c _ hxo.2.2.2) Z Z ?_
 rintro _ w24 ⟨rfl,hb⟩;replace H:=H.later hb;clear hb
 refine G (Zf AQ Z)<|bo H 0 (#[J (3),.string (pV (pk ((pk x.a 2:Nat):Int) 3)),J (((pk x.b np:Nat):Int)),J (0),J (0),.string (vf x.c),J (lo)]) zJ Z Z Z Z Z N N fun w25 H=>U ?_
 exact⟨(⟨3,pV (pk ((pk x.a 2:Nat):Int) 3),((pk x.b np:Nat):Int),0,0,vf x.c,lo⟩:Act),⟨iW I (fun hh=>by have:=hlo2 hh;omega) (fun _=>qY _) (.inr ⟨_,rfl⟩),H⟩,wl,Qg⟩
 refine G (Wb Z)<|U<|ZF Z<|W<|Zr<|G (Yi Z) ?_
 refine cU (bl Z Z) Z Z Z (fun h111=> ?_) (fun h111=> ?_)
 refine G (Wb Z)<|U<|ZT Z<|Zr<|G (Zf mI Z)<|bo H 0 (#[J (4),.string (pV (pk ((pk x.a 2:Nat):Int) 3)),J (((pk x.b np:Nat):Int)),J (0),J (0),.string (⟨#[]⟩),J (lo)]) bI Z Z Z Z Z N N fun w26 H=>U ?_
 exact⟨(⟨4,pV (pk ((pk x.a 2:Nat):Int) 3),((pk x.b np:Nat):Int),0,0,⟨#[]⟩,lo⟩:Act),⟨iW I (fun hh=>by have:=hlo2 hh;omega) (fun _=>qY _) (.inl Z),H⟩,wl,Qg⟩
 refine G (Wb Z)<|U<|ZF Z<|W<|Zr<|G (Yi Z) ?_
 refine cU (cH Z Z) Z Z Z (fun h115=> ?_) (fun h115=> ?_)
 refine G (Wb Z)<|U<|ZT Z<|Zr<|G (Zf mI Z)<|bo H 0 (#[J (2),.string (pV (pk ((pk x.a 2:Nat):Int) 3)),J (((pk x.b np:Nat):Int)),J (0),J (0),.string (⟨#[]⟩),J (lo)]) bI Z Z Z Z Z N N fun w27 H=>U ?_
 exact⟨(⟨2,pV (pk ((pk x.a 2:Nat):Int) 3),((pk x.b np:Nat):Int),0,0,⟨#[]⟩,lo⟩:Act),⟨iW I (fun hh=>by have:=hlo2 hh;omega) (fun _=>qY _) (.inl Z),H⟩,wl,Qg⟩
 refine G (Wb Z)<|U<|ZF Z<|W<|Zr<|G (Yi Z) ?_
 refine cU (cH Z Z) Z Z Z (fun h119=> ?_) (fun h119=> ?_)
 refine G (Wb Z)<|U<|ZT Z<|W<|Zr<|G (Zf mI Z)<|bo H 0 (#[J (5),.string (pV (pk ((pk x.a 2:Nat):Int) 3)),J (((pk x.b np:Nat):Int)),J (0),J (0),.string (⟨#[]⟩),J (lo)]) bI Z Z Z Z Z N N fun w28 H=>U<|Zr<|G (Zf lj Z)<|G (Zd aj H 1 Z Z Z)<|bY aJ (di x.c 2 _ hxo.2.2.2.1 hxo.2.2.2.2 I I) Z Z ?_
 rintro _ w29 ⟨rfl,hb⟩;replace H:=H.later hb;clear hb
 refine G (Zf eP Z)<|bo H 0 (#[J (5),.string (pV (pk ((pk x.a 2:Nat):Int) 3)),J (((pk x.b np:Nat):Int)),J (((pk x.c 2:Nat):Int)),J (0),.string (⟨#[]⟩),J (lo)]) bI Z Z Z Z Z N N fun w30 H=>U ?_
 exact⟨(⟨5,pV (pk ((pk x.a 2:Nat):Int) 3),((pk x.b np:Nat):Int),((pk x.c 2:Nat):Int),0,⟨#[]⟩,lo⟩:Act),⟨iW I (fun hh=>by have:=hlo2 hh;omega) (fun _=>qY _) (.inl Z),H⟩,wl,Qg⟩
 refine G (Wb Z)<|U<|ZF Z<|W<|Zr<|G (Yi Z) ?_
 refine cU (cH Z Z) Z Z Z (fun h127=> ?_) (fun h127=> ?_)
 refine G (Wb Z)<|U<|ZT Z<|Zr<|G (Zf mH Z)<|G (Zd aj H 1 Z Z Z)<|bY aJ (di x.a 2 _ hxo.2.1.1 hxo.2.1.2 I I) Z Z ?_
 rintro _ w31 ⟨rfl,hb⟩;replace H:=H.later hb;clear hb
 refine G (bi (cs:= #[J (6),.string (⟨#[]⟩),J (0),J (((pk x.a 2:Nat):Int)),J (0),.string (⟨#[]⟩),J (0)]) jp jB N)<|bo H 0 (#[J (6),.string (⟨#[]⟩),J (0),J (((pk x.a 2:Nat):Int)),J (0),.string (⟨#[]⟩),J (0)]) iJ Z Z Z Z Z N N fun w32 H=>U ?_
 exact⟨(⟨6,⟨#[]⟩,0,((pk x.a 2:Nat):Int),0,⟨#[]⟩,0⟩:Act),⟨iW I (fun hh=>by have:=hlo2 hh;omega) (fun h=>by omega) (.inl Z),H⟩,wl,Qg⟩
 refine G (Wb Z)<|U<|ZF Z<|W<|Zr<|G (Yi Z) ?_
 refine cU (cH Z Z) Z Z Z (fun h134=> ?_) (fun h134=> ?_)
 refine G (Wb Z)<|U<|ZT Z ?_
 refine bz bX [0,1,2,3,4,5,6,7] [8] [6] [0,2,4,7] (sp [(6,Sp.one (J ((pk x.a nr:Nat):Int)))]) N N N N Nq (cG _) ?_
 refine aw Z Z Z Z Z (fun w' hw'=>Zf dR Z)<|aw Z Z Z Z Z (fun w' hw'=>aU aj Z (aB ((H.later hw').ent (i:=0) Z) Z))<|aw Z Z Z Z Z (fun w' hw'=>Zf mH Z)<|aw Z Z Z Z Z (fun w' hw'=>aU aj Z (aB ((H.later hw').ent (i:=1) Z) Z))<|aw Z Z Z Z Z (fun w' hw'=>Zf lK Z)<|aw Z Z Z Z Z (fun w' hw'=>aU aj Z (aB ((H.later hw').ent (i:=3) Z) Z))<|gN aJ Z Z Z Z Z (fun w' hw'=>di x.a nr w' hxo.2.1.1 hxo.2.1.2 I I) Z<|aw Z Z Z Z Z (fun w' hw'=>bi (cs:= #[J (8),.string (⟨#[]⟩),J (((pk x.b np:Nat):Int)),J (((pk x.a nr:Nat):Int)),J (0),.string (⟨#[]⟩),J (0)]) jp jB N)<|aS ?_
 intro w33 hw' hF
 replace H:=H.later hw';clear hw' hF
 refine bo H 0 (#[J (8),.string (⟨#[]⟩),J (((pk x.b np:Nat):Int)),J (((pk x.a nr:Nat):Int)),J (0),.string (⟨#[]⟩),J (0)]) iJ Z Z Z Z Z N N fun w34 H=>U ?_
 exact⟨(⟨8,⟨#[]⟩,((pk x.b np:Nat):Int),((pk x.a nr:Nat):Int),0,⟨#[]⟩,0⟩:Act),⟨iW I (fun hh=>by have:=hlo2 hh;omega) (fun h=>by omega) (.inl Z),H⟩,wl,Qg⟩
 refine G (Wb Z)<|U<|ZF Z<|W<|Zr<|G (Yi Z) ?_
 refine cU (cH Z Z) Z Z Z (fun h145=> ?_) (fun h145=> ?_)
 refine G (Wb Z)<|U<|ZT Z ?_
 refine bz bX [0,1,2,3,4,5,6,7] [8] [6] [0,2,4,7] (sp [(6,Sp.one (J ((pk x.a nr:Nat):Int)))]) N N N N Nq (cG _) ?_
 refine aw Z Z Z Z Z (fun w' hw'=>Zf dR Z)<|aw Z Z Z Z Z (fun w' hw'=>aU aj Z (aB ((H.later hw').ent (i:=0) Z) Z))<|aw Z Z Z Z Z (fun w' hw'=>Zf mH Z)<|aw Z Z Z Z Z (fun w' hw'=>aU aj Z (aB ((H.later hw').ent (i:=1) Z) Z))<|aw Z Z Z Z Z (fun w' hw'=>Zf lK Z)<|aw Z Z Z Z Z (fun w' hw'=>aU aj Z (aB ((H.later hw').ent (i:=3) Z) Z))<|gN aJ Z Z Z Z Z (fun w' hw'=>di x.a nr w' hxo.2.1.1 hxo.2.1.2 I I) Z<|aw Z Z Z Z Z (fun w' hw'=>bi (cs:= #[J (9),.string (⟨#[]⟩),J (((pk x.b np:Nat):Int)),J (((pk x.a nr:Nat):Int)),J (0),.string (⟨#[]⟩),J (0)]) jp jB N)<|aS ?_
 intro w35 hw' hF
 replace H:=H.later hw';clear hw' hF
 refine bo H 0 (#[J (9),.string (⟨#[]⟩),J (((pk x.b np:Nat):Int)),J (((pk x.a nr:Nat):Int)),J (0),.string (⟨#[]⟩),J (0)]) iJ Z Z Z Z Z N N fun w36 H=>U ?_
 exact⟨(⟨9,⟨#[]⟩,((pk x.b np:Nat):Int),((pk x.a nr:Nat):Int),0,⟨#[]⟩,0⟩:Act),⟨iW I (fun hh=>by have:=hlo2 hh;omega) (fun h=>by omega) (.inl Z),H⟩,wl,Qg⟩
 refine G (Wb Z)<|U<|ZF Z<|W<|Zr<|G (Yi Z) ?_
 refine cU (cH Z Z) Z Z Z (fun h156=> ?_) (fun h156=> ?_)
 refine G (Wb Z)<|U<|ZT Z ?_
 refine bz bX [0,1,2,3,4,5,6] [7] [4] [0,2,5,6] (sp [(4,Sp.one (J ((pk x.c 5:Nat):Int)))]) N N N N Nq (cG _) ?_
 refine aw Z Z Z Z Z (fun w' hw'=>Zf dR Z)<|aw Z Z Z Z Z (fun w' hw'=>aU aj Z (aB ((H.later hw').ent (i:=0) Z) Z))<|aw Z Z Z Z Z (fun w' hw'=>Zf lj Z)<|aw Z Z Z Z Z (fun w' hw'=>aU aj Z (aB ((H.later hw').ent (i:=1) Z) Z))<|gN aJ Z Z Z Z Z (fun w' hw'=>di x.c 5 w' hxo.2.2.2.1 hxo.2.2.2.2 I I) Z<|aw Z Z Z Z Z (fun w' hw'=>br Z Z I I)<|aw Z Z Z Z Z (fun w' hw'=>bi (cs:= #[J (19),.string (⟨#[99,121]⟩),J (((pk x.b np:Nat):Int)),J (1+(((pk x.c 5:Nat):Int))),J (0),.string (⟨#[]⟩),J (0)]) jp jB N)<|aS ?_
 intro w37 hw' hF
 replace H:=H.later hw';clear hw' hF
 refine bo H 0 (#[J (19),.string (⟨#[99,121]⟩),J (((pk x.b np:Nat):Int)),J (1+(((pk x.c 5:Nat):Int))),J (0),.string (⟨#[]⟩),J (0)]) iJ Z Z Z Z Z N N fun w38 H=>U ?_
 exact⟨(⟨19,⟨#[99,121]⟩,((pk x.b np:Nat):Int),1+(((pk x.c 5:Nat):Int)),0,⟨#[]⟩,0⟩:Act),⟨iW I (fun hh=>by have:=hlo2 hh;omega) (fun _=>zl) (.inl Z),H⟩,wl,Qg⟩
 refine G (Wb Z)<|U<|ZF Z<|W<|Zr<|G (Yi Z) ?_
 refine cU (bl Z Z) Z Z Z (fun h166=> ?_) (fun h166=> ?_)
 refine G (Wb Z)<|U<|ZT Z ?_
 refine bz bX [0,1,2,3,4,5,6] [7] [5] [0,1,3,6] (sp [(5,Sp.one (J ((pk x.c 6:Nat):Int)))]) N N N N Nq (cG _) ?_
 refine aw Z Z Z Z Z (fun w' hw'=>Yi Z)<|aw Z Z Z Z Z (fun w' hw'=>Zf dR Z)<|aw Z Z Z Z Z (fun w' hw'=>aU aj Z (aB ((H.later hw').ent (i:=0) Z) Z))<|aw Z Z Z Z Z (fun w' hw'=>Zf lj Z)<|aw Z Z Z Z Z (fun w' hw'=>aU aj Z (aB ((H.later hw').ent (i:=1) Z) Z))<|gN aJ Z Z Z Z Z (fun w' hw'=>di x.c 6 w' hxo.2.2.2.1 hxo.2.2.2.2 I I) Z<|aw Z Z Z Z Z (fun w' hw'=>bi (cs:= #[J (20),.string (⟨#[99,121]⟩),J (((pk x.b np:Nat):Int)),J (1),J (((pk x.c 6:Nat):Int)),.string (⟨#[]⟩),J (0)]) jp jB N)<|aS ?_
 intro w39 hw' hF
 replace H:=H.later hw';clear hw' hF
 refine bo H 0 (#[J (20),.string (⟨#[99,121]⟩),J (((pk x.b np:Nat):Int)),J (1),J (((pk x.c 6:Nat):Int)),.string (⟨#[]⟩),J (0)]) iJ Z Z Z Z Z N N fun w40 H=>U ?_
 exact⟨(⟨20,⟨#[99,121]⟩,((pk x.b np:Nat):Int),1,((pk x.c 6:Nat):Int),⟨#[]⟩,0⟩:Act),⟨iW I (fun hh=>by have:=hlo2 hh;omega) (fun _=>zl) (.inl Z),H⟩,wl,Qg⟩
 refine G (Wb Z)<|U<|ZF Z<|W<|Zr<|G (Yi Z) ?_
 refine cU (bl Z Z) Z Z Z (fun h176=> ?_) (fun h176=> ?_)
 refine G (Wb Z)<|U<|ZT Z<|Zr<|G (Zf lj Z)<|G (Zd aj H 1 Z Z Z)<|bY aJ (di x.c 4 _ hxo.2.2.2.1 hxo.2.2.2.2 I I) Z Z ?_
 rintro _ w41 ⟨rfl,hb⟩;replace H:=H.later hb;clear hb
 refine G (bi (cs:= #[J (7),.string (⟨#[]⟩),J (0),J (((pk x.c 4:Nat):Int)),J (0),.string (⟨#[]⟩),J (0)]) jp jB N)<|bo H 0 (#[J (7),.string (⟨#[]⟩),J (0),J (((pk x.c 4:Nat):Int)),J (0),.string (⟨#[]⟩),J (0)]) iJ Z Z Z Z Z N N fun w42 H=>U ?_
 exact⟨(⟨7,⟨#[]⟩,0,((pk x.c 4:Nat):Int),0,⟨#[]⟩,0⟩:Act),⟨iW I (fun hh=>by have:=hlo2 hh;omega) (fun h=>by omega) (.inl Z),H⟩,wl,Qg⟩
 refine G (Wb Z)<|U<|ZF Z<|W<|Zr<|G (Yi Z) ?_
 refine cU (bl Z Z) Z Z Z (fun h183=> ?_) (fun h183=> ?_)
 refine G (Wb Z)<|U<|ZT Z<|Zr<|G (Yi Z)<|G (bi (cs:= #[J (18),.string (⟨#[99,121]⟩),J (0),J (1),J (0),.string (⟨#[]⟩),J (0)]) jp jB N)<|bo H 0 (#[J (18),.string (⟨#[99,121]⟩),J (0),J (1),J (0),.string (⟨#[]⟩),J (0)]) iJ Z Z Z Z Z N N fun w43 H=>U ?_
 exact⟨(⟨18,⟨#[99,121]⟩,0,1,0,⟨#[]⟩,0⟩:Act),⟨iW I (fun hh=>by have:=hlo2 hh;omega) (fun _=>zl) (.inl Z),H⟩,wl,Qg⟩
 refine G (Wb Z)<|U<|ZF Z<|W<|Zr<|G (Yb Z)<|G (dF Z)<|G (Wb Z)<|U ?_
 refine jl Z (fun hc186=> ?_) (fun hc186=> ?_)
 refine bz bX [0,1,2,3,4,5,6,7] [8] [6] [0,2,4,7] (sp [(6,Sp.one (J ((pk x.a nr:Nat):Int)))]) N N N N Nq (cG _) ?_
 refine aw Z Z Z Z Z (fun w' hw'=>Zf dR Z)<|aw Z Z Z Z Z (fun w' hw'=>aU aj Z (aB ((H.later hw').ent (i:=0) Z) Z))<|aw Z Z Z Z Z (fun w' hw'=>Zf mH Z)<|aw Z Z Z Z Z (fun w' hw'=>aU aj Z (aB ((H.later hw').ent (i:=1) Z) Z))<|aw Z Z Z Z Z (fun w' hw'=>Zf lK Z)<|aw Z Z Z Z Z (fun w' hw'=>aU aj Z (aB ((H.later hw').ent (i:=3) Z) Z))<|gN aJ Z Z Z Z Z (fun w' hw'=>di x.a nr w' hxo.2.1.1 hxo.2.1.2 I I) Z<|aw Z Z Z Z Z (fun w' hw'=>bi (cs:= #[J (9),.string (⟨#[]⟩),J (((pk x.b np:Nat):Int)),J (((pk x.a nr:Nat):Int)),J (0),.string (⟨#[]⟩),J (0)]) jp jB N)<|aS ?_
 intro w44 hw' hF
 replace H:=H.later hw';clear hw' hF
 refine bo H 0 (#[J (9),.string (⟨#[]⟩),J (((pk x.b np:Nat):Int)),J (((pk x.a nr:Nat):Int)),J (0),.string (⟨#[]⟩),J (0)]) iJ Z Z Z Z Z N N fun w45 H=>U ?_
 exact⟨(⟨9,⟨#[]⟩,((pk x.b np:Nat):Int),((pk x.a nr:Nat):Int),0,⟨#[]⟩,0⟩:Act),⟨iW I (fun hh=>by have:=hlo2 hh;omega) (fun h=>by omega) (.inl Z),H⟩,wl,Qg⟩
 refine W<|Zr<|G (Yi Z) ?_
 refine cU (bl Z Z) Z Z Z (fun h199=> ?_) (fun h199=> ?_)
 refine G (Wb Z)<|U<|ZT Z ?_
 refine bz bX [0,1,4,5,6,7,8,9,11,12,2,3,10,13,14] [15] [2,10,13] [0,3,4,6,8,11,14] (sp [(2,Sp.one (J ((pk x.c 3:Nat):Int))),(10,Sp.one (J ((pk x.a nr:Nat):Int))),(13,Sp.one (J ((pk x.c 40:Nat):Int)))]) N N N N Nq (cG _) ?_
 refine aw Z Z Z Z Z (fun w' hw'=>Zf lj Z)<|aw Z Z Z Z Z (fun w' hw'=>aU aj Z (aB ((H.later hw').ent (i:=1) Z) Z))<|aw Z Z Z Z Z (fun w' hw'=>Zf dR Z)<|aw Z Z Z Z Z (fun w' hw'=>aU aj Z (aB ((H.later hw').ent (i:=0) Z) Z))<|aw Z Z Z Z Z (fun w' hw'=>Zf mH Z)<|aw Z Z Z Z Z (fun w' hw'=>aU aj Z (aB ((H.later hw').ent (i:=1) Z) Z))<|aw Z Z Z Z Z (fun w' hw'=>Zf lK Z)<|aw Z Z Z Z Z (fun w' hw'=>aU aj Z (aB ((H.later hw').ent (i:=3) Z) Z))<|aw Z Z Z Z Z (fun w' hw'=>Zf lj Z)<|aw Z Z Z Z Z (fun w' hw'=>aU aj Z (aB ((H.later hw').ent (i:=1) Z) Z))<|gN aJ Z Z Z Z Z (fun w' hw'=>di x.c 3 w' hxo.2.2.2.1 hxo.2.2.2.2 I I) Z<|aw Z Z Z Z Z (fun w' hw'=>br Z Z I I)<|gN aJ Z Z Z Z Z (fun w' hw'=>di x.a nr w' hxo.2.1.1 hxo.2.1.2 I I) Z<|gN aJ Z Z Z Z Z (fun w' hw'=>di x.c 40 w' hxo.2.2.2.1 hxo.2.2.2.2 I I) Z<|aw Z Z Z Z Z (fun w' hw'=>bi (cs:= #[J (10+(((pk x.c 3:Nat):Int))),.string (⟨#[]⟩),J (((pk x.b np:Nat):Int)),J (((pk x.a nr:Nat):Int)),J (((pk x.c 40:Nat):Int)),.string (⟨#[]⟩),J (0)]) jp jB N)<|aS ?_
 intro w46 hw' hF
 replace H:=H.later hw';clear hw' hF
 refine bo H 0 (#[J (10+(((pk x.c 3:Nat):Int))),.string (⟨#[]⟩),J (((pk x.b np:Nat):Int)),J (((pk x.a nr:Nat):Int)),J (((pk x.c 40:Nat):Int)),.string (⟨#[]⟩),J (0)]) iJ Z Z Z Z Z N N fun w47 H=>U ?_
 exact⟨(⟨10+(((pk x.c 3:Nat):Int)),⟨#[]⟩,((pk x.b np:Nat):Int),((pk x.a nr:Nat):Int),((pk x.c 40:Nat):Int),⟨#[]⟩,0⟩:Act),⟨iW I (fun hh=>by rw[hh]at hc186;cases hc186) (fun h=>by omega) (.inl Z),H⟩,wl,Qg⟩
 refine G (Wb Z)<|U<|ZF Z<|W<|Zr<|G (Yi Z) ?_
 refine cU (bl Z Z) Z Z Z (fun h217=> ?_) (fun h217=> ?_)
 refine G (Wb Z)<|U<|ZT Z ?_
 refine bz bX [0,1,4,5,6,7,8,9,2,3,10,11] [12] [2,10] [0,3,4,6,8,11] (sp [(2,Sp.one (J ((pk x.c 3:Nat):Int))),(10,Sp.one (J ((pk x.a nr:Nat):Int)))]) N N N N Nq (cG _) ?_
 refine aw Z Z Z Z Z (fun w' hw'=>Zf lj Z)<|aw Z Z Z Z Z (fun w' hw'=>aU aj Z (aB ((H.later hw').ent (i:=1) Z) Z))<|aw Z Z Z Z Z (fun w' hw'=>Zf dR Z)<|aw Z Z Z Z Z (fun w' hw'=>aU aj Z (aB ((H.later hw').ent (i:=0) Z) Z))<|aw Z Z Z Z Z (fun w' hw'=>Zf mH Z)<|aw Z Z Z Z Z (fun w' hw'=>aU aj Z (aB ((H.later hw').ent (i:=1) Z) Z))<|aw Z Z Z Z Z (fun w' hw'=>Zf lK Z)<|aw Z Z Z Z Z (fun w' hw'=>aU aj Z (aB ((H.later hw').ent (i:=3) Z) Z))<|gN aJ Z Z Z Z Z (fun w' hw'=>di x.c 3 w' hxo.2.2.2.1 hxo.2.2.2.2 I I) Z<|aw Z Z Z Z Z (fun w' hw'=>br Z Z I I)<|gN aJ Z Z Z Z Z (fun w' hw'=>di x.a nr w' hxo.2.1.1 hxo.2.1.2 I I) Z<|aw Z Z Z Z Z (fun w' hw'=>bi (cs:= #[J (13+(((pk x.c 3:Nat):Int))),.string (⟨#[]⟩),J (((pk x.b np:Nat):Int)),J (((pk x.a nr:Nat):Int)),J (0),.string (⟨#[]⟩),J (0)]) jp jB N)<|aS ?_
 intro w48 hw' hF
 replace H:=H.later hw';clear hw' hF
 refine bo H 0 (#[J (13+(((pk x.c 3:Nat):Int))),.string (⟨#[]⟩),J (((pk x.b np:Nat):Int)),J (((pk x.a nr:Nat):Int)),J (0),.string (⟨#[]⟩),J (0)]) iJ Z Z Z Z Z N N fun w49 H=>U ?_
 exact⟨(⟨13+(((pk x.c 3:Nat):Int)),⟨#[]⟩,((pk x.b np:Nat):Int),((pk x.a nr:Nat):Int),0,⟨#[]⟩,0⟩:Act),⟨iW I (fun hh=>by rw[hh]at hc186;cases hc186) (fun h=>by omega) (.inl Z),H⟩,wl,Qg⟩
 refine G (Wb Z)<|U<|ZF Z<|nU bX (fun w'=>w'.heap[b15]? =some (.cells #[J (x.kind),J (x.a),J (x.b),J (x.c)] vE (0,0))/\w'.heap[b5]? =some (.cells #[J (((np:Nat):Int)),J (((nr:Nat):Int)),J (few),J (wt)] jz (0,0))/\ ∃ cs,w'.heap[b16]? =some (.cells cs fP (0,0))/\cs[1]? =some (.string (pV (pk ((pk x.a 2:Nat):Int) 3)))/\cs[2]? =some (J ((pk x.b np:Nat):Int))) ?_
 intro w50 hw';replace H:=H.later hw';clear hw'
 refine aM 1 N N N Z Z Z Z Nq ⟨H.ent (i:=1) Z,H.ent (i:=3) Z,_,H.ent (i:=0) Z,rfl,rfl⟩ (fun _ hS=>Zf lj Z)<|aM 2 N N N Z Z Z Z Nq ⟨H.ent (i:=1) Z,H.ent (i:=3) Z,_,H.ent (i:=0) Z,rfl,rfl⟩ (fun _ hS=>aU aj Z (aB hS.1 Z))<|aM 6 N N N Z Z Z Z Nq ⟨H.ent (i:=1) Z,H.ent (i:=3) Z,_,H.ent (i:=0) Z,rfl,rfl⟩ (fun _ hS=>Zf fb Z)<|aM 7 N N N Z Z Z Z Nq ⟨H.ent (i:=1) Z,H.ent (i:=3) Z,_,H.ent (i:=0) Z,rfl,rfl⟩ (fun _ hS=>aU aZ Z (hS.2.2.elim fun _ h=>aB h.1 h.2.1))<|aM 8 N N N Z Z Z Z Nq ⟨H.ent (i:=1) Z,H.ent (i:=3) Z,_,H.ent (i:=0) Z,rfl,rfl⟩ (fun _ hS=>Zf dR Z)<|aM 9 N N N Z Z Z Z Nq ⟨H.ent (i:=1) Z,H.ent (i:=3) Z,_,H.ent (i:=0) Z,rfl,rfl⟩ (fun _ hS=>aU aj Z (hS.2.2.elim fun _ h=>aB h.1 h.2.2))<|aM 10 N N N Z Z Z Z Nq ⟨H.ent (i:=1) Z,H.ent (i:=3) Z,_,H.ent (i:=0) Z,rfl,rfl⟩ (fun _ hS=>Zf mH Z)<|aM 11 N N N Z Z Z Z Nq ⟨H.ent (i:=1) Z,H.ent (i:=3) Z,_,H.ent (i:=0) Z,rfl,rfl⟩ (fun _ hS=>aU aj Z (aB hS.1 Z))<|aM 12 N N N Z Z Z Z Nq ⟨H.ent (i:=1) Z,H.ent (i:=3) Z,_,H.ent (i:=0) Z,rfl,rfl⟩ (fun _ hS=>Zf lK Z)<|aM 13 N N N Z Z Z Z Nq ⟨H.ent (i:=1) Z,H.ent (i:=3) Z,_,H.ent (i:=0) Z,rfl,rfl⟩ (fun _ hS=>aU aj Z (aB hS.2.1 Z)) ?_
 refine NQ 0 3 N Z Z ?_ ?_
 refine tb (vs:=[J (11),J (13),J (1)]) H ba wu Z Z Z Z Z Z fun w51 b85 H=>U ?_
 refine⟨⟨H.ent (i:=2) Z,H.ent (i:=4) Z,_,H.ent (i:=1) Z,rfl,rfl⟩,?_⟩
 refine r9 3 N Z<|bY aJ (di x.c 3 _ hxo.2.2.2.1 hxo.2.2.2.2 I I) Z Z ?_
 rintro _ w52 ⟨rfl,hb⟩;replace H:=H.later hb;clear hb
 refine U ?_
 refine⟨⟨H.ent (i:=2) Z,H.ent (i:=4) Z,_,H.ent (i:=1) Z,rfl,rfl⟩,?_⟩
 refine aM 4 N N N Z Z Z Z Nq ⟨H.ent (i:=2) Z,H.ent (i:=4) Z,_,H.ent (i:=1) Z,rfl,rfl⟩ (fun _ hS=>s7 ba Z Z I I) ?_
 refine NQ 5 14 N Z Z ?_ ?_
 refine G (aU aj Z (aB (H.ent (i:=0) Z) (tQ (i6 x.c (show 0<3 by omega)))))<|U ?_
 refine⟨⟨H.ent (i:=2) Z,H.ent (i:=4) Z,_,H.ent (i:=1) Z,rfl,rfl⟩,?_⟩
 refine r9 14 N Z<|bY aJ (di x.a nr _ hxo.2.1.1 hxo.2.1.2 I I) Z Z ?_
 rintro _ w53 ⟨rfl,hb⟩;replace H:=H.later hb;clear hb
 refine U ?_
 refine⟨⟨H.ent (i:=2) Z,H.ent (i:=4) Z,_,H.ent (i:=1) Z,rfl,rfl⟩,?_⟩
 refine aM 15 N N N Z Z Z Z Nq ⟨H.ent (i:=2) Z,H.ent (i:=4) Z,_,H.ent (i:=1) Z,rfl,rfl⟩ (fun _ hS=>bi (cs:= #[J (DC (pk x.c 3)),.string (pV (pk ((pk x.a 2:Nat):Int) 3)),J (((pk x.b np:Nat):Int)),J (((pk x.a nr:Nat):Int)),J (0),.string (⟨#[]⟩),J (0)]) jp jB N)<|r9 16 N Z<|bo H 1 (#[J (DC (pk x.c 3)),.string (pV (pk ((pk x.a 2:Nat):Int) 3)),J (((pk x.b np:Nat):Int)),J (((pk x.a nr:Nat):Int)),J (0),.string (⟨#[]⟩),J (0)]) iJ Z Z Z Z Z N N fun w54 H=>U ?_
 refine⟨⟨H.ent (i:=2) Z,H.ent (i:=4) Z,_,H.ent (i:=1) Z,rfl,rfl⟩,?_⟩
 refine jZ N ?_
 have hkd:=Al (pk x.c 3)
 exact⟨(⟨DC (pk x.c 3),pV (pk ((pk x.a 2:Nat):Int) 3),((pk x.b np:Nat):Int),((pk x.a nr:Nat):Int),0,⟨#[]⟩,0⟩:Act),⟨iW I (fun hh=>by rw[hh]at hc186;cases hc186) (fun _=>qY _) (.inl Z),H.forget ((.cons _ (ap _))) (fun _ h=>h)⟩,wl,Qg⟩
 refine bY aJ (di x.a nr _ hxo.2.1.1 hxo.2.1.2 I I) Z Z ?_
 rintro _ w55 ⟨rfl,hb⟩;replace H:=H.later hb;clear hb
 refine U ?_
 refine⟨⟨H.ent (i:=2) Z,H.ent (i:=4) Z,_,H.ent (i:=1) Z,rfl,rfl⟩,?_⟩
 refine r9 5 N Z<|G (aU aj Z (aB (H.ent (i:=0) Z) (tQ (i6 x.c (show 0<3 by omega)))))<|U ?_
 refine⟨⟨H.ent (i:=2) Z,H.ent (i:=4) Z,_,H.ent (i:=1) Z,rfl,rfl⟩,?_⟩
 refine aM 15 N N N Z Z Z Z Nq ⟨H.ent (i:=2) Z,H.ent (i:=4) Z,_,H.ent (i:=1) Z,rfl,rfl⟩ (fun _ hS=>bi (cs:= #[J (DC (pk x.c 3)),.string (pV (pk ((pk x.a 2:Nat):Int) 3)),J (((pk x.b np:Nat):Int)),J (((pk x.a nr:Nat):Int)),J (0),.string (⟨#[]⟩),J (0)]) jp jB N)<|r9 16 N Z<|bo H 1 (#[J (DC (pk x.c 3)),.string (pV (pk ((pk x.a 2:Nat):Int) 3)),J (((pk x.b np:Nat):Int)),J (((pk x.a nr:Nat):Int)),J (0),.string (⟨#[]⟩),J (0)]) iJ Z Z Z Z Z N N fun w56 H=>U ?_
 refine⟨⟨H.ent (i:=2) Z,H.ent (i:=4) Z,_,H.ent (i:=1) Z,rfl,rfl⟩,?_⟩
 refine jZ N ?_
 have hkd:=Al (pk x.c 3)
 exact⟨(⟨DC (pk x.c 3),pV (pk ((pk x.a 2:Nat):Int) 3),((pk x.b np:Nat):Int),((pk x.a nr:Nat):Int),0,⟨#[]⟩,0⟩:Act),⟨iW I (fun hh=>by rw[hh]at hc186;cases hc186) (fun _=>qY _) (.inl Z),H.forget ((.cons _ (ap _))) (fun _ h=>h)⟩,wl,Qg⟩
 refine bY aJ (di x.c 3 _ hxo.2.2.2.1 hxo.2.2.2.2 I I) Z Z ?_
 rintro _ w57 ⟨rfl,hb⟩;replace H:=H.later hb;clear hb
 refine U ?_
 refine⟨⟨H.ent (i:=1) Z,H.ent (i:=3) Z,_,H.ent (i:=0) Z,rfl,rfl⟩,?_⟩
 refine NQ 0 14 N Z Z ?_ ?_
 refine tb (vs:=[J (11),J (13),J (1)]) H ba wu Z Z Z Z Z Z fun w58 b85 H=>U ?_
 refine⟨⟨H.ent (i:=2) Z,H.ent (i:=4) Z,_,H.ent (i:=1) Z,rfl,rfl⟩,?_⟩
 refine aM 4 N N N Z Z Z Z Nq ⟨H.ent (i:=2) Z,H.ent (i:=4) Z,_,H.ent (i:=1) Z,rfl,rfl⟩ (fun _ hS=>s7 ba Z Z I I) ?_
 refine NQ 5 14 N Z Z ?_ ?_
 refine G (aU aj Z (aB (H.ent (i:=0) Z) (tQ (i6 x.c (show 0<3 by omega)))))<|U ?_
 refine⟨⟨H.ent (i:=2) Z,H.ent (i:=4) Z,_,H.ent (i:=1) Z,rfl,rfl⟩,?_⟩
 refine r9 14 N Z<|bY aJ (di x.a nr _ hxo.2.1.1 hxo.2.1.2 I I) Z Z ?_
 rintro _ w59 ⟨rfl,hb⟩;replace H:=H.later hb;clear hb
 refine U ?_
 refine⟨⟨H.ent (i:=2) Z,H.ent (i:=4) Z,_,H.ent (i:=1) Z,rfl,rfl⟩,?_⟩
 refine aM 15 N N N Z Z Z Z Nq ⟨H.ent (i:=2) Z,H.ent (i:=4) Z,_,H.ent (i:=1) Z,rfl,rfl⟩ (fun _ hS=>bi (cs:= #[J (DC (pk x.c 3)),.string (pV (pk ((pk x.a 2:Nat):Int) 3)),J (((pk x.b np:Nat):Int)),J (((pk x.a nr:Nat):Int)),J (0),.string (⟨#[]⟩),J (0)]) jp jB N)<|r9 16 N Z<|bo H 1 (#[J (DC (pk x.c 3)),.string (pV (pk ((pk x.a 2:Nat):Int) 3)),J (((pk x.b np:Nat):Int)),J (((pk x.a nr:Nat):Int)),J (0),.string (⟨#[]⟩),J (0)]) iJ Z Z Z Z Z N N fun w60 H=>U ?_
 refine⟨⟨H.ent (i:=2) Z,H.ent (i:=4) Z,_,H.ent (i:=1) Z,rfl,rfl⟩,?_⟩
 refine jZ N ?_
 have hkd:=Al (pk x.c 3)
 exact⟨(⟨DC (pk x.c 3),pV (pk ((pk x.a 2:Nat):Int) 3),((pk x.b np:Nat):Int),((pk x.a nr:Nat):Int),0,⟨#[]⟩,0⟩:Act),⟨iW I (fun hh=>by rw[hh]at hc186;cases hc186) (fun _=>qY _) (.inl Z),H.forget ((.cons _ (ap _))) (fun _ h=>h)⟩,wl,Qg⟩
 refine bY aJ (di x.a nr _ hxo.2.1.1 hxo.2.1.2 I I) Z Z ?_
 rintro _ w61 ⟨rfl,hb⟩;replace H:=H.later hb;clear hb
 refine U ?_
 refine⟨⟨H.ent (i:=2) Z,H.ent (i:=4) Z,_,H.ent (i:=1) Z,rfl,rfl⟩,?_⟩
 refine r9 5 N Z<|G (aU aj Z (aB (H.ent (i:=0) Z) (tQ (i6 x.c (show 0<3 by omega)))))<|U ?_
 refine⟨⟨H.ent (i:=2) Z,H.ent (i:=4) Z,_,H.ent (i:=1) Z,rfl,rfl⟩,?_⟩
 refine aM 15 N N N Z Z Z Z Nq ⟨H.ent (i:=2) Z,H.ent (i:=4) Z,_,H.ent (i:=1) Z,rfl,rfl⟩ (fun _ hS=>bi (cs:= #[J (DC (pk x.c 3)),.string (pV (pk ((pk x.a 2:Nat):Int) 3)),J (((pk x.b np:Nat):Int)),J (((pk x.a nr:Nat):Int)),J (0),.string (⟨#[]⟩),J (0)]) jp jB N)<|r9 16 N Z<|bo H 1 (#[J (DC (pk x.c 3)),.string (pV (pk ((pk x.a 2:Nat):Int) 3)),J (((pk x.b np:Nat):Int)),J (((pk x.a nr:Nat):Int)),J (0),.string (⟨#[]⟩),J (0)]) iJ Z Z Z Z Z N N fun w62 H=>U ?_
 refine⟨⟨H.ent (i:=2) Z,H.ent (i:=4) Z,_,H.ent (i:=1) Z,rfl,rfl⟩,?_⟩
 refine jZ N ?_
 have hkd:=Al (pk x.c 3)
 exact⟨(⟨DC (pk x.c 3),pV (pk ((pk x.a 2:Nat):Int) 3),((pk x.b np:Nat):Int),((pk x.a nr:Nat):Int),0,⟨#[]⟩,0⟩:Act),⟨iW I (fun hh=>by rw[hh]at hc186;cases hc186) (fun _=>qY _) (.inl Z),H.forget ((.cons _ (ap _))) (fun _ h=>h)⟩,wl,Qg⟩
 refine bY aJ (di x.a nr _ hxo.2.1.1 hxo.2.1.2 I I) Z Z ?_
 rintro _ w63 ⟨rfl,hb⟩;replace H:=H.later hb;clear hb
 refine U ?_
 refine⟨⟨H.ent (i:=1) Z,H.ent (i:=3) Z,_,H.ent (i:=0) Z,rfl,rfl⟩,?_⟩
 refine r9 0 N Z<|tb (vs:=[J (11),J (13),J (1)]) H ba wu Z Z Z Z Z Z fun w64 b85 H=>U ?_
 refine⟨⟨H.ent (i:=2) Z,H.ent (i:=4) Z,_,H.ent (i:=1) Z,rfl,rfl⟩,?_⟩
 refine aM 4 N N N Z Z Z Z Nq ⟨H.ent (i:=2) Z,H.ent (i:=4) Z,_,H.ent (i:=1) Z,rfl,rfl⟩ (fun _ hS=>s7 ba Z Z I I)<|r9 5 N Z<|G (aU aj Z (aB (H.ent (i:=0) Z) (tQ (i6 x.c (show 0<3 by omega)))))<|U ?_
 refine⟨⟨H.ent (i:=2) Z,H.ent (i:=4) Z,_,H.ent (i:=1) Z,rfl,rfl⟩,?_⟩
 refine aM 15 N N N Z Z Z Z Nq ⟨H.ent (i:=2) Z,H.ent (i:=4) Z,_,H.ent (i:=1) Z,rfl,rfl⟩ (fun _ hS=>bi (cs:= #[J (DC (pk x.c 3)),.string (pV (pk ((pk x.a 2:Nat):Int) 3)),J (((pk x.b np:Nat):Int)),J (((pk x.a nr:Nat):Int)),J (0),.string (⟨#[]⟩),J (0)]) jp jB N)<|r9 16 N Z<|bo H 1 (#[J (DC (pk x.c 3)),.string (pV (pk ((pk x.a 2:Nat):Int) 3)),J (((pk x.b np:Nat):Int)),J (((pk x.a nr:Nat):Int)),J (0),.string (⟨#[]⟩),J (0)]) iJ Z Z Z Z Z N N fun w65 H=>U ?_
 refine⟨⟨H.ent (i:=2) Z,H.ent (i:=4) Z,_,H.ent (i:=1) Z,rfl,rfl⟩,?_⟩
 refine jZ N ?_
 have hkd:=Al (pk x.c 3)
 exact⟨(⟨DC (pk x.c 3),pV (pk ((pk x.a 2:Nat):Int) 3),((pk x.b np:Nat):Int),((pk x.a nr:Nat):Int),0,⟨#[]⟩,0⟩:Act),⟨iW I (fun hh=>by rw[hh]at hc186;cases hc186) (fun _=>qY _) (.inl Z),H.forget ((.cons _ (ap _))) (fun _ h=>h)⟩,wl,Qg⟩
 rintro a ρ1 w66 ⟨hga,H⟩
 show CW _ _ _ _ (dA (gC _ _ ρ1) []) w66
 refine Zr<|G (Ys Z)<|G (Zw dO H 0 Z Z Z)<|tb (vs:=[.agg #[J (a.kind),.string (a.name),J (a.part),J (a.n),J (a.m),.string (a.text),J (a.lost)]]) H uw jB Z Z Z Z Z Z fun w67 b232 H=>vc (Y:=mO) uQ (K:=[(b232,_),(b16,_),(b15,_),(b29,_),(b5,_)]) (L:=L) (M:=[]) H ho (es:=jL np++es) (news:=[a]) Z Z Z (wn.row (m:=1) (sz:=mO.sz) (H.ent (i:=0) Z) Z) (by simp only[bP];rw[ay];unfold jL;rw[ay,qf];show(np+3+es.length+1)*_<=_;omega) Z ?_
 intro A5 c5 w68 L5 h5 h5m ho5 H
 rw[aE]at ho5 h5⊢
 refine G (Ws Z)<|U<|Zr<|G (Yi Z)<|G (br Z Z I I)<|G (Wi Z)<|U ?_
 exact⟨(i+1,es++[a],A5,c5,L5),⟨by omega,by omega,by rw[ay,hel];rfl,fun y hy=>(by rcases ar.1 hy with hy|hy;exact hes y hy;rw[aq.1 hy];exact hga),ho5,H.forget (.cons _ (.cons _ (.cons _ (ap _)))) (fun _ h=>h)⟩,kZ Z Z,Qg,by show l.length- (i+1)<l.length-i;omega⟩
 refine G (Kt Z Z)<|U<|ZF Z<|Zx<|W<|Zr<|G (Ys Z)<|G (Ws Z)<|U<|Zt ?_
 exact cy (v:=.slice A (jL np++es).length c) Z Z ⟨es,A,c,L,rfl,by omega,hes,ho,H.forget (L':=L) (.cons _ (.cons _ (by rw[aY];exact ap _))) (by simp)⟩
 refine G (Yb Z)<|ZN<|ZN<|ZN<|G (N Z Z)<|U<|ZF Z<|Zx<|W<|Zr<|G (Ys Z)<|G (Ws Z)<|U<|Zt ?_
 exact cy (v:=.slice A (jL np++es).length c) Z Z ⟨es,A,c,L,rfl,by omega,hes,ho,H.forget (L':=L) (.cons _ (.cons _ (by rw[aY];exact ap _))) (by simp)⟩
def Iq (lo hi:Nat) (r:Rn):cr:=⟨lo,hi,r.rd lo hi,fun _ _ hk h=>h.st hk⟩
def PF (w:World) (W0:Wa) (acts:List Act) (v:Value) (w2:World):Prop:= ∃ (xs:List Aq) (oA:Option Addr) (oC:Nat) (b:Bk),v=.tuple #[.slice oA xs.length oC,.agg b.c.toArray,.bool true]/\m1 W0 acts (xs.map Aq.x) b.a/\(Rn.mk xs oA oC b).rd w.heap.size w2.heap.size w2/\Below w.heap.size w w2
theorem Dr {a b:Int}:1<=1+pk a 3/\1+pk a 3<=4/\1<=1+pk b 3/\1+pk b 3<=5/\1<=1+pk a (1+pk b 3)/\1+pk a (1+pk b 3)<=1+pk b 3/\(1:Int)<=5+(pk b 20:Nat)/\(5:Int)+(pk b 20:Nat)<=1000:=by
 have p1:=i6 a (show 0<3 by omega)
 have p2:=i6 b (show 0<3 by omega)
 have p3:=i6 a (show 0<1+pk b 3 by omega)
 have p4:=i6 b (show 0<20 by omega)
 omega
theorem Eb (es:List Act) (A:Option Addr) (c:Nat) (w:World) (hr:Rd mO 0 w.heap.size A es w) (hb:es.length*72<=140737488355328):
  db aa rQ [.slice A es.length c] w fun v w2=> ∃ A' c' L',v=.slice A' es.length c'/\es.length<=c'/\c'<=maxLen/\fW mO (.slice A' es.length c') fP es L'/\Hp w w2 L' []:=by
 refine aD rq Z Z ?_
 have H:=Hp.startRd hr
 refine W<|Zr<|G (Ws Z)<|U<|W<|W<|Zr<|G (Ys Z) ?_
 refine wm (pq wI Z) Z Z Z (fun h4=> ?_) (fun h4=> ?_)
 refine U<|ZT Z<|W<|Zr<|G (Ws Z)<|U<|Zt ?_
 have he:es=[]:=by
  cases es with
  |nil=>rfl
  |cons e es=>obtain⟨b,o,hA,_⟩:=hr (by simp);subst hA;cases h4
 subst he
 exact cy Z Z ⟨none,0,[],rfl,by simp,by decide,fW.nil,H.forget (by simp) (by simp)⟩
 refine U<|ZF Z<|Zk<|W<|Zr<|Nr H uw Z fun w1 b5 H=>G (Ys Z)<|vc (Y:=mO) uQ (K:=[]) (L:=[(b5,_)]) (M:=[]) H (rF.lit (by decide) (by rfl)) (es:=[]) (news:=es) Z Z Z (Rd.src (H.fact (i:=0) Z)) (by simpa using hb) Z ?_
 intro A3 c3 w3 L3 h3a h3b ho3 H
 refine G (Ws Z)<|U<|Zt ?_
 exact cy Z Z ⟨A3,c3,L3,rfl,h3a,h3b,ho3,H.forget (by simp) (by simp)⟩
theorem wz {np nr few:Nat} {wt:Int} {acts:List Act} {A0:Option Addr} {c0:Nat} (w:World) (q1:1<=np) (q4:np<=4) (n1:1<=nr) (n5:nr<=5) (f1:1<=few) (f2:few<=nr) (t1:1<=wt) (t2:wt<=1000) (hr:Rd mO 0 w.heap.size A0 acts w) (hl:acts.length<=400) (hg: ∀ a∈acts,r8 np nr a):db aa wO [.agg #[J (np:Nat),J (nr:Nat),J (few:Nat),J wt],.slice A0 acts.length c0] w (PF w (sB np nr few wt) acts):=by
 refine aD vY Z Z ?_
 have H:=Hp.startRd hr
 show CW _ _ _ _ (args [.agg #[J (np:Nat),J (nr:Nat),J (few:Nat),J wt],.slice A0 acts.length c0]) w
 refine W<|Zr<|fT H Z Z fun w1 b2 H=>G (Ws Z)<|eE H lx Z fun w2 b5 H=>G (Wb Z)<|U<|W<|Zr<|G (Zw nN H 1 Z Z Z)<|G (Ys Z)<|bY Ce (N3 _ q1 q4 n1 n5 f1 f2 t1 t2 (H.rd0 0 Z) hl hg) Z Z ?_
 have hlo:=H.size
 rintro _ w3 ⟨⟨xs,oA,oC,⟨ps,pA,pC,co,clo,chi,gr,glo,ghi,sns,snA,snC⟩⟩,rfl,hrun,hrd,hb⟩;replace H:=H.learn hb (Iq w2.heap.size w3.heap.size ⟨xs,oA,oC,⟨ps,pA,pC,co,clo,chi,gr,glo,ghi,sns,snA,snC⟩⟩) hrd (ao _) (ao _)
 have hxl:xs.length=acts.length:=by have:=hrun.len;rwa[bA]at this
 refine G (Yu Z)<|G (Xs Z Z)<|G (Xa Z Z)<|G (Xi Z Z)<|eE H lx Z fun w4 b8 H=>G (Ws Z)<|bo H 0 (#[.slice pA ps.length pC,J (co.clock),J (co.next),J (co.wait),.slice co.A co.txs.length co.cap,J (gr.clock),J (gr.wait),J (gr.gen),.slice gr.mA gr.ms.length gr.mC,.slice gr.oA gr.os.length gr.oC,.slice snA sns.length snC]) jd Z Z Z Z Z N N fun w5 H=>G (Wi Z)<|U<|W ?_
 refine bz bX [0,1,2,3,4,5,6,7,8,9,10,11] [12,13] [] [0,2,3,4,5,6,7,8,9,10,11] (sp []) N N N N Nq (cG _) ?_
 refine aw Z Z Z Z Z (fun w' hw'=>Ys Z)<|aw Z Z Z Z Z (fun w' hw'=>je nM Z ((H.later hw').ent (i:=0) Z) Z)<|aw Z Z Z Z Z (fun w' hw'=>Yi Z)<|aw Z Z Z Z Z (fun w' hw'=>t9 Z Z Z)<|aw Z Z Z Z Z (fun w' hw'=>Yb Z)<|aw Z Z Z Z Z (fun w' hw'=>Ys Z)<|aw Z Z Z Z Z (fun w' hw'=>bn yD Z)<|aw Z Z Z Z Z (fun w' hw'=>Ys Z)<|aw Z Z Z Z Z (fun w' hw'=>bn wI Z)<|aw Z Z Z Z Z (fun w' hw'=>t9 Z Z (by dsimp only;omega))<|aw Z Z Z Z Z (fun w' hw'=>Kt Z Z)<|aw Z Z Z Z Z (fun w' hw'=>Ws Z)<|aS ?_
 intro w6 hw' hF
 replace H:=H.later hw';clear hw' hF
 refine bo H 1 (#[.slice pA ps.length pC,J (co.clock),J (co.next),J (co.wait),.slice co.A co.txs.length co.cap,J (gr.clock),J (gr.wait),J (gr.gen),.slice gr.mA gr.ms.length gr.mC,.slice gr.oA gr.os.length gr.oC,.slice snA sns.length snC]) jd Z Z Z Z Z N N fun w7 H=>G (Wb Z)<|U<|Zt ?_
 exact Lk (v0:=.slice oA xs.length oC) (cs1:= #[.slice pA ps.length pC,J (co.clock),J (co.next),J (co.wait),.slice co.A co.txs.length co.cap,J (gr.clock),J (gr.wait),J (gr.gen),.slice gr.mA gr.ms.length gr.mC,.slice gr.oA gr.os.length gr.oC,.slice snA sns.length snC]) (v2:=.bool true) Z Z nM Z (H.ent (i:=1) Z) Z Z ⟨xs,oA,oC,⟨ps,pA,pC,co,clo,chi,gr,glo,ghi,sns,snA,snC⟩,rfl,hrun,Rn.rd.mono (H.fact (i:=0) Z) hlo (H.facts _ (az ..)).2.1,H.below⟩
theorem Dg {l m:List Act} {A0 A1:Option Addr} {c0 c1:Nat} (w:World) (hr:Rd mO 0 w.heap.size A0 l w) (hs:Rd mO 0 w.heap.size A1 m w) (hl:l.length<=1000) (hm:m.length<=1000):db aa vW [.slice A0 l.length c0,.slice A1 m.length c1] w fun v w2=> ∃ (A:Option Addr) (c:Nat) (L:List (Nat×Obj)),v=.slice A (l++m).length c/\fW mO (.slice A (l++m).length c) fP (l++m) L/\Hp w w2 L []:=by
 refine aD uZ Z Z ?_
 have H:=(Hp.startRd hr).learnOld (dE mO 0 w.heap.size A1 m) hs (ao _)
 show CW _ _ _ _ (args [.slice A0 l.length c0,.slice A1 m.length c1]) w
 refine W<|Zr<|G (Ws Z)<|U<|W<|Zr<|G (Ys Z)<|bY rD (Eb l A0 c0 _ (H.rd0 1 Z) I) Z Z ?_
 rintro _ w1 ⟨A2,c2,L2,rfl,hc2,hm2,ho2,hj2⟩;replace H:=H.join hj2;clear hj2
 refine G (Ys Z)<|vc (Y:=mO) uQ (K:=[]) (L:=L2) (M:=[]) H ho2 (es:=l) (news:=m) Z Z Z (Rd.src (H.fact (i:=0) Z)) I Z ?_
 intro A5 c5 w2 L5 h5 h5m ho5 H
 refine G (Ws Z)<|U<|Zt ?_
 exact cy (v:=.slice A5 (l++m).length c5) Z Z ⟨A5,c5,L5,rfl,ho5,H.forget (L':=L5) (by simp) (by simp)⟩
theorem II {a b:Int} (ha:i64 a) (hb:i64 b): ∃ (np nr few:Nat) (wt:Int),1<=np/\np<=4/\1<=nr/\nr<=5/\1<=few/\few<=nr/\1<=wt/\wt<=1000/\ ∀ w:World,db aa oe [J a,J b] w fun v w2=>v=.agg #[J (np:Nat),J (nr:Nat),J (few:Nat),J wt]/\Below w.heap.size w w2:=by
 obtain⟨h1,h2,h3,h4,h5,h6,h7,h8⟩:=@Dr a b
 refine⟨1+pk a 3,1+pk b 3,1+pk a (1+pk b 3),5+(pk b 20:Nat),h1,h2,h3,h4,h5,h6,h7,by omega,fun w=>(Kn a b w ha hb).mono fun v w2 ⟨g1,g2⟩=>⟨?_,g2⟩⟩
 rw[g1,show((1+pk a 3:Nat):Int)=1+(pk a 3:Nat) by omega,show((1+pk b 3:Nat):Int)=1+(pk b 3:Nat) by omega,show((1+pk a (1+pk b 3):Nat):Int)=1+(pk a (1+pk b 3):Nat) by omega]
theorem ym {np nr:Nat} {hard:Bool} {body:List Act} (h1:1<=np) (hr:1<=nr) (hb: ∀ a∈body,Gi np nr hard a): ∀ a∈jL np++body,r8 np nr a:=fun a ha=>by
 rcases ar.1 ha with ha|ha
 unfold jL at ha
 rcases ar.1 ha with ha|ha
 obtain⟨p,hp,rfl⟩:=bw.1 ha
 have:=List.mem_range.1 hp
 refine(iW (hard:=true) (k:=13) (pt:=p) (n:=0) (m:=0) (lo:=0) I (by simp) I (.inl Z)).g
 simp only[ax,bO,or_false]at ha
 rcases ha with rfl|rfl|rfl<;>exact(iW (hard:=true) (pt:=0) (n:=0) (m:=0) (lo:=0) I (by simp) (fun _=>qY _) (.inl Z)).g
 exact(hb a ha).g
theorem Hp.rnXs {w0 w:World} {L:List (Nat×Obj)} {F:List cr} {lo hi:Nat} {r:Rn} (H:Hp w0 w L F) (i:Nat) (hF:F[i]? =some (Iq lo hi r)):Hp w0 w L (dE OB lo hi r.oA r.xs::F):=by
 refine⟨H.below,H.ents,H.nodup,fun f hf=> ?_⟩
 rcases ax.1 hf with rfl|hf
 obtain⟨h1,h2,h3⟩:=H.facts _ (ae hF)
 exact⟨h1.xs,h2,h3⟩
 exact H.facts f hf
theorem Hp.rn0 {w0 w:World} {L:List (Nat×Obj)} {F:List cr} {lo hi:Nat} {r:Rn} (H:Hp w0 w L F) (i:Nat) (hF:F[i]? =some (Iq lo hi r)):r.rd 0 w.heap.size w:=
 Rn.rd.mono (H.fact hF) (bG _) (H.facts _ (ae hF)).2.1
theorem IN {np nr:Nat} {w w1:Wa} {l:List Act} {xs:List An} (h:m1 w l xs w1):(∀ a∈l,r8 np nr a)-> ∀ x∈xs,x.texts.length<=20:=by
 induction h with
 |nil=>intro _ x hx;cases hx
 |cons h1 _ ih=>
  intro hg x hx
  rcases ax.1 hx with rfl|hx
  exact Bn h1 (fun h=>((hg _ (az ..)).poll h).2) (hg _ (az ..)).kind.1
  exact ih (fun a ha=>hg a (ak _ ha)) x hx
theorem ja (np:Nat) (body:List Act):(jL np++body).length=np+3+body.length:=by rw[ay];unfold jL;rw[ay,qf];rfl
theorem D7 (es fs:List ByteArray) (A B:Option Addr) (c d:Nat) (w:World) (hr:Rd lf 0 w.heap.size A es w) (hs:Rd lf 0 w.heap.size B fs w) (hb:es.length<=1000000000000):
  db aa oh [.slice A es.length c,.slice B fs.length d] w fun v w2=>v=.bool (decide (es=fs))/\Below w.heap.size w w2:=by
 refine aD nw Z Z ?_
 have H:=(Hp.startRd hr).learnOld (dE lf 0 w.heap.size B fs) hs (ao _)
 refine W<|Zr<|G (Wb Z)<|U<|W<|W<|Zr<|G (Ys Z)<|G (bn iP Z)<|G (Ys Z)<|G (bn iP Z) ?_
 refine qt (iO Z Z) Z Z Z (fun h10=> ?_) (fun h10=> ?_)
 have hne:es≠fs:=fun h=>h10 (by rw[h])
 refine U<|ZT Z<|W<|Zr<|G (Wb Z)<|U<|Zt ?_
 exact cy Z Z ⟨by rw[decide_eq_false hne];rfl,H.below⟩
 have hlen:es.length=fs.length:=by omega
 refine U<|ZF Z<|Zk<|W<|W<|Zr<|G (Ys Z)<|G (bn iP Z)<|G (Yi Z)<|U<|Zb ?_
 refine cf (τ:=Nat) [4,5,13,14,15,16,17,18,19,20,21,22,23,24,25] (fun k=>[(13,J (k:Nat))]) (fun k w'=>k<=es.length/\es.take k=fs.take k/\Hp w w' [] [dE lf 0 w.heap.size B fs,dE lf 0 w.heap.size A es]) (fun k=>es.length-k) 0 ⟨by omega,rfl,H⟩ (dI Z) ?_
 rintro k ρ1 w1 ⟨hk,heq,H⟩
 show CW _ _ _ _ (dA (gC _ _ ρ1) [(13,J (k:Nat))]) w1
 refine W<|Zr ?_
 refine cU (cH Z Z) Z Z Z (fun h14=> ?_) (fun h14=> ?_)
 refine U<|W<|ZT Z<|Zk<|W<|Zb<|W<|Zr<|G (Yi Z)<|G (Wi Z)<|U<|W ?_
 refine bz bX [0,1,2,3,4,5,6,7,8] [] [] [0,1,2,4,5,6,8] (sp []) N N N N Nq (cG _) ?_
 refine aw Z Z Z Z Z (fun w' hw'=>Ys Z)<|aw Z Z Z Z Z (fun w' hw'=>Yi Z)<|kB H 1 Z Z Z Z Z fX Z Z I I fun bq2 o2 x2 e2=>aw Z Z Z Z Z (fun w' hw'=>aU aZ Z (e2.later hw' 0 _ Z))<|aw Z Z Z Z Z (fun w' hw'=>Ys Z)<|aw Z Z Z Z Z (fun w' hw'=>Yi Z)<|kB H 0 Z Z Z Z Z fX Z Z I I fun bq3 o3 x3 e3=>aw Z Z Z Z Z (fun w' hw'=>aU aZ Z (e3.later hw' 0 _ Z)) ?_
 refine Nu Z Z Z Z Z (fun w' hw'=>Gw Z Z) (fun h24=> ?_) (fun h24=> ?_)
 refine aS ?_
 intro w4 hw' hF
 replace H:=H.later hw';clear hw' hF
 refine U<|ZT Z<|W<|Zr<|G (Wb Z)<|U<|Zt ?_
 have hne:es≠fs:=fun h=>by subst h;have h1:=e2.at_;rw[e3.at_]at h1;injection h1 with h1;exact h24 h1.symm
 exact cy Z Z ⟨by rw[decide_eq_false hne];rfl,H.below⟩
 refine aS ?_
 intro w5 hw' hF
 replace H:=H.later hw';clear hw' hF
 refine U<|ZF Z<|Zk<|Zr<|G (br Z Z I I)<|G (Yi Z)<|U ?_
 refine⟨k+1,⟨by omega,by rw[eK e2.at_,eK e3.at_,heq,h24],H⟩,dI Z,Qg,by show es.length- (k+1)<es.length-k;omega⟩
 refine U<|W<|ZF Z<|Zx<|W<|Zr<|G (Wb Z)<|U<|Zt ?_
 have hke:k=es.length:=by omega
 subst hke
 rw[bJ,hlen,bJ]at heq
 exact cy Z Z ⟨by rw[decide_eq_true heq];rfl,H.below⟩
theorem JN {xs ys:List Aq} {zs:List An} (h:ys.map Aq.x=xs.map Aq.x++zs) {i:Nat} {x:Aq} (hx:xs[i]? =some x): ∃ y,ys[i]? =some y/\x.x=y.x:=by
 have h1:(ys.map Aq.x)[i]? =some x.x:=by
  rw[h,bV (by rw[bA];exact(cF hx).1),aL,hx];rfl
 rw[aL]at h1
 cases hy:ys[i]? with
 |none=>rw[hy]at h1;cases h1
 |some y=>rw[hy]at h1;exact⟨y,rfl,(bj h1).symm⟩
theorem wW {np nr:Nat} {l m:List Act} (h1: ∀ a∈l,r8 np nr a) (h2: ∀ a∈m,r8 np nr a): ∀ a∈l++m,r8 np nr a:=fun a ha=>by
 rcases ar.1 ha with ha|ha
 exact h1 a ha
 exact h2 a ha
theorem EF (l:List Gf) (A:Option Addr) (c:Nat) (m:List Gf) (A2:Option Addr) (c2:Nat) (a b:Int) (w:World) (hr:Rd tj 0 w.heap.size A l w) (hok: ∀ r∈l,r.ok) (_:l.length<=9223372036854775807) (hr2:Rd tj 0 w.heap.size A2 m w) (hok2: ∀ r∈m,r.ok) (_:m.length<=9223372036854775807) (ha:i64 a) (hb:i64 b):db aa sF [.slice A l.length c,.slice A2 m.length c2,J a,J b] w fun v w2=>v=.bool true/\Below w.heap.size w w2:=by
 refine aD rU Z Z ?_
 have H:=(Hp.startRd hr).learnOld (dE tj 0 w.heap.size A2 m) hr2 (ao _)
 obtain⟨np,nr,few,wt,q1,q4,n1,n5,f1,f2,t1,t2,hset⟩:=II ha hb
 refine W<|Zr<|G (Wb Z)<|U<|W<|Zr<|G (Yi Z)<|G (Yi Z)<|bY tu (hset _) Z Z ?_
 rintro _ w1 ⟨rfl,hb⟩;replace H:=H.later hb;clear hb
 refine eE H Dd Z fun w2 b9 H=>bo H 0 (#[J (((np:Nat):Int)),J (((nr:Nat):Int)),J (((few:Nat):Int)),J (wt)]) Cx Z Z Z Z Z N N fun w3 H=>U<|W<|Zr<|G (Ys Z)<|G (Zw nN H 0 Z Z Z)<|bY ks (Ev (few:=few) (wt:=wt) (np:=np) (nr:=nr) (most:=50) (hard:=true) l _ _ _ q1 q4 n1 n5 I (H.rd0 1 Z) hok) Z Z ?_
 rintro _ w4 ⟨body,Abody,cbody,Lbody,rfl,hblbody,hbgbody,hbobody,hbjbody⟩;replace H:=H.learnOwn hbjbody hbobody
 have hagbody:=ym q1 I hbgbody
 refine G (Ws Z)<|U<|W<|Zr<|G (Zw nN H 0 Z Z Z)<|G (Ys Z)<|bY io (wz (np:=np) (nr:=nr) (few:=few) (wt:=wt) (acts:=(jL np++body)) _ q1 q4 n1 n5 f1 f2 t1 t2 (H.rd0 0 Z) (by rw[ja];omega) hagbody) Z Z ?_
 rintro _ w5 ⟨xs,oA,oC,⟨ps,pA,pC,co,clo,chi,gr,glo,ghi,sns,snA,snC⟩,rfl,hrun,hrd,hrb⟩;replace H:=H.learn hrb (Iq w4.heap.size w5.heap.size ⟨xs,oA,oC,⟨ps,pA,pC,co,clo,chi,gr,glo,ghi,sns,snA,snC⟩⟩) hrd (ao _) (ao _);clear hrd hrb
 refine G (Yu Z)<|G (Xs Z Z)<|G (Xa Z Z)<|G (Xb Z Z)<|eE H lx Z fun w6 b12 H=>G (Ws Z)<|bo H 0 (#[.slice pA ps.length pC,J (co.clock),J (co.next),J (co.wait),.slice co.A co.txs.length co.cap,J (gr.clock),J (gr.wait),J (gr.gen),.slice gr.mA gr.ms.length gr.mC,.slice gr.oA gr.os.length gr.oC,.slice snA sns.length snC]) jd Z Z Z Z Z N N fun w7 H=>G (Wb Z)<|U<|W ?_
 refine eC (τ:=List Act×Rn×Nat×Nat×Nat) [14,15,16,31,32,33,34,35,36,37,38,39,40,41] (fun(_,r,b15,_,_)=>[(14,.slice r.oA r.xs.length r.oC),(15,.pointer (Qd b15)),(16,.bool true)]) (fun(bd2,r,b15,lo,hi) w'=>m1 (sB np nr few wt) (jL np++body++(jL np++bd2)) (r.xs.map Aq.x) r.b.a/\Hp w w' ((b15,.cells r.b.c.toArray jW (0,0))::(b12,.cells #[.slice pA ps.length pC,J (co.clock),J (co.next),J (co.wait),.slice co.A co.txs.length co.cap,J (gr.clock),J (gr.wait),J (gr.gen),.slice gr.mA gr.ms.length gr.mC,.slice gr.oA gr.os.length gr.oC,.slice snA sns.length snC] jW (0,0))::(b9,.cells #[J (((np:Nat):Int)),J (((nr:Nat):Int)),J (((few:Nat):Int)),J (wt)] jz (0,0))::[]) (Iq lo hi r::[Iq w4.heap.size w5.heap.size ⟨xs,oA,oC,⟨ps,pA,pC,co,clo,chi,gr,glo,ghi,sns,snA,snC⟩⟩,dE mO w3.heap.size w4.heap.size Abody (jL np++body),dE tj 0 w.heap.size A2 m,dE tj 0 w.heap.size A l])) ?_ ?_
 ·skip
  refine nU bX (fun w'=>w'.heap[b9]? =some (.cells #[J (((np:Nat):Int)),J (((nr:Nat):Int)),J (((few:Nat):Int)),J (wt)] jz (0,0))) ?_
  intro w8 hw';replace H:=H.later hw';clear hw'
  refine aM 0 N N N Z Z Z Z Nq (H.ent (i:=1) Z) (fun _ hS=>je nN Z hS Z)<|aM 1 N N N Z Z Z Z Nq (H.ent (i:=1) Z) (fun _ hS=>Ys Z)<|aM 2 N N N Z Z Z Z Nq (H.ent (i:=1) Z) (fun _ hS=>Ys Z)<|aM 3 N N N Z Z Z Z Nq (H.ent (i:=1) Z) (fun _ hS=>je nN Z hS Z) ?_
  refine NQ 4 11 N Z Z ?_ ?_
  ·
   refine bY ks (Ev (few:=few) (wt:=wt) (np:=np) (nr:=nr) (most:=40) (hard:=true) m _ _ _ q1 q4 n1 n5 I (H.rd0 2 Z) hok2) Z Z ?_
   rintro _ w9 ⟨bd2,Abd2,cbd2,Lbd2,rfl,hblbd2,hbgbd2,hbobd2,hbjbd2⟩;replace H:=H.learnOwn hbjbd2 hbobd2
   have hagbd2:=ym q1 I hbgbd2
   refine U ?_
   refine⟨(H.ent (i:=1) Z),?_⟩
   refine NQ 5 11 N Z Z ?_ ?_
   ·
    refine bY kV (Dg (l:=(jL np++body)) (m:=(jL np++bd2)) _ (H.rd0 2 Z) (H.rd0 0 Z) (by rw[ja];omega) (by rw[ja];omega)) Z Z ?_
    rintro _ w10 ⟨Aw,cw,Lw,rfl,how,hjw⟩;replace H:=H.learnOwn hjw how
    refine U ?_
    refine⟨(H.ent (i:=1) Z),?_⟩
    refine NQ 6 11 N Z Z ?_ ?_
    ·
     refine bY io (wz (np:=np) (nr:=nr) (few:=few) (wt:=wt) (acts:=(jL np++body++(jL np++bd2))) _ q1 q4 n1 n5 f1 f2 t1 t2 (H.rd0 0 Z) (by rw[ay,ja,ja];omega) (wW hagbody hagbd2)) Z Z ?_
     rintro _ w11 ⟨xs2,oA2,oC2,⟨ps2,pA2,pC2,co2,clo2,chi2,gr2,glo2,ghi2,sns2,snA2,snC2⟩,rfl,hrun2,hrd2,hrb2⟩;replace H:=H.learn hrb2 (Iq w10.heap.size w11.heap.size ⟨xs2,oA2,oC2,⟨ps2,pA2,pC2,co2,clo2,chi2,gr2,glo2,ghi2,sns2,snA2,snC2⟩⟩) hrd2 (ao _) (ao _);clear hrd2 hrb2
     refine U ?_
     refine⟨(H.ent (i:=1) Z),?_⟩
     refine aM 7 N N N Z Z Z Z Nq (H.ent (i:=1) Z) (fun _ hS=>Yu Z)<|aM 8 N N N Z Z Z Z Nq (H.ent (i:=1) Z) (fun _ hS=>Xs Z Z)<|aM 9 N N N Z Z Z Z Nq (H.ent (i:=1) Z) (fun _ hS=>Xa Z Z)<|aM 10 N N N Z Z Z Z Nq (H.ent (i:=1) Z) (fun _ hS=>Xb Z Z)<|r9 11 N Z<|eE H lx Z fun w12 b15 H=>U ?_
     refine⟨(H.ent (i:=2) Z),?_⟩
     refine aM 12 N N N Z Z Z Z Nq (H.ent (i:=2) Z) (fun _ hS=>Ws Z)<|r9 13 N Z<|bo H 0 (#[.slice pA2 ps2.length pC2,J (co2.clock),J (co2.next),J (co2.wait),.slice co2.A co2.txs.length co2.cap,J (gr2.clock),J (gr2.wait),J (gr2.gen),.slice gr2.mA gr2.ms.length gr2.mC,.slice gr2.oA gr2.os.length gr2.oC,.slice snA2 sns2.length snC2]) jd Z Z Z Z Z N N fun w13 H=>U ?_
     refine⟨(H.ent (i:=2) Z),?_⟩
     refine aM 14 N N N Z Z Z Z Nq (H.ent (i:=2) Z) (fun _ hS=>Wb Z)<|jZ N ?_
     exact⟨(bd2,⟨xs2,oA2,oC2,⟨ps2,pA2,pC2,co2,clo2,chi2,gr2,glo2,ghi2,sns2,snA2,snC2⟩⟩,b15,w10.heap.size,w11.heap.size),⟨hrun2,H.forget (by repeat (first|exact ap _|refine .cons_cons _ ?_|refine .cons _ ?_)) (fun f hf=>by simp only[ax,bO,or_false]at hf⊢;grind)⟩,Mv Z Z Z,Qg⟩
    ·
     refine eE H lx Z fun w14 b15 H=>U ?_
     refine⟨(H.ent (i:=2) Z),?_⟩
     refine r9 6 N Z<|bY io (wz (np:=np) (nr:=nr) (few:=few) (wt:=wt) (acts:=(jL np++body++(jL np++bd2))) _ q1 q4 n1 n5 f1 f2 t1 t2 (H.rd0 0 Z) (by rw[ay,ja,ja];omega) (wW hagbody hagbd2)) Z Z ?_
     rintro _ w15 ⟨xs2,oA2,oC2,⟨ps2,pA2,pC2,co2,clo2,chi2,gr2,glo2,ghi2,sns2,snA2,snC2⟩,rfl,hrun2,hrd2,hrb2⟩;replace H:=H.learn hrb2 (Iq w14.heap.size w15.heap.size ⟨xs2,oA2,oC2,⟨ps2,pA2,pC2,co2,clo2,chi2,gr2,glo2,ghi2,sns2,snA2,snC2⟩⟩) hrd2 (ao _) (ao _);clear hrd2 hrb2
     refine U ?_
     refine⟨(H.ent (i:=2) Z),?_⟩
     refine aM 7 N N N Z Z Z Z Nq (H.ent (i:=2) Z) (fun _ hS=>Yu Z)<|aM 8 N N N Z Z Z Z Nq (H.ent (i:=2) Z) (fun _ hS=>Xs Z Z)<|aM 9 N N N Z Z Z Z Nq (H.ent (i:=2) Z) (fun _ hS=>Xa Z Z)<|aM 10 N N N Z Z Z Z Nq (H.ent (i:=2) Z) (fun _ hS=>Xb Z Z)<|aM 12 N N N Z Z Z Z Nq (H.ent (i:=2) Z) (fun _ hS=>Ws Z)<|r9 13 N Z<|bo H 0 (#[.slice pA2 ps2.length pC2,J (co2.clock),J (co2.next),J (co2.wait),.slice co2.A co2.txs.length co2.cap,J (gr2.clock),J (gr2.wait),J (gr2.gen),.slice gr2.mA gr2.ms.length gr2.mC,.slice gr2.oA gr2.os.length gr2.oC,.slice snA2 sns2.length snC2]) jd Z Z Z Z Z N N fun w16 H=>U ?_
     refine⟨(H.ent (i:=2) Z),?_⟩
     refine aM 14 N N N Z Z Z Z Nq (H.ent (i:=2) Z) (fun _ hS=>Wb Z)<|jZ N ?_
     exact⟨(bd2,⟨xs2,oA2,oC2,⟨ps2,pA2,pC2,co2,clo2,chi2,gr2,glo2,ghi2,sns2,snA2,snC2⟩⟩,b15,w14.heap.size,w15.heap.size),⟨hrun2,H.forget (by repeat (first|exact ap _|refine .cons_cons _ ?_|refine .cons _ ?_)) (fun f hf=>by simp only[ax,bO,or_false]at hf⊢;grind)⟩,Mv Z Z Z,Qg⟩
   ·
    refine eE H lx Z fun w17 b15 H=>U ?_
    refine⟨(H.ent (i:=2) Z),?_⟩
    refine r9 5 N Z<|bY kV (Dg (l:=(jL np++body)) (m:=(jL np++bd2)) _ (H.rd0 2 Z) (H.rd0 0 Z) (by rw[ja];omega) (by rw[ja];omega)) Z Z ?_
    rintro _ w18 ⟨Aw,cw,Lw,rfl,how,hjw⟩;replace H:=H.learnOwn hjw how
    refine U ?_
    refine⟨(H.ent (i:=2) Z),?_⟩
    refine r9 6 N Z<|bY io (wz (np:=np) (nr:=nr) (few:=few) (wt:=wt) (acts:=(jL np++body++(jL np++bd2))) _ q1 q4 n1 n5 f1 f2 t1 t2 (H.rd0 0 Z) (by rw[ay,ja,ja];omega) (wW hagbody hagbd2)) Z Z ?_
    rintro _ w19 ⟨xs2,oA2,oC2,⟨ps2,pA2,pC2,co2,clo2,chi2,gr2,glo2,ghi2,sns2,snA2,snC2⟩,rfl,hrun2,hrd2,hrb2⟩;replace H:=H.learn hrb2 (Iq w18.heap.size w19.heap.size ⟨xs2,oA2,oC2,⟨ps2,pA2,pC2,co2,clo2,chi2,gr2,glo2,ghi2,sns2,snA2,snC2⟩⟩) hrd2 (ao _) (ao _);clear hrd2 hrb2
    refine U ?_
    refine⟨(H.ent (i:=2) Z),?_⟩
    refine aM 7 N N N Z Z Z Z Nq (H.ent (i:=2) Z) (fun _ hS=>Yu Z)<|aM 8 N N N Z Z Z Z Nq (H.ent (i:=2) Z) (fun _ hS=>Xs Z Z)<|aM 9 N N N Z Z Z Z Nq (H.ent (i:=2) Z) (fun _ hS=>Xa Z Z)<|aM 10 N N N Z Z Z Z Nq (H.ent (i:=2) Z) (fun _ hS=>Xb Z Z)<|aM 12 N N N Z Z Z Z Nq (H.ent (i:=2) Z) (fun _ hS=>Ws Z)<|r9 13 N Z<|bo H 0 (#[.slice pA2 ps2.length pC2,J (co2.clock),J (co2.next),J (co2.wait),.slice co2.A co2.txs.length co2.cap,J (gr2.clock),J (gr2.wait),J (gr2.gen),.slice gr2.mA gr2.ms.length gr2.mC,.slice gr2.oA gr2.os.length gr2.oC,.slice snA2 sns2.length snC2]) jd Z Z Z Z Z N N fun w20 H=>U ?_
    refine⟨(H.ent (i:=2) Z),?_⟩
    refine aM 14 N N N Z Z Z Z Nq (H.ent (i:=2) Z) (fun _ hS=>Wb Z)<|jZ N ?_
    exact⟨(bd2,⟨xs2,oA2,oC2,⟨ps2,pA2,pC2,co2,clo2,chi2,gr2,glo2,ghi2,sns2,snA2,snC2⟩⟩,b15,w18.heap.size,w19.heap.size),⟨hrun2,H.forget (by repeat (first|exact ap _|refine .cons_cons _ ?_|refine .cons _ ?_)) (fun f hf=>by simp only[ax,bO,or_false]at hf⊢;grind)⟩,Mv Z Z Z,Qg⟩
  ·
   refine eE H lx Z fun w21 b15 H=>U ?_
   refine⟨(H.ent (i:=2) Z),?_⟩
   refine r9 4 N Z<|bY ks (Ev (few:=few) (wt:=wt) (np:=np) (nr:=nr) (most:=40) (hard:=true) m _ _ _ q1 q4 n1 n5 I (H.rd0 2 Z) hok2) Z Z ?_
   rintro _ w22 ⟨bd2,Abd2,cbd2,Lbd2,rfl,hblbd2,hbgbd2,hbobd2,hbjbd2⟩;replace H:=H.learnOwn hbjbd2 hbobd2
   have hagbd2:=ym q1 I hbgbd2
   refine U ?_
   refine⟨(H.ent (i:=2) Z),?_⟩
   refine r9 5 N Z<|bY kV (Dg (l:=(jL np++body)) (m:=(jL np++bd2)) _ (H.rd0 2 Z) (H.rd0 0 Z) (by rw[ja];omega) (by rw[ja];omega)) Z Z ?_
   rintro _ w23 ⟨Aw,cw,Lw,rfl,how,hjw⟩;replace H:=H.learnOwn hjw how
   refine U ?_
   refine⟨(H.ent (i:=2) Z),?_⟩
   refine r9 6 N Z<|bY io (wz (np:=np) (nr:=nr) (few:=few) (wt:=wt) (acts:=(jL np++body++(jL np++bd2))) _ q1 q4 n1 n5 f1 f2 t1 t2 (H.rd0 0 Z) (by rw[ay,ja,ja];omega) (wW hagbody hagbd2)) Z Z ?_
   rintro _ w24 ⟨xs2,oA2,oC2,⟨ps2,pA2,pC2,co2,clo2,chi2,gr2,glo2,ghi2,sns2,snA2,snC2⟩,rfl,hrun2,hrd2,hrb2⟩;replace H:=H.learn hrb2 (Iq w23.heap.size w24.heap.size ⟨xs2,oA2,oC2,⟨ps2,pA2,pC2,co2,clo2,chi2,gr2,glo2,ghi2,sns2,snA2,snC2⟩⟩) hrd2 (ao _) (ao _);clear hrd2 hrb2
   refine U ?_
   refine⟨(H.ent (i:=2) Z),?_⟩
   refine aM 7 N N N Z Z Z Z Nq (H.ent (i:=2) Z) (fun _ hS=>Yu Z)<|aM 8 N N N Z Z Z Z Nq (H.ent (i:=2) Z) (fun _ hS=>Xs Z Z)<|aM 9 N N N Z Z Z Z Nq (H.ent (i:=2) Z) (fun _ hS=>Xa Z Z)<|aM 10 N N N Z Z Z Z Nq (H.ent (i:=2) Z) (fun _ hS=>Xb Z Z)<|aM 12 N N N Z Z Z Z Nq (H.ent (i:=2) Z) (fun _ hS=>Ws Z)<|r9 13 N Z<|bo H 0 (#[.slice pA2 ps2.length pC2,J (co2.clock),J (co2.next),J (co2.wait),.slice co2.A co2.txs.length co2.cap,J (gr2.clock),J (gr2.wait),J (gr2.gen),.slice gr2.mA gr2.ms.length gr2.mC,.slice gr2.oA gr2.os.length gr2.oC,.slice snA2 sns2.length snC2]) jd Z Z Z Z Z N N fun w25 H=>U ?_
   refine⟨(H.ent (i:=2) Z),?_⟩
   refine aM 14 N N N Z Z Z Z Nq (H.ent (i:=2) Z) (fun _ hS=>Wb Z)<|jZ N ?_
   exact⟨(bd2,⟨xs2,oA2,oC2,⟨ps2,pA2,pC2,co2,clo2,chi2,gr2,glo2,ghi2,sns2,snA2,snC2⟩⟩,b15,w23.heap.size,w24.heap.size),⟨hrun2,H.forget (by repeat (first|exact ap _|refine .cons_cons _ ?_|refine .cons _ ?_)) (fun f hf=>by simp only[ax,bO,or_false]at hf⊢;grind)⟩,Mv Z Z Z,Qg⟩
 rintro⟨bd2,⟨xs2,oA2,oC2,⟨ps2,pA2,pC2,co2,clo2,chi2,gr2,glo2,ghi2,sns2,snA2,snC2⟩⟩,b15,lo,hi⟩ ρ1 w26 ⟨hrun2,H⟩
 show CW _ _ _ _ (dA (gC _ _ ρ1) [(14,.slice oA2 xs2.length oC2),(15,.pointer (Qd b15)),(16,.bool true)]) w26
 replace H:Hp w w26 ((b15,.cells #[.slice pA2 ps2.length pC2,J (co2.clock),J (co2.next),J (co2.wait),.slice co2.A co2.txs.length co2.cap,J (gr2.clock),J (gr2.wait),J (gr2.gen),.slice gr2.mA gr2.ms.length gr2.mC,.slice gr2.oA gr2.os.length gr2.oC,.slice snA2 sns2.length snC2] jW (0,0))::(b12,.cells #[.slice pA ps.length pC,J (co.clock),J (co.next),J (co.wait),.slice co.A co.txs.length co.cap,J (gr.clock),J (gr.wait),J (gr.gen),.slice gr.mA gr.ms.length gr.mC,.slice gr.oA gr.os.length gr.oC,.slice snA sns.length snC] jW (0,0))::(b9,.cells #[J (((np:Nat):Int)),J (((nr:Nat):Int)),J (((few:Nat):Int)),J (wt)] jz (0,0))::[]) (Iq lo hi ⟨xs2,oA2,oC2,⟨ps2,pA2,pC2,co2,clo2,chi2,gr2,glo2,ghi2,sns2,snA2,snC2⟩⟩::[Iq w4.heap.size w5.heap.size ⟨xs,oA,oC,⟨ps,pA,pC,co,clo,chi,gr,glo,ghi,sns,snA,snC⟩⟩,dE mO w3.heap.size w4.heap.size Abody (jL np++body),dE tj 0 w.heap.size A2 m,dE tj 0 w.heap.size A l]):=H
 refine W<|W<|Zr<|G (Yb Z)<|G (dF Z)<|G (Yb Z)<|ZG<|G (Yb Z)<|ZG<|G (dF Z)<|G (N Z Z)<|U<|ZF Z<|Zk<|W<|W<|Zr<|G (Ys Z)<|G (bn yD Z)<|G (Yi Z)<|U<|Zb ?_
 obtain⟨zs,hdx⟩:=hrun.later hrun2
 have hxl:=IN hrun hagbody
 have hxn:=hrun.len
 rw[bA,ja]at hxn
 replace H:=Hp.rnXs H 1 Z
 replace H:=Hp.rnXs H 1 Z
 refine cf (τ:=Nat) [8,17,50,51,52,53,54,55,56,57,58,59,60,61,62,63,64,65,66,67,68,69,70,71,72,73,74,75,76,77,78,79,80,81,82,83,84,85,86,87,88,89,90,91] (fun i=>[(50,J (i:Nat))]) (fun i w'=>i<=xs.length/\Hp w w' [(b15,.cells #[.slice pA2 ps2.length pC2,J (co2.clock),J (co2.next),J (co2.wait),.slice co2.A co2.txs.length co2.cap,J (gr2.clock),J (gr2.wait),J (gr2.gen),.slice gr2.mA gr2.ms.length gr2.mC,.slice gr2.oA gr2.os.length gr2.oC,.slice snA2 sns2.length snC2] jW (0,0)),(b12,.cells #[.slice pA ps.length pC,J (co.clock),J (co.next),J (co.wait),.slice co.A co.txs.length co.cap,J (gr.clock),J (gr.wait),J (gr.gen),.slice gr.mA gr.ms.length gr.mC,.slice gr.oA gr.os.length gr.oC,.slice snA sns.length snC] jW (0,0)),(b9,.cells #[J (((np:Nat):Int)),J (((nr:Nat):Int)),J (((few:Nat):Int)),J (wt)] jz (0,0))] ([dE OB lo hi oA2 xs2,dE OB w4.heap.size w5.heap.size oA xs]++[Iq lo hi ⟨xs2,oA2,oC2,⟨ps2,pA2,pC2,co2,clo2,chi2,gr2,glo2,ghi2,sns2,snA2,snC2⟩⟩,Iq w4.heap.size w5.heap.size ⟨xs,oA,oC,⟨ps,pA,pC,co,clo,chi,gr,glo,ghi,sns,snA,snC⟩⟩,dE mO w3.heap.size w4.heap.size Abody (jL np++body),dE tj 0 w.heap.size A2 m,dE tj 0 w.heap.size A l])) (fun i=>xs.length-i) 0 ⟨bG _,H⟩ (dI Z) ?_
 rintro i ρ1 w27 ⟨hi,H⟩
 show CW _ _ _ _ (dA (gC _ _ ρ1) [(50,J (i:Nat))]) w27
 refine W<|Zr ?_
 refine cU (cH Z Z) Z Z Z (fun h51=> ?_) (fun h51=> ?_)
 ·
  refine U<|W<|ZT Z<|Zk<|W<|Zb<|W ?_
  obtain⟨x,hx⟩: ∃ x,xs[i]? =some x:=⟨_,ah I⟩
  have hxm:=ae hx
  obtain⟨y,hy,hxy⟩:=JN hdx hx
  have hym:=ae hy
  have hxt:x.x.texts=y.x.texts:=by rw[hxy]
  have hx20:=hxl x.x (bL (f:=Aq.x) hxm)
  have hyl:=(cF hy).1
  refine Zr<|G (Yi Z)<|G (Wi Z)<|U<|W ?_
  refine bz bX [0,1,2,3,4,5,6,7,8,9,10,11,12,13,14,15,16,17,18,19,20,21,22,23,24,25,26,27,28,29,30,31,32,33,34,35,36,37] [] [35] [0,1,2,3,5,6,7,8,10,11,12,13,14,15,17,18,19,20,22,23,24,25,26,27,28,30,31,32,33,36,37] (sp [(35,Sp.one (.bool true))]) N N N N Nq (cG _) ?_
  refine aw Z Z Z Z Z (fun w' hw'=>Ys Z)<|aw Z Z Z Z Z (fun w' hw'=>Yi Z)<|kB H 1 Z Z Z Z Z lF Z Z I I fun bq28 o28 x28 e28=> ?_
  obtain rfl:x=x28:=by have:=e28.at_;rw[hx]at this;exact bj this
  refine aw Z Z Z Z Z (fun w' hw'=>Zf yN Z)<|aw Z Z Z Z Z (fun w' hw'=>aU CE Z (e28.later hw' 0 _ Z))<|aw Z Z Z Z Z (fun w' hw'=>Ys Z)<|aw Z Z Z Z Z (fun w' hw'=>Yi Z)<|kB H 0 Z Z Z Z Z lF Z Z I I fun bq29 o29 x29 e29=> ?_
  obtain rfl:y=x29:=by have:=e29.at_;rw[hy]at this;exact bj this
  refine aw Z Z Z Z Z (fun w' hw'=>Zf yN Z)<|aw Z Z Z Z Z (fun w' hw'=>aU CE Z (e29.later hw' 0 _ Z))<|aw Z Z Z Z Z (fun w' hw'=>bW Z Z (by rw[hxy]))<|aw Z Z Z Z Z (fun w' hw'=>Yb Z)<|aw Z Z Z Z Z (fun w' hw'=>Ys Z)<|aw Z Z Z Z Z (fun w' hw'=>Yi Z)<|kB H 1 Z Z Z Z Z lF Z Z I I fun bq30 o30 x30 e30=> ?_
  obtain rfl:x=x30:=by have:=e30.at_;rw[hx]at this;exact bj this
  refine aw Z Z Z Z Z (fun w' hw'=>Zf yM Z)<|aw Z Z Z Z Z (fun w' hw'=>aU aj Z (e30.later hw' 1 _ Z))<|aw Z Z Z Z Z (fun w' hw'=>Ys Z)<|aw Z Z Z Z Z (fun w' hw'=>Yi Z)<|kB H 0 Z Z Z Z Z lF Z Z I I fun bq31 o31 x31 e31=> ?_
  obtain rfl:y=x31:=by have:=e31.at_;rw[hy]at this;exact bj this
  refine aw Z Z Z Z Z (fun w' hw'=>Zf yM Z)<|aw Z Z Z Z Z (fun w' hw'=>aU aj Z (e31.later hw' 1 _ Z))<|aw Z Z Z Z Z (fun w' hw'=>bW Z Z (by rw[hxy]))<|aw Z Z Z Z Z (fun w' hw'=>N Z Z)<|aw Z Z Z Z Z (fun w' hw'=>Yb Z)<|aw Z Z Z Z Z (fun w' hw'=>Ys Z)<|aw Z Z Z Z Z (fun w' hw'=>Yi Z)<|kB H 1 Z Z Z Z Z lF Z Z I I fun bq32 o32 x32 e32=> ?_
  obtain rfl:x=x32:=by have:=e32.at_;rw[hx]at this;exact bj this
  refine aw Z Z Z Z Z (fun w' hw'=>Zf qL Z)<|aw Z Z Z Z Z (fun w' hw'=>aU g8 Z (e32.later hw' 2 _ Z))<|aw Z Z Z Z Z (fun w' hw'=>Ys Z)<|aw Z Z Z Z Z (fun w' hw'=>Yi Z)<|kB H 0 Z Z Z Z Z lF Z Z I I fun bq33 o33 x33 e33=> ?_
  obtain rfl:y=x33:=by have:=e33.at_;rw[hy]at this;exact bj this
  refine aw Z Z Z Z Z (fun w' hw'=>Zf qL Z)<|aw Z Z Z Z Z (fun w' hw'=>aU g8 Z (e33.later hw' 2 _ Z))<|gN nH Z Z Z Z Z (fun w' hw'=>(by have hA:=D7 x.x.texts y.x.texts x.A y.A x.c y.c w' ((Hp.rn0 (H.later hw') 3 Z).tx x hxm).1 ((Hp.rn0 (H.later hw') 2 Z).tx y hym).1 I;rw[decide_eq_true hxt]at hA;exact hA)) Z<|aw Z Z Z Z Z (fun w' hw'=>dF Z)<|aw Z Z Z Z Z (fun w' hw'=>N Z Z)<|aS ?_
  intro w34 hw' hF
  replace H:=H.later hw';clear hw' hF
  refine U<|ZF Z<|Zk<|Zr<|G (br Z Z I I)<|G (Yi Z)<|U ?_
  exact⟨i+1,⟨by omega,H⟩,dI Z,Qg,by show xs.length- (i+1)<xs.length-i;omega⟩
 ·
  refine U<|W<|ZF Z<|Zx<|W<|Zr<|G (Wb Z)<|U<|Zt ?_
  exact cy Z Z ⟨rfl,H.below⟩
end Go.Proofs.YtclibalpdhhhfaaGreat
