/- Part 4 of the proofs over this seat: what its theorems say holds for every input that they name. -/
import Derived.Test.YtclibalpdhhhfaaGreatDoorBF3
namespace Go.Proofs.YtclibalpdhhhfaaGreatDoor
open Go Go.Eng Go.RowKit
open Go.Eng renaming bP→U, cE→W, bK→Zr, og→Zk, wG→Zt, lB→Zb, xC→Zx, gg→Yi, IH→Yb, sE→Ys, Ra→Yp, Qt→Yt, IG→Yu, BN→Wi, DD→Wb, vV→Ws, Ri→Wp, vU→Wt, zf→Zf, Rg→Xi, I0→Xa, IY→Xs, PA→Kt, LQ→N, jc→ZT, gQ→ZF
open Go.Proofs.Tryz renaming prog→aa
open _root_.List renaming mem_of_getElem?→ab,length_set→ae,mem_cons_of_mem→ai,getElem?_eq_getElem→aj,getElem?_set_self→al,mem_append→ap,replicate→aq,mem_singleton→ar,mem_cons→av,length_append→ay,mem_cons_self→az,mem_or_eq_of_mem_set→aA,append_assoc→aB,length_take→aD,getElem?_map→aI,mem_iff_getElem?→aN,findIdx?_eq_some_iff_getElem→aP,sublist_cons_self→aR,getElem?_set_ne→aT,append_nil→aZ,length_map→bc,mem_nil_iff→bd,length_cons→bf,map_append→bk,mem_map→bD,mem_map_of_mem→bF,take_length→bJ,length_replicate→bW,getElem?_eq_none→bX,sublist_append_right→bZ,mem_append_right→cz,getElem?_append_right→cG,length_singleton→cH,findIdx?_eq_none_iff→cL,getD_eq_getElem?_getD→cS,eq_of_mem_replicate→cT,map_set→cU,length→da,getElem?_drop→dk,take_take→dv,ext_getElem?→dZ,mem_singleton_self→d9,getElem?_replicate→fv,drop_length→fC,set_set→fR,perm_append_comm_assoc→gj,range→gy,set_append_right→jo,pairwise_map→jD,prefix_refl→kb,mem_filter→lj,pairwise_iff_getElem→nc,drop_eq_getElem_cons→nf,replicate_succ→ng,take_subset→qO,replicate_succ'→rG,range_succ→ss,getElem_mem→vZ,getElem?_set_self'→v5,perm_append_comm→xX,mem_of_mem_take→zo,set_cons_zero→B1
open _root_.List.Perm renaming cons→ah,swap→ak
open _root_.Nat renaming le_refl→ao,le_trans→aV,le_succ→bx,min_eq_left→bB,zero_le→bN,zero_add→cF,add_mul→cN,one_mul→gh,add_assoc→ls,sub_self→mE,le_of_lt→mF,lt_succ_self→vX,add_comm→DI
open _root_.List.Sublist renaming refl→au
open _root_.Option.some renaming inj→aY,injEq→lH
open _root_.Option renaming map_some→eQ,bind_some→fB
open _root_.Int renaming le_refl→fl
set_option maxHeartbeats 4000000
set_option maxRecDepth 20000
set_option linter.unusedSimpArgs false
set_option linter.unusedVariables false
set_option linter.unusedSectionVars false
/-- an answer without texts -/
def QM (x:An) (v:Value):Prop:=x.texts=[]/\v=.agg #[J x.code,J x.n,.slice none 0 0]
theorem QM.r {x:An} {v:Value} (h:QM x v) (w:World):pn x v w:=by
 obtain⟨c,n,t⟩:=x
 obtain⟨h1,rfl⟩:=h
 dsimp only at h1
 subst h1
 exact pn.plain c n w
theorem GR (a:Act) (x:An) (w:World):dt aa vI [a.v,.agg #[J x.code,J x.n,.slice none 0 0]] w fun v w2=>v=.agg #[J (fP a x).code,J (fP a x).n,.slice none 0 0]/\Below w.heap.size w w2:=
 (DV a x.code x.n none 0 0 w).mono fun v w2 ⟨h1,h2⟩=>⟨by rw[h1];unfold fP;split<;>rfl,h2⟩
theorem lM (a:Act) {x:An} (hx:x.texts=[]):(fP a x).texts=[]:=by
 unfold fP
 split
 exact hx
 rfl
theorem As (w:Wa) (n:Nat) (x:cr):(lk w n x).2.texts=[]:=by
 unfold lk
 split
 rfl
 split<;>rfl
theorem kH (w:Wa) (s:Sn) (n:Nat):(dE w s n).2.texts=[]:=by
 unfold dE
 split
 rfl
 split
 exact As ..
 rfl
theorem pn.p {x:An} {v:Value} {w:World} (h:pn x v w) (hx:x.texts=[]): ∃ A c,v=.agg #[J x.code,J x.n,.slice A 0 c]:=by
 obtain⟨A,c,h1,-,-⟩:=h
 rw[hx]at h1
 exact⟨A,c,h1⟩
theorem Ao {b:Bk} {a:Act} {ag:Bool} (hix:eR b.sns a.name=none):gX b.a a ag=(b.a,⟨5,0,[]⟩):=by
 unfold gX
 rw[show b.a.sns=b.sns.map Sn.a from rfl,D0 hix]
 rfl
theorem Ap {b:Bk} {a:Act} {i:Nat} {x:Sn} {e:cr} (hix:eR b.sns a.name=some i) (hx:b.sns[i]? =some x) (he:x.last[a.part.toNat]? =some e) (hk:e.kind=0):gX b.a a true=(b.a,⟨15,0,[]⟩):=by
 unfold gX
 rw[show b.a.sns=b.sns.map Sn.a from rfl,wW hix hx]
 dsimp only
 rw[if_pos ⟨rfl,by rw[cS,show x.a.last=x.last from rfl,he];exact hk⟩]
 rfl
theorem ow {b:Bk} {a:Act} {i:Nat} {x:Sn} {ag:Bool} (hix:eR b.sns a.name=some i) (hx:b.sns[i]? =some x) (hk:ag=true-> ∃ e,x.last[a.part.toNat]? =some e/\e.kind≠0) (s1:Sn) (hs:(if ag then x else eM x a.part.toNat a.text)=s1):gX b.a a ag=if a.lost=1 then({b.a with sns:=(b.sns.set i s1).map Sn.a},⟨14,0,[]⟩)else((dE {b.a with sns:=(b.sns.set i s1).map Sn.a} s1.a a.part.toNat).1,fP a (dE {b.a with sns:=(b.sns.set i s1).map Sn.a} s1.a a.part.toNat).2):=by
 subst hs
 unfold gX
 rw[show b.a.sns=b.sns.map Sn.a from rfl,wW hix hx]
 dsimp only
 rw[if_neg (fun h=>by
  obtain⟨e,he,hne⟩:=hk h.1
  have h2:=h.2
  rw[cS,show x.a.last=x.last from rfl,he]at h2
  exact hne h2)]
 have:(if ag=true then x.a else eM x.a a.part.toNat a.text)=(if ag=true then x else eM x a.part.toNat a.text).a:=by split<;>rfl
 rw[this,cU]
 rfl
theorem vd {x:Sn} {n:Nat} {q:Int} (h:x.seqs[n]? =some q) (t:ByteArray):eM x n t={x with last:=x.last.set n ⟨0,x.pid,x.ver,q,1,x.inn,t⟩,seqs:=x.seqs.set n (q+1)}:=by
 unfold eM
 rw[cS,h]
 rfl
theorem d7.same {α:Type} {Y:fA α} {es:List α} {c k:Nat} {cur:Array Value} {e e':α} (h:d7 Y es c cur) (hk:es[k]? =some e) (he:Y.f e'=Y.f e):d7 Y (es.set k e') c cur:=by
 refine⟨h.size,?_,by rw[ae];exact h.le,h.max⟩
 rw[ae,h.all]
 unfold fA.all
 have:(es.set k e').map Y.f=es.map Y.f:=by rw[cU,he];exact fh (by rw[aI,hk];rfl)
 simp only[List.flatMap_def,this]
theorem Jx {w0 w:World} {bb:Nat} {b:Bk} {gP:Nat} {uP:Array Value} {Ls Lo K:List (Nat×Obj)} {F:List ce} (a:Act) (B:Bw w0 w bb b gP uP Ls Lo K F) (hsl:b.sns.length<=1000000) (ag:Bool) (hix:eR b.sns a.name=none):dt aa i9 [.pointer (Qd bb),a.v,.bool ag] w fun v w2=> ∃ b':Bk,pn (gX b.a a ag).2 v w2/\b'.a=(gX b.a a ag).1/\xU w0 w2 bb b' K F:=by
 refine aG j5 Z Z ?_
 obtain⟨ps,pA,pC,co,clo,chi,gr,glo,ghi,sns,snA,snC⟩:=b
 obtain⟨hpA,row,hsn,hown,hco,hgr,hps,H⟩:=B
 dsimp only at hpA row hsn hown hco hgr hps
 subst hpA
 replace H:Hp w0 w ((bb,.cells #[.slice (Qd gP) ps.length pC,J (co.clock),J (co.next),J (co.wait),.slice co.A co.txs.length co.cap,J (gr.clock),J (gr.wait),J (gr.gen),.slice gr.mA gr.ms.length gr.mC,.slice gr.oA gr.os.length gr.oC,.slice snA sns.length snC] bE (0,0))::(gP,.cells uP bI (0,0))::(Ls++(Lo++K))) F:=H
 dsimp only at hix hsl
 show CW _ _ _ _ (args [.pointer (Qd bb),.agg #[J (a.kind),.string (a.name),J (a.part),J (a.n),J (a.m),.string (a.text),J (a.lost)],.bool ag]) w
 refine W<|Zr<|gY H Z Z fun w1 b4 H=>fc H dn Z fun w2 b6 H=>U<|W<|Zr<|G (Yp Z)<|G (Zf fu Z)<|G (Zd ba H 1 Z Z Z)<|cu dF (jF bb ⟨ps,some ⟨gP,0,none⟩,pC,co,clo,chi,gr,glo,ghi,sns,snA,snC⟩ (a.name) Ls _ (H.ent (i:=2) Z) hsn (fun q hq=>(H.ents q (by simp only[av,ap];grind)).1) hsl) Z Z ?_
 rintro _ w3 ⟨rfl,hb⟩;replace H:=H.later hb;clear hb
 rw[hix]
 refine G (Wp Z)<|U<|W<|Zb<|W<|Zr<|G (Yp Z)<|G (yg i6 Z)<|G (Yb Z)<|ZN<|ZN<|ZN<|ZN<|ZN<|G (Kt Z Z)<|G (Wb Z)<|U<|ZT Z<|W<|Zr<|cu bH (dS 5 _) Z Z ?_
 rintro _ w4 ⟨rfl,hb⟩;replace H:=H.later hb;clear hb
 refine bA H 0 (#[J (5),J (0),.slice none 0 0]) aL Z Z Z Z Z N N fun w5 H=>U<|Zt ?_
 exact eW (cs0:= #[J (5),J (0),.slice none 0 0]) Z aK Z (H.ent (i:=0) Z) Z ⟨⟨ps,some ⟨gP,0,none⟩,pC,co,clo,chi,gr,glo,ghi,sns,snA,snC⟩,by rw[Ao hix];exact pn.plain _ _ _,by rw[Ao hix],Bw.shut (X:=[(b6,_),(b4,_)]) row hsn hown hco hgr hps (fun _ h=>h) H Z⟩
theorem KZ {a:Act} {x:An} {A:Option Addr} {c:Nat} {v:Value} (h:v=if a.lost=0 then .agg #[J x.code,J x.n,.slice A 0 c]else .agg #[J 14,J 0,.slice none 0 0]): ∃ A2 c2,v=.agg #[J (fP a x).code,J (fP a x).n,.slice A2 0 c2]:=by
 unfold fP
 split at h
 rename_i h0;rw[if_pos h0];exact⟨_,_,h⟩
 rename_i h0;rw[if_neg h0];exact⟨_,_,h⟩
theorem pn.of {x:An} {A:Option Addr} {c:Nat} {w:World} (hx:x.texts=[]):pn x (.agg #[J x.code,J x.n,.slice A 0 c]) w:=⟨A,c,by rw[hx];rfl,by rw[hx];exact bN _,by rw[hx];exact Rd.nil⟩
theorem G1 {w0 w:World} {bb:Nat} {b:Bk} {gP:Nat} {uP:Array Value} {Ls Lo K:List (Nat×Obj)} {F:List ce} (a:Act) (B:Bw w0 w bb b gP uP Ls Lo K F) (hsl:b.sns.length<=1000000) {k i:Nat} {x:Sn} (hix:eR b.sns a.name=some i) (hx:b.sns[i]? =some x) (hpn:0<=a.part/\a.part<b.ps.length) (hlo:0<=a.lost/\a.lost<=2) (hll:x.last.length=b.ps.length) (hsq:x.seqs.length=b.ps.length) (h4:b.ps.length<=4) (hnm:bu x.name=true) (hcb:pi k b.co) (hpk: ∀ q∈b.ps,q.p.a.ok/\ ∀ (l:Nat) (y:gm),q.p.leader=l->q.p.reps[l]? =some y->y.es.length<400):dt aa i9 [.pointer (Qd bb),a.v,.bool true] w fun v w2=> ∃ b':Bk,pn (gX b.a a true).2 v w2/\b'.a=(gX b.a a true).1/\xU w0 w2 bb b' K F:=by
 refine aG j5 Z Z ?_
 obtain⟨ps,pA,pC,co,clo,chi,gr,glo,ghi,sns,snA,snC⟩:=b
 obtain⟨hpA,row,hsn,hown,hco,hgr,hps,H⟩:=B
 dsimp only at hpA row hsn hown hco hgr hps
 subst hpA
 dsimp only at hix hx
 obtain⟨gS,uS,hgS,hLs,rowS⟩:=hsn.row (by have:=(cy hx).1;omega)
 subst hgS;subst hLs
 obtain⟨gq,uq,gl,ul,La,Lb,hsA,hlA,rowq,rowl,hLo,hset⟩:=hown.at_ hx
 subst hLo
 replace H:Hp w0 w ((bb,.cells #[.slice (Qd gP) ps.length pC,J (co.clock),J (co.next),J (co.wait),.slice co.A co.txs.length co.cap,J (gr.clock),J (gr.wait),J (gr.gen),.slice gr.mA gr.ms.length gr.mC,.slice gr.oA gr.os.length gr.oC,.slice (Qd gS) sns.length snC] bE (0,0))::(gP,.cells uP bI (0,0))::(gS,.cells uS fK (0,0))::(gq,.cells uq dg (0,0))::(gl,.cells ul dA (0,0))::(La++(Lb++K))) F:=H.perm (Dq [(bb,_),(gP,_),(gS,_)] _ _ La Lb K)
 dsimp only at hsl hpn hll hsq h4 hcb hpk
 obtain⟨n,hna⟩: ∃ n:Nat,a.part=(n:Int):=⟨a.part.toNat,by omega⟩
 have htn:a.part.toNat=n:=by omega
 have hl5:(Af.f x)[5]? =some (.slice (some ⟨gl,0,none⟩) x.last.length x.lC):=by rw[<-hlA];rfl
 have hl4:(Af.f x)[4]? =some (.slice (some ⟨gq,0,none⟩) x.seqs.length x.sC):=by rw[<-hsA];rfl
 obtain⟨e,he⟩: ∃ e,x.last[n]? =some e:=⟨_,aj I⟩
 have rS2:d7 Af (sns.set i x) snC uS:=by rw[fh hx];exact rowS
 show CW _ _ _ _ (args [.pointer (Qd bb),.agg #[J (a.kind),.string (a.name),J (a.part),J (a.n),J (a.m),.string (a.text),J (a.lost)],.bool true]) w
 refine W<|Zr<|gY H Z Z fun w1 b4 H=>fc H dn Z fun w2 b6 H=>U<|W<|Zr<|G (Yp Z)<|G (Zf fu Z)<|G (Zd ba H 1 Z Z Z)<|cu dF (jF bb ⟨ps,some ⟨gP,0,none⟩,pC,co,clo,chi,gr,glo,ghi,sns,some ⟨gS,0,none⟩,snC⟩ (a.name) _ _ (H.ent (i:=2) Z) (d7.own rowS) (fun q hq=>by rw[ar.1 hq];exact(H.ent (i:=4) Z)) hsl) Z Z ?_
 rintro _ w3 ⟨rfl,hb⟩;replace H:=H.later hb;clear hb
 rw[hix]
 refine G (Wp Z)<|U<|W<|Zb<|W<|Zr<|G (Yp Z)<|G (wk i6 Z)<|G (Yb Z)<|ZG<|G (Yp Z)<|ZG<|G (Zf fk Z)<|ZG<|G (Zd am H 1 Z Z Z)<|ZG<|cu d8 (oz bb ⟨ps,some ⟨gP,0,none⟩,pC,co,clo,chi,gr,glo,ghi,sns,some ⟨gS,0,none⟩,snC⟩ a.part _ (H.ent (i:=2) Z)) Z Z ?_
 rintro _ w4 ⟨rfl,hb⟩;replace H:=H.later hb;clear hb
 rw[decide_eq_true hpn]
 refine ZG<|G (ee Z)<|G (N Z Z)<|G (Wb Z)<|U<|ZF Z<|W<|Zr<|G (Zf kG Z)<|G (Zd am H 1 Z Z Z)<|G (dp Z Z I)<|G (Yb Z)<|ZG<|G (Zf kG Z)<|ZG<|G (Zd am H 1 Z Z Z)<|ZG<|G (eB Z Z I)<|G (N Z Z)<|G (Wb Z)<|U<|ZF Z<|W ?_
 refine bL cD [0,1,2,3,4,5,6,7,8,9,10,11,12,13] [] [] [0,1,2,3,4,6,8,9,11,12,13] (sp []) N N N N Nq (cQ _) ?_
 refine aw Z Z Z Z Z (fun w' hw'=>Yb Z)<|aw Z Z Z Z Z (fun w' hw'=>Yb Z)<|aw Z Z Z Z Z (fun w' hw'=>Yp Z)<|aw Z Z Z Z Z (fun w' hw'=>aH Z)<|aw Z Z Z Z Z (fun w' hw'=>Zf mh Z)<|aw Z Z Z Z Z (fun w' hw'=>bU nG rowS hx 5 Z ((H.later hw').ent (i:=4) Z) hl5)<|aw Z Z Z Z Z (fun w' hw'=>Zf fk Z)<|aw Z Z Z Z Z (fun w' hw'=>bi am Z (aJ ((H.later hw').ent (i:=1) Z) Z))<|aw Z Z Z Z Z (fun w' hw'=>cR (k:=n) dW Z (congrArg (Value.int .i64) hna) (by first|omega|(simp only[ae];omega)))<|aw Z Z Z Z Z (fun w' hw'=>Zf fi Z)<|aw Z Z Z Z Z (fun w' hw'=>bU am rowl he 4 Z ((H.later hw').ent (i:=6) Z) Z) ?_
 refine CN Z Z Z Z Z (fun w' hw'=>bv Z Z) (fun h45=> ?_) (fun h45=> ?_)
 ·
  refine aw Z Z Z Z Z (fun w' hw'=>Kt Z Z)<|aw Z Z Z Z Z (fun w' hw'=>Wb Z)<|aU ?_
  intro w5 hw' hF
  replace H:=H.later hw';clear hw' hF
  refine U<|ZT Z<|W<|Zr<|cu bH (dS 15 _) Z Z ?_
  rintro _ w6 ⟨rfl,hb⟩;replace H:=H.later hb;clear hb
  refine bA H 0 (#[J (15),J (0),.slice none 0 0]) aL Z Z Z Z Z N N fun w7 H=>U<|Zt ?_
  rw[<-htn]at he
  exact eW (cs0:= #[J (15),J (0),.slice none 0 0]) Z aK Z (H.ent (i:=0) Z) Z ⟨⟨ps,some ⟨gP,0,none⟩,pC,co,clo,chi,gr,glo,ghi,sns.set i x,some ⟨gS,0,none⟩,snC⟩,by rw[Ap hix hx he h45];exact pn.plain _ _ _,by rw[Ap hix hx he h45,fh hx],Bw.close (X:=[(b6,_),(b4,_)]) row (by rw[fh hx];exact rowS) hset hsA hlA rowq rowl hco hgr hps (fun _ h=>h) H (by rw[fh hx];rfl)⟩
 ·
  refine aw Z Z Z Z Z (fun w' hw'=>Kt Z Z)<|aw Z Z Z Z Z (fun w' hw'=>Wb Z)<|aU ?_
  intro w8 hw' hF
  replace H:=H.later hw';clear hw' hF
  refine U<|ZF Z<|W<|Zr<|G (Yb Z)<|G (ee Z)<|G (Yb Z)<|ZN<|ZN<|ZN<|ZN<|G (N Z Z)<|G (Wb Z)<|U<|ZF Z<|Zk<|W<|W<|Zr<|G (Yb Z)<|G (ee Z)<|U<|ZF Z<|Zk<|W<|W<|Zr<|G (Zf kG Z)<|G (Zd am H 1 Z Z Z) ?_
  refine du (bv Z Z) Z Z Z (fun h102=> ?_) (fun h102=> ?_)
  ·
   refine U<|ZT Z<|W<|Zr<|cu bH (dS 14 _) Z Z ?_
   rintro _ w9 ⟨rfl,hb⟩;replace H:=H.later hb;clear hb
   refine bA H 0 (#[J (14),J (0),.slice none 0 0]) aL Z Z Z Z Z N N fun w10 H=>U<|Zt ?_
   exact eW (cs0:= #[J (14),J (0),.slice none 0 0]) Z aK Z (H.ent (i:=0) Z) Z ⟨⟨ps,some ⟨gP,0,none⟩,pC,co,clo,chi,gr,glo,ghi,sns.set i x,some ⟨gS,0,none⟩,snC⟩,by rw[ow hix hx (fun _=>⟨e,by rw[htn];exact he,h45⟩) x Z,if_pos h102];exact pn.plain _ _ _,by rw[ow hix hx (fun _=>⟨e,by rw[htn];exact he,h45⟩) x Z,if_pos h102];rfl,Bw.close (X:=[(b6,_),(b4,_)]) row rS2 hset hsA hlA rowq rowl hco hgr hps (fun _ h=>h) H (by simp only[Bk.c,ae])⟩
  ·
   refine U<|ZF Z<|Zk<|W ?_
   refine tC cD (fun w'=>w'.heap[b4]? =some (.cells #[J (a.kind),.string (a.name),J (a.part),J (a.n),J (a.m),.string (a.text),J (a.lost)] jl (0,0))) ?_
   intro w11 hw';replace H:=H.later hw';clear hw'
   refine bn 0 N N N Z Z Z Z Nq (H.ent (i:=1) Z) (fun _ hS=>jR dV Z hS Z)<|bn 1 N N N Z Z Z Z Nq (H.ent (i:=1) Z) (fun _ hS=>Yp Z)<|bn 2 N N N Z Z Z Z Nq (H.ent (i:=1) Z) (fun _ hS=>Yp Z)<|bn 3 N N N Z Z Z Z Nq (H.ent (i:=1) Z) (fun _ hS=>Zf fk Z)<|bn 4 N N N Z Z Z Z Nq (H.ent (i:=1) Z) (fun _ hS=>bi am Z (aJ hS Z))<|z6 5 N Z ?_
   refine cu lG ((by have hA:=BF (i:=i) (n:=n) (k:=k) (sns:=sns.set i x) (x:=x) (by simp only[ae];exact H.perm ((ah _ (ah _ (ah _ (ah _ (ak _ _ _))))).trans ((ah _ (ah _ (ah _ (ak _ _ _)))).trans ((ah _ (ah _ (ak _ _ _))).trans ((ah _ (ak _ _ _)).trans ((ak _ _ _).trans ((ah _ (ah _ (ah _ (ah _ (ah _ (ak _ _ _)))))).trans ((ah _ (ah _ (ah _ (ah _ (ak _ _ _))))).trans ((ah _ (ah _ (ah _ (ak _ _ _)))).trans ((ah _ (ah _ (ak _ _ _))).trans (ah _ (ak _ _ _)))))))))))) row rS2 rowl (al (cy hx).1) hlA hco hps I I I hnm hcb hpk;rw[<-hna]at hA;exact hA)) Z Z ?_
   rintro _ w12 ⟨ps',uP',co',clo',chi',F',hAn,hW,row',hlen',hco',hps',hF',H⟩
   replace H:=H.perm ((ah _ (ak _ _ _)).trans ((ak _ _ _).trans ((ah _ (ah _ (ak _ _ _))).trans ((ah _ (ak _ _ _)).trans ((ah _ (ah _ (ah _ (ak _ _ _)))).trans ((ah _ (ah _ (ak _ _ _))).trans ((ah _ (ah _ (ah _ (ah _ (ak _ _ _))))).trans ((ah _ (ah _ (ah _ (ak _ _ _)))).trans ((ah _ (ah _ (ah _ (ah _ (ah _ (ak _ _ _)))))).trans (ah _ (ah _ (ah _ (ah _ (ak _ _ _))))))))))))))
   obtain⟨A1,c1,rfl⟩:=hAn.p (kH ..)
   refine U ?_
   refine⟨(H.ent (i:=1) Z),?_⟩
   refine z6 6 N Z<|cu kK (DV a (dE (Wa.mk (ps.map fun q=>q.p.a) co.a gr.a ((sns.set i x).map Sn.a)) x.a n).2.code (dE (Wa.mk (ps.map fun q=>q.p.a) co.a gr.a ((sns.set i x).map Sn.a)) x.a n).2.n A1 0 c1 _) Z Z ?_
   rintro _ w13 ⟨ht,hb⟩;replace H:=H.later hb;clear hb
   obtain⟨A2,c2,rfl⟩:=KZ ht
   refine U ?_
   refine⟨(H.ent (i:=1) Z),?_⟩
   refine z6 7 N Z<|bA H 0 (#[J ((fP a (dE (Wa.mk (ps.map fun q=>q.p.a) co.a gr.a ((sns.set i x).map Sn.a)) x.a n).2).code),J ((fP a (dE (Wa.mk (ps.map fun q=>q.p.a) co.a gr.a ((sns.set i x).map Sn.a)) x.a n).2).n),.slice A2 0 c2]) aL Z Z Z Z Z N N fun w14 H=>U ?_
   refine⟨(H.ent (i:=1) Z),?_⟩
   refine rI N<|Zt ?_
   exact eW (cs0:= #[J ((fP a (dE (Wa.mk (ps.map fun q=>q.p.a) co.a gr.a ((sns.set i x).map Sn.a)) x.a n).2).code),J ((fP a (dE (Wa.mk (ps.map fun q=>q.p.a) co.a gr.a ((sns.set i x).map Sn.a)) x.a n).2).n),.slice A2 0 c2]) Z aK Z (H.ent (i:=0) Z) Z ⟨⟨ps',some ⟨gP,0,none⟩,pC,co',clo',chi',gr,glo,ghi,sns.set i x,some ⟨gS,0,none⟩,snC⟩,by rw[ow hix hx (fun _=>⟨e,by rw[htn];exact he,h45⟩) x Z,if_neg h102,htn];exact pn.of (lM _ (kH ..)),by rw[ow hix hx (fun _=>⟨e,by rw[htn];exact he,h45⟩) x Z,if_neg h102,htn];exact hW.symm,Bw.close (X:=[(b6,_),(b4,_)]) row' rS2 hset hsA hlA rowq rowl hco' (hF' _ hgr) hps' hF' H (by simp only[Bk.c,ae])⟩
theorem LC {w0 w:World} {bb:Nat} {b:Bk} {gP:Nat} {uP:Array Value} {Ls Lo K:List (Nat×Obj)} {F:List ce} (a:Act) (B:Bw w0 w bb b gP uP Ls Lo K F) (hsl:b.sns.length<=1000000) {k i:Nat} {x:Sn} (hix:eR b.sns a.name=some i) (hx:b.sns[i]? =some x) (hpn:0<=a.part/\a.part<b.ps.length) (hlo:0<=a.lost/\a.lost<=2) (hll:x.last.length=b.ps.length) (hsq:x.seqs.length=b.ps.length) (h4:b.ps.length<=4) (hnm:bu x.name=true) (hcb:pi k b.co) (hpk: ∀ q∈b.ps,q.p.a.ok/\ ∀ (l:Nat) (y:gm),q.p.leader=l->q.p.reps[l]? =some y->y.es.length<400) (htx:a.text.size<=40) (hsb: ∀ q∈x.seqs,0<=q/\q<=400):dt aa i9 [.pointer (Qd bb),a.v,.bool false] w fun v w2=> ∃ b':Bk,pn (gX b.a a false).2 v w2/\b'.a=(gX b.a a false).1/\xU w0 w2 bb b' K F:=by
 refine aG j5 Z Z ?_
 obtain⟨ps,pA,pC,co,clo,chi,gr,glo,ghi,sns,snA,snC⟩:=b
 obtain⟨hpA,row,hsn,hown,hco,hgr,hps,H⟩:=B
 dsimp only at hpA row hsn hown hco hgr hps
 subst hpA
 dsimp only at hix hx
 obtain⟨gS,uS,hgS,hLs,rowS⟩:=hsn.row (by have:=(cy hx).1;omega)
 subst hgS;subst hLs
 obtain⟨gq,uq,gl,ul,La,Lb,hsA,hlA,rowq,rowl,hLo,hset⟩:=hown.at_ hx
 subst hLo
 replace H:Hp w0 w ((bb,.cells #[.slice (Qd gP) ps.length pC,J (co.clock),J (co.next),J (co.wait),.slice co.A co.txs.length co.cap,J (gr.clock),J (gr.wait),J (gr.gen),.slice gr.mA gr.ms.length gr.mC,.slice gr.oA gr.os.length gr.oC,.slice (Qd gS) sns.length snC] bE (0,0))::(gP,.cells uP bI (0,0))::(gS,.cells uS fK (0,0))::(gq,.cells uq dg (0,0))::(gl,.cells ul dA (0,0))::(La++(Lb++K))) F:=H.perm (Dq [(bb,_),(gP,_),(gS,_)] _ _ La Lb K)
 dsimp only at hsl hpn hll hsq h4 hcb hpk
 obtain⟨n,hna⟩: ∃ n:Nat,a.part=(n:Int):=⟨a.part.toNat,by omega⟩
 have htn:a.part.toNat=n:=by omega
 have hl5:(Af.f x)[5]? =some (.slice (some ⟨gl,0,none⟩) x.last.length x.lC):=by rw[<-hlA];rfl
 have hl4:(Af.f x)[4]? =some (.slice (some ⟨gq,0,none⟩) x.seqs.length x.sC):=by rw[<-hsA];rfl
 obtain⟨e,he⟩: ∃ e,x.last[n]? =some e:=⟨_,aj I⟩
 obtain⟨q,hq0⟩: ∃ q,x.seqs[n]? =some q:=⟨_,aj I⟩
 have hqb:=hsb q (ab hq0)
 show CW _ _ _ _ (args [.pointer (Qd bb),.agg #[J (a.kind),.string (a.name),J (a.part),J (a.n),J (a.m),.string (a.text),J (a.lost)],.bool false]) w
 refine W<|Zr<|gY H Z Z fun w1 b4 H=>fc H dn Z fun w2 b6 H=>U<|W<|Zr<|G (Yp Z)<|G (Zf fu Z)<|G (Zd ba H 1 Z Z Z)<|cu dF (jF bb ⟨ps,some ⟨gP,0,none⟩,pC,co,clo,chi,gr,glo,ghi,sns,some ⟨gS,0,none⟩,snC⟩ (a.name) _ _ (H.ent (i:=2) Z) (d7.own rowS) (fun q hq=>by rw[ar.1 hq];exact(H.ent (i:=4) Z)) hsl) Z Z ?_
 rintro _ w3 ⟨rfl,hb⟩;replace H:=H.later hb;clear hb
 rw[hix]
 refine G (Wp Z)<|U<|W<|Zb<|W<|Zr<|G (Yp Z)<|G (wk i6 Z)<|G (Yb Z)<|ZG<|G (Yp Z)<|ZG<|G (Zf fk Z)<|ZG<|G (Zd am H 1 Z Z Z)<|ZG<|cu d8 (oz bb ⟨ps,some ⟨gP,0,none⟩,pC,co,clo,chi,gr,glo,ghi,sns,some ⟨gS,0,none⟩,snC⟩ a.part _ (H.ent (i:=2) Z)) Z Z ?_
 rintro _ w4 ⟨rfl,hb⟩;replace H:=H.later hb;clear hb
 rw[decide_eq_true hpn]
 refine ZG<|G (ee Z)<|G (N Z Z)<|G (Wb Z)<|U<|ZF Z<|W<|Zr<|G (Zf kG Z)<|G (Zd am H 1 Z Z Z)<|G (dp Z Z I)<|G (Yb Z)<|ZG<|G (Zf kG Z)<|ZG<|G (Zd am H 1 Z Z Z)<|ZG<|G (eB Z Z I)<|G (N Z Z)<|G (Wb Z)<|U<|ZF Z<|W ?_
 refine bL cD [0,1,2,3,4,5,6,7,8,9,10,11,12,13] [] [] [0,1,2,3,4,6,8,9,11,12,13] (sp []) N N N N Nq (cQ _) ?_
 refine aw Z Z Z Z Z (fun w' hw'=>Yb Z)<|aw Z Z Z Z Z (fun w' hw'=>Yb Z)<|eZ Z Z Z Z<|eZ Z Z Z Z<|eZ Z Z Z Z<|eZ Z Z Z Z<|eZ Z Z Z Z<|eZ Z Z Z Z<|eZ Z Z Z Z<|eZ Z Z Z Z<|eZ Z Z Z Z<|eZ Z Z Z Z<|aw Z Z Z Z Z (fun w' hw'=>N Z Z)<|aw Z Z Z Z Z (fun w' hw'=>Wb Z)<|aU ?_
 intro w5 hw' hF
 replace H:=H.later hw';clear hw' hF
 refine U<|ZF Z<|W<|Zr<|G (Yb Z)<|G (ee Z)<|G (Yb Z)<|ZG<|G (Zf Gh Z)<|ZG<|G (Zd ba H 1 Z Z Z)<|ZG<|G (Hr kg Z)<|ZG<|G (eB Z Z I)<|G (Kt Z Z)<|G (Wb Z)<|U<|ZF Z<|Zk<|W<|W<|Zr<|G (Yb Z)<|G (ee Z)<|U<|ZT Z<|W ?_
 refine bL cD [0,1,2,3,4,5,6,7,8,9,10,11,12,13,14,15,16,17,18,19,20,21,22,23,24,25,26,27,28,29] [30] [] [0,1,2,4,6,7,8,10,11,12,14,15,16,18,20,22,23,24,26,28,29] (sp []) N N N N Nq (cQ _) ?_
 refine aw Z Z Z Z Z (fun w' hw'=>Yp Z)<|aw Z Z Z Z Z (fun w' hw'=>aH Z)<|aw Z Z Z Z Z (fun w' hw'=>Zf mh Z)<|aw Z Z Z Z Z (fun w' hw'=>bU nG rowS hx 5 Z ((H.later hw').ent (i:=4) Z) hl5)<|aw Z Z Z Z Z (fun w' hw'=>Zf fk Z)<|aw Z Z Z Z Z (fun w' hw'=>bi am Z (aJ ((H.later hw').ent (i:=1) Z) Z))<|aw Z Z Z Z Z (fun w' hw'=>Yp Z)<|aw Z Z Z Z Z (fun w' hw'=>aH Z)<|aw Z Z Z Z Z (fun w' hw'=>Zf Ge Z)<|aw Z Z Z Z Z (fun w' hw'=>bU am rowS hx 1 Z ((H.later hw').ent (i:=4) Z) Z)<|aw Z Z Z Z Z (fun w' hw'=>Yp Z)<|aw Z Z Z Z Z (fun w' hw'=>aH Z)<|aw Z Z Z Z Z (fun w' hw'=>Zf uE Z)<|aw Z Z Z Z Z (fun w' hw'=>bU am rowS hx 2 Z ((H.later hw').ent (i:=4) Z) Z)<|aw Z Z Z Z Z (fun w' hw'=>Yp Z)<|aw Z Z Z Z Z (fun w' hw'=>aH Z)<|aw Z Z Z Z Z (fun w' hw'=>Zf ze Z)<|aw Z Z Z Z Z (fun w' hw'=>bU cB rowS hx 4 Z ((H.later hw').ent (i:=4) Z) hl4)<|aw Z Z Z Z Z (fun w' hw'=>Zf fk Z)<|aw Z Z Z Z Z (fun w' hw'=>bi am Z (aJ ((H.later hw').ent (i:=1) Z) Z))<|aw Z Z Z Z Z (fun w' hw'=>cR (k:=n) bj Z (congrArg (Value.int .i64) hna) (by first|omega|(simp only[ae];omega)))<|aw Z Z Z Z Z (fun w' hw'=>bU am rowq hq0 0 Z ((H.later hw').ent (i:=5) Z) Z)<|aw Z Z Z Z Z (fun w' hw'=>Yp Z)<|aw Z Z Z Z Z (fun w' hw'=>aH Z)<|aw Z Z Z Z Z (fun w' hw'=>Zf oP Z)<|aw Z Z Z Z Z (fun w' hw'=>bU eS rowS hx 3 Z ((H.later hw').ent (i:=4) Z) Z)<|aw Z Z Z Z Z (fun w' hw'=>Zf Gh Z)<|aw Z Z Z Z Z (fun w' hw'=>bi ba Z (aJ ((H.later hw').ent (i:=1) Z) Z))<|aw Z Z Z Z Z (fun w' hw'=>bC (cs:= #[J (0),J (x.pid),J (x.ver),J (q),J (1),.bool (x.inn),.string (a.text)]) ot gB N)<|aw Z Z Z Z Z (fun w' hw'=>cR (k:=n) dW Z (congrArg (Value.int .i64) hna) (by first|omega|(simp only[ae];omega)))<|aU ?_
 intro w6 hw' hF
 replace H:=H.later hw';clear hw' hF
 refine ni H 6 (⟨0,x.pid,x.ver,q,1,x.inn,a.text⟩) fa rowl he 0 Z Z Z Z Z Z N fun w8 cur7 row7 H=> ?_
 have hs9:(x.last.set n (⟨0,x.pid,x.ver,q,1,x.inn,a.text⟩))[n]? =some (⟨0,x.pid,x.ver,q,1,x.inn,a.text⟩):=al (cy he).1
 refine U ?_
 refine bL cD [0,1,2,3,4,5,6,7,8,9] [10] [] [0,1,2,4,6,8,9] (sp []) N N N N Nq (cQ _) ?_
 refine aw Z Z Z Z Z (fun w' hw'=>Yp Z)<|aw Z Z Z Z Z (fun w' hw'=>aH Z)<|aw Z Z Z Z Z (fun w' hw'=>Zf ze Z)<|aw Z Z Z Z Z (fun w' hw'=>bU cB rowS hx 4 Z ((H.later hw').ent (i:=4) Z) hl4)<|aw Z Z Z Z Z (fun w' hw'=>Zf fk Z)<|aw Z Z Z Z Z (fun w' hw'=>bi am Z (aJ ((H.later hw').ent (i:=1) Z) Z))<|aw Z Z Z Z Z (fun w' hw'=>cR (k:=n) bj Z (congrArg (Value.int .i64) hna) (by first|omega|(simp only[ae];omega)))<|aw Z Z Z Z Z (fun w' hw'=>bU am rowq hq0 0 Z ((H.later hw').ent (i:=5) Z) Z)<|aw Z Z Z Z Z (fun w' hw'=>bp Z Z I I)<|aw Z Z Z Z Z (fun w' hw'=>cR (k:=n) bj Z (congrArg (Value.int .i64) hna) (by first|omega|(simp only[ae];omega)))<|aU ?_
 intro w10 hw' hF
 replace H:=H.later hw';clear hw' hF
 refine ni H 5 ((q+1)) bQ rowq hq0 0 Z Z Z Z Z Z N fun w12 cur11 row11 H=> ?_
 have hs13:(x.seqs.set n ((q+1)))[n]? =some ((q+1)):=al (cy hq0).1
 refine U<|W<|W ?_
 obtain⟨x1,hx1⟩: ∃ x1:Sn,{x with last:=x.last.set n ⟨0,x.pid,x.ver,q,1,x.inn,a.text⟩,seqs:=x.seqs.set n (q+1)}=x1:=⟨_,rfl⟩
 have hsA1:x1.sA=some ⟨gq,0,none⟩:=by rw[<-hx1];exact hsA
 have hlA1:x1.lA=some ⟨gl,0,none⟩:=by rw[<-hx1];exact hlA
 have rowq1:d7 bS x1.seqs x1.sC cur11:=by rw[<-hx1];exact row11
 have rowl1:d7 hJ x1.last x1.lC cur7:=by rw[<-hx1];exact row7
 have rowS1:d7 Af (sns.set i x1) snC uS:=d7.same rowS hx (by rw[<-hx1];simp only[Af,Sn.c,ae])
 have hll1:x1.last.length=ps.length:=by rw[<-hx1];simp only[ae];exact hll
 have hnm1:bu x1.name=true:=by rw[<-hx1];exact hnm
 refine Zr<|G (Zf kG Z)<|G (Zd am H 1 Z Z Z) ?_
 refine du (bv Z Z) Z Z Z (fun h102=> ?_) (fun h102=> ?_)
 ·
  refine U<|ZT Z<|W<|Zr<|cu bH (dS 14 _) Z Z ?_
  rintro _ w14 ⟨rfl,hb⟩;replace H:=H.later hb;clear hb
  refine bA H 0 (#[J (14),J (0),.slice none 0 0]) aL Z Z Z Z Z N N fun w15 H=>U<|Zt ?_
  exact eW (cs0:= #[J (14),J (0),.slice none 0 0]) Z aK Z (H.ent (i:=0) Z) Z ⟨⟨ps,some ⟨gP,0,none⟩,pC,co,clo,chi,gr,glo,ghi,sns.set i x1,some ⟨gS,0,none⟩,snC⟩,by rw[ow hix hx (fun h=>by cases h) x1 (by rw[htn];exact(vd hq0 _).trans hx1),if_pos h102];exact pn.plain _ _ _,by rw[ow hix hx (fun h=>by cases h) x1 (by rw[htn];exact(vd hq0 _).trans hx1),if_pos h102];rfl,Bw.close (X:=[(b6,_),(b4,_)]) row rowS1 hset hsA1 hlA1 rowq1 rowl1 hco hgr hps (fun _ h=>h) H (by simp only[Bk.c,ae])⟩
 ·
  refine U<|ZF Z<|Zk<|W ?_
  refine tC cD (fun w'=>w'.heap[b4]? =some (.cells #[J (a.kind),.string (a.name),J (a.part),J (a.n),J (a.m),.string (a.text),J (a.lost)] jl (0,0))) ?_
  intro w16 hw';replace H:=H.later hw';clear hw'
  refine bn 0 N N N Z Z Z Z Nq (H.ent (i:=1) Z) (fun _ hS=>jR dV Z hS Z)<|bn 1 N N N Z Z Z Z Nq (H.ent (i:=1) Z) (fun _ hS=>Yp Z)<|bn 2 N N N Z Z Z Z Nq (H.ent (i:=1) Z) (fun _ hS=>Yp Z)<|bn 3 N N N Z Z Z Z Nq (H.ent (i:=1) Z) (fun _ hS=>Zf fk Z)<|bn 4 N N N Z Z Z Z Nq (H.ent (i:=1) Z) (fun _ hS=>bi am Z (aJ hS Z))<|z6 5 N Z ?_
  refine cu lG ((by have hA:=BF (i:=i) (n:=n) (k:=k) (sns:=sns.set i x1) (x:=x1) (by simp only[ae];exact H.perm ((ah _ (ah _ (ah _ (ah _ (ak _ _ _))))).trans ((ah _ (ah _ (ah _ (ak _ _ _)))).trans ((ah _ (ah _ (ak _ _ _))).trans ((ah _ (ak _ _ _)).trans ((ak _ _ _).trans ((ah _ (ah _ (ah _ (ah _ (ah _ (ak _ _ _)))))).trans ((ah _ (ah _ (ah _ (ah _ (ak _ _ _))))).trans ((ah _ (ah _ (ah _ (ak _ _ _)))).trans ((ah _ (ah _ (ak _ _ _))).trans (ah _ (ak _ _ _)))))))))))) row rowS1 rowl1 (al (cy hx).1) hlA1 hco hps I I I hnm1 hcb hpk;rw[<-hna]at hA;exact hA)) Z Z ?_
  rintro _ w17 ⟨ps',uP',co',clo',chi',F',hAn,hW,row',hlen',hco',hps',hF',H⟩
  replace H:=H.perm ((ah _ (ak _ _ _)).trans ((ak _ _ _).trans ((ah _ (ah _ (ak _ _ _))).trans ((ah _ (ak _ _ _)).trans ((ah _ (ah _ (ah _ (ak _ _ _)))).trans ((ah _ (ah _ (ak _ _ _))).trans ((ah _ (ah _ (ah _ (ah _ (ak _ _ _))))).trans ((ah _ (ah _ (ah _ (ak _ _ _)))).trans ((ah _ (ah _ (ah _ (ah _ (ah _ (ak _ _ _)))))).trans (ah _ (ah _ (ah _ (ah _ (ak _ _ _))))))))))))))
  obtain⟨A1,c1,rfl⟩:=hAn.p (kH ..)
  refine U ?_
  refine⟨(H.ent (i:=1) Z),?_⟩
  refine z6 6 N Z<|cu kK (DV a (dE (Wa.mk (ps.map fun q=>q.p.a) co.a gr.a ((sns.set i x1).map Sn.a)) x1.a n).2.code (dE (Wa.mk (ps.map fun q=>q.p.a) co.a gr.a ((sns.set i x1).map Sn.a)) x1.a n).2.n A1 0 c1 _) Z Z ?_
  rintro _ w18 ⟨ht,hb⟩;replace H:=H.later hb;clear hb
  obtain⟨A2,c2,rfl⟩:=KZ ht
  refine U ?_
  refine⟨(H.ent (i:=1) Z),?_⟩
  refine z6 7 N Z<|bA H 0 (#[J ((fP a (dE (Wa.mk (ps.map fun q=>q.p.a) co.a gr.a ((sns.set i x1).map Sn.a)) x1.a n).2).code),J ((fP a (dE (Wa.mk (ps.map fun q=>q.p.a) co.a gr.a ((sns.set i x1).map Sn.a)) x1.a n).2).n),.slice A2 0 c2]) aL Z Z Z Z Z N N fun w19 H=>U ?_
  refine⟨(H.ent (i:=1) Z),?_⟩
  refine rI N<|Zt ?_
  exact eW (cs0:= #[J ((fP a (dE (Wa.mk (ps.map fun q=>q.p.a) co.a gr.a ((sns.set i x1).map Sn.a)) x1.a n).2).code),J ((fP a (dE (Wa.mk (ps.map fun q=>q.p.a) co.a gr.a ((sns.set i x1).map Sn.a)) x1.a n).2).n),.slice A2 0 c2]) Z aK Z (H.ent (i:=0) Z) Z ⟨⟨ps',some ⟨gP,0,none⟩,pC,co',clo',chi',gr,glo,ghi,sns.set i x1,some ⟨gS,0,none⟩,snC⟩,by rw[ow hix hx (fun h=>by cases h) x1 (by rw[htn];exact(vd hq0 _).trans hx1),if_neg h102,htn];exact pn.of (lM _ (kH ..)),by rw[ow hix hx (fun h=>by cases h) x1 (by rw[htn];exact(vd hq0 _).trans hx1),if_neg h102,htn];exact hW.symm,Bw.close (X:=[(b6,_),(b4,_)]) row' rowS1 hset hsA1 hlA1 rowq1 rowl1 hco' (hF' _ hgr) hps' hF' H (by simp only[Bk.c,ae])⟩
theorem xy {b:Bk} {a:Act} (hix:eR b.sns a.name=none):jK b.a a=(b.a,⟨5,0,[]⟩):=by
 unfold jK
 rw[show b.a.sns=b.sns.map Sn.a from rfl,D0 hix]
 rfl
theorem jg {b:Bk} {a:Act} {i:Nat} {x:Sn} (hix:eR b.sns a.name=some i) (hx:b.sns[i]? =some x):jK b.a a=if x.inn=false then kf b.a 12 else if a.lost=1 then kf b.a 14 else
  if(jy b.co.a x.name x.ver (decide (a.n=1))).2=0 then({b.a with co:=(jy b.co.a x.name x.ver (decide (a.n=1))).1,sns:=if a.lost=0 then(b.sns.set i (tB x)).map Sn.a else b.sns.map Sn.a},fP a ⟨0,0,[]⟩)else(b.a,fP a ⟨(jy b.co.a x.name x.ver (decide (a.n=1))).2,0,[]⟩):=by
 unfold jK
 rw[show b.a.sns=b.sns.map Sn.a from rfl,wW hix hx,cU]
 rfl
def zT (e:cr):cr:=if e.txn then jP else e
theorem Kn (x:Sn):tB x={x with inn:=false,last:=x.last.map zT}:=rfl
theorem KR {l:List cr} {i:Nat} {e:cr} (he:l[i]? =some e):((l.take i).map zT++l.drop i).set i (zT e)=(l.take (i+1)).map zT++l.drop (i+1):=by
 have hi:=(cy he).1
 have h1:((l.take i).map zT).length=i:=by simp;omega
 rw[jo _ _ I,h1,mE,d6 he,bk,aB]
 congr 1
 rw[nf hi]
 rfl
theorem DO {l:List cr} {i:Nat} {e:cr} (he:l[i]? =some e):((l.take i).map zT++l.drop i)[i]? =some e:=by
 have hi:=(cy he).1
 rw[cG (by simp;omega)]
 simp only[bc,aD,bB (mF hi),mE]
 rw[dk]
 exact he
theorem Ga {w0 w:World} {bb:Nat} {b:Bk} {gP:Nat} {uP:Array Value} {Ls Lo K:List (Nat×Obj)} {F:List ce} (a:Act) (B:Bw w0 w bb b gP uP Ls Lo K F) (hsl:b.sns.length<=1000000) (hix:eR b.sns a.name=none):dt aa jJ [.pointer (Qd bb),a.v] w fun v w2=> ∃ b':Bk,pn (jK b.a a).2 v w2/\b'.a=(jK b.a a).1/\xU w0 w2 bb b' K F:=by
 refine aG mf Z Z ?_
 obtain⟨ps,pA,pC,co,clo,chi,gr,glo,ghi,sns,snA,snC⟩:=b
 obtain⟨hpA,row,hsn,hown,hco,hgr,hps,H⟩:=B
 dsimp only at hpA row hsn hown hco hgr hps
 subst hpA
 replace H:Hp w0 w ((bb,.cells #[.slice (Qd gP) ps.length pC,J (co.clock),J (co.next),J (co.wait),.slice co.A co.txs.length co.cap,J (gr.clock),J (gr.wait),J (gr.gen),.slice gr.mA gr.ms.length gr.mC,.slice gr.oA gr.os.length gr.oC,.slice snA sns.length snC] bE (0,0))::(gP,.cells uP bI (0,0))::(Ls++(Lo++K))) F:=H
 dsimp only at hix hsl
 show CW _ _ _ _ (args [.pointer (Qd bb),.agg #[J (a.kind),.string (a.name),J (a.part),J (a.n),J (a.m),.string (a.text),J (a.lost)]]) w
 refine W<|Zr<|gY H Z Z fun w1 b3 H=>fc H dn Z fun w2 b4 H=>U<|W<|Zr<|G (Yp Z)<|G (Zf fu Z)<|G (Zd ba H 1 Z Z Z)<|cu dF (jF bb ⟨ps,some ⟨gP,0,none⟩,pC,co,clo,chi,gr,glo,ghi,sns,snA,snC⟩ (a.name) Ls _ (H.ent (i:=2) Z) hsn (fun q hq=>(H.ents q (by simp only[av,ap];grind)).1) hsl) Z Z ?_
 rintro _ w3 ⟨rfl,hb⟩;replace H:=H.later hb;clear hb
 rw[hix]
 refine G (Wp Z)<|U<|W<|Zb<|W<|Zr<|G (Yp Z)<|G (yg i6 Z)<|G (Wb Z)<|U<|ZT Z<|W<|Zr<|cu bH (dS 5 _) Z Z ?_
 rintro _ w4 ⟨rfl,hb⟩;replace H:=H.later hb;clear hb
 refine bA H 0 (#[J (5),J (0),.slice none 0 0]) aL Z Z Z Z Z N N fun w5 H=>U<|Zt ?_
 exact eW (cs0:= #[J (5),J (0),.slice none 0 0]) Z aK Z (H.ent (i:=0) Z) Z ⟨⟨ps,some ⟨gP,0,none⟩,pC,co,clo,chi,gr,glo,ghi,sns,snA,snC⟩,by rw[xy hix];exact pn.plain _ _ _,by rw[xy hix],Bw.shut (X:=[(b4,_),(b3,_)]) row hsn hown hco hgr hps (fun _ h=>h) H Z⟩
theorem F8 {w0 w:World} {bb:Nat} {b:Bk} {gP:Nat} {uP:Array Value} {Ls Lo K:List (Nat×Obj)} {F:List ce} (a:Act) (B:Bw w0 w bb b gP uP Ls Lo K F) (hsl:b.sns.length<=1000000) {k i:Nat} {x:Sn} (hix:eR b.sns a.name=some i) (hx:b.sns[i]? =some x) (hlo:0<=a.lost/\a.lost<=2) (hn1:0<=a.n/\a.n<=1) (hll:x.last.length<=4) (hnm:bu x.name=true) (hcb:pi k b.co):dt aa jJ [.pointer (Qd bb),a.v] w fun v w2=> ∃ b':Bk,pn (jK b.a a).2 v w2/\b'.a=(jK b.a a).1/\xU w0 w2 bb b' K F:=by
 refine aG mf Z Z ?_
 obtain⟨ps,pA,pC,co,clo,chi,gr,glo,ghi,sns,snA,snC⟩:=b
 obtain⟨hpA,row,hsn,hown,hco,hgr,hps,H⟩:=B
 dsimp only at hpA row hsn hown hco hgr hps
 subst hpA
 dsimp only at hix hx
 obtain⟨gS,uS,hgS,hLs,rowS⟩:=hsn.row (by have:=(cy hx).1;omega)
 subst hgS;subst hLs
 obtain⟨gq,uq,gl,ul,La,Lb,hsA,hlA,rowq,rowl,hLo,hset⟩:=hown.at_ hx
 subst hLo
 replace H:Hp w0 w ((bb,.cells #[.slice (Qd gP) ps.length pC,J (co.clock),J (co.next),J (co.wait),.slice co.A co.txs.length co.cap,J (gr.clock),J (gr.wait),J (gr.gen),.slice gr.mA gr.ms.length gr.mC,.slice gr.oA gr.os.length gr.oC,.slice (Qd gS) sns.length snC] bE (0,0))::(gP,.cells uP bI (0,0))::(gS,.cells uS fK (0,0))::(gq,.cells uq dg (0,0))::(gl,.cells ul dA (0,0))::(La++(Lb++K))) F:=H.perm (Dq [(bb,_),(gP,_),(gS,_)] _ _ La Lb K)
 dsimp only at hsl hcb
 have hl5:(Af.f x)[5]? =some (.slice (some ⟨gl,0,none⟩) x.last.length x.lC):=by rw[<-hlA];rfl
 show CW _ _ _ _ (args [.pointer (Qd bb),.agg #[J (a.kind),.string (a.name),J (a.part),J (a.n),J (a.m),.string (a.text),J (a.lost)]]) w
 refine W<|Zr<|gY H Z Z fun w1 b3 H=>fc H dn Z fun w2 b4 H=>U<|W<|Zr<|G (Yp Z)<|G (Zf fu Z)<|G (Zd ba H 1 Z Z Z)<|cu dF (jF bb ⟨ps,some ⟨gP,0,none⟩,pC,co,clo,chi,gr,glo,ghi,sns,some ⟨gS,0,none⟩,snC⟩ (a.name) _ _ (H.ent (i:=2) Z) (d7.own rowS) (fun q hq=>by rw[ar.1 hq];exact(H.ent (i:=4) Z)) hsl) Z Z ?_
 rintro _ w3 ⟨rfl,hb⟩;replace H:=H.later hb;clear hb
 rw[hix]
 refine G (Wp Z)<|U<|W<|Zb<|W<|Zr<|G (Yp Z)<|G (wk i6 Z)<|G (Wb Z)<|U<|ZF Z<|W<|Zr<|G (Zf kG Z)<|G (Zd am H 1 Z Z Z)<|G (dp Z Z I)<|G (Yb Z)<|ZG<|G (Zf kG Z)<|ZG<|G (Zd am H 1 Z Z Z)<|ZG<|G (eB Z Z I)<|G (N Z Z)<|G (Yb Z)<|ZG<|G (Zf gp Z)<|ZG<|G (Zd am H 1 Z Z Z)<|ZG<|G (dp Z Z I)<|G (N Z Z)<|G (Yb Z)<|ZG<|G (Zf gp Z)<|ZG<|G (Zd am H 1 Z Z Z)<|ZG<|G (eB Z Z I)<|G (N Z Z) ?_
 refine G (Wb Z)<|U<|ZF Z<|W<|Zr<|G (Yp Z)<|G (aH Z)<|G (Zf oP Z) ?_
 refine zS (bU eS rowS hx 3 Z (H.ent (i:=4) Z) Z) Z Z Z (fun h41=> ?_) (fun h41=> ?_)
 refine G (ee Z)<|G (Wb Z)<|U<|ZF Z<|W<|Zr<|G (Zf kG Z)<|G (Zd am H 1 Z Z Z) ?_
 refine du (bv Z Z) Z Z Z (fun h47=> ?_) (fun h47=> ?_)
 refine G (Wb Z)<|U<|ZT Z<|W<|Zr<|cu bH (dS 14 _) Z Z ?_
 rintro _ w4 ⟨rfl,hb⟩;replace H:=H.later hb;clear hb
 refine bA H 0 (#[J (14),J (0),.slice none 0 0]) aL Z Z Z Z Z N N fun w5 H=>U<|Zt ?_
 exact eW (cs0:= #[J (14),J (0),.slice none 0 0]) Z aK Z (H.ent (i:=0) Z) Z ⟨⟨ps,some ⟨gP,0,none⟩,pC,co,clo,chi,gr,glo,ghi,sns.set i x,some ⟨gS,0,none⟩,snC⟩,by rw[jg hix hx,if_neg (by rw[h41];decide),if_pos h47];exact pn.plain _ _ _,by rw[jg hix hx,if_neg (by rw[h41];decide),if_pos h47,fh hx];rfl,Bw.close (X:=[(b4,_),(b3,_)]) row (by rw[fh hx];exact rowS) hset hsA hlA rowq rowl hco hgr hps (fun _ h=>h) H (by rw[fh hx];rfl)⟩
 refine G (Wb Z)<|U<|ZF Z<|Zk<|W ?_
 refine ft (τ:=Co×Nat×Nat×Nat) [6,7,49,50,51,52,53,54,55,56,57,58,59,60,61,62,63,64,65,66,67,68] (fun(_,b6,_,_)=>[(6,.pointer (Qd b6)),(7,J (jy co.a x.name x.ver (decide (a.n=1))).2)]) (fun(c3,b6,lo,hi) w'=>c3.a=(jy co.a x.name x.ver (decide (a.n=1))).1/\Hp w0 w' ((b6,.cells #[J (c3.clock),J (c3.next),J (c3.wait),.slice c3.A c3.txs.length c3.cap] aX (0,0))::(b4,.cells #[J (0),J (0),.slice none 0 0] eh (0,0))::(b3,.cells #[J (a.kind),.string (a.name),J (a.part),J (a.n),J (a.m),.string (a.text),J (a.lost)] jl (0,0))::(bb,.cells #[.slice (Qd gP) ps.length pC,J (co.clock),J (co.next),J (co.wait),.slice co.A co.txs.length co.cap,J (gr.clock),J (gr.wait),J (gr.gen),.slice gr.mA gr.ms.length gr.mC,.slice gr.oA gr.os.length gr.oC,.slice (Qd gS) sns.length snC] bE (0,0))::(gP,.cells uP bI (0,0))::(gS,.cells uS fK (0,0))::(gq,.cells uq dg (0,0))::(gl,.cells ul dA (0,0))::La++(Lb++K)) (xT w0 lo hi c3::F)) ?_ ?_
 refine oV cD 20 16 [16,17,18,19,21,22] [20] [0,1,2,3,5,6,7,9,10,11,13,15] [20,21,22] [16] [0,1,2,3,5,6,7,9,10,11,13,15,17,18,19] (sp [(20,Sp.blk w3.heap.size (.agg #[J 0,J 0,J 0,.slice none 0 0]) aX)]) (sp [(16,Sp.deep w3.heap.size Ny (fun c:Co=>c.c.toArray) (fun cs=> .tuple #[.agg cs,J (jy co.a x.name x.ver (decide (a.n=1))).2]) (fun cq:Co=>cq.a=(jy co.a x.name x.ver (decide (a.n=1))).1))]) N N N N (cQ _) (cQ _) ?_ ?_
 refine jN [0,1,2,3,4,5,6,7,8,9,10,11,12,13,14,15,20] [16,17,18,19,21,22] [20] [0,1,2,3,5,6,7,9,10,11,13,15] 5 (sp [(20,Sp.blk w3.heap.size (.agg #[J 0,J 0,J 0,.slice none 0 0]) aX)]) N N N Nq<|aw Z Z Z Z Z (fun w' hw'=>Yp Z)<|aw Z Z Z Z Z (fun w' hw'=>aH Z)<|aw Z Z Z Z Z (fun w' hw'=>Zf aS Z)<|aw Z Z Z Z Z (fun w' hw'=>Zf eO Z)<|aw Z Z Z Z Z (fun w' hw'=>j9 1 [J (co.clock),J (co.next),J (co.wait),.slice co.A co.txs.length co.cap] ax Z Z ((H.later hw').ent (i:=2) Z) Z)<|aw Z Z Z Z Z (fun w' hw'=>Yp Z)<|aw Z Z Z Z Z (fun w' hw'=>aH Z)<|aw Z Z Z Z Z (fun w' hw'=>Zf oQ Z)<|aw Z Z Z Z Z (fun w' hw'=>bU ba rowS hx 0 Z ((H.later hw').ent (i:=4) Z) Z)<|aw Z Z Z Z Z (fun w' hw'=>Yp Z)<|aw Z Z Z Z Z (fun w' hw'=>aH Z)<|aw Z Z Z Z Z (fun w' hw'=>Zf uE Z)<|aw Z Z Z Z Z (fun w' hw'=>bU am rowS hx 2 Z ((H.later hw').ent (i:=4) Z) Z)<|aw Z Z Z Z Z (fun w' hw'=>Zf gp Z)<|aw Z Z Z Z Z (fun w' hw'=>bi am Z (aJ ((H.later hw').ent (i:=1) Z) Z))<|aw Z Z Z Z Z (fun w' hw'=>bv Z Z)<|yP cI Z Z Z Z Z (fun w' hw'=>hw'.size) fun b6=>aU ?_
 intro w6 hw' hF
 obtain⟨hF,bq,eq,hge6,hbl6⟩:=hF;cases eq
 replace H:=H.adoptNew hw' hbl6 hge6
 clear hw' hF
 refine df 16 N Z<|cu xI (Gj co x.name x.ver (decide (a.n=1)) k _ (Hp.coM H hco) hcb hnm) Z Z ?_
 rintro _ w7 ⟨c3,rfl,hac3,hnc3⟩;replace H:=H.learn hnc3.2 (xT w0 w6.heap.size w7.heap.size c3) ⟨H.size,hnc3.1⟩ (ao _) (ao _);clear hnc3
 refine U<|br 17 N N N Z Z Z Z Nq (fun _=>Yu Z)<|br 18 N N N Z Z Z Z Nq (fun _=>Xa Z Z)<|br 19 N N N Z Z Z Z Nq (fun _=>Xi Z Z)<|df 21 N Z<|bA H 0 (#[J (c3.clock),J (c3.next),J (c3.wait),.slice c3.A c3.txs.length c3.cap]) aF Z Z Z Z Z N N fun w8 H=>U<|br 22 N N N Z Z Z Z Nq (fun _=>Wi Z)<|cj N ?_
 exact⟨(c3,b6,_,_),⟨hac3,H⟩,mK Z Z,Qg⟩
 refine jN [0,1,2,3,4,5,6,7,8,9,10,11,12,13,14,15,16,17,18,19] [20,21,22] [16] [0,1,2,3,5,6,7,9,10,11,13,15,17,18,19] 2 (sp [(16,Sp.deep w3.heap.size Ny (fun c:Co=>c.c.toArray) (fun cs=> .tuple #[.agg cs,J (jy co.a x.name x.ver (decide (a.n=1))).2]) (fun cq:Co=>cq.a=(jy co.a x.name x.ver (decide (a.n=1))).1))]) N N N Nq<|aw Z Z Z Z Z (fun w' hw'=>Yp Z)<|aw Z Z Z Z Z (fun w' hw'=>aH Z)<|aw Z Z Z Z Z (fun w' hw'=>Zf aS Z)<|aw Z Z Z Z Z (fun w' hw'=>Zf eO Z)<|aw Z Z Z Z Z (fun w' hw'=>j9 1 [J (co.clock),J (co.next),J (co.wait),.slice co.A co.txs.length co.cap] ax Z Z ((H.later hw').ent (i:=2) Z) Z)<|aw Z Z Z Z Z (fun w' hw'=>Yp Z)<|aw Z Z Z Z Z (fun w' hw'=>aH Z)<|aw Z Z Z Z Z (fun w' hw'=>Zf oQ Z)<|aw Z Z Z Z Z (fun w' hw'=>bU ba rowS hx 0 Z ((H.later hw').ent (i:=4) Z) Z)<|aw Z Z Z Z Z (fun w' hw'=>Yp Z)<|aw Z Z Z Z Z (fun w' hw'=>aH Z)<|aw Z Z Z Z Z (fun w' hw'=>Zf uE Z)<|aw Z Z Z Z Z (fun w' hw'=>bU am rowS hx 2 Z ((H.later hw').ent (i:=4) Z) Z)<|aw Z Z Z Z Z (fun w' hw'=>Zf gp Z)<|aw Z Z Z Z Z (fun w' hw'=>bi am Z (aJ ((H.later hw').ent (i:=1) Z) Z))<|aw Z Z Z Z Z (fun w' hw'=>bv Z Z)<|tK (gv:=(fun cs=> .tuple #[.agg cs,J (jy co.a x.name x.ver (decide (a.n=1))).2])) xI Z Z Z Z Z (fun w' hw'=>hw'.size) (fun w' hw'=>Gj co x.name x.ver (decide (a.n=1)) k w' (Hp.coM (H.later hw') hco) hcb hnm) Z fun cs66=>aw Z Z Z Z Z (fun w' hw'=>Yu Z)<|aw Z Z Z Z Z (fun w' hw'=>Xa Z Z)<|aw Z Z Z Z Z (fun w' hw'=>Xi Z Z)<|aU ?_
 intro w9 hw' hF
 obtain⟨hF,c3,eq,hac3,hrd66⟩:=hF;cases eq
 replace H:=H.learn hw' (xT w0 w3.heap.size w9.heap.size c3) ⟨H.size,hrd66⟩ (ao _) (ao _)
 clear hw' hF
 refine df 20 N Z<|fc H cI Z fun w10 b6 H=>U<|df 21 N Z<|bA H 0 (#[J (c3.clock),J (c3.next),J (c3.wait),.slice c3.A c3.txs.length c3.cap]) aF Z Z Z Z Z N N fun w11 H=>U<|br 22 N N N Z Z Z Z Nq (fun _=>Wi Z)<|cj N ?_
 exact⟨(c3,b6,_,_),⟨hac3,H⟩,mK Z Z,Qg⟩
 rintro⟨c3,b6,lo,hi⟩ ρ1 w12 ⟨hac3,H⟩
 show CW _ _ _ _ (dK (ia _ _ ρ1) [(6,.pointer (Qd b6)),(7,J (jy co.a x.name x.ver (decide (a.n=1))).2)]) w12
 refine W<|W<|Zr<|G (Yi Z) ?_
 refine rM (jk Z Z) Z Z Z (fun h70=> ?_) (fun h70=> ?_)
 refine U<|ZT Z<|W ?_
 refine bL cD [0,1,2,3] [4] [2,3] [1] (sp [(2,Sp.one (.agg #[J (jy co.a x.name x.ver (decide (a.n=1))).2,J 0,.slice none 0 0])),(3,Sp.one (.agg #[J (fP a ⟨(jy co.a x.name x.ver (decide (a.n=1))).2,0,[]⟩).code,J (fP a ⟨(jy co.a x.name x.ver (decide (a.n=1))).2,0,[]⟩).n,.slice none 0 0]))]) N N N N Nq (cQ _) ?_
 refine aw Z Z Z Z Z (fun w' hw'=>jR dV Z ((H.later hw').ent (i:=2) Z) Z)<|aw Z Z Z Z Z (fun w' hw'=>Yi Z)<|qJ bH Z Z Z Z Z (fun w' hw'=>dS (jy co.a x.name x.ver (decide (a.n=1))).2 w') Z<|qJ kK Z Z Z Z Z (fun w' hw'=>GR a ⟨(jy co.a x.name x.ver (decide (a.n=1))).2,0,[]⟩ w') Z<|aU ?_
 intro w13 hw' hF
 replace H:=H.later hw';clear hw' hF
 refine bA H 1 (#[J ((fP a ⟨(jy co.a x.name x.ver (decide (a.n=1))).2,0,[]⟩).code),J ((fP a ⟨(jy co.a x.name x.ver (decide (a.n=1))).2,0,[]⟩).n),.slice none 0 0]) aL Z Z Z Z Z N N fun w14 H=>U<|Zt ?_
 exact eW (cs0:= #[J ((fP a ⟨(jy co.a x.name x.ver (decide (a.n=1))).2,0,[]⟩).code),J ((fP a ⟨(jy co.a x.name x.ver (decide (a.n=1))).2,0,[]⟩).n),.slice none 0 0]) Z aK Z (H.ent (i:=1) Z) Z ⟨⟨ps,some ⟨gP,0,none⟩,pC,co,clo,chi,gr,glo,ghi,sns.set i x,some ⟨gS,0,none⟩,snC⟩,by rw[jg hix hx,if_neg (by rw[h41];decide),if_neg h47,if_neg h70];exact QM.r ⟨lM _ Z,rfl⟩ _,by rw[jg hix hx,if_neg (by rw[h41];decide),if_neg h47,if_neg h70,fh hx],Bw.close (X:=[(b6,_),(b4,_),(b3,_)]) row (by rw[fh hx];exact rowS) hset hsA hlA rowq rowl (ai _ hco) (ai _ hgr) (fun q hq=>ai _ (hps q hq)) (fun f hf=>ai _ hf) H (by rw[fh hx];rfl)⟩
 refine U<|ZF Z<|Zk<|W ?_
 have hok3:(jy co.a x.name x.ver (decide (a.n=1))).2=0:=by simpa using h70
 refine Zr<|G (Yp Z)<|G (Zw ax H 0 Z Z Z)<|G (aH Z)<|G (Zf aS Z)<|G (Zf eO Z)<|bA H 3 (#[.slice (Qd gP) ps.length pC,J (c3.clock),J (c3.next),J (c3.wait),.slice c3.A c3.txs.length c3.cap,J (gr.clock),J (gr.wait),J (gr.gen),.slice gr.mA gr.ms.length gr.mC,.slice gr.oA gr.os.length gr.oC,.slice (Qd gS) sns.length snC]) aF Z Z Z Z Z N N fun w15 H=>U<|W<|W<|Zr<|G (Zf kG Z)<|G (Zd am H 2 Z Z Z) ?_
 refine du (bv Z Z) Z Z Z (fun h82=> ?_) (fun h82=> ?_)
 refine U<|ZT Z<|W<|Zr<|G (Yp Z)<|G (aH Z)<|G (Zf oP Z)<|ni H 5 ({x with inn:=false}) mL rowS hx 3 Z Z Z Z Z Z N fun w17 cur16 row16 H=> ?_
 have hs18:(sns.set i ({x with inn:=false}))[i]? =some ({x with inn:=false}):=al (cy hx).1
 refine U<|W<|Zr<|G (Yp Z)<|G (aH Z)<|G (Zf mh Z)<|G (bU nG row16 hs18 5 Z (H.ent (i:=5) Z) hl5)<|G (bh eN Z)<|G (Yi Z)<|U<|Zb ?_
 refine cf (τ:=Nat×Array Value) [8,91,92,93,94,95,96,97,98,99,100,101,102,103,104,105,106,107,108,109] (fun(j,_)=>[(91,J (j:Nat))]) (fun(j,u) w'=>j<=x.last.length/\d7 hJ ((x.last.take j).map zT++x.last.drop j) x.lC u/\Hp w0 w' ((b6,.cells #[J (c3.clock),J (c3.next),J (c3.wait),.slice c3.A c3.txs.length c3.cap] aX (0,0))::(b4,.cells #[J (0),J (0),.slice none 0 0] eh (0,0))::(b3,.cells #[J (a.kind),.string (a.name),J (a.part),J (a.n),J (a.m),.string (a.text),J (a.lost)] jl (0,0))::(bb,.cells #[.slice (Qd gP) ps.length pC,J (c3.clock),J (c3.next),J (c3.wait),.slice c3.A c3.txs.length c3.cap,J (gr.clock),J (gr.wait),J (gr.gen),.slice gr.mA gr.ms.length gr.mC,.slice gr.oA gr.os.length gr.oC,.slice (Qd gS) sns.length snC] bE (0,0))::(gP,.cells uP bI (0,0))::(gS,.cells cur16 fK (0,0))::(gq,.cells uq dg (0,0))::(gl,.cells u dA (0,0))::La++(Lb++K)) (xT w0 lo hi c3::F)) (fun(j,_)=>x.last.length-j) (0,_) ⟨bN _,(by simpa using rowl),H⟩ (dR Z) ?_
 rintro⟨j,u⟩ ρ1 w19 ⟨hj,rowu,H⟩
 show CW _ _ _ _ (dK (ia _ _ ρ1) [(91,J (j:Nat))]) w19
 refine W<|Zr ?_
 refine du (cO Z Z) Z Z Z (fun h92=> ?_) (fun h92=> ?_)
 refine U<|W<|ZT Z<|Zk<|W<|Zb<|W<|Zr<|G (Yi Z)<|G (Wi Z)<|U<|W ?_
 obtain⟨e,he⟩: ∃ e,x.last[j]? =some e:=⟨_,aj I⟩
 refine Zr<|G (Yp Z)<|G (aH Z)<|G (Zf mh Z)<|G (bU nG row16 hs18 5 Z (H.ent (i:=5) Z) hl5)<|G (Yi Z)<|G (cR dW Z Z (by first|omega|(simp only[ae];omega)))<|G (Zf jh Z) ?_
 refine zS (bU eS rowu (DO he) 5 Z (H.ent (i:=7) Z) Z) Z Z Z (fun h101=> ?_) (fun h101=> ?_)
 refine U<|ZT Z<|Zr<|G (Yp Z)<|G (aH Z)<|G (Zf mh Z)<|G (bU nG row16 hs18 5 Z (H.ent (i:=5) Z) hl5)<|G (Yi Z)<|G (bC (cs:= #[J (0),J (0),J (0),J (0),J (0),.bool (false),.string (⟨#[]⟩)]) ot gB N)<|G (cR dW Z Z (by first|omega|(simp only[ae];omega)))<|ni H 7 (jP) fa rowu (DO he) 0 Z Z Z Z Z Z N fun w21 cur20 row20 H=> ?_
 have hs22:((((x.last.take j).map zT++x.last.drop j)).set j (jP))[j]? =some (jP):=al (cy (DO he)).1
 refine U<|Zr<|G (bp Z Z I I)<|G (Yi Z)<|U ?_
 refine⟨(j+1,_),⟨by omega,?_,H⟩,dR Z,Qg,by show x.last.length- (j+1)<x.last.length-j;omega⟩
 rw[<-KR he]
 have hz:zT e=jP:=by unfold zT;rw[if_pos h101]
 rw[hz]
 exact row20
 refine U<|ZF Z<|Zk<|Zr<|G (bp Z Z I I)<|G (Yi Z)<|U ?_
 refine⟨(j+1,_),⟨by omega,?_,H⟩,dR Z,Qg,by show x.last.length- (j+1)<x.last.length-j;omega⟩
 rw[<-KR he]
 have hz:zT e=e:=by unfold zT;rw[if_neg (by rw[h101];decide)]
 rw[hz,fh (DO he)]
 exact rowu
 refine U<|W<|ZF Z<|Zx<|W ?_
 obtain rfl:j=x.last.length:=by omega
 rw[bJ,fC,aZ]at rowu
 obtain⟨x1,hx1⟩: ∃ x1:Sn,{x with inn:=false,last:=x.last.map zT}=x1:=⟨_,rfl⟩
 have hsA1:x1.sA=some ⟨gq,0,none⟩:=by rw[<-hx1];exact hsA
 have hlA1:x1.lA=some ⟨gl,0,none⟩:=by rw[<-hx1];exact hlA
 have rowq1:d7 bS x1.seqs x1.sC uq:=by rw[<-hx1];exact rowq
 have rowl1:d7 hJ x1.last x1.lC u:=by rw[<-hx1];exact rowu
 have rowS1:d7 Af (sns.set i x1) snC cur16:=by have:=d7.same (e':=x1) row16 hs18 (by rw[<-hx1];simp only[Af,Sn.c,bc]);rwa[fR]at this
 have hsn1:(if a.lost=0 then(sns.set i (tB x)).map Sn.a else sns.map Sn.a)=(sns.set i x1).map Sn.a:=by rw[if_pos h82,<-hx1,Kn]
 refine Zr<|G (Zw dV H 2 Z Z Z)<|G (bC (cs:= #[J (0),J (0),.slice none 0 0]) iV dn N)<|cu kK (GR a ⟨0,0,[]⟩ _) Z Z ?_
 rintro _ w23 ⟨rfl,hb⟩;replace H:=H.later hb;clear hb
 refine bA H 1 (#[J ((fP a ⟨0,0,[]⟩).code),J ((fP a ⟨0,0,[]⟩).n),.slice none 0 0]) aL Z Z Z Z Z N N fun w24 H=>U<|Zt ?_
 exact eW (cs0:= #[J ((fP a ⟨0,0,[]⟩).code),J ((fP a ⟨0,0,[]⟩).n),.slice none 0 0]) Z aK Z (H.ent (i:=1) Z) Z ⟨⟨ps,some ⟨gP,0,none⟩,pC,c3,lo,hi,gr,glo,ghi,sns.set i x1,some ⟨gS,0,none⟩,snC⟩,by rw[jg hix hx,if_neg (by rw[h41];decide),if_neg h47,if_pos hok3];exact QM.r ⟨lM _ Z,rfl⟩ _,by rw[jg hix hx,if_neg (by rw[h41];decide),if_neg h47,if_pos hok3,<-hac3];show _=Wa.mk _ _ _ (if a.lost=0 then _ else _);rw[hsn1];rfl,Bw.close (X:=[(b6,_),(b4,_),(b3,_)]) row rowS1 hset hsA1 hlA1 rowq1 rowl1 (az ..) (ai _ hgr) (fun q hq=>ai _ (hps q hq)) (fun f hf=>ai _ hf) H (by simp only[Bk.c,ae])⟩
 refine U<|ZF Z<|Zk<|W ?_
 obtain⟨x1,hx1⟩: ∃ x1:Sn,x=x1:=⟨_,rfl⟩
 have hsA1:x1.sA=some ⟨gq,0,none⟩:=by rw[<-hx1];exact hsA
 have hlA1:x1.lA=some ⟨gl,0,none⟩:=by rw[<-hx1];exact hlA
 have rowq1:d7 bS x1.seqs x1.sC uq:=by rw[<-hx1];exact rowq
 have rowl1:d7 hJ x1.last x1.lC ul:=by rw[<-hx1];exact rowl
 have rowS1:d7 Af (sns.set i x1) snC uS:=by rw[<-hx1,fh hx];exact rowS
 have hsn1:(if a.lost=0 then(sns.set i (tB x)).map Sn.a else sns.map Sn.a)=(sns.set i x1).map Sn.a:=by rw[if_neg h82,<-hx1,fh hx]
 refine Zr<|G (Zw dV H 2 Z Z Z)<|G (bC (cs:= #[J (0),J (0),.slice none 0 0]) iV dn N)<|cu kK (GR a ⟨0,0,[]⟩ _) Z Z ?_
 rintro _ w25 ⟨rfl,hb⟩;replace H:=H.later hb;clear hb
 refine bA H 1 (#[J ((fP a ⟨0,0,[]⟩).code),J ((fP a ⟨0,0,[]⟩).n),.slice none 0 0]) aL Z Z Z Z Z N N fun w26 H=>U<|Zt ?_
 exact eW (cs0:= #[J ((fP a ⟨0,0,[]⟩).code),J ((fP a ⟨0,0,[]⟩).n),.slice none 0 0]) Z aK Z (H.ent (i:=1) Z) Z ⟨⟨ps,some ⟨gP,0,none⟩,pC,c3,lo,hi,gr,glo,ghi,sns.set i x1,some ⟨gS,0,none⟩,snC⟩,by rw[jg hix hx,if_neg (by rw[h41];decide),if_neg h47,if_pos hok3];exact QM.r ⟨lM _ Z,rfl⟩ _,by rw[jg hix hx,if_neg (by rw[h41];decide),if_neg h47,if_pos hok3,<-hac3];show _=Wa.mk _ _ _ (if a.lost=0 then _ else _);rw[hsn1];rfl,Bw.close (X:=[(b6,_),(b4,_),(b3,_)]) row rowS1 hset hsA1 hlA1 rowq1 rowl1 (az ..) (ai _ hgr) (fun q hq=>ai _ (hps q hq)) (fun f hf=>ai _ hf) H (by simp only[Bk.c,ae])⟩
 refine G (ee Z)<|G (Wb Z)<|U<|ZT Z<|W<|Zr<|cu bH (dS 12 _) Z Z ?_
 rintro _ w27 ⟨rfl,hb⟩;replace H:=H.later hb;clear hb
 refine bA H 0 (#[J (12),J (0),.slice none 0 0]) aL Z Z Z Z Z N N fun w28 H=>U<|Zt ?_
 exact eW (cs0:= #[J (12),J (0),.slice none 0 0]) Z aK Z (H.ent (i:=0) Z) Z ⟨⟨ps,some ⟨gP,0,none⟩,pC,co,clo,chi,gr,glo,ghi,sns.set i x,some ⟨gS,0,none⟩,snC⟩,by rw[jg hix hx,if_pos h41];exact pn.plain _ _ _,by rw[jg hix hx,if_pos h41,fh hx];rfl,Bw.close (X:=[(b4,_),(b3,_)]) row (by rw[fh hx];exact rowS) hset hsA hlA rowq rowl hco hgr hps (fun _ h=>h) H (by rw[fh hx];rfl)⟩
theorem vg {w:Wa} {a:Act} (h:(bw w.co a.name).2.2.2≠0):l9 w a=kf w (bw w.co a.name).2.2.2:=by
 unfold l9
 rw[if_neg h]
theorem Do {b:Bk} {a:Act} (hix:eR b.sns a.name=none) (h:(bw b.co.a a.name).2.2.2=0):l9 b.a a=({b.a with co:=(bw b.co.a a.name).1,sns:=b.sns.map Sn.a++[rh a.name (bw b.co.a a.name).2.1 (bw b.co.a a.name).2.2.1 b.ps.length]},⟨0,(bw b.co.a a.name).2.2.1,[]⟩):=by
 unfold l9 vF
 rw[if_pos (show(bw b.a.co a.name).2.2.2=0 from h),show b.a.sns=b.sns.map Sn.a from rfl]
 dsimp only[rh]
 rw[zN,hix,show b.a.ps.length=b.ps.length by show(b.ps.map _).length=_;rw[bc]]
 rfl
theorem Dn {b:Bk} {a:Act} {i:Nat} (hix:eR b.sns a.name=some i) (h:(bw b.co.a a.name).2.2.2=0):l9 b.a a=({b.a with co:=(bw b.co.a a.name).1,sns:=(b.sns.map Sn.a).set i (rh a.name (bw b.co.a a.name).2.1 (bw b.co.a a.name).2.2.1 b.ps.length)},⟨0,(bw b.co.a a.name).2.2.1,[]⟩):=by
 unfold l9 vF
 rw[if_pos (show(bw b.a.co a.name).2.2.2=0 from h),show b.a.sns=b.sns.map Sn.a from rfl]
 dsimp only[rh]
 rw[zN,hix,show b.a.ps.length=b.ps.length by show(b.ps.map _).length=_;rw[bc]]
 rfl
theorem Ov (A Q Lo K:List (Nat×Obj)):(A++((Lo++Q)++K)).Perm (Q++(A++(Lo++K))):=by
 rw[show A++((Lo++Q)++K)=(A++Lo)++(Q++K) by simp,show A++(Lo++K)=(A++Lo)++K by simp]
 exact gj (A++Lo) Q K
def QV:Sn:=⟨⟨#[]⟩,0,0,false,[],none,0,[],none,0⟩
theorem II:(aa.info? 3).map (fun i=>(i.zero,i.size,i.bytes))=some (some (J 0),bS.sz,8):=by kernel_rfl
theorem Dh:(aa.info? 87).map (fun i=>(i.zero,i.size,i.bytes))=some (some (.agg #[J 0,J 0,J 0,J 0,J 0,.bool false,.string ⟨#[]⟩]),hJ.sz,64):=by kernel_rfl
theorem J5 {w0 w:World} {bb:Nat} {b:Bk} {gP:Nat} {uP:Array Value} {Ls Lo K:List (Nat×Obj)} {F:List ce} (a:Act) (B:Bw w0 w bb b gP uP Ls Lo K F) (hsl:b.sns.length<=1000000) {k:Nat} (hnm:bu a.name=true) (hcb:pi k b.co) (hk:k<=1000) (hnp:0<b.ps.length) (hp4:b.ps.length<=4) (hix:eR b.sns a.name=none):dt aa ks [.pointer (Qd bb),a.v] w fun v w2=> ∃ b':Bk,pn (l9 b.a a).2 v w2/\b'.a=(l9 b.a a).1/\xU w0 w2 bb b' K F:=by
 refine aG nz Z Z ?_
 obtain⟨ps,pA,pC,co,clo,chi,gr,glo,ghi,sns,snA,snC⟩:=b
 obtain⟨hpA,row,hsn,hown,hco,hgr,hps,H⟩:=B
 dsimp only at hpA row hsn hown hco hgr hps
 subst hpA
 replace H:Hp w0 w ((bb,.cells #[.slice (Qd gP) ps.length pC,J (co.clock),J (co.next),J (co.wait),.slice co.A co.txs.length co.cap,J (gr.clock),J (gr.wait),J (gr.gen),.slice gr.mA gr.ms.length gr.mC,.slice gr.oA gr.os.length gr.oC,.slice snA sns.length snC] bE (0,0))::(gP,.cells uP bI (0,0))::(Ls++(Lo++K))) F:=H
 dsimp only at hix hsl hcb hnp hp4
 show CW _ _ _ _ (args [.pointer (Qd bb),.agg #[J (a.kind),.string (a.name),J (a.part),J (a.n),J (a.m),.string (a.text),J (a.lost)]]) w
 refine W<|Zr<|gY H Z Z fun w1 b3 H=>fc H dn Z fun w2 b4 H=>U<|W ?_
 refine ft (τ:=Co×Nat×Nat×Nat) [5,6,7,8,10,11,12,13,14,15,16,17,18,19,20,21,22] (fun(_,b5,_,_)=>[(5,.pointer (Qd b5)),(6,J (bw co.a a.name).2.1),(7,J (bw co.a a.name).2.2.1),(8,J (bw co.a a.name).2.2.2)]) (fun(c3,b5,lo,hi) w'=>c3.a=(bw co.a a.name).1/\Hp w0 w' ((b5,.cells #[J (c3.clock),J (c3.next),J (c3.wait),.slice c3.A c3.txs.length c3.cap] aX (0,0))::(b4,.cells #[J (0),J (0),.slice none 0 0] eh (0,0))::(b3,.cells #[J (a.kind),.string (a.name),J (a.part),J (a.n),J (a.m),.string (a.text),J (a.lost)] jl (0,0))::(bb,.cells #[.slice (Qd gP) ps.length pC,J (co.clock),J (co.next),J (co.wait),.slice co.A co.txs.length co.cap,J (gr.clock),J (gr.wait),J (gr.gen),.slice gr.mA gr.ms.length gr.mC,.slice gr.oA gr.os.length gr.oC,.slice snA sns.length snC] bE (0,0))::(gP,.cells uP bI (0,0))::(Ls++(Lo++K))) (xT w0 lo hi c3::F)) ?_ ?_
 refine oV cD 13 7 [7,8,9,10,11,12,14,15,16,17] [13] [0,1,2,3,5] [13,14,15,16,17] [7] [0,1,2,3,5,8,9,10,11,12] (sp [(13,Sp.blk w2.heap.size (.agg #[J 0,J 0,J 0,.slice none 0 0]) aX)]) (sp [(7,Sp.deep w2.heap.size Ny (fun c:Co=>c.c.toArray) (fun cs=> .tuple #[.agg cs,J (bw co.a a.name).2.1,J (bw co.a a.name).2.2.1,J (bw co.a a.name).2.2.2]) (fun cq:Co=>cq.a=(bw co.a a.name).1))]) N N N N (cQ _) (cQ _) ?_ ?_
 refine jN [0,1,2,3,4,5,6,13] [7,8,9,10,11,12,14,15,16,17] [13] [0,1,2,3,5] 9 (sp [(13,Sp.blk w2.heap.size (.agg #[J 0,J 0,J 0,.slice none 0 0]) aX)]) N N N Nq<|aw Z Z Z Z Z (fun w' hw'=>Yp Z)<|aw Z Z Z Z Z (fun w' hw'=>aH Z)<|aw Z Z Z Z Z (fun w' hw'=>Zf aS Z)<|aw Z Z Z Z Z (fun w' hw'=>Zf eO Z)<|aw Z Z Z Z Z (fun w' hw'=>j9 1 [J (co.clock),J (co.next),J (co.wait),.slice co.A co.txs.length co.cap] ax Z Z ((H.later hw').ent (i:=2) Z) Z)<|aw Z Z Z Z Z (fun w' hw'=>Zf fu Z)<|aw Z Z Z Z Z (fun w' hw'=>bi ba Z (aJ ((H.later hw').ent (i:=1) Z) Z))<|yP cI Z Z Z Z Z (fun w' hw'=>hw'.size) fun b5=>aU ?_
 intro w3 hw' hF
 obtain⟨hF,bq,eq,hge5,hbl5⟩:=hF;cases eq
 replace H:=H.adoptNew hw' hbl5 hge5
 clear hw' hF
 refine df 7 N Z<|cu om (xg co a.name k _ (Hp.coM H hco) hcb hk hnm) Z Z ?_
 rintro _ w4 ⟨c3,rfl,hac3,hnc3⟩;replace H:=H.learn hnc3.2 (xT w0 w3.heap.size w4.heap.size c3) ⟨H.size,hnc3.1⟩ (ao _) (ao _);clear hnc3
 refine U<|br 8 N N N Z Z Z Z Nq (fun _=>Yu Z)<|br 9 N N N Z Z Z Z Nq (fun _=>Xa Z Z)<|br 10 N N N Z Z Z Z Nq (fun _=>Xi Z Z)<|br 11 N N N Z Z Z Z Nq (fun _=>Xi Z Z)<|br 12 N N N Z Z Z Z Nq (fun _=>Xi Z Z)<|df 14 N Z<|bA H 0 (#[J (c3.clock),J (c3.next),J (c3.wait),.slice c3.A c3.txs.length c3.cap]) aF Z Z Z Z Z N N fun w5 H=>U<|br 15 N N N Z Z Z Z Nq (fun _=>Wi Z)<|br 16 N N N Z Z Z Z Nq (fun _=>Wi Z)<|br 17 N N N Z Z Z Z Nq (fun _=>Wi Z)<|cj N ?_
 exact⟨(c3,b5,_,_),⟨hac3,H⟩,QS Z Z Z Z,Qg⟩
 refine jN [0,1,2,3,4,5,6,7,8,9,10,11,12] [13,14,15,16,17] [7] [0,1,2,3,5,8,9,10,11,12] 4 (sp [(7,Sp.deep w2.heap.size Ny (fun c:Co=>c.c.toArray) (fun cs=> .tuple #[.agg cs,J (bw co.a a.name).2.1,J (bw co.a a.name).2.2.1,J (bw co.a a.name).2.2.2]) (fun cq:Co=>cq.a=(bw co.a a.name).1))]) N N N Nq<|aw Z Z Z Z Z (fun w' hw'=>Yp Z)<|aw Z Z Z Z Z (fun w' hw'=>aH Z)<|aw Z Z Z Z Z (fun w' hw'=>Zf aS Z)<|aw Z Z Z Z Z (fun w' hw'=>Zf eO Z)<|aw Z Z Z Z Z (fun w' hw'=>j9 1 [J (co.clock),J (co.next),J (co.wait),.slice co.A co.txs.length co.cap] ax Z Z ((H.later hw').ent (i:=2) Z) Z)<|aw Z Z Z Z Z (fun w' hw'=>Zf fu Z)<|aw Z Z Z Z Z (fun w' hw'=>bi ba Z (aJ ((H.later hw').ent (i:=1) Z) Z))<|tK (gv:=(fun cs=> .tuple #[.agg cs,J (bw co.a a.name).2.1,J (bw co.a a.name).2.2.1,J (bw co.a a.name).2.2.2])) om Z Z Z Z Z (fun w' hw'=>hw'.size) (fun w' hw'=>xg co a.name k w' (Hp.coM (H.later hw') hco) hcb hk hnm) Z fun cs18=>aw Z Z Z Z Z (fun w' hw'=>Yu Z)<|aw Z Z Z Z Z (fun w' hw'=>Xa Z Z)<|aw Z Z Z Z Z (fun w' hw'=>Xi Z Z)<|aw Z Z Z Z Z (fun w' hw'=>Xi Z Z)<|aw Z Z Z Z Z (fun w' hw'=>Xi Z Z)<|aU ?_
 intro w6 hw' hF
 obtain⟨hF,c3,eq,hac3,hrd18⟩:=hF;cases eq
 replace H:=H.learn hw' (xT w0 w2.heap.size w6.heap.size c3) ⟨H.size,hrd18⟩ (ao _) (ao _)
 clear hw' hF
 refine df 13 N Z<|fc H cI Z fun w7 b5 H=>U<|df 14 N Z<|bA H 0 (#[J (c3.clock),J (c3.next),J (c3.wait),.slice c3.A c3.txs.length c3.cap]) aF Z Z Z Z Z N N fun w8 H=>U<|br 15 N N N Z Z Z Z Nq (fun _=>Wi Z)<|br 16 N N N Z Z Z Z Nq (fun _=>Wi Z)<|br 17 N N N Z Z Z Z Nq (fun _=>Wi Z)<|cj N ?_
 exact⟨(c3,b5,_,_),⟨hac3,H⟩,QS Z Z Z Z,Qg⟩
 rintro⟨c3,b5,lo,hi⟩ ρ1 w9 ⟨hac3,H⟩
 show CW _ _ _ _ (dK (ia _ _ ρ1) [(5,.pointer (Qd b5)),(6,J (bw co.a a.name).2.1),(7,J (bw co.a a.name).2.2.1),(8,J (bw co.a a.name).2.2.2)]) w9
 refine W<|W<|Zr<|G (Yi Z) ?_
 refine rM (jk Z Z) Z Z Z (fun h24=> ?_) (fun h24=> ?_)
 refine U<|ZT Z<|W<|Zr<|G (Yi Z)<|cu bH (dS (bw co.a a.name).2.2.2 _) Z Z ?_
 rintro _ w10 ⟨rfl,hb⟩;replace H:=H.later hb;clear hb
 refine bA H 1 (#[J ((bw co.a a.name).2.2.2),J (0),.slice none 0 0]) aL Z Z Z Z Z N N fun w11 H=>U<|Zt ?_
 exact eW (cs0:= #[J ((bw co.a a.name).2.2.2),J (0),.slice none 0 0]) Z aK Z (H.ent (i:=1) Z) Z ⟨⟨ps,some ⟨gP,0,none⟩,pC,co,clo,chi,gr,glo,ghi,sns,snA,snC⟩,by rw[vg h24];exact pn.plain _ _ _,by rw[vg h24];rfl,Bw.shut (X:=[(b5,_),(b4,_),(b3,_)]) row hsn hown (ai _ hco) (ai _ hgr) (fun q hq=>ai _ (hps q hq)) (fun f hf=>ai _ hf) H Z⟩
 refine U<|ZF Z<|Zk<|W ?_
 have hok3:(bw co.a a.name).2.2.2=0:=by simpa using h24
 refine Zr<|G (Yp Z)<|G (Zw ax H 0 Z Z Z)<|G (aH Z)<|G (Zf aS Z)<|G (Zf eO Z)<|bA H 3 (#[.slice (Qd gP) ps.length pC,J (c3.clock),J (c3.next),J (c3.wait),.slice c3.A c3.txs.length c3.cap,J (gr.clock),J (gr.wait),J (gr.gen),.slice gr.mA gr.ms.length gr.mC,.slice gr.oA gr.os.length gr.oC,.slice snA sns.length snC]) aF Z Z Z Z Z N N fun w12 H=>U<|W<|Zr<|G (Yp Z)<|G (Zf fu Z)<|G (Zd ba H 2 Z Z Z)<|cu dF (jF bb ⟨ps,some ⟨gP,0,none⟩,pC,c3,lo,hi,gr,glo,ghi,sns,snA,snC⟩ a.name Ls _ (H.ent (i:=3) Z) hsn (fun q hq=>(H.ents q (by simp only[List.set_cons_succ,B1,av,ap];grind)).1) hsl) Z Z ?_
 rintro _ w13 ⟨rfl,hb⟩;replace H:=H.later hb;clear hb
 rw[hix]
 refine G (Wp Z)<|U<|W<|W<|Zr<|G (Yp Z)<|G (yg i6 Z)<|U<|ZT Z<|W<|Zr<|G (Yp Z)<|G (Yp Z)<|G (aH Z)<|G (Zf aS Z)<|G (Zf kB Z)<|G (Zd ko H 3 Z Z Z)<|G (bC (cs:= #[.string (⟨#[]⟩),J (0),J (0),.bool (false),.slice none 0 0,.slice none 0 0]) yd wS N)<|uO (vs:=[.agg #[.string (⟨#[]⟩),J (0),J (0),.bool (false),.slice none 0 0,.slice none 0 0]]) H s8 wS Z Z Z Z Z Z fun w14 b45 H=>wN (Y:=Af) Ic (K:=[(b45,_),(b5,_),(b4,_),(b3,_),(bb,_),(gP,_)]) (L:=Ls) (M:=Lo++K) H hsn (es:=sns) (news:=[QV]) Z Z Z (zk.row (m:=1) (sz:=Af.sz) (H.ent (i:=0) Z) Z) (by simp only[cH];omega) Z ?_
 intro A46 c46 w15 L46 h46 _ ho46 H
 obtain⟨sn2,hsn2⟩: ∃ l,sns++[QV]=l:=⟨_,rfl⟩
 rw[hsn2]at ho46 h46⊢
 have hl2:sn2.length=sns.length+1:=by rw[<-hsn2];simp
 have hx2:sn2[sns.length]? =some QV:=by rw[<-hsn2];simp
 have hlen2:((sn2.length:Nat):Int)-1=((sns.length:Nat):Int):=by omega
 obtain⟨gS,uS,rfl,rfl,rowS⟩:=ho46.row I
 replace H:Hp w0 w15 ((b45,.cells #[.string (⟨#[]⟩),J (0),J (0),.bool (false),.slice none 0 0,.slice none 0 0] fK (0,0))::(b5,.cells #[J (c3.clock),J (c3.next),J (c3.wait),.slice c3.A c3.txs.length c3.cap] aX (0,0))::(b4,.cells #[J (0),J (0),.slice none 0 0] eh (0,0))::(b3,.cells #[J (a.kind),.string (a.name),J (a.part),J (a.n),J (a.m),.string (a.text),J (a.lost)] jl (0,0))::(bb,.cells #[.slice (Qd gP) ps.length pC,J (c3.clock),J (c3.next),J (c3.wait),.slice c3.A c3.txs.length c3.cap,J (gr.clock),J (gr.wait),J (gr.gen),.slice gr.mA gr.ms.length gr.mC,.slice gr.oA gr.os.length gr.oC,.slice snA sns.length snC] bE (0,0))::(gP,.cells uP bI (0,0))::(gS,.cells uS fK (0,0))::(Lo++K)) (xT w0 lo hi c3::F):=H
 refine G (aH Z)<|G (Zf aS Z)<|G (Zf kB Z)<|bA H 4 (#[.slice (Qd gP) ps.length pC,J (c3.clock),J (c3.next),J (c3.wait),.slice c3.A c3.txs.length c3.cap,J (gr.clock),J (gr.wait),J (gr.gen),.slice gr.mA gr.ms.length gr.mC,.slice gr.oA gr.os.length gr.oC,.slice (Qd gS) sn2.length c46]) Fg Z Z Z Z Z N N fun w16 H=>U ?_
 refine bL cD [0,1,2,3,4,5,6,7,8,9,10,11,12,13] [] [] [0,1,2,3,5,6,7,8,10,11,12,13] (sp []) N N N N Nq (cQ _) ?_
 refine aw Z Z Z Z Z (fun w' hw'=>Yp Z)<|aw Z Z Z Z Z (fun w' hw'=>aH Z)<|aw Z Z Z Z Z (fun w' hw'=>Zf aS Z)<|aw Z Z Z Z Z (fun w' hw'=>Zf kB Z)<|aw Z Z Z Z Z (fun w' hw'=>bi ko Z (aJ ((H.later hw').ent (i:=4) Z) Z))<|aw Z Z Z Z Z (fun w' hw'=>Yp Z)<|aw Z Z Z Z Z (fun w' hw'=>aH Z)<|aw Z Z Z Z Z (fun w' hw'=>Zf aS Z)<|aw Z Z Z Z Z (fun w' hw'=>Zf kB Z)<|aw Z Z Z Z Z (fun w' hw'=>bi ko Z (aJ ((H.later hw').ent (i:=4) Z) Z))<|aw Z Z Z Z Z (fun w' hw'=>bh uw Z)<|aw Z Z Z Z Z (fun w' hw'=>lX Z Z I I)<|aw Z Z Z Z Z (fun w' hw'=>cR (k:=sns.length) s8 Z (congrArg (Value.int .i64) hlen2) (by first|omega|(simp only[ae];omega)))<|aw Z Z Z Z Z (fun w' hw'=>Wp Z)<|aU ?_
 intro w17 hw' hF
 replace H:=H.later hw';clear hw' hF
 refine U<|W ?_
 refine bL cD [0,1,2,3,4,5,6,7,8,9,10,12,13,14,15,16,17,11,18,19,20] [21] [11,18] [0,1,3,4,5,6,7,8,10,12,13,14,15,17,19,20] (sp [(11,Sp.orow w17.heap.size bS dg (aq ps.length (0:Int))),(18,Sp.orow w17.heap.size hJ dA (aq ps.length jP))]) N N N N Nq (cQ _) ?_
 refine aw Z Z Z Z Z (fun w' hw'=>Yp Z)<|aw Z Z Z Z Z (fun w' hw'=>Zf fu Z)<|aw Z Z Z Z Z (fun w' hw'=>bi ba Z (aJ ((H.later hw').ent (i:=3) Z) Z))<|aw Z Z Z Z Z (fun w' hw'=>Yi Z)<|aw Z Z Z Z Z (fun w' hw'=>Yi Z)<|aw Z Z Z Z Z (fun w' hw'=>Yp Z)<|aw Z Z Z Z Z (fun w' hw'=>aH Z)<|aw Z Z Z Z Z (fun w' hw'=>Zf aS Z)<|aw Z Z Z Z Z (fun w' hw'=>Zf dL Z)<|aw Z Z Z Z Z (fun w' hw'=>bi eA Z (aJ ((H.later hw').ent (i:=4) Z) Z))<|aw Z Z Z Z Z (fun w' hw'=>bh l8 Z)<|aw Z Z Z Z Z (fun w' hw'=>Yp Z)<|aw Z Z Z Z Z (fun w' hw'=>aH Z)<|aw Z Z Z Z Z (fun w' hw'=>Zf aS Z)<|aw Z Z Z Z Z (fun w' hw'=>Zf dL Z)<|aw Z Z Z Z Z (fun w' hw'=>bi eA Z (aJ ((H.later hw').ent (i:=4) Z) Z))<|aw Z Z Z Z Z (fun w' hw'=>bh l8 Z)<|I4 (Y:=bS) ((0:Int)) ps.length bj II Z Z Z Z Z Z (fun w' hw'=>hw'.size) Z Z I I fun A74 c74 hc74=>I4 (Y:=hJ) (jP) ps.length dW Dh Z Z Z Z Z Z (fun w' hw'=>hw'.size) Z Z I I fun A81 c81 hc81=>aw Z Z Z Z Z (fun w' hw'=>bC (cs:= #[.string (a.name),J ((bw co.a a.name).2.1),J ((bw co.a a.name).2.2.1),.bool (false),.slice A74 (((aq ps.length (0:Int))).length) c74,.slice A81 ((aq ps.length jP).length) c81]) yd wS N)<|aw Z Z Z Z Z (fun w' hw'=>aH Z)<|aU ?_
 intro w18 hw' hF
 obtain⟨hF,Aq,cq,L81,eq,hcq,hm81,ho81,he81,hn81⟩:=hF;cases eq;clear hcq
 obtain⟨hF,Aq,cq,L74,eq,hcq,hm74,ho74,he74,hn74⟩:=hF;cases eq;clear hcq
 obtain⟨nq,curq,rfl,rfl,rowq9⟩:=ho74.row (by simp only[bW];exact hnp)
 obtain⟨nl,curl,rfl,rfl,rowl9⟩:=ho81.row (by simp only[bW];exact hnp)
 have e74:=he74 _ (d9 _)
 have e81:=he81 _ (d9 _)
 replace H:=H.adopt2 hw' e74 e81 (sR e74.1 e81.1 Z)
 clear hw' hF
 refine ni H 8 (⟨a.name,(bw co.a a.name).2.1,(bw co.a a.name).2.2.1,false,aq ps.length 0,some ⟨nq,0,none⟩,c74,aq ps.length jP,some ⟨nl,0,none⟩,c81⟩) Ai rowS hx2 0 Z Z Z Z Z Z N fun w20 cur19 row19 H=> ?_
 have hs21:(sn2.set sns.length (⟨a.name,(bw co.a a.name).2.1,(bw co.a a.name).2.2.1,false,aq ps.length 0,some ⟨nq,0,none⟩,c74,aq ps.length jP,some ⟨nl,0,none⟩,c81⟩))[sns.length]? =some (⟨a.name,(bw co.a a.name).2.1,(bw co.a a.name).2.2.1,false,aq ps.length 0,some ⟨nq,0,none⟩,c74,aq ps.length jP,some ⟨nl,0,none⟩,c81⟩):=al (cy hx2).1
 refine U<|W<|Zr<|G (Yi Z)<|G (bC (cs:= #[J (0),J ((bw co.a a.name).2.2.1),.slice none 0 0]) iV dn N)<|bA H 4 (#[J (0),J ((bw co.a a.name).2.2.1),.slice none 0 0]) aL Z Z Z Z Z N N fun w22 H=>U<|Zt ?_
 have hn7:=hown.snoc (s:=(⟨a.name,(bw co.a a.name).2.1,(bw co.a a.name).2.2.1,false,aq ps.length 0,some ⟨nq,0,none⟩,c74,aq ps.length jP,some ⟨nl,0,none⟩,c81⟩:Sn)) Z Z rowq9 rowl9
 have hs7:sn2.set sns.length (⟨a.name,(bw co.a a.name).2.1,(bw co.a a.name).2.2.1,false,aq ps.length 0,some ⟨nq,0,none⟩,c74,aq ps.length jP,some ⟨nl,0,none⟩,c81⟩:Sn)=sns++[⟨a.name,(bw co.a a.name).2.1,(bw co.a a.name).2.2.1,false,aq ps.length 0,some ⟨nq,0,none⟩,c74,aq ps.length jP,some ⟨nl,0,none⟩,c81⟩]:=by rw[<-hsn2,jo _ _ (ao _),mE];rfl
 have row7:=row19
 rw[hs7]at row7
 refine eW (cs0:= #[J (0),J ((bw co.a a.name).2.2.1),.slice none 0 0]) Z aK Z (H.ent (i:=4) Z) Z ⟨⟨ps,some ⟨gP,0,none⟩,pC,c3,lo,hi,gr,glo,ghi,sns++[⟨a.name,(bw co.a a.name).2.1,(bw co.a a.name).2.2.1,false,aq ps.length 0,some ⟨nq,0,none⟩,c74,aq ps.length jP,some ⟨nl,0,none⟩,c81⟩],some ⟨gS,0,none⟩,c46⟩,by rw[Do hix hok3];exact pn.plain _ _ _,by rw[Do hix hok3,<-hac3];unfold Bk.a;rw[bk];rfl,⟨gP,uP,_,_,_,⟨rfl,row,d7.own row7,hn7,(az ..),(ai _ hgr),(fun q hq=>ai _ (hps q hq)),?_⟩,(fun f hf=>ai _ hf)⟩⟩
 have H7:=H.forget (L':=(nq,_)::(nl,_)::(bb,_)::(gP,_)::(gS,_)::(Lo++K)) (.cons_cons _ (.cons_cons _ (bZ [(b45,_),(b5,_),(b4,_),(b3,_)] _))) (fun _ h=>h)
 have hl7:sn2.length=(sns++[(⟨a.name,(bw co.a a.name).2.1,(bw co.a a.name).2.2.1,false,aq ps.length 0,some ⟨nq,0,none⟩,c74,aq ps.length jP,some ⟨nl,0,none⟩,c81⟩:Sn)]).length:=by rw[hl2,ay];rfl
 rw[hl7]at H7
 exact H7.perm (Ov [(bb,_),(gP,_),(gS,_)] [(nq,_),(nl,_)] Lo K)
theorem J4 {w0 w:World} {bb:Nat} {b:Bk} {gP:Nat} {uP:Array Value} {Ls Lo K:List (Nat×Obj)} {F:List ce} (a:Act) (B:Bw w0 w bb b gP uP Ls Lo K F) (hsl:b.sns.length<=1000000) {k:Nat} (hnm:bu a.name=true) (hcb:pi k b.co) (hk:k<=1000) (hnp:0<b.ps.length) (hp4:b.ps.length<=4) {i:Nat} {x:Sn} (hix:eR b.sns a.name=some i) (hx:b.sns[i]? =some x):dt aa ks [.pointer (Qd bb),a.v] w fun v w2=> ∃ b':Bk,pn (l9 b.a a).2 v w2/\b'.a=(l9 b.a a).1/\xU w0 w2 bb b' K F:=by
 refine aG nz Z Z ?_
 obtain⟨ps,pA,pC,co,clo,chi,gr,glo,ghi,sns,snA,snC⟩:=b
 obtain⟨hpA,row,hsn,hown,hco,hgr,hps,H⟩:=B
 dsimp only at hpA row hsn hown hco hgr hps
 subst hpA
 dsimp only at hix hx
 obtain⟨gS,uS,hgS,hLs,rowS⟩:=hsn.row (by have:=(cy hx).1;omega)
 subst hgS;subst hLs
 obtain⟨gq,uq,gl,ul,La,Lb,hsA,hlA,rowq,rowl,hLo,hset⟩:=hown.at_ hx
 subst hLo
 replace H:Hp w0 w ((bb,.cells #[.slice (Qd gP) ps.length pC,J (co.clock),J (co.next),J (co.wait),.slice co.A co.txs.length co.cap,J (gr.clock),J (gr.wait),J (gr.gen),.slice gr.mA gr.ms.length gr.mC,.slice gr.oA gr.os.length gr.oC,.slice (Qd gS) sns.length snC] bE (0,0))::(gP,.cells uP bI (0,0))::(gS,.cells uS fK (0,0))::(gq,.cells uq dg (0,0))::(gl,.cells ul dA (0,0))::(La++(Lb++K))) F:=H.perm (Dq [(bb,_),(gP,_),(gS,_)] _ _ La Lb K)
 dsimp only at hsl hcb hnp hp4
 show CW _ _ _ _ (args [.pointer (Qd bb),.agg #[J (a.kind),.string (a.name),J (a.part),J (a.n),J (a.m),.string (a.text),J (a.lost)]]) w
 refine W<|Zr<|gY H Z Z fun w1 b3 H=>fc H dn Z fun w2 b4 H=>U<|W ?_
 refine ft (τ:=Co×Nat×Nat×Nat) [5,6,7,8,10,11,12,13,14,15,16,17,18,19,20,21,22] (fun(_,b5,_,_)=>[(5,.pointer (Qd b5)),(6,J (bw co.a a.name).2.1),(7,J (bw co.a a.name).2.2.1),(8,J (bw co.a a.name).2.2.2)]) (fun(c3,b5,lo,hi) w'=>c3.a=(bw co.a a.name).1/\Hp w0 w' ((b5,.cells #[J (c3.clock),J (c3.next),J (c3.wait),.slice c3.A c3.txs.length c3.cap] aX (0,0))::(b4,.cells #[J (0),J (0),.slice none 0 0] eh (0,0))::(b3,.cells #[J (a.kind),.string (a.name),J (a.part),J (a.n),J (a.m),.string (a.text),J (a.lost)] jl (0,0))::(bb,.cells #[.slice (Qd gP) ps.length pC,J (co.clock),J (co.next),J (co.wait),.slice co.A co.txs.length co.cap,J (gr.clock),J (gr.wait),J (gr.gen),.slice gr.mA gr.ms.length gr.mC,.slice gr.oA gr.os.length gr.oC,.slice (Qd gS) sns.length snC] bE (0,0))::(gP,.cells uP bI (0,0))::(gS,.cells uS fK (0,0))::(gq,.cells uq dg (0,0))::(gl,.cells ul dA (0,0))::La++(Lb++K)) (xT w0 lo hi c3::F)) ?_ ?_
 refine oV cD 13 7 [7,8,9,10,11,12,14,15,16,17] [13] [0,1,2,3,5] [13,14,15,16,17] [7] [0,1,2,3,5,8,9,10,11,12] (sp [(13,Sp.blk w2.heap.size (.agg #[J 0,J 0,J 0,.slice none 0 0]) aX)]) (sp [(7,Sp.deep w2.heap.size Ny (fun c:Co=>c.c.toArray) (fun cs=> .tuple #[.agg cs,J (bw co.a a.name).2.1,J (bw co.a a.name).2.2.1,J (bw co.a a.name).2.2.2]) (fun cq:Co=>cq.a=(bw co.a a.name).1))]) N N N N (cQ _) (cQ _) ?_ ?_
 refine jN [0,1,2,3,4,5,6,13] [7,8,9,10,11,12,14,15,16,17] [13] [0,1,2,3,5] 9 (sp [(13,Sp.blk w2.heap.size (.agg #[J 0,J 0,J 0,.slice none 0 0]) aX)]) N N N Nq<|aw Z Z Z Z Z (fun w' hw'=>Yp Z)<|aw Z Z Z Z Z (fun w' hw'=>aH Z)<|aw Z Z Z Z Z (fun w' hw'=>Zf aS Z)<|aw Z Z Z Z Z (fun w' hw'=>Zf eO Z)<|aw Z Z Z Z Z (fun w' hw'=>j9 1 [J (co.clock),J (co.next),J (co.wait),.slice co.A co.txs.length co.cap] ax Z Z ((H.later hw').ent (i:=2) Z) Z)<|aw Z Z Z Z Z (fun w' hw'=>Zf fu Z)<|aw Z Z Z Z Z (fun w' hw'=>bi ba Z (aJ ((H.later hw').ent (i:=1) Z) Z))<|yP cI Z Z Z Z Z (fun w' hw'=>hw'.size) fun b5=>aU ?_
 intro w3 hw' hF
 obtain⟨hF,bq,eq,hge5,hbl5⟩:=hF;cases eq
 replace H:=H.adoptNew hw' hbl5 hge5
 clear hw' hF
 refine df 7 N Z<|cu om (xg co a.name k _ (Hp.coM H hco) hcb hk hnm) Z Z ?_
 rintro _ w4 ⟨c3,rfl,hac3,hnc3⟩;replace H:=H.learn hnc3.2 (xT w0 w3.heap.size w4.heap.size c3) ⟨H.size,hnc3.1⟩ (ao _) (ao _);clear hnc3
 refine U<|br 8 N N N Z Z Z Z Nq (fun _=>Yu Z)<|br 9 N N N Z Z Z Z Nq (fun _=>Xa Z Z)<|br 10 N N N Z Z Z Z Nq (fun _=>Xi Z Z)<|br 11 N N N Z Z Z Z Nq (fun _=>Xi Z Z)<|br 12 N N N Z Z Z Z Nq (fun _=>Xi Z Z)<|df 14 N Z<|bA H 0 (#[J (c3.clock),J (c3.next),J (c3.wait),.slice c3.A c3.txs.length c3.cap]) aF Z Z Z Z Z N N fun w5 H=>U<|br 15 N N N Z Z Z Z Nq (fun _=>Wi Z)<|br 16 N N N Z Z Z Z Nq (fun _=>Wi Z)<|br 17 N N N Z Z Z Z Nq (fun _=>Wi Z)<|cj N ?_
 exact⟨(c3,b5,_,_),⟨hac3,H⟩,QS Z Z Z Z,Qg⟩
 refine jN [0,1,2,3,4,5,6,7,8,9,10,11,12] [13,14,15,16,17] [7] [0,1,2,3,5,8,9,10,11,12] 4 (sp [(7,Sp.deep w2.heap.size Ny (fun c:Co=>c.c.toArray) (fun cs=> .tuple #[.agg cs,J (bw co.a a.name).2.1,J (bw co.a a.name).2.2.1,J (bw co.a a.name).2.2.2]) (fun cq:Co=>cq.a=(bw co.a a.name).1))]) N N N Nq<|aw Z Z Z Z Z (fun w' hw'=>Yp Z)<|aw Z Z Z Z Z (fun w' hw'=>aH Z)<|aw Z Z Z Z Z (fun w' hw'=>Zf aS Z)<|aw Z Z Z Z Z (fun w' hw'=>Zf eO Z)<|aw Z Z Z Z Z (fun w' hw'=>j9 1 [J (co.clock),J (co.next),J (co.wait),.slice co.A co.txs.length co.cap] ax Z Z ((H.later hw').ent (i:=2) Z) Z)<|aw Z Z Z Z Z (fun w' hw'=>Zf fu Z)<|aw Z Z Z Z Z (fun w' hw'=>bi ba Z (aJ ((H.later hw').ent (i:=1) Z) Z))<|tK (gv:=(fun cs=> .tuple #[.agg cs,J (bw co.a a.name).2.1,J (bw co.a a.name).2.2.1,J (bw co.a a.name).2.2.2])) om Z Z Z Z Z (fun w' hw'=>hw'.size) (fun w' hw'=>xg co a.name k w' (Hp.coM (H.later hw') hco) hcb hk hnm) Z fun cs18=>aw Z Z Z Z Z (fun w' hw'=>Yu Z)<|aw Z Z Z Z Z (fun w' hw'=>Xa Z Z)<|aw Z Z Z Z Z (fun w' hw'=>Xi Z Z)<|aw Z Z Z Z Z (fun w' hw'=>Xi Z Z)<|aw Z Z Z Z Z (fun w' hw'=>Xi Z Z)<|aU ?_
 intro w6 hw' hF
 obtain⟨hF,c3,eq,hac3,hrd18⟩:=hF;cases eq
 replace H:=H.learn hw' (xT w0 w2.heap.size w6.heap.size c3) ⟨H.size,hrd18⟩ (ao _) (ao _)
 clear hw' hF
 refine df 13 N Z<|fc H cI Z fun w7 b5 H=>U<|df 14 N Z<|bA H 0 (#[J (c3.clock),J (c3.next),J (c3.wait),.slice c3.A c3.txs.length c3.cap]) aF Z Z Z Z Z N N fun w8 H=>U<|br 15 N N N Z Z Z Z Nq (fun _=>Wi Z)<|br 16 N N N Z Z Z Z Nq (fun _=>Wi Z)<|br 17 N N N Z Z Z Z Nq (fun _=>Wi Z)<|cj N ?_
 exact⟨(c3,b5,_,_),⟨hac3,H⟩,QS Z Z Z Z,Qg⟩
 rintro⟨c3,b5,lo,hi⟩ ρ1 w9 ⟨hac3,H⟩
 show CW _ _ _ _ (dK (ia _ _ ρ1) [(5,.pointer (Qd b5)),(6,J (bw co.a a.name).2.1),(7,J (bw co.a a.name).2.2.1),(8,J (bw co.a a.name).2.2.2)]) w9
 refine W<|W<|Zr<|G (Yi Z) ?_
 refine rM (jk Z Z) Z Z Z (fun h24=> ?_) (fun h24=> ?_)
 refine U<|ZT Z<|W<|Zr<|G (Yi Z)<|cu bH (dS (bw co.a a.name).2.2.2 _) Z Z ?_
 rintro _ w10 ⟨rfl,hb⟩;replace H:=H.later hb;clear hb
 refine bA H 1 (#[J ((bw co.a a.name).2.2.2),J (0),.slice none 0 0]) aL Z Z Z Z Z N N fun w11 H=>U<|Zt ?_
 exact eW (cs0:= #[J ((bw co.a a.name).2.2.2),J (0),.slice none 0 0]) Z aK Z (H.ent (i:=1) Z) Z ⟨⟨ps,some ⟨gP,0,none⟩,pC,co,clo,chi,gr,glo,ghi,sns.set i x,some ⟨gS,0,none⟩,snC⟩,by rw[vg h24];exact pn.plain _ _ _,by rw[vg h24,fh hx];rfl,Bw.close (X:=[(b5,_),(b4,_),(b3,_)]) row (by rw[fh hx];exact rowS) hset hsA hlA rowq rowl (ai _ hco) (ai _ hgr) (fun q hq=>ai _ (hps q hq)) (fun f hf=>ai _ hf) H (by rw[fh hx];rfl)⟩
 refine U<|ZF Z<|Zk<|W ?_
 have hok3:(bw co.a a.name).2.2.2=0:=by simpa using h24
 refine Zr<|G (Yp Z)<|G (Zw ax H 0 Z Z Z)<|G (aH Z)<|G (Zf aS Z)<|G (Zf eO Z)<|bA H 3 (#[.slice (Qd gP) ps.length pC,J (c3.clock),J (c3.next),J (c3.wait),.slice c3.A c3.txs.length c3.cap,J (gr.clock),J (gr.wait),J (gr.gen),.slice gr.mA gr.ms.length gr.mC,.slice gr.oA gr.os.length gr.oC,.slice (Qd gS) sns.length snC]) aF Z Z Z Z Z N N fun w12 H=>U<|W<|Zr<|G (Yp Z)<|G (Zf fu Z)<|G (Zd ba H 2 Z Z Z)<|cu dF (jF bb ⟨ps,some ⟨gP,0,none⟩,pC,c3,lo,hi,gr,glo,ghi,sns,some ⟨gS,0,none⟩,snC⟩ a.name _ _ (H.ent (i:=3) Z) (d7.own rowS) (fun q hq=>by rw[ar.1 hq];exact(H.ent (i:=5) Z)) hsl) Z Z ?_
 rintro _ w13 ⟨rfl,hb⟩;replace H:=H.later hb;clear hb
 rw[hix]
 refine G (Wp Z)<|U<|W<|W<|Zr<|G (Yp Z)<|G (wk i6 Z)<|U<|ZF Z<|Zk<|W ?_
 refine bL cD [0,1,2,3,4,5,6,7,8,9,10,12,13,14,15,16,17,11,18,19,20] [21] [11,18] [0,1,3,4,5,6,7,8,10,12,13,14,15,17,19,20] (sp [(11,Sp.orow w13.heap.size bS dg (aq ps.length (0:Int))),(18,Sp.orow w13.heap.size hJ dA (aq ps.length jP))]) N N N N Nq (cQ _) ?_
 refine aw Z Z Z Z Z (fun w' hw'=>Yp Z)<|aw Z Z Z Z Z (fun w' hw'=>Zf fu Z)<|aw Z Z Z Z Z (fun w' hw'=>bi ba Z (aJ ((H.later hw').ent (i:=2) Z) Z))<|aw Z Z Z Z Z (fun w' hw'=>Yi Z)<|aw Z Z Z Z Z (fun w' hw'=>Yi Z)<|aw Z Z Z Z Z (fun w' hw'=>Yp Z)<|aw Z Z Z Z Z (fun w' hw'=>aH Z)<|aw Z Z Z Z Z (fun w' hw'=>Zf aS Z)<|aw Z Z Z Z Z (fun w' hw'=>Zf dL Z)<|aw Z Z Z Z Z (fun w' hw'=>bi eA Z (aJ ((H.later hw').ent (i:=3) Z) Z))<|aw Z Z Z Z Z (fun w' hw'=>bh l8 Z)<|aw Z Z Z Z Z (fun w' hw'=>Yp Z)<|aw Z Z Z Z Z (fun w' hw'=>aH Z)<|aw Z Z Z Z Z (fun w' hw'=>Zf aS Z)<|aw Z Z Z Z Z (fun w' hw'=>Zf dL Z)<|aw Z Z Z Z Z (fun w' hw'=>bi eA Z (aJ ((H.later hw').ent (i:=3) Z) Z))<|aw Z Z Z Z Z (fun w' hw'=>bh l8 Z)<|I4 (Y:=bS) ((0:Int)) ps.length bj II Z Z Z Z Z Z (fun w' hw'=>hw'.size) Z Z I I fun A74 c74 hc74=>I4 (Y:=hJ) (jP) ps.length dW Dh Z Z Z Z Z Z (fun w' hw'=>hw'.size) Z Z I I fun A81 c81 hc81=>aw Z Z Z Z Z (fun w' hw'=>bC (cs:= #[.string (a.name),J ((bw co.a a.name).2.1),J ((bw co.a a.name).2.2.1),.bool (false),.slice A74 (((aq ps.length (0:Int))).length) c74,.slice A81 ((aq ps.length jP).length) c81]) yd wS N)<|aw Z Z Z Z Z (fun w' hw'=>aH Z)<|aU ?_
 intro w14 hw' hF
 obtain⟨hF,Aq,cq,L81,eq,hcq,hm81,ho81,he81,hn81⟩:=hF;cases eq;clear hcq
 obtain⟨hF,Aq,cq,L74,eq,hcq,hm74,ho74,he74,hn74⟩:=hF;cases eq;clear hcq
 obtain⟨nq,curq,rfl,rfl,rowq9⟩:=ho74.row (by simp only[bW];exact hnp)
 obtain⟨nl,curl,rfl,rfl,rowl9⟩:=ho81.row (by simp only[bW];exact hnp)
 have e74:=he74 _ (d9 _)
 have e81:=he81 _ (d9 _)
 replace H:=H.adopt2 hw' e74 e81 (sR e74.1 e81.1 Z)
 clear hw' hF
 refine ni H 7 (⟨a.name,(bw co.a a.name).2.1,(bw co.a a.name).2.2.1,false,aq ps.length 0,some ⟨nq,0,none⟩,c74,aq ps.length jP,some ⟨nl,0,none⟩,c81⟩) Ai rowS hx 0 Z Z Z Z Z Z N fun w16 cur15 row15 H=> ?_
 have hs17:(sns.set i (⟨a.name,(bw co.a a.name).2.1,(bw co.a a.name).2.2.1,false,aq ps.length 0,some ⟨nq,0,none⟩,c74,aq ps.length jP,some ⟨nl,0,none⟩,c81⟩))[i]? =some (⟨a.name,(bw co.a a.name).2.1,(bw co.a a.name).2.2.1,false,aq ps.length 0,some ⟨nq,0,none⟩,c74,aq ps.length jP,some ⟨nl,0,none⟩,c81⟩):=al (cy hx).1
 refine U<|W<|Zr<|G (Yi Z)<|G (bC (cs:= #[J (0),J ((bw co.a a.name).2.2.1),.slice none 0 0]) iV dn N)<|bA H 3 (#[J (0),J ((bw co.a a.name).2.2.1),.slice none 0 0]) aL Z Z Z Z Z N N fun w18 H=>U<|Zt ?_
 have H7:=H.forget (L':=(nq,_)::(nl,_)::(bb,_)::(gP,_)::(gS,_)::(La++(Lb++K))) (.cons_cons _ (.cons_cons _ ((au _).trans (.trans (.cons_cons _ (.cons_cons _ (.cons_cons _ (.cons _ (.cons _ (au _)))))) (bZ [(b5,_),(b4,_),(b3,_)] _))))) (fun _ h=>h)
 have hm7:(sns.set i (⟨a.name,(bw co.a a.name).2.1,(bw co.a a.name).2.2.1,false,aq ps.length 0,some ⟨nq,0,none⟩,c74,aq ps.length jP,some ⟨nl,0,none⟩,c81⟩:Sn)).map Sn.a=(sns.map Sn.a).set i (rh a.name (bw co.a a.name).2.1 (bw co.a a.name).2.2.1 ps.length):=by rw[cU];rfl
 replace H7:=H7.perm (gj [(bb,_),(gP,_),(gS,_)] [(nq,_),(nl,_)] _)
 exact eW (cs0:= #[J (0),J ((bw co.a a.name).2.2.1),.slice none 0 0]) Z aK Z (H.ent (i:=3) Z) Z ⟨⟨ps,some ⟨gP,0,none⟩,pC,c3,lo,hi,gr,glo,ghi,sns.set i ⟨a.name,(bw co.a a.name).2.1,(bw co.a a.name).2.2.1,false,aq ps.length 0,some ⟨nq,0,none⟩,c74,aq ps.length jP,some ⟨nl,0,none⟩,c81⟩,some ⟨gS,0,none⟩,snC⟩,by rw[Dn hix hok3];exact pn.plain _ _ _,by rw[Dn hix hok3,<-hac3];show Wa.mk _ _ _ ((sns.set i ⟨a.name,(bw co.a a.name).2.1,(bw co.a a.name).2.2.1,false,aq ps.length 0,some ⟨nq,0,none⟩,c74,aq ps.length jP,some ⟨nl,0,none⟩,c81⟩).map Sn.a)=Wa.mk _ _ _ _;rw[hm7];rfl,Bw.close (X:=[]) row row15 hset Z Z rowq9 rowl9 (az ..) (ai _ hgr) (fun q hq=>ai _ (hps q hq)) (fun f hf=>ai _ hf) H7 (by simp only[Bk.c,ae])⟩
theorem MI {c:Co} (h:gU c=true) {t:Tx} (ht:t∈c.txs): ∃ i,fY c t.name=some (i,t):=by
 obtain⟨-,-,h3⟩:=gb.1 h
 obtain⟨i,hi⟩:=aN.1 ht
 obtain⟨hl,he⟩:=cy hi
 have:(c.txs.findIdx? fun p=>decide (p.name=t.name))=some i:=by
  rw[aP]
  refine⟨hl,by rw[he];simp,fun j hj=> ?_⟩
  unfold v7 at h3
  rw[jD,nc]at h3
  have:=(h3 j i I hl hj).1
  rw[he]at this
  simpa using this
 exact⟨i,by unfold fY;rw[this];simp[hi]⟩
theorem yo {c:Co} (h:gU c=true) {n:Nat} {t:Tx} (ht:ij c.txs n=some t):(∃ i,fY c t.name=some (i,t))/\(t.state=3∨t.state=4)/\t.parts.headD 0∈t.parts/\0<=t.parts.headD 0/\t.parts.headD 0<4:=by
 unfold ij at ht
 obtain⟨hm,he⟩:=lj.1 (ab ht)
 have hs:t.state=3∨t.state=4:=by unfold hM at he;simpa using he
 have hx:=cd.1 ((gb.1 h).2.1 t hm)
 have hp:t.parts.headD 0∈t.parts:=by
  cases hp:t.parts with
  |nil=>have:=hx.2.2.2.2.2.2.2.2.2.2.2 (by rw[hp];rfl);omega
  |cons a l=>simp
 exact⟨MI h hm,hs,hp,by have:=(fV hx.2.2.2.2.2.2.2.2.2.1).2 _ hp;omega⟩
theorem BE {c:Co} {s:ByteArray} {p:Int} {i:Nat} {t:Tx} (hf:fY c s=some (i,t)) (h34:t.state=3∨t.state=4) (hp:p∈t.parts):(oU c s p).2=0:=by
 unfold oU
 rw[hf]
 dsimp only
 rw[if_pos h34,if_pos hp]
theorem Hl {w:Wa} {a:Act} (h:ij w.co.txs a.n.toNat=none):nw w a=kf w 15:=by
 unfold nw
 rw[h]
theorem Ml {w:Wa} {a:Act} {t:Tx} {n:Nat} {p:f3} (h:ij w.co.txs a.n.toNat=some t) (hn:t.parts.headD 0=(n:Nat)) (hp:w.ps[n]? =some p):nw w a=if(eu p (de t)).2.2=0 then({w with ps:=w.ps.set n (eu p (de t)).1,co:=(oU w.co t.name (t.parts.headD 0)).1},⟨0,(eu p (de t)).2.1,[]⟩)else kf w (eu p (de t)).2.2:=by
 unfold nw
 rw[h]
 dsimp only
 rw[show(t.parts.headD 0).toNat=n by omega,Iz hp]
 split
 rename_i h0
 rw[if_pos (by rfl)]
 rename_i h0
 rw[if_neg (show¬ (kf w (eu p (de t)).2.2).2.code=0 from h0)]
theorem JW {w:Wa} {a:Act} {t:Tx} {n:Nat} (h:ij w.co.txs a.n.toNat=some t) (hn:t.parts.headD 0=(n:Nat)) (hp:w.ps[n]? =none):nw w a=kf w 5:=by
 unfold nw lk
 rw[h]
 dsimp only
 rw[show(t.parts.headD 0).toNat=n by omega,hp]
 dsimp only
 rw[if_neg (by show¬ (5:Int)=0;decide)]
theorem JV {w0 w:World} {bb:Nat} {b:Bk} {gP:Nat} {uP:Array Value} {Ls Lo K:List (Nat×Obj)} {F:List ce} (a:Act) (B:Bw w0 w bb b gP uP Ls Lo K F) {k:Nat} (hcb:pi k b.co) (hn:0<=a.n/\a.n<=1000) (hne:ij b.co.a.txs a.n.toNat=none):dt aa kr [.pointer (Qd bb),a.v] w fun v w2=> ∃ b':Bk,pn (nw b.a a).2 v w2/\b'.a=(nw b.a a).1/\xU w0 w2 bb b' K F:=by
 refine aG ny Z Z ?_
 have hsp:=Hl (w:=b.a) hne
 obtain⟨ps,pA,pC,co,clo,chi,gr,glo,ghi,sns,snA,snC⟩:=b
 obtain⟨hpA,row,hsn,hown,hco,hgr,hps,H⟩:=B
 dsimp only at hpA row hsn hown hco hgr hps
 subst hpA
 replace H:Hp w0 w ((bb,.cells #[.slice (Qd gP) ps.length pC,J (co.clock),J (co.next),J (co.wait),.slice co.A co.txs.length co.cap,J (gr.clock),J (gr.wait),J (gr.gen),.slice gr.mA gr.ms.length gr.mC,.slice gr.oA gr.os.length gr.oC,.slice snA sns.length snC] bE (0,0))::(gP,.cells uP bI (0,0))::(Ls++(Lo++K))) F:=H
 dsimp only at hcb hne
 obtain⟨m,hnm⟩: ∃ m:Nat,a.n=(m:Int):=⟨a.n.toNat,by omega⟩
 have htm:a.n.toNat=m:=by omega
 rw[htm]at hne
 show CW _ _ _ _ (args [.pointer (Qd bb),.agg #[J (a.kind),.string (a.name),J (a.part),J (a.n),J (a.m),.string (a.text),J (a.lost)]]) w
 refine W<|Zr<|gY H Z Z fun w1 b3 H=>fc H dn Z fun w2 b4 H=>U<|W ?_
 refine bL cD [0,1,2,3,4,5,6,7,8,9,10,11,12,13,14,15] [16,17] [7,13] [0,1,2,3,5,8,9,10,11,12,14,15] (sp [(7,Sp.one (y5 none)),(13,Sp.blk w2.heap.size (.agg #[J 0,J 0,J 0,J 0,J 0,.bool false,.string ⟨#[]⟩]) dA)]) N N N N Nq (cQ _) ?_
 refine aw Z Z Z Z Z (fun w' hw'=>Yp Z)<|aw Z Z Z Z Z (fun w' hw'=>aH Z)<|aw Z Z Z Z Z (fun w' hw'=>Zf aS Z)<|aw Z Z Z Z Z (fun w' hw'=>Zf eO Z)<|aw Z Z Z Z Z (fun w' hw'=>j9 1 [J (co.clock),J (co.next),J (co.wait),.slice co.A co.txs.length co.cap] ax Z Z ((H.later hw').ent (i:=2) Z) Z)<|aw Z Z Z Z Z (fun w' hw'=>Zf gp Z)<|aw Z Z Z Z Z (fun w' hw'=>bi am Z (aJ ((H.later hw').ent (i:=1) Z) Z))<|qJ vT Z Z Z Z Z (fun w' hw'=>(by have hA:=FC co m w' (Hp.coM (H.later hw') hco) hcb.ok I;rw[show ij co.a.txs m=_ from hne,<-hnm]at hA;exact hA)) Z<|aw Z Z Z Z Z (fun w' hw'=>Yu Z)<|aw Z Z Z Z Z (fun w' hw'=>O5 Z Z)<|aw Z Z Z Z Z (fun w' hw'=>Xi Z Z)<|aw Z Z Z Z Z (fun w' hw'=>Xa Z Z)<|aw Z Z Z Z Z (fun w' hw'=>Xi Z Z)<|yP gB Z Z Z Z Z (fun w' hw'=>hw'.size) fun b7=>aw Z Z Z Z Z (fun w' hw'=>Wt Z)<|aw Z Z Z Z Z (fun w' hw'=>Wi Z)<|aU ?_
 intro w3 hw' hF
 obtain⟨hF,bq,eq,hge7,hbl7⟩:=hF;cases eq
 obtain⟨hF,-⟩:=hF
 have Hb:=H
 replace H:=H.adoptNew hw' hbl7 hge7
 clear hw' hF
 refine bA H 0 (#[J (0),J (0),J (0),J (0),J (0),.bool (false),.string (⟨#[]⟩)]) fa Z Z Z Z Z N N fun w4 H=>G (Wi Z)<|U<|W<|W<|Zr<|G (Yi Z)<|G (lN Z Z (by decide))<|U<|ZT Z<|W<|Zr<|G (Yi Z)<|cu bH (dS 15 _) Z Z ?_
 rintro _ w5 ⟨rfl,hb⟩;replace H:=H.later hb;clear hb
 refine bA H 1 (#[J (15),J (0),.slice none 0 0]) aL Z Z Z Z Z N N fun w6 H=>U<|Zt ?_
 exact eW (cs0:= #[J (15),J (0),.slice none 0 0]) Z aK Z (H.ent (i:=1) Z) Z ⟨⟨ps,some ⟨gP,0,none⟩,pC,co,clo,chi,gr,glo,ghi,sns,snA,snC⟩,by rw[hsp];exact pn.plain _ _ _,by rw[hsp];rfl,Bw.shut (X:=[(b7,_),(b4,_),(b3,_)]) row hsn hown hco hgr hps (fun _ h=>h) H Z⟩
theorem JU {w0 w:World} {bb:Nat} {b:Bk} {gP:Nat} {uP:Array Value} {Ls Lo K:List (Nat×Obj)} {F:List ce} (a:Act) (B:Bw w0 w bb b gP uP Ls Lo K F) {k:Nat} (hcb:pi k b.co) (hn:0<=a.n/\a.n<=1000) (hpk: ∀ q∈b.ps,q.p.a.ok/\ ∀ (l:Nat) (y:gm),q.p.leader=l->q.p.reps[l]? =some y->y.es.length<400) {t:Tx} (hne:ij b.co.a.txs a.n.toNat=some t):dt aa kr [.pointer (Qd bb),a.v] w fun v w2=> ∃ b':Bk,pn (nw b.a a).2 v w2/\b'.a=(nw b.a a).1/\xU w0 w2 bb b' K F:=by
 refine aG ny Z Z ?_
 have hne0:ij b.a.co.txs a.n.toNat=some t:=hne
 obtain⟨⟨ti,hf⟩,h34,hpt,hp0,hp4⟩:=yo hcb.a.ok hne
 have hnmt:=(cd.1 (hcb.a.at_ (gw hf).2.1)).1
 obtain⟨n,hpn⟩: ∃ n:Nat,t.parts.headD 0=(n:Int):=⟨(t.parts.headD 0).toNat,by omega⟩
 have hn4:n<4:=by omega
 have hout:decide (0<=t.parts.headD 0/\t.parts.headD 0<(b.ps.length:Int))=false->nw b.a a=kf b.a 5:=fun h=>JW hne0 hpn (by rw[show b.a.ps=b.ps.map fun q=>q.p.a from rfl,aI,bX (by have:=of_decide_eq_false h;omega)];rfl)
 obtain⟨ps,pA,pC,co,clo,chi,gr,glo,ghi,sns,snA,snC⟩:=b
 obtain⟨hpA,row,hsn,hown,hco,hgr,hps,H⟩:=B
 dsimp only at hpA row hsn hown hco hgr hps
 subst hpA
 replace H:Hp w0 w ((bb,.cells #[.slice (Qd gP) ps.length pC,J (co.clock),J (co.next),J (co.wait),.slice co.A co.txs.length co.cap,J (gr.clock),J (gr.wait),J (gr.gen),.slice gr.mA gr.ms.length gr.mC,.slice gr.oA gr.os.length gr.oC,.slice snA sns.length snC] bE (0,0))::(gP,.cells uP bI (0,0))::(Ls++(Lo++K))) F:=H
 dsimp only at hcb hne hf hpk hout
 obtain⟨m,hnm⟩: ∃ m:Nat,a.n=(m:Int):=⟨a.n.toNat,by omega⟩
 have htm:a.n.toNat=m:=by omega
 rw[htm]at hne
 show CW _ _ _ _ (args [.pointer (Qd bb),.agg #[J (a.kind),.string (a.name),J (a.part),J (a.n),J (a.m),.string (a.text),J (a.lost)]]) w
 refine W<|Zr<|gY H Z Z fun w1 b3 H=>fc H dn Z fun w2 b4 H=>U<|W ?_
 refine bL cD [0,1,2,3,4,5,6,7,8,9,10,11,12,13,14,15] [16,17] [7,13] [0,1,2,3,5,8,9,10,11,12,14,15] (sp [(7,Sp.one (y5 (some t))),(13,Sp.blk w2.heap.size (.agg #[J 0,J 0,J 0,J 0,J 0,.bool false,.string ⟨#[]⟩]) dA)]) N N N N Nq (cQ _) ?_
 refine aw Z Z Z Z Z (fun w' hw'=>Yp Z)<|aw Z Z Z Z Z (fun w' hw'=>aH Z)<|aw Z Z Z Z Z (fun w' hw'=>Zf aS Z)<|aw Z Z Z Z Z (fun w' hw'=>Zf eO Z)<|aw Z Z Z Z Z (fun w' hw'=>j9 1 [J (co.clock),J (co.next),J (co.wait),.slice co.A co.txs.length co.cap] ax Z Z ((H.later hw').ent (i:=2) Z) Z)<|aw Z Z Z Z Z (fun w' hw'=>Zf gp Z)<|aw Z Z Z Z Z (fun w' hw'=>bi am Z (aJ ((H.later hw').ent (i:=1) Z) Z))<|qJ vT Z Z Z Z Z (fun w' hw'=>(by have hA:=FC co m w' (Hp.coM (H.later hw') hco) hcb.ok I;rw[show ij co.a.txs m=_ from hne,<-hnm]at hA;exact hA)) Z<|aw Z Z Z Z Z (fun w' hw'=>Yu Z)<|aw Z Z Z Z Z (fun w' hw'=>O5 Z Z)<|aw Z Z Z Z Z (fun w' hw'=>Xi Z Z)<|aw Z Z Z Z Z (fun w' hw'=>Xa Z Z)<|aw Z Z Z Z Z (fun w' hw'=>Xi Z Z)<|yP gB Z Z Z Z Z (fun w' hw'=>hw'.size) fun b7=>aw Z Z Z Z Z (fun w' hw'=>Wt Z)<|aw Z Z Z Z Z (fun w' hw'=>Wi Z)<|aU ?_
 intro w3 hw' hF
 obtain⟨hF,bq,eq,hge7,hbl7⟩:=hF;cases eq
 obtain⟨hF,-⟩:=hF
 have Hb:=H
 replace H:=H.adoptNew hw' hbl7 hge7
 clear hw' hF
 refine bA H 0 (#[J ((de t).epoch),J ((de t).pid),J ((de t).ver),J ((de t).seq),J ((de t).kind),.bool ((de t).txn),.string ((de t).text)]) fa Z Z Z Z Z N N fun w4 H=>G (Wi Z)<|U<|W<|W<|Zr<|G (Yi Z)<|G (cv Z Z (by decide))<|U<|ZF Z<|Zk<|W<|W<|Zr<|G (Yp Z)<|G (Yi Z)<|cu d8 (oz bb ⟨ps,some ⟨gP,0,none⟩,pC,co,clo,chi,gr,glo,ghi,sns,snA,snC⟩ (t.parts.headD 0) _ (H.ent (i:=3) Z)) Z Z ?_
 rintro _ w5 ⟨rfl,hb⟩;replace H:=H.later hb;clear hb
 refine nK 30 Z (fun h30=> ?_) (fun h30=> ?_)
 have hnp:n<ps.length:=by have:=of_decide_eq_true h30;dsimp only at this;omega
 obtain⟨q,hq⟩: ∃ q,ps[n]? =some q:=⟨_,aj hnp⟩
 have hqm:=ab hq
 have hsp:=Ml hne0 hpn (p:=q.p.a) (by show(ps.map fun q=>q.p.a)[n]? =_;rw[aI,hq];rfl)
 refine G (ee Z)<|U<|ZF Z<|Zk<|W ?_
 refine ft (τ:=Pa×Nat×Nat×Nat) [8,9,10,33,34,35,36,37,38,39,40,41,42,43,44,45,46] (fun(_,b9,_,_)=>[(9,.pointer (Qd b9)),(10,J (eu q.p.a (de t)).2.1),(8,J (eu q.p.a (de t)).2.2)]) (fun(p2,b9,lo,hi) w'=>p2.a=(eu q.p.a (de t)).1/\Hp w0 w' ((b9,.cells #[J (p2.epoch),J (p2.leader),.slice p2.iA p2.isr.length p2.iC,.slice p2.kA p2.known.length p2.kC,.slice p2.rA p2.reps.length p2.rC,J (p2.few),J (p2.base)] bI (0,0))::(b7,.cells #[J ((de t).epoch),J ((de t).pid),J ((de t).ver),J ((de t).seq),J ((de t).kind),.bool ((de t).txn),.string ((de t).text)] dA (0,0))::(b4,.cells #[J (0),J (0),.slice none 0 0] eh (0,0))::(b3,.cells #[J (a.kind),.string (a.name),J (a.part),J (a.n),J (a.m),.string (a.text),J (a.lost)] jl (0,0))::(bb,.cells #[.slice (Qd gP) ps.length pC,J (co.clock),J (co.next),J (co.wait),.slice co.A co.txs.length co.cap,J (gr.clock),J (gr.wait),J (gr.gen),.slice gr.mA gr.ms.length gr.mC,.slice gr.oA gr.os.length gr.oC,.slice snA sns.length snC] bE (0,0))::(gP,.cells uP bI (0,0))::(Ls++(Lo++K))) (wM w0 lo hi p2::F)) ?_ ?_
 refine oV cD 14 9 [9,10,11,12,13,15,16,17] [14] [0,1,2,3,5,6] [14,15,16,17] [9] [0,1,2,3,5,6,10,11,12,13] (sp [(14,Sp.blk w5.heap.size (.agg #[J 0,J 0,.slice none 0 0,.slice none 0 0,.slice none 0 0,J 0,J 0]) bI)]) (sp [(9,Sp.deep w5.heap.size QT (fun p:Pa=>p.c.toArray) (fun cs=> .tuple #[.agg cs,J (eu q.p.a (de t)).2.1,J (eu q.p.a (de t)).2.2]) (fun cq:Pa=>cq.a=(eu q.p.a (de t)).1))]) N N N N (cQ _) (cQ _) ?_ ?_
 refine jN [0,1,2,3,4,5,6,7,8,14] [9,10,11,12,13,15,16,17] [14] [0,1,2,3,5,6] 7 (sp [(14,Sp.blk w5.heap.size (.agg #[J 0,J 0,.slice none 0 0,.slice none 0 0,.slice none 0 0,J 0,J 0]) bI)]) N N N Nq<|aw Z Z Z Z Z (fun w' hw'=>Yp Z)<|aw Z Z Z Z Z (fun w' hw'=>aH Z)<|aw Z Z Z Z Z (fun w' hw'=>Zf aS Z)<|aw Z Z Z Z Z (fun w' hw'=>Zf dL Z)<|aw Z Z Z Z Z (fun w' hw'=>bi eA Z (aJ ((H.later hw').ent (i:=3) Z) Z))<|aw Z Z Z Z Z (fun w' hw'=>Yi Z)<|aw Z Z Z Z Z (fun w' hw'=>cR (k:=n) iE Z (congrArg (Value.int .i64) hpn) (by first|omega|(simp only[ae];omega)))<|aw Z Z Z Z Z (fun w' hw'=>pq bo row hq Z Z ((H.later hw').ent (i:=4) Z))<|aw Z Z Z Z Z (fun w' hw'=>jR dJ Z ((H.later hw').ent (i:=0) Z) Z)<|yP bR Z Z Z Z Z (fun w' hw'=>hw'.size) fun b9=>aU ?_
 intro w6 hw' hF
 obtain⟨hF,bq,eq,hge9,hbl9⟩:=hF;cases eq
 replace H:=H.adoptNew hw' hbl9 hge9
 clear hw' hF
 refine df 9 N Z<|cu rB (zQ q.p (de t) _ (Hp.paM H (hps q hqm)) (hpk q hqm).1 (hpk q hqm).2) Z Z ?_
 rintro _ w7 ⟨p2,rfl,hap2,hnp2⟩;replace H:=H.learn hnp2.2 (wM w0 w6.heap.size w7.heap.size p2) ⟨H.size,hnp2.1⟩ (ao _) (ao _);clear hnp2
 refine U<|br 10 N N N Z Z Z Z Nq (fun _=>Yu Z)<|br 11 N N N Z Z Z Z Nq (fun _=>Xa Z Z)<|br 12 N N N Z Z Z Z Nq (fun _=>Xi Z Z)<|br 13 N N N Z Z Z Z Nq (fun _=>Xi Z Z)<|df 15 N Z<|bA H 0 (#[J (p2.epoch),J (p2.leader),.slice p2.iA p2.isr.length p2.iC,.slice p2.kA p2.known.length p2.kC,.slice p2.rA p2.reps.length p2.rC,J (p2.few),J (p2.base)]) bl Z Z Z Z Z N N fun w8 H=>U<|br 16 N N N Z Z Z Z Nq (fun _=>Wi Z)<|br 17 N N N Z Z Z Z Nq (fun _=>Wi Z)<|cj N ?_
 exact⟨(p2,b9,_,_),⟨hap2,H⟩,Ly Z Z Z,Qg⟩
 refine jN [0,1,2,3,4,5,6,7,8,9,10,11,12,13] [14,15,16,17] [9] [0,1,2,3,5,6,10,11,12,13] 3 (sp [(9,Sp.deep w5.heap.size QT (fun p:Pa=>p.c.toArray) (fun cs=> .tuple #[.agg cs,J (eu q.p.a (de t)).2.1,J (eu q.p.a (de t)).2.2]) (fun cq:Pa=>cq.a=(eu q.p.a (de t)).1))]) N N N Nq<|aw Z Z Z Z Z (fun w' hw'=>Yp Z)<|aw Z Z Z Z Z (fun w' hw'=>aH Z)<|aw Z Z Z Z Z (fun w' hw'=>Zf aS Z)<|aw Z Z Z Z Z (fun w' hw'=>Zf dL Z)<|aw Z Z Z Z Z (fun w' hw'=>bi eA Z (aJ ((H.later hw').ent (i:=3) Z) Z))<|aw Z Z Z Z Z (fun w' hw'=>Yi Z)<|aw Z Z Z Z Z (fun w' hw'=>cR (k:=n) iE Z (congrArg (Value.int .i64) hpn) (by first|omega|(simp only[ae];omega)))<|aw Z Z Z Z Z (fun w' hw'=>pq bo row hq Z Z ((H.later hw').ent (i:=4) Z))<|aw Z Z Z Z Z (fun w' hw'=>jR dJ Z ((H.later hw').ent (i:=0) Z) Z)<|tK (gv:=(fun cs=> .tuple #[.agg cs,J (eu q.p.a (de t)).2.1,J (eu q.p.a (de t)).2.2])) rB Z Z Z Z Z (fun w' hw'=>hw'.size) (fun w' hw'=>zQ q.p (de t) w' (Hp.paM (H.later hw') (hps q hqm)) (hpk q hqm).1 (hpk q hqm).2) Z fun cs43=>aw Z Z Z Z Z (fun w' hw'=>Yu Z)<|aw Z Z Z Z Z (fun w' hw'=>Xa Z Z)<|aw Z Z Z Z Z (fun w' hw'=>Xi Z Z)<|aw Z Z Z Z Z (fun w' hw'=>Xi Z Z)<|aU ?_
 intro w9 hw' hF
 obtain⟨hF,p2,eq,hap2,hrd43⟩:=hF;cases eq
 replace H:=H.learn hw' (wM w0 w5.heap.size w9.heap.size p2) ⟨H.size,hrd43⟩ (ao _) (ao _)
 clear hw' hF
 refine df 14 N Z<|fc H bR Z fun w10 b9 H=>U<|df 15 N Z<|bA H 0 (#[J (p2.epoch),J (p2.leader),.slice p2.iA p2.isr.length p2.iC,.slice p2.kA p2.known.length p2.kC,.slice p2.rA p2.reps.length p2.rC,J (p2.few),J (p2.base)]) bl Z Z Z Z Z N N fun w11 H=>U<|br 16 N N N Z Z Z Z Nq (fun _=>Wi Z)<|br 17 N N N Z Z Z Z Nq (fun _=>Wi Z)<|cj N ?_
 exact⟨(p2,b9,_,_),⟨hap2,H⟩,Ly Z Z Z,Qg⟩
 rintro⟨p2,b9,lo,hi⟩ ρ1 w12 ⟨hap2,H⟩
 show CW _ _ _ _ (dK (ia _ _ ρ1) [(9,.pointer (Qd b9)),(10,J (eu q.p.a (de t)).2.1),(8,J (eu q.p.a (de t)).2.2)]) w12
 refine W<|W<|Zr<|G (Yi Z) ?_
 refine rM (jk Z Z) Z Z Z (fun h48=> ?_) (fun h48=> ?_)
 refine U<|ZT Z<|W<|Zr<|G (Yi Z)<|cu bH (dS (eu q.p.a (de t)).2.2 _) Z Z ?_
 rintro _ w13 ⟨rfl,hb⟩;replace H:=H.later hb;clear hb
 refine bA H 2 (#[J ((eu q.p.a (de t)).2.2),J (0),.slice none 0 0]) aL Z Z Z Z Z N N fun w14 H=>U<|Zt ?_
 exact eW (cs0:= #[J ((eu q.p.a (de t)).2.2),J (0),.slice none 0 0]) Z aK Z (H.ent (i:=2) Z) Z ⟨⟨ps,some ⟨gP,0,none⟩,pC,co,clo,chi,gr,glo,ghi,sns,snA,snC⟩,by rw[hsp,if_neg h48];exact pn.plain _ _ _,by rw[hsp,if_neg h48];rfl,Bw.shut (X:=[(b9,_),(b7,_),(b4,_),(b3,_)]) row hsn hown (ai _ hco) (ai _ hgr) (fun q hq=>ai _ (hps q hq)) (fun f hf=>ai _ hf) H Z⟩
 refine U<|ZF Z<|Zk<|W ?_
 refine bL cD [0,1,2,3,4,5,6,7] [8] [] [0,1,2,3,5,7] (sp []) N N N N Nq (cQ _) ?_
 refine aw Z Z Z Z Z (fun w' hw'=>Yp Z)<|aw Z Z Z Z Z (fun w' hw'=>aH Z)<|aw Z Z Z Z Z (fun w' hw'=>Zf aS Z)<|aw Z Z Z Z Z (fun w' hw'=>Zf dL Z)<|aw Z Z Z Z Z (fun w' hw'=>bi eA Z (aJ ((H.later hw').ent (i:=4) Z) Z))<|aw Z Z Z Z Z (fun w' hw'=>Yi Z)<|aw Z Z Z Z Z (fun w' hw'=>jR bo Z ((H.later hw').ent (i:=0) Z) Z)<|aw Z Z Z Z Z (fun w' hw'=>cR (k:=n) iE Z (congrArg (Value.int .i64) hpn) (by first|omega|(simp only[ae];omega)))<|aU ?_
 intro w15 hw' hF
 replace H:=H.later hw';clear hw' hF
 refine ni H 5 (⟨p2,lo,hi⟩) bl row hq 0 Z Z Z Z Z Z N fun w17 cur16 row16 H=> ?_
 have hs18:(ps.set n (⟨p2,lo,hi⟩))[n]? =some (⟨p2,lo,hi⟩):=al (cy hq).1
 refine U<|W<|Zr<|G (Yp Z)<|G (Yp Z)<|G (aH Z)<|G (Zf aS Z)<|G (Zf eO Z)<|G (j9 1 [J (co.clock),J (co.next),J (co.wait),.slice co.A co.txs.length co.cap] ax Z Z (H.ent (i:=4) Z) Z)<|G (Yt Z)<|G (Yi Z)<|cu CK (Ko co t.name (t.parts.headD 0) k ti t _ (Hp.coM H (ai _ hco)) hcb hnmt hf h34 hpt) Z Z ?_
 rintro _ w19 ⟨c4,rfl,hac4,hnc4⟩;replace H:=H.learn hnc4.2 (xT w0 w17.heap.size w19.heap.size c4) ⟨H.size,hnc4.1⟩ (ao _) (ao _);clear hnc4
 refine G (Yu Z)<|G (Xa Z Z)<|G (Xi Z Z)<|G (aH Z)<|G (Zf aS Z)<|G (Zf eO Z)<|bA H 4 (#[.slice (Qd gP) ps.length pC,J (c4.clock),J (c4.next),J (c4.wait),.slice c4.A c4.txs.length c4.cap,J (gr.clock),J (gr.wait),J (gr.gen),.slice gr.mA gr.ms.length gr.mC,.slice gr.oA gr.os.length gr.oC,.slice snA sns.length snC]) aF Z Z Z Z Z N N fun w20 H=>U<|W<|Zr<|G (Yi Z)<|G (bC (cs:= #[J (0),J ((eu q.p.a (de t)).2.1),.slice none 0 0]) iV dn N)<|bA H 2 (#[J (0),J ((eu q.p.a (de t)).2.1),.slice none 0 0]) aL Z Z Z Z Z N N fun w21 H=>U<|Zt ?_
 have hz:(eu q.p.a (de t)).2.2=0:=by simpa using h48
 exact eW (cs0:= #[J (0),J ((eu q.p.a (de t)).2.1),.slice none 0 0]) Z aK Z (H.ent (i:=2) Z) Z ⟨⟨ps.set n ⟨p2,lo,hi⟩,some ⟨gP,0,none⟩,pC,c4,w17.heap.size,w19.heap.size,gr,glo,ghi,sns,snA,snC⟩,by rw[hsp,if_pos hz];exact pn.plain _ _ _,by rw[hsp,if_pos hz];unfold Bk.a;simp only[cU,hap2,hac4],Bw.shut (X:=[(b9,_),(b7,_),(b4,_),(b3,_)]) row16 hsn hown (az ..) (ai _ (ai _ hgr)) (fun y hy=>by rcases AG hy with hy|hy;exact ai _ (ai _ (hps y hy));rw[hy];exact ai _ (az ..)) (fun f hf=>ai _ (ai _ hf)) H (by simp only[Bk.c,ae])⟩
 refine G (ee Z)<|U<|ZT Z<|W<|Zr<|cu bH (dS 5 _) Z Z ?_
 rintro _ w22 ⟨rfl,hb⟩;replace H:=H.later hb;clear hb
 refine bA H 1 (#[J (5),J (0),.slice none 0 0]) aL Z Z Z Z Z N N fun w23 H=>U<|Zt ?_
 exact eW (cs0:= #[J (5),J (0),.slice none 0 0]) Z aK Z (H.ent (i:=1) Z) Z ⟨⟨ps,some ⟨gP,0,none⟩,pC,co,clo,chi,gr,glo,ghi,sns,snA,snC⟩,by rw[hout h30];exact pn.plain _ _ _,by rw[hout h30];rfl,Bw.shut (X:=[(b7,_),(b4,_),(b3,_)]) row hsn hown hco hgr hps (fun _ h=>h) H Z⟩
theorem K6 (b:Bk) (a:Act):wV b.a a=({b.a with co:=(ip b.co.a a.n).1,gr:=ql b.gr.a a.n b.ps.length},⟨0,(ip b.co.a a.n).1.clock,[]⟩):=by
 unfold wV
 rw[show b.a.ps.length=b.ps.length by show(b.ps.map _).length=_;rw[bc]]
 rfl
theorem K4 {w0 w:World} {bb:Nat} {b:Bk} {gP:Nat} {uP:Array Value} {Ls Lo K:List (Nat×Obj)} {F:List ce} (a:Act) (B:Bw w0 w bb b gP uP Ls Lo K F) {k np:Nat} {wt:Int} (hcb:pi k b.co) (hk:k<=1000) (hn:0<=a.n/\a.n<=1000) (hgi:rH (fun _=>True) wt np k b.gr) (hp4:b.ps.length<=4):dt aa oJ [.pointer (Qd bb),a.v] w fun v w2=> ∃ b':Bk,pn (wV b.a a).2 v w2/\b'.a=(wV b.a a).1/\xU w0 w2 bb b' K F:=by
 refine aG ue Z Z ?_
 have hsp:=K6 b a
 obtain⟨ps,pA,pC,co,clo,chi,gr,glo,ghi,sns,snA,snC⟩:=b
 obtain⟨hpA,row,hsn,hown,hco,hgr,hps,H⟩:=B
 dsimp only at hpA row hsn hown hco hgr hps
 subst hpA
 replace H:Hp w0 w ((bb,.cells #[.slice (Qd gP) ps.length pC,J (co.clock),J (co.next),J (co.wait),.slice co.A co.txs.length co.cap,J (gr.clock),J (gr.wait),J (gr.gen),.slice gr.mA gr.ms.length gr.mC,.slice gr.oA gr.os.length gr.oC,.slice snA sns.length snC] bE (0,0))::(gP,.cells uP bI (0,0))::(Ls++(Lo++K))) F:=H
 dsimp only at hcb hgi hp4 hsp
 have h2z:(ip co.a a.n).2=0:=by unfold ip;rw[if_neg I]
 show CW _ _ _ _ (args [.pointer (Qd bb),.agg #[J (a.kind),.string (a.name),J (a.part),J (a.n),J (a.m),.string (a.text),J (a.lost)]]) w
 refine W<|Zr<|gY H Z Z fun w1 b3 H=>fc H dn Z fun w2 b4 H=>U<|W ?_
 refine ft (τ:=Co×Nat×Nat×Nat) [5,6,8,9,10,11,12,13,14,15,16,17,18] (fun(_,b5,_,_)=>[(5,.pointer (Qd b5)),(6,J (ip co.a a.n).2)]) (fun(c3,b5,lo,hi) w'=>c3.a=(ip co.a a.n).1/\Hp w0 w' ((b5,.cells #[J (c3.clock),J (c3.next),J (c3.wait),.slice c3.A c3.txs.length c3.cap] aX (0,0))::(b4,.cells #[J (0),J (0),.slice none 0 0] eh (0,0))::(b3,.cells #[J (a.kind),.string (a.name),J (a.part),J (a.n),J (a.m),.string (a.text),J (a.lost)] jl (0,0))::(bb,.cells #[.slice (Qd gP) ps.length pC,J (co.clock),J (co.next),J (co.wait),.slice co.A co.txs.length co.cap,J (gr.clock),J (gr.wait),J (gr.gen),.slice gr.mA gr.ms.length gr.mC,.slice gr.oA gr.os.length gr.oC,.slice snA sns.length snC] bE (0,0))::(gP,.cells uP bI (0,0))::(Ls++(Lo++K))) (xT w0 lo hi c3::F)) ?_ ?_
 refine oV cD 11 7 [7,8,9,10,12,13] [11] [0,1,2,3,5] [11,12,13] [7] [0,1,2,3,5,8,9,10] (sp [(11,Sp.blk w2.heap.size (.agg #[J 0,J 0,J 0,.slice none 0 0]) aX)]) (sp [(7,Sp.deep w2.heap.size Ny (fun c:Co=>c.c.toArray) (fun cs=> .tuple #[.agg cs,J (ip co.a a.n).2]) (fun cq:Co=>cq.a=(ip co.a a.n).1))]) N N N N (cQ _) (cQ _) ?_ ?_
 refine jN [0,1,2,3,4,5,6,11] [7,8,9,10,12,13] [11] [0,1,2,3,5] 5 (sp [(11,Sp.blk w2.heap.size (.agg #[J 0,J 0,J 0,.slice none 0 0]) aX)]) N N N Nq<|aw Z Z Z Z Z (fun w' hw'=>Yp Z)<|aw Z Z Z Z Z (fun w' hw'=>aH Z)<|aw Z Z Z Z Z (fun w' hw'=>Zf aS Z)<|aw Z Z Z Z Z (fun w' hw'=>Zf eO Z)<|aw Z Z Z Z Z (fun w' hw'=>j9 1 [J (co.clock),J (co.next),J (co.wait),.slice co.A co.txs.length co.cap] ax Z Z ((H.later hw').ent (i:=2) Z) Z)<|aw Z Z Z Z Z (fun w' hw'=>Zf gp Z)<|aw Z Z Z Z Z (fun w' hw'=>bi am Z (aJ ((H.later hw').ent (i:=1) Z) Z))<|yP cI Z Z Z Z Z (fun w' hw'=>hw'.size) fun b5=>aU ?_
 intro w3 hw' hF
 obtain⟨hF,bq,eq,hge5,hbl5⟩:=hF;cases eq
 replace H:=H.adoptNew hw' hbl5 hge5
 clear hw' hF
 refine df 7 N Z<|cu vS (C1 co a.n k _ (Hp.coM H hco) hcb hk hn.1) Z Z ?_
 rintro _ w4 ⟨c3,rfl,hac3,hnc3⟩;replace H:=H.learn hnc3.2 (xT w0 w3.heap.size w4.heap.size c3) ⟨H.size,hnc3.1⟩ (ao _) (ao _);clear hnc3
 refine U<|br 8 N N N Z Z Z Z Nq (fun _=>Yu Z)<|br 9 N N N Z Z Z Z Nq (fun _=>Xa Z Z)<|br 10 N N N Z Z Z Z Nq (fun _=>Xi Z Z)<|df 12 N Z<|bA H 0 (#[J (c3.clock),J (c3.next),J (c3.wait),.slice c3.A c3.txs.length c3.cap]) aF Z Z Z Z Z N N fun w5 H=>U<|br 13 N N N Z Z Z Z Nq (fun _=>Wi Z)<|cj N ?_
 exact⟨(c3,b5,_,_),⟨hac3,H⟩,mK Z Z,Qg⟩
 refine jN [0,1,2,3,4,5,6,7,8,9,10] [11,12,13] [7] [0,1,2,3,5,8,9,10] 2 (sp [(7,Sp.deep w2.heap.size Ny (fun c:Co=>c.c.toArray) (fun cs=> .tuple #[.agg cs,J (ip co.a a.n).2]) (fun cq:Co=>cq.a=(ip co.a a.n).1))]) N N N Nq<|aw Z Z Z Z Z (fun w' hw'=>Yp Z)<|aw Z Z Z Z Z (fun w' hw'=>aH Z)<|aw Z Z Z Z Z (fun w' hw'=>Zf aS Z)<|aw Z Z Z Z Z (fun w' hw'=>Zf eO Z)<|aw Z Z Z Z Z (fun w' hw'=>j9 1 [J (co.clock),J (co.next),J (co.wait),.slice co.A co.txs.length co.cap] ax Z Z ((H.later hw').ent (i:=2) Z) Z)<|aw Z Z Z Z Z (fun w' hw'=>Zf gp Z)<|aw Z Z Z Z Z (fun w' hw'=>bi am Z (aJ ((H.later hw').ent (i:=1) Z) Z))<|tK (gv:=(fun cs=> .tuple #[.agg cs,J (ip co.a a.n).2])) vS Z Z Z Z Z (fun w' hw'=>hw'.size) (fun w' hw'=>C1 co a.n k w' (Hp.coM (H.later hw') hco) hcb hk hn.1) Z fun cs16=>aw Z Z Z Z Z (fun w' hw'=>Yu Z)<|aw Z Z Z Z Z (fun w' hw'=>Xa Z Z)<|aw Z Z Z Z Z (fun w' hw'=>Xi Z Z)<|aU ?_
 intro w6 hw' hF
 obtain⟨hF,c3,eq,hac3,hrd16⟩:=hF;cases eq
 replace H:=H.learn hw' (xT w0 w2.heap.size w6.heap.size c3) ⟨H.size,hrd16⟩ (ao _) (ao _)
 clear hw' hF
 refine df 11 N Z<|fc H cI Z fun w7 b5 H=>U<|df 12 N Z<|bA H 0 (#[J (c3.clock),J (c3.next),J (c3.wait),.slice c3.A c3.txs.length c3.cap]) aF Z Z Z Z Z N N fun w8 H=>U<|br 13 N N N Z Z Z Z Nq (fun _=>Wi Z)<|cj N ?_
 exact⟨(c3,b5,_,_),⟨hac3,H⟩,mK Z Z,Qg⟩
 rintro⟨c3,b5,lo,hi⟩ ρ1 w9 ⟨hac3,H⟩
 show CW _ _ _ _ (dK (ia _ _ ρ1) [(5,.pointer (Qd b5)),(6,J (ip co.a a.n).2)]) w9
 refine W<|W<|Zr<|G (Yi Z)<|G (cv Z Z I)<|U<|ZF Z<|Zk<|W ?_
 refine ft (τ:=Gr×Nat×Nat×Nat) [6,7,23,24,25,26,27,28,29,30,31,32,33,34,35,36,37,38,39] (fun(_,b7,_,_)=>[(7,.pointer (Qd b7)),(6,J 0)]) (fun(g3,b7,lo2,hi2) w'=>g3.a=((ql gr.a a.n ps.length,(0:Int))).1/\Hp w0 w' ((b7,.cells #[J (g3.clock),J (g3.wait),J (g3.gen),.slice g3.mA g3.ms.length g3.mC,.slice g3.oA g3.os.length g3.oC] cK (0,0))::(b5,.cells #[J (c3.clock),J (c3.next),J (c3.wait),.slice c3.A c3.txs.length c3.cap] aX (0,0))::(b4,.cells #[J (0),J (0),.slice none 0 0] eh (0,0))::(b3,.cells #[J (a.kind),.string (a.name),J (a.part),J (a.n),J (a.m),.string (a.text),J (a.lost)] jl (0,0))::(bb,.cells #[.slice (Qd gP) ps.length pC,J (co.clock),J (co.next),J (co.wait),.slice co.A co.txs.length co.cap,J (gr.clock),J (gr.wait),J (gr.gen),.slice gr.mA gr.ms.length gr.mC,.slice gr.oA gr.os.length gr.oC,.slice snA sns.length snC] bE (0,0))::(gP,.cells uP bI (0,0))::(Ls++(Lo++K))) (KJ w0 lo2 hi2 g3::xT w0 lo hi c3::F)) ?_ ?_
 refine oV cD 17 13 [13,14,15,16,18,19] [17] [0,1,2,3,5,7,8,9,10,12] [17,18,19] [13] [0,1,2,3,5,7,8,9,10,12,14,15,16] (sp [(17,Sp.blk w9.heap.size (.agg #[J 0,J 0,J 0,.slice none 0 0,.slice none 0 0]) cK)]) (sp [(13,Sp.deep w9.heap.size Q6 (fun g:Gr=>g.c.toArray) (fun cs=> .tuple #[.agg cs,J ((ql gr.a a.n ps.length,(0:Int))).2]) (fun cq:Gr=>cq.a=((ql gr.a a.n ps.length,(0:Int))).1))]) N N N N (cQ _) (cQ _) ?_ ?_
 refine jN [0,1,2,3,4,5,6,7,8,9,10,11,12,17] [13,14,15,16,18,19] [17] [0,1,2,3,5,7,8,9,10,12] 5 (sp [(17,Sp.blk w9.heap.size (.agg #[J 0,J 0,J 0,.slice none 0 0,.slice none 0 0]) cK)]) N N N Nq<|aw Z Z Z Z Z (fun w' hw'=>Yp Z)<|aw Z Z Z Z Z (fun w' hw'=>aH Z)<|aw Z Z Z Z Z (fun w' hw'=>Zf aS Z)<|aw Z Z Z Z Z (fun w' hw'=>Zf jL Z)<|aw Z Z Z Z Z (fun w' hw'=>j9 5 [J (gr.clock),J (gr.wait),J (gr.gen),.slice gr.mA gr.ms.length gr.mC,.slice gr.oA gr.os.length gr.oC] aO Z Z ((H.later hw').ent (i:=3) Z) Z)<|aw Z Z Z Z Z (fun w' hw'=>Zf gp Z)<|aw Z Z Z Z Z (fun w' hw'=>bi am Z (aJ ((H.later hw').ent (i:=2) Z) Z))<|aw Z Z Z Z Z (fun w' hw'=>Yp Z)<|aw Z Z Z Z Z (fun w' hw'=>aH Z)<|aw Z Z Z Z Z (fun w' hw'=>Zf aS Z)<|aw Z Z Z Z Z (fun w' hw'=>Zf dL Z)<|aw Z Z Z Z Z (fun w' hw'=>bi eA Z (aJ ((H.later hw').ent (i:=3) Z) Z))<|aw Z Z Z Z Z (fun w' hw'=>bh l8 Z)<|yP ed Z Z Z Z Z (fun w' hw'=>hw'.size) fun b7=>aU ?_
 intro w10 hw' hF
 obtain⟨hF,bq,eq,hge7,hbl7⟩:=hF;cases eq
 replace H:=H.adoptNew hw' hbl7 hge7
 clear hw' hF
 refine df 13 N Z<|cu vR (FW gr a.n ps.length _ (Hp.grM H (ai _ hgr)) hgi.ok hp4 (by have:=hgi.gen;omega) hn.1 hn.2 (by have:=hgi.clock;omega)) Z Z ?_
 rintro _ w11 ⟨g3,rfl,hag3,hng3⟩;replace H:=H.learn hng3.2 (KJ w0 w10.heap.size w11.heap.size g3) ⟨H.size,hng3.1⟩ (ao _) (ao _);clear hng3
 refine U<|br 14 N N N Z Z Z Z Nq (fun _=>Yu Z)<|br 15 N N N Z Z Z Z Nq (fun _=>Xa Z Z)<|br 16 N N N Z Z Z Z Nq (fun _=>Xi Z Z)<|df 18 N Z<|bA H 0 (#[J (g3.clock),J (g3.wait),J (g3.gen),.slice g3.mA g3.ms.length g3.mC,.slice g3.oA g3.os.length g3.oC]) bz Z Z Z Z Z N N fun w12 H=>U<|br 19 N N N Z Z Z Z Nq (fun _=>Wi Z)<|cj N ?_
 exact⟨(g3,b7,_,_),⟨hag3,H⟩,mK Z Z,Qg⟩
 refine jN [0,1,2,3,4,5,6,7,8,9,10,11,12,13,14,15,16] [17,18,19] [13] [0,1,2,3,5,7,8,9,10,12,14,15,16] 2 (sp [(13,Sp.deep w9.heap.size Q6 (fun g:Gr=>g.c.toArray) (fun cs=> .tuple #[.agg cs,J ((ql gr.a a.n ps.length,(0:Int))).2]) (fun cq:Gr=>cq.a=((ql gr.a a.n ps.length,(0:Int))).1))]) N N N Nq<|aw Z Z Z Z Z (fun w' hw'=>Yp Z)<|aw Z Z Z Z Z (fun w' hw'=>aH Z)<|aw Z Z Z Z Z (fun w' hw'=>Zf aS Z)<|aw Z Z Z Z Z (fun w' hw'=>Zf jL Z)<|aw Z Z Z Z Z (fun w' hw'=>j9 5 [J (gr.clock),J (gr.wait),J (gr.gen),.slice gr.mA gr.ms.length gr.mC,.slice gr.oA gr.os.length gr.oC] aO Z Z ((H.later hw').ent (i:=3) Z) Z)<|aw Z Z Z Z Z (fun w' hw'=>Zf gp Z)<|aw Z Z Z Z Z (fun w' hw'=>bi am Z (aJ ((H.later hw').ent (i:=2) Z) Z))<|aw Z Z Z Z Z (fun w' hw'=>Yp Z)<|aw Z Z Z Z Z (fun w' hw'=>aH Z)<|aw Z Z Z Z Z (fun w' hw'=>Zf aS Z)<|aw Z Z Z Z Z (fun w' hw'=>Zf dL Z)<|aw Z Z Z Z Z (fun w' hw'=>bi eA Z (aJ ((H.later hw').ent (i:=3) Z) Z))<|aw Z Z Z Z Z (fun w' hw'=>bh l8 Z)<|tK (gv:=(fun cs=> .tuple #[.agg cs,J ((ql gr.a a.n ps.length,(0:Int))).2])) vR Z Z Z Z Z (fun w' hw'=>hw'.size) (fun w' hw'=>FW gr a.n ps.length w' (Hp.grM (H.later hw') (ai _ hgr)) hgi.ok hp4 (by have:=hgi.gen;omega) hn.1 hn.2 (by have:=hgi.clock;omega)) Z fun cs37=>aw Z Z Z Z Z (fun w' hw'=>Yu Z)<|aw Z Z Z Z Z (fun w' hw'=>Xa Z Z)<|aw Z Z Z Z Z (fun w' hw'=>Xi Z Z)<|aU ?_
 intro w13 hw' hF
 obtain⟨hF,g3,eq,hag3,hrd37⟩:=hF;cases eq
 replace H:=H.learn hw' (KJ w0 w9.heap.size w13.heap.size g3) ⟨H.size,hrd37⟩ (ao _) (ao _)
 clear hw' hF
 refine df 17 N Z<|fc H ed Z fun w14 b7 H=>U<|df 18 N Z<|bA H 0 (#[J (g3.clock),J (g3.wait),J (g3.gen),.slice g3.mA g3.ms.length g3.mC,.slice g3.oA g3.os.length g3.oC]) bz Z Z Z Z Z N N fun w15 H=>U<|br 19 N N N Z Z Z Z Nq (fun _=>Wi Z)<|cj N ?_
 exact⟨(g3,b7,_,_),⟨hag3,H⟩,mK Z Z,Qg⟩
 rintro⟨g3,b7,lo2,hi2⟩ ρ1 w16 ⟨hag3,H⟩
 show CW _ _ _ _ (dK (ia _ _ ρ1) [(7,.pointer (Qd b7)),(6,J 0)]) w16
 refine W<|W<|Zr<|G (Yi Z)<|G (cv Z Z (by decide))<|U<|ZF Z<|Zk<|W ?_
 refine tC cD (fun w'=>w'.heap[b5]? =some (.cells #[J (c3.clock),J (c3.next),J (c3.wait),.slice c3.A c3.txs.length c3.cap] aX (0,0))/\w'.heap[b7]? =some (.cells #[J (g3.clock),J (g3.wait),J (g3.gen),.slice g3.mA g3.ms.length g3.mC,.slice g3.oA g3.os.length g3.oC] cK (0,0))) ?_
 intro w17 hw';replace H:=H.later hw';clear hw'
 refine bn 0 N N N Z Z Z Z Nq ⟨H.ent (i:=1) Z,H.ent (i:=0) Z⟩ (fun _ hS=>Yp Z)<|bn 1 N N N Z Z Z Z Nq ⟨H.ent (i:=1) Z,H.ent (i:=0) Z⟩ (fun _ hS=>Yp Z)<|bn 2 N N N Z Z Z Z Nq ⟨H.ent (i:=1) Z,H.ent (i:=0) Z⟩ (fun _ hS=>jR ax Z hS.1 Z)<|bn 3 N N N Z Z Z Z Nq ⟨H.ent (i:=1) Z,H.ent (i:=0) Z⟩ (fun _ hS=>jR aO Z hS.2 Z)<|bn 4 N N N Z Z Z Z Nq ⟨H.ent (i:=1) Z,H.ent (i:=0) Z⟩ (fun _ hS=>aH Z)<|bn 5 N N N Z Z Z Z Nq ⟨H.ent (i:=1) Z,H.ent (i:=0) Z⟩ (fun _ hS=>Zf aS Z)<|bn 6 N N N Z Z Z Z Nq ⟨H.ent (i:=1) Z,H.ent (i:=0) Z⟩ (fun _ hS=>Zf eO Z)<|z6 7 N Z<|bA H 4 (#[.slice (Qd gP) ps.length pC,J (c3.clock),J (c3.next),J (c3.wait),.slice c3.A c3.txs.length c3.cap,J (gr.clock),J (gr.wait),J (gr.gen),.slice gr.mA gr.ms.length gr.mC,.slice gr.oA gr.os.length gr.oC,.slice snA sns.length snC]) aF Z Z Z Z Z N N fun w18 H=>U ?_
 refine⟨⟨H.ent (i:=1) Z,H.ent (i:=0) Z⟩,?_⟩
 refine bn 8 N N N Z Z Z Z Nq ⟨H.ent (i:=1) Z,H.ent (i:=0) Z⟩ (fun _ hS=>aH Z)<|bn 9 N N N Z Z Z Z Nq ⟨H.ent (i:=1) Z,H.ent (i:=0) Z⟩ (fun _ hS=>Zf aS Z)<|bn 10 N N N Z Z Z Z Nq ⟨H.ent (i:=1) Z,H.ent (i:=0) Z⟩ (fun _ hS=>Zf jL Z)<|z6 11 N Z<|bA H 4 (#[.slice (Qd gP) ps.length pC,J (c3.clock),J (c3.next),J (c3.wait),.slice c3.A c3.txs.length c3.cap,J (g3.clock),J (g3.wait),J (g3.gen),.slice g3.mA g3.ms.length g3.mC,.slice g3.oA g3.os.length g3.oC,.slice snA sns.length snC]) bz Z Z Z Z Z N N fun w19 H=>U ?_
 refine⟨⟨H.ent (i:=1) Z,H.ent (i:=0) Z⟩,?_⟩
 refine rI N<|W<|Zr<|G (Zf kF Z)<|G (Zd am H 1 Z Z Z)<|G (bC (cs:= #[J (0),J (c3.clock),.slice none 0 0]) iV dn N)<|bA H 2 (#[J (0),J (c3.clock),.slice none 0 0]) aL Z Z Z Z Z N N fun w20 H=>U<|Zt ?_
 have hck:c3.clock=(ip co.a a.n).1.clock:=by rw[<-hac3];rfl
 exact eW (cs0:= #[J (0),J (c3.clock),.slice none 0 0]) Z aK Z (H.ent (i:=2) Z) Z ⟨⟨ps,some ⟨gP,0,none⟩,pC,c3,lo,hi,g3,lo2,hi2,sns,snA,snC⟩,by rw[hsp,<-hck];exact pn.plain _ _ _,by rw[hsp,<-hac3];unfold Bk.a;rw[hag3],Bw.shut (X:=[(b7,_),(b5,_),(b4,_),(b3,_)]) row hsn hown (ai _ (az ..)) (az ..) (fun q hq=>ai _ (ai _ (hps q hq))) (fun f hf=>ai _ (ai _ hf)) H Z⟩
theorem LG {w:Wa} {a:Act} {p:f3} (hp:w.ps[a.part.toNat]? =some p):lY w a=if(jj p a).2.2=0 then({w with ps:=w.ps.set a.part.toNat (jj p a).1},⟨0,(jj p a).2.1,[]⟩)else kf w (jj p a).2.2:=by
 unfold lY
 rw[hp]
theorem LF {w0 w:World} {bb:Nat} {b:Bk} {gP:Nat} {uP:Array Value} {Ls Lo K:List (Nat×Obj)} {F:List ce} (a:Act) (B:Bw w0 w bb b gP uP Ls Lo K F) (hkd:a.kind=8∨a.kind=9∨a.kind=13) (hpn:0<=a.part/\a.part<b.ps.length) (hn:0<=a.n/\ ∀ q∈b.ps,a.n<q.p.reps.length) (hm:0<=a.m/\a.m<=1000) (hpk: ∀ q∈b.ps,q.p.a.ok):dt aa ly [.pointer (Qd bb),a.v] w fun v w2=> ∃ b':Bk,pn (lY b.a a).2 v w2/\b'.a=(lY b.a a).1/\xU w0 w2 bb b' K F:=by
 refine aG qX Z Z ?_
 obtain⟨n,hna⟩: ∃ n:Nat,a.part=(n:Int):=⟨a.part.toNat,by omega⟩
 have htn:a.part.toNat=n:=by omega
 obtain⟨r,hnr⟩: ∃ r:Nat,a.n=(r:Int):=⟨a.n.toNat,by omega⟩
 have htr:a.n.toNat=r:=by omega
 obtain⟨mm,hmm⟩: ∃ r:Nat,a.m=(r:Int):=⟨a.m.toNat,by omega⟩
 have htm:a.m.toNat=mm:=by omega
 obtain⟨q,hq⟩: ∃ q,b.ps[n]? =some q:=⟨_,aj I⟩
 have hqm:=ab hq
 have hok:=hpk q hqm
 have hr:r<q.p.reps.length:=by have:=hn.2 q hqm;omega
 have hsp:=LG (w:=b.a) (a:=a) (p:=q.p.a) (by rw[htn];show(b.ps.map fun q=>q.p.a)[n]? =_;rw[aI,hq];rfl)
 obtain⟨z,hz⟩: ∃ z,jj q.p.a a=z:=⟨_,rfl⟩
 obtain⟨ps,pA,pC,co,clo,chi,gr,glo,ghi,sns,snA,snC⟩:=b
 obtain⟨hpA,row,hsn,hown,hco,hgr,hps,H⟩:=B
 dsimp only at hpA row hsn hown hco hgr hps
 subst hpA
 replace H:Hp w0 w ((bb,.cells #[.slice (Qd gP) ps.length pC,J (co.clock),J (co.next),J (co.wait),.slice co.A co.txs.length co.cap,J (gr.clock),J (gr.wait),J (gr.gen),.slice gr.mA gr.ms.length gr.mC,.slice gr.oA gr.os.length gr.oC,.slice snA sns.length snC] bE (0,0))::(gP,.cells uP bI (0,0))::(Ls++(Lo++K))) F:=H
 dsimp only at hpn hq hqm
 show CW _ _ _ _ (args [.pointer (Qd bb),.agg #[J (a.kind),.string (a.name),J (a.part),J (a.n),J (a.m),.string (a.text),J (a.lost)]]) w
 refine W<|Zr<|gY H Z Z fun w1 b3 H=>fc H dn Z fun w2 b4 H=>U<|W<|W<|Zr<|G (Yp Z)<|G (Zf fk Z)<|G (Zd am H 1 Z Z Z)<|cu d8 (oz bb ⟨ps,some ⟨gP,0,none⟩,pC,co,clo,chi,gr,glo,ghi,sns,snA,snC⟩ a.part _ (H.ent (i:=2) Z)) Z Z ?_
 rintro _ w3 ⟨rfl,hb⟩;replace H:=H.later hb;clear hb
 rw[decide_eq_true hpn]
 refine G (ee Z)<|U<|ZF Z<|Zk<|W ?_
 refine bL cD [0,1,2,3,4,5,6,7,8,9] [10] [9] [0,1,2,3,5,7] (sp [(9,Sp.blk w3.heap.size (.agg #[J 0,J 0,.slice none 0 0,.slice none 0 0,.slice none 0 0,J 0,J 0]) bI)]) N N N N Nq (cQ _) ?_
 refine aw Z Z Z Z Z (fun w' hw'=>Yp Z)<|aw Z Z Z Z Z (fun w' hw'=>aH Z)<|aw Z Z Z Z Z (fun w' hw'=>Zf aS Z)<|aw Z Z Z Z Z (fun w' hw'=>Zf dL Z)<|aw Z Z Z Z Z (fun w' hw'=>bi eA Z (aJ ((H.later hw').ent (i:=2) Z) Z))<|aw Z Z Z Z Z (fun w' hw'=>Zf fk Z)<|aw Z Z Z Z Z (fun w' hw'=>bi am Z (aJ ((H.later hw').ent (i:=1) Z) Z))<|aw Z Z Z Z Z (fun w' hw'=>cR (k:=n) iE Z (congrArg (Value.int .i64) hna) (by first|omega|(simp only[ae];omega)))<|aw Z Z Z Z Z (fun w' hw'=>pq bo row hq Z Z ((H.later hw').ent (i:=3) Z))<|yP bR Z Z Z Z Z (fun w' hw'=>hw'.size) fun b5=>aU ?_
 intro w4 hw' hF
 obtain⟨hF,bq,eq,hge5,hbl5⟩:=hF;cases eq
 have Hb:=H
 replace H:=H.adoptNew hw' hbl5 hge5
 clear hw' hF
 refine bA H 0 (#[J (q.p.epoch),J (q.p.leader),.slice q.p.iA q.p.isr.length q.p.iC,.slice q.p.kA q.p.known.length q.p.kC,.slice q.p.rA q.p.reps.length q.p.rC,J (q.p.few),J (q.p.base)]) bl Z Z Z Z Z N N fun w5 H=>U<|W<|Zr<|G (Wi Z)<|U<|W<|Zr<|G (Wi Z)<|U<|W<|W<|Zr<|G (Zf uF Z)<|G (Zd am H 2 Z Z Z)<|U ?_
 refine ft (τ:=Pa×Nat×Nat) [6,7,25,26,27,28,29,30,31,32,33,34,35,36,37,38,39,40,41,42,43,44,45,46,47,48,49,50,51,52,53,54,55,56,57,58,59,60,61,62,63,64,65,66,67,68,69,70,71,72,73,74,75,76,77,78,79,80,81,82,83,84,85,86,87,88,89,90,91,92,93,94,95,96,97] (fun _=>[(6,J z.2.1),(7,J z.2.2)]) (fun(p2,lo,hi) w'=>p2.a=z.1/\Hp w0 w' ((b5,.cells #[J (p2.epoch),J (p2.leader),.slice p2.iA p2.isr.length p2.iC,.slice p2.kA p2.known.length p2.kC,.slice p2.rA p2.reps.length p2.rC,J (p2.few),J (p2.base)] bI (0,0))::(b4,.cells #[J (0),J (0),.slice none 0 0] eh (0,0))::(b3,.cells #[J (a.kind),.string (a.name),J (a.part),J (a.n),J (a.m),.string (a.text),J (a.lost)] jl (0,0))::(bb,.cells #[.slice (Qd gP) ps.length pC,J (co.clock),J (co.next),J (co.wait),.slice co.A co.txs.length co.cap,J (gr.clock),J (gr.wait),J (gr.gen),.slice gr.mA gr.ms.length gr.mC,.slice gr.oA gr.os.length gr.oC,.slice snA sns.length snC] bE (0,0))::(gP,.cells uP bI (0,0))::(Ls++(Lo++K))) (wM w0 lo hi p2::F)) ?_ ?_
 refine Zb<|W<|Zr ?_
 refine du (bv Z Z) Z Z Z (fun h33=> ?_) (fun h33=> ?_)
 refine G (Wb Z)<|U<|ZT Z<|Zr<|G (Zw bo H 0 Z Z Z)<|G (Zf gp Z)<|G (Zd am H 2 Z Z Z)<|cu CG ((by have hA:=JJ q.p r _ (Hp.paM H (hps q hqm)) hok hr;rw[<-hnr]at hA;exact hA)) Z Z ?_
 rintro _ w6 ⟨p2,rfl,hap2,hnp2⟩;replace H:=H.learn hnp2.2 (wM w0 w5.heap.size w6.heap.size p2) ⟨H.size,hnp2.1⟩ (ao _) (ao _);clear hnp2
 refine G (Yu Z)<|G (Xa Z Z)<|G (Xi Z Z)<|G (Xi Z Z)<|bA H 0 (#[J (p2.epoch),J (p2.leader),.slice p2.iA p2.isr.length p2.iC,.slice p2.kA p2.known.length p2.kC,.slice p2.rA p2.reps.length p2.rC,J (p2.few),J (p2.base)]) bl Z Z Z Z Z N N fun w7 H=>G (Wi Z)<|G (Wi Z)<|U ?_
 obtain rfl:z=gx q.p.a r:=by rw[<-hz];unfold jj;rw[if_pos h33,htr]
 exact⟨(p2,_,_),⟨hap2,H⟩,mK Z Z,Qg⟩
 refine G (Wb Z)<|U<|ZF Z<|W<|Zr ?_
 refine du (bv Z Z) Z Z Z (fun h43=> ?_) (fun h43=> ?_)
 refine G (Wb Z)<|U<|ZT Z<|Zr<|G (Zw bo H 0 Z Z Z)<|G (Zf gp Z)<|G (Zd am H 2 Z Z Z)<|cu EO ((by have hA:=LR q.p r _ (Hp.paM H (hps q hqm)) hok hr;rw[<-hnr]at hA;exact hA)) Z Z ?_
 rintro _ w8 ⟨p2,rfl,hap2,hnp2⟩;replace H:=H.learn hnp2.2 (wM w0 w5.heap.size w8.heap.size p2) ⟨H.size,hnp2.1⟩ (ao _) (ao _);clear hnp2
 refine G (Yu Z)<|G (Xa Z Z)<|G (Xi Z Z)<|bA H 0 (#[J (p2.epoch),J (p2.leader),.slice p2.iA p2.isr.length p2.iC,.slice p2.kA p2.known.length p2.kC,.slice p2.rA p2.reps.length p2.rC,J (p2.few),J (p2.base)]) bl Z Z Z Z Z N N fun w9 H=>G (Wi Z)<|U ?_
 obtain rfl:z=((jq q.p.a r).1,0,(jq q.p.a r).2):=by rw[<-hz];unfold jj;rw[if_neg h33,if_pos h43,htr]
 exact⟨(p2,_,_),⟨hap2,H⟩,mK Z Z,Qg⟩
 refine G (Wb Z)<|U<|ZF Z<|W<|Zr<|G (lS Z Z I)<|G (Wb Z)<|U<|ZF Z<|W<|Zr<|G (lS Z Z I)<|G (Wb Z)<|U<|ZF Z<|W<|Zr<|G (lS Z Z I)<|G (Wb Z)<|U<|ZF Z<|W<|Zr<|G (se Z Z I)<|G (Wb Z)<|U<|ZT Z<|Zr<|G (Zw bo H 0 Z Z Z)<|G (Zf gp Z)<|G (Zd am H 2 Z Z Z)<|cu CH ((by have hA:=JK q.p r _ (Hp.paM H (hps q hqm)) hok hr;rw[<-hnr]at hA;exact hA)) Z Z ?_
 rintro _ w10 ⟨p2,rfl,hap2,hnp2⟩;replace H:=H.learn hnp2.2 (wM w0 w5.heap.size w10.heap.size p2) ⟨H.size,hnp2.1⟩ (ao _) (ao _);clear hnp2
 refine G (Yu Z)<|G (Xa Z Z)<|G (Xi Z Z)<|bA H 0 (#[J (p2.epoch),J (p2.leader),.slice p2.iA p2.isr.length p2.iC,.slice p2.kA p2.known.length p2.kC,.slice p2.rA p2.reps.length p2.rC,J (p2.few),J (p2.base)]) bl Z Z Z Z Z N N fun w11 H=>G (Wi Z)<|U ?_
 obtain rfl:z=((fq q.p.a r).1,0,(fq q.p.a r).2):=by rw[<-hz];unfold jj;rw[if_neg h33,if_neg h43,htr]
 exact⟨(p2,_,_),⟨hap2,H⟩,mK Z Z,Qg⟩
 rintro⟨p2,lo,hi⟩ ρ1 w12 ⟨hap2,H⟩
 show CW _ _ _ _ (dK (ia _ _ ρ1) [(6,J z.2.1),(7,J z.2.2)]) w12
 refine W<|W<|Zr<|G (Yi Z) ?_
 refine rM (jk Z Z) Z Z Z (fun h99=> ?_) (fun h99=> ?_)
 refine U<|ZT Z<|W<|Zr<|G (Yi Z)<|cu bH (dS z.2.2 _) Z Z ?_
 rintro _ w13 ⟨rfl,hb⟩;replace H:=H.later hb;clear hb
 refine bA H 1 (#[J (z.2.2),J (0),.slice none 0 0]) aL Z Z Z Z Z N N fun w14 H=>U<|Zt ?_
 exact eW (cs0:= #[J (z.2.2),J (0),.slice none 0 0]) Z aK Z (H.ent (i:=1) Z) Z ⟨⟨ps,some ⟨gP,0,none⟩,pC,co,clo,chi,gr,glo,ghi,sns,snA,snC⟩,by rw[hsp,hz,if_neg h99];exact pn.plain _ _ _,by rw[hsp,hz,if_neg h99];rfl,Bw.shut (X:=[(b5,_),(b4,_),(b3,_)]) row hsn hown (ai _ hco) (ai _ hgr) (fun q hq=>ai _ (hps q hq)) (fun f hf=>ai _ hf) H Z⟩
 refine U<|ZF Z<|Zk<|W ?_
 refine bL cD [0,1,2,3,4,5,6,7,8] [9] [] [0,1,2,3,5,8] (sp []) N N N N Nq (cQ _) ?_
 refine aw Z Z Z Z Z (fun w' hw'=>Yp Z)<|aw Z Z Z Z Z (fun w' hw'=>aH Z)<|aw Z Z Z Z Z (fun w' hw'=>Zf aS Z)<|aw Z Z Z Z Z (fun w' hw'=>Zf dL Z)<|aw Z Z Z Z Z (fun w' hw'=>bi eA Z (aJ ((H.later hw').ent (i:=3) Z) Z))<|aw Z Z Z Z Z (fun w' hw'=>Zf fk Z)<|aw Z Z Z Z Z (fun w' hw'=>bi am Z (aJ ((H.later hw').ent (i:=2) Z) Z))<|aw Z Z Z Z Z (fun w' hw'=>jR bo Z ((H.later hw').ent (i:=0) Z) Z)<|aw Z Z Z Z Z (fun w' hw'=>cR (k:=n) iE Z (congrArg (Value.int .i64) hna) (by first|omega|(simp only[ae];omega)))<|aU ?_
 intro w15 hw' hF
 replace H:=H.later hw';clear hw' hF
 refine ni H 4 (⟨p2,lo,hi⟩) bl row hq 0 Z Z Z Z Z Z N fun w17 cur16 row16 H=> ?_
 have hs18:(ps.set n (⟨p2,lo,hi⟩))[n]? =some (⟨p2,lo,hi⟩):=al (cy hq).1
 refine U<|W<|Zr<|G (Yi Z)<|G (bC (cs:= #[J (0),J (z.2.1),.slice none 0 0]) iV dn N)<|bA H 1 (#[J (0),J (z.2.1),.slice none 0 0]) aL Z Z Z Z Z N N fun w19 H=>U<|Zt ?_
 have hz0:z.2.2=0:=by simpa using h99
 exact eW (cs0:= #[J (0),J (z.2.1),.slice none 0 0]) Z aK Z (H.ent (i:=1) Z) Z ⟨⟨ps.set n ⟨p2,lo,hi⟩,some ⟨gP,0,none⟩,pC,co,clo,chi,gr,glo,ghi,sns,snA,snC⟩,by rw[hsp,hz,if_pos hz0];exact pn.plain _ _ _,by rw[hsp,hz,if_pos hz0,htn];unfold Bk.a;simp only[cU,hap2],Bw.shut (X:=[(b5,_),(b4,_),(b3,_)]) row16 hsn hown (ai _ hco) (ai _ hgr) (fun y hy=>by rcases AG hy with hy|hy;exact ai _ (hps y hy);rw[hy];exact az ..) (fun f hf=>ai _ hf) H (by simp only[Bk.c,ae])⟩
theorem Od {b:Bk} {a:Act} {z:Gr×Int} (hz:(if a.kind=16 then ro b.gr.a a.name b.ps.length else if a.kind=18 then xN b.gr.a a.name a.n else qm b.gr.a a.name a.n a.part a.m)=z):wn b.a a=if z.2=0 then({b.a with gr:=z.1},⟨0,z.1.gen,[]⟩)else kf b.a z.2:=by
 subst hz
 unfold wn AL
 rw[show b.a.ps.length=b.ps.length by show(b.ps.map _).length=_;rw[bc]]
 rfl
theorem Oc {w0 w:World} {bb:Nat} {b:Bk} {gP:Nat} {uP:Array Value} {Ls Lo K:List (Nat×Obj)} {F:List ce} (a:Act) (B:Bw w0 w bb b gP uP Ls Lo K F) {k np:Nat} {wt:Int} (hk:k<=1000) (h17:a.kind≠17) (hnm:bu a.name=true) (hm:0<=a.m/\a.m<=1000) (hgi:rH (fun _=>True) wt np k b.gr) (hp4:b.ps.length<=4):dt aa mc [.pointer (Qd bb),a.v] w fun v w2=> ∃ b':Bk,pn (wn b.a a).2 v w2/\b'.a=(wn b.a a).1/\xU w0 w2 bb b' K F:=by
 refine aG sa Z Z ?_
 obtain⟨z,hz⟩: ∃ z,(if a.kind=16 then ro b.gr.a a.name b.ps.length else if a.kind=18 then xN b.gr.a a.name a.n else qm b.gr.a a.name a.n a.part a.m)=z:=⟨_,rfl⟩
 have hsp:=Od hz
 obtain⟨ps,pA,pC,co,clo,chi,gr,glo,ghi,sns,snA,snC⟩:=b
 obtain⟨hpA,row,hsn,hown,hco,hgr,hps,H⟩:=B
 dsimp only at hpA row hsn hown hco hgr hps
 subst hpA
 replace H:Hp w0 w ((bb,.cells #[.slice (Qd gP) ps.length pC,J (co.clock),J (co.next),J (co.wait),.slice co.A co.txs.length co.cap,J (gr.clock),J (gr.wait),J (gr.gen),.slice gr.mA gr.ms.length gr.mC,.slice gr.oA gr.os.length gr.oC,.slice snA sns.length snC] bE (0,0))::(gP,.cells uP bI (0,0))::(Ls++(Lo++K))) F:=H
 dsimp only at hgi hp4 hz
 show CW _ _ _ _ (args [.pointer (Qd bb),.agg #[J (a.kind),.string (a.name),J (a.part),J (a.n),J (a.m),.string (a.text),J (a.lost)]]) w
 refine W<|Zr<|gY H Z Z fun w1 b3 H=>fc H dn Z fun w2 b4 H=>U<|W<|Zr<|G (Yp Z)<|G (aH Z)<|G (Zf aS Z)<|G (Zf jL Z)<|G (j9 5 [J (gr.clock),J (gr.wait),J (gr.gen),.slice gr.mA gr.ms.length gr.mC,.slice gr.oA gr.os.length gr.oC] aO Z Z (H.ent (i:=2) Z) Z)<|fc H ed Z fun w3 b5 H=>bA H 0 (#[J (gr.clock),J (gr.wait),J (gr.gen),.slice gr.mA gr.ms.length gr.mC,.slice gr.oA gr.os.length gr.oC]) bz Z Z Z Z Z N N fun w4 H=>U<|W<|Zr<|G (Wi Z)<|U<|W<|W<|Zr<|G (Zf uF Z)<|G (Zd am H 2 Z Z Z)<|U ?_
 refine ft (τ:=Gr×Nat×Nat) [6,14,15,16,17,18,19,20,21,22,23,24,25,26,27,28,29,30,31,32,33,34,35,36,37,38,39,40,41,42,43,44,45,46,47,48,49,50,51,52,53,54,55,56,57,58,59,60,61,62,63,64,65,66,67] (fun _=>[(6,J z.2)]) (fun(g3,lo,hi) w'=>g3.a=z.1/\Hp w0 w' ((b5,.cells #[J (g3.clock),J (g3.wait),J (g3.gen),.slice g3.mA g3.ms.length g3.mC,.slice g3.oA g3.os.length g3.oC] cK (0,0))::(b4,.cells #[J (0),J (0),.slice none 0 0] eh (0,0))::(b3,.cells #[J (a.kind),.string (a.name),J (a.part),J (a.n),J (a.m),.string (a.text),J (a.lost)] jl (0,0))::(bb,.cells #[.slice (Qd gP) ps.length pC,J (co.clock),J (co.next),J (co.wait),.slice co.A co.txs.length co.cap,J (gr.clock),J (gr.wait),J (gr.gen),.slice gr.mA gr.ms.length gr.mC,.slice gr.oA gr.os.length gr.oC,.slice snA sns.length snC] bE (0,0))::(gP,.cells uP bI (0,0))::(Ls++(Lo++K))) (KJ w0 lo hi g3::F)) ?_ ?_
 refine Zb<|W<|Zr ?_
 refine du (bv Z Z) Z Z Z (fun h28=> ?_) (fun h28=> ?_)
 refine G (Wb Z)<|U<|ZT Z ?_
 refine bL cD [0,1,2,3,4,5,6,7,8,9,10,11,12] [13,14] [9] [1,3,4,5,6,8,10,11,12] (sp [(9,Sp.deep w4.heap.size Q6 (fun g:Gr=>g.c.toArray) (fun cs=> .tuple #[.agg cs,J (ro gr.a a.name ps.length).2]) (fun cq:Gr=>cq.a=(ro gr.a a.name ps.length).1))]) N N N N Nq (cQ _) ?_
 refine aw Z Z Z Z Z (fun w' hw'=>jR aO Z ((H.later hw').ent (i:=0) Z) Z)<|aw Z Z Z Z Z (fun w' hw'=>Zf fu Z)<|aw Z Z Z Z Z (fun w' hw'=>bi ba Z (aJ ((H.later hw').ent (i:=2) Z) Z))<|aw Z Z Z Z Z (fun w' hw'=>Yp Z)<|aw Z Z Z Z Z (fun w' hw'=>aH Z)<|aw Z Z Z Z Z (fun w' hw'=>Zf aS Z)<|aw Z Z Z Z Z (fun w' hw'=>Zf dL Z)<|aw Z Z Z Z Z (fun w' hw'=>bi eA Z (aJ ((H.later hw').ent (i:=3) Z) Z))<|aw Z Z Z Z Z (fun w' hw'=>bh l8 Z)<|tK (gv:=(fun cs=> .tuple #[.agg cs,J (ro gr.a a.name ps.length).2])) CI Z Z Z Z Z (fun w' hw'=>hw'.size) (fun w' hw'=>J1 gr a.name ps.length w' (Hp.grM (H.later hw') hgr) hgi.ok hnm hp4 (by have:=hgi.gen;omega)) Z fun cs39=>aw Z Z Z Z Z (fun w' hw'=>Yu Z)<|aw Z Z Z Z Z (fun w' hw'=>Xa Z Z)<|aw Z Z Z Z Z (fun w' hw'=>Xi Z Z)<|aU ?_
 intro w5 hw' hF
 obtain⟨hF,g3,eq,hag3,hrd39⟩:=hF;cases eq
 replace H:=H.learn hw' (KJ w0 w4.heap.size w5.heap.size g3) ⟨H.size,hrd39⟩ (ao _) (ao _)
 clear hw' hF
 refine bA H 0 (#[J (g3.clock),J (g3.wait),J (g3.gen),.slice g3.mA g3.ms.length g3.mC,.slice g3.oA g3.os.length g3.oC]) bz Z Z Z Z Z N N fun w6 H=>G (Wi Z)<|U ?_
 obtain rfl:z=ro gr.a a.name ps.length:=by rw[<-hz,if_pos h28]
 exact⟨(g3,_,_),⟨hag3,H⟩,dR Z,Qg⟩
 refine G (Wb Z)<|U<|ZF Z<|W<|Zr<|G (lS Z Z h17)<|G (Wb Z)<|U<|ZF Z<|W<|Zr ?_
 refine du (bv Z Z) Z Z Z (fun h58=> ?_) (fun h58=> ?_)
 refine G (Wb Z)<|U<|ZT Z<|Zr<|G (Zw aO H 0 Z Z Z)<|G (Zf fu Z)<|G (Zd ba H 2 Z Z Z)<|G (Zf gp Z)<|G (Zd am H 2 Z Z Z)<|cu CJ (Kv gr a.name a.n _ (Hp.grM H hgr) hgi.ok hnm) Z Z ?_
 rintro _ w7 ⟨g3,rfl,hag3,hng3⟩;replace H:=H.learn hng3.2 (KJ w0 w4.heap.size w7.heap.size g3) ⟨H.size,hng3.1⟩ (ao _) (ao _);clear hng3
 refine G (Yu Z)<|G (Xa Z Z)<|G (Xi Z Z)<|bA H 0 (#[J (g3.clock),J (g3.wait),J (g3.gen),.slice g3.mA g3.ms.length g3.mC,.slice g3.oA g3.os.length g3.oC]) bz Z Z Z Z Z N N fun w8 H=>G (Wi Z)<|U ?_
 obtain rfl:z=xN gr.a a.name a.n:=by rw[<-hz,if_neg h28,if_pos h58]
 exact⟨(g3,_,_),⟨hag3,H⟩,dR Z,Qg⟩
 refine G (Wb Z)<|U<|ZF Z<|Zr<|G (Zw aO H 0 Z Z Z)<|G (Zf fu Z)<|G (Zd ba H 2 Z Z Z)<|G (Zf gp Z)<|G (Zd am H 2 Z Z Z)<|G (Zf fk Z)<|G (Zd am H 2 Z Z Z)<|G (Zf MP Z)<|G (Zd am H 2 Z Z Z)<|cu BJ (GV gr a.name a.n a.part a.m _ (Hp.grM H hgr) hgi.ok hnm hm.1) Z Z ?_
 rintro _ w9 ⟨g3,rfl,hag3,hng3⟩;replace H:=H.learn hng3.2 (KJ w0 w4.heap.size w9.heap.size g3) ⟨H.size,hng3.1⟩ (ao _) (ao _);clear hng3
 refine G (Yu Z)<|G (Xa Z Z)<|G (Xi Z Z)<|bA H 0 (#[J (g3.clock),J (g3.wait),J (g3.gen),.slice g3.mA g3.ms.length g3.mC,.slice g3.oA g3.os.length g3.oC]) bz Z Z Z Z Z N N fun w10 H=>G (Wi Z)<|U ?_
 obtain rfl:z=qm gr.a a.name a.n a.part a.m:=by rw[<-hz,if_neg h28,if_neg h58]
 exact⟨(g3,_,_),⟨hag3,H⟩,dR Z,Qg⟩
 rintro⟨g3,lo,hi⟩ ρ1 w11 ⟨hag3,H⟩
 show CW _ _ _ _ (dK (ia _ _ ρ1) [(6,J z.2)]) w11
 refine W<|W<|Zr<|G (Yi Z) ?_
 refine rM (jk Z Z) Z Z Z (fun h69=> ?_) (fun h69=> ?_)
 refine U<|ZT Z<|W<|Zr<|G (Yi Z)<|cu bH (dS z.2 _) Z Z ?_
 rintro _ w12 ⟨rfl,hb⟩;replace H:=H.later hb;clear hb
 refine bA H 1 (#[J (z.2),J (0),.slice none 0 0]) aL Z Z Z Z Z N N fun w13 H=>U<|Zt ?_
 exact eW (cs0:= #[J (z.2),J (0),.slice none 0 0]) Z aK Z (H.ent (i:=1) Z) Z ⟨⟨ps,some ⟨gP,0,none⟩,pC,co,clo,chi,gr,glo,ghi,sns,snA,snC⟩,by rw[hsp,if_neg h69];exact pn.plain _ _ _,by rw[hsp,if_neg h69];rfl,Bw.shut (X:=[(b5,_),(b4,_),(b3,_)]) row hsn hown (ai _ hco) (ai _ hgr) (fun q hq=>ai _ (hps q hq)) (fun f hf=>ai _ hf) H Z⟩
 refine U<|ZF Z<|Zk<|W<|Zr<|G (Yp Z)<|G (Zw aO H 0 Z Z Z)<|G (aH Z)<|G (Zf aS Z)<|G (Zf jL Z)<|bA H 3 (#[.slice (Qd gP) ps.length pC,J (co.clock),J (co.next),J (co.wait),.slice co.A co.txs.length co.cap,J (g3.clock),J (g3.wait),J (g3.gen),.slice g3.mA g3.ms.length g3.mC,.slice g3.oA g3.os.length g3.oC,.slice snA sns.length snC]) bz Z Z Z Z Z N N fun w14 H=>U<|W<|Zr<|G (Zf kD Z)<|G (Zd am H 0 Z Z Z)<|G (bC (cs:= #[J (0),J (g3.gen),.slice none 0 0]) iV dn N)<|bA H 1 (#[J (0),J (g3.gen),.slice none 0 0]) aL Z Z Z Z Z N N fun w15 H=>U<|Zt ?_
 have hz0:z.2=0:=by simpa using h69
 have hgn:z.1.gen=g3.gen:=by rw[<-hag3];rfl
 exact eW (cs0:= #[J (0),J (g3.gen),.slice none 0 0]) Z aK Z (H.ent (i:=1) Z) Z ⟨⟨ps,some ⟨gP,0,none⟩,pC,co,clo,chi,g3,lo,hi,sns,snA,snC⟩,by rw[hsp,if_pos hz0,hgn];exact pn.plain _ _ _,by rw[hsp,if_pos hz0,<-hag3];rfl,Bw.shut (X:=[(b5,_),(b4,_),(b3,_)]) row hsn hown (ai _ hco) (az ..) (fun q hq=>ai _ (hps q hq)) (fun f hf=>ai _ hf) H Z⟩
theorem xU.nil {w0 w:World} {bb:Nat} {b:Bk} {K:List (Nat×Obj)} {F:List ce} (h:xU w0 w bb b K F) (A:Option Addr):xU w0 w bb b K (ey mq 0 0 A []::F):=by
 obtain⟨gP,uP,Ls,Lo,F',B,hF⟩:=h
 exact⟨gP,uP,Ls,Lo,ey mq 0 0 A []::F',⟨B.pA,B.row,B.sn,B.own,ai _ B.co,ai _ B.gr,fun q hq=>ai _ (B.ps q hq),B.H.learnNil 0 (bN _) A⟩,fun f hf=>by
  rcases av.1 hf with rfl|hf
  exact az ..
  exact ai _ (hF f hf)⟩
theorem CU {g:Gr} (h:lP g=true) (s:ByteArray) (p:Int):0<=(ez g s p).1:=by
 unfold ez
 split
 exact fl 0
 split
 show 0<=qk g.os p
 unfold qk
 split
 rename_i o ho
 exact((dC.1 h).2.2.1 o (List.mem_of_find?_eq_some ho)).2.2.1
 exact fl 0
 exact fl 0
theorem NV {w0 w:World} {bb:Nat} {b:Bk} {gP:Nat} {uP:Array Value} {Ls Lo K:List (Nat×Obj)} {F:List ce} (a:Act) (B:Bw w0 w bb b gP uP Ls Lo K F) (hnm:bu a.name=true) (hpn:0<=a.part/\a.part<b.ps.length) {k np:Nat} {wt:Int} (hgi:rH (fun _=>True) wt np k b.gr) (hw:(ez b.gr.a a.name a.part).2≠0):dt aa gK [.pointer (Qd bb),a.v] w fun v w2=> ∃ (x:An) (A:Option Addr) (c lo hi:Nat),rE b.a a x/\v=.agg #[J x.code,J x.n,.slice A x.texts.length c]/\x.texts.length<=c/\xU w0 w2 bb b K (ey mq lo hi A x.texts::F):=by
 refine aG iL Z Z ?_
 have hP:rE b.a a _:=.no hw
 obtain⟨ps,pA,pC,co,clo,chi,gr,glo,ghi,sns,snA,snC⟩:=b
 obtain⟨hpA,row,hsn,hown,hco,hgr,hps,H⟩:=B
 dsimp only at hpA row hsn hown hco hgr hps
 subst hpA
 replace H:Hp w0 w ((bb,.cells #[.slice (Qd gP) ps.length pC,J (co.clock),J (co.next),J (co.wait),.slice co.A co.txs.length co.cap,J (gr.clock),J (gr.wait),J (gr.gen),.slice gr.mA gr.ms.length gr.mC,.slice gr.oA gr.os.length gr.oC,.slice snA sns.length snC] bE (0,0))::(gP,.cells uP bI (0,0))::(Ls++(Lo++K))) F:=H
 dsimp only at hpn hgi hw
 show CW _ _ _ _ (args [.pointer (Qd bb),.agg #[J (a.kind),.string (a.name),J (a.part),J (a.n),J (a.m),.string (a.text),J (a.lost)]]) w
 refine W<|Zr<|gY H Z Z fun w1 b3 H=>fc H dn Z fun w2 b4 H=>U<|W<|W<|Zr<|G (Yp Z)<|G (Zf fk Z)<|G (Zd am H 1 Z Z Z)<|cu d8 (oz bb ⟨ps,some ⟨gP,0,none⟩,pC,co,clo,chi,gr,glo,ghi,sns,snA,snC⟩ a.part _ (H.ent (i:=2) Z)) Z Z ?_
 rintro _ w3 ⟨rfl,hb⟩;replace H:=H.later hb;clear hb
 rw[decide_eq_true hpn]
 refine G (ee Z)<|U<|ZF Z<|Zk<|W ?_
 refine bL cD [0,1,2,3,4,5,6,7,8,9,10,11,12,13,14] [] [9] [0,1,2,3,5,7,10,11,12,13,14] (sp [(9,Sp.one (.tuple #[J (ez gr.a a.name a.part).1,J (ez gr.a a.name a.part).2]))]) N N N N Nq (cQ _) ?_
 refine aw Z Z Z Z Z (fun w' hw'=>Yp Z)<|aw Z Z Z Z Z (fun w' hw'=>aH Z)<|aw Z Z Z Z Z (fun w' hw'=>Zf aS Z)<|aw Z Z Z Z Z (fun w' hw'=>Zf jL Z)<|aw Z Z Z Z Z (fun w' hw'=>j9 5 [J (gr.clock),J (gr.wait),J (gr.gen),.slice gr.mA gr.ms.length gr.mC,.slice gr.oA gr.os.length gr.oC] aO Z Z ((H.later hw').ent (i:=2) Z) Z)<|aw Z Z Z Z Z (fun w' hw'=>Zf fu Z)<|aw Z Z Z Z Z (fun w' hw'=>bi ba Z (aJ ((H.later hw').ent (i:=1) Z) Z))<|aw Z Z Z Z Z (fun w' hw'=>Zf fk Z)<|aw Z Z Z Z Z (fun w' hw'=>bi am Z (aJ ((H.later hw').ent (i:=1) Z) Z))<|qJ m7 Z Z Z Z Z (fun w' hw'=>s5 gr a.name a.part w' (Hp.grM (H.later hw') hgr) hgi.ok hnm) Z<|aw Z Z Z Z Z (fun w' hw'=>Yu Z)<|aw Z Z Z Z Z (fun w' hw'=>Xi Z Z)<|aw Z Z Z Z Z (fun w' hw'=>Xi Z Z)<|aw Z Z Z Z Z (fun w' hw'=>Wi Z)<|aw Z Z Z Z Z (fun w' hw'=>Wi Z)<|aU ?_
 intro w4 hw' hF
 replace H:=H.later hw';clear hw' hF
 refine U<|W<|W<|Zr<|G (Yi Z)<|G (lN Z Z hw)<|U<|ZT Z<|W<|Zr<|G (Yi Z)<|cu bH (dS (ez gr.a a.name a.part).2 _) Z Z ?_
 rintro _ w5 ⟨rfl,hb⟩;replace H:=H.later hb;clear hb
 refine bA H 0 (#[J ((ez gr.a a.name a.part).2),J (0),.slice none 0 0]) aL Z Z Z Z Z N N fun w6 H=>U<|Zt ?_
 exact eW (cs0:= #[J ((ez gr.a a.name a.part).2),J (0),.slice none 0 0]) Z aK Z (H.ent (i:=0) Z) Z ⟨_,none,0,0,0,hP,rfl,ao _,xU.nil (Bw.shut (X:=[(b4,_),(b3,_)]) row hsn hown hco hgr hps (fun _ h=>h) H Z) none⟩
theorem JF {w0 w:World} {bb:Nat} {b:Bk} {gP:Nat} {uP:Array Value} {Ls Lo K:List (Nat×Obj)} {F:List ce} (a:Act) (B:Bw w0 w bb b gP uP Ls Lo K F) (hnm:bu a.name=true) (hpn:0<=a.part/\a.part<b.ps.length) (hn:1<=a.n/\a.n<=20) {k np:Nat} {wt:Int} (hgi:rH (fun _=>True) wt np k b.gr) (hpk: ∀ q∈b.ps,q.p.a.ok) (hw:(ez b.gr.a a.name a.part).2=0) (hl: ∀ q,b.ps[a.part.toNat]? =some q->q.p.leader<0):dt aa gK [.pointer (Qd bb),a.v] w fun v w2=> ∃ (x:An) (A:Option Addr) (c lo hi:Nat),rE b.a a x/\v=.agg #[J x.code,J x.n,.slice A x.texts.length c]/\x.texts.length<=c/\xU w0 w2 bb b K (ey mq lo hi A x.texts::F):=by
 refine aG iL Z Z ?_
 obtain⟨n,hna⟩: ∃ n:Nat,a.part=(n:Int):=⟨a.part.toNat,by omega⟩
 have htn:a.part.toNat=n:=by omega
 obtain⟨m,hnm2⟩: ∃ m:Nat,a.n=(m:Int):=⟨a.n.toNat,by omega⟩
 have htm:a.n.toNat=m:=by omega
 obtain⟨q,hq⟩: ∃ q,b.ps[n]? =some q:=⟨_,aj I⟩
 have hqm:=ab hq
 have hok:=hpk q hqm
 have hqa:b.a.ps[a.part.toNat]? =some q.p.a:=by rw[htn];show(b.ps.map fun q=>q.p.a)[n]? =_;rw[aI,hq];rfl
 have hlq:=hl q (by rw[htn];exact hq)
 have hP:rE b.a a _:=.yes q.p.a _ hw hqa (.none hlq)
 obtain⟨ps,pA,pC,co,clo,chi,gr,glo,ghi,sns,snA,snC⟩:=b
 obtain⟨hpA,row,hsn,hown,hco,hgr,hps,H⟩:=B
 dsimp only at hpA row hsn hown hco hgr hps
 subst hpA
 replace H:Hp w0 w ((bb,.cells #[.slice (Qd gP) ps.length pC,J (co.clock),J (co.next),J (co.wait),.slice co.A co.txs.length co.cap,J (gr.clock),J (gr.wait),J (gr.gen),.slice gr.mA gr.ms.length gr.mC,.slice gr.oA gr.os.length gr.oC,.slice snA sns.length snC] bE (0,0))::(gP,.cells uP bI (0,0))::(Ls++(Lo++K))) F:=H
 dsimp only at hpn hgi hw hq hqm
 show CW _ _ _ _ (args [.pointer (Qd bb),.agg #[J (a.kind),.string (a.name),J (a.part),J (a.n),J (a.m),.string (a.text),J (a.lost)]]) w
 refine W<|Zr<|gY H Z Z fun w1 b3 H=>fc H dn Z fun w2 b4 H=>U<|W<|W<|Zr<|G (Yp Z)<|G (Zf fk Z)<|G (Zd am H 1 Z Z Z)<|cu d8 (oz bb ⟨ps,some ⟨gP,0,none⟩,pC,co,clo,chi,gr,glo,ghi,sns,snA,snC⟩ a.part _ (H.ent (i:=2) Z)) Z Z ?_
 rintro _ w3 ⟨rfl,hb⟩;replace H:=H.later hb;clear hb
 rw[decide_eq_true hpn]
 refine G (ee Z)<|U<|ZF Z<|Zk<|W ?_
 refine bL cD [0,1,2,3,4,5,6,7,8,9,10,11,12,13,14] [] [9] [0,1,2,3,5,7,10,11,12,13,14] (sp [(9,Sp.one (.tuple #[J (ez gr.a a.name a.part).1,J (ez gr.a a.name a.part).2]))]) N N N N Nq (cQ _) ?_
 refine aw Z Z Z Z Z (fun w' hw'=>Yp Z)<|aw Z Z Z Z Z (fun w' hw'=>aH Z)<|aw Z Z Z Z Z (fun w' hw'=>Zf aS Z)<|aw Z Z Z Z Z (fun w' hw'=>Zf jL Z)<|aw Z Z Z Z Z (fun w' hw'=>j9 5 [J (gr.clock),J (gr.wait),J (gr.gen),.slice gr.mA gr.ms.length gr.mC,.slice gr.oA gr.os.length gr.oC] aO Z Z ((H.later hw').ent (i:=2) Z) Z)<|aw Z Z Z Z Z (fun w' hw'=>Zf fu Z)<|aw Z Z Z Z Z (fun w' hw'=>bi ba Z (aJ ((H.later hw').ent (i:=1) Z) Z))<|aw Z Z Z Z Z (fun w' hw'=>Zf fk Z)<|aw Z Z Z Z Z (fun w' hw'=>bi am Z (aJ ((H.later hw').ent (i:=1) Z) Z))<|qJ m7 Z Z Z Z Z (fun w' hw'=>s5 gr a.name a.part w' (Hp.grM (H.later hw') hgr) hgi.ok hnm) Z<|aw Z Z Z Z Z (fun w' hw'=>Yu Z)<|aw Z Z Z Z Z (fun w' hw'=>Xi Z Z)<|aw Z Z Z Z Z (fun w' hw'=>Xi Z Z)<|aw Z Z Z Z Z (fun w' hw'=>Wi Z)<|aw Z Z Z Z Z (fun w' hw'=>Wi Z)<|aU ?_
 intro w4 hw' hF
 replace H:=H.later hw';clear hw' hF
 refine U<|W<|W<|Zr<|G (Yi Z)<|G (cv Z Z I)<|U<|ZF Z<|Zk<|W ?_
 refine HS cD [12,13,14,15,16,17,18,19] [] [0,1,2,3,5,7,9,10]<|jN [0,1,2,3,4,5,6,7,8,9,10,11] [12,13,14,15,16,17,18,19] [] [0,1,2,3,5,7,9,10] 7 _ N N N Nq<|aw Z Z Z Z Z (fun w' hw'=>Yp Z)<|aw Z Z Z Z Z (fun w' hw'=>aH Z)<|aw Z Z Z Z Z (fun w' hw'=>Zf aS Z)<|aw Z Z Z Z Z (fun w' hw'=>Zf dL Z)<|aw Z Z Z Z Z (fun w' hw'=>bi eA Z (aJ ((H.later hw').ent (i:=2) Z) Z))<|aw Z Z Z Z Z (fun w' hw'=>Zf fk Z)<|aw Z Z Z Z Z (fun w' hw'=>bi am Z (aJ ((H.later hw').ent (i:=1) Z) Z))<|aw Z Z Z Z Z (fun w' hw'=>cR (k:=n) iE Z (congrArg (Value.int .i64) hna) (by first|omega|(simp only[ae];omega)))<|aw Z Z Z Z Z (fun w' hw'=>pq bo row hq Z Z ((H.later hw').ent (i:=3) Z))<|aw Z Z Z Z Z (fun w' hw'=>Yi Z)<|aw Z Z Z Z Z (fun w' hw'=>Zf gp Z)<|aw Z Z Z Z Z (fun w' hw'=>bi am Z (aJ ((H.later hw').ent (i:=1) Z) Z))<|aU ?_
 intro w5 hw' _;replace H:=H.later hw';clear hw'
 refine df 12 N Z<|cu tI (Hd q.p (ez gr.a a.name a.part).1 a.n _ (Hp.paM H (hps q hqm)) hok hlq) Z Z ?_
 rintro _ w6 ⟨rfl,hb⟩;replace H:=H.later hb;clear hb
 refine U<|br 13 N N N Z Z Z Z Nq (fun _=>Yu Z)<|br 14 N N N Z Z Z Z Nq (fun _=>Xs Z Z)<|br 15 N N N Z Z Z Z Nq (fun _=>Xi Z Z)<|br 16 N N N Z Z Z Z Nq (fun _=>Xi Z Z)<|br 17 N N N Z Z Z Z Nq (fun _=>Ws Z)<|br 18 N N N Z Z Z Z Nq (fun _=>Wi Z)<|br 19 N N N Z Z Z Z Nq (fun _=>Wi Z)<|cj N<|W<|W<|Zr<|G (Yi Z)<|G (lN Z Z (by decide))<|U<|ZT Z<|W<|Zr<|G (Yi Z)<|cu bH (dS 8 _) Z Z ?_
 rintro _ w7 ⟨rfl,hb⟩;replace H:=H.later hb;clear hb
 refine bA H 0 (#[J (8),J (0),.slice none 0 0]) aL Z Z Z Z Z N N fun w8 H=>U<|Zt ?_
 exact eW (cs0:= #[J (8),J (0),.slice none 0 0]) Z aK Z (H.ent (i:=0) Z) Z ⟨_,none,0,0,0,hP,rfl,ao _,xU.nil (Bw.shut (X:=[(b4,_),(b3,_)]) row hsn hown hco hgr hps (fun _ h=>h) H Z) none⟩
theorem G9 {w0 w:World} {bb:Nat} {b:Bk} {gP:Nat} {uP:Array Value} {Ls Lo K:List (Nat×Obj)} {F:List ce} (a:Act) (B:Bw w0 w bb b gP uP Ls Lo K F) (hnm:bu a.name=true) (hpn:0<=a.part/\a.part<b.ps.length) (hn:1<=a.n/\a.n<=20) {k np:Nat} {wt:Int} (hgi:rH (fun _=>True) wt np k b.gr) (hpk: ∀ q∈b.ps,q.p.a.ok) (hw:(ez b.gr.a a.name a.part).2=0) {l:Nat} {r:gm} (hld: ∀ q,b.ps[a.part.toNat]? =some q->q.p.leader=l/\q.p.reps[l]? =some r) (hr:r.es.length<(ez b.gr.a a.name a.part).1.toNat):dt aa gK [.pointer (Qd bb),a.v] w fun v w2=> ∃ (x:An) (A:Option Addr) (c lo hi:Nat),rE b.a a x/\v=.agg #[J x.code,J x.n,.slice A x.texts.length c]/\x.texts.length<=c/\xU w0 w2 bb b K (ey mq lo hi A x.texts::F):=by
 refine aG iL Z Z ?_
 obtain⟨n,hna⟩: ∃ n:Nat,a.part=(n:Int):=⟨a.part.toNat,by omega⟩
 have htn:a.part.toNat=n:=by omega
 obtain⟨m,hnm2⟩: ∃ m:Nat,a.n=(m:Int):=⟨a.n.toNat,by omega⟩
 have htm:a.n.toNat=m:=by omega
 obtain⟨q,hq⟩: ∃ q,b.ps[n]? =some q:=⟨_,aj I⟩
 have hqm:=ab hq
 have hok:=hpk q hqm
 have hqa:b.a.ps[a.part.toNat]? =some q.p.a:=by rw[htn];show(b.ps.map fun q=>q.p.a)[n]? =_;rw[aI,hq];rfl
 obtain⟨hl1,hl2⟩:=hld q (by rw[htn];exact hq)
 have hra:q.p.a.reps[l]? =some r.a:=by show(q.p.reps.map gm.a)[l]? =_;rw[aI,hl2];rfl
 obtain⟨fr,hfr⟩: ∃ f:Nat,(ez b.gr.a a.name a.part).1=(f:Int):=⟨(ez b.gr.a a.name a.part).1.toNat,by have:=CU (g:=b.gr.a) ((Ev _).2 hgi.ok) a.name a.part;omega⟩
 have htf:(ez b.a.gr a.name a.part).1.toNat=fr:=by show(ez b.gr.a a.name a.part).1.toNat=fr;omega
 have hP:rE b.a a _:=.yes q.p.a _ hw hqa (.range l r.a hl1 hra hr)
 obtain⟨ps,pA,pC,co,clo,chi,gr,glo,ghi,sns,snA,snC⟩:=b
 obtain⟨hpA,row,hsn,hown,hco,hgr,hps,H⟩:=B
 dsimp only at hpA row hsn hown hco hgr hps
 subst hpA
 replace H:Hp w0 w ((bb,.cells #[.slice (Qd gP) ps.length pC,J (co.clock),J (co.next),J (co.wait),.slice co.A co.txs.length co.cap,J (gr.clock),J (gr.wait),J (gr.gen),.slice gr.mA gr.ms.length gr.mC,.slice gr.oA gr.os.length gr.oC,.slice snA sns.length snC] bE (0,0))::(gP,.cells uP bI (0,0))::(Ls++(Lo++K))) F:=H
 dsimp only at hpn hgi hw hq hqm hfr hr
 show CW _ _ _ _ (args [.pointer (Qd bb),.agg #[J (a.kind),.string (a.name),J (a.part),J (a.n),J (a.m),.string (a.text),J (a.lost)]]) w
 refine W<|Zr<|gY H Z Z fun w1 b3 H=>fc H dn Z fun w2 b4 H=>U<|W<|W<|Zr<|G (Yp Z)<|G (Zf fk Z)<|G (Zd am H 1 Z Z Z)<|cu d8 (oz bb ⟨ps,some ⟨gP,0,none⟩,pC,co,clo,chi,gr,glo,ghi,sns,snA,snC⟩ a.part _ (H.ent (i:=2) Z)) Z Z ?_
 rintro _ w3 ⟨rfl,hb⟩;replace H:=H.later hb;clear hb
 rw[decide_eq_true hpn]
 refine G (ee Z)<|U<|ZF Z<|Zk<|W ?_
 refine bL cD [0,1,2,3,4,5,6,7,8,9,10,11,12,13,14] [] [9] [0,1,2,3,5,7,10,11,12,13,14] (sp [(9,Sp.one (.tuple #[J (ez gr.a a.name a.part).1,J (ez gr.a a.name a.part).2]))]) N N N N Nq (cQ _) ?_
 refine aw Z Z Z Z Z (fun w' hw'=>Yp Z)<|aw Z Z Z Z Z (fun w' hw'=>aH Z)<|aw Z Z Z Z Z (fun w' hw'=>Zf aS Z)<|aw Z Z Z Z Z (fun w' hw'=>Zf jL Z)<|aw Z Z Z Z Z (fun w' hw'=>j9 5 [J (gr.clock),J (gr.wait),J (gr.gen),.slice gr.mA gr.ms.length gr.mC,.slice gr.oA gr.os.length gr.oC] aO Z Z ((H.later hw').ent (i:=2) Z) Z)<|aw Z Z Z Z Z (fun w' hw'=>Zf fu Z)<|aw Z Z Z Z Z (fun w' hw'=>bi ba Z (aJ ((H.later hw').ent (i:=1) Z) Z))<|aw Z Z Z Z Z (fun w' hw'=>Zf fk Z)<|aw Z Z Z Z Z (fun w' hw'=>bi am Z (aJ ((H.later hw').ent (i:=1) Z) Z))<|qJ m7 Z Z Z Z Z (fun w' hw'=>s5 gr a.name a.part w' (Hp.grM (H.later hw') hgr) hgi.ok hnm) Z<|aw Z Z Z Z Z (fun w' hw'=>Yu Z)<|aw Z Z Z Z Z (fun w' hw'=>Xi Z Z)<|aw Z Z Z Z Z (fun w' hw'=>Xi Z Z)<|aw Z Z Z Z Z (fun w' hw'=>Wi Z)<|aw Z Z Z Z Z (fun w' hw'=>Wi Z)<|aU ?_
 intro w4 hw' hF
 replace H:=H.later hw';clear hw' hF
 refine U<|W<|W<|Zr<|G (Yi Z)<|G (cv Z Z I)<|U<|ZF Z<|Zk<|W ?_
 refine HS cD [12,13,14,15,16,17,18,19] [] [0,1,2,3,5,7,9,10]<|jN [0,1,2,3,4,5,6,7,8,9,10,11] [12,13,14,15,16,17,18,19] [] [0,1,2,3,5,7,9,10] 7 _ N N N Nq<|aw Z Z Z Z Z (fun w' hw'=>Yp Z)<|aw Z Z Z Z Z (fun w' hw'=>aH Z)<|aw Z Z Z Z Z (fun w' hw'=>Zf aS Z)<|aw Z Z Z Z Z (fun w' hw'=>Zf dL Z)<|aw Z Z Z Z Z (fun w' hw'=>bi eA Z (aJ ((H.later hw').ent (i:=2) Z) Z))<|aw Z Z Z Z Z (fun w' hw'=>Zf fk Z)<|aw Z Z Z Z Z (fun w' hw'=>bi am Z (aJ ((H.later hw').ent (i:=1) Z) Z))<|aw Z Z Z Z Z (fun w' hw'=>cR (k:=n) iE Z (congrArg (Value.int .i64) hna) (by first|omega|(simp only[ae];omega)))<|aw Z Z Z Z Z (fun w' hw'=>pq bo row hq Z Z ((H.later hw').ent (i:=3) Z))<|aw Z Z Z Z Z (fun w' hw'=>Yi Z)<|aw Z Z Z Z Z (fun w' hw'=>Zf gp Z)<|aw Z Z Z Z Z (fun w' hw'=>bi am Z (aJ ((H.later hw').ent (i:=1) Z) Z))<|aU ?_
 intro w5 hw' _;replace H:=H.later hw';clear hw'
 refine df 12 N Z<|cu tI ((by have hA:=Fu q.p fr m l r _ (Hp.paM H (hps q hqm)) hok hl1 hl2 I;rw[<-hfr,<-hnm2]at hA;exact hA)) Z Z ?_
 rintro _ w6 ⟨rfl,hb⟩;replace H:=H.later hb;clear hb
 refine U<|br 13 N N N Z Z Z Z Nq (fun _=>Yu Z)<|br 14 N N N Z Z Z Z Nq (fun _=>Xs Z Z)<|br 15 N N N Z Z Z Z Nq (fun _=>Xi Z Z)<|br 16 N N N Z Z Z Z Nq (fun _=>Xi Z Z)<|br 17 N N N Z Z Z Z Nq (fun _=>Ws Z)<|br 18 N N N Z Z Z Z Nq (fun _=>Wi Z)<|br 19 N N N Z Z Z Z Nq (fun _=>Wi Z)<|cj N<|W<|W<|Zr<|G (Yi Z)<|G (lN Z Z (by decide))<|U<|ZT Z<|W<|Zr<|G (Yi Z)<|cu bH (dS 2 _) Z Z ?_
 rintro _ w7 ⟨rfl,hb⟩;replace H:=H.later hb;clear hb
 refine bA H 0 (#[J (2),J (0),.slice none 0 0]) aL Z Z Z Z Z N N fun w8 H=>U<|Zt ?_
 exact eW (cs0:= #[J (2),J (0),.slice none 0 0]) Z aK Z (H.ent (i:=0) Z) Z ⟨_,none,0,0,0,hP,rfl,ao _,xU.nil (Bw.shut (X:=[(b4,_),(b3,_)]) row hsn hown hco hgr hps (fun _ h=>h) H Z) none⟩
theorem NU {w0 w:World} {bb:Nat} {b:Bk} {gP:Nat} {uP:Array Value} {Ls Lo K:List (Nat×Obj)} {F:List ce} (a:Act) (B:Bw w0 w bb b gP uP Ls Lo K F) (hnm:bu a.name=true) (hpn:0<=a.part/\a.part<b.ps.length) (hn:1<=a.n/\a.n<=20) {k np:Nat} {wt:Int} (hgi:rH (fun _=>True) wt np k b.gr) (hpk: ∀ q∈b.ps,q.p.a.ok) (hw:(ez b.gr.a a.name a.part).2=0) {l:Nat} {r:gm} (hld: ∀ q,b.ps[a.part.toNat]? =some q->q.p.leader=l/\q.p.reps[l]? =some r) (hr:(ez b.gr.a a.name a.part).1.toNat<=r.es.length):dt aa gK [.pointer (Qd bb),a.v] w fun v w2=> ∃ (x:An) (A:Option Addr) (c lo hi:Nat),rE b.a a x/\v=.agg #[J x.code,J x.n,.slice A x.texts.length c]/\x.texts.length<=c/\xU w0 w2 bb b K (ey mq lo hi A x.texts::F):=by
 refine aG iL Z Z ?_
 obtain⟨n,hna⟩: ∃ n:Nat,a.part=(n:Int):=⟨a.part.toNat,by omega⟩
 have htn:a.part.toNat=n:=by omega
 obtain⟨m,hnm2⟩: ∃ m:Nat,a.n=(m:Int):=⟨a.n.toNat,by omega⟩
 have htm:a.n.toNat=m:=by omega
 obtain⟨q,hq⟩: ∃ q,b.ps[n]? =some q:=⟨_,aj I⟩
 have hqm:=ab hq
 have hok:=hpk q hqm
 have hqa:b.a.ps[a.part.toNat]? =some q.p.a:=by rw[htn];show(b.ps.map fun q=>q.p.a)[n]? =_;rw[aI,hq];rfl
 obtain⟨hl1,hl2⟩:=hld q (by rw[htn];exact hq)
 have hra:q.p.a.reps[l]? =some r.a:=by show(q.p.reps.map gm.a)[l]? =_;rw[aI,hl2];rfl
 obtain⟨fr,hfr⟩: ∃ f:Nat,(ez b.gr.a a.name a.part).1=(f:Int):=⟨(ez b.gr.a a.name a.part).1.toNat,by have:=CU (g:=b.gr.a) ((Ev _).2 hgi.ok) a.name a.part;omega⟩
 have htf:(ez b.a.gr a.name a.part).1.toNat=fr:=by show(ez b.gr.a a.name a.part).1.toNat=fr;omega
 have hP: ∀ st out bt,rN (r.es.take r.high.toNat) st->xS r.es r.high.toNat st fr m out bt->rE b.a a ⟨0,(bt:Nat),out⟩:=fun st out bt h1 h2=> .yes q.p.a _ hw hqa (.ok l r.a st out bt hl1 hra (by rw[htf];show fr<=r.es.length;omega) h1 (by rw[htf,htm];exact h2))
 obtain⟨ps,pA,pC,co,clo,chi,gr,glo,ghi,sns,snA,snC⟩:=b
 obtain⟨hpA,row,hsn,hown,hco,hgr,hps,H⟩:=B
 dsimp only at hpA row hsn hown hco hgr hps
 subst hpA
 replace H:Hp w0 w ((bb,.cells #[.slice (Qd gP) ps.length pC,J (co.clock),J (co.next),J (co.wait),.slice co.A co.txs.length co.cap,J (gr.clock),J (gr.wait),J (gr.gen),.slice gr.mA gr.ms.length gr.mC,.slice gr.oA gr.os.length gr.oC,.slice snA sns.length snC] bE (0,0))::(gP,.cells uP bI (0,0))::(Ls++(Lo++K))) F:=H
 dsimp only at hpn hgi hw hq hqm hfr hr hP
 show CW _ _ _ _ (args [.pointer (Qd bb),.agg #[J (a.kind),.string (a.name),J (a.part),J (a.n),J (a.m),.string (a.text),J (a.lost)]]) w
 refine W<|Zr<|gY H Z Z fun w1 b3 H=>fc H dn Z fun w2 b4 H=>U<|W<|W<|Zr<|G (Yp Z)<|G (Zf fk Z)<|G (Zd am H 1 Z Z Z)<|cu d8 (oz bb ⟨ps,some ⟨gP,0,none⟩,pC,co,clo,chi,gr,glo,ghi,sns,snA,snC⟩ a.part _ (H.ent (i:=2) Z)) Z Z ?_
 rintro _ w3 ⟨rfl,hb⟩;replace H:=H.later hb;clear hb
 rw[decide_eq_true hpn]
 refine G (ee Z)<|U<|ZF Z<|Zk<|W ?_
 refine bL cD [0,1,2,3,4,5,6,7,8,9,10,11,12,13,14] [] [9] [0,1,2,3,5,7,10,11,12,13,14] (sp [(9,Sp.one (.tuple #[J (ez gr.a a.name a.part).1,J (ez gr.a a.name a.part).2]))]) N N N N Nq (cQ _) ?_
 refine aw Z Z Z Z Z (fun w' hw'=>Yp Z)<|aw Z Z Z Z Z (fun w' hw'=>aH Z)<|aw Z Z Z Z Z (fun w' hw'=>Zf aS Z)<|aw Z Z Z Z Z (fun w' hw'=>Zf jL Z)<|aw Z Z Z Z Z (fun w' hw'=>j9 5 [J (gr.clock),J (gr.wait),J (gr.gen),.slice gr.mA gr.ms.length gr.mC,.slice gr.oA gr.os.length gr.oC] aO Z Z ((H.later hw').ent (i:=2) Z) Z)<|aw Z Z Z Z Z (fun w' hw'=>Zf fu Z)<|aw Z Z Z Z Z (fun w' hw'=>bi ba Z (aJ ((H.later hw').ent (i:=1) Z) Z))<|aw Z Z Z Z Z (fun w' hw'=>Zf fk Z)<|aw Z Z Z Z Z (fun w' hw'=>bi am Z (aJ ((H.later hw').ent (i:=1) Z) Z))<|qJ m7 Z Z Z Z Z (fun w' hw'=>s5 gr a.name a.part w' (Hp.grM (H.later hw') hgr) hgi.ok hnm) Z<|aw Z Z Z Z Z (fun w' hw'=>Yu Z)<|aw Z Z Z Z Z (fun w' hw'=>Xi Z Z)<|aw Z Z Z Z Z (fun w' hw'=>Xi Z Z)<|aw Z Z Z Z Z (fun w' hw'=>Wi Z)<|aw Z Z Z Z Z (fun w' hw'=>Wi Z)<|aU ?_
 intro w4 hw' hF
 replace H:=H.later hw';clear hw' hF
 refine U<|W<|W<|Zr<|G (Yi Z)<|G (cv Z Z I)<|U<|ZF Z<|Zk<|W ?_
 refine HS cD [12,13,14,15,16,17,18,19] [] [0,1,2,3,5,7,9,10]<|jN [0,1,2,3,4,5,6,7,8,9,10,11] [12,13,14,15,16,17,18,19] [] [0,1,2,3,5,7,9,10] 7 _ N N N Nq<|aw Z Z Z Z Z (fun w' hw'=>Yp Z)<|aw Z Z Z Z Z (fun w' hw'=>aH Z)<|aw Z Z Z Z Z (fun w' hw'=>Zf aS Z)<|aw Z Z Z Z Z (fun w' hw'=>Zf dL Z)<|aw Z Z Z Z Z (fun w' hw'=>bi eA Z (aJ ((H.later hw').ent (i:=2) Z) Z))<|aw Z Z Z Z Z (fun w' hw'=>Zf fk Z)<|aw Z Z Z Z Z (fun w' hw'=>bi am Z (aJ ((H.later hw').ent (i:=1) Z) Z))<|aw Z Z Z Z Z (fun w' hw'=>cR (k:=n) iE Z (congrArg (Value.int .i64) hna) (by first|omega|(simp only[ae];omega)))<|aw Z Z Z Z Z (fun w' hw'=>pq bo row hq Z Z ((H.later hw').ent (i:=3) Z))<|aw Z Z Z Z Z (fun w' hw'=>Yi Z)<|aw Z Z Z Z Z (fun w' hw'=>Zf gp Z)<|aw Z Z Z Z Z (fun w' hw'=>bi am Z (aJ ((H.later hw').ent (i:=1) Z) Z))<|aU ?_
 intro w5 hw' _;replace H:=H.later hw';clear hw'
 refine df 12 N Z<|cu tI ((by have hA:=LS q.p fr m l r _ (Hp.paM H (hps q hqm)) hok hl1 hl2 I I I;rw[<-hfr,<-hnm2]at hA;exact hA)) Z Z ?_
 rintro _ w6 ⟨sb,out,bt,A7,c7,hst7,hrd7,rfl,hr7,hc7,hb7⟩;replace H:=H.learnRd hb7 hr7;clear hr7 hb7
 refine U<|br 13 N N N Z Z Z Z Nq (fun _=>Yu Z)<|br 14 N N N Z Z Z Z Nq (fun _=>Xs Z Z)<|br 15 N N N Z Z Z Z Nq (fun _=>Xi Z Z)<|br 16 N N N Z Z Z Z Nq (fun _=>Xi Z Z)<|br 17 N N N Z Z Z Z Nq (fun _=>Ws Z)<|br 18 N N N Z Z Z Z Nq (fun _=>Wi Z)<|br 19 N N N Z Z Z Z Nq (fun _=>Wi Z)<|cj N<|W<|W<|Zr<|G (Yi Z)<|G (cv Z Z (by decide))<|U<|ZF Z<|Zk<|W<|Zr<|G (Yi Z)<|G (Ys Z)<|G (bC (cs:= #[J (0),J ((bt:Nat)),.slice A7 out.length c7]) iV dn N)<|bA H 0 (#[J (0),J ((bt:Nat)),.slice A7 out.length c7]) aL Z Z Z Z Z N N fun w7 H=>U<|Zt ?_
 exact eW (cs0:= #[J (0),J ((bt:Nat)),.slice A7 out.length c7]) Z aK Z (H.ent (i:=0) Z) Z ⟨_,A7,c7,_,_,hP _ _ _ hst7 hrd7,rfl,hc7,Bw.shut (X:=[(b4,_),(b3,_)]) row hsn hown (ai _ hco) (ai _ hgr) (fun q hq=>ai _ (hps q hq)) (fun _ h=>h) H Z⟩
section
/-- an act that the laws play -/
structure nv (np nr:Nat) (a:Act):Prop where
 kind:1<=a.kind/\a.kind<=20/\a.kind≠17/\(a.kind<=9∨a.kind=13∨16<=a.kind)
 name:a.kind=1∨a.kind=16∨a.kind=18∨a.kind=19∨a.kind=20->bu a.name=true
 part:0<=a.part/\a.part<np
 n:0<=a.n/\a.n<=1000
 rep:8<=a.kind->a.kind<=15->a.n<nr
 fin:a.kind=5->a.n<=1
 poll:a.kind=19->1<=a.n/\a.n<=20
 m:0<=a.m/\a.m<=1000
 text:a.text.size<=40
 lost:0<=a.lost/\a.lost<=2
def jx (w:Wa) (a:Act):Wa×An:=
 if a.kind=1 then l9 w a else if a.kind=2 then kL w a else if a.kind=3∨a.kind=4 then gX w a (decide (a.kind=4))else if a.kind=5 then jK w a else
 if a.kind=6 then nw w a else if a.kind=7 then wV w a else if a.kind<=15 then lY w a else wn w a
inductive qf (w:Wa) (a:Act):Wa->An->Prop
 |poll (x:An):a.kind=19->rE w a x->qf w a w x
 |other:a.kind≠19->qf w a (jx w a).1 (jx w a).2
def Nt (p:f3):Prop:= ∀ (i:Nat) (x:RA),p.reps[i]? =some x->uh x.es
theorem Nt.set {p:f3} (h:Nt p) {r:Nat} {x':RA} (hx:uh x'.es):Nt {p with reps:=p.reps.set r x'}:=fun i y hy=>by
 rcases fL hy with⟨_,rfl⟩|⟨_,hy⟩
 exact hx
 exact h i y hy
theorem Nt.adv {p:f3} (h:Nt p):Nt (m9 p):=fun i y hy=>by
 obtain⟨z,hz,he,-,-⟩:=xQ hy
 rw[he];exact h i z hz
def Gt (K:List cr) (m n:Nat) (few:Int) (p:f3):Prop:=Gd (fun _=>True) K m n few p/\Nt p
theorem Hk {K:List cr} {p:f3} (h:B3 K p) {i j:Nat} {x y:RA} (hx:p.reps[i]? =some x) (hy:p.reps[j]? =some y):x.es.take (dT x.es y.es)=y.es.take (dT x.es y.es):=by
 cases hc:dT x.es y.es with
 |zero=>simp
 |succ c=>
  obtain⟨e,f,h1,h2,h3⟩:=wo (a:=x.es) (b:=y.es) (k:=c) I
  exact h.lm i j x y c e f hx hy h1 h2 h3
theorem Kg {K:List cr} {p:f3} {r:Nat} (hp:p.ok) (hi:B3 K p) (h:Nt p) (he:(gx p r).2.2=0):Nt (gx p r).1:=by
 obtain⟨x,y,l,hx,hl,hne,hu,hy⟩:=yD hp he
 rw[qh hx hl hne hu hy]
 have hm:=Hk hi hx hy
 intro i z hz
 rcases fL hz with⟨_,rfl⟩|⟨_,hz⟩
 unfold im
 split
 rename_i z hz
 dsimp only
 rw[hm,<-d6 hz];exact(h l y hy).take _
 dsimp only
 exact(h r x hx).take _
 rcases fL hz with⟨_,rfl⟩|⟨_,hz⟩
 exact h l y hy
 exact h i z hz
variable {K:List cr} {m n:Nat} {few:Int} {p:f3} {r:Nat}
theorem Pv {e:cr} (h:Gt K m n few p) (hm:m<400) (he:(eu p e).2.2=0): ∃ K',K<+:K'/\Gt K' (m+1) n few (eu p e).1:=by
 obtain⟨K',h1,h2⟩:=Px h.1 trivial hm he
 refine⟨K',h1,h2,?_⟩
 obtain⟨x,l,hl,hx,hg,hv,hS⟩:=D5 he
 rcases hS with⟨-,hS,-⟩|⟨hv1,-,hS,-⟩
 rw[hS];exact h.2
 rw[hS];exact h.2.set (.snoc (h.2 l x hx) hv hv1)
theorem NJ {a:Act} (h:Gt K m n few p) (he:(jj p a).2.2=0): ∃ K',K<+:K'/\Gt K' m n few (jj p a).1:=by
 unfold jj at he⊢
 split at he
 rename_i c;rw[if_pos c]
 obtain⟨K',h1,h2⟩:=MO h.1 he
 exact⟨K',h1,h2,Kg h.1.ok h.1.inv h.2 he⟩
 rename_i c;rw[if_neg c];clear c
 split at he
 rename_i c;rw[if_pos c]
 obtain⟨K',h1,h2⟩:=NC h.1 he
 refine⟨K',h1,h2,?_⟩
 obtain⟨x,hx,hu,hS⟩:=Ae he
 dsimp only at hS⊢
 rw[hS]
 have:=h.2 _ x hx
 split
 exact Nt.adv (fun i y hy=>by
  rcases fL hy with⟨_,rfl⟩|⟨_,hy⟩
  exact this
  exact h.2 i y hy)
 exact h.2.set this
 rename_i c;rw[if_neg c];clear c
 obtain⟨K',h1,h2⟩:=MY h.1 he
 refine⟨K',h1,h2,?_⟩
 obtain⟨x,hx,-,-,-,-,hS⟩:=Dy h.1.ok.isrl he
 dsimp only at hS⊢
 rw[hS]
 exact Nt.adv fun i y hy=>h.2 i y hy
structure Nu (np nr:Nat) (few:Int) (k:Nat) (K:Nat->List cr) (ps:List f3):Prop where
 len:ps.length=np
 gt: ∀ (n:Nat) (p:f3),ps[n]? =some p->Gt (K n) k nr few p
theorem Gt.mono (h:Gt K m n few p) {m':Nat} (hm:m<=m'):Gt K m' n few p:=⟨h.1.mono hm,h.2⟩
theorem Nu.more {np nr k k':Nat} {few:Int} {K:Nat->List cr} {ps:List f3} (h:Nu np nr few k K ps) (hk:k<=k'):Nu np nr few k' K ps:=⟨h.len,fun n p hp=>(h.gt n p hp).mono hk⟩
def Up (K K':Nat->List cr):Prop:= ∀ n,K n<+:K' n
theorem Up.refl (K:Nat->List cr):Up K K:=fun _=>kb _
theorem Up.trans {K K' K2:Nat->List cr} (h:Up K K') (h':Up K' K2):Up K K2:=fun n=>(h n).trans (h' n)
theorem Nu.set {np nr k:Nat} {few:Int} {K:Nat->List cr} {ps:List f3} (h:Nu np nr few k K ps) {n:Nat} {p':f3} (hg: ∃ K',K n<+:K'/\Gt K' k nr few p'): ∃ K',Up K K'/\Nu np nr few k K' (ps.set n p'):=by
 obtain⟨K1,h1,h2⟩:=hg
 refine⟨fun i=>if i=n then K1 else K i,fun i=> ?_,by rw[ae];exact h.len,fun i q hq=> ?_⟩
 dsimp only
 split
 rename_i hi;rw[hi];exact h1
 exact kb _
 rcases fL hq with⟨rfl,rfl⟩|⟨hi,hq⟩
 rw[if_pos Z];exact h2
 rw[if_neg hi];exact h.gt i q hq
structure KN (np k:Nat) (s:Sn):Prop where
 nm:bu s.name=true
 sl:s.seqs.length=np
 ll:s.last.length=np
 sq: ∀ q∈s.seqs,0<=q/\q<=k
structure CO (np k:Nat) (l:List Sn):Prop where
 each: ∀ s∈l,KN np k s
 few:l.length<=k
theorem KN.more {np k k':Nat} {s:Sn} (h:KN np k s) (hk:k<=k'):KN np k' s:=⟨h.nm,h.sl,h.ll,fun q hq=>by have:=h.sq q hq;omega⟩
theorem CO.more {np k k':Nat} {l:List Sn} (h:CO np k l) (hk:k<=k'):CO np k' l:=⟨fun s hs=>(h.each s hs).more hk,aV h.few hk⟩
theorem CO.set {np k i:Nat} {l:List Sn} {s:Sn} (h:CO np k l) (hs:KN np k s):CO np k (l.set i s):=⟨fun x hx=>by
 rcases aA hx with hx|rfl
 exact h.each x hx
 exact hs,by rw[ae];exact h.few⟩
structure WI (np nr:Nat) (few wt:Int) (k:Nat) (K:Nat->List cr) (w:Wa):Prop where
 ps:Nu np nr few k K w.ps
 co:pi k w.co
 gr:rH (fun _=>True) wt np k w.gr
 sns:CO np k w.sns
theorem WI.more {np nr k k':Nat} {few wt:Int} {K:Nat->List cr} {w:Wa} (h:WI np nr few wt k K w) (hk:k<=k'):WI np nr few wt k' K w:=⟨h.ps.more hk,h.co.more hk,h.gr.more hk,h.sns.more hk⟩
theorem vi {l:List Sn} {s:ByteArray} {i:Nat} {x:Sn} (h:((eR l s).bind fun i=>l[i]?.map fun s=>(i,s))=some (i,x)):l[i]? =some x/\x.name=s:=by
 cases hf:eR l s with
 |none=>rw[hf]at h;cases h
 |some j=>
  rw[hf]at h
  obtain⟨hl,h1,-⟩:=aP.1 hf
  simp only[fB,aj hl,eQ,lH,Prod.mk.injEq]at h
  obtain⟨rfl,rfl⟩:=h
  exact⟨aj hl,by simpa using h1⟩
end
theorem OC {c:Co} {s:ByteArray} (h: ∀ t∈c.txs,t.name≠s):fY c s=none:=by
 unfold fY
 rw[cL.2 fun t ht=>decide_eq_false (h t ht)]
 rfl
abbrev QB:ByteArray:=⟨#[100,101,101]⟩
def wt2 (k:Nat):Co:=⟨0,2,k,[⟨QB,1,0,2,[1],0,0,none,0⟩],none,0⟩
section
variable {np nr k:Nat} {few wt:Int} {K:Nat->List cr} {w:Wa} {a:Act}
theorem Oa {s:ByteArray} (h:bu s=true) (pid ver:Int) (np k:Nat):KN np k (rh s pid ver np):=⟨h,by simp[rh],by simp[rh],fun q hq=>by
 have:q=0:=by
  unfold rh at hq
  exact cT hq
 omega⟩
theorem NS {l:List Sn} {s:Sn} (h:CO np k l) (hs:KN np (k+1) s):CO np (k+1) (vF l s):=by
 unfold vF
 split
 refine⟨fun x hx=> ?_,by have:=h.few;simp;omega⟩
 rcases ap.1 hx with hx|hx
 exact(h.each x hx).more (bx k)
 rw[ar.1 hx];exact hs
 exact(h.more (bx k)).set hs
theorem pp (h:WI np nr few wt k K w) (e:Int): ∃ K',Up K K'/\WI np nr few wt (k+1) K' (kf w e).1:=⟨K,Up.refl K,h.more (bx k)⟩
theorem Ot (h:WI np nr few wt k K w) (hk:k<400) (hn:bu a.name=true): ∃ K',Up K K'/\WI np nr few wt (k+1) K' (l9 w a).1:=by
 unfold l9
 split
 rename_i h0
 exact⟨K,Up.refl K,h.ps.more (bx k),IQ h.co I hn h0,h.gr.more (bx k),NS h.sns (by rw[h.ps.len];exact Oa hn ..)⟩
 exact pp h _
theorem M6 (h:WI np nr few wt k K w): ∃ K',Up K K'/\WI np nr few wt (k+1) K' (kL w a).1:=by
 unfold kL
 split
 exact pp h _
 rename_i i s hf
 split
 exact pp h _
 have hs:=h.sns.each s (ab (vi hf).1)
 exact⟨K,Up.refl K,h.ps.more (bx k),h.co.more (bx k),h.gr.more (bx k),(h.sns.set (s:={s with inn:=true}) ⟨hs.nm,hs.sl,hs.ll,hs.sq⟩).more (bx k)⟩
theorem LK (h:Nu np nr few k K w.ps) (hk:k<400) (n:Nat) (x:cr):(∃ K',Up K K'/\Nu np nr few (k+1) K' (lk w n x).1.ps)/\(lk w n x).1.co=w.co/\(lk w n x).1.gr=w.gr/\(lk w n x).1.sns=w.sns:=by
 unfold lk
 split
 exact⟨⟨K,Up.refl K,h.more (bx k)⟩,rfl,rfl,rfl⟩
 rename_i p hp
 split
 rename_i h0
 exact⟨(h.more (bx k)).set (Pv (h.gt n p hp) hk h0),rfl,rfl,rfl⟩
 exact⟨⟨K,Up.refl K,h.more (bx k)⟩,rfl,rfl,rfl⟩
theorem Kp (h:Nu np nr few k K w.ps) (hc:pi k w.co) (hk:k<400) (s:Sn) {n:Nat} (hn:n<4):(∃ K',Up K K'/\Nu np nr few (k+1) K' (dE w s n).1.ps)/\pi (k+1) (dE w s n).1.co/\(dE w s n).1.gr=w.gr/\(dE w s n).1.sns=w.sns:=by
 unfold dE
 split
 exact⟨⟨K,Up.refl K,h.more (bx k)⟩,hc.more (bx k),rfl,rfl⟩
 rename_i x hx
 split
 rename_i h0
 obtain⟨h1,h2,h3,h4⟩:=LK (w:={w with co:=(oa w s n x).1}) h hk n x
 refine⟨h1,?_,h3,h4⟩
 rw[h2]
 show pi (k+1) (oa w s n x).1
 unfold oa at h0⊢
 split
 rename_i ht
 rw[if_pos ht]at h0
 exact Ja hc I I h0
 exact hc.more (bx k)
 exact⟨⟨K,Up.refl K,h.more (bx k)⟩,hc.more (bx k),rfl,rfl⟩
theorem Mi {s:Sn} (h:KN np k s) (n:Nat) (t:ByteArray):KN np (k+1) (eM s n t):=⟨h.nm,by unfold eM;simp[h.sl],by unfold eM;simp[h.ll],fun q hq=>by
 rcases aA hq with hq|rfl
 have:=h.sq q hq;omega
 by_cases hn:n<s.seqs.length
 have:=h.sq (s.seqs.getD n 0) (by rw[cS,aj hn];exact vZ hn);omega
 have:s.seqs.getD n 0=0:=by rw[cS,bX I];rfl
 omega⟩
theorem NG (h:WI np nr few wt k K w) (hk:k<400) (hp:0<=a.part/\a.part<np) (h4:np<=4) (again:Bool): ∃ K',Up K K'/\WI np nr few wt (k+1) K' (gX w a again).1:=by
 unfold gX
 split
 exact pp h _
 rename_i i s hf
 split
 exact pp h _
 have hs:=h.sns.each s (ab (vi hf).1)
 have hs1:KN np (k+1) (if again then s else eM s a.part.toNat a.text):=by
  split
  exact hs.more (bx k)
  exact Mi hs _ _
 generalize (if again then s else eM s a.part.toNat a.text)=s1 at hs1
 have hl:CO np (k+1) (w.sns.set i s1):=(h.sns.more (bx k)).set hs1
 dsimp only
 split
 exact⟨K,Up.refl K,h.ps.more (bx k),h.co.more (bx k),h.gr.more (bx k),hl⟩
 obtain⟨⟨K',h1,h2⟩,h3,h5,h6⟩:=Kp (w:={w with sns:=w.sns.set i s1}) h.ps h.co hk s1 (n:=a.part.toNat) I
 exact⟨K',h1,h2,h3,by rw[h5];exact h.gr.more (bx k),by rw[h6];exact hl⟩
theorem M2 {s:Sn} (h:KN np k s):KN np k (tB s):=⟨h.nm,h.sl,by unfold tB;simp[h.ll],h.sq⟩
theorem Ke (h:WI np nr few wt k K w): ∃ K',Up K K'/\WI np nr few wt (k+1) K' (jK w a).1:=by
 unfold jK
 split
 exact pp h _
 rename_i i s hf
 split
 exact pp h _
 split
 exact pp h _
 have hs:=h.sns.each s (ab (vi hf).1)
 split
 rename_i h0
 refine⟨K,Up.refl K,h.ps.more (bx k),I1 h.co h0,h.gr.more (bx k),?_⟩
 dsimp only
 split
 exact(h.sns.set (M2 hs)).more (bx k)
 exact h.sns.more (bx k)
 exact⟨K,Up.refl K,h.more (bx k)⟩
theorem Oe (h:WI np nr few wt k K w) (hk:k<400): ∃ K',Up K K'/\WI np nr few wt (k+1) K' (nw w a).1:=by
 unfold nw
 split
 exact pp h _
 rename_i t ht
 obtain⟨⟨i,hf⟩,h34,hp,h0,h4⟩:=yo h.co.ok ht
 obtain⟨⟨K',h1,h2⟩,h3,h5,h6⟩:=LK h.ps hk (t.parts.headD 0).toNat (de t)
 split
 exact⟨K',h1,h2,Gn h.co (BE hf h34 hp),by rw[h5];exact h.gr.more (bx k),by rw[h6];exact h.sns.more (bx k)⟩
 exact⟨K',h1,h2,by rw[h3];exact h.co.more (bx k),by rw[h5];exact h.gr.more (bx k),by rw[h6];exact h.sns.more (bx k)⟩
theorem NA (h:WI np nr few wt k K w) (hk:k<400) (h4:np<=4) (hn:0<=a.n/\a.n<=1000): ∃ K',Up K K'/\WI np nr few wt (k+1) K' (wV w a).1:=by
 unfold wV
 exact⟨K,Up.refl K,h.ps.more (bx k),E7 h.co I hn.1 (by unfold ip;rw[if_neg I]),by dsimp only;rw[h.ps.len];exact h.gr.tick h4 I hn.1 hn.2,h.sns.more (bx k)⟩
theorem NI (h:WI np nr few wt k K w): ∃ K',Up K K'/\WI np nr few wt (k+1) K' (lY w a).1:=by
 unfold lY
 split
 exact pp h _
 rename_i p hp
 split
 rename_i h0
 obtain⟨K',h1,h2⟩:=h.ps.set (NJ (h.ps.gt _ p hp) h0)
 exact⟨K',h1,h2.more (bx k),h.co.more (bx k),h.gr.more (bx k),h.sns.more (bx k)⟩
 exact pp h _
theorem PH (h:WI np nr few wt k K w) (hk:k<400) (h4:np<=4) (hn:a.kind=16->bu a.name=true) (hm:0<=a.m): ∃ K',Up K K'/\WI np nr few wt (k+1) K' (wn w a).1:=by
 unfold wn
 split
 rename_i h0
 refine⟨K,Up.refl K,h.ps.more (bx k),h.co.more (bx k),?_,h.sns.more (bx k)⟩
 show rH _ wt np (k+1) (AL w a).1
 unfold AL at h0⊢
 rw[h.ps.len]at h0⊢
 split
 rename_i c
 rw[if_pos c]at h0
 exact h.gr.join h4 I (hn c) trivial h0
 rename_i c;rw[if_neg c]at h0
 split
 rename_i c2
 rw[if_pos c2]at h0
 exact h.gr.beat h0
 rename_i c2
 rw[if_neg c2]at h0
 exact h.gr.store hm h0
 exact pp h _
theorem E0 (h:WI np nr few wt k K w) (hk:k<400) (h4:np<=4) (g:nv np nr a) {w':Wa} {x:An} (hA:qf w a w' x): ∃ K',Up K K'/\WI np nr few wt (k+1) K' w':=by
 cases hA with
 |poll x h19 hp=>exact⟨K,Up.refl K,h.more (bx k)⟩
 |other h19=>
  unfold jx
  split
  rename_i c;exact Ot h hk (g.name (.inl c))
  split
  exact M6 h
  split
  exact NG h hk g.part h4 _
  split
  exact Ke h
  split
  exact Oe h hk
  split
  exact NA h hk h4 g.n
  split
  exact NI h
  exact PH h hk h4 (fun c=>g.name (.inr (.inl c))) g.m.1
def mP (np nr:Nat) (few wt:Int):Wa:=⟨aq np (mQ nr few.toNat),⟨0,1,wt,[],none,0⟩,⟨0,wt,0,[],none,0,[],none,0⟩,[]⟩
theorem IF {few:Nat} (n1:1<=nr) (n5:nr<=5) (f1:1<=few) (f2:few<=nr) (w1:1<=wt) (w2:wt<=1000):WI np nr few wt 0 (fun _=>[]) (mP np nr few wt):=by
 refine⟨⟨by simp[mP],fun n p hp=> ?_⟩,⟨gb.2 ⟨⟨(by decide:iP 0=true),by simp[mP],by simp[mP],w1,w2,by simp[mP]⟩,by simp[mP],by simp[mP,v7]⟩,by simp[mP],by simp[mP],by simp[mP]⟩,Ob _ np w1 w2,⟨by simp[mP],by simp[mP]⟩⟩
 have hpe:p=mQ nr few:=by
  unfold mP at hp
  simp only[fv]at hp
  split at hp
  cases hp;simp
  cases hp
 rw[hpe]
 refine⟨Eb n1 n5 f1 f2,?_⟩
 intro i x hx
 unfold mQ at hx
 simp only[fv]at hx
 split at hx
 cases hx;exact .nil
 cases hx
end
section
theorem JB {es:List cr} {n st a most b b':Nat} {out out':List ByteArray} (h:xS es n st a most out b) (h':xS es n st a most out' b'):out=out'/\b=b':=by
 obtain⟨h1,h2,h3,h4,h5,h6⟩:=h
 obtain⟨g1,g2,g3,g4,g5,g6⟩:=h'
 have hb:b=b':=by
  rcases Nat.lt_trichotomy b b' with hlt|he|hlt
  have:=g6 b h1 hlt
  rw[<-h3]at this
  omega
  exact he
  have:=h6 b' g1 hlt
  rw[<-g3]at this
  omega
 subst hb
 exact⟨h3.trans g3.symm,rfl⟩
theorem JC {p:f3} {a most:Nat} {x y:An} (h:DG p a most x) (h':DG p a most y):x=y:=by
 cases h with
 |none h1=>
  cases h' with
  |none=>rfl
  |range l r g1=>omega
  |ok l r st out b g1=>omega
 |range l r h1 h2 h3=>
  cases h' with
  |none g1=>omega
  |range=>rfl
  |ok l' r' st out b g1 g2 g3=>
   have:l'=l:=by omega
   subst this
   rw[h2]at g2;cases g2;omega
 |ok l r st out b h1 h2 h3 h4 h5=>
  cases h' with
  |none g1=>omega
  |range l' r' g1 g2 g3=>
   have:l'=l:=by omega
   subst this
   rw[h2]at g2;cases g2;omega
  |ok l' r' st' out' b' g1 g2 g3 g4 g5=>
   have:l'=l:=by omega
   subst this
   rw[h2]at g2;cases g2
   have:=Hv h4 g4
   subst this
   obtain⟨rfl,rfl⟩:=JB h5 g5
   rfl
theorem JG {w:Wa} {a:Act} {x y:An} (h:rE w a x) (h':rE w a y):x=y:=by
 cases h with
 |no h1=>
  cases h' with
  |no=>rfl
  |yes p x g1=>exact absurd g1 h1
 |yes p x h1 h2 h3=>
  cases h' with
  |no g1=>exact absurd h1 g1
  |yes p' y g1 g2 g3=>
   rw[h2]at g2;cases g2
   exact JC h3 g3
theorem Nr {w:Wa} {a:Act} {w1 w2:Wa} {x y:An} (h:qf w a w1 x) (h':qf w a w2 y):w1=w2/\x=y:=by
 cases h with
 |poll x h1 h2=>
  cases h' with
  |poll y g1 g2=>exact⟨rfl,JG h2 g2⟩
  |other g1=>exact absurd h1 g1
 |other h1=>
  cases h' with
  |poll y g1 g2=>exact absurd g1 h1
  |other g1=>exact⟨rfl,rfl⟩
inductive kN:Wa->List Act->List An->Wa->Prop
 |nil (w:Wa):kN w [] [] w
 |cons {w w1 w2:Wa} {a:Act} {x:An} {l:List Act} {xs:List An}:qf w a w1 x->kN w1 l xs w2->kN w (a::l) (x::xs) w2
theorem kN.app {w w1 w2:Wa} {l m:List Act} {xs ys:List An} (h:kN w l xs w1) (h':kN w1 m ys w2):kN w (l++m) (xs++ys) w2:=by
 induction h with
 |nil=>exact h'
 |cons h1 _ ih=>exact .cons h1 (ih h')
theorem kN.snoc {w w1 w2:Wa} {l:List Act} {a:Act} {xs:List An} {x:An} (h:kN w l xs w1) (h':qf w1 a w2 x):kN w (l++[a]) (xs++[x]) w2:=h.app (.cons h' (.nil _))
theorem kN.len {w w1:Wa} {l:List Act} {xs:List An} (h:kN w l xs w1):xs.length=l.length:=by
 induction h with
 |nil=>rfl
 |cons _ _ ih=>simp[ih]
theorem kN.det {w w1 w2:Wa} {l:List Act} {xs ys:List An} (h:kN w l xs w1) (h':kN w l ys w2):xs=ys/\w1=w2:=by
 induction h generalizing ys w2 with
 |nil=>cases h';exact⟨rfl,rfl⟩
 |cons h1 _ ih=>
  cases h' with
  |cons g1 g2=>
   obtain⟨rfl,rfl⟩:=Nr h1 g1
   obtain⟨rfl,rfl⟩:=ih g2
   exact⟨rfl,rfl⟩
theorem kN.split {w w2:Wa} {l m:List Act} {xs:List An} (h:kN w (l++m) xs w2): ∃ ys zs w1,xs=ys++zs/\kN w l ys w1/\kN w1 m zs w2:=by
 induction l generalizing w xs with
 |nil=>exact⟨[],xs,w,rfl,.nil w,h⟩
 |cons a l ih=>
  cases h with
  |cons h1 h2=>
   obtain⟨ys,zs,w1,rfl,h3,h4⟩:=ih h2
   exact⟨_::ys,zs,w1,rfl,.cons h1 h3,h4⟩
theorem kN.later {w w1 w2:Wa} {l m:List Act} {xs ys:List An} (h:kN w l xs w1) (h':kN w (l++m) ys w2): ∃ zs,ys=xs++zs:=by
 obtain⟨us,zs,w3,rfl,h1,h2⟩:=h'.split
 obtain⟨rfl,-⟩:=h.det h1
 exact⟨zs,rfl⟩
variable {np nr k:Nat} {few wt:Int} {K:Nat->List cr} {w:Wa}
theorem Pr {w w1:Wa} {l:List Act} {xs:List An} (h:kN w l xs w1): ∀ {k:Nat} {K:Nat->List cr},WI np nr few wt k K w->k+l.length<=400->np<=4->(∀ a∈l,nv np nr a)-> ∃ K',Up K K'/\WI np nr few wt (k+l.length) K' w1:=by
 induction h with
 |nil=>intro k K hw _ _ _;exact⟨K,Up.refl K,hw⟩
 |@cons w wa wb a x l xs h1 _ ih=>
  intro k K hw hk h4 hg
  simp only[bf]at hk
  obtain⟨K1,u1,i1⟩:=E0 hw I h4 (hg a (az ..)) h1
  obtain⟨K2,u2,i2⟩:=ih i1 I h4 fun b hb=>hg b (ai _ hb)
  exact⟨K2,u1.trans u2,by simpa [ls,DI 1]using i2⟩
end
section
/-- what an act yields -/
def BY (b:Bk) (a:Act) (w0:World) (bb:Nat) (K:List (Nat×Obj)) (F:List ce) (v:Value) (w2:World):Prop:=
 ∃ (b':Bk) (x:An) (A:Option Addr) (c lo hi:Nat),qf b.a a b'.a x/\v=.agg #[J x.code,J x.n,.slice A x.texts.length c]/\x.texts.length<=c/\xU w0 w2 bb b' K (ey mq lo hi A x.texts::F)
theorem uR {b:Bk} {a:Act} {w0 w:World} {bb:Nat} {K:List (Nat×Obj)} {F:List ce} {f:FuncId} {args:List Value} {s:Wa×An} (h19:a.kind≠19) (hs:jx b.a a=s) (ht:s.2.texts=[]) (h:dt aa f args w fun v w2=> ∃ b':Bk,pn s.2 v w2/\b'.a=s.1/\xU w0 w2 bb b' K F):dt aa f args w (BY b a w0 bb K F):=
 h.mono fun v w2 ⟨b',⟨A,c,h1,h2,_⟩,h4,h5⟩=>⟨b',s.2,A,c,0,0,by rw[h4,<-hs];exact .other h19,h1,h2,by rw[ht];exact h5.nil A⟩
variable {w0 w:World} {bb gP:Nat} {b:Bk} {uP:Array Value} {Ls Lo K:List (Nat×Obj)} {F:List ce} {np nr k:Nat} {few wt:Int} {M:Nat->List cr} {a:Act}
theorem Bw.facts (_:Bw w0 w bb b gP uP Ls Lo K F) (hw:WI np nr few wt k M b.a) (hk:k<400):b.ps.length=np/\b.sns.length<=1000000/\pi k b.co/\rH (fun _=>True) wt np k b.gr/\ ∀ q∈b.ps,q.p.a.ok/\q.p.reps.length=nr/\ ∀ (l:Nat) (y:gm),q.p.leader=l->q.p.reps[l]? =some y->y.es.length<400:=by
 have h1:=hw.ps.len
 have h2:=hw.sns.few
 rw[show b.a.ps=b.ps.map fun q=>q.p.a from rfl,bc]at h1
 rw[show b.a.sns=b.sns.map Sn.a from rfl,bc]at h2
 refine⟨h1,by omega,pi.of_a hw.co,rH.of_a hw.gr,fun q hq=> ?_⟩
 obtain⟨n,hn⟩:=aN.1 hq
 have hg:=(hw.ps.gt n q.p.a (by rw[show b.a.ps=b.ps.map fun q=>q.p.a from rfl,aI,hn];rfl)).1
 refine⟨hg.ok,by have:=hg.len;rwa[show q.p.a.reps=q.p.reps.map gm.a from rfl,bc]at this,fun l y _ hy=> ?_⟩
 have:=hg.small l y.a (by rw[show q.p.a.reps=q.p.reps.map gm.a from rfl,aI,hy];rfl)
 have:y.es.length<=k:=this
 omega
theorem Bw.sender (hw:WI np nr few wt k M b.a) {i:Nat} {x:Sn} (hx:b.sns[i]? =some x):bu x.name=true/\x.seqs.length=np/\x.last.length=np/\ ∀ q∈x.seqs,0<=q/\q<=k:=by
 have h:=hw.sns.each x.a (bF (f:=Sn.a) (ab hx))
 exact⟨h.nm,h.sl,h.ll,h.sq⟩
theorem za (w:Wa) (a:Act):(l9 w a).2.texts=[]:=by unfold l9;split<;>rfl
theorem xM (w:Wa) (a:Act):(kL w a).2.texts=[]:=by
 unfold kL
 split
 rfl
 split<;>rfl
theorem y0 (w:Wa) (a:Act) (ag:Bool):(gX w a ag).2.texts=[]:=by
 unfold gX
 split
 rfl
 split
 rfl
 dsimp only
 split
 rfl
 exact lM _ (kH ..)
theorem vN (w:Wa) (a:Act):(jK w a).2.texts=[]:=by
 unfold jK
 split
 rfl
 split
 rfl
 split
 rfl
 split<;>exact lM _ Z
theorem y7 (w:Wa) (a:Act):(nw w a).2.texts=[]:=by
 unfold nw
 split
 rfl
 split<;>exact As ..
theorem y3 (w:Wa) (a:Act):(lY w a).2.texts=[]:=by
 unfold lY
 split
 rfl
 split<;>rfl
theorem AK (w:Wa) (a:Act):(wn w a).2.texts=[]:=by unfold wn;split<;>rfl
theorem qe (a:Act) (w:Wa):(a.kind=1->jx w a=l9 w a)/\(a.kind=2->jx w a=kL w a)/\(a.kind=3∨a.kind=4->jx w a=gX w a (decide (a.kind=4)))/\(a.kind=5->jx w a=jK w a)/\(a.kind=6->jx w a=nw w a)/\(a.kind=7->jx w a=wV w a)/\(8<=a.kind/\a.kind<=15->jx w a=lY w a)/\(16<=a.kind->jx w a=wn w a):=by
 unfold jx
 refine⟨fun h=> ?_,fun h=> ?_,fun h=> ?_,fun h=> ?_,fun h=> ?_,fun h=> ?_,fun h=> ?_,fun h=> ?_⟩<;>(repeat (first|rw[if_pos I]|rw[if_neg I]))
theorem PM (A B C X K:List (Nat×Obj)):(A++(B++(C++(X++K)))).Perm (X++(A++(B++(C++K)))):=by
 rw[show A++(B++(C++(X++K)))=(A++B++C)++(X++K) by simp,show A++(B++(C++K))=(A++B++C)++K by simp]
 exact gj (A++B++C) X K
theorem Bw.into {w2:World} (B:Bw w0 w bb b gP uP Ls Lo K F) (X:List (Nat×Obj)) (H:Hp w0 w2 (X++((bb,.cells b.c.toArray bE (0,0))::(gP,.cells uP bI (0,0))::(Ls++(Lo++K)))) F):Bw w0 w2 bb b gP uP Ls Lo (X++K) F:=
 ⟨B.pA,B.row,B.sn,B.own,B.co,B.gr,B.ps,H.perm (PM [(bb,_),(gP,_)] Ls Lo X K)⟩
theorem Bw.out {X:List (Nat×Obj)} (B:Bw w0 w bb b gP uP Ls Lo (X++K) F):Hp w0 w (X++((bb,.cells b.c.toArray bE (0,0))::(gP,.cells uP bI (0,0))::(Ls++(Lo++K)))) F:=B.H.perm (PM [(bb,_),(gP,_)] Ls Lo X K).symm
theorem Bw.at_ {w2:World} {K1:List (Nat×Obj)} (B:Bw w0 w bb b gP uP Ls Lo K1 F) (X:List (Nat×Obj)) (H:Hp w0 w2 (X++((bb,.cells b.c.toArray bE (0,0))::(gP,.cells uP bI (0,0))::(Ls++(Lo++K)))) F):Bw w0 w2 bb b gP uP Ls Lo K F:=
 ⟨B.pA,B.row,B.sn,B.own,B.co,B.gr,B.ps,H.forget (bZ X _) (fun _ h=>h)⟩
theorem zV {l:List Sn} {s:ByteArray} {i:Nat} (h:eR l s=some i): ∃ x,l[i]? =some x:=by
 obtain⟨x,h1,-⟩:=GW h
 exact⟨x,h1⟩
theorem Mu (B:Bw w0 w bb b gP uP Ls Lo K F) (hw:WI np nr few wt k M b.a) (hk:k<400) (h4:np<=4) (g:nv np nr a) (h1:1<=np) (hkd:a.kind=1):dt aa ks [.pointer (Qd bb),a.v] w (BY b a w0 bb K F):=by
 obtain⟨hln,hsl,hcb,hgi,hpk⟩:=B.facts hw hk
 refine uR I ((qe a b.a).1 hkd) (za ..) ?_
 cases hix:eR b.sns a.name with
 |none=>exact J5 a B hsl (g.name (.inl hkd)) hcb I I I hix
 |some i=>
  obtain⟨x,hx⟩:=zV hix
  exact J4 a B hsl (g.name (.inl hkd)) hcb I I I hix hx
theorem Ks (B:Bw w0 w bb b gP uP Ls Lo K F) (hw:WI np nr few wt k M b.a) (hk:k<400) (_:np<=4) (_:nv np nr a) (hkd:a.kind=2):dt aa j4 [.pointer (Qd bb),a.v] w (BY b a w0 bb K F):=by
 obtain⟨-,hsl,-⟩:=B.facts hw hk
 refine uR I ((qe a b.a).2.1 hkd) (xM ..) ?_
 cases hix:eR b.sns a.name with
 |none=>exact HX a B hsl hix
 |some i=>
  obtain⟨x,hx⟩:=zV hix
  exact HW a B hsl hix hx
theorem Fk (B:Bw w0 w bb b gP uP Ls Lo K F) (hw:WI np nr few wt k M b.a) (hk:k<400) (h4:np<=4) (g:nv np nr a) (hkd:a.kind=3∨a.kind=4):dt aa i9 [.pointer (Qd bb),a.v,.bool (decide (a.kind=4))] w (BY b a w0 bb K F):=by
 obtain⟨hln,hsl,hcb,-,hpk⟩:=B.facts hw hk
 refine uR I ((qe a b.a).2.2.1 hkd) (y0 ..) ?_
 have hpn:=g.part
 cases hix:eR b.sns a.name with
 |none=>exact Jx a B hsl (decide (a.kind=4)) hix
 |some i=>
  obtain⟨x,hx⟩:=zV hix
  obtain⟨s1,s2,s3,s4⟩:=Bw.sender hw hx
  have hpk2:=fun(q:Pq) hq=>(⟨(hpk q hq).1,(hpk q hq).2.2⟩:q.p.a.ok/\ ∀ (l:Nat) (y:gm),q.p.leader=(l:Int)->q.p.reps[l]? =some y->y.es.length<400)
  by_cases h4k:a.kind=4
  rw[decide_eq_true h4k]
  exact G1 a B hsl hix hx I g.lost I I I s1 hcb hpk2
  rw[decide_eq_false h4k]
  exact LC a B hsl hix hx I g.lost I I I s1 hcb hpk2 g.text (fun q hq=>by have:=s4 q hq;omega)
theorem Bx (B:Bw w0 w bb b gP uP Ls Lo K F) (hw:WI np nr few wt k M b.a) (hk:k<400) (h4:np<=4) (g:nv np nr a) (hkd:a.kind=5):dt aa jJ [.pointer (Qd bb),a.v] w (BY b a w0 bb K F):=by
 obtain⟨-,hsl,hcb,-⟩:=B.facts hw hk
 refine uR I ((qe a b.a).2.2.2.1 hkd) (vN ..) ?_
 cases hix:eR b.sns a.name with
 |none=>exact Ga a B hsl hix
 |some i=>
  obtain⟨x,hx⟩:=zV hix
  obtain⟨s1,-,s3,-⟩:=Bw.sender hw hx
  exact F8 a B hsl hix hx g.lost ⟨g.n.1,g.fin hkd⟩ I s1 hcb
theorem FF (B:Bw w0 w bb b gP uP Ls Lo K F) (hw:WI np nr few wt k M b.a) (hk:k<400) (_:np<=4) (g:nv np nr a) (hkd:a.kind=6):dt aa kr [.pointer (Qd bb),a.v] w (BY b a w0 bb K F):=by
 obtain⟨-,-,hcb,-,hpk⟩:=B.facts hw hk
 refine uR I ((qe a b.a).2.2.2.2.1 hkd) (y7 ..) ?_
 have hpk2:=fun(q:Pq) hq=>(⟨(hpk q hq).1,(hpk q hq).2.2⟩:q.p.a.ok/\ ∀ (l:Nat) (y:gm),q.p.leader=(l:Int)->q.p.reps[l]? =some y->y.es.length<400)
 cases hne:ij b.co.a.txs a.n.toNat with
 |none=>exact JV a B hcb g.n hne
 |some t=>exact JU a B hcb g.n hpk2 hne
theorem E6 (B:Bw w0 w bb b gP uP Ls Lo K F) (hw:WI np nr few wt k M b.a) (hk:k<400) (h4:np<=4) (g:nv np nr a) (hkd:a.kind=7):dt aa oJ [.pointer (Qd bb),a.v] w (BY b a w0 bb K F):=by
 obtain⟨hln,-,hcb,hgi,-⟩:=B.facts hw hk
 refine uR I ((qe a b.a).2.2.2.2.2.1 hkd) Z ?_
 exact K4 a B hcb I g.n hgi I
theorem wZ (B:Bw w0 w bb b gP uP Ls Lo K F) (hw:WI np nr few wt k M b.a) (hk:k<400) (_:np<=4) (g:nv np nr a) (hkd:8<=a.kind/\a.kind<=15):dt aa ly [.pointer (Qd bb),a.v] w (BY b a w0 bb K F):=by
 obtain⟨hln,-,-,-,hpk⟩:=B.facts hw hk
 refine uR I ((qe a b.a).2.2.2.2.2.2.1 hkd) (y3 ..) ?_
 have hpn:=g.part
 exact LF a B (by have:=g.kind;omega) I ⟨g.n.1,fun q hq=>by have:=g.rep hkd.1 hkd.2;have:=(hpk q hq).2.1;omega⟩ g.m (fun q hq=>(hpk q hq).1)
theorem rj (B:Bw w0 w bb b gP uP Ls Lo K F) (hw:WI np nr few wt k M b.a) (hk:k<400) (h4:np<=4) (g:nv np nr a) (hkd:a.kind=16∨a.kind=18∨a.kind=20):dt aa mc [.pointer (Qd bb),a.v] w (BY b a w0 bb K F):=by
 obtain⟨hln,-,-,hgi,-⟩:=B.facts hw hk
 refine uR I ((qe a b.a).2.2.2.2.2.2.2 I) (AK ..) ?_
 exact Oc a B I I (g.name I) g.m hgi I
theorem ox (B:Bw w0 w bb b gP uP Ls Lo K F) (hw:WI np nr few wt k M b.a) (hk:k<400) (_:np<=4) (g:nv np nr a) (hkd:a.kind=19):dt aa gK [.pointer (Qd bb),a.v] w (BY b a w0 bb K F):=by
 obtain⟨hln,-,-,hgi,hpk⟩:=B.facts hw hk
 have hpn:=g.part
 have hnm:=g.name I
 have hpo:=fun q hq=>(hpk q hq).1
 have hq: ∃ q,b.ps[a.part.toNat]? =some q:=⟨_,aj I⟩
 obtain⟨q,hq⟩:=hq
 refine dt.mono (R:=fun v w2=> ∃ (x:An) (A:Option Addr) (c lo hi:Nat),rE b.a a x/\v=.agg #[J x.code,J x.n,.slice A x.texts.length c]/\x.texts.length<=c/\xU w0 w2 bb b K (ey mq lo hi A x.texts::F)) ?_ fun v w2 ⟨x,A,c,lo,hi,h1,h2,h3,h4⟩=>⟨b,x,A,c,lo,hi,.poll x hkd h1,h2,h3,h4⟩
 by_cases hw0:(ez b.gr.a a.name a.part).2=0
 have hqok:=(hpk q (ab hq)).1
 by_cases hl:q.p.leader<0
 exact JF a B hnm I (g.poll hkd) hgi hpo hw0 (fun q' h=>by rw[hq]at h;cases h;exact hl)
 obtain⟨l,hl2⟩: ∃ l:Nat,q.p.leader=l:=⟨q.p.leader.toNat,by omega⟩
 have hld1:q.p.leader<((q.p.reps.map gm.a).length:Nat):=hqok.ld1
 rw[bc]at hld1
 obtain⟨y,hy⟩: ∃ y,q.p.reps[l]? =some y:=⟨_,aj I⟩
 have hld: ∀ q',b.ps[a.part.toNat]? =some q'->q'.p.leader=l/\q'.p.reps[l]? =some y:=fun q' h=>by rw[hq]at h;cases h;exact⟨hl2,hy⟩
 by_cases hle:(ez b.gr.a a.name a.part).1.toNat<=y.es.length
 exact NU a B hnm I (g.poll hkd) hgi hpo hw0 hld hle
 exact G9 a B hnm I (g.poll hkd) hgi hpo hw0 hld I
 exact NV a B hnm I hgi hw0
end
theorem P8 {w0 w:World} {bb gP:Nat} {b:Bk} {uP:Array Value} {Ls Lo K:List (Nat×Obj)} {F:List ce} {np nr k:Nat} {few wt:Int} {M:Nat->List cr} {a:Act} (B:Bw w0 w bb b gP uP Ls Lo K F) (hw:WI np nr few wt k M b.a) (hk:k<400) (h1:1<=np) (h4:np<=4) (g:nv np nr a):dt aa vu [.pointer (Qd bb),a.v] w (BY b a w0 bb K F):=by
 refine aG uB Z Z ?_
 have hkd:=g.kind
 have H:=B.H
 show CW _ _ _ _ (args [.pointer (Qd bb),.agg #[J (a.kind),.string (a.name),J (a.part),J (a.n),J (a.m),.string (a.text),J (a.lost)]]) w
 refine W<|Zr<|gY H Z Z fun w1 b3 H=>fc H dn Z fun w2 b4 H=>U<|W<|W<|Zr<|G (Zf uF Z)<|G (Zd am H 1 Z Z Z)<|U<|Zb<|W<|Zr ?_
 refine du (bv Z Z) Z Z Z (fun h8=> ?_) (fun h8=> ?_)
 refine G (Wb Z)<|U<|ZT Z<|W<|Zr<|G (Yp Z)<|G (Zw dV H 1 Z Z Z)<|cu ug (Mu (B.into [(b4,_),(b3,_)] H) hw hk h4 g h1 h8) Z Z ?_
 rintro _ w3 ⟨b2,x2,A9,c9,lo9,hi9,hA9,rfl,hc9,gP9,uP9,Ls9,Lo9,F9,B9,hF9⟩
 replace H:=B9.out (X:=[(b4,_),(b3,_)])
 refine bA H 0 (#[J (x2.code),J (x2.n),.slice A9 x2.texts.length c9]) aL Z Z Z Z Z N N fun w4 H=>U<|Zt ?_
 exact eW (cs0:= #[J (x2.code),J (x2.n),.slice A9 x2.texts.length c9]) Z aK Z (H.ent (i:=0) Z) Z ⟨b2,x2,A9,c9,lo9,hi9,hA9,rfl,hc9,gP9,uP9,Ls9,Lo9,F9,B9.at_ [(b4,_),(b3,_)] H,hF9⟩
 refine G (Wb Z)<|U<|ZF Z<|W<|Zr ?_
 refine du (bv Z Z) Z Z Z (fun h13=> ?_) (fun h13=> ?_)
 refine G (Wb Z)<|U<|ZT Z<|W<|Zr<|G (Yp Z)<|G (Zw dV H 1 Z Z Z)<|cu tJ (Ks (B.into [(b4,_),(b3,_)] H) hw hk h4 g h13) Z Z ?_
 rintro _ w5 ⟨b2,x2,A9,c9,lo9,hi9,hA9,rfl,hc9,gP9,uP9,Ls9,Lo9,F9,B9,hF9⟩
 replace H:=B9.out (X:=[(b4,_),(b3,_)])
 refine bA H 0 (#[J (x2.code),J (x2.n),.slice A9 x2.texts.length c9]) aL Z Z Z Z Z N N fun w6 H=>U<|Zt ?_
 exact eW (cs0:= #[J (x2.code),J (x2.n),.slice A9 x2.texts.length c9]) Z aK Z (H.ent (i:=0) Z) Z ⟨b2,x2,A9,c9,lo9,hi9,hA9,rfl,hc9,gP9,uP9,Ls9,Lo9,F9,B9.at_ [(b4,_),(b3,_)] H,hF9⟩
 refine G (Wb Z)<|U<|ZF Z<|W<|W<|Zr ?_
 refine du (bv Z Z) Z Z Z (fun h18=> ?_) (fun h18=> ?_)
 refine G (Wb Z)<|U ?_
 refine ft (τ:=Unit) [17,19] (fun _=>[(17,.bool (decide (a.kind=3∨a.kind=4)))]) (fun _ w'=>Hp w0 w' ((b4,.cells #[J (0),J (0),.slice none 0 0] eh (0,0))::(b3,.cells #[J (a.kind),.string (a.name),J (a.part),J (a.n),J (a.m),.string (a.text),J (a.lost)] jl (0,0))::(bb,.cells b.c.toArray bE (0,0))::(gP,.cells uP bI (0,0))::(Ls++(Lo++K))) F) ?_ ?_
 refine ZT Z<|Zk ?_
 exact⟨(),H,dR (congrArg Value.bool (decide_eq_true I)).symm,Qg⟩
 rintro _ ρ1 w7 H
 show CW _ _ _ _ (dK (ia _ _ ρ1) [(17,.bool (decide (a.kind=3∨a.kind=4)))]) w7
 refine kI Z (fun hc17=> ?_) (fun hc17=> ?_)
 refine W<|Zr<|G (Yp Z)<|G (Zw dV H 1 Z Z Z)<|G (Zf uF Z)<|G (Zd am H 1 Z Z Z)<|G (bv Z Z)<|cu nB (Fk (B.into [(b4,_),(b3,_)] H) hw hk h4 g (of_decide_eq_true hc17)) Z Z ?_
 rintro _ w8 ⟨b2,x2,A9,c9,lo9,hi9,hA9,rfl,hc9,gP9,uP9,Ls9,Lo9,F9,B9,hF9⟩
 replace H:=B9.out (X:=[(b4,_),(b3,_)])
 refine bA H 0 (#[J (x2.code),J (x2.n),.slice A9 x2.texts.length c9]) aL Z Z Z Z Z N N fun w9 H=>U<|Zt ?_
 exact eW (cs0:= #[J (x2.code),J (x2.n),.slice A9 x2.texts.length c9]) Z aK Z (H.ent (i:=0) Z) Z ⟨b2,x2,A9,c9,lo9,hi9,hA9,rfl,hc9,gP9,uP9,Ls9,Lo9,F9,B9.at_ [(b4,_),(b3,_)] H,hF9⟩
 refine W<|Zr ?_
 refine du (bv Z Z) Z Z Z (fun h27=> ?_) (fun h27=> ?_)
 refine G (Wb Z)<|U<|ZT Z<|W<|Zr<|G (Yp Z)<|G (Zw dV H 1 Z Z Z)<|cu mi (Bx (B.into [(b4,_),(b3,_)] H) hw hk h4 g h27) Z Z ?_
 rintro _ w10 ⟨b2,x2,A9,c9,lo9,hi9,hA9,rfl,hc9,gP9,uP9,Ls9,Lo9,F9,B9,hF9⟩
 replace H:=B9.out (X:=[(b4,_),(b3,_)])
 refine bA H 0 (#[J (x2.code),J (x2.n),.slice A9 x2.texts.length c9]) aL Z Z Z Z Z N N fun w11 H=>U<|Zt ?_
 exact eW (cs0:= #[J (x2.code),J (x2.n),.slice A9 x2.texts.length c9]) Z aK Z (H.ent (i:=0) Z) Z ⟨b2,x2,A9,c9,lo9,hi9,hA9,rfl,hc9,gP9,uP9,Ls9,Lo9,F9,B9.at_ [(b4,_),(b3,_)] H,hF9⟩
 refine G (Wb Z)<|U<|ZF Z<|W<|Zr ?_
 refine du (bv Z Z) Z Z Z (fun h32=> ?_) (fun h32=> ?_)
 refine G (Wb Z)<|U<|ZT Z<|W<|Zr<|G (Yp Z)<|G (Zw dV H 1 Z Z Z)<|cu nC (FF (B.into [(b4,_),(b3,_)] H) hw hk h4 g h32) Z Z ?_
 rintro _ w12 ⟨b2,x2,A9,c9,lo9,hi9,hA9,rfl,hc9,gP9,uP9,Ls9,Lo9,F9,B9,hF9⟩
 replace H:=B9.out (X:=[(b4,_),(b3,_)])
 refine bA H 0 (#[J (x2.code),J (x2.n),.slice A9 x2.texts.length c9]) aL Z Z Z Z Z N N fun w13 H=>U<|Zt ?_
 exact eW (cs0:= #[J (x2.code),J (x2.n),.slice A9 x2.texts.length c9]) Z aK Z (H.ent (i:=0) Z) Z ⟨b2,x2,A9,c9,lo9,hi9,hA9,rfl,hc9,gP9,uP9,Ls9,Lo9,F9,B9.at_ [(b4,_),(b3,_)] H,hF9⟩
 refine G (Wb Z)<|U<|ZF Z<|W<|Zr ?_
 refine du (bv Z Z) Z Z Z (fun h37=> ?_) (fun h37=> ?_)
 refine G (Wb Z)<|U<|ZT Z<|W<|Zr<|G (Yp Z)<|G (Zw dV H 1 Z Z Z)<|cu nA (E6 (B.into [(b4,_),(b3,_)] H) hw hk h4 g h37) Z Z ?_
 rintro _ w14 ⟨b2,x2,A9,c9,lo9,hi9,hA9,rfl,hc9,gP9,uP9,Ls9,Lo9,F9,B9,hF9⟩
 replace H:=B9.out (X:=[(b4,_),(b3,_)])
 refine bA H 0 (#[J (x2.code),J (x2.n),.slice A9 x2.texts.length c9]) aL Z Z Z Z Z N N fun w15 H=>U<|Zt ?_
 exact eW (cs0:= #[J (x2.code),J (x2.n),.slice A9 x2.texts.length c9]) Z aK Z (H.ent (i:=0) Z) Z ⟨b2,x2,A9,c9,lo9,hi9,hA9,rfl,hc9,gP9,uP9,Ls9,Lo9,F9,B9.at_ [(b4,_),(b3,_)] H,hF9⟩
 refine G (Wb Z)<|U<|ZF Z<|W<|W<|Zr ?_
 refine du (bv Z Z) Z Z Z (fun h42=> ?_) (fun h42=> ?_)
 refine G (Wb Z)<|U ?_
 refine ft (τ:=Unit) [41,43,44,45,46,47,48,49] (fun _=>[(41,.bool (decide (8<=a.kind/\a.kind<=15)))]) (fun _ w'=>Hp w0 w' ((b4,.cells #[J (0),J (0),.slice none 0 0] eh (0,0))::(b3,.cells #[J (a.kind),.string (a.name),J (a.part),J (a.n),J (a.m),.string (a.text),J (a.lost)] jl (0,0))::(bb,.cells b.c.toArray bE (0,0))::(gP,.cells uP bI (0,0))::(Ls++(Lo++K))) F) ?_ ?_
 refine ZT Z<|Zk ?_
 exact⟨(),H,dR (congrArg Value.bool (decide_eq_true I)).symm,Qg⟩
 rintro _ ρ1 w16 H
 show CW _ _ _ _ (dK (ia _ _ ρ1) [(41,.bool (decide (8<=a.kind/\a.kind<=15)))]) w16
 refine kI Z (fun hc41=> ?_) (fun hc41=> ?_)
 refine W<|Zr<|G (Yp Z)<|G (Zw dV H 1 Z Z Z)<|cu gk (wZ (B.into [(b4,_),(b3,_)] H) hw hk h4 g (of_decide_eq_true hc41)) Z Z ?_
 rintro _ w17 ⟨b2,x2,A9,c9,lo9,hi9,hA9,rfl,hc9,gP9,uP9,Ls9,Lo9,F9,B9,hF9⟩
 replace H:=B9.out (X:=[(b4,_),(b3,_)])
 refine bA H 0 (#[J (x2.code),J (x2.n),.slice A9 x2.texts.length c9]) aL Z Z Z Z Z N N fun w18 H=>U<|Zt ?_
 exact eW (cs0:= #[J (x2.code),J (x2.n),.slice A9 x2.texts.length c9]) Z aK Z (H.ent (i:=0) Z) Z ⟨b2,x2,A9,c9,lo9,hi9,hA9,rfl,hc9,gP9,uP9,Ls9,Lo9,F9,B9.at_ [(b4,_),(b3,_)] H,hF9⟩
 refine W<|W<|Zr ?_
 refine du (bv Z Z) Z Z Z (fun h54=> ?_) (fun h54=> ?_)
 refine G (Wb Z)<|U ?_
 refine ft (τ:=Unit) [53,55,56,57] (fun _=>[(53,.bool (decide (a.kind=16∨a.kind=18∨a.kind=20)))]) (fun _ w'=>Hp w0 w' ((b4,.cells #[J (0),J (0),.slice none 0 0] eh (0,0))::(b3,.cells #[J (a.kind),.string (a.name),J (a.part),J (a.n),J (a.m),.string (a.text),J (a.lost)] jl (0,0))::(bb,.cells b.c.toArray bE (0,0))::(gP,.cells uP bI (0,0))::(Ls++(Lo++K))) F) ?_ ?_
 refine ZT Z<|Zk ?_
 exact⟨(),H,dR (congrArg Value.bool (decide_eq_true I)).symm,Qg⟩
 rintro _ ρ1 w19 H
 show CW _ _ _ _ (dK (ia _ _ ρ1) [(53,.bool (decide (a.kind=16∨a.kind=18∨a.kind=20)))]) w19
 refine kI Z (fun hc53=> ?_) (fun hc53=> ?_)
 refine W<|Zr<|G (Yp Z)<|G (Zw dV H 1 Z Z Z)<|cu dO (rj (B.into [(b4,_),(b3,_)] H) hw hk h4 g (of_decide_eq_true hc53)) Z Z ?_
 rintro _ w20 ⟨b2,x2,A9,c9,lo9,hi9,hA9,rfl,hc9,gP9,uP9,Ls9,Lo9,F9,B9,hF9⟩
 replace H:=B9.out (X:=[(b4,_),(b3,_)])
 refine bA H 0 (#[J (x2.code),J (x2.n),.slice A9 x2.texts.length c9]) aL Z Z Z Z Z N N fun w21 H=>U<|Zt ?_
 exact eW (cs0:= #[J (x2.code),J (x2.n),.slice A9 x2.texts.length c9]) Z aK Z (H.ent (i:=0) Z) Z ⟨b2,x2,A9,c9,lo9,hi9,hA9,rfl,hc9,gP9,uP9,Ls9,Lo9,F9,B9.at_ [(b4,_),(b3,_)] H,hF9⟩
 refine W<|Zr ?_
 refine du (bv Z Z) Z Z Z (fun h62=> ?_) (fun h62=> ?_)
 refine G (Wb Z)<|U<|ZT Z<|W<|Zr<|G (Yp Z)<|G (Zw dV H 1 Z Z Z)<|cu en (ox (B.into [(b4,_),(b3,_)] H) hw hk h4 g h62) Z Z ?_
 rintro _ w22 ⟨b2,x2,A9,c9,lo9,hi9,hA9,rfl,hc9,gP9,uP9,Ls9,Lo9,F9,B9,hF9⟩
 replace H:=B9.out (X:=[(b4,_),(b3,_)])
 refine bA H 0 (#[J (x2.code),J (x2.n),.slice A9 x2.texts.length c9]) aL Z Z Z Z Z N N fun w23 H=>U<|Zt ?_
 exact eW (cs0:= #[J (x2.code),J (x2.n),.slice A9 x2.texts.length c9]) Z aK Z (H.ent (i:=0) Z) Z ⟨b2,x2,A9,c9,lo9,hi9,hA9,rfl,hc9,gP9,uP9,Ls9,Lo9,F9,B9.at_ [(b4,_),(b3,_)] H,hF9⟩
 exfalso;have h41:=of_decide_eq_false hc41;have h53:=of_decide_eq_false hc53;have h17:=of_decide_eq_false hc17;omega
 refine G (Wb Z)<|U ?_
 refine ft (τ:=Unit) [53,55,56,57] (fun _=>[(53,.bool (decide (a.kind=16∨a.kind=18∨a.kind=20)))]) (fun _ w'=>Hp w0 w' ((b4,.cells #[J (0),J (0),.slice none 0 0] eh (0,0))::(b3,.cells #[J (a.kind),.string (a.name),J (a.part),J (a.n),J (a.m),.string (a.text),J (a.lost)] jl (0,0))::(bb,.cells b.c.toArray bE (0,0))::(gP,.cells uP bI (0,0))::(Ls++(Lo++K))) F) ?_ ?_
 refine ZF Z<|W<|Zr ?_
 refine du (bv Z Z) Z Z Z (fun h55=> ?_) (fun h55=> ?_)
 exact absurd h55 hkd.2.2.1
 refine G (Wb Z)<|U<|ZF Z<|W<|Zr ?_
 refine du (bv Z Z) Z Z Z (fun h56=> ?_) (fun h56=> ?_)
 refine G (Wb Z)<|U<|ZT Z<|Zk ?_
 exact⟨(),H,dR (congrArg Value.bool (decide_eq_true I)).symm,Qg⟩
 refine G (Wb Z)<|U<|ZF Z<|Zr ?_
 refine du (bv Z Z) Z Z Z (fun h57=> ?_) (fun h57=> ?_)
 refine G (Wb Z)<|U ?_
 exact⟨(),H,dR (congrArg Value.bool (decide_eq_true I)).symm,Qg⟩
 refine G (Wb Z)<|U ?_
 exact⟨(),H,dR (congrArg Value.bool (decide_eq_false I)).symm,Qg⟩
 rintro _ ρ1 w24 H
 show CW _ _ _ _ (dK (ia _ _ ρ1) [(53,.bool (decide (a.kind=16∨a.kind=18∨a.kind=20)))]) w24
 refine kI Z (fun hc53=> ?_) (fun hc53=> ?_)
 refine W<|Zr<|G (Yp Z)<|G (Zw dV H 1 Z Z Z)<|cu dO (rj (B.into [(b4,_),(b3,_)] H) hw hk h4 g (of_decide_eq_true hc53)) Z Z ?_
 rintro _ w25 ⟨b2,x2,A9,c9,lo9,hi9,hA9,rfl,hc9,gP9,uP9,Ls9,Lo9,F9,B9,hF9⟩
 replace H:=B9.out (X:=[(b4,_),(b3,_)])
 refine bA H 0 (#[J (x2.code),J (x2.n),.slice A9 x2.texts.length c9]) aL Z Z Z Z Z N N fun w26 H=>U<|Zt ?_
 exact eW (cs0:= #[J (x2.code),J (x2.n),.slice A9 x2.texts.length c9]) Z aK Z (H.ent (i:=0) Z) Z ⟨b2,x2,A9,c9,lo9,hi9,hA9,rfl,hc9,gP9,uP9,Ls9,Lo9,F9,B9.at_ [(b4,_),(b3,_)] H,hF9⟩
 refine W<|Zr ?_
 refine du (bv Z Z) Z Z Z (fun h62=> ?_) (fun h62=> ?_)
 refine G (Wb Z)<|U<|ZT Z<|W<|Zr<|G (Yp Z)<|G (Zw dV H 1 Z Z Z)<|cu en (ox (B.into [(b4,_),(b3,_)] H) hw hk h4 g h62) Z Z ?_
 rintro _ w27 ⟨b2,x2,A9,c9,lo9,hi9,hA9,rfl,hc9,gP9,uP9,Ls9,Lo9,F9,B9,hF9⟩
 replace H:=B9.out (X:=[(b4,_),(b3,_)])
 refine bA H 0 (#[J (x2.code),J (x2.n),.slice A9 x2.texts.length c9]) aL Z Z Z Z Z N N fun w28 H=>U<|Zt ?_
 exact eW (cs0:= #[J (x2.code),J (x2.n),.slice A9 x2.texts.length c9]) Z aK Z (H.ent (i:=0) Z) Z ⟨b2,x2,A9,c9,lo9,hi9,hA9,rfl,hc9,gP9,uP9,Ls9,Lo9,F9,B9.at_ [(b4,_),(b3,_)] H,hF9⟩
 exfalso;have h41:=of_decide_eq_false hc41;have h53:=of_decide_eq_false hc53;have h17:=of_decide_eq_false hc17;omega
 refine G (Wb Z)<|U ?_
 refine ft (τ:=Unit) [41,43,44,45,46,47,48,49] (fun _=>[(41,.bool (decide (8<=a.kind/\a.kind<=15)))]) (fun _ w'=>Hp w0 w' ((b4,.cells #[J (0),J (0),.slice none 0 0] eh (0,0))::(b3,.cells #[J (a.kind),.string (a.name),J (a.part),J (a.n),J (a.m),.string (a.text),J (a.lost)] jl (0,0))::(bb,.cells b.c.toArray bE (0,0))::(gP,.cells uP bI (0,0))::(Ls++(Lo++K))) F) ?_ ?_
 refine ZF Z<|W<|Zr ?_
 refine du (bv Z Z) Z Z Z (fun h43=> ?_) (fun h43=> ?_)
 refine G (Wb Z)<|U<|ZT Z<|Zk ?_
 exact⟨(),H,dR (congrArg Value.bool (decide_eq_true I)).symm,Qg⟩
 refine G (Wb Z)<|U<|ZF Z<|W<|Zr ?_
 refine du (bv Z Z) Z Z Z (fun h44=> ?_) (fun h44=> ?_)
 refine G (Wb Z)<|U<|ZT Z<|Zk ?_
 exact⟨(),H,dR (congrArg Value.bool (decide_eq_true I)).symm,Qg⟩
 refine G (Wb Z)<|U<|ZF Z<|W<|Zr ?_
 refine du (bv Z Z) Z Z Z (fun h45=> ?_) (fun h45=> ?_)
 refine G (Wb Z)<|U<|ZT Z<|Zk ?_
 exact⟨(),H,dR (congrArg Value.bool (decide_eq_true I)).symm,Qg⟩
 refine G (Wb Z)<|U<|ZF Z<|W<|Zr ?_
 refine du (bv Z Z) Z Z Z (fun h46=> ?_) (fun h46=> ?_)
 refine G (Wb Z)<|U<|ZT Z<|Zk ?_
 exact⟨(),H,dR (congrArg Value.bool (decide_eq_true I)).symm,Qg⟩
 refine G (Wb Z)<|U<|ZF Z<|W<|Zr ?_
 refine du (bv Z Z) Z Z Z (fun h47=> ?_) (fun h47=> ?_)
 refine G (Wb Z)<|U<|ZT Z<|Zk ?_
 exact⟨(),H,dR (congrArg Value.bool (decide_eq_true I)).symm,Qg⟩
 refine G (Wb Z)<|U<|ZF Z<|W<|Zr ?_
 refine du (bv Z Z) Z Z Z (fun h48=> ?_) (fun h48=> ?_)
 refine G (Wb Z)<|U<|ZT Z<|Zk ?_
 exact⟨(),H,dR (congrArg Value.bool (decide_eq_true I)).symm,Qg⟩
 refine G (Wb Z)<|U<|ZF Z<|Zr ?_
 refine du (bv Z Z) Z Z Z (fun h49=> ?_) (fun h49=> ?_)
 refine G (Wb Z)<|U ?_
 exact⟨(),H,dR (congrArg Value.bool (decide_eq_true I)).symm,Qg⟩
 refine G (Wb Z)<|U ?_
 exact⟨(),H,dR (congrArg Value.bool (decide_eq_false I)).symm,Qg⟩
 rintro _ ρ1 w29 H
 show CW _ _ _ _ (dK (ia _ _ ρ1) [(41,.bool (decide (8<=a.kind/\a.kind<=15)))]) w29
 refine kI Z (fun hc41=> ?_) (fun hc41=> ?_)
 refine W<|Zr<|G (Yp Z)<|G (Zw dV H 1 Z Z Z)<|cu gk (wZ (B.into [(b4,_),(b3,_)] H) hw hk h4 g (of_decide_eq_true hc41)) Z Z ?_
 rintro _ w30 ⟨b2,x2,A9,c9,lo9,hi9,hA9,rfl,hc9,gP9,uP9,Ls9,Lo9,F9,B9,hF9⟩
 replace H:=B9.out (X:=[(b4,_),(b3,_)])
 refine bA H 0 (#[J (x2.code),J (x2.n),.slice A9 x2.texts.length c9]) aL Z Z Z Z Z N N fun w31 H=>U<|Zt ?_
 exact eW (cs0:= #[J (x2.code),J (x2.n),.slice A9 x2.texts.length c9]) Z aK Z (H.ent (i:=0) Z) Z ⟨b2,x2,A9,c9,lo9,hi9,hA9,rfl,hc9,gP9,uP9,Ls9,Lo9,F9,B9.at_ [(b4,_),(b3,_)] H,hF9⟩
 refine W<|W<|Zr ?_
 refine du (bv Z Z) Z Z Z (fun h54=> ?_) (fun h54=> ?_)
 refine G (Wb Z)<|U ?_
 refine ft (τ:=Unit) [53,55,56,57] (fun _=>[(53,.bool (decide (a.kind=16∨a.kind=18∨a.kind=20)))]) (fun _ w'=>Hp w0 w' ((b4,.cells #[J (0),J (0),.slice none 0 0] eh (0,0))::(b3,.cells #[J (a.kind),.string (a.name),J (a.part),J (a.n),J (a.m),.string (a.text),J (a.lost)] jl (0,0))::(bb,.cells b.c.toArray bE (0,0))::(gP,.cells uP bI (0,0))::(Ls++(Lo++K))) F) ?_ ?_
 refine ZT Z<|Zk ?_
 exact⟨(),H,dR (congrArg Value.bool (decide_eq_true I)).symm,Qg⟩
 rintro _ ρ1 w32 H
 show CW _ _ _ _ (dK (ia _ _ ρ1) [(53,.bool (decide (a.kind=16∨a.kind=18∨a.kind=20)))]) w32
 refine kI Z (fun hc53=> ?_) (fun hc53=> ?_)
 refine W<|Zr<|G (Yp Z)<|G (Zw dV H 1 Z Z Z)<|cu dO (rj (B.into [(b4,_),(b3,_)] H) hw hk h4 g (of_decide_eq_true hc53)) Z Z ?_
 rintro _ w33 ⟨b2,x2,A9,c9,lo9,hi9,hA9,rfl,hc9,gP9,uP9,Ls9,Lo9,F9,B9,hF9⟩
 replace H:=B9.out (X:=[(b4,_),(b3,_)])
 refine bA H 0 (#[J (x2.code),J (x2.n),.slice A9 x2.texts.length c9]) aL Z Z Z Z Z N N fun w34 H=>U<|Zt ?_
 exact eW (cs0:= #[J (x2.code),J (x2.n),.slice A9 x2.texts.length c9]) Z aK Z (H.ent (i:=0) Z) Z ⟨b2,x2,A9,c9,lo9,hi9,hA9,rfl,hc9,gP9,uP9,Ls9,Lo9,F9,B9.at_ [(b4,_),(b3,_)] H,hF9⟩
 refine W<|Zr ?_
 refine du (bv Z Z) Z Z Z (fun h62=> ?_) (fun h62=> ?_)
 refine G (Wb Z)<|U<|ZT Z<|W<|Zr<|G (Yp Z)<|G (Zw dV H 1 Z Z Z)<|cu en (ox (B.into [(b4,_),(b3,_)] H) hw hk h4 g h62) Z Z ?_
 rintro _ w35 ⟨b2,x2,A9,c9,lo9,hi9,hA9,rfl,hc9,gP9,uP9,Ls9,Lo9,F9,B9,hF9⟩
 replace H:=B9.out (X:=[(b4,_),(b3,_)])
 refine bA H 0 (#[J (x2.code),J (x2.n),.slice A9 x2.texts.length c9]) aL Z Z Z Z Z N N fun w36 H=>U<|Zt ?_
 exact eW (cs0:= #[J (x2.code),J (x2.n),.slice A9 x2.texts.length c9]) Z aK Z (H.ent (i:=0) Z) Z ⟨b2,x2,A9,c9,lo9,hi9,hA9,rfl,hc9,gP9,uP9,Ls9,Lo9,F9,B9.at_ [(b4,_),(b3,_)] H,hF9⟩
 exfalso;have h41:=of_decide_eq_false hc41;have h53:=of_decide_eq_false hc53;have h17:=of_decide_eq_false hc17;omega
 refine G (Wb Z)<|U ?_
 refine ft (τ:=Unit) [53,55,56,57] (fun _=>[(53,.bool (decide (a.kind=16∨a.kind=18∨a.kind=20)))]) (fun _ w'=>Hp w0 w' ((b4,.cells #[J (0),J (0),.slice none 0 0] eh (0,0))::(b3,.cells #[J (a.kind),.string (a.name),J (a.part),J (a.n),J (a.m),.string (a.text),J (a.lost)] jl (0,0))::(bb,.cells b.c.toArray bE (0,0))::(gP,.cells uP bI (0,0))::(Ls++(Lo++K))) F) ?_ ?_
 refine ZF Z<|W<|Zr ?_
 refine du (bv Z Z) Z Z Z (fun h55=> ?_) (fun h55=> ?_)
 exact absurd h55 hkd.2.2.1
 refine G (Wb Z)<|U<|ZF Z<|W<|Zr ?_
 refine du (bv Z Z) Z Z Z (fun h56=> ?_) (fun h56=> ?_)
 refine G (Wb Z)<|U<|ZT Z<|Zk ?_
 exact⟨(),H,dR (congrArg Value.bool (decide_eq_true I)).symm,Qg⟩
 refine G (Wb Z)<|U<|ZF Z<|Zr ?_
 refine du (bv Z Z) Z Z Z (fun h57=> ?_) (fun h57=> ?_)
 refine G (Wb Z)<|U ?_
 exact⟨(),H,dR (congrArg Value.bool (decide_eq_true I)).symm,Qg⟩
 refine G (Wb Z)<|U ?_
 exact⟨(),H,dR (congrArg Value.bool (decide_eq_false I)).symm,Qg⟩
 rintro _ ρ1 w37 H
 show CW _ _ _ _ (dK (ia _ _ ρ1) [(53,.bool (decide (a.kind=16∨a.kind=18∨a.kind=20)))]) w37
 refine kI Z (fun hc53=> ?_) (fun hc53=> ?_)
 refine W<|Zr<|G (Yp Z)<|G (Zw dV H 1 Z Z Z)<|cu dO (rj (B.into [(b4,_),(b3,_)] H) hw hk h4 g (of_decide_eq_true hc53)) Z Z ?_
 rintro _ w38 ⟨b2,x2,A9,c9,lo9,hi9,hA9,rfl,hc9,gP9,uP9,Ls9,Lo9,F9,B9,hF9⟩
 replace H:=B9.out (X:=[(b4,_),(b3,_)])
 refine bA H 0 (#[J (x2.code),J (x2.n),.slice A9 x2.texts.length c9]) aL Z Z Z Z Z N N fun w39 H=>U<|Zt ?_
 exact eW (cs0:= #[J (x2.code),J (x2.n),.slice A9 x2.texts.length c9]) Z aK Z (H.ent (i:=0) Z) Z ⟨b2,x2,A9,c9,lo9,hi9,hA9,rfl,hc9,gP9,uP9,Ls9,Lo9,F9,B9.at_ [(b4,_),(b3,_)] H,hF9⟩
 refine W<|Zr ?_
 refine du (bv Z Z) Z Z Z (fun h62=> ?_) (fun h62=> ?_)
 refine G (Wb Z)<|U<|ZT Z<|W<|Zr<|G (Yp Z)<|G (Zw dV H 1 Z Z Z)<|cu en (ox (B.into [(b4,_),(b3,_)] H) hw hk h4 g h62) Z Z ?_
 rintro _ w40 ⟨b2,x2,A9,c9,lo9,hi9,hA9,rfl,hc9,gP9,uP9,Ls9,Lo9,F9,B9,hF9⟩
 replace H:=B9.out (X:=[(b4,_),(b3,_)])
 refine bA H 0 (#[J (x2.code),J (x2.n),.slice A9 x2.texts.length c9]) aL Z Z Z Z Z N N fun w41 H=>U<|Zt ?_
 exact eW (cs0:= #[J (x2.code),J (x2.n),.slice A9 x2.texts.length c9]) Z aK Z (H.ent (i:=0) Z) Z ⟨b2,x2,A9,c9,lo9,hi9,hA9,rfl,hc9,gP9,uP9,Ls9,Lo9,F9,B9.at_ [(b4,_),(b3,_)] H,hF9⟩
 exfalso;have h41:=of_decide_eq_false hc41;have h53:=of_decide_eq_false hc53;have h17:=of_decide_eq_false hc17;omega
 refine G (Wb Z)<|U ?_
 refine ft (τ:=Unit) [17,19] (fun _=>[(17,.bool (decide (a.kind=3∨a.kind=4)))]) (fun _ w'=>Hp w0 w' ((b4,.cells #[J (0),J (0),.slice none 0 0] eh (0,0))::(b3,.cells #[J (a.kind),.string (a.name),J (a.part),J (a.n),J (a.m),.string (a.text),J (a.lost)] jl (0,0))::(bb,.cells b.c.toArray bE (0,0))::(gP,.cells uP bI (0,0))::(Ls++(Lo++K))) F) ?_ ?_
 refine ZF Z<|Zr ?_
 refine du (bv Z Z) Z Z Z (fun h19=> ?_) (fun h19=> ?_)
 refine G (Wb Z)<|U ?_
 exact⟨(),H,dR (congrArg Value.bool (decide_eq_true I)).symm,Qg⟩
 refine G (Wb Z)<|U ?_
 exact⟨(),H,dR (congrArg Value.bool (decide_eq_false I)).symm,Qg⟩
 rintro _ ρ1 w42 H
 show CW _ _ _ _ (dK (ia _ _ ρ1) [(17,.bool (decide (a.kind=3∨a.kind=4)))]) w42
 refine kI Z (fun hc17=> ?_) (fun hc17=> ?_)
 refine W<|Zr<|G (Yp Z)<|G (Zw dV H 1 Z Z Z)<|G (Zf uF Z)<|G (Zd am H 1 Z Z Z)<|G (bv Z Z)<|cu nB (Fk (B.into [(b4,_),(b3,_)] H) hw hk h4 g (of_decide_eq_true hc17)) Z Z ?_
 rintro _ w43 ⟨b2,x2,A9,c9,lo9,hi9,hA9,rfl,hc9,gP9,uP9,Ls9,Lo9,F9,B9,hF9⟩
 replace H:=B9.out (X:=[(b4,_),(b3,_)])
 refine bA H 0 (#[J (x2.code),J (x2.n),.slice A9 x2.texts.length c9]) aL Z Z Z Z Z N N fun w44 H=>U<|Zt ?_
 exact eW (cs0:= #[J (x2.code),J (x2.n),.slice A9 x2.texts.length c9]) Z aK Z (H.ent (i:=0) Z) Z ⟨b2,x2,A9,c9,lo9,hi9,hA9,rfl,hc9,gP9,uP9,Ls9,Lo9,F9,B9.at_ [(b4,_),(b3,_)] H,hF9⟩
 refine W<|Zr ?_
 refine du (bv Z Z) Z Z Z (fun h27=> ?_) (fun h27=> ?_)
 refine G (Wb Z)<|U<|ZT Z<|W<|Zr<|G (Yp Z)<|G (Zw dV H 1 Z Z Z)<|cu mi (Bx (B.into [(b4,_),(b3,_)] H) hw hk h4 g h27) Z Z ?_
 rintro _ w45 ⟨b2,x2,A9,c9,lo9,hi9,hA9,rfl,hc9,gP9,uP9,Ls9,Lo9,F9,B9,hF9⟩
 replace H:=B9.out (X:=[(b4,_),(b3,_)])
 refine bA H 0 (#[J (x2.code),J (x2.n),.slice A9 x2.texts.length c9]) aL Z Z Z Z Z N N fun w46 H=>U<|Zt ?_
 exact eW (cs0:= #[J (x2.code),J (x2.n),.slice A9 x2.texts.length c9]) Z aK Z (H.ent (i:=0) Z) Z ⟨b2,x2,A9,c9,lo9,hi9,hA9,rfl,hc9,gP9,uP9,Ls9,Lo9,F9,B9.at_ [(b4,_),(b3,_)] H,hF9⟩
 refine G (Wb Z)<|U<|ZF Z<|W<|Zr ?_
 refine du (bv Z Z) Z Z Z (fun h32=> ?_) (fun h32=> ?_)
 refine G (Wb Z)<|U<|ZT Z<|W<|Zr<|G (Yp Z)<|G (Zw dV H 1 Z Z Z)<|cu nC (FF (B.into [(b4,_),(b3,_)] H) hw hk h4 g h32) Z Z ?_
 rintro _ w47 ⟨b2,x2,A9,c9,lo9,hi9,hA9,rfl,hc9,gP9,uP9,Ls9,Lo9,F9,B9,hF9⟩
 replace H:=B9.out (X:=[(b4,_),(b3,_)])
 refine bA H 0 (#[J (x2.code),J (x2.n),.slice A9 x2.texts.length c9]) aL Z Z Z Z Z N N fun w48 H=>U<|Zt ?_
 exact eW (cs0:= #[J (x2.code),J (x2.n),.slice A9 x2.texts.length c9]) Z aK Z (H.ent (i:=0) Z) Z ⟨b2,x2,A9,c9,lo9,hi9,hA9,rfl,hc9,gP9,uP9,Ls9,Lo9,F9,B9.at_ [(b4,_),(b3,_)] H,hF9⟩
 refine G (Wb Z)<|U<|ZF Z<|W<|Zr ?_
 refine du (bv Z Z) Z Z Z (fun h37=> ?_) (fun h37=> ?_)
 refine G (Wb Z)<|U<|ZT Z<|W<|Zr<|G (Yp Z)<|G (Zw dV H 1 Z Z Z)<|cu nA (E6 (B.into [(b4,_),(b3,_)] H) hw hk h4 g h37) Z Z ?_
 rintro _ w49 ⟨b2,x2,A9,c9,lo9,hi9,hA9,rfl,hc9,gP9,uP9,Ls9,Lo9,F9,B9,hF9⟩
 replace H:=B9.out (X:=[(b4,_),(b3,_)])
 refine bA H 0 (#[J (x2.code),J (x2.n),.slice A9 x2.texts.length c9]) aL Z Z Z Z Z N N fun w50 H=>U<|Zt ?_
 exact eW (cs0:= #[J (x2.code),J (x2.n),.slice A9 x2.texts.length c9]) Z aK Z (H.ent (i:=0) Z) Z ⟨b2,x2,A9,c9,lo9,hi9,hA9,rfl,hc9,gP9,uP9,Ls9,Lo9,F9,B9.at_ [(b4,_),(b3,_)] H,hF9⟩
 refine G (Wb Z)<|U<|ZF Z<|W<|W<|Zr ?_
 refine du (bv Z Z) Z Z Z (fun h42=> ?_) (fun h42=> ?_)
 refine G (Wb Z)<|U ?_
 refine ft (τ:=Unit) [41,43,44,45,46,47,48,49] (fun _=>[(41,.bool (decide (8<=a.kind/\a.kind<=15)))]) (fun _ w'=>Hp w0 w' ((b4,.cells #[J (0),J (0),.slice none 0 0] eh (0,0))::(b3,.cells #[J (a.kind),.string (a.name),J (a.part),J (a.n),J (a.m),.string (a.text),J (a.lost)] jl (0,0))::(bb,.cells b.c.toArray bE (0,0))::(gP,.cells uP bI (0,0))::(Ls++(Lo++K))) F) ?_ ?_
 refine ZT Z<|Zk ?_
 exact⟨(),H,dR (congrArg Value.bool (decide_eq_true I)).symm,Qg⟩
 rintro _ ρ1 w51 H
 show CW _ _ _ _ (dK (ia _ _ ρ1) [(41,.bool (decide (8<=a.kind/\a.kind<=15)))]) w51
 refine kI Z (fun hc41=> ?_) (fun hc41=> ?_)
 refine W<|Zr<|G (Yp Z)<|G (Zw dV H 1 Z Z Z)<|cu gk (wZ (B.into [(b4,_),(b3,_)] H) hw hk h4 g (of_decide_eq_true hc41)) Z Z ?_
 rintro _ w52 ⟨b2,x2,A9,c9,lo9,hi9,hA9,rfl,hc9,gP9,uP9,Ls9,Lo9,F9,B9,hF9⟩
 replace H:=B9.out (X:=[(b4,_),(b3,_)])
 refine bA H 0 (#[J (x2.code),J (x2.n),.slice A9 x2.texts.length c9]) aL Z Z Z Z Z N N fun w53 H=>U<|Zt ?_
 exact eW (cs0:= #[J (x2.code),J (x2.n),.slice A9 x2.texts.length c9]) Z aK Z (H.ent (i:=0) Z) Z ⟨b2,x2,A9,c9,lo9,hi9,hA9,rfl,hc9,gP9,uP9,Ls9,Lo9,F9,B9.at_ [(b4,_),(b3,_)] H,hF9⟩
 refine W<|W<|Zr ?_
 refine du (bv Z Z) Z Z Z (fun h54=> ?_) (fun h54=> ?_)
 refine G (Wb Z)<|U ?_
 refine ft (τ:=Unit) [53,55,56,57] (fun _=>[(53,.bool (decide (a.kind=16∨a.kind=18∨a.kind=20)))]) (fun _ w'=>Hp w0 w' ((b4,.cells #[J (0),J (0),.slice none 0 0] eh (0,0))::(b3,.cells #[J (a.kind),.string (a.name),J (a.part),J (a.n),J (a.m),.string (a.text),J (a.lost)] jl (0,0))::(bb,.cells b.c.toArray bE (0,0))::(gP,.cells uP bI (0,0))::(Ls++(Lo++K))) F) ?_ ?_
 refine ZT Z<|Zk ?_
 exact⟨(),H,dR (congrArg Value.bool (decide_eq_true I)).symm,Qg⟩
 rintro _ ρ1 w54 H
 show CW _ _ _ _ (dK (ia _ _ ρ1) [(53,.bool (decide (a.kind=16∨a.kind=18∨a.kind=20)))]) w54
 refine kI Z (fun hc53=> ?_) (fun hc53=> ?_)
 refine W<|Zr<|G (Yp Z)<|G (Zw dV H 1 Z Z Z)<|cu dO (rj (B.into [(b4,_),(b3,_)] H) hw hk h4 g (of_decide_eq_true hc53)) Z Z ?_
 rintro _ w55 ⟨b2,x2,A9,c9,lo9,hi9,hA9,rfl,hc9,gP9,uP9,Ls9,Lo9,F9,B9,hF9⟩
 replace H:=B9.out (X:=[(b4,_),(b3,_)])
 refine bA H 0 (#[J (x2.code),J (x2.n),.slice A9 x2.texts.length c9]) aL Z Z Z Z Z N N fun w56 H=>U<|Zt ?_
 exact eW (cs0:= #[J (x2.code),J (x2.n),.slice A9 x2.texts.length c9]) Z aK Z (H.ent (i:=0) Z) Z ⟨b2,x2,A9,c9,lo9,hi9,hA9,rfl,hc9,gP9,uP9,Ls9,Lo9,F9,B9.at_ [(b4,_),(b3,_)] H,hF9⟩
 refine W<|Zr ?_
 refine du (bv Z Z) Z Z Z (fun h62=> ?_) (fun h62=> ?_)
 refine G (Wb Z)<|U<|ZT Z<|W<|Zr<|G (Yp Z)<|G (Zw dV H 1 Z Z Z)<|cu en (ox (B.into [(b4,_),(b3,_)] H) hw hk h4 g h62) Z Z ?_
 rintro _ w57 ⟨b2,x2,A9,c9,lo9,hi9,hA9,rfl,hc9,gP9,uP9,Ls9,Lo9,F9,B9,hF9⟩
 replace H:=B9.out (X:=[(b4,_),(b3,_)])
 refine bA H 0 (#[J (x2.code),J (x2.n),.slice A9 x2.texts.length c9]) aL Z Z Z Z Z N N fun w58 H=>U<|Zt ?_
 exact eW (cs0:= #[J (x2.code),J (x2.n),.slice A9 x2.texts.length c9]) Z aK Z (H.ent (i:=0) Z) Z ⟨b2,x2,A9,c9,lo9,hi9,hA9,rfl,hc9,gP9,uP9,Ls9,Lo9,F9,B9.at_ [(b4,_),(b3,_)] H,hF9⟩
 exfalso;have h41:=of_decide_eq_false hc41;have h53:=of_decide_eq_false hc53;have h17:=of_decide_eq_false hc17;omega
 refine G (Wb Z)<|U ?_
 refine ft (τ:=Unit) [53,55,56,57] (fun _=>[(53,.bool (decide (a.kind=16∨a.kind=18∨a.kind=20)))]) (fun _ w'=>Hp w0 w' ((b4,.cells #[J (0),J (0),.slice none 0 0] eh (0,0))::(b3,.cells #[J (a.kind),.string (a.name),J (a.part),J (a.n),J (a.m),.string (a.text),J (a.lost)] jl (0,0))::(bb,.cells b.c.toArray bE (0,0))::(gP,.cells uP bI (0,0))::(Ls++(Lo++K))) F) ?_ ?_
 refine ZF Z<|W<|Zr ?_
 refine du (bv Z Z) Z Z Z (fun h55=> ?_) (fun h55=> ?_)
 exact absurd h55 hkd.2.2.1
 refine G (Wb Z)<|U<|ZF Z<|W<|Zr ?_
 refine du (bv Z Z) Z Z Z (fun h56=> ?_) (fun h56=> ?_)
 refine G (Wb Z)<|U<|ZT Z<|Zk ?_
 exact⟨(),H,dR (congrArg Value.bool (decide_eq_true I)).symm,Qg⟩
 refine G (Wb Z)<|U<|ZF Z<|Zr ?_
 refine du (bv Z Z) Z Z Z (fun h57=> ?_) (fun h57=> ?_)
 refine G (Wb Z)<|U ?_
 exact⟨(),H,dR (congrArg Value.bool (decide_eq_true I)).symm,Qg⟩
 refine G (Wb Z)<|U ?_
 exact⟨(),H,dR (congrArg Value.bool (decide_eq_false I)).symm,Qg⟩
 rintro _ ρ1 w59 H
 show CW _ _ _ _ (dK (ia _ _ ρ1) [(53,.bool (decide (a.kind=16∨a.kind=18∨a.kind=20)))]) w59
 refine kI Z (fun hc53=> ?_) (fun hc53=> ?_)
 refine W<|Zr<|G (Yp Z)<|G (Zw dV H 1 Z Z Z)<|cu dO (rj (B.into [(b4,_),(b3,_)] H) hw hk h4 g (of_decide_eq_true hc53)) Z Z ?_
 rintro _ w60 ⟨b2,x2,A9,c9,lo9,hi9,hA9,rfl,hc9,gP9,uP9,Ls9,Lo9,F9,B9,hF9⟩
 replace H:=B9.out (X:=[(b4,_),(b3,_)])
 refine bA H 0 (#[J (x2.code),J (x2.n),.slice A9 x2.texts.length c9]) aL Z Z Z Z Z N N fun w61 H=>U<|Zt ?_
 exact eW (cs0:= #[J (x2.code),J (x2.n),.slice A9 x2.texts.length c9]) Z aK Z (H.ent (i:=0) Z) Z ⟨b2,x2,A9,c9,lo9,hi9,hA9,rfl,hc9,gP9,uP9,Ls9,Lo9,F9,B9.at_ [(b4,_),(b3,_)] H,hF9⟩
 refine W<|Zr ?_
 refine du (bv Z Z) Z Z Z (fun h62=> ?_) (fun h62=> ?_)
 refine G (Wb Z)<|U<|ZT Z<|W<|Zr<|G (Yp Z)<|G (Zw dV H 1 Z Z Z)<|cu en (ox (B.into [(b4,_),(b3,_)] H) hw hk h4 g h62) Z Z ?_
 rintro _ w62 ⟨b2,x2,A9,c9,lo9,hi9,hA9,rfl,hc9,gP9,uP9,Ls9,Lo9,F9,B9,hF9⟩
 replace H:=B9.out (X:=[(b4,_),(b3,_)])
 refine bA H 0 (#[J (x2.code),J (x2.n),.slice A9 x2.texts.length c9]) aL Z Z Z Z Z N N fun w63 H=>U<|Zt ?_
 exact eW (cs0:= #[J (x2.code),J (x2.n),.slice A9 x2.texts.length c9]) Z aK Z (H.ent (i:=0) Z) Z ⟨b2,x2,A9,c9,lo9,hi9,hA9,rfl,hc9,gP9,uP9,Ls9,Lo9,F9,B9.at_ [(b4,_),(b3,_)] H,hF9⟩
 exfalso;have h41:=of_decide_eq_false hc41;have h53:=of_decide_eq_false hc53;have h17:=of_decide_eq_false hc17;omega
 refine G (Wb Z)<|U ?_
 refine ft (τ:=Unit) [41,43,44,45,46,47,48,49] (fun _=>[(41,.bool (decide (8<=a.kind/\a.kind<=15)))]) (fun _ w'=>Hp w0 w' ((b4,.cells #[J (0),J (0),.slice none 0 0] eh (0,0))::(b3,.cells #[J (a.kind),.string (a.name),J (a.part),J (a.n),J (a.m),.string (a.text),J (a.lost)] jl (0,0))::(bb,.cells b.c.toArray bE (0,0))::(gP,.cells uP bI (0,0))::(Ls++(Lo++K))) F) ?_ ?_
 refine ZF Z<|W<|Zr ?_
 refine du (bv Z Z) Z Z Z (fun h43=> ?_) (fun h43=> ?_)
 refine G (Wb Z)<|U<|ZT Z<|Zk ?_
 exact⟨(),H,dR (congrArg Value.bool (decide_eq_true I)).symm,Qg⟩
 refine G (Wb Z)<|U<|ZF Z<|W<|Zr ?_
 refine du (bv Z Z) Z Z Z (fun h44=> ?_) (fun h44=> ?_)
 refine G (Wb Z)<|U<|ZT Z<|Zk ?_
 exact⟨(),H,dR (congrArg Value.bool (decide_eq_true I)).symm,Qg⟩
 refine G (Wb Z)<|U<|ZF Z<|W<|Zr ?_
 refine du (bv Z Z) Z Z Z (fun h45=> ?_) (fun h45=> ?_)
 refine G (Wb Z)<|U<|ZT Z<|Zk ?_
 exact⟨(),H,dR (congrArg Value.bool (decide_eq_true I)).symm,Qg⟩
 refine G (Wb Z)<|U<|ZF Z<|W<|Zr ?_
 refine du (bv Z Z) Z Z Z (fun h46=> ?_) (fun h46=> ?_)
 refine G (Wb Z)<|U<|ZT Z<|Zk ?_
 exact⟨(),H,dR (congrArg Value.bool (decide_eq_true I)).symm,Qg⟩
 refine G (Wb Z)<|U<|ZF Z<|W<|Zr ?_
 refine du (bv Z Z) Z Z Z (fun h47=> ?_) (fun h47=> ?_)
 refine G (Wb Z)<|U<|ZT Z<|Zk ?_
 exact⟨(),H,dR (congrArg Value.bool (decide_eq_true I)).symm,Qg⟩
 refine G (Wb Z)<|U<|ZF Z<|W<|Zr ?_
 refine du (bv Z Z) Z Z Z (fun h48=> ?_) (fun h48=> ?_)
 refine G (Wb Z)<|U<|ZT Z<|Zk ?_
 exact⟨(),H,dR (congrArg Value.bool (decide_eq_true I)).symm,Qg⟩
 refine G (Wb Z)<|U<|ZF Z<|Zr ?_
 refine du (bv Z Z) Z Z Z (fun h49=> ?_) (fun h49=> ?_)
 refine G (Wb Z)<|U ?_
 exact⟨(),H,dR (congrArg Value.bool (decide_eq_true I)).symm,Qg⟩
 refine G (Wb Z)<|U ?_
 exact⟨(),H,dR (congrArg Value.bool (decide_eq_false I)).symm,Qg⟩
 rintro _ ρ1 w64 H
 show CW _ _ _ _ (dK (ia _ _ ρ1) [(41,.bool (decide (8<=a.kind/\a.kind<=15)))]) w64
 refine kI Z (fun hc41=> ?_) (fun hc41=> ?_)
 refine W<|Zr<|G (Yp Z)<|G (Zw dV H 1 Z Z Z)<|cu gk (wZ (B.into [(b4,_),(b3,_)] H) hw hk h4 g (of_decide_eq_true hc41)) Z Z ?_
 rintro _ w65 ⟨b2,x2,A9,c9,lo9,hi9,hA9,rfl,hc9,gP9,uP9,Ls9,Lo9,F9,B9,hF9⟩
 replace H:=B9.out (X:=[(b4,_),(b3,_)])
 refine bA H 0 (#[J (x2.code),J (x2.n),.slice A9 x2.texts.length c9]) aL Z Z Z Z Z N N fun w66 H=>U<|Zt ?_
 exact eW (cs0:= #[J (x2.code),J (x2.n),.slice A9 x2.texts.length c9]) Z aK Z (H.ent (i:=0) Z) Z ⟨b2,x2,A9,c9,lo9,hi9,hA9,rfl,hc9,gP9,uP9,Ls9,Lo9,F9,B9.at_ [(b4,_),(b3,_)] H,hF9⟩
 refine W<|W<|Zr ?_
 refine du (bv Z Z) Z Z Z (fun h54=> ?_) (fun h54=> ?_)
 refine G (Wb Z)<|U ?_
 refine ft (τ:=Unit) [53,55,56,57] (fun _=>[(53,.bool (decide (a.kind=16∨a.kind=18∨a.kind=20)))]) (fun _ w'=>Hp w0 w' ((b4,.cells #[J (0),J (0),.slice none 0 0] eh (0,0))::(b3,.cells #[J (a.kind),.string (a.name),J (a.part),J (a.n),J (a.m),.string (a.text),J (a.lost)] jl (0,0))::(bb,.cells b.c.toArray bE (0,0))::(gP,.cells uP bI (0,0))::(Ls++(Lo++K))) F) ?_ ?_
 refine ZT Z<|Zk ?_
 exact⟨(),H,dR (congrArg Value.bool (decide_eq_true I)).symm,Qg⟩
 rintro _ ρ1 w67 H
 show CW _ _ _ _ (dK (ia _ _ ρ1) [(53,.bool (decide (a.kind=16∨a.kind=18∨a.kind=20)))]) w67
 refine kI Z (fun hc53=> ?_) (fun hc53=> ?_)
 refine W<|Zr<|G (Yp Z)<|G (Zw dV H 1 Z Z Z)<|cu dO (rj (B.into [(b4,_),(b3,_)] H) hw hk h4 g (of_decide_eq_true hc53)) Z Z ?_
 rintro _ w68 ⟨b2,x2,A9,c9,lo9,hi9,hA9,rfl,hc9,gP9,uP9,Ls9,Lo9,F9,B9,hF9⟩
 replace H:=B9.out (X:=[(b4,_),(b3,_)])
 refine bA H 0 (#[J (x2.code),J (x2.n),.slice A9 x2.texts.length c9]) aL Z Z Z Z Z N N fun w69 H=>U<|Zt ?_
 exact eW (cs0:= #[J (x2.code),J (x2.n),.slice A9 x2.texts.length c9]) Z aK Z (H.ent (i:=0) Z) Z ⟨b2,x2,A9,c9,lo9,hi9,hA9,rfl,hc9,gP9,uP9,Ls9,Lo9,F9,B9.at_ [(b4,_),(b3,_)] H,hF9⟩
 refine W<|Zr ?_
 refine du (bv Z Z) Z Z Z (fun h62=> ?_) (fun h62=> ?_)
 refine G (Wb Z)<|U<|ZT Z<|W<|Zr<|G (Yp Z)<|G (Zw dV H 1 Z Z Z)<|cu en (ox (B.into [(b4,_),(b3,_)] H) hw hk h4 g h62) Z Z ?_
 rintro _ w70 ⟨b2,x2,A9,c9,lo9,hi9,hA9,rfl,hc9,gP9,uP9,Ls9,Lo9,F9,B9,hF9⟩
 replace H:=B9.out (X:=[(b4,_),(b3,_)])
 refine bA H 0 (#[J (x2.code),J (x2.n),.slice A9 x2.texts.length c9]) aL Z Z Z Z Z N N fun w71 H=>U<|Zt ?_
 exact eW (cs0:= #[J (x2.code),J (x2.n),.slice A9 x2.texts.length c9]) Z aK Z (H.ent (i:=0) Z) Z ⟨b2,x2,A9,c9,lo9,hi9,hA9,rfl,hc9,gP9,uP9,Ls9,Lo9,F9,B9.at_ [(b4,_),(b3,_)] H,hF9⟩
 exfalso;have h41:=of_decide_eq_false hc41;have h53:=of_decide_eq_false hc53;have h17:=of_decide_eq_false hc17;omega
 refine G (Wb Z)<|U ?_
 refine ft (τ:=Unit) [53,55,56,57] (fun _=>[(53,.bool (decide (a.kind=16∨a.kind=18∨a.kind=20)))]) (fun _ w'=>Hp w0 w' ((b4,.cells #[J (0),J (0),.slice none 0 0] eh (0,0))::(b3,.cells #[J (a.kind),.string (a.name),J (a.part),J (a.n),J (a.m),.string (a.text),J (a.lost)] jl (0,0))::(bb,.cells b.c.toArray bE (0,0))::(gP,.cells uP bI (0,0))::(Ls++(Lo++K))) F) ?_ ?_
 refine ZF Z<|W<|Zr ?_
 refine du (bv Z Z) Z Z Z (fun h55=> ?_) (fun h55=> ?_)
 exact absurd h55 hkd.2.2.1
 refine G (Wb Z)<|U<|ZF Z<|W<|Zr ?_
 refine du (bv Z Z) Z Z Z (fun h56=> ?_) (fun h56=> ?_)
 refine G (Wb Z)<|U<|ZT Z<|Zk ?_
 exact⟨(),H,dR (congrArg Value.bool (decide_eq_true I)).symm,Qg⟩
 refine G (Wb Z)<|U<|ZF Z<|Zr ?_
 refine du (bv Z Z) Z Z Z (fun h57=> ?_) (fun h57=> ?_)
 refine G (Wb Z)<|U ?_
 exact⟨(),H,dR (congrArg Value.bool (decide_eq_true I)).symm,Qg⟩
 refine G (Wb Z)<|U ?_
 exact⟨(),H,dR (congrArg Value.bool (decide_eq_false I)).symm,Qg⟩
 rintro _ ρ1 w72 H
 show CW _ _ _ _ (dK (ia _ _ ρ1) [(53,.bool (decide (a.kind=16∨a.kind=18∨a.kind=20)))]) w72
 refine kI Z (fun hc53=> ?_) (fun hc53=> ?_)
 refine W<|Zr<|G (Yp Z)<|G (Zw dV H 1 Z Z Z)<|cu dO (rj (B.into [(b4,_),(b3,_)] H) hw hk h4 g (of_decide_eq_true hc53)) Z Z ?_
 rintro _ w73 ⟨b2,x2,A9,c9,lo9,hi9,hA9,rfl,hc9,gP9,uP9,Ls9,Lo9,F9,B9,hF9⟩
 replace H:=B9.out (X:=[(b4,_),(b3,_)])
 refine bA H 0 (#[J (x2.code),J (x2.n),.slice A9 x2.texts.length c9]) aL Z Z Z Z Z N N fun w74 H=>U<|Zt ?_
 exact eW (cs0:= #[J (x2.code),J (x2.n),.slice A9 x2.texts.length c9]) Z aK Z (H.ent (i:=0) Z) Z ⟨b2,x2,A9,c9,lo9,hi9,hA9,rfl,hc9,gP9,uP9,Ls9,Lo9,F9,B9.at_ [(b4,_),(b3,_)] H,hF9⟩
 refine W<|Zr ?_
 refine du (bv Z Z) Z Z Z (fun h62=> ?_) (fun h62=> ?_)
 refine G (Wb Z)<|U<|ZT Z<|W<|Zr<|G (Yp Z)<|G (Zw dV H 1 Z Z Z)<|cu en (ox (B.into [(b4,_),(b3,_)] H) hw hk h4 g h62) Z Z ?_
 rintro _ w75 ⟨b2,x2,A9,c9,lo9,hi9,hA9,rfl,hc9,gP9,uP9,Ls9,Lo9,F9,B9,hF9⟩
 replace H:=B9.out (X:=[(b4,_),(b3,_)])
 refine bA H 0 (#[J (x2.code),J (x2.n),.slice A9 x2.texts.length c9]) aL Z Z Z Z Z N N fun w76 H=>U<|Zt ?_
 exact eW (cs0:= #[J (x2.code),J (x2.n),.slice A9 x2.texts.length c9]) Z aK Z (H.ent (i:=0) Z) Z ⟨b2,x2,A9,c9,lo9,hi9,hA9,rfl,hc9,gP9,uP9,Ls9,Lo9,F9,B9.at_ [(b4,_),(b3,_)] H,hF9⟩
 exfalso;have h41:=of_decide_eq_false hc41;have h53:=of_decide_eq_false hc53;have h17:=of_decide_eq_false hc17;omega
theorem yi (p:Pa) (w:World) (h:p.rd 0 w.heap.size w) (hok:p.a.ok):dt aa zd [p.v] w fun v w2=> ∃ p':Pa,v=p'.v/\p'.a=p.a/\iJ w w2 p':=
 (Ay p w h hok).mono fun _ _ ⟨p',_,_,_,_,_,_,h1,h2,h3⟩=>⟨p',h1,h2,h3.new⟩
def P1 (wt:Int):Co:=⟨0,1,wt,[],none,0⟩
def O4 (wt:Int):Gr:=⟨0,wt,0,[],none,0,[],none,0⟩
theorem PZ (wt:Int) (lo hi:Nat) (w:World):(P1 wt).rd lo hi w:=⟨Rd.nil,by simp[P1],by simp[P1],by simp[P1],by simp[P1]⟩
theorem PQ (wt:Int) (lo hi:Nat) (w:World):(O4 wt).rd lo hi w:=⟨Rd.nil,by simp[O4],Rd.nil,by simp[O4],by simp[O4],by simp[O4],by simp[O4]⟩
structure RI (w00 w0 w:World) (b:Bk) (gP:Nat) (uP:Array Value) (F:List ce):Prop where
 pA:b.pA=some ⟨gP,0,none⟩
 row:d7 Fr b.ps b.pC uP
 sns:b.sns=[]/\b.snA=none/\b.snC=0
 co:xT w00 b.clo b.chi b.co∈F
 gr:KJ w00 b.glo b.ghi b.gr∈F
 ps: ∀ q∈b.ps,wM w00 q.lo q.hi q.p∈F
 lo: ∀ f∈F,w0.heap.size<=f.lo
 H:Hp w0 w [(gP,.cells uP bI (0,0))] F
theorem KT {np nr few:Nat} {wt:Int} (w00 w:World) (h00:w00.heap.size<=w.heap.size) (q1:1<=np) (q4:np<=4) (n1:1<=nr) (n5:nr<=5) (f1:1<=few) (f2:few<=nr) (t1:1<=wt) (t2:wt<=1000):dt aa Bi [.agg #[J (np:Nat),J (nr:Nat),J (few:Nat),J wt]] w fun v w2=> ∃ (b:Bk) (gP:Nat) (uP:Array Value) (F:List ce),v=.tuple #[.agg b.c.toArray,J 0]/\b.a=mP np nr few wt/\RI w00 w w2 b gP uP F:=by
 refine aG zD Z Z ?_
 have H:=Hp.start w
 show CW _ _ _ _ (args [.agg #[J (np:Nat),J (nr:Nat),J (few:Nat),J wt]]) w
 refine W<|Zr<|gY H Z Z fun w1 b1 H=>fc H mG Z fun w2 b2 H=>G (Wi Z)<|U<|W<|W<|Zr<|G (Zf tz Z)<|G (Zd am H 1 Z Z Z)<|G (dp Z Z I)<|G (Yb Z)<|ZG<|G (Zf tz Z)<|ZG<|G (Zd am H 1 Z Z Z)<|ZG<|G (eB Z Z I)<|G (N Z Z)<|U<|ZF Z<|Zk<|W<|Zr<|G (Zf BB Z)<|G (Zd am H 1 Z Z Z)<|G (Zf BA Z)<|G (Zd am H 1 Z Z Z)<|cu Gz (NW nr few _ n1 n5 f1 f2) Z Z ?_
 have hlo4:=H.size
 rintro _ w3 ⟨p4,rfl,hap4,hnp4⟩;replace H:=H.learn hnp4.2 (wM w00 w2.heap.size w3.heap.size p4) ⟨(aV h00 H.size),hnp4.1⟩ (ao _) (ao _);clear hnp4
 refine G (Yu Z)<|G (Xa Z Z)<|G (Xi Z Z)<|fc H bR Z fun w4 b4 H=>bA H 0 (#[J (p4.epoch),J (p4.leader),.slice p4.iA p4.isr.length p4.iC,.slice p4.kA p4.known.length p4.kC,.slice p4.rA p4.reps.length p4.rC,J (p4.few),J (p4.base)]) bl Z Z Z Z Z N N fun w5 H=>G (Wi Z)<|U<|W<|W<|Zr<|G (Yi Z)<|G (cv Z Z (by decide))<|U<|ZF Z<|Zk<|W<|Zr<|G (Zf wC Z)<|G (Zd am H 2 Z Z Z)<|cu ER (Gs wt _ t1 t2) Z Z ?_
 rintro _ w6 ⟨rfl,hb⟩;replace H:=H.later hb;clear hb
 refine G (Yu Z)<|G (Xa Z Z)<|G (Xi Z Z)<|fc H cI Z fun w7 b6 H=>bA H 0 (#[J (0),J (1),J (wt),.slice none 0 0]) aF Z Z Z Z Z N N fun w8 H=>G (Wi Z)<|U<|W<|W<|Zr<|G (Yi Z)<|G (cv Z Z (by decide))<|U<|ZF Z<|Zk<|W<|Zr<|G (Zf wC Z)<|G (Zd am H 3 Z Z Z)<|cu EP (OB wt _ t1 t2) Z Z ?_
 rintro _ w9 ⟨rfl,hb⟩;replace H:=H.later hb;clear hb
 refine G (Yu Z)<|G (Xa Z Z)<|G (Xi Z Z)<|fc H ed Z fun w10 b7 H=>bA H 0 (#[J (0),J (wt),J (0),.slice none 0 0,.slice none 0 0]) bz Z Z Z Z Z N N fun w11 H=>G (Wi Z)<|U<|W<|Zr<|G (Zw ax H 1 Z Z Z)<|G (Zw aO H 0 Z Z Z)<|G (bC (cs:= #[.slice none 0 0,J (0),J (1),J (wt),.slice none 0 0,J (0),J (wt),J (0),.slice none 0 0,.slice none 0 0,.slice none 0 0]) Lh mG N)<|fc H mG Z fun w12 b8 H=>bA H 0 (#[.slice none 0 0,J (0),J (1),J (wt),.slice none 0 0,J (0),J (wt),J (0),.slice none 0 0,.slice none 0 0,.slice none 0 0]) jT Z Z Z Z Z N N fun w13 H=>U<|W<|W<|Zr<|G (Zf tz Z)<|G (Zd am H 5 Z Z Z)<|G (Yi Z)<|U<|Zb ?_
 refine cf (τ:=Nat×List Pq×Option Addr×Nat×List (Nat×Obj)×List ce) [51,52,53,54,55,56,57,58,59,60] (fun(i,_)=>[(51,J (i:Nat))]) (fun(i,qs,A,c,Lq,F') w'=>i<=np/\qs.map (fun q=>q.p.a)=aq i (mQ nr few)/\gG Fr (.slice A qs.length c) bI qs Lq/\(∀ q∈qs,wM w00 q.lo q.hi q.p∈F')/\(∀ f∈F',w.heap.size<=f.lo)/\(∃ lo hi,wM w00 lo hi p4∈F')/\Hp w w' ((b8,.cells #[.slice A qs.length c,J (0),J (1),J (wt),.slice none 0 0,J (0),J (wt),J (0),.slice none 0 0,.slice none 0 0,.slice none 0 0] oo (0,0))::(b7,.cells #[J (0),J (wt),J (0),.slice none 0 0,.slice none 0 0] cK (0,0))::(b6,.cells #[J (0),J (1),J (wt),.slice none 0 0] aX (0,0))::(b4,.cells #[J (p4.epoch),J (p4.leader),.slice p4.iA p4.isr.length p4.iC,.slice p4.kA p4.known.length p4.kC,.slice p4.rA p4.reps.length p4.rC,J (p4.few),J (p4.base)] bI (0,0))::(b2,.cells #[.slice none 0 0,J (0),J (0),J (0),.slice none 0 0,J (0),J (0),J (0),.slice none 0 0,.slice none 0 0,.slice none 0 0] oo (0,0))::(b1,.cells #[J (((np:Nat):Int)),J (((nr:Nat):Int)),J (((few:Nat):Int)),J (wt)] lL (0,0))::(Lq++[])) F') (fun(i,_)=>np-i) (0,[],none,0,[],_) ⟨bN _,rfl,gG.nil,by simp,fun f hf=>(by rw[ar.1 hf];exact hlo4),⟨_,_,az ..⟩,H⟩ (dR Z) ?_
 rintro⟨i,qs,A,c,Lq,F'⟩ ρ1 w14 ⟨hi,hqa,ho,hqs,hFl,⟨lo4,hi4,hp4⟩,H⟩
 show CW _ _ _ _ (dK (ia _ _ ρ1) [(51,J (i:Nat))]) w14
 have hql:qs.length=i:=by have:=congrArg da hqa;simpa using this
 refine W<|Zr ?_
 refine du (cO Z Z) Z Z Z (fun h52=> ?_) (fun h52=> ?_)
 refine U<|W<|ZT Z<|Zk<|W ?_
 refine ft (τ:=List Pq×Option Addr×Nat×List (Nat×Obj)×List ce) [53,54,55,56,57,58,59] (fun _=>[]) (fun(q9,A9,c9,L9,F9) w'=>q9.map (fun q=>q.p.a)=aq (i+1) (mQ nr few)/\gG Fr (.slice A9 q9.length c9) bI q9 L9/\(∀ q∈q9,wM w00 q.lo q.hi q.p∈F9)/\(∀ f∈F9,w.heap.size<=f.lo)/\(∃ lo hi,wM w00 lo hi p4∈F9)/\Hp w w' ((b8,.cells #[.slice A9 q9.length c9,J (0),J (1),J (wt),.slice none 0 0,J (0),J (wt),J (0),.slice none 0 0,.slice none 0 0,.slice none 0 0] oo (0,0))::(b7,.cells #[J (0),J (wt),J (0),.slice none 0 0,.slice none 0 0] cK (0,0))::(b6,.cells #[J (0),J (1),J (wt),.slice none 0 0] aX (0,0))::(b4,.cells #[J (p4.epoch),J (p4.leader),.slice p4.iA p4.isr.length p4.iC,.slice p4.kA p4.known.length p4.kC,.slice p4.rA p4.reps.length p4.rC,J (p4.few),J (p4.base)] bI (0,0))::(b2,.cells #[.slice none 0 0,J (0),J (0),J (0),.slice none 0 0,J (0),J (0),J (0),.slice none 0 0,.slice none 0 0,.slice none 0 0] oo (0,0))::(b1,.cells #[J (((np:Nat):Int)),J (((nr:Nat):Int)),J (((few:Nat):Int)),J (wt)] lL (0,0))::(L9++[])) F9) ?_ ?_
 refine Zb ?_
 refine rz cD [0] [1,2,3,4,5,6,7] [0] 7 N N N Nq ?_
 refine aw Z Z Z Z Z (fun w' hw'=>Zf dL Z)<|aU ?_
 intro w15 hw';replace H:=H.later hw';clear hw'
 refine uj 1 2 N Z Z ?_ ?_
 refine G (Zd eA H 0 Z Z Z)<|U<|df 2 N Z<|G (Zw bo H 3 Z Z Z)<|U<|df 3 N Z<|cu m6 (yi p4 _ (Hp.paM H hp4) (hap4▸(Eb (Φ:=fun _=>True) n1 n5 f1 f2).ok)) Z Z ?_
 have hlo2:=H.size
 rintro _ w16 ⟨p2,rfl,hap2,hnp2⟩;replace H:=H.learn hnp2.2 (wM w00 w15.heap.size w16.heap.size p2) ⟨(aV h00 H.size),hnp2.1⟩ (ao _) (ao _);clear hnp2
 refine U<|df 4 N Z<|uO (vs:=[.agg #[J (p2.epoch),J (p2.leader),.slice p2.iA p2.isr.length p2.iC,.slice p2.kA p2.known.length p2.kC,.slice p2.rA p2.reps.length p2.rC,J (p2.few),J (p2.base)]]) H iE bR Z Z Z Z Z Z fun w17 b57 H=>U<|df 5 N Z<|wN (Y:=Fr) xO (K:=[(b57,_),(b8,_),(b7,_),(b6,_),(b4,_),(b2,_),(b1,_)]) (L:=Lq) (M:=[]) H ho (es:=qs) (news:=[⟨p2,w15.heap.size,w16.heap.size⟩]) Z Z Z (zk.row (m:=1) (sz:=Fr.sz) (H.ent (i:=0) Z) Z) (by simp only[cH];omega) Z ?_
 intro A5 c5 w18 L5 h5 h5m ho5 H
 refine U<|df 6 N Z<|G (Zf dL Z)<|U<|df 7 N Z<|bA H 1 (#[.slice A5 ((qs++[(⟨p2,w15.heap.size,w16.heap.size⟩:Pq)]).length) c5,J (0),J (1),J (wt),.slice none 0 0,J (0),J (wt),J (0),.slice none 0 0,.slice none 0 0,.slice none 0 0]) u6 Z Z Z Z Z N N fun w19 H=>U<|cj N ?_
 exact⟨(qs++[(⟨p2,w15.heap.size,w16.heap.size⟩:Pq)],A5,c5,L5,wM w00 w15.heap.size w16.heap.size p2::F'),⟨by rw[bk,hqa,rG];show _++[p2.a]=_;rw[hap2,hap4],ho5,fun q hq=>(by rcases ap.1 hq with hq|hq;exact ai _ (hqs q hq);rw[ar.1 hq];exact az ..),fun f hf=>(by rcases av.1 hf with rfl|hf;exact hlo2;exact hFl f hf),⟨lo4,hi4,ai _ hp4⟩,H.forget (.cons _ (au _)) (fun _ h=>h)⟩,Pn,Qg⟩
 refine G (Zw bo H 3 Z Z Z)<|U ?_
 refine uj 1 3 N Z Z ?_ ?_
 refine G (Zd eA H 0 Z Z Z)<|U<|df 3 N Z<|cu m6 (yi p4 _ (Hp.paM H hp4) (hap4▸(Eb (Φ:=fun _=>True) n1 n5 f1 f2).ok)) Z Z ?_
 have hlo2:=H.size
 rintro _ w20 ⟨p2,rfl,hap2,hnp2⟩;replace H:=H.learn hnp2.2 (wM w00 w15.heap.size w20.heap.size p2) ⟨(aV h00 H.size),hnp2.1⟩ (ao _) (ao _);clear hnp2
 refine U<|df 4 N Z<|uO (vs:=[.agg #[J (p2.epoch),J (p2.leader),.slice p2.iA p2.isr.length p2.iC,.slice p2.kA p2.known.length p2.kC,.slice p2.rA p2.reps.length p2.rC,J (p2.few),J (p2.base)]]) H iE bR Z Z Z Z Z Z fun w21 b57 H=>U<|df 5 N Z<|wN (Y:=Fr) xO (K:=[(b57,_),(b8,_),(b7,_),(b6,_),(b4,_),(b2,_),(b1,_)]) (L:=Lq) (M:=[]) H ho (es:=qs) (news:=[⟨p2,w15.heap.size,w20.heap.size⟩]) Z Z Z (zk.row (m:=1) (sz:=Fr.sz) (H.ent (i:=0) Z) Z) (by simp only[cH];omega) Z ?_
 intro A5 c5 w22 L5 h5 h5m ho5 H
 refine U<|df 6 N Z<|G (Zf dL Z)<|U<|df 7 N Z<|bA H 1 (#[.slice A5 ((qs++[(⟨p2,w15.heap.size,w20.heap.size⟩:Pq)]).length) c5,J (0),J (1),J (wt),.slice none 0 0,J (0),J (wt),J (0),.slice none 0 0,.slice none 0 0,.slice none 0 0]) u6 Z Z Z Z Z N N fun w23 H=>U<|cj N ?_
 exact⟨(qs++[(⟨p2,w15.heap.size,w20.heap.size⟩:Pq)],A5,c5,L5,wM w00 w15.heap.size w20.heap.size p2::F'),⟨by rw[bk,hqa,rG];show _++[p2.a]=_;rw[hap2,hap4],ho5,fun q hq=>(by rcases ap.1 hq with hq|hq;exact ai _ (hqs q hq);rw[ar.1 hq];exact az ..),fun f hf=>(by rcases av.1 hf with rfl|hf;exact hlo2;exact hFl f hf),⟨lo4,hi4,ai _ hp4⟩,H.forget (.cons _ (au _)) (fun _ h=>h)⟩,Pn,Qg⟩
 refine cu m6 (yi p4 _ (Hp.paM H hp4) (hap4▸(Eb (Φ:=fun _=>True) n1 n5 f1 f2).ok)) Z Z ?_
 have hlo2:=H.size
 rintro _ w24 ⟨p2,rfl,hap2,hnp2⟩;replace H:=H.learn hnp2.2 (wM w00 w15.heap.size w24.heap.size p2) ⟨(aV h00 H.size),hnp2.1⟩ (ao _) (ao _);clear hnp2
 refine U ?_
 refine uj 1 4 N Z Z ?_ ?_
 refine G (Zd eA H 0 Z Z Z)<|U<|df 4 N Z<|uO (vs:=[.agg #[J (p2.epoch),J (p2.leader),.slice p2.iA p2.isr.length p2.iC,.slice p2.kA p2.known.length p2.kC,.slice p2.rA p2.reps.length p2.rC,J (p2.few),J (p2.base)]]) H iE bR Z Z Z Z Z Z fun w25 b57 H=>U<|df 5 N Z<|wN (Y:=Fr) xO (K:=[(b57,_),(b8,_),(b7,_),(b6,_),(b4,_),(b2,_),(b1,_)]) (L:=Lq) (M:=[]) H ho (es:=qs) (news:=[⟨p2,w15.heap.size,w24.heap.size⟩]) Z Z Z (zk.row (m:=1) (sz:=Fr.sz) (H.ent (i:=0) Z) Z) (by simp only[cH];omega) Z ?_
 intro A5 c5 w26 L5 h5 h5m ho5 H
 refine U<|df 6 N Z<|G (Zf dL Z)<|U<|df 7 N Z<|bA H 1 (#[.slice A5 ((qs++[(⟨p2,w15.heap.size,w24.heap.size⟩:Pq)]).length) c5,J (0),J (1),J (wt),.slice none 0 0,J (0),J (wt),J (0),.slice none 0 0,.slice none 0 0,.slice none 0 0]) u6 Z Z Z Z Z N N fun w27 H=>U<|cj N ?_
 exact⟨(qs++[(⟨p2,w15.heap.size,w24.heap.size⟩:Pq)],A5,c5,L5,wM w00 w15.heap.size w24.heap.size p2::F'),⟨by rw[bk,hqa,rG];show _++[p2.a]=_;rw[hap2,hap4],ho5,fun q hq=>(by rcases ap.1 hq with hq|hq;exact ai _ (hqs q hq);rw[ar.1 hq];exact az ..),fun f hf=>(by rcases av.1 hf with rfl|hf;exact hlo2;exact hFl f hf),⟨lo4,hi4,ai _ hp4⟩,H.forget (.cons _ (au _)) (fun _ h=>h)⟩,Pn,Qg⟩
 refine uO (vs:=[.agg #[J (p2.epoch),J (p2.leader),.slice p2.iA p2.isr.length p2.iC,.slice p2.kA p2.known.length p2.kC,.slice p2.rA p2.reps.length p2.rC,J (p2.few),J (p2.base)]]) H iE bR Z Z Z Z Z Z fun w28 b57 H=>U<|df 1 N Z<|G (Zd eA H 1 Z Z Z)<|U<|df 5 N Z<|wN (Y:=Fr) xO (K:=[(b57,_),(b8,_),(b7,_),(b6,_),(b4,_),(b2,_),(b1,_)]) (L:=Lq) (M:=[]) H ho (es:=qs) (news:=[⟨p2,w15.heap.size,w24.heap.size⟩]) Z Z Z (zk.row (m:=1) (sz:=Fr.sz) (H.ent (i:=0) Z) Z) (by simp only[cH];omega) Z ?_
 intro A5 c5 w29 L5 h5 h5m ho5 H
 refine U<|df 6 N Z<|G (Zf dL Z)<|U<|df 7 N Z<|bA H 1 (#[.slice A5 ((qs++[(⟨p2,w15.heap.size,w24.heap.size⟩:Pq)]).length) c5,J (0),J (1),J (wt),.slice none 0 0,J (0),J (wt),J (0),.slice none 0 0,.slice none 0 0,.slice none 0 0]) u6 Z Z Z Z Z N N fun w30 H=>U<|cj N ?_
 exact⟨(qs++[(⟨p2,w15.heap.size,w24.heap.size⟩:Pq)],A5,c5,L5,wM w00 w15.heap.size w24.heap.size p2::F'),⟨by rw[bk,hqa,rG];show _++[p2.a]=_;rw[hap2,hap4],ho5,fun q hq=>(by rcases ap.1 hq with hq|hq;exact ai _ (hqs q hq);rw[ar.1 hq];exact az ..),fun f hf=>(by rcases av.1 hf with rfl|hf;exact hlo2;exact hFl f hf),⟨lo4,hi4,ai _ hp4⟩,H.forget (.cons _ (au _)) (fun _ h=>h)⟩,Pn,Qg⟩
 rintro⟨q9,A9,c9,L9,F9⟩ ρ1 w31 H9
 show CW _ _ _ _ (dK (ia _ _ ρ1) []) w31
 refine Zr<|G (bp Z Z I I)<|G (Yi Z)<|U ?_
 exact⟨(i+1,q9,A9,c9,L9,F9),⟨by omega,H9⟩,dR Z,Qg,by show np- (i+1)<np-i;omega⟩
 refine U<|W<|ZF Z<|Zx<|W<|Zr<|G (Zw n8 H 0 Z Z Z)<|G (Yi Z)<|bA H 4 (#[.slice A qs.length c,J (0),J (1),J (wt),.slice none 0 0,J (0),J (wt),J (0),.slice none 0 0,.slice none 0 0,.slice none 0 0]) jT Z Z Z Z Z N N fun w32 H=>G (Wi Z)<|U<|Zt ?_
 obtain rfl:i=np:=by omega
 obtain⟨gP,uP,rfl,rfl,row⟩:=ho.row I
 have H7:=((H.forget (L':=[(gP,_)]) ((.cons _ (.cons _ (.cons _ (.cons _ (.cons _ (.cons _ (au _)))))))) (fun _ h=>h)).learnOld (xT w00 w.heap.size w.heap.size (P1 wt)) ⟨h00,PZ ..⟩ (ao _)).learnOld (KJ w00 w.heap.size w.heap.size (O4 wt)) ⟨h00,PQ ..⟩ (ao _)
 exact ch (cs0:= #[.slice (Qd gP) qs.length c,J (0),J (1),J (wt),.slice none 0 0,J (0),J (wt),J (0),.slice none 0 0,.slice none 0 0,.slice none 0 0]) (v1:=J 0) Z n8 Z (H.ent (i:=4) Z) Z Z ⟨⟨qs,some ⟨gP,0,none⟩,c,P1 wt,w.heap.size,w.heap.size,O4 wt,w.heap.size,w.heap.size,[],none,0⟩,gP,uP,_,rfl,by unfold Bk.a mP;rw[hqa];rfl,⟨rfl,row,⟨rfl,rfl,rfl⟩,ai _ (az ..),az ..,fun q hq=>ai _ (ai _ (hqs q hq)),fun f hf=>(by rcases av.1 hf with rfl|hf;exact ao _;rcases av.1 hf with rfl|hf;exact ao _;exact hFl f hf),H7⟩⟩
theorem zG (es:List ByteArray) (A:Option Addr) (c:Nat) (w:World) (hr:Rd mq 0 w.heap.size A es w) (hb:es.length*16<=140737488355328):
  dt aa jB [.slice A es.length c] w fun v w2=> ∃ A' c' L',v=.slice A' es.length c'/\es.length<=c'/\c'<=maxLen/\gG mq (.slice A' es.length c') pd es L'/\Hp w w2 L' []:=by
 refine aG nP Z Z ?_
 have H:=Hp.startRd hr
 refine W<|Zr<|G (Ws Z)<|U<|W<|W<|Zr<|G (Ys Z) ?_
 refine zS (pU jA Z) Z Z Z (fun h4=> ?_) (fun h4=> ?_)
 refine U<|ZT Z<|W<|Zr<|G (Ws Z)<|U<|Zt ?_
 have he:es=[]:=by
  cases es with
  |nil=>rfl
  |cons e es=>obtain⟨b,o,hA,_⟩:=hr (by simp);subst hA;cases h4
 subst he
 exact cn Z Z ⟨none,0,[],rfl,by simp,by decide,gG.nil,H.forget (by simp) (by simp)⟩
 refine U<|ZF Z<|Zk<|W<|Zr<|OL H ki Z fun w1 b5 H=>G (Ys Z)<|wN (Y:=mq) tL (K:=[]) (L:=[(b5,_)]) (M:=[]) H (sm.lit (by decide) (by rfl)) (es:=[]) (news:=es) Z Z Z (Rd.src (H.fact (i:=0) Z)) (by simpa using hb) Z ?_
 intro A3 c3 w3 L3 h3a h3b ho3 H
 refine G (Ws Z)<|U<|Zt ?_
 exact cn Z Z ⟨A3,c3,L3,rfl,h3a,h3b,ho3,H.forget (by simp) (by simp)⟩
theorem zF (es:List ByteArray) (A:Option Addr) (c:Nat) (w:World) (hr:Rd mq 0 w.heap.size A es w) (hb:es.length*16<=140737488355328):
  dt aa jB [.slice A es.length c] w fun v w2=> ∃ A' c',v=.slice A' es.length c'/\es.length<=c'/\Rd mq w.heap.size w2.heap.size A' es w2/\Below w.heap.size w w2:=
 (zG es A c w hr hb).mono fun v w2 ⟨A',c',L',h1,h2,_,h4,h5⟩=>⟨A',c',h1,h2,h4.rd (K:=[]) (M:=[]) (by simpa using h5),h5.below⟩
structure Aq where
 x:An
 A:Option Addr
 c:Nat
def Qj:fA Aq:=⟨fun q=>[J q.x.code,J q.x.n,.slice q.A q.x.texts.length q.c],3,fun _=>rfl,by decide,fun a u hu=>by
 simp only[av,bd,or_false]at hu
 rcases hu with h|h|h<;>subst h<;>rfl⟩
structure Rn where
 xs:List Aq
 oA:Option Addr
 oC:Nat
 b:Bk
def Rn.v (r:Rn):Value:=.tuple #[.slice r.oA r.xs.length r.oC,.agg r.b.c.toArray,J 0]
structure Rn.rd (r:Rn) (lo hi:Nat) (w:World):Prop where
 xs:Rd Qj lo hi r.oA r.xs w
 oC:r.xs.length<=r.oC
 tx: ∀ x∈r.xs,Rd mq lo hi x.A x.x.texts w/\x.x.texts.length<=x.c
 ps:Rd Fr lo hi r.b.pA r.b.ps w
 pC:r.b.ps.length<=r.b.pC
 pa: ∀ q∈r.b.ps,q.p.rd lo hi w
 co:r.b.co.rd lo hi w
 gr:r.b.gr.rd lo hi w
theorem Rn.rd.st {r:Rn} {lo hi:Nat} {w w':World} (hk: ∀ k,lo<=k->k<hi->w'.heap[k]? =w.heap[k]?) (h:r.rd lo hi w):r.rd lo hi w':=⟨h.xs.st hk,h.oC,fun x hx=>⟨(h.tx x hx).1.st hk,(h.tx x hx).2⟩,h.ps.st hk,h.pC,fun q hq=>(h.pa q hq).st hk,h.co.st hk,h.gr.st hk⟩
theorem Rn.rd.mono {r:Rn} {lo hi lo' hi':Nat} {w:World} (h:r.rd lo hi w) (h1:lo'<=lo) (h2:hi<=hi'):r.rd lo' hi' w:=⟨h.xs.mono h1 h2,h.oC,fun x hx=>⟨(h.tx x hx).1.mono h1 h2,(h.tx x hx).2⟩,h.ps.mono h1 h2,h.pC,fun q hq=>Pa.rd.mono (h.pa q hq) h1 h2,Co.rd.mono h.co h1 h2,Gr.rd.mono h.gr h1 h2⟩
theorem Hp.rdM {α:Type} {Y:fA α} {w0 w:World} {L:List (Nat×Obj)} {F:List ce} {lo hi:Nat} {A:Option Addr} {es:List α} (H:Hp w0 w L F) (h:ey Y lo hi A es∈F):Rd Y 0 w.heap.size A es w:=by
 obtain⟨h1,h2,-⟩:=H.facts _ h
 exact Rd.mono h1 (bN _) h2
theorem Bw.into2 {w0 w w2:World} {bb gP:Nat} {b:Bk} {uP:Array Value} {Ls Lo K:List (Nat×Obj)} {F F2:List ce} (B:Bw w0 w bb b gP uP Ls Lo K F) (X:List (Nat×Obj)) (H:Hp w0 w2 (X++((bb,.cells b.c.toArray bE (0,0))::(gP,.cells uP bI (0,0))::(Ls++(Lo++K)))) F2) (hF: ∀ f∈F,f∈F2):Bw w0 w2 bb b gP uP Ls Lo (X++K) F2:=
 ⟨B.pA,B.row,B.sn,B.own,hF _ B.co,hF _ B.gr,fun q hq=>hF _ (B.ps q hq),H.perm (PM [(bb,_),(gP,_)] Ls Lo X K)⟩
theorem Qy (A Ls Lo oL K:List (Nat×Obj)):(A++(oL++(Ls++(Lo++K)))).Perm (A++(Ls++(Lo++(oL++K)))):=by
 refine List.Perm.append_left A ?_
 rw[show Ls++(Lo++(oL++K))=(Ls++Lo)++(oL++K) by simp,show Ls++(Lo++K)=(Ls++Lo)++K by simp]
 exact gj oL (Ls++Lo) K
structure Qa (w0 w:World) (W0:Wa) (acts:List Act) (A0:Option Addr) (bb:Nat) (K:List (Nat×Obj)) (i:Nat) (b:Bk) (xs:List Aq) (gP:Nat) (uP:Array Value) (Ls Lo:List (Nat×Obj)) (oA:Option Addr) (oC:Nat) (oL:List (Nat×Obj)) (F:List ce):Prop where
 le:i<=acts.length
 run:kN W0 (acts.take i) (xs.map Aq.x) b.a
 B:Bw w0 w bb b gP uP Ls Lo (oL++K) F
 own:gG Qj (.slice oA xs.length oC) eh xs oL
 tx: ∀ x∈xs,x.x.texts.length<=x.c/\ ∃ lo hi,w0.heap.size<=lo/\ey mq lo hi x.A x.x.texts∈F
 ac:ey ra 0 w0.heap.size A0 acts∈F
theorem Q5 (bb gP:Nat×Obj) (Ls Lo oL K:List (Nat×Obj)):(bb::(K++(gP::(Ls++(Lo++oL))))).Perm (bb::gP::(Ls++(Lo++(oL++K)))):=by
 rw[show Ls++(Lo++(oL++K))=(Ls++(Lo++oL))++K by simp]
 refine ah _ ?_
 exact(xX (l₁:=K) (l₂:=gP::(Ls++(Lo++oL))))
theorem Qa.rd {w0 w w2:World} {W0:Wa} {acts:List Act} {A0:Option Addr} {bb:Nat} {K:List (Nat×Obj)} {i:Nat} {b:Bk} {xs:List Aq} {gP:Nat} {uP:Array Value} {Ls Lo:List (Nat×Obj)} {oA:Option Addr} {oC:Nat} {oL:List (Nat×Obj)} {F F2:List ce} (Ii:Qa w0 w W0 acts A0 bb K i b xs gP uP Ls Lo oA oC oL F) (X:List (Nat×Obj)) (H:Hp w0 w2 (X++((gP,.cells uP bI (0,0))::(Ls++(Lo++oL)))) F2) (hF: ∀ f∈F,f∈F2):(Rn.mk xs oA oC b).rd w0.heap.size w2.heap.size w2:=by
 have H1:=H.forget (L':=oL) (((bZ Lo oL).trans (bZ Ls _)).trans ((aR _ _).trans (bZ X _))) (fun _ h=>h)
 have H2:=H.forget (L':=[(gP,.cells uP bI (0,0))]) (((List.cons_sublist_cons.2 (List.nil_sublist _))).trans (bZ X _)) (fun _ h=>h)
 obtain⟨A,c,e1,e2,-⟩:=Ii.own.form
 cases e1
 have hg:=H2.ge (i:=0) Z
 have hl:=H2.lt (i:=0) Z
 refine⟨Ii.own.rd (K:=[]) (M:=[]) (by simpa using H1),e2,fun x hx=> ?_,?_,Ii.B.row.le,fun q hq=> ?_,?_,?_⟩
 obtain⟨z1,lo,hi,z2,z3⟩:=Ii.tx x hx
 obtain⟨h1,h2,-⟩:=H.facts _ (hF _ z3)
 exact⟨Rd.mono h1 z2 h2,z1⟩
 have:=(Ii.B.row.rd (H2.ent (i:=0) Z)).mono hg (Nat.succ_le_of_lt hl)
 rw[<-Ii.B.pA]at this
 exact this
 obtain⟨h1,h2,-⟩:=H.facts _ (hF _ (Ii.B.ps q hq))
 exact Pa.rd.mono h1.2 h1.1 h2
 obtain⟨h1,h2,-⟩:=H.facts _ (hF _ Ii.B.co)
 exact Co.rd.mono h1.2 h1.1 h2
 obtain⟨h1,h2,-⟩:=H.facts _ (hF _ Ii.B.gr)
 exact Gr.rd.mono h1.2 h1.1 h2
theorem JA {es:List cr} {n st a most b:Nat} {out:List ByteArray} (h:xS es n st a most out b):out.length<=most:=h.2.2.2.1
theorem Ig {w:Wa} {a:Act} {w':Wa} {x:An} (h:qf w a w' x) (hn:a.kind=19->a.n<=20) (h17:1<=a.kind):x.texts.length<=20:=by
 cases h with
 |poll x h1 h2=>
  cases h2 with
  |no=>exact bN _
  |yes p x h3 h4 h5=>
   cases h5 with
   |none=>exact bN _
   |range=>exact bN _
   |ok l r st out b g1 g2 g3 g4 g5=>have:=JA g5;have:=hn h1;show out.length<=20;omega
 |other h1=>
  have:(jx w a).2.texts=[]:=by
   obtain⟨a1,a2,a3,a4,a5,a6,a7,a8⟩:=qe a w
   rcases Classical.em (a.kind=1)with h|h
   rw[a1 h];exact za ..
   rcases Classical.em (a.kind=2)with h|h
   rw[a2 h];exact xM ..
   rcases Classical.em (a.kind=3∨a.kind=4)with h|h
   rw[a3 h];exact y0 ..
   rcases Classical.em (a.kind=5)with h|h
   rw[a4 h];exact vN ..
   rcases Classical.em (a.kind=6)with h|h
   rw[a5 h];exact y7 ..
   rcases Classical.em (a.kind=7)with h|h
   rw[a6 h];rfl
   rcases Classical.em (8<=a.kind/\a.kind<=15)with h|h
   rw[a7 h];exact y3 ..
   rw[a8 I];exact AK ..
  rw[this];exact bN _
theorem Ps {np nr few:Nat} {wt:Int} {acts:List Act} {A0:Option Addr} {c0:Nat} (w:World) (q1:1<=np) (q4:np<=4) (n1:1<=nr) (n5:nr<=5) (f1:1<=few) (f2:few<=nr) (t1:1<=wt) (t2:wt<=1000) (hr:Rd ra 0 w.heap.size A0 acts w) (hl:acts.length<=400) (hg: ∀ a∈acts,nv np nr a):dt aa Eu [.agg #[J (np:Nat),J (nr:Nat),J (few:Nat),J wt],.slice A0 acts.length c0] w fun v w2=> ∃ r:Rn,v=r.v/\kN (mP np nr few wt) acts (r.xs.map Aq.x) r.b.a/\r.rd w.heap.size w2.heap.size w2/\Below w.heap.size w w2:=by
 refine aG CB Z Z ?_
 have H:=Hp.startRd hr
 show CW _ _ _ _ (args [.agg #[J (np:Nat),J (nr:Nat),J (few:Nat),J wt],.slice A0 acts.length c0]) w
 refine W<|Zr<|gY H Z Z fun w1 b2 H=>G (Ws Z)<|fc H mG Z fun w2 b5 H=>G (Wi Z)<|U<|W<|Zr<|G (Zw vo H 1 Z Z Z)<|cu zL (KT w _ H.size q1 q4 n1 n5 f1 f2 t1 t2) Z Z ?_
 rintro _ w3 ⟨⟨ps,pA,pC,co,clo,chi,gr,glo,ghi,sns,snA,snC⟩,gP,uP,F1,rfl,hba,⟨hpA,row,⟨hs1,hs2,hs3⟩,hco,hgr,hps,hlo1,H1⟩⟩
 dsimp only at hpA row hs1 hs2 hs3 hco hgr hps
 subst hpA;subst hs1;subst hs2;subst hs3
 replace H:=H.joinF H1 hlo1;clear H1
 refine G (Yu Z)<|G (Xa Z Z)<|G (Xi Z Z)<|fc H mG Z fun w4 b7 H=>bA H 0 (#[.slice (Qd gP) ps.length pC,J (co.clock),J (co.next),J (co.wait),.slice co.A co.txs.length co.cap,J (gr.clock),J (gr.wait),J (gr.gen),.slice gr.mA gr.ms.length gr.mC,.slice gr.oA gr.os.length gr.oC,.slice none (([]:List Sn).length) 0]) jT Z Z Z Z Z N N fun w5 H=>G (Wi Z)<|U<|W<|W<|Zr<|G (Yi Z)<|G (cv Z Z (by decide))<|U<|ZF Z<|Zk<|W<|W<|Zr<|G (Ys Z)<|G (bh xc Z)<|G (eB Z Z I)<|U<|ZF Z<|Zk<|W<|Zr<|G (Zw n8 H 0 Z Z Z)<|G (bC (cs:= #[.slice (Qd gP) ps.length pC,J (co.clock),J (co.next),J (co.wait),.slice co.A co.txs.length co.cap,J (gr.clock),J (gr.wait),J (gr.gen),.slice gr.mA gr.ms.length gr.mC,.slice gr.oA gr.os.length gr.oC,.slice none (([]:List Sn).length) 0]) Jr KQ N)<|gY H Z Z fun w6 b29 H=>G (Wp Z)<|U<|W<|Zr<|G (Ws Z)<|U<|W<|W<|Zr<|G (Ys Z)<|G (bh xc Z) ?_
 refine G (Yi Z)<|U<|Zb ?_
 obtain⟨K3,hK3⟩: ∃ l:List (Nat×Obj),([(b7,.cells #[.slice (Qd gP) ps.length pC,J (co.clock),J (co.next),J (co.wait),.slice co.A co.txs.length co.cap,J (gr.clock),J (gr.wait),J (gr.gen),.slice gr.mA gr.ms.length gr.mC,.slice gr.oA gr.os.length gr.oC,.slice none (([]:List Sn).length) 0] oo (0,0)),(b5,.cells #[.slice none 0 0,J (0),J (0),J (0),.slice none 0 0,J (0),J (0),J (0),.slice none 0 0,.slice none 0 0,.slice none 0 0] oo (0,0)),(b2,.cells #[J (((np:Nat):Int)),J (((nr:Nat):Int)),J (((few:Nat):Int)),J (wt)] lL (0,0))]:List (Nat×Obj))=l:=⟨_,rfl⟩
 refine cf (τ:=Nat×Bk×List Aq×Nat×Array Value×List (Nat×Obj)×List (Nat×Obj)×Option Addr×Nat×List (Nat×Obj)×List ce) [10,12,13,32,33,34,35,36,37,38,39,40,41,42,43,44,45,46,47] (fun(i,_,xs,_,_,_,_,oA,oC,_,_)=>[(32,J (i:Nat)),(10,.slice oA xs.length oC)]) (fun(i,b,xs,gP,uP,Ls,Lo,oA,oC,oL,F') w'=>Qa w w' (mP np nr few wt) acts A0 b29 K3 i b xs gP uP Ls Lo oA oC oL F') (fun(i,_)=>acts.length-i) (0,⟨ps,some ⟨gP,0,none⟩,pC,co,clo,chi,gr,glo,ghi,[],none,0⟩,[],gP,uP,[],[],none,0,[],_) (by subst hK3;exact⟨bN _,by rw[hba];exact .nil _,⟨rfl,row,gG.nil,rfl,cz _ hco,cz _ hgr,fun q hq=>cz _ (hps q hq),H.perm (ah _ (ak _ _ _))⟩,gG.nil,by simp,az ..⟩) (mK Z Z) ?_
 rintro⟨i,b,xs,gP1,uP1,Ls,Lo,oA,oC,oL,F'⟩ ρ1 w7 Ii
 show CW _ _ _ _ (dK (ia _ _ ρ1) [(32,J (i:Nat)),(10,.slice oA xs.length oC)]) w7
 have hile:=Ii.le
 have H:=Ii.B.H.learnOld (ey ra 0 w.heap.size A0 acts) (Ii.B.H.facts _ Ii.ac).1 (ao _)
 have hxl:xs.length=i:=by have:=Ii.run.len;rwa[bc,aD,bB hile]at this
 obtain⟨M',-,hwi⟩:=Pr Ii.run (IF n1 n5 f1 f2 t1 t2) (by rw[aD];omega) q4 (fun a ha=>hg a (zo ha))
 rw[cF,aD,bB hile]at hwi
 refine W<|Zr ?_
 refine du (cO Z Z) Z Z Z (fun h33=> ?_) (fun h33=> ?_)
 ·
  refine U<|W<|ZT Z<|Zk<|W<|Zb<|W ?_
  obtain⟨a,ha⟩: ∃ a,acts[i]? =some a:=⟨_,aj I⟩
  refine Zr<|qg H 0 Z rg Z Z I I Z fun bq8 o8 x8 e8=> ?_
  obtain rfl:a=x8:=by have:=e8.at_;rw[ha]at this;exact aY this
  refine G (ka (xs:=Act.c a) dV Z Z e8.cl)<|fc H qj Z fun w9 b12 H=>bA H 0 (#[J (a.kind),.string (a.name),J (a.part),J (a.n),J (a.m),.string (a.text),J (a.lost)]) NE Z Z Z Z Z N N fun w10 H=>U<|W<|Zr<|G (Yp Z)<|G (Zw dV H 0 Z Z Z)<|cu uM (P8 (Ii.B.into2 [(b12,_)] H (fun f hf=>ai _ hf)) hwi I q1 q4 (hg a (ab ha))) Z Z ?_
  rintro _ w11 ⟨b2,x2,A9,c9,lo9,hi9,hA9,rfl,hc9,gP9,uP9,Ls9,Lo9,F9,B9,hF9⟩
  replace H:=B9.out (X:=[(b12,_)])
  refine fc H dn Z fun w12 b13 H=>bA H 0 (#[J (x2.code),J (x2.n),.slice A9 x2.texts.length c9]) aL Z Z Z Z Z N N fun w13 H=>U<|W<|Zr<|G (Zf rv Z)<|G (Zd ir H 0 Z Z Z)<|cu nX (zF x2.texts A9 c9 _ (Hp.rdM H (hF9 _ (az ..))) (by have:=Ig hA9 (fun h=>((hg a (ab ha)).poll h).2) (hg a (ab ha)).kind.1;omega)) Z Z ?_
  have hz41:=H.size
  rintro _ w14 ⟨A41,c41,rfl,hc41,hr41,hb41⟩;replace H:=H.learnRd hb41 hr41;clear hr41 hb41
  refine G (Zf rv Z)<|bA H 0 (#[J (x2.code),J (x2.n),.slice A41 x2.texts.length c41]) Ff Z Z Z Z Z N N fun w15 H=>U<|Zr<|G (Ys Z)<|G (Zw aK H 0 Z Z Z)<|uO (vs:=[.agg #[J (x2.code),J (x2.n),.slice A41 x2.texts.length c41]]) H s9 dn Z Z Z Z Z Z fun w16 b45 H=> ?_
  replace H:=Hp.perm H (Qy [(b45,_),(b13,_),(b12,_),(b29,_),(gP9,_)] Ls9 Lo9 oL K3)
  refine wN (Y:=Qj) Ie (K:=[(b45,_),(b13,_),(b12,_),(b29,_),(gP9,_)]) (L:=oL) (M:=Ls9++(Lo9++K3)) H Ii.own (es:=xs) (news:=[(⟨x2,A41,c41⟩:Aq)]) Z Z Z (zk.row (m:=1) (sz:=Qj.sz) (H.ent (i:=0) Z) Z) (by simp only[cH];omega) Z ?_
  intro A5 c5 w17 L5 h5 h5m ho5 H
  replace H:=Hp.perm H (Qy [(b45,_),(b13,_),(b12,_),(b29,_),(gP9,_)] Ls9 Lo9 L5 K3).symm
  refine G (Ws Z)<|U<|Zr<|G (bp Z Z I I)<|G (Yi Z)<|U ?_
  exact⟨(i+1,b2,xs++[(⟨x2,A41,c41⟩:Aq)],gP9,uP9,Ls9,Lo9,A5,c5,L5,_),⟨by omega,by rw[d6 ha,bk];exact Ii.run.snoc hA9,Bw.mk B9.pA B9.row B9.sn B9.own (ai _ B9.co) (ai _ B9.gr) (fun q hq=>ai _ (B9.ps q hq)) (H.forget (bZ [(b45,_),(b13,_),(b12,_)] _) (fun _ h=>h)),ho5,fun x hx=>(by rcases ap.1 hx with hx|hx;obtain⟨z1,lo,hi,z2,z3⟩:=Ii.tx x hx;exact⟨z1,lo,hi,z2,ai _ (hF9 _ (ai _ (ai _ z3)))⟩;rw[ar.1 hx];exact⟨hc41,_,_,hz41,az ..⟩),ai _ (hF9 _ (ai _ (az ..)))⟩,mK Z Z,Qg,by show acts.length- (i+1)<acts.length-i;omega⟩
 ·
  refine U<|W<|ZF Z<|Zx<|W ?_
  obtain rfl:i=acts.length:=by omega
  have hrun:=Ii.run
  rw[bJ]at hrun
  subst hK3
  obtain⟨ps2,pA2,pC2,co2,clo2,chi2,gr2,glo2,ghi2,sns2,snA2,snC2⟩:=b
  replace H:Hp w w7 ((b29,.cells #[.slice pA2 ps2.length pC2,J (co2.clock),J (co2.next),J (co2.wait),.slice co2.A co2.txs.length co2.cap,J (gr2.clock),J (gr2.wait),J (gr2.gen),.slice gr2.mA gr2.ms.length gr2.mC,.slice gr2.oA gr2.os.length gr2.oC,.slice snA2 sns2.length snC2] bE (0,0))::(b7,.cells #[.slice (Qd gP) ps.length pC,J (co.clock),J (co.next),J (co.wait),.slice co.A co.txs.length co.cap,J (gr.clock),J (gr.wait),J (gr.gen),.slice gr.mA gr.ms.length gr.mC,.slice gr.oA gr.os.length gr.oC,.slice none (([]:List Sn).length) 0] oo (0,0))::(b5,.cells #[.slice none 0 0,J (0),J (0),J (0),.slice none 0 0,J (0),J (0),J (0),.slice none 0 0,.slice none 0 0,.slice none 0 0] oo (0,0))::(b2,.cells #[J (((np:Nat):Int)),J (((nr:Nat):Int)),J (((few:Nat):Int)),J (wt)] lL (0,0))::(gP1,.cells uP1 bI (0,0))::(Ls++(Lo++oL))) (ey ra 0 w.heap.size A0 acts::F'):=H.perm (Q5 (b29,_) (gP1,_) Ls Lo oL [(b7,_),(b5,_),(b2,_)])
  refine bL cD [0,1,2,3,4,5] [6,7] [] [0,1,2,3,5] (sp []) N N N N Nq (cQ _) ?_
  refine aw Z Z Z Z Z (fun w' hw'=>Ys Z)<|aw Z Z Z Z Z (fun w' hw'=>Yp Z)<|aw Z Z Z Z Z (fun w' hw'=>aH Z)<|aw Z Z Z Z Z (fun w' hw'=>Zf aS Z)<|aw Z Z Z Z Z (fun w' hw'=>jR n8 Z ((H.later hw').ent (i:=0) Z) Z)<|aw Z Z Z Z Z (fun w' hw'=>Ws Z)<|aU ?_
  intro w18 hw' hF
  replace H:=H.later hw';clear hw' hF
  refine bA H 2 (#[.slice pA2 ps2.length pC2,J (co2.clock),J (co2.next),J (co2.wait),.slice co2.A co2.txs.length co2.cap,J (gr2.clock),J (gr2.wait),J (gr2.gen),.slice gr2.mA gr2.ms.length gr2.mC,.slice gr2.oA gr2.os.length gr2.oC,.slice snA2 sns2.length snC2]) jT Z Z Z Z Z N N fun w19 H=>G (Wi Z)<|U<|Zt ?_
  exact MK (v0:=.slice oA xs.length oC) (cs1:= #[.slice pA2 ps2.length pC2,J (co2.clock),J (co2.next),J (co2.wait),.slice co2.A co2.txs.length co2.cap,J (gr2.clock),J (gr2.wait),J (gr2.gen),.slice gr2.mA gr2.ms.length gr2.mC,.slice gr2.oA gr2.os.length gr2.oC,.slice snA2 sns2.length snC2]) (v2:=J 0) Z Z n8 Z (H.ent (i:=2) Z) Z Z ⟨⟨xs,oA,oC,⟨ps2,pA2,pC2,co2,clo2,chi2,gr2,glo2,ghi2,sns2,snA2,snC2⟩⟩,rfl,hrun,Ii.rd [(b29,_),(b7,_),(b5,_),(b2,_)] H (fun f hf=>ai _ hf),H.below⟩
/-- an act that the laws make -/
structure QL (np nr:Nat) (hard:Bool) (a:Act):Prop where
 g:nv np nr a
 calm:hard=false->(a.kind<=9∨16<=a.kind)/\a.kind≠1/\a.lost=0
 txt:a.text=⟨#[]⟩∨ ∃ n,a.text=CS n
 tk:a.kind=7->a.n<=3
theorem wm {np nr:Nat} {hard:Bool} {k pt n m lo:Int} {nm t:ByteArray} (h:(1<=k/\k<=20/\k≠17/\(k<=9∨k=13∨16<=k))/\(0<=pt/\pt<np)/\(0<=n/\n<=1000)/\(8<=k->k<=15->n<nr)/\(k=5->n<=1)/\(k=19->1<=n/\n<=20)/\(0<=m/\m<=1000)/\(0<=lo/\lo<=2)/\(k=7->n<=3)) (hh:hard=false->(k<=9∨16<=k)/\k≠1/\lo=0) (hn:(k=1∨k=16∨k=18∨k=19∨k=20)->bu nm=true) (ht:t=⟨#[]⟩∨ ∃ n,t=CS n):QL np nr hard ⟨k,nm,pt,n,m,t,lo⟩:=by
 obtain⟨h1,h2,h3,h4,h5,h6,h7,h8,h9⟩:=h
 refine⟨⟨h1,hn,h2,h3,h4,h5,h6,h7,?_,h8⟩,hh,ht,h9⟩
 rcases ht with ht|⟨x,ht⟩
 show t.size<=40;rw[ht];decide
 show t.size<=40;rw[ht];exact aV (Jh x) (by decide)
def bT (p:Nat):Act:=⟨13,⟨#[]⟩,p,0,0,⟨#[]⟩,0⟩
def dy (s:ByteArray):Act:=⟨1,s,0,0,0,⟨#[]⟩,0⟩
def dx (s:ByteArray):Act:=⟨16,s,0,0,0,⟨#[]⟩,0⟩
theorem Lz (a b:Int) (w:World) (ha:i64 a) (hb:i64 b):dt aa oE [J a,J b] w fun v w2=>v=.agg #[J (1+(pk a 3:Nat):Int),J (1+(pk b 3:Nat):Int),J (1+(pk a (1+pk b 3):Nat):Int),J (5+(pk b 20:Nat):Int)]/\Below w.heap.size w w2:=by
 refine aG ud Z Z ?_
 have H:=Hp.start w
 have p1:=ut a (show 0<3 by omega)
 have p2:=ut b (show 0<3 by omega)
 have p3:=ut a (show 0<1+pk b 3 by omega)
 have p4:=ut b (show 0<20 by omega)
 refine W<|Zr<|fc H DM Z fun w1 b4 H=>U<|W<|Zr<|G (Yi Z)<|cu fZ (sy b (3) _ hb.1 hb.2 I I) Z Z ?_
 rintro _ w2 ⟨rfl,hb⟩;replace H:=H.later hb;clear hb
 refine G (bp Z Z I I)<|G (Wi Z)<|U<|W<|Zr<|G (Yi Z)<|cu fZ (sy a (3) _ ha.1 ha.2 I I) Z Z ?_
 rintro _ w3 ⟨rfl,hb⟩;replace H:=H.later hb;clear hb
 refine G (bp Z Z I I)<|G (Yi Z)<|G (Yi Z)<|G (Yi Z)<|cu fZ ((by have hA:=sy a (1+pk b 3) w3 ha.1 ha.2 I I;rw[show((1+pk b 3:Nat):Int)=(1:Int)+(pk b 3:Nat) by omega]at hA;exact hA)) Z Z ?_
 rintro _ w4 ⟨rfl,hb⟩;replace H:=H.later hb;clear hb
 refine G (bp Z Z I I)<|G (Yi Z)<|cu fZ (sy b (20) _ hb.1 hb.2 I I) Z Z ?_
 rintro _ w5 ⟨rfl,hb⟩;replace H:=H.later hb;clear hb
 refine G (bp Z Z I I)<|G (bC (cs:= #[J (1+(((pk a (3):Nat):Int))),J (1+(((pk b (3):Nat):Int))),J (1+(((pk a (1+pk b 3):Nat):Int))),J (5+(((pk b (20):Nat):Int)))]) Li DM N)<|bA H 0 (#[J (1+(((pk a (3):Nat):Int))),J (1+(((pk b (3):Nat):Int))),J (1+(((pk a (1+pk b 3):Nat):Int))),J (5+(((pk b (20):Nat):Int)))]) C9 Z Z Z Z Z N N fun w6 H=>U<|Zt ?_
 exact eW (cs0:= #[J (1+(pk a 3:Nat):Int),J (1+(pk b 3:Nat):Int),J (1+(pk a (1+pk b 3):Nat):Int),J (5+(pk b 20:Nat):Int)]) Z vo Z (H.ent (i:=0) Z) Z ⟨rfl,H.below⟩
def OP (lo hi:Nat) (r:Rn):ce:=⟨lo,hi,r.rd lo hi,fun _ _ hk h=>h.st hk⟩
def Q9 (w:World) (W0:Wa) (acts:List Act) (v:Value) (w2:World):Prop:= ∃ (xs:List Aq) (oA:Option Addr) (oC:Nat) (b:Bk),v=.tuple #[.slice oA xs.length oC,.agg b.c.toArray,.bool true]/\kN W0 acts (xs.map Aq.x) b.a/\(Rn.mk xs oA oC b).rd w.heap.size w2.heap.size w2/\Below w.heap.size w w2
theorem D3 {a b:Int}:1<=1+pk a 3/\1+pk a 3<=4/\1<=1+pk b 3/\1+pk b 3<=5/\1<=1+pk a (1+pk b 3)/\1+pk a (1+pk b 3)<=1+pk b 3/\(1:Int)<=5+(pk b 20:Nat)/\(5:Int)+(pk b 20:Nat)<=1000:=by
 have p1:=ut a (show 0<3 by omega)
 have p2:=ut b (show 0<3 by omega)
 have p3:=ut a (show 0<1+pk b 3 by omega)
 have p4:=ut b (show 0<20 by omega)
 omega
theorem EL (es:List Act) (A:Option Addr) (c:Nat) (w:World) (hr:Rd ra 0 w.heap.size A es w) (hb:es.length*72<=140737488355328):
  dt aa sL [.slice A es.length c] w fun v w2=> ∃ A' c' L',v=.slice A' es.length c'/\es.length<=c'/\c'<=maxLen/\gG ra (.slice A' es.length c') jl es L'/\Hp w w2 L' []:=by
 refine aG rZ Z Z ?_
 have H:=Hp.startRd hr
 refine W<|Zr<|G (Ws Z)<|U<|W<|W<|Zr<|G (Ys Z) ?_
 refine zS (pU xc Z) Z Z Z (fun h4=> ?_) (fun h4=> ?_)
 refine U<|ZT Z<|W<|Zr<|G (Ws Z)<|U<|Zt ?_
 have he:es=[]:=by
  cases es with
  |nil=>rfl
  |cons e es=>obtain⟨b,o,hA,_⟩:=hr (by simp);subst hA;cases h4
 subst he
 exact cn Z Z ⟨none,0,[],rfl,by simp,by decide,gG.nil,H.forget (by simp) (by simp)⟩
 refine U<|ZF Z<|Zk<|W<|Zr<|OL H rg Z fun w1 b5 H=>G (Ys Z)<|wN (Y:=ra) I8 (K:=[]) (L:=[(b5,_)]) (M:=[]) H (sm.lit (by decide) (by rfl)) (es:=[]) (news:=es) Z Z Z (Rd.src (H.fact (i:=0) Z)) (by simpa using hb) Z ?_
 intro A3 c3 w3 L3 h3a h3b ho3 H
 refine G (Ws Z)<|U<|Zt ?_
 exact cn Z Z ⟨A3,c3,L3,rfl,h3a,h3b,ho3,H.forget (by simp) (by simp)⟩
theorem zM {np nr few:Nat} {wt:Int} {acts:List Act} {A0:Option Addr} {c0:Nat} (w:World) (q1:1<=np) (q4:np<=4) (n1:1<=nr) (n5:nr<=5) (f1:1<=few) (f2:few<=nr) (t1:1<=wt) (t2:wt<=1000) (hr:Rd ra 0 w.heap.size A0 acts w) (hl:acts.length<=400) (hg: ∀ a∈acts,nv np nr a):dt aa xi [.agg #[J (np:Nat),J (nr:Nat),J (few:Nat),J wt],.slice A0 acts.length c0] w (Q9 w (mP np nr few wt) acts):=by
 refine aG wz Z Z ?_
 have H:=Hp.startRd hr
 show CW _ _ _ _ (args [.agg #[J (np:Nat),J (nr:Nat),J (few:Nat),J wt],.slice A0 acts.length c0]) w
 refine W<|Zr<|gY H Z Z fun w1 b2 H=>G (Ws Z)<|fc H mG Z fun w2 b5 H=>G (Wb Z)<|U<|W<|Zr<|G (Zw vo H 1 Z Z Z)<|G (Ys Z)<|cu CL (Ps _ q1 q4 n1 n5 f1 f2 t1 t2 (H.rd0 0 Z) hl hg) Z Z ?_
 have hlo:=H.size
 rintro _ w3 ⟨⟨xs,oA,oC,⟨ps,pA,pC,co,clo,chi,gr,glo,ghi,sns,snA,snC⟩⟩,rfl,hrun,hrd,hb⟩;replace H:=H.learn hb (OP w2.heap.size w3.heap.size ⟨xs,oA,oC,⟨ps,pA,pC,co,clo,chi,gr,glo,ghi,sns,snA,snC⟩⟩) hrd (ao _) (ao _)
 have hxl:xs.length=acts.length:=by have:=hrun.len;rwa[bc]at this
 refine G (Yu Z)<|G (Xs Z Z)<|G (Xa Z Z)<|G (Xi Z Z)<|fc H mG Z fun w4 b8 H=>G (Ws Z)<|bA H 0 (#[.slice pA ps.length pC,J (co.clock),J (co.next),J (co.wait),.slice co.A co.txs.length co.cap,J (gr.clock),J (gr.wait),J (gr.gen),.slice gr.mA gr.ms.length gr.mC,.slice gr.oA gr.os.length gr.oC,.slice snA sns.length snC]) jT Z Z Z Z Z N N fun w5 H=>G (Wi Z)<|U<|W ?_
 refine bL cD [0,1,2,3,4,5,6,7,8,9,10,11] [12,13] [] [0,2,3,4,5,6,7,8,9,10,11] (sp []) N N N N Nq (cQ _) ?_
 refine aw Z Z Z Z Z (fun w' hw'=>Ys Z)<|aw Z Z Z Z Z (fun w' hw'=>jR n8 Z ((H.later hw').ent (i:=0) Z) Z)<|aw Z Z Z Z Z (fun w' hw'=>Yi Z)<|aw Z Z Z Z Z (fun w' hw'=>se Z Z Z)<|aw Z Z Z Z Z (fun w' hw'=>Yb Z)<|aw Z Z Z Z Z (fun w' hw'=>Ys Z)<|aw Z Z Z Z Z (fun w' hw'=>bh rm Z)<|aw Z Z Z Z Z (fun w' hw'=>Ys Z)<|aw Z Z Z Z Z (fun w' hw'=>bh xc Z)<|aw Z Z Z Z Z (fun w' hw'=>se Z Z (by dsimp only;omega))<|aw Z Z Z Z Z (fun w' hw'=>Kt Z Z)<|aw Z Z Z Z Z (fun w' hw'=>Ws Z)<|aU ?_
 intro w6 hw' hF
 replace H:=H.later hw';clear hw' hF
 refine bA H 1 (#[.slice pA ps.length pC,J (co.clock),J (co.next),J (co.wait),.slice co.A co.txs.length co.cap,J (gr.clock),J (gr.wait),J (gr.gen),.slice gr.mA gr.ms.length gr.mC,.slice gr.oA gr.os.length gr.oC,.slice snA sns.length snC]) jT Z Z Z Z Z N N fun w7 H=>G (Wb Z)<|U<|Zt ?_
 exact MK (v0:=.slice oA xs.length oC) (cs1:= #[.slice pA ps.length pC,J (co.clock),J (co.next),J (co.wait),.slice co.A co.txs.length co.cap,J (gr.clock),J (gr.wait),J (gr.gen),.slice gr.mA gr.ms.length gr.mC,.slice gr.oA gr.os.length gr.oC,.slice snA sns.length snC]) (v2:=.bool true) Z Z n8 Z (H.ent (i:=1) Z) Z Z ⟨xs,oA,oC,⟨ps,pA,pC,co,clo,chi,gr,glo,ghi,sns,snA,snC⟩,rfl,hrun,Rn.rd.mono (H.fact (i:=0) Z) hlo (H.facts _ (az ..)).2.1,H.below⟩
theorem uY {l m:List Act} {A0 A1:Option Addr} {c0 c1:Nat} (w:World) (hr:Rd ra 0 w.heap.size A0 l w) (hs:Rd ra 0 w.heap.size A1 m w) (hl:l.length<=1000) (hm:m.length<=1000):dt aa ww [.slice A0 l.length c0,.slice A1 m.length c1] w fun v w2=> ∃ (A:Option Addr) (c:Nat) (L:List (Nat×Obj)),v=.slice A (l++m).length c/\gG ra (.slice A (l++m).length c) jl (l++m) L/\Hp w w2 L []:=by
 refine aG vv Z Z ?_
 have H:=(Hp.startRd hr).learnOld (ey ra 0 w.heap.size A1 m) hs (ao _)
 show CW _ _ _ _ (args [.slice A0 l.length c0,.slice A1 m.length c1]) w
 refine W<|Zr<|G (Ws Z)<|U<|W<|Zr<|G (Ys Z)<|cu sh (EL l A0 c0 _ (H.rd0 1 Z) I) Z Z ?_
 rintro _ w1 ⟨A2,c2,L2,rfl,hc2,hm2,ho2,hj2⟩;replace H:=H.join hj2;clear hj2
 refine G (Ys Z)<|wN (Y:=ra) I8 (K:=[]) (L:=L2) (M:=[]) H ho2 (es:=l) (news:=m) Z Z Z (Rd.src (H.fact (i:=0) Z)) I Z ?_
 intro A5 c5 w2 L5 h5 h5m ho5 H
 refine G (Ws Z)<|U<|Zt ?_
 exact cn (v:=.slice A5 (l++m).length c5) Z Z ⟨A5,c5,L5,rfl,ho5,H.forget (L':=L5) (by simp) (by simp)⟩
abbrev Bc:FuncId:=10
theorem zy:aa.funcs[(10:Nat)]? =some Tryz.f10:=Tryz.func10
theorem tU:bg aa 10=true:=by kernel_rfl
abbrev sM:FuncId:=21
theorem r6:aa.funcs[(21:Nat)]? =some Tryz.f21:=Tryz.func21
theorem si:bg aa 21=true:=by kernel_rfl
abbrev pz:FuncId:=28
theorem oN:aa.funcs[(28:Nat)]? =some Tryz.f28:=Tryz.func28
theorem oY:bg aa 28=true:=by kernel_rfl
abbrev rS:FuncId:=36
theorem qW:aa.funcs[(36:Nat)]? =some Tryz.f36:=Tryz.func36
theorem qZ:bg aa 36=true:=by kernel_rfl
def PV:ByteArray:=⟨#[48,49,50,51,52,53,54,55,56,57,97,98,99,100,101,102,103,104,105,106,107,108,109,110,111,112,113,114,115,116,117,118,119,120,121,122]⟩
def Pk:ByteArray:=⟨#[48,48,48,49,48,50,48,51,48,52,48,53,48,54,48,55,48,56,48,57,49,48,49,49,49,50,49,51,49,52,49,53,49,54,49,55,49,56,49,57,50,48,50,49,50,50,50,51,50,52,50,53,50,54,50,55,50,56,50,57,51,48,51,49,51,50,51,51,51,52,51,53,51,54,51,55,51,56,51,57,52,48,52,49,52,50,52,51,52,52,52,53,52,54,52,55,52,56,52,57,53,48,53,49,53,50,53,51,53,52,53,53,53,54,53,55,53,56,53,57,54,48,54,49,54,50,54,51,54,52,54,53,54,54,54,55,54,56,54,57,55,48,55,49,55,50,55,51,55,52,55,53,55,54,55,55,55,56,55,57,56,48,56,49,56,50,56,51,56,52,56,53,56,54,56,55,56,56,56,57,57,48,57,49,57,50,57,51,57,52,57,53,57,54,57,55,57,56,57,57]⟩
def dX (n:Nat):ByteArray:=if n<10 then PV.extract n (n+1)else Pk.extract (2*n) (2*n+2)
theorem Dl (n:Nat):(dX n).size<=40:=by
 unfold dX
 split<;>rw[ByteArray.size_extract]<;>omega
theorem In:aa.underlying pd=some .string:=by kernel_rfl
theorem Lx (n:Nat) (w:World) (hn:n<100):dt aa rS [.int .i64 (n:Nat)] w fun v w2=>v=.string (dX n)/\Below w.heap.size w w2:=by
 refine aG qW rfl rfl ?_
 have H:=Hp.start w
 refine cE ?_
 refine bK ?_
 refine l1 (vU rfl) rfl rfl rfl ?_
 refine bP ?_
 refine cE ?_
 refine cE ?_
 refine bK ?_
 refine l1 (gg rfl) rfl rfl rfl ?_
 refine du (cO rfl rfl) rfl rfl rfl (fun h4=> ?_) (fun h4=> ?_)
 refine bP ?_
 refine jc rfl ?_
 refine cE ?_
 refine bK ?_
 refine l1 (gg rfl) rfl rfl rfl ?_
 refine l1 (gg rfl) rfl rfl rfl ?_
 refine l1 (bp rfl rfl (by omega) (by omega)) rfl rfl rfl ?_
 refine l1 (OV (s:=PV) In rfl rfl rfl (by omega) (by omega) (by show _<=(36:Int);omega)) rfl rfl rfl ?_
 rw[show PV.extract ((n:Nat):Int).toNat (((n:Nat):Int)+1).toNat=dX n by unfold dX;rw[if_pos (by omega)];rfl]
 refine l1 (vU rfl) rfl rfl rfl ?_
 refine bP ?_
 refine wG ?_
 exact cn rfl rfl ⟨rfl,H.below⟩
 refine bP ?_
 refine gQ rfl ?_
 refine og ?_
 refine cE ?_
 refine bK ?_
 refine l1 (gg rfl) rfl rfl rfl ?_
 refine l1 (O0 rfl rfl (by omega) (by omega)) rfl rfl rfl ?_
 refine l1 (gg rfl) rfl rfl rfl ?_
 refine l1 (O0 rfl rfl (by omega) (by omega)) rfl rfl rfl ?_
 refine l1 (bp rfl rfl (by omega) (by omega)) rfl rfl rfl ?_
 refine l1 (OV (s:=Pk) In rfl rfl rfl (by omega) (by omega) (by show _<=(200:Int);omega)) rfl rfl rfl ?_
 rw[show Pk.extract (((n:Nat):Int)*2).toNat (((n:Nat):Int)*2+2).toNat=dX n by unfold dX;rw[if_neg (by omega)];congr 1<;>omega]
 refine l1 (vU rfl) rfl rfl rfl ?_
 refine bP ?_
 refine wG ?_
 exact cn rfl rfl ⟨rfl,H.below⟩
theorem Ex (n:Nat) (w:World) (hn:n<100):dt aa pz [.int .i64 (n:Nat),.int .i64 10] w fun v w2=>v=.string (dX n)/\Below w.heap.size w w2:=by
 refine aG oN rfl rfl ?_
 have H:=Hp.start w
 refine cE ?_
 refine bK ?_
 refine l1 (vU rfl) rfl rfl rfl ?_
 refine bP ?_
 refine cE ?_
 refine cE ?_
 refine bK ?_
 refine l1 (gg rfl) rfl rfl rfl ?_
 refine l1 (se rfl rfl rfl) rfl rfl rfl ?_
 refine bP ?_
 refine jc rfl ?_
 refine cE ?_
 refine cE ?_
 refine bK ?_
 refine l1 (gg rfl) rfl rfl rfl ?_
 refine l1 (PJ rfl rfl (by omega)) rfl rfl rfl ?_
 refine l1 (IH rfl) rfl rfl rfl ?_
 refine nJ rfl ?_
 refine l1 (gg rfl) rfl rfl rfl ?_
 refine nJ rfl ?_
 refine l1 (wr rfl rfl (by omega)) rfl rfl rfl ?_
 refine l1 (PA rfl rfl) rfl rfl rfl ?_
 refine bP ?_
 refine jc rfl ?_
 refine cE ?_
 refine bK ?_
 refine l1 (gg rfl) rfl rfl rfl ?_
 refine cu qZ (Lx n _ hn) rfl rfl ?_
 rintro _ w1 ⟨rfl,hb⟩;replace H:=H.later hb;clear hb
 refine l1 (vU rfl) rfl rfl rfl ?_
 refine bP ?_
 refine wG ?_
 exact cn rfl rfl ⟨rfl,H.below⟩
theorem Mt (n:Nat) (w:World) (hn:n<100):dt aa sM [.int .i64 (n:Nat)] w fun v w2=>v=.string (dX n)/\Below w.heap.size w w2:=by
 refine aG r6 rfl rfl ?_
 have H:=Hp.start w
 refine cE ?_
 refine bK ?_
 refine l1 (vU rfl) rfl rfl rfl ?_
 refine bP ?_
 refine cE ?_
 refine bK ?_
 refine l1 (gg rfl) rfl rfl rfl ?_
 refine cu oY (Ex n _ hn) rfl rfl ?_
 rintro _ w1 ⟨rfl,hb⟩;replace H:=H.later hb;clear hb
 refine l1 (vU rfl) rfl rfl rfl ?_
 refine bP ?_
 refine wG ?_
 exact cn rfl rfl ⟨rfl,H.below⟩
theorem IN (n:Nat) (w:World) (hn:n<100):dt aa Bc [.int .i64 (n:Nat)] w fun v w2=>v=.string (dX n)/\Below w.heap.size w w2:=by
 refine aG zy rfl rfl ?_
 have H:=Hp.start w
 refine cE ?_
 refine bK ?_
 refine l1 (vU rfl) rfl rfl rfl ?_
 refine bP ?_
 refine cE ?_
 refine bK ?_
 refine l1 (gg rfl) rfl rfl rfl ?_
 refine cu si (Mt n _ hn) rfl rfl ?_
 rintro _ w1 ⟨rfl,hb⟩;replace H:=H.later hb;clear hb
 refine l1 (vU rfl) rfl rfl rfl ?_
 refine bP ?_
 refine wG ?_
 exact cn rfl rfl ⟨rfl,H.below⟩
theorem Av (a:Int) (n:Nat) (w:World) (h1: -9223372036854775808<=a) (h2:a<=9223372036854775807) (hn:0<n) (hn2:n<=1000):dt aa t9 [.int .i64 a,.int .i64 (n:Nat)] w fun v w2=>v=.int .i64 (pk a n:Nat)/\Below w.heap.size w w2:=by
 refine aG tr rfl rfl ?_
 have H:=Hp.start w
 refine cE ?_
 refine bK ?_
 refine l1 (BN rfl) rfl rfl rfl ?_
 refine bP ?_
 refine cE ?_
 refine bK ?_
 refine l1 (gg rfl) rfl rfl rfl ?_
 refine l1 (gg rfl) rfl rfl rfl ?_
 refine cu fZ (sy a n _ h1 h2 hn (by omega)) rfl rfl ?_
 rintro _ w1 ⟨rfl,hb⟩;replace H:=H.later hb;clear hb
 refine l1 (BN rfl) rfl rfl rfl ?_
 refine bP ?_
 refine wG ?_
 exact cn rfl rfl ⟨rfl,H.below⟩
section
/-! where nothing crashes -/
structure Cm (p:f3):Prop where
 ld:p.leader= -1∨p.leader=0
 isr: ∀ b∈p.isr,b=true
 up: ∀ x∈p.reps,x.up=true
def Pd (Nn:Int) (p:f3):Prop:= ∀ x∈p.reps,∀ e∈x.es,e.pid<Nn
theorem Pd.mono {Nn M:Int} {p:f3} (h:Pd Nn p) (hm:Nn<=M):Pd M p:=fun x hx e he=>by have:=h x hx e he;omega
theorem I9 {p:f3} {x:RA} (h:x∈(m9 p).reps): ∃ y∈p.reps,x.es=y.es/\x.s=y.s/\x.up=y.up:=by
 obtain⟨i,hi⟩:=aN.1 h
 obtain⟨y,hy,h1⟩:=xQ hi
 exact⟨y,ab hy,h1⟩
theorem Cm.adv {p:f3} (h:Cm p):Cm (m9 p):=by
 obtain⟨-,-,-,h4,h5,-⟩:=xP (p:=p)
 exact⟨by rw[h4];exact h.ld,by rw[h5];exact h.isr,fun x hx=>by
  obtain⟨y,hy,-,-,hu⟩:=I9 hx
  rw[hu];exact h.up y hy⟩
theorem Pd.adv {Nn:Int} {p:f3} (h:Pd Nn p):Pd Nn (m9 p):=fun x hx e he=>by
 obtain⟨y,hy,hes,-,-⟩:=I9 hx
 rw[hes]at he
 exact h y hy e he
theorem Cm.set {p:f3} (h:Cm p) {r:Nat} {x:RA} (hx:x.up=true):Cm {p with reps:=p.reps.set r x}:=⟨h.ld,h.isr,fun y hy=>by
 rcases aA hy with hy|rfl
 exact h.up y hy
 exact hx⟩
theorem Pd.set {Nn:Int} {p:f3} (h:Pd Nn p) {r:Nat} {x:RA} (hx: ∀ e∈x.es,e.pid<Nn):Pd Nn {p with reps:=p.reps.set r x}:=fun y hy e he=>by
 rcases aA hy with hy|rfl
 exact h y hy e he
 exact hx e he
theorem Py {Nn:Int} {p:f3} {e:cr} (h:Cm p) (hd:Pd Nn p) (he:e.pid<Nn) (h0:(eu p e).2.2=0):Cm (eu p e).1/\Pd Nn (eu p e).1/\(eu p e).1.leader=p.leader:=by
 obtain⟨x,l,hl,hx,-,-,hS⟩:=D5 h0
 have hm:=ab hx
 rcases hS with⟨-,hS,-⟩|⟨-,-,hS,-⟩
 rw[hS];exact⟨h,hd,rfl⟩
 rw[hS]
 exact⟨h.set (h.up x hm),hd.set fun y hy=>by
  rcases ap.1 hy with hy|hy
  exact hd x hm y hy
  rw[ar.1 hy];exact he,rfl⟩
theorem NK {Nn:Int} {p:f3} {a:Act} (hok:p.ok) (h:Cm p) (hd:Pd Nn p) (hk:a.kind=8∨a.kind=9) (h0:(jj p a).2.2=0):Cm (jj p a).1/\Pd Nn (jj p a).1/\(jj p a).1.leader=p.leader:=by
 unfold jj at h0⊢
 rcases hk with hk|hk
 rw[if_pos hk]at h0⊢
 obtain⟨x,y,l,hx,hl,hne,hu,hy⟩:=yD hok h0
 rw[qh hx hl hne hu hy]
 have hmx:=ab hx
 have hmy:=ab hy
 refine⟨⟨h.ld,h.isr,fun z hz=> ?_⟩,fun z hz e he=> ?_,rfl⟩
 rcases aA hz with hz|rfl
 rcases aA hz with hz|rfl
 exact h.up z hz
 exact h.up y hmy
 unfold im;split<;>exact hu
 rcases aA hz with hz|rfl
 rcases aA hz with hz|rfl
 exact hd z hz e he
 exact hd y hmy e he
 unfold im at he
 split at he
 rename_i z hz
 rcases ap.1 he with he|he
 exact hd x hmx e (qO _ _ he)
 rw[ar.1 he];exact hd y hmy z (ab hz)
 exact hd x hmx e (qO _ _ he)
 rw[if_neg I,if_pos hk]at h0⊢
 obtain⟨x,hx,hu,hS⟩:=Ae h0
 dsimp only at hS⊢
 rw[hS]
 have hmx:=ab hx
 have c1:Cm {p with reps:=p.reps.set a.n.toNat {x with s:=x.es.length}}:=h.set hu
 have c2:Pd Nn {p with reps:=p.reps.set a.n.toNat {x with s:=x.es.length}}:=hd.set (hd x hmx)
 split
 refine⟨Cm.adv ⟨c1.ld,c1.isr,c1.up⟩,Pd.adv c2,?_⟩
 rw[xP.2.2.2.1]
 exact⟨c1,c2,rfl⟩
theorem Mg (c:Co) (i:Nat) (t:Tx):(qn c i t).next=c.next:=rfl
theorem Dm {k:Nat} {c:Co} {s:ByteArray} (h:pi k c) (h0:(bw c s).2.2.2=0):c.next<=(bw c s).1.next/\(bw c s).2.1<(bw c s).1.next/\0<(bw c s).2.1:=by
 have hn:1<=c.next:=(gb.1 h.ok).1.2.1
 unfold bw at h0⊢
 split
 rename_i hf
 rw[hf]at h0
 dsimp only at h0
 split at h0
 cases h0
 rename_i hl
 rw[if_neg hl]
 unfold mZ
 dsimp only
 omega
 rename_i i t hf
 rw[hf]at h0
 dsimp only at h0
 split at h0
 cases h0
 rename_i hl
 rw[if_neg hl]
 have:=cd.1 (h.at_ (gw hf).2.1)
 dsimp only
 rw[Mg]
 omega
theorem Nk {c:Co} {s:ByteArray} {ver p:Int} (h0:(na c s ver p).2=0):(na c s ver p).1.next=c.next:=by
 unfold na at h0⊢
 split
 rename_i hf;rw[hf]at h0;cases h0
 rename_i i t hf
 rw[hf]at h0
 dsimp only at h0
 split at h0
 cases h0
 rename_i c1
 rw[if_neg c1]
 split at h0
 rename_i c2;rw[if_pos c2];rfl
 cases h0
theorem Gi {c:Co} {s:ByteArray} {ver:Int} {b:Bool} (h0:(jy c s ver b).2=0):(jy c s ver b).1.next=c.next:=by
 unfold jy at h0⊢
 split
 rename_i hf;rw[hf]at h0;cases h0
 rename_i i t hf
 rw[hf]at h0
 dsimp only at h0
 split at h0
 cases h0
 rename_i c1
 rw[if_neg c1]
 split at h0
 cases h0
 rfl
theorem Kl {c:Co} {s:ByteArray} {p:Int} (h0:(oU c s p).2=0):(oU c s p).1.next=c.next:=by
 unfold oU at h0⊢
 split
 rename_i hf;rw[hf]at h0;cases h0
 rename_i i t hf
 rw[hf]at h0
 dsimp only at h0
 split at h0
 rename_i c1
 rw[if_pos c1]
 split at h0
 rename_i c2;rw[if_pos c2];rfl
 cases h0
 cases h0
theorem Jo {c:Co} {n:Int} (h0:(ip c n).2=0):(ip c n).1.next=c.next:=by
 unfold ip at h0⊢
 split at h0
 cases h0
 rename_i c1;rw[if_neg c1];rfl
structure GK (Nn:Int) (s:Sn):Prop where
 pid:0<=s.pid/\s.pid<Nn
 last: ∀ e∈s.last,e.pid<Nn
theorem GK.mono {Nn M:Int} {s:Sn} (h:GK Nn s) (hm:Nn<=M):GK M s:=⟨by have:=h.pid;omega,fun e he=>by have:=h.last e he;omega⟩
structure BX (P:ByteArray->Prop) (wt:Int) (w:Wa):Prop where
 ps: ∀ p∈w.ps,Cm p/\Pd w.co.next p
 sns: ∀ s∈w.sns,GK w.co.next s
 co:wR P wt w.co
def Ld (w w':Wa):Prop:= ∀ (n:Nat) (p:f3),w.ps[n]? =some p->p.leader=0-> ∃ p',w'.ps[n]? =some p'/\p'.leader=0
theorem Ld.refl (w:Wa):Ld w w:=fun _ p h1 h2=>⟨p,h1,h2⟩
theorem Ld.trans {a b c:Wa} (h:Ld a b) (h':Ld b c):Ld a c:=fun n p h1 h2=>by
 obtain⟨p',h3,h4⟩:=h n p h1 h2
 exact h' n p' h3 h4
theorem Ld.ps {w w':Wa} (h:w'.ps=w.ps):Ld w w':=fun n p h1 h2=>⟨p,by rw[h];exact h1,h2⟩
theorem BX.co' {P:ByteArray->Prop} {wt:Int} {w:Wa} (h:BX P wt w) {c:Co} (hn:w.co.next<=c.next) (hc:wR P wt c):BX P wt {w with co:=c}:=⟨fun p hp=>⟨(h.ps p hp).1,(h.ps p hp).2.mono hn⟩,fun s hs=>(h.sns s hs).mono hn,hc⟩
theorem BX.sns' {P:ByteArray->Prop} {wt:Int} {w:Wa} (h:BX P wt w) {l:List Sn} (hl: ∀ s∈l,GK w.co.next s):BX P wt {w with sns:=l}:=⟨h.ps,hl,h.co⟩
theorem BX.part {P:ByteArray->Prop} {wt:Int} {w:Wa} (h:BX P wt w) {n:Nat} {p:f3} (hc:Cm p/\Pd w.co.next p):BX P wt {w with ps:=w.ps.set n p}:=⟨fun q hq=>by
 rcases aA hq with hq|rfl
 exact h.ps q hq
 exact hc,h.sns,h.co⟩
theorem Hs {w:Wa} {n:Nat} {p p':f3} (hp:w.ps[n]? =some p) (hl:p.leader=0->p'.leader=0):Ld w {w with ps:=w.ps.set n p'}:=fun i q h1 h2=>by
 by_cases hi:n=i
 subst hi
 rw[hp]at h1;cases h1
 exact⟨p',al (cy hp).1,hl h2⟩
 exact⟨q,by show(w.ps.set n p')[i]? =_;rw[aT hi];exact h1,h2⟩
theorem Iy {P:ByteArray->Prop} {wt:Int} {w:Wa} (h:BX P wt w) {n:Nat} {x:cr} (hx:x.pid<w.co.next):BX P wt (lk w n x).1/\Ld w (lk w n x).1/\(lk w n x).1.co=w.co:=by
 unfold lk
 split
 exact⟨h,Ld.refl w,rfl⟩
 rename_i p hp
 split
 rename_i h0
 obtain⟨h1,h2⟩:=h.ps p (ab hp)
 obtain⟨g1,g2,g3⟩:=Py h1 h2 hx h0
 exact⟨h.part ⟨g1,g2⟩,Hs hp (fun hl=>g3.trans hl),rfl⟩
 exact⟨h,Ld.refl w,rfl⟩
theorem HQ {P:ByteArray->Prop} {wt:Int} {w:Wa} (h:BX P wt w) {s:Sn} (hs:GK w.co.next s) {n:Nat}:BX P wt (dE w s n).1/\Ld w (dE w s n).1:=by
 unfold dE
 split
 exact⟨h,Ld.refl w⟩
 rename_i x hx
 have hxp:=hs.last x (ab hx)
 split
 rename_i h0
 have hn:(oa w s n x).1.next=w.co.next/\wR P wt (oa w s n x).1:=by
  unfold oa at h0⊢
  split
  rename_i ht
  rw[if_pos ht]at h0
  exact⟨Nk h0,h.co.add h0⟩
  exact⟨rfl,h.co⟩
 have h1:=h.co' (c:=(oa w s n x).1) I hn.2
 obtain⟨g1,g2,-⟩:=Iy h1 (n:=n) (x:=x) (by show x.pid<(oa w s n x).1.next;omega)
 exact⟨g1,(Ld.ps Z).trans g2⟩
 exact⟨h,Ld.refl w⟩
theorem Mh {Nn:Int} {s:Sn} (h:GK Nn s) (n:Nat) (t:ByteArray):GK Nn (eM s n t):=⟨h.pid,fun e he=>by
 rcases aA he with he|rfl
 exact h.last e he
 exact h.pid.2⟩
theorem It {Nn:Int} {l:List Sn} {i:Nat} {s:Sn} (h: ∀ x∈l,GK Nn x) (hs:GK Nn s): ∀ x∈l.set i s,GK Nn x:=fun x hx=>by
 rcases aA hx with hx|rfl
 exact h x hx
 exact hs
theorem NR {Nn:Int} {l:List Sn} {s:Sn} (h: ∀ x∈l,GK Nn x) (hs:GK Nn s): ∀ x∈vF l s,GK Nn x:=by
 unfold vF
 split
 intro x hx
 rcases ap.1 hx with hx|hx
 exact h x hx
 rw[ar.1 hx];exact hs
 exact It h hs
theorem NM {n:Nat} {e:cr} (h:e∈aq n jP):e=jP:=cT h
variable {np nr k:Nat} {few wt wt':Int} {K:Nat->List cr} {P:ByteArray->Prop} {w:Wa} {a:Act}
theorem Np (hw:WI np nr few wt k K w) (h:BX P wt' w) (g:nv np nr a) (hk:a.kind<=9∨16<=a.kind) (hP:a.kind=1->P a.name) {w':Wa} {x:An} (hA:qf w a w' x):BX P wt' w'/\Ld w w':=by
 cases hA with
 |poll x h19 hp=>exact⟨h,Ld.refl w⟩
 |other h19=>
  unfold jx
  split
  rename_i c
  unfold l9
  split
  rename_i h0
  obtain⟨n1,n2,n3⟩:=Dm hw.co h0
  have h1:=h.co' n1 (h.co.init (hP c) h0)
  refine⟨h1.sns' (NR h1.sns ⟨⟨?_,n2⟩,fun e he=> ?_⟩),Ld.ps Z⟩
  show 0<=(bw w.co a.name).2.1;omega
  rw[NM he]
  show(0:Int)<(bw w.co a.name).1.next
  omega
  exact⟨h,Ld.refl w⟩
  split
  unfold kL
  split
  exact⟨h,Ld.refl w⟩
  rename_i i s hf
  split
  exact⟨h,Ld.refl w⟩
  have hs:=h.sns s (ab (vi hf).1)
  exact⟨h.sns' (It h.sns (s:={s with inn:=true}) ⟨hs.pid,hs.last⟩),Ld.ps Z⟩
  split
  unfold gX
  split
  exact⟨h,Ld.refl w⟩
  rename_i i s hf
  split
  exact⟨h,Ld.refl w⟩
  have hs:=h.sns s (ab (vi hf).1)
  have hs1:GK w.co.next (if(decide (a.kind=4))=true then s else eM s a.part.toNat a.text):=by
   split
   exact hs
   exact Mh hs _ _
  generalize (if(decide (a.kind=4))=true then s else eM s a.part.toNat a.text)=s1 at hs1
  have h1:=h.sns' (It (i:=i) h.sns hs1)
  dsimp only
  split
  exact⟨h1,Ld.ps Z⟩
  obtain⟨g1,g2⟩:=HQ h1 hs1 (n:=a.part.toNat)
  exact⟨g1,(Ld.ps Z).trans g2⟩
  split
  unfold jK
  split
  exact⟨h,Ld.refl w⟩
  rename_i i s hf
  split
  exact⟨h,Ld.refl w⟩
  split
  exact⟨h,Ld.refl w⟩
  split
  rename_i h0
  have hs:=h.sns s (ab (vi hf).1)
  have h1:=h.co' (by rw[Gi h0];exact fl _) (h.co.end_ h0)
  have hN:(1:Int)<=w.co.next:=(gb.1 hw.co.ok).1.2.1
  refine⟨h1.sns' ?_,Ld.ps Z⟩
  split
  refine It h1.sns ?_
  show GK (jy w.co s.name s.ver (decide (a.n=1))).1.next (tB s)
  rw[Gi h0]
  refine⟨hs.pid,fun e he=> ?_⟩
  unfold tB at he
  obtain⟨y,hy,rfl⟩:=bD.1 he
  split
  show(0:Int)<w.co.next;omega
  exact hs.last y hy
  exact h1.sns
  exact⟨h,Ld.refl w⟩
  split
  unfold nw
  split
  exact⟨h,Ld.refl w⟩
  rename_i t ht
  obtain⟨⟨i,hf⟩,h34,hp,h0,h4⟩:=yo hw.co.ok ht
  have htp:=(cd.1 (hw.co.at_ (gw hf).2.1)).2.2.1
  obtain⟨g1,g2,g3⟩:=Iy h (n:=(t.parts.headD 0).toNat) (x:=de t) htp
  split
  have hz:=BE hf h34 hp
  exact⟨g1.co' (by rw[Kl hz,g3];exact fl _) (h.co.done hz),g2.trans (Ld.ps Z)⟩
  exact⟨g1,g2⟩
  split
  unfold wV
  have hz:(ip w.co a.n).2=0:=by unfold ip;rw[if_neg (by have:=g.n;omega)]
  have h1:=h.co' (by rw[Jo hz];exact fl _) (h.co.tick hz)
  exact⟨⟨h1.ps,h1.sns,h1.co⟩,Ld.ps Z⟩
  split
  rename_i c1 c2 c3 c4 c5 c6 c7
  unfold lY
  split
  exact⟨h,Ld.refl w⟩
  rename_i p hp
  split
  rename_i h0
  obtain⟨h1,h2⟩:=h.ps p (ab hp)
  have:=g.kind
  obtain⟨g1,g2,g3⟩:=NK (hw.ps.gt _ p hp).1.ok h1 h2 I h0
  exact⟨h.part ⟨g1,g2⟩,Hs hp (fun hl=>g3.trans hl)⟩
  exact⟨h,Ld.refl w⟩
  unfold wn
  split
  exact⟨⟨h.ps,h.sns,h.co⟩,Ld.ps Z⟩
  exact⟨h,Ld.refl w⟩
end
section
theorem OS: ∀ (bs:List Bool) (ys:List RA) (n:Int),n<=GJ bs ys n
 |[],_,n=>by unfold GJ;exact fl _
 |_::_,[],n=>by unfold GJ;exact fl _
 |b::bs,y::ys,n=>by
  unfold GJ
  have:=OS bs ys (if(b&&y.up)=true then n+1 else n)
  split at this<;>split<;>first|omega|contradiction
theorem Pe {p:f3} (hok:p.ok) (h:Cm p):1<=GJ p.isr p.reps 0:=by
 have h1:=hok.n1
 have h2:=hok.isrl
 cases hi:p.isr with
 |nil=>rw[hi]at h2;simp at h2;omega
 |cons b bs=>
  cases hr:p.reps with
  |nil=>rw[hr]at h1;simp at h1
  |cons y ys=>
   have hb:=h.isr b (by rw[hi];exact az ..)
   have hy:=h.up y (by rw[hr];exact az ..)
   unfold GJ
   rw[hb,hy]
   exact OS bs ys 1
theorem LJ {p:f3} {x:RA} {e:cr} (hok:p.ok) (hc:Cm p) (hl:p.leader=0) (hf:p.few=1) (hx:p.reps[0]? =some x) (hg:ob {e with epoch:=p.epoch}) (hv:(fo x.es {e with epoch:=p.epoch}).2=0):eu p e=if 0<=(fo x.es {e with epoch:=p.epoch}).1 then(p,(fo x.es {e with epoch:=p.epoch}).1,0)else({p with reps:=p.reps.set 0 {x with es:=x.es++[{e with epoch:=p.epoch}]}},(x.es.length:Nat),0):=by
 unfold eu
 rw[if_neg I,show p.leader.toNat=0 by omega,hx]
 dsimp only
 rw[if_neg (fun h=>h hg),if_neg (fun h=>h hv)]
 have:=Pe hok hc
 rw[if_neg (show¬ GJ p.isr p.reps 0<p.few by omega)]
theorem C8 {l:List Sn} {s:ByteArray} {i:Nat} {x:Sn} (h:eR l s=some i) (hn:x.name=s):eR (l.set i x) s=some i:=by
 obtain⟨hl,h1,h2⟩:=aP.1 h
 unfold eR
 rw[aP]
 refine⟨by simpa using hl,by simp[hn],fun j hj=> ?_⟩
 rw[List.getElem_set_ne I]
 exact h2 j hj
theorem LL (l:List Sn) (s:Sn): ∃ i,eR (vF l s) s.name=some i/\(vF l s)[i]? =some s:=by
 unfold vF
 split
 rename_i hf
 refine⟨l.length,?_,by simp⟩
 unfold eR at hf⊢
 rw[List.findIdx?_append,hf]
 simp[List.findIdx?_cons]
 rename_i i hf
 obtain⟨hl,h1,h2⟩:=aP.1 hf
 exact⟨i,C8 hf Z,al hl⟩
theorem HG {es:List cr} {e:cr} (h0:e.pid≠0) (hf:fU es e.pid=none) (hk:e.kind=1) (hs:e.seq=0):fo es e=(-1,0):=by
 unfold fo mH
 rw[if_neg h0,hf]
 simp[hk,hs]
theorem JS {es:List cr} {e:cr} {p:Prod} (h0:e.pid≠0) (hf:fU es e.pid=some p) (hk:e.kind=1) (hv:p.ver=e.ver) (hs:e.seq=p.seq+1):fo es e=(-1,0):=by
 unfold fo mH
 rw[if_neg h0,hf]
 simp[hk,hs,hv]
theorem LM {es:List cr} {e:cr} (h0:e.pid≠0) (hk:e.kind=1): ∃ p,fU (es++[e]) e.pid=some p/\p.ver=e.ver/\p.seq=e.seq:=by
 refine⟨_,by rw[qp,if_pos ⟨h0,rfl⟩],?_⟩
 unfold fp
 rw[if_neg (fun h=>h hk)]
 have:(pv e ((fU es e.pid).getD p0)).ver=e.ver:=by
  unfold pv
  split
  rfl
  rename_i h;exact(Classical.not_not.1 h).symm
 split<;>exact⟨this,rfl⟩
theorem JY {es:List cr} {e:cr} (h:uh (es++[e])) (h0:e.pid≠0) (hk:e.kind=1):fo (es++[e]) e=(((es.length:Nat):Int),0):=by
 refine GQ h (by simp) h0 ?_ hk
 unfold later
 rw[show(es++[e]).drop es.length=[e] by simp]
 simp
structure At (s:ByteArray) (w:Wa) (i:Nat) (x:Sn):Prop where
 ix:eR w.sns s=some i
 sn:w.sns[i]? =some x
 nm:x.name=s
theorem At.find {s:ByteArray} {w:Wa} {i:Nat} {x:Sn} (h:At s w i x):((eR w.sns s).bind fun i=>w.sns[i]?.map fun s=>(i,s))=some (i,x):=by
 rw[h.ix,fB,h.sn];rfl
theorem At.set {s:ByteArray} {w:Wa} {i:Nat} {x y:Sn} (h:At s w i x) (hn:y.name=s):At s {w with sns:=w.sns.set i y} i y:=⟨C8 h.ix hn,al (cy h.sn).1,hn⟩
theorem At.of {s:ByteArray} {w w':Wa} {i:Nat} {x:Sn} (h:At s w i x) (hs:w'.sns=w.sns):At s w' i x:=⟨by rw[hs];exact h.ix,by rw[hs];exact h.sn,h.nm⟩
structure P0 (w:Wa) (p:f3) (x:RA):Prop where
 pt:w.ps[0]? =some p
 ld:p.leader=0
 rp:p.reps[0]? =some x
variable {np nr k:Nat} {wt:Int} {K:Nat->List cr} {P:ByteArray->Prop} {w:Wa} {p:f3} {x:RA} {e:cr}
theorem NO (hw:WI np nr 1 wt k K w) (hc:BX P wt w) (h:P0 w p x) (hg:ob {e with epoch:=p.epoch}) (hv:fo x.es {e with epoch:=p.epoch}=(-1,0)):lk w 0 e=({w with ps:=w.ps.set 0 {p with reps:=p.reps.set 0 {x with es:=x.es++[{e with epoch:=p.epoch}]}}},⟨0,(x.es.length:Nat),[]⟩):=by
 have hgt:=hw.ps.gt 0 p h.pt
 have hp:=LJ (e:=e) hgt.1.ok (hc.ps p (ab h.pt)).1 h.ld hgt.1.few h.rp hg (by rw[hv])
 rw[hv,if_neg (by decide)]at hp
 unfold lk
 rw[h.pt]
 dsimp only
 rw[hp,if_pos Z]
theorem NP (hw:WI np nr 1 wt k K w) (hc:BX P wt w) (h:P0 w p x) (hg:ob {e with epoch:=p.epoch}) {j:Nat} (hv:fo x.es {e with epoch:=p.epoch}=(((j:Nat):Int),0)):lk w 0 e=(w,⟨0,(j:Nat),[]⟩):=by
 have hgt:=hw.ps.gt 0 p h.pt
 have hp:=LJ (e:=e) hgt.1.ok (hc.ps p (ab h.pt)).1 h.ld hgt.1.few h.rp hg (by rw[hv])
 rw[hv,if_pos (by simp)]at hp
 unfold lk
 rw[h.pt]
 dsimp only
 rw[hp,if_pos Z]
 have:w.ps.set 0 p=w.ps:=by
  apply dZ
  intro i
  by_cases hi:0=i
  subst hi
  rw[al (cy h.pt).1];exact h.pt.symm
  rw[aT hi]
 rw[this]
theorem P0.put (h:P0 w p x) (y:RA):P0 {w with ps:=w.ps.set 0 {p with reps:=p.reps.set 0 y}} {p with reps:=p.reps.set 0 y} y:=⟨al (cy h.pt).1,h.ld,al (cy h.rp).1⟩
theorem CC {s:Sn} (hl:s.last[0]? =some e) (ht:e.txn=false):dE w s 0=lk w 0 e:=by
 unfold dE
 rw[hl]
 dsimp only
 have:oa w s 0 e=(w.co,0):=by unfold oa;rw[if_neg (by rw[ht];decide)]
 rw[this,if_pos Z]
theorem Am {a:Act} {i:Nat} {s:Sn} (h:At a.name w i s) (h0:a.part=0) (hl:a.lost≠1) {again:Bool} (hag:again=true->(s.last.getD 0 jP).kind≠0) (he:(if again then s else eM s 0 a.text).last[0]? =some e) (ht:e.txn=false):
  gX w a again=((lk {w with sns:=w.sns.set i (if again then s else eM s 0 a.text)} 0 e).1,fP a (lk {w with sns:=w.sns.set i (if again then s else eM s 0 a.text)} 0 e).2):=by
 unfold gX
 rw[h.find]
 dsimp only
 rw[h0,show(0:Int).toNat=0 from rfl,if_neg (fun hh=>hag hh.1 hh.2),if_neg hl]
 generalize (if again=true then s else eM s 0 a.text)=s1 at he⊢
 rw[CC he ht]
end
theorem Ju {a b:Int} (ha:i64 a) (hb:i64 b): ∃ (np nr few:Nat) (wt:Int),1<=np/\np<=4/\1<=nr/\nr<=5/\1<=few/\few<=nr/\1<=wt/\wt<=1000/\ ∀ w:World,dt aa oE [J a,J b] w fun v w2=>v=.agg #[J (np:Nat),J (nr:Nat),J (few:Nat),J wt]/\Below w.heap.size w w2:=by
 obtain⟨h1,h2,h3,h4,h5,h6,h7,h8⟩:=@D3 a b
 refine⟨1+pk a 3,1+pk b 3,1+pk a (1+pk b 3),5+(pk b 20:Nat),h1,h2,h3,h4,h5,h6,h7,by omega,fun w=>(Lz a b w ha hb).mono fun v w2 ⟨g1,g2⟩=>⟨?_,g2⟩⟩
 rw[g1,show((1+pk a 3:Nat):Int)=1+(pk a 3:Nat) by omega,show((1+pk b 3:Nat):Int)=1+(pk b 3:Nat) by omega,show((1+pk a (1+pk b 3):Nat):Int)=1+(pk a (1+pk b 3):Nat) by omega]
theorem Hp.rnXs {w0 w:World} {L:List (Nat×Obj)} {F:List ce} {lo hi:Nat} {r:Rn} (H:Hp w0 w L F) (i:Nat) (hF:F[i]? =some (OP lo hi r)):Hp w0 w L (ey Qj lo hi r.oA r.xs::F):=by
 refine⟨H.below,H.ents,H.nodup,fun f hf=> ?_⟩
 rcases av.1 hf with rfl|hf
 obtain⟨h1,h2,h3⟩:=H.facts _ (ab hF)
 exact⟨h1.xs,h2,h3⟩
 exact H.facts f hf
theorem Hp.rn0 {w0 w:World} {L:List (Nat×Obj)} {F:List ce} {lo hi:Nat} {r:Rn} (H:Hp w0 w L F) (i:Nat) (hF:F[i]? =some (OP lo hi r)):r.rd 0 w.heap.size w:=
 Rn.rd.mono (H.fact hF) (bN _) (H.facts _ (ab hF)).2.1
section
/-! what is sent again stands where it stood -/
def lq (t:ByteArray) (k d:Int):Act:=⟨k,QB,0,0,0,t,d⟩
def tX:ByteArray:=⟨#[120]⟩
def tY:ByteArray:=⟨#[121]⟩
variable {np nr k:Nat} {few wt wt':Int} {K:Nat->List cr} {P:ByteArray->Prop} {w:Wa} {p:f3} {x:RA} {e:cr}
theorem Fp (w:Wa) (l:List Sn) (n:Nat) (e:cr):lk {w with sns:=l} n e=({(lk w n e).1 with sns:=l},(lk w n e).2):=by
 unfold lk kf
 dsimp only
 split
 rfl
 split<;>rfl
theorem C5 {s:Sn} {nm:ByteArray} (h:s.name=nm) (b:Bool) (n:Nat) (t:ByteArray):(if b then s else eM s n t).name=nm:=by cases b<;>exact h
theorem Fe {a:Act} {i:Nat} {s:Sn} {again:Bool} (hw:WI np nr 1 wt k K w) (hc:BX P wt w) (h:P0 w p x) (hs:At a.name w i s) (h0:a.part=0) (hl:a.lost≠1) (hag:again=true->(s.last.getD 0 jP).kind≠0) (he:(if again then s else eM s 0 a.text).last[0]? =some e) (ht:e.txn=false) (hg:ob {e with epoch:=p.epoch}) (hv:fo x.es {e with epoch:=p.epoch}=(-1,0)):
  ∃ w',gX w a again=(w',fP a ⟨0,(x.es.length:Nat),[]⟩)/\P0 w' {p with reps:=p.reps.set 0 {x with es:=x.es++[{e with epoch:=p.epoch}]}} {x with es:=x.es++[{e with epoch:=p.epoch}]}/\At a.name w' i (if again then s else eM s 0 a.text):=by
 have hs2:=hs.set (y:=if again then s else eM s 0 a.text) (C5 hs.nm again 0 a.text)
 have hp2:=h.put {x with es:=x.es++[{e with epoch:=p.epoch}]}
 rw[Am hs h0 hl hag he ht,Fp,NO hw hc h hg hv]
 exact⟨_,rfl,⟨hp2.pt,hp2.ld,hp2.rp⟩,⟨hs2.ix,hs2.sn,hs2.nm⟩⟩
theorem Lg {a:Act} {i j:Nat} {s:Sn} {again:Bool} (hw:WI np nr 1 wt k K w) (hc:BX P wt w) (h:P0 w p x) (hs:At a.name w i s) (h0:a.part=0) (hl:a.lost≠1) (hag:again=true->(s.last.getD 0 jP).kind≠0) (he:(if again then s else eM s 0 a.text).last[0]? =some e) (ht:e.txn=false) (hg:ob {e with epoch:=p.epoch}) (hv:fo x.es {e with epoch:=p.epoch}=(((j:Nat):Int),0)):
  ∃ w',gX w a again=(w',fP a ⟨0,(j:Nat),[]⟩)/\P0 w' p x/\At a.name w' i (if again then s else eM s 0 a.text):=by
 have hs2:=hs.set (y:=if again then s else eM s 0 a.text) (C5 hs.nm again 0 a.text)
 rw[Am hs h0 hl hag he ht,Fp,NP hw hc h hg hv]
 exact⟨_,rfl,⟨h.pt,h.ld,h.rp⟩,⟨hs2.ix,hs2.sn,hs2.nm⟩⟩
theorem ME {ep pid ver seq:Int} {t:ByteArray} (h1:0<=ep/\ep<=1073741824) (h2:0<pid/\pid<=1073741824) (h3:0<=ver/\ver<=1073741824) (h4:0<=seq/\seq<=1073741824) (ht:t.size<=40):ob ⟨ep,pid,ver,seq,1,false,t⟩:=by
 unfold ob eI
 rw[if_neg (by show¬ ((1:Int)<1∨3<(1:Int));decide),if_neg,if_neg (by simpa using ht),if_neg]
 unfold cr.noForm
 simp
 omega
 simp[cr.nums,iP]
 omega
theorem M0 (hw:WI np nr few wt k K w) (h:BX P wt' w) {n:Nat} {w':Wa} {x:An} (hA:qf w (bT n) w' x):BX P wt' w'/\Ld w w'/\ ∀ q,w.ps[n]? =some q->q.epoch<1073741824-> ∃ q',w'.ps[n]? =some q'/\q'.leader=0:=by
 cases hA with
 |poll x h19 hp=>exact absurd h19 (by show¬ ((13:Int)=19);decide)
 |other h19=>
  have e1:jx w (bT n)=lY w (bT n):=by simp[jx,bT]
  rw[e1]
  unfold lY
  have e2:(bT n).part.toNat=n:=by simp[bT]
  rw[e2]
  cases hq:w.ps[n]? with
  |none=>exact⟨h,Ld.refl w,fun q hq2=>by cases hq2⟩
  |some q=>
   have e3:jj q (bT n)=((fq q 0).1,0,(fq q 0).2):=by simp[jj,bT]
   dsimp only
   rw[e3]
   dsimp only
   obtain⟨hcm,hpd⟩:=h.ps q (ab hq)
   have hok:=(hw.ps.gt n q hq).1.ok
   obtain⟨y,hy⟩: ∃ y,q.reps[0]? =some y:=⟨_,aj hok.n1⟩
   have u0: ¬ y.up=false:=by rw[hcm.up y (ab hy)];decide
   have i0: ¬ q.isr[0]? =some false:=fun hh=>by have:=hcm.isr false (ab hh);cases this
   by_cases hl:q.leader=((0:Nat):Int)
   have e4:fq q 0=(mp,6):=by unfold fq;rw[hy];dsimp only;rw[if_neg u0,if_neg i0,if_pos hl]
   rw[e4]
   dsimp only
   rw[if_neg (by decide)]
   exact⟨h,Ld.refl w,fun q2 hq2 _=>⟨q2,hq.trans hq2,by cases hq2;simpa using hl⟩⟩
   by_cases h30:q.epoch=1073741824
   have e4:fq q 0=(mp,2):=by unfold fq;rw[hy];dsimp only;rw[if_neg u0,if_neg i0,if_neg hl,if_pos h30]
   rw[e4]
   dsimp only
   rw[if_neg (by decide)]
   exact⟨h,Ld.refl w,fun q2 hq2 he=>by cases hq2;omega⟩
   have e4:fq q 0=(m9 {q with epoch:=q.epoch+1,leader:=((0:Nat):Int),known:=(aq q.reps.length 0).set 0 y.s,base:=y.es.length},0):=by unfold fq;rw[hy];dsimp only;rw[if_neg u0,if_neg i0,if_neg hl,if_neg h30]
   rw[e4]
   dsimp only
   rw[if_pos Z]
   have hc2:Cm {q with epoch:=q.epoch+1,leader:=((0:Nat):Int),known:=(aq q.reps.length 0).set 0 (y.s:Int),base:=y.es.length}:=⟨.inr Z,hcm.isr,hcm.up⟩
   have hp2:Pd w.co.next {q with epoch:=q.epoch+1,leader:=((0:Nat):Int),known:=(aq q.reps.length 0).set 0 (y.s:Int),base:=y.es.length}:=hpd
   refine⟨h.part ⟨hc2.adv,hp2.adv⟩,Hs hq fun _=> ?_,fun q2 hq2 _=>⟨_,al (cy hq).1,?_⟩⟩<;>rw[xP.2.2.2.1]<;>rfl
theorem qK {w w':Wa} {a:Act} {x:An} (h:qf w a w' x) (hk:a.kind≠19):w'=(jx w a).1/\x=(jx w a).2:=by
 cases h with
 |poll x h19 hp=>exact absurd h19 hk
 |other h19=>exact⟨rfl,rfl⟩
theorem yf {a:Act} {i:Nat} {s:Sn} (h:At a.name w i s) (h0:a.part=0) (hl:a.lost=1):gX w a false=({w with sns:=w.sns.set i (eM s 0 a.text)},⟨14,0,[]⟩):=by
 unfold gX
 rw[h.find]
 dsimp only
 rw[h0,show(0:Int).toNat=0 from rfl,if_neg (fun hh=>by cases hh.1),if_pos hl]
 rfl
theorem GE (w:Wa) (d:Int) (t:ByteArray):jx w (lq t 3 d)=gX w (lq t 3 d) false:=by simp[jx,lq]
theorem KF (w:Wa) (d:Int) (t:ByteArray):jx w (lq t 4 d)=gX w (lq t 4 d) true:=by simp[jx,lq]
theorem Ni {k d:Int} {t:ByteArray} (hp:1<=np) (hk:k=1∨k=3∨k=4) (hd:0<=d/\d<=2) (ht:t.size<=40):nv np nr (lq t k d):=by
 refine⟨?_,fun _=>by show bu QB=true;decide,?_,?_,?_,?_,?_,?_,ht,hd⟩
 show 1<=k/\k<=20/\k≠17/\(k<=9∨k=13∨16<=k);omega
 show(0:Int)<=0/\(0:Int)<np;omega
 show(0:Int)<=0/\(0:Int)<=1000;omega
 show 8<=k->_;omega
 show k=5->_;omega
 show k=19->_;omega
 show(0:Int)<=0/\(0:Int)<=1000;omega
structure Cw (np nr k:Nat) (wt:Int) (w:Wa):Prop where
 wi: ∃ K,WI np nr 1 wt k K w
 cm:BX (fun _=>True) wt w
theorem Cw.act (h:Cw np nr k wt w) (hk:k<400) (h4:np<=4) {t:ByteArray} {kd d:Int} (hp:1<=np) (hkd:kd=1∨kd=3∨kd=4) (hd:0<=d/\d<=2) (ht:t.size<=40) {w':Wa} {x:An} (hA:qf w (lq t kd d) w' x):Cw np nr (k+1) wt w':=by
 obtain⟨K,hw⟩:=h.wi
 have g:nv np nr (lq t kd d):=Ni hp hkd hd ht
 obtain⟨K1,-,i1⟩:=E0 hw I h4 g hA
 exact⟨⟨K1,i1⟩,(Np hw h.cm g (.inl (by show kd<=9;omega)) (fun _=>trivial) hA).1⟩
structure Dw (np nr k:Nat) (wt:Int) (w:Wa) (p:f3) (x:RA) (i:Nat) (s:Sn):Prop where
 cw:Cw np nr k wt w
 p0:P0 w p x
 at_:At QB w i s
theorem Dw.sent {i:Nat} {s:Sn} (h:Dw np nr k wt w p x i s):uh x.es:=by
 obtain⟨K,hw⟩:=h.cw.wi
 exact(hw.ps.gt 0 p h.p0.pt).2 0 x h.p0.rp
theorem Dw.ep {i:Nat} {s:Sn} (h:Dw np nr k wt w p x i s):0<=p.epoch/\p.epoch<=1073741824:=by
 obtain⟨K,hw⟩:=h.cw.wi
 exact⟨(hw.ps.gt 0 p h.p0.pt).1.ok.ep0,(hw.ps.gt 0 p h.p0.pt).1.ok.ep1⟩
theorem Dw.new {i:Nat} {s:Sn} (h:Dw np nr k wt w p x i s) (hk:k<400) (h4:np<=4) (hp:1<=np) {t:ByteArray} {kd d:Int} (hkd:kd=3∨kd=4) (hd:d=0∨d=2) (ht:t.size<=40) {w':Wa} {y:An} (hA:qf w (lq t kd d) w' y)
  (hag:kd=4->(s.last.getD 0 jP).kind≠0) {e:cr} (he:(if decide (kd=4)then s else eM s 0 t).last[0]? =some e) (hx:e.txn=false) (hg:ob {e with epoch:=p.epoch}) (hv:fo x.es {e with epoch:=p.epoch}=(-1,0)):
  y=fP (lq t kd d) ⟨0,(x.es.length:Nat),[]⟩/\ ∃ (p':f3) (x':RA),p'.epoch=p.epoch/\x'.es=x.es++[{e with epoch:=p.epoch}]/\Dw np nr (k+1) wt w' p' x' i (if decide (kd=4)then s else eM s 0 t):=by
 obtain⟨K,hw⟩:=h.cw.wi
 obtain⟨h1,h2⟩:=qK hA (by show¬ kd=19;omega)
 obtain⟨w2,e1,g1,g2⟩:=Fe (a:=lq t kd d) (again:=decide (kd=4)) hw h.cw.cm h.p0 h.at_ Z (by show¬ d=1;omega) (fun q=>hag (of_decide_eq_true q)) he hx hg hv
 have e2:jx w (lq t kd d)=gX w (lq t kd d) (decide (kd=4)):=by rcases hkd with rfl|rfl;exact GE w d t;exact KF w d t
 rw[e2,e1]at h1 h2
 refine⟨h2,{p with reps:=p.reps.set 0 {x with es:=x.es++[{e with epoch:=p.epoch}]}},{x with es:=x.es++[{e with epoch:=p.epoch}]},rfl,rfl,h.cw.act hk h4 hp (.inr hkd) I ht hA,?_,?_⟩
 rw[h1];exact g1
 rw[h1];exact g2
theorem Dw.lost {i:Nat} {s:Sn} (h:Dw np nr k wt w p x i s) (hk:k<400) (h4:np<=4) (hp:1<=np) {w':Wa} {y:An} (hA:qf w (lq tY 3 1) w' y):y.code=14/\Dw np nr (k+1) wt w' p x i (eM s 0 tY):=by
 obtain⟨h1,h2⟩:=qK hA (by show¬ (3:Int)=19;decide)
 have hl:=yf (a:=lq tY 3 1) h.at_ Z Z
 rw[GE,hl]at h1 h2
 have hs2:=h.at_.set (y:=eM s 0 tY) h.at_.nm
 refine⟨by rw[h2],h.cw.act hk h4 hp (.inr (.inl Z)) (by decide) (by decide) hA,?_,?_⟩
 rw[h1];exact⟨h.p0.pt,h.p0.ld,h.p0.rp⟩
 rw[h1];exact⟨hs2.ix,hs2.sn,hs2.nm⟩
theorem nx2 (hp:1<=np) (Nn:Int):(eM (eM (rh QB Nn 0 np) 0 tX) 0 tY).last[0]? =some ⟨0,Nn,0,1,1,false,tY⟩:=by
 obtain⟨m,rfl⟩: ∃ m,np=m+1:=⟨np-1,by omega⟩
 simp[eM,rh,ng]
theorem IT {α:Type} {l:List α} {i:Nat} {a b:α} (h:l[i]? =some a):l.getD i b=a:=by simp[List.getD,h]
end
/-! rounds of syncs and fetches where nothing crashes -/
theorem FM {c:Int}: ∀ (isr:List Bool) (kn:List Int) (m:Int),c<=m->(∀ v∈kn,c<=v)->c<=cY isr kn m
 |[],_,m,h,_=>by simpa [cY]using h
 |_::_,[],m,h,_=>by simpa [cY]using h
 |b::bs,n::ns,m,h,hv=>by
  unfold cY
  refine FM bs ns _ ?_ fun v hv'=>hv v (ai _ hv')
  have:=hv n (az ..)
  split<;>omega
theorem AM {L:List cr} {j:Nat} (h:j<=L.length):dT (L.take j) L=j:=by
 have h1:=(sG (L.take j) L).1
 have h2:=AN (a:=L.take j) (b:=L) (k:=j) (by rw[aD];omega) (by rw[dv,Nat.min_self])
 rw[aD]at h1
 omega
def rf (r:Nat):Act:=⟨9,⟨#[]⟩,0,r,0,⟨#[]⟩,0⟩
def mY (r:Nat):Act:=⟨8,⟨#[]⟩,0,r,0,⟨#[]⟩,0⟩
def pI (j:Nat):List Act:=(gy j).flatMap fun r=>[rf r,mY r]
def iG (nr:Nat):Nat->List Act
 |0=>[]
 |t+1=>iG nr t++pI nr
theorem wy (j:Nat):pI (j+1)=pI j++[rf j,mY j]:=by simp[pI,ss]
theorem ju (j:Nat):(pI j).length=2*j:=by
 induction j with
 |zero=>rfl
 |succ j ih=>rw[wy,ay,ih];simp;omega
theorem kj (nr t:Nat):(iG nr t).length=t*(2*nr):=by
 induction t with
 |zero=>simp[iG]
 |succ t ih=>rw[iG,ay,ih,ju,cN,gh]
structure GM (L:List cr) (t j:Nat) (p:f3):Prop where
 cm:Cm p
 ld:p.leader=0
 zero: ∃ y,p.reps[0]? =some y/\y.es=L/\y.high<=(L.length:Int)/\(L.length+1<=t->1<=j->(L.length:Int)<=y.high)/\(L.length+2<=t->(L.length:Int)<=y.high)
 rest: ∀ (r:Nat) (x:RA),1<=r->p.reps[r]? =some x-> ∃ a,a<=L.length/\x.es=L.take a/\min (if r<j then t+1 else t) L.length<=a
 kn: ∀ (r:Nat) (v:Int),1<=r->p.known[r]? =some v->((min (if r<j then t else t-1) L.length:Nat):Int)<=v
 kn0:1<=t∨1<=j-> ∀ v,p.known[0]? =some v->(L.length:Int)<=v
 kl:p.known.length=p.reps.length
theorem GM.sync0 {L:List cr} {t:Nat} {p:f3} (h:GM L t 0 p) (hL:L.length<=400): ∃ p',jq p 0=(p',0)/\GM L t 1 p'/\p'.reps.length=p.reps.length:=by
 obtain⟨y,hy,hyL,hh,-,hh2⟩:=h.zero
 have hu:y.up=true:=h.cm.up y (ab hy)
 have hl:=(cy hy).1
 have hs:(p.reps.set 0 {y with s:=y.es.length})[0]? =some {y with s:=y.es.length}:=al hl
 have e1:jq p 0=(m9 {p with reps:=p.reps.set 0 {y with s:=y.es.length},known:=p.known.set 0 (y.es.length:Nat)},0):=by
  unfold jq
  rw[hy];dsimp only
  rw[if_neg (by rw[hu];decide),if_pos (by rw[h.ld];rfl)]
 rw[xR (l:=0) (p:={p with reps:=p.reps.set 0 {y with s:=y.es.length},known:=p.known.set 0 (y.es.length:Nat)}) h.ld hs]at e1
 refine⟨_,e1,⟨?_,h.ld,?_,?_,?_,?_,by simp[h.kl]⟩,by simp⟩
 refine⟨h.cm.ld,h.cm.isr,fun x hx=> ?_⟩
 rcases aA hx with hx|rfl
 rcases aA hx with hx|rfl
 exact h.cm.up x hx
 exact hu
 exact hu
 refine⟨_,al (by simpa using hl),hyL,?_,fun ht _=> ?_,fun ht=> ?_⟩
 show max y.high (min _ ((y.es.length:Nat):Int))<=_
 rw[hyL];omega
 show _<=max y.high (min (cY p.isr (p.known.set 0 ((y.es.length:Nat):Int)) 400) ((y.es.length:Nat):Int))
 have hg:(L.length:Int)<=cY p.isr (p.known.set 0 ((y.es.length:Nat):Int)) 400:=by
  refine FM _ _ _ I fun v hv=> ?_
  obtain⟨r,hr⟩:=aN.1 hv
  cases r with
  |zero=>
   rw[v5]at hr
   cases hk:p.known[0]? with
   |none=>rw[hk]at hr;cases hr
   |some u=>rw[hk]at hr;simp at hr;rw[hyL]at hr;omega
  |succ r=>
   rw[aT I]at hr
   have:=h.kn (r+1) v I hr
   rw[if_neg (show¬ r+1<0 by omega)]at this
   omega
 rw[hyL]at hg⊢
 omega
 have:=hh2 ht
 show _<=max y.high _
 omega
 intro r x hr hx
 change ((p.reps.set 0 _).set 0 _)[r]? =some x at hx
 rw[aT I,aT I]at hx
 obtain⟨a,h1,h2,h3⟩:=h.rest r x hr hx
 refine⟨a,h1,h2,?_⟩
 rw[if_neg (show¬ r<0 by omega)]at h3
 rw[if_neg (show¬ r<1 by omega)]
 exact h3
 intro r v hr hv
 change (p.known.set 0 _)[r]? =some v at hv
 rw[aT I]at hv
 have:=h.kn r v hr hv
 rw[if_neg (show¬ r<0 by omega)]at this
 rw[if_neg (show¬ r<1 by omega)]
 exact this
 intro _ v hv
 change (p.known.set 0 _)[0]? =some v at hv
 rw[v5]at hv
 cases hk:p.known[0]? with
 |none=>rw[hk]at hv;cases hv
 |some u=>rw[hk]at hv;simp at hv;rw[hyL]at hv;omega
theorem GM.fetch0 {L:List cr} {t j:Nat} {p:f3} (h:GM L t j p):(gx p 0).2.2≠0:=by
 obtain⟨y,hy,-⟩:=h.zero
 unfold gx
 rw[hy];dsimp only
 rw[if_pos (.inr (by rw[h.ld];rfl))]
 decide
theorem EI {L:List cr} {x y:RA} {a:Nat} {hl:Int} (ha:a<=L.length) (hx:x.es=L.take a) (hy:y.es=L): ∃ b,b<=L.length/\(im x y hl).1.es=L.take b/\min (a+1) L.length<=b/\(im x y hl).1.up=x.up:=by
 have hm:dT x.es y.es=a:=by rw[hx,hy];exact AM ha
 have ht:(L.take a).take a=L.take a:=by rw[dv,Nat.min_self]
 unfold im
 rw[hm,hx,hy]
 cases hz:L[a]? with
 |none=>
  have hge:=List.getElem?_eq_none_iff.1 hz
  exact⟨a,ha,ht,by omega,rfl⟩
 |some z=>
  have hlt:=(cy hz).1
  refine⟨a+1,by omega,?_,by omega,rfl⟩
  show(L.take a).take a++[z]=_
  rw[ht,d6 hz]
theorem GM.step {L:List cr} {t j:Nat} {p:f3} (h:GM L t j p) (hj:1<=j) {x:RA} (hx:p.reps[j]? =some x): ∃ p1 p2 n,jq p j=(p1,0)/\gx p1 j=(p2,n,0)/\GM L t (j+1) p2/\p2.reps.length=p.reps.length:=by
 obtain⟨y,hy,hyL,hh,hh1,hh2⟩:=h.zero
 obtain⟨a,ha,hxa,hat⟩:=h.rest j x hj hx
 rw[if_neg (Nat.lt_irrefl j)]at hat
 have hu:x.up=true:=h.cm.up x (ab hx)
 have hl:=(cy hx).1
 have hl0:=(cy hy).1
 have e1:jq p j=({p with reps:=p.reps.set j {x with s:=x.es.length}},0):=by
  unfold jq
  rw[hx];dsimp only
  rw[if_neg (by rw[hu];decide),if_neg (by rw[h.ld];omega)]
 have hx1:({p with reps:=p.reps.set j {x with s:=x.es.length}}:f3).reps[j]? =some {x with s:=x.es.length}:=al hl
 have hy1:({p with reps:=p.reps.set j {x with s:=x.es.length}}:f3).reps[0]? =some y:=by
  show(p.reps.set j _)[0]? =_
  rw[aT I];exact hy
 have e2:=qh (l:=0) hx1 h.ld I hu hy1
 obtain⟨b,hb,hbe,hbm,hbu⟩:=EI (x:={x with s:=x.es.length}) (y:=y) (hl:=max y.high (min (cY p.isr (p.known.set j (min x.es.length (dT x.es y.es):Nat)) 400) y.es.length)) ha hxa hyL
 have hm:dT x.es y.es=a:=by rw[hxa,hyL];exact AM ha
 have hxl:x.es.length=a:=by rw[hxa,aD];omega
 refine⟨_,_,_,e1,e2,⟨?_,h.ld,?_,?_,?_,?_,by simp[h.kl]⟩,by simp⟩
 refine⟨h.cm.ld,h.cm.isr,fun z hz=> ?_⟩
 rcases aA hz with hz|rfl
 rcases aA hz with hz|rfl
 rcases aA hz with hz|rfl
 exact h.cm.up z hz
 exact hu
 exact h.cm.up y (ab hy)
 exact hbu.trans hu
 refine⟨{y with high:=max y.high (min (cY p.isr (p.known.set j (min x.es.length (dT x.es y.es):Nat)) 400) y.es.length)},?_,hyL,?_,fun ht _=> ?_,fun ht=> ?_⟩
 show(((p.reps.set j _).set 0 _).set j _)[0]? =_
 rw[aT I,al (by simpa using hl0)]
 show max y.high (min _ ((y.es.length:Nat):Int))<=_
 rw[hyL];omega
 have:=hh1 ht hj
 show _<=max y.high _
 omega
 have:=hh2 ht
 show _<=max y.high _
 omega
 intro r z hr hz
 change (((p.reps.set j _).set 0 _).set j _)[r]? =some z at hz
 by_cases hrj:j=r
 subst hrj
 rw[al (by simpa using hl)]at hz
 cases hz
 refine⟨b,hb,hbe,?_⟩
 rw[if_pos (vX j)]
 omega
 rw[aT hrj,aT I,aT hrj]at hz
 obtain⟨c,h1,h2,h3⟩:=h.rest r z hr hz
 refine⟨c,h1,h2,?_⟩
 by_cases hlt:r<j
 rw[if_pos hlt]at h3
 rw[if_pos (show r<j+1 by omega)];exact h3
 rw[if_neg hlt]at h3
 rw[if_neg (show¬ r<j+1 by omega)];exact h3
 intro r v hr hv
 change (p.known.set j _)[r]? =some v at hv
 by_cases hrj:j=r
 subst hrj
 rw[v5]at hv
 cases hk:p.known[j]? with
 |none=>rw[hk]at hv;cases hv
 |some u=>
  rw[hk]at hv
  simp at hv
  rw[hm,hxl]at hv
  rw[if_pos (vX j)]
  omega
 rw[aT hrj]at hv
 have h3:=h.kn r v hr hv
 by_cases hlt:r<j
 rw[if_pos hlt]at h3
 rw[if_pos (show r<j+1 by omega)];exact h3
 rw[if_neg hlt]at h3
 rw[if_neg (show¬ r<j+1 by omega)];exact h3
 intro _ v hv
 change (p.known.set j _)[0]? =some v at hv
 rw[aT I]at hv
 exact h.kn0 (.inr hj) v hv
theorem GM.next {L:List cr} {t:Nat} {p:f3} (h:GM L t p.reps.length p) (h1:1<=p.reps.length):GM L (t+1) 0 p:=by
 obtain⟨y,hy,hyL,hh,hh1,hh2⟩:=h.zero
 refine⟨h.cm,h.ld,⟨y,hy,hyL,hh,fun _ h0=>by omega,fun ht=>hh1 I h1⟩,fun r x hr hx=> ?_,fun r v hr hv=> ?_,fun _ v hv=>h.kn0 (.inr h1) v hv,h.kl⟩
 obtain⟨a,g1,g2,g3⟩:=h.rest r x hr hx
 rw[if_pos (cy hx).1]at g3
 exact⟨a,g1,g2,by rw[if_neg (show¬ r<0 by omega)];exact g3⟩
 have g:=h.kn r v hr hv
 rw[if_pos (by have:=(cy hv).1;have:=h.kl;omega)]at g
 rw[if_neg (show¬ r<0 by omega)]
 exact g
theorem DF {w w':Wa} {p:f3} {j:Nat} {x:An} (hp:w.ps[0]? =some p) (hA:qf w (rf j) w' x) (h0:(jq p j).2=0):w'.ps[0]? =some (jq p j).1:=by
 obtain⟨h1,-⟩:=qK hA (by show¬ (9:Int)=19;decide)
 have e1:jx w (rf j)=lY w (rf j):=by simp[jx,rf]
 have e2:jj p (rf j)=((jq p j).1,0,(jq p j).2):=by simp[jj,rf]
 rw[h1,e1]
 unfold lY
 rw[show(rf j).part.toNat=0 from rfl,hp]
 dsimp only
 rw[e2,if_pos h0]
 exact al (cy hp).1
theorem BU {w w':Wa} {p:f3} {j:Nat} {x:An} (hp:w.ps[0]? =some p) (hA:qf w (mY j) w' x):w'.ps[0]? =some (if(gx p j).2.2=0 then(gx p j).1 else p):=by
 obtain⟨h1,-⟩:=qK hA (by show¬ (8:Int)=19;decide)
 have e1:jx w (mY j)=lY w (mY j):=by simp[jx,mY]
 have e2:jj p (mY j)=gx p j:=by simp[jj,mY]
 rw[h1,e1]
 unfold lY
 rw[show(mY j).part.toNat=0 from rfl,hp]
 dsimp only
 rw[e2]
 split
 exact al (cy hp).1
 exact hp
theorem FV {L:List cr} {t:Nat} (hL:L.length<=400): ∀ (j:Nat) {w w':Wa} {p:f3} {xs:List An},kN w (pI j) xs w'->j<=p.reps.length->w.ps[0]? =some p->GM L t 0 p-> ∃ p',w'.ps[0]? =some p'/\GM L t j p'/\p'.reps.length=p.reps.length
 |0,w,w',p,xs,h,_,hp,hr=>by
  cases h
  exact⟨p,hp,hr,rfl⟩
 |j+1,w,w',p,xs,h,hj,hp,hr=>by
  rw[wy]at h
  obtain⟨us,zs,w1,rfl,r1,r2⟩:=h.split
  obtain⟨p1,h1,h2,h3⟩:=FV hL j r1 I hp hr
  cases r2 with
  |cons a1 r2=>cases r2 with
  |cons a2 r2=>
   cases r2
   cases j with
   |zero=>
    obtain⟨p2,g1,g2,g3⟩:=h2.sync0 hL
    have b1:=DF h1 a1 (by rw[g1])
    rw[g1]at b1
    have b2:=BU b1 a2
    rw[if_neg g2.fetch0]at b2
    exact⟨p2,b2,g2,g3.trans h3⟩
   |succ j=>
    obtain⟨x,hx⟩: ∃ x,p1.reps[j+1]? =some x:=⟨_,aj I⟩
    obtain⟨p2,p3,n,g1,g2,g3,g4⟩:=h2.step I hx
    have b1:=DF h1 a1 (by rw[g1])
    rw[g1]at b1
    have b2:=BU b1 a2
    rw[g2,if_pos Z]at b2
    exact⟨p3,b2,g3,g4.trans h3⟩
theorem Iw {L:List cr} {nr:Nat} (hL:L.length<=400) (hn:1<=nr): ∀ (t:Nat) {w w':Wa} {p:f3} {xs:List An},kN w (iG nr t) xs w'->p.reps.length=nr->w.ps[0]? =some p->GM L 0 0 p-> ∃ p',w'.ps[0]? =some p'/\GM L t 0 p'/\p'.reps.length=nr
 |0,w,w',p,xs,h,hl,hp,hr=>by
  cases h
  exact⟨p,hp,hr,hl⟩
 |t+1,w,w',p,xs,h,hl,hp,hr=>by
  rw[iG]at h
  obtain⟨us,zs,w1,rfl,r1,r2⟩:=h.split
  obtain⟨p1,h1,h2,h3⟩:=Iw hL hn t r1 hl hp hr
  obtain⟨p2,g1,g2,g3⟩:=FV hL nr r2 I h1 h2
  rw[h3]at g3
  rw[<-g3]at g2
  exact⟨p2,g1,g2.next I,g3⟩
end Go.Proofs.YtclibalpdhhhfaaGreatDoor
