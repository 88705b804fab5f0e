/- Part 4 of the proofs over this seat: what its theorems say holds for every input that they name. -/
import Derived.Test.YtclibalpdhhhfaaGreatDoorAF3
namespace Go.Proofs.YtclibalpdhhhfaaGreatDoor
open Go Go.Eng Go.RowKit
open Go.Eng renaming bL→U, bD→W, ba→Zr, jl→Zk, ur→Zt, g8→Zb, p5→Zx, eM→Yi, Af→Yb, qf→Ys, QF→Yp, Ox→Yt, Is→Yu, pz→Wi, Gj→Wb, vI→Ws, QK→Wp, uC→Wt, FY→Zf, IH→Xi, OF→Xa, IG→Xs, GW→Kt, GX→N, gL→ZT, eS→ZF
open Go.Proofs.Tryz renaming prog→aa
open _root_.List renaming mem_of_getElem?→ab,length_set→ae,getElem?_eq_getElem→ai,mem_cons_of_mem→aj,getElem?_set_self→am,replicate→ap,mem_append→aq,mem_singleton→ar,mem_cons→av,length_append→ax,mem_cons_self→az,append_assoc→aB,mem_or_eq_of_mem_set→aC,length_take→aF,getElem?_map→aH,mem_iff_getElem?→aM,findIdx?_eq_some_iff_getElem→aP,sublist_cons_self→aR,getElem?_set_ne→aV,append_nil→aW,map_append→bh,length_map→bl,mem_nil_iff→bu,length_cons→bv,mem_map_of_mem→bG,take_length→bM,length_replicate→bO,mem_map→bS,sublist_append_right→bZ,getElem?_append_right→cj,mem_append_right→cB,length_singleton→cF,getElem?_eq_none→cG,getD_eq_getElem?_getD→cR,eq_of_mem_replicate→cS,map_set→cT,findIdx?_eq_none_iff→cZ,length→di,getElem?_drop→dk,take_take→dv,mem_singleton_self→d6,ext_getElem?→ei,getElem?_replicate→fm,drop_length→fz,set_set→fL,perm_append_comm_assoc→gf,set_append_right→jj,pairwise_map→jv,replicate_succ→jY,prefix_refl→j5,mem_filter→k9,pairwise_iff_getElem→mZ,drop_eq_getElem_cons→m0,take_subset→qE,replicate_succ'→rg,range→tI,getElem_mem→vM,getElem?_set_self'→vN,perm_append_comm→xI,mem_of_mem_take→y8,set_cons_zero→BL
open _root_.List.Perm renaming cons→ah,swap→ak
open _root_.Nat renaming le_refl→ao,le_trans→aX,zero_le→bx,le_succ→bz,min_eq_left→bB,zero_add→cE,add_mul→cN,one_mul→f8,add_assoc→jI,sub_self→mp,le_of_lt→mq,lt_succ_self→vK,add_comm→Dp
open _root_.List.Sublist renaming refl→au
open _root_.Option.some renaming inj→aT,injEq→lv
open _root_.Option renaming map_some→eJ,bind_some→fy
open _root_.Int renaming le_refl→ff
set_option maxHeartbeats 4000000
set_option maxRecDepth 20000
set_option linter.unusedSimpArgs false
set_option linter.unusedVariables false
set_option linter.unusedSectionVars false
/-- an answer without texts -/
def Qh (x:An) (v:Value):Prop:=x.texts=[]/\v=.agg #[J x.code,J x.n,.slice none 0 0]
theorem Qh.r {x:An} {v:Value} (h:Qh x v) (w:World):oY x v w:=by
 obtain⟨c,n,t⟩:=x
 obtain⟨h1,rfl⟩:=h
 dsimp only at h1
 subst h1
 exact oY.plain c n w
theorem GD (a:Act) (x:An) (w:World):dt aa vw [a.v,.agg #[J x.code,J x.n,.slice none 0 0]] w fun v w2=>v=.agg #[J (fJ a x).code,J (fJ a x).n,.slice none 0 0]/\Below w.heap.size w w2:=
 (DB a x.code x.n none 0 0 w).mono fun v w2 ⟨h1,h2⟩=>⟨by rw[h1];unfold fJ;split<;>rfl,h2⟩
theorem lD (a:Act) {x:An} (hx:x.texts=[]):(fJ a x).texts=[]:=by
 unfold fJ
 split
 exact hx
 rfl
theorem z8 (w:Wa) (n:Nat) (x:cv):(lG w n x).2.texts=[]:=by
 unfold lG
 split
 rfl
 split<;>rfl
theorem kB (w:Wa) (s:Sn) (n:Nat):(dL w s n).2.texts=[]:=by
 unfold dL
 split
 rfl
 split
 exact z8 ..
 rfl
theorem oY.p {x:An} {v:Value} {w:World} (h:oY x v w) (hx:x.texts=[]): ∃ A c,v=.agg #[J x.code,J x.n,.slice A 0 c]:=by
 obtain⟨A,c,h1,-,-⟩:=h
 rw[hx]at h1
 exact⟨A,c,h1⟩
theorem z5 {b:Bk} {a:Act} {ag:Bool} (hix:eK b.sns a.name=none):gY b.a a ag=(b.a,⟨5,0,[]⟩):=by
 unfold gY
 rw[show b.a.sns=b.sns.map Sn.a from rfl,DI hix]
 rfl
theorem z6 {b:Bk} {a:Act} {i:Nat} {x:Sn} {e:cv} (hix:eK b.sns a.name=some i) (hx:b.sns[i]? =some x) (he:x.last[a.part.toNat]? =some e) (hk:e.kind=0):gY b.a a true=(b.a,⟨15,0,[]⟩):=by
 unfold gY
 rw[show b.a.sns=b.sns.map Sn.a from rfl,wK hix hx]
 dsimp only
 rw[if_pos ⟨rfl,by rw[cR,show x.a.last=x.last from rfl,he];exact hk⟩]
 rfl
theorem oe {b:Bk} {a:Act} {i:Nat} {x:Sn} {ag:Bool} (hix:eK b.sns a.name=some i) (hx:b.sns[i]? =some x) (hk:ag=true-> ∃ e,x.last[a.part.toNat]? =some e/\e.kind≠0) (s1:Sn) (hs:(if ag then x else eF x a.part.toNat a.text)=s1):gY b.a a ag=if a.lost=1 then({b.a with sns:=(b.sns.set i s1).map Sn.a},⟨14,0,[]⟩)else((dL {b.a with sns:=(b.sns.set i s1).map Sn.a} s1.a a.part.toNat).1,fJ a (dL {b.a with sns:=(b.sns.set i s1).map Sn.a} s1.a a.part.toNat).2):=by
 subst hs
 unfold gY
 rw[show b.a.sns=b.sns.map Sn.a from rfl,wK hix hx]
 dsimp only
 rw[if_neg (fun h=>by
  obtain⟨e,he,hne⟩:=hk h.1
  have h2:=h.2
  rw[cR,show x.a.last=x.last from rfl,he]at h2
  exact hne h2)]
 have:(if ag=true then x.a else eF x.a a.part.toNat a.text)=(if ag=true then x else eF x a.part.toNat a.text).a:=by split<;>rfl
 rw[this,cT]
 rfl
theorem uR {x:Sn} {n:Nat} {q:Int} (h:x.seqs[n]? =some q) (t:ByteArray):eF x n t={x with last:=x.last.set n ⟨0,x.pid,x.ver,q,1,x.inn,t⟩,seqs:=x.seqs.set n (q+1)}:=by
 unfold eF
 rw[cR,h]
 rfl
theorem d3.same {α:Type} {Y:fq α} {es:List α} {c k:Nat} {cur:Array Value} {e e':α} (h:d3 Y es c cur) (hk:es[k]? =some e) (he:Y.f e'=Y.f e):d3 Y (es.set k e') c cur:=by
 refine⟨h.size,?_,by rw[ae];exact h.le,h.max⟩
 rw[ae,h.all]
 unfold fq.all
 have:(es.set k e').map Y.f=es.map Y.f:=by rw[cT,he];exact fb (by rw[aH,hk];rfl)
 simp only[List.flatMap_def,this]
theorem Jf {w0 w:World} {bb:Nat} {b:Bk} {gP:Nat} {uP:Array Value} {Ls Lo K:List (Nat×Obj)} {F:List cf} (a:Act) (B:Bw w0 w bb b gP uP Ls Lo K F) (hsl:b.sns.length<=1000000) (ag:Bool) (hix:eK b.sns a.name=none):dt aa iZ [.pointer (Qd bb),a.v,.bool ag] w fun v w2=> ∃ b':Bk,oY (gY b.a a ag).2 v w2/\b'.a=(gY b.a a ag).1/\xF w0 w2 bb b' K F:=by
 refine aG jV Z Z ?_
 obtain⟨ps,pA,pC,co,clo,chi,gr,glo,ghi,sns,snA,snC⟩:=b
 obtain⟨hpA,row,hsn,hown,hco,hgr,hps,H⟩:=B
 dsimp only at hpA row hsn hown hco hgr hps
 subst hpA
 replace H:Hp w0 w ((bb,.cells #[.slice (Qd gP) ps.length pC,J (co.clock),J (co.next),J (co.wait),.slice co.A co.txs.length co.cap,J (gr.clock),J (gr.wait),J (gr.gen),.slice gr.mA gr.ms.length gr.mC,.slice gr.oA gr.os.length gr.oC,.slice snA sns.length snC] bF (0,0))::(gP,.cells uP bK (0,0))::(Ls++(Lo++K))) F:=H
 dsimp only at hix hsl
 show CW _ _ _ _ (args [.pointer (Qd bb),.agg #[J (a.kind),.string (a.name),J (a.part),J (a.n),J (a.m),.string (a.text),J (a.lost)],.bool ag]) w
 refine W<|Zr<|gM H Z Z fun w1 b4 H=>fg H du Z fun w2 b6 H=>U<|W<|Zr<|G (Yp Z)<|G (Zf fl Z)<|G (Zd aZ H 1 Z Z Z)<|cz dD (jx bb ⟨ps,some ⟨gP,0,none⟩,pC,co,clo,chi,gr,glo,ghi,sns,snA,snC⟩ (a.name) Ls _ (H.ent (i:=2) Z) hsn (fun q hq=>(H.ents q (by simp only[av,aq];grind)).1) hsl) Z Z ?_
 rintro _ w3 ⟨rfl,hb⟩;replace H:=H.later hb;clear hb
 rw[hix]
 refine G (Wp Z)<|U<|W<|Zb<|W<|Zr<|G (Yp Z)<|G (xS iV Z)<|G (Yb Z)<|ZN<|ZN<|ZN<|ZN<|ZN<|G (Kt Z Z)<|G (Wb Z)<|U<|ZT Z<|W<|Zr<|cz bJ (dQ 5 _) Z Z ?_
 rintro _ w4 ⟨rfl,hb⟩;replace H:=H.later hb;clear hb
 refine bC H 0 (#[J (5),J (0),.slice none 0 0]) aN Z Z Z Z Z N N fun w5 H=>U<|Zt ?_
 exact eQ (cs0:= #[J (5),J (0),.slice none 0 0]) Z aK Z (H.ent (i:=0) Z) Z ⟨⟨ps,some ⟨gP,0,none⟩,pC,co,clo,chi,gr,glo,ghi,sns,snA,snC⟩,by rw[z5 hix];exact oY.plain _ _ _,by rw[z5 hix],Bw.shut (X:=[(b6,_),(b4,_)]) row hsn hown hco hgr hps (fun _ h=>h) H Z⟩
theorem KG {a:Act} {x:An} {A:Option Addr} {c:Nat} {v:Value} (h:v=if a.lost=0 then .agg #[J x.code,J x.n,.slice A 0 c]else .agg #[J 14,J 0,.slice none 0 0]): ∃ A2 c2,v=.agg #[J (fJ a x).code,J (fJ a x).n,.slice A2 0 c2]:=by
 unfold fJ
 split at h
 rename_i h0;rw[if_pos h0];exact⟨_,_,h⟩
 rename_i h0;rw[if_neg h0];exact⟨_,_,h⟩
theorem oY.of {x:An} {A:Option Addr} {c:Nat} {w:World} (hx:x.texts=[]):oY x (.agg #[J x.code,J x.n,.slice A 0 c]) w:=⟨A,c,by rw[hx];rfl,by rw[hx];exact bx _,by rw[hx];exact Rd.nil⟩
theorem GO {w0 w:World} {bb:Nat} {b:Bk} {gP:Nat} {uP:Array Value} {Ls Lo K:List (Nat×Obj)} {F:List cf} (a:Act) (B:Bw w0 w bb b gP uP Ls Lo K F) (hsl:b.sns.length<=1000000) {k i:Nat} {x:Sn} (hix:eK b.sns a.name=some i) (hx:b.sns[i]? =some x) (hpn:0<=a.part/\a.part<b.ps.length) (hlo:0<=a.lost/\a.lost<=2) (hll:x.last.length=b.ps.length) (hsq:x.seqs.length=b.ps.length) (h4:b.ps.length<=4) (hnm:bo x.name=true) (hcb:oW k b.co) (hpk: ∀ q∈b.ps,q.p.a.ok/\ ∀ (l:Nat) (y:f5),q.p.leader=l->q.p.reps[l]? =some y->y.es.length<400):dt aa iZ [.pointer (Qd bb),a.v,.bool true] w fun v w2=> ∃ b':Bk,oY (gY b.a a true).2 v w2/\b'.a=(gY b.a a true).1/\xF w0 w2 bb b' K F:=by
 refine aG jV Z Z ?_
 obtain⟨ps,pA,pC,co,clo,chi,gr,glo,ghi,sns,snA,snC⟩:=b
 obtain⟨hpA,row,hsn,hown,hco,hgr,hps,H⟩:=B
 dsimp only at hpA row hsn hown hco hgr hps
 subst hpA
 dsimp only at hix hx
 obtain⟨gS,uS,hgS,hLs,rowS⟩:=hsn.row (by have:=(cu hx).1;omega)
 subst hgS;subst hLs
 obtain⟨gq,uq,gl,ul,La,Lb,hsA,hlA,rowq,rowl,hLo,hset⟩:=hown.at_ hx
 subst hLo
 replace H:Hp w0 w ((bb,.cells #[.slice (Qd gP) ps.length pC,J (co.clock),J (co.next),J (co.wait),.slice co.A co.txs.length co.cap,J (gr.clock),J (gr.wait),J (gr.gen),.slice gr.mA gr.ms.length gr.mC,.slice gr.oA gr.os.length gr.oC,.slice (Qd gS) sns.length snC] bF (0,0))::(gP,.cells uP bK (0,0))::(gS,.cells uS fF (0,0))::(gq,.cells uq da (0,0))::(gl,.cells ul dz (0,0))::(La++(Lb++K))) F:=H.perm (C9 [(bb,_),(gP,_),(gS,_)] _ _ La Lb K)
 dsimp only at hsl hpn hll hsq h4 hcb hpk
 obtain⟨n,hna⟩: ∃ n:Nat,a.part=(n:Int):=⟨a.part.toNat,by omega⟩
 have htn:a.part.toNat=n:=by omega
 have hl5:(zV.f x)[5]? =some (.slice (some ⟨gl,0,none⟩) x.last.length x.lC):=by rw[<-hlA];rfl
 have hl4:(zV.f x)[4]? =some (.slice (some ⟨gq,0,none⟩) x.seqs.length x.sC):=by rw[<-hsA];rfl
 obtain⟨e,he⟩: ∃ e,x.last[n]? =some e:=⟨_,ai I⟩
 have rS2:d3 zV (sns.set i x) snC uS:=by rw[fb hx];exact rowS
 show CW _ _ _ _ (args [.pointer (Qd bb),.agg #[J (a.kind),.string (a.name),J (a.part),J (a.n),J (a.m),.string (a.text),J (a.lost)],.bool true]) w
 refine W<|Zr<|gM H Z Z fun w1 b4 H=>fg H du Z fun w2 b6 H=>U<|W<|Zr<|G (Yp Z)<|G (Zf fl Z)<|G (Zd aZ H 1 Z Z Z)<|cz dD (jx bb ⟨ps,some ⟨gP,0,none⟩,pC,co,clo,chi,gr,glo,ghi,sns,some ⟨gS,0,none⟩,snC⟩ (a.name) _ _ (H.ent (i:=2) Z) (d3.own rowS) (fun q hq=>by rw[ar.1 hq];exact(H.ent (i:=4) Z)) hsl) Z Z ?_
 rintro _ w3 ⟨rfl,hb⟩;replace H:=H.later hb;clear hb
 rw[hix]
 refine G (Wp Z)<|U<|W<|Zb<|W<|Zr<|G (Yp Z)<|G (vY iV Z)<|G (Yb Z)<|ZG<|G (Yp Z)<|ZG<|G (Zf fe Z)<|ZG<|G (Zd al H 1 Z Z Z)<|ZG<|cz d5 (oh bb ⟨ps,some ⟨gP,0,none⟩,pC,co,clo,chi,gr,glo,ghi,sns,some ⟨gS,0,none⟩,snC⟩ a.part _ (H.ent (i:=2) Z)) Z Z ?_
 rintro _ w4 ⟨rfl,hb⟩;replace H:=H.later hb;clear hb
 rw[decide_eq_true hpn]
 refine ZG<|G (d7 Z)<|G (N Z Z)<|G (Wb Z)<|U<|ZF Z<|W<|Zr<|G (Zf kz Z)<|G (Zd al H 1 Z Z Z)<|G (dn Z Z I)<|G (Yb Z)<|ZG<|G (Zf kz Z)<|ZG<|G (Zd al H 1 Z Z Z)<|ZG<|G (eu Z Z I)<|G (N Z Z)<|G (Wb Z)<|U<|ZF Z<|W ?_
 refine bP cD [0,1,2,3,4,5,6,7,8,9,10,11,12,13] [] [] [0,1,2,3,4,6,8,9,11,12,13] (sp []) N N N N Nq (cO _) ?_
 refine aw Z Z Z Z Z (fun w' hw'=>Yb Z)<|aw Z Z Z Z Z (fun w' hw'=>Yb Z)<|aw Z Z Z Z Z (fun w' hw'=>Yp Z)<|aw Z Z Z Z Z (fun w' hw'=>aI Z)<|aw Z Z Z Z Z (fun w' hw'=>Zf l8 Z)<|aw Z Z Z Z Z (fun w' hw'=>bX ny rowS hx 5 Z ((H.later hw').ent (i:=4) Z) hl5)<|aw Z Z Z Z Z (fun w' hw'=>Zf fe Z)<|aw Z Z Z Z Z (fun w' hw'=>bf al Z (aJ ((H.later hw').ent (i:=1) Z) Z))<|aw Z Z Z Z Z (fun w' hw'=>cQ (k:=n) dV Z (congrArg (Value.int .i64) hna) (by first|omega|(simp only[ae];omega)))<|aw Z Z Z Z Z (fun w' hw'=>Zf fc Z)<|aw Z Z Z Z Z (fun w' hw'=>bX al rowl he 4 Z ((H.later hw').ent (i:=6) Z) Z) ?_
 refine Cv Z Z Z Z Z (fun w' hw'=>br Z Z) (fun h45=> ?_) (fun h45=> ?_)
 ·
  refine aw Z Z Z Z Z (fun w' hw'=>Kt Z Z)<|aw Z Z Z Z Z (fun w' hw'=>Wb Z)<|aU ?_
  intro w5 hw' hF
  replace H:=H.later hw';clear hw' hF
  refine U<|ZT Z<|W<|Zr<|cz bJ (dQ 15 _) Z Z ?_
  rintro _ w6 ⟨rfl,hb⟩;replace H:=H.later hb;clear hb
  refine bC H 0 (#[J (15),J (0),.slice none 0 0]) aN Z Z Z Z Z N N fun w7 H=>U<|Zt ?_
  rw[<-htn]at he
  exact eQ (cs0:= #[J (15),J (0),.slice none 0 0]) Z aK Z (H.ent (i:=0) Z) Z ⟨⟨ps,some ⟨gP,0,none⟩,pC,co,clo,chi,gr,glo,ghi,sns.set i x,some ⟨gS,0,none⟩,snC⟩,by rw[z6 hix hx he h45];exact oY.plain _ _ _,by rw[z6 hix hx he h45,fb hx],Bw.close (X:=[(b6,_),(b4,_)]) row (by rw[fb hx];exact rowS) hset hsA hlA rowq rowl hco hgr hps (fun _ h=>h) H (by rw[fb hx];rfl)⟩
 ·
  refine aw Z Z Z Z Z (fun w' hw'=>Kt Z Z)<|aw Z Z Z Z Z (fun w' hw'=>Wb Z)<|aU ?_
  intro w8 hw' hF
  replace H:=H.later hw';clear hw' hF
  refine U<|ZF Z<|W<|Zr<|G (Yb Z)<|G (d7 Z)<|G (Yb Z)<|ZN<|ZN<|ZN<|ZN<|G (N Z Z)<|G (Wb Z)<|U<|ZF Z<|Zk<|W<|W<|Zr<|G (Yb Z)<|G (d7 Z)<|U<|ZF Z<|Zk<|W<|W<|Zr<|G (Zf kz Z)<|G (Zd al H 1 Z Z Z) ?_
  refine dq (br Z Z) Z Z Z (fun h102=> ?_) (fun h102=> ?_)
  ·
   refine U<|ZT Z<|W<|Zr<|cz bJ (dQ 14 _) Z Z ?_
   rintro _ w9 ⟨rfl,hb⟩;replace H:=H.later hb;clear hb
   refine bC H 0 (#[J (14),J (0),.slice none 0 0]) aN Z Z Z Z Z N N fun w10 H=>U<|Zt ?_
   exact eQ (cs0:= #[J (14),J (0),.slice none 0 0]) Z aK Z (H.ent (i:=0) Z) Z ⟨⟨ps,some ⟨gP,0,none⟩,pC,co,clo,chi,gr,glo,ghi,sns.set i x,some ⟨gS,0,none⟩,snC⟩,by rw[oe hix hx (fun _=>⟨e,by rw[htn];exact he,h45⟩) x Z,if_pos h102];exact oY.plain _ _ _,by rw[oe hix hx (fun _=>⟨e,by rw[htn];exact he,h45⟩) x Z,if_pos h102];rfl,Bw.close (X:=[(b6,_),(b4,_)]) row rS2 hset hsA hlA rowq rowl hco hgr hps (fun _ h=>h) H (by simp only[Bk.c,ae])⟩
  ·
   refine U<|ZF Z<|Zk<|W ?_
   refine u6 cD (fun w'=>w'.heap[b4]? =some (.cells #[J (a.kind),.string (a.name),J (a.part),J (a.n),J (a.m),.string (a.text),J (a.lost)] jf (0,0))) ?_
   intro w11 hw';replace H:=H.later hw';clear hw'
   refine cI 0 N N N Z Z Z Z Nq (H.ent (i:=1) Z) (fun _ hS=>js dU Z hS Z)<|cI 1 N N N Z Z Z Z Nq (H.ent (i:=1) Z) (fun _ hS=>Yp Z)<|cI 2 N N N Z Z Z Z Nq (H.ent (i:=1) Z) (fun _ hS=>Yp Z)<|cI 3 N N N Z Z Z Z Nq (H.ent (i:=1) Z) (fun _ hS=>Zf fe Z)<|cI 4 N N N Z Z Z Z Nq (H.ent (i:=1) Z) (fun _ hS=>bf al Z (aJ hS Z))<|Ku 5 N Z ?_
   refine cz lu ((by have hA:=Bm (i:=i) (n:=n) (k:=k) (sns:=sns.set i x) (x:=x) (by simp only[ae];exact H.perm ((ah _ (ah _ (ah _ (ah _ (ak _ _ _))))).trans ((ah _ (ah _ (ah _ (ak _ _ _)))).trans ((ah _ (ah _ (ak _ _ _))).trans ((ah _ (ak _ _ _)).trans ((ak _ _ _).trans ((ah _ (ah _ (ah _ (ah _ (ah _ (ak _ _ _)))))).trans ((ah _ (ah _ (ah _ (ah _ (ak _ _ _))))).trans ((ah _ (ah _ (ah _ (ak _ _ _)))).trans ((ah _ (ah _ (ak _ _ _))).trans (ah _ (ak _ _ _)))))))))))) row rS2 rowl (am (cu hx).1) hlA hco hps I I I hnm hcb hpk;rw[<-hna]at hA;exact hA)) Z Z ?_
   rintro _ w12 ⟨ps',uP',co',clo',chi',F',hAn,hW,row',hlen',hco',hps',hF',H⟩
   replace H:=H.perm ((ah _ (ak _ _ _)).trans ((ak _ _ _).trans ((ah _ (ah _ (ak _ _ _))).trans ((ah _ (ak _ _ _)).trans ((ah _ (ah _ (ah _ (ak _ _ _)))).trans ((ah _ (ah _ (ak _ _ _))).trans ((ah _ (ah _ (ah _ (ah _ (ak _ _ _))))).trans ((ah _ (ah _ (ah _ (ak _ _ _)))).trans ((ah _ (ah _ (ah _ (ah _ (ah _ (ak _ _ _)))))).trans (ah _ (ah _ (ah _ (ah _ (ak _ _ _))))))))))))))
   obtain⟨A1,c1,rfl⟩:=hAn.p (kB ..)
   refine U ?_
   refine⟨(H.ent (i:=1) Z),?_⟩
   refine Ku 6 N Z<|cz kF (DB a (dL (Wa.mk (ps.map fun q=>q.p.a) co.a gr.a ((sns.set i x).map Sn.a)) x.a n).2.code (dL (Wa.mk (ps.map fun q=>q.p.a) co.a gr.a ((sns.set i x).map Sn.a)) x.a n).2.n A1 0 c1 _) Z Z ?_
   rintro _ w13 ⟨ht,hb⟩;replace H:=H.later hb;clear hb
   obtain⟨A2,c2,rfl⟩:=KG ht
   refine U ?_
   refine⟨(H.ent (i:=1) Z),?_⟩
   refine Ku 7 N Z<|bC H 0 (#[J ((fJ a (dL (Wa.mk (ps.map fun q=>q.p.a) co.a gr.a ((sns.set i x).map Sn.a)) x.a n).2).code),J ((fJ a (dL (Wa.mk (ps.map fun q=>q.p.a) co.a gr.a ((sns.set i x).map Sn.a)) x.a n).2).n),.slice A2 0 c2]) aN Z Z Z Z Z N N fun w14 H=>U ?_
   refine⟨(H.ent (i:=1) Z),?_⟩
   refine xJ N<|Zt ?_
   exact eQ (cs0:= #[J ((fJ a (dL (Wa.mk (ps.map fun q=>q.p.a) co.a gr.a ((sns.set i x).map Sn.a)) x.a n).2).code),J ((fJ a (dL (Wa.mk (ps.map fun q=>q.p.a) co.a gr.a ((sns.set i x).map Sn.a)) x.a n).2).n),.slice A2 0 c2]) Z aK Z (H.ent (i:=0) Z) Z ⟨⟨ps',some ⟨gP,0,none⟩,pC,co',clo',chi',gr,glo,ghi,sns.set i x,some ⟨gS,0,none⟩,snC⟩,by rw[oe hix hx (fun _=>⟨e,by rw[htn];exact he,h45⟩) x Z,if_neg h102,htn];exact oY.of (lD _ (kB ..)),by rw[oe hix hx (fun _=>⟨e,by rw[htn];exact he,h45⟩) x Z,if_neg h102,htn];exact hW.symm,Bw.close (X:=[(b6,_),(b4,_)]) row' rS2 hset hsA hlA rowq rowl hco' (hF' _ hgr) hps' hF' H (by simp only[Bk.c,ae])⟩
theorem K6 {w0 w:World} {bb:Nat} {b:Bk} {gP:Nat} {uP:Array Value} {Ls Lo K:List (Nat×Obj)} {F:List cf} (a:Act) (B:Bw w0 w bb b gP uP Ls Lo K F) (hsl:b.sns.length<=1000000) {k i:Nat} {x:Sn} (hix:eK b.sns a.name=some i) (hx:b.sns[i]? =some x) (hpn:0<=a.part/\a.part<b.ps.length) (hlo:0<=a.lost/\a.lost<=2) (hll:x.last.length=b.ps.length) (hsq:x.seqs.length=b.ps.length) (h4:b.ps.length<=4) (hnm:bo x.name=true) (hcb:oW k b.co) (hpk: ∀ q∈b.ps,q.p.a.ok/\ ∀ (l:Nat) (y:f5),q.p.leader=l->q.p.reps[l]? =some y->y.es.length<400) (htx:a.text.size<=40) (hsb: ∀ q∈x.seqs,0<=q/\q<=400):dt aa iZ [.pointer (Qd bb),a.v,.bool false] w fun v w2=> ∃ b':Bk,oY (gY b.a a false).2 v w2/\b'.a=(gY b.a a false).1/\xF w0 w2 bb b' K F:=by
 refine aG jV Z Z ?_
 obtain⟨ps,pA,pC,co,clo,chi,gr,glo,ghi,sns,snA,snC⟩:=b
 obtain⟨hpA,row,hsn,hown,hco,hgr,hps,H⟩:=B
 dsimp only at hpA row hsn hown hco hgr hps
 subst hpA
 dsimp only at hix hx
 obtain⟨gS,uS,hgS,hLs,rowS⟩:=hsn.row (by have:=(cu hx).1;omega)
 subst hgS;subst hLs
 obtain⟨gq,uq,gl,ul,La,Lb,hsA,hlA,rowq,rowl,hLo,hset⟩:=hown.at_ hx
 subst hLo
 replace H:Hp w0 w ((bb,.cells #[.slice (Qd gP) ps.length pC,J (co.clock),J (co.next),J (co.wait),.slice co.A co.txs.length co.cap,J (gr.clock),J (gr.wait),J (gr.gen),.slice gr.mA gr.ms.length gr.mC,.slice gr.oA gr.os.length gr.oC,.slice (Qd gS) sns.length snC] bF (0,0))::(gP,.cells uP bK (0,0))::(gS,.cells uS fF (0,0))::(gq,.cells uq da (0,0))::(gl,.cells ul dz (0,0))::(La++(Lb++K))) F:=H.perm (C9 [(bb,_),(gP,_),(gS,_)] _ _ La Lb K)
 dsimp only at hsl hpn hll hsq h4 hcb hpk
 obtain⟨n,hna⟩: ∃ n:Nat,a.part=(n:Int):=⟨a.part.toNat,by omega⟩
 have htn:a.part.toNat=n:=by omega
 have hl5:(zV.f x)[5]? =some (.slice (some ⟨gl,0,none⟩) x.last.length x.lC):=by rw[<-hlA];rfl
 have hl4:(zV.f x)[4]? =some (.slice (some ⟨gq,0,none⟩) x.seqs.length x.sC):=by rw[<-hsA];rfl
 obtain⟨e,he⟩: ∃ e,x.last[n]? =some e:=⟨_,ai I⟩
 obtain⟨q,hq0⟩: ∃ q,x.seqs[n]? =some q:=⟨_,ai I⟩
 have hqb:=hsb q (ab hq0)
 show CW _ _ _ _ (args [.pointer (Qd bb),.agg #[J (a.kind),.string (a.name),J (a.part),J (a.n),J (a.m),.string (a.text),J (a.lost)],.bool false]) w
 refine W<|Zr<|gM H Z Z fun w1 b4 H=>fg H du Z fun w2 b6 H=>U<|W<|Zr<|G (Yp Z)<|G (Zf fl Z)<|G (Zd aZ H 1 Z Z Z)<|cz dD (jx bb ⟨ps,some ⟨gP,0,none⟩,pC,co,clo,chi,gr,glo,ghi,sns,some ⟨gS,0,none⟩,snC⟩ (a.name) _ _ (H.ent (i:=2) Z) (d3.own rowS) (fun q hq=>by rw[ar.1 hq];exact(H.ent (i:=4) Z)) hsl) Z Z ?_
 rintro _ w3 ⟨rfl,hb⟩;replace H:=H.later hb;clear hb
 rw[hix]
 refine G (Wp Z)<|U<|W<|Zb<|W<|Zr<|G (Yp Z)<|G (vY iV Z)<|G (Yb Z)<|ZG<|G (Yp Z)<|ZG<|G (Zf fe Z)<|ZG<|G (Zd al H 1 Z Z Z)<|ZG<|cz d5 (oh bb ⟨ps,some ⟨gP,0,none⟩,pC,co,clo,chi,gr,glo,ghi,sns,some ⟨gS,0,none⟩,snC⟩ a.part _ (H.ent (i:=2) Z)) Z Z ?_
 rintro _ w4 ⟨rfl,hb⟩;replace H:=H.later hb;clear hb
 rw[decide_eq_true hpn]
 refine ZG<|G (d7 Z)<|G (N Z Z)<|G (Wb Z)<|U<|ZF Z<|W<|Zr<|G (Zf kz Z)<|G (Zd al H 1 Z Z Z)<|G (dn Z Z I)<|G (Yb Z)<|ZG<|G (Zf kz Z)<|ZG<|G (Zd al H 1 Z Z Z)<|ZG<|G (eu Z Z I)<|G (N Z Z)<|G (Wb Z)<|U<|ZF Z<|W ?_
 refine bP cD [0,1,2,3,4,5,6,7,8,9,10,11,12,13] [] [] [0,1,2,3,4,6,8,9,11,12,13] (sp []) N N N N Nq (cO _) ?_
 refine aw Z Z Z Z Z (fun w' hw'=>Yb Z)<|aw Z Z Z Z Z (fun w' hw'=>Yb Z)<|eU Z Z Z Z<|eU Z Z Z Z<|eU Z Z Z Z<|eU Z Z Z Z<|eU Z Z Z Z<|eU Z Z Z Z<|eU Z Z Z Z<|eU Z Z Z Z<|eU Z Z Z Z<|eU Z Z Z Z<|aw Z Z Z Z Z (fun w' hw'=>N Z Z)<|aw Z Z Z Z Z (fun w' hw'=>Wb Z)<|aU ?_
 intro w5 hw' hF
 replace H:=H.later hw';clear hw' hF
 refine U<|ZF Z<|W<|Zr<|G (Yb Z)<|G (d7 Z)<|G (Yb Z)<|ZG<|G (Zf FX Z)<|ZG<|G (Zd aZ H 1 Z Z Z)<|ZG<|G (Hf j9 Z)<|ZG<|G (eu Z Z I)<|G (Kt Z Z)<|G (Wb Z)<|U<|ZF Z<|Zk<|W<|W<|Zr<|G (Yb Z)<|G (d7 Z)<|U<|ZT Z<|W ?_
 refine bP cD [0,1,2,3,4,5,6,7,8,9,10,11,12,13,14,15,16,17,18,19,20,21,22,23,24,25,26,27,28,29] [30] [] [0,1,2,4,6,7,8,10,11,12,14,15,16,18,20,22,23,24,26,28,29] (sp []) N N N N Nq (cO _) ?_
 refine aw Z Z Z Z Z (fun w' hw'=>Yp Z)<|aw Z Z Z Z Z (fun w' hw'=>aI Z)<|aw Z Z Z Z Z (fun w' hw'=>Zf l8 Z)<|aw Z Z Z Z Z (fun w' hw'=>bX ny rowS hx 5 Z ((H.later hw').ent (i:=4) Z) hl5)<|aw Z Z Z Z Z (fun w' hw'=>Zf fe Z)<|aw Z Z Z Z Z (fun w' hw'=>bf al Z (aJ ((H.later hw').ent (i:=1) Z) Z))<|aw Z Z Z Z Z (fun w' hw'=>Yp Z)<|aw Z Z Z Z Z (fun w' hw'=>aI Z)<|aw Z Z Z Z Z (fun w' hw'=>Zf FW Z)<|aw Z Z Z Z Z (fun w' hw'=>bX al rowS hx 1 Z ((H.later hw').ent (i:=4) Z) Z)<|aw Z Z Z Z Z (fun w' hw'=>Yp Z)<|aw Z Z Z Z Z (fun w' hw'=>aI Z)<|aw Z Z Z Z Z (fun w' hw'=>Zf um Z)<|aw Z Z Z Z Z (fun w' hw'=>bX al rowS hx 2 Z ((H.later hw').ent (i:=4) Z) Z)<|aw Z Z Z Z Z (fun w' hw'=>Yp Z)<|aw Z Z Z Z Z (fun w' hw'=>aI Z)<|aw Z Z Z Z Z (fun w' hw'=>Zf yX Z)<|aw Z Z Z Z Z (fun w' hw'=>bX cC rowS hx 4 Z ((H.later hw').ent (i:=4) Z) hl4)<|aw Z Z Z Z Z (fun w' hw'=>Zf fe Z)<|aw Z Z Z Z Z (fun w' hw'=>bf al Z (aJ ((H.later hw').ent (i:=1) Z) Z))<|aw Z Z Z Z Z (fun w' hw'=>cQ (k:=n) bd Z (congrArg (Value.int .i64) hna) (by first|omega|(simp only[ae];omega)))<|aw Z Z Z Z Z (fun w' hw'=>bX al rowq hq0 0 Z ((H.later hw').ent (i:=5) Z) Z)<|aw Z Z Z Z Z (fun w' hw'=>Yp Z)<|aw Z Z Z Z Z (fun w' hw'=>aI Z)<|aw Z Z Z Z Z (fun w' hw'=>Zf oD Z)<|aw Z Z Z Z Z (fun w' hw'=>bX eL rowS hx 3 Z ((H.later hw').ent (i:=4) Z) Z)<|aw Z Z Z Z Z (fun w' hw'=>Zf FX Z)<|aw Z Z Z Z Z (fun w' hw'=>bf aZ Z (aJ ((H.later hw').ent (i:=1) Z) Z))<|aw Z Z Z Z Z (fun w' hw'=>bE (cs:= #[J (0),J (x.pid),J (x.ver),J (q),J (1),.bool (x.inn),.string (a.text)]) ob gp N)<|aw Z Z Z Z Z (fun w' hw'=>cQ (k:=n) dV Z (congrArg (Value.int .i64) hna) (by first|omega|(simp only[ae];omega)))<|aU ?_
 intro w6 hw' hF
 replace H:=H.later hw';clear hw' hF
 refine m5 H 6 (⟨0,x.pid,x.ver,q,1,x.inn,a.text⟩) eV rowl he 0 Z Z Z Z Z Z N fun w8 cur7 row7 H=> ?_
 have hs9:(x.last.set n (⟨0,x.pid,x.ver,q,1,x.inn,a.text⟩))[n]? =some (⟨0,x.pid,x.ver,q,1,x.inn,a.text⟩):=am (cu he).1
 refine U ?_
 refine bP cD [0,1,2,3,4,5,6,7,8,9] [10] [] [0,1,2,4,6,8,9] (sp []) N N N N Nq (cO _) ?_
 refine aw Z Z Z Z Z (fun w' hw'=>Yp Z)<|aw Z Z Z Z Z (fun w' hw'=>aI Z)<|aw Z Z Z Z Z (fun w' hw'=>Zf yX Z)<|aw Z Z Z Z Z (fun w' hw'=>bX cC rowS hx 4 Z ((H.later hw').ent (i:=4) Z) hl4)<|aw Z Z Z Z Z (fun w' hw'=>Zf fe Z)<|aw Z Z Z Z Z (fun w' hw'=>bf al Z (aJ ((H.later hw').ent (i:=1) Z) Z))<|aw Z Z Z Z Z (fun w' hw'=>cQ (k:=n) bd Z (congrArg (Value.int .i64) hna) (by first|omega|(simp only[ae];omega)))<|aw Z Z Z Z Z (fun w' hw'=>bX al rowq hq0 0 Z ((H.later hw').ent (i:=5) Z) Z)<|aw Z Z Z Z Z (fun w' hw'=>bn Z Z I I)<|aw Z Z Z Z Z (fun w' hw'=>cQ (k:=n) bd Z (congrArg (Value.int .i64) hna) (by first|omega|(simp only[ae];omega)))<|aU ?_
 intro w10 hw' hF
 replace H:=H.later hw';clear hw' hF
 refine m5 H 5 ((q+1)) bV rowq hq0 0 Z Z Z Z Z Z N fun w12 cur11 row11 H=> ?_
 have hs13:(x.seqs.set n ((q+1)))[n]? =some ((q+1)):=am (cu hq0).1
 refine U<|W<|W ?_
 obtain⟨x1,hx1⟩: ∃ x1:Sn,{x with last:=x.last.set n ⟨0,x.pid,x.ver,q,1,x.inn,a.text⟩,seqs:=x.seqs.set n (q+1)}=x1:=⟨_,rfl⟩
 have hsA1:x1.sA=some ⟨gq,0,none⟩:=by rw[<-hx1];exact hsA
 have hlA1:x1.lA=some ⟨gl,0,none⟩:=by rw[<-hx1];exact hlA
 have rowq1:d3 bN x1.seqs x1.sC cur11:=by rw[<-hx1];exact row11
 have rowl1:d3 gV x1.last x1.lC cur7:=by rw[<-hx1];exact row7
 have rowS1:d3 zV (sns.set i x1) snC uS:=d3.same rowS hx (by rw[<-hx1];simp only[zV,Sn.c,ae])
 have hll1:x1.last.length=ps.length:=by rw[<-hx1];simp only[ae];exact hll
 have hnm1:bo x1.name=true:=by rw[<-hx1];exact hnm
 refine Zr<|G (Zf kz Z)<|G (Zd al H 1 Z Z Z) ?_
 refine dq (br Z Z) Z Z Z (fun h102=> ?_) (fun h102=> ?_)
 ·
  refine U<|ZT Z<|W<|Zr<|cz bJ (dQ 14 _) Z Z ?_
  rintro _ w14 ⟨rfl,hb⟩;replace H:=H.later hb;clear hb
  refine bC H 0 (#[J (14),J (0),.slice none 0 0]) aN Z Z Z Z Z N N fun w15 H=>U<|Zt ?_
  exact eQ (cs0:= #[J (14),J (0),.slice none 0 0]) Z aK Z (H.ent (i:=0) Z) Z ⟨⟨ps,some ⟨gP,0,none⟩,pC,co,clo,chi,gr,glo,ghi,sns.set i x1,some ⟨gS,0,none⟩,snC⟩,by rw[oe hix hx (fun h=>by cases h) x1 (by rw[htn];exact(uR hq0 _).trans hx1),if_pos h102];exact oY.plain _ _ _,by rw[oe hix hx (fun h=>by cases h) x1 (by rw[htn];exact(uR hq0 _).trans hx1),if_pos h102];rfl,Bw.close (X:=[(b6,_),(b4,_)]) row rowS1 hset hsA1 hlA1 rowq1 rowl1 hco hgr hps (fun _ h=>h) H (by simp only[Bk.c,ae])⟩
 ·
  refine U<|ZF Z<|Zk<|W ?_
  refine u6 cD (fun w'=>w'.heap[b4]? =some (.cells #[J (a.kind),.string (a.name),J (a.part),J (a.n),J (a.m),.string (a.text),J (a.lost)] jf (0,0))) ?_
  intro w16 hw';replace H:=H.later hw';clear hw'
  refine cI 0 N N N Z Z Z Z Nq (H.ent (i:=1) Z) (fun _ hS=>js dU Z hS Z)<|cI 1 N N N Z Z Z Z Nq (H.ent (i:=1) Z) (fun _ hS=>Yp Z)<|cI 2 N N N Z Z Z Z Nq (H.ent (i:=1) Z) (fun _ hS=>Yp Z)<|cI 3 N N N Z Z Z Z Nq (H.ent (i:=1) Z) (fun _ hS=>Zf fe Z)<|cI 4 N N N Z Z Z Z Nq (H.ent (i:=1) Z) (fun _ hS=>bf al Z (aJ hS Z))<|Ku 5 N Z ?_
  refine cz lu ((by have hA:=Bm (i:=i) (n:=n) (k:=k) (sns:=sns.set i x1) (x:=x1) (by simp only[ae];exact H.perm ((ah _ (ah _ (ah _ (ah _ (ak _ _ _))))).trans ((ah _ (ah _ (ah _ (ak _ _ _)))).trans ((ah _ (ah _ (ak _ _ _))).trans ((ah _ (ak _ _ _)).trans ((ak _ _ _).trans ((ah _ (ah _ (ah _ (ah _ (ah _ (ak _ _ _)))))).trans ((ah _ (ah _ (ah _ (ah _ (ak _ _ _))))).trans ((ah _ (ah _ (ah _ (ak _ _ _)))).trans ((ah _ (ah _ (ak _ _ _))).trans (ah _ (ak _ _ _)))))))))))) row rowS1 rowl1 (am (cu hx).1) hlA1 hco hps I I I hnm1 hcb hpk;rw[<-hna]at hA;exact hA)) Z Z ?_
  rintro _ w17 ⟨ps',uP',co',clo',chi',F',hAn,hW,row',hlen',hco',hps',hF',H⟩
  replace H:=H.perm ((ah _ (ak _ _ _)).trans ((ak _ _ _).trans ((ah _ (ah _ (ak _ _ _))).trans ((ah _ (ak _ _ _)).trans ((ah _ (ah _ (ah _ (ak _ _ _)))).trans ((ah _ (ah _ (ak _ _ _))).trans ((ah _ (ah _ (ah _ (ah _ (ak _ _ _))))).trans ((ah _ (ah _ (ah _ (ak _ _ _)))).trans ((ah _ (ah _ (ah _ (ah _ (ah _ (ak _ _ _)))))).trans (ah _ (ah _ (ah _ (ah _ (ak _ _ _))))))))))))))
  obtain⟨A1,c1,rfl⟩:=hAn.p (kB ..)
  refine U ?_
  refine⟨(H.ent (i:=1) Z),?_⟩
  refine Ku 6 N Z<|cz kF (DB a (dL (Wa.mk (ps.map fun q=>q.p.a) co.a gr.a ((sns.set i x1).map Sn.a)) x1.a n).2.code (dL (Wa.mk (ps.map fun q=>q.p.a) co.a gr.a ((sns.set i x1).map Sn.a)) x1.a n).2.n A1 0 c1 _) Z Z ?_
  rintro _ w18 ⟨ht,hb⟩;replace H:=H.later hb;clear hb
  obtain⟨A2,c2,rfl⟩:=KG ht
  refine U ?_
  refine⟨(H.ent (i:=1) Z),?_⟩
  refine Ku 7 N Z<|bC H 0 (#[J ((fJ a (dL (Wa.mk (ps.map fun q=>q.p.a) co.a gr.a ((sns.set i x1).map Sn.a)) x1.a n).2).code),J ((fJ a (dL (Wa.mk (ps.map fun q=>q.p.a) co.a gr.a ((sns.set i x1).map Sn.a)) x1.a n).2).n),.slice A2 0 c2]) aN Z Z Z Z Z N N fun w19 H=>U ?_
  refine⟨(H.ent (i:=1) Z),?_⟩
  refine xJ N<|Zt ?_
  exact eQ (cs0:= #[J ((fJ a (dL (Wa.mk (ps.map fun q=>q.p.a) co.a gr.a ((sns.set i x1).map Sn.a)) x1.a n).2).code),J ((fJ a (dL (Wa.mk (ps.map fun q=>q.p.a) co.a gr.a ((sns.set i x1).map Sn.a)) x1.a n).2).n),.slice A2 0 c2]) Z aK Z (H.ent (i:=0) Z) Z ⟨⟨ps',some ⟨gP,0,none⟩,pC,co',clo',chi',gr,glo,ghi,sns.set i x1,some ⟨gS,0,none⟩,snC⟩,by rw[oe hix hx (fun h=>by cases h) x1 (by rw[htn];exact(uR hq0 _).trans hx1),if_neg h102,htn];exact oY.of (lD _ (kB ..)),by rw[oe hix hx (fun h=>by cases h) x1 (by rw[htn];exact(uR hq0 _).trans hx1),if_neg h102,htn];exact hW.symm,Bw.close (X:=[(b6,_),(b4,_)]) row' rowS1 hset hsA1 hlA1 rowq1 rowl1 hco' (hF' _ hgr) hps' hF' H (by simp only[Bk.c,ae])⟩
theorem xj {b:Bk} {a:Act} (hix:eK b.sns a.name=none):jC b.a a=(b.a,⟨5,0,[]⟩):=by
 unfold jC
 rw[show b.a.sns=b.sns.map Sn.a from rfl,DI hix]
 rfl
theorem ja {b:Bk} {a:Act} {i:Nat} {x:Sn} (hix:eK b.sns a.name=some i) (hx:b.sns[i]? =some x):jC b.a a=if x.inn=false then lF b.a 12 else if a.lost=1 then lF b.a 14 else
  if(jp b.co.a x.name x.ver (decide (a.n=1))).2=0 then({b.a with co:=(jp b.co.a x.name x.ver (decide (a.n=1))).1,sns:=if a.lost=0 then(b.sns.set i (tc x)).map Sn.a else b.sns.map Sn.a},fJ a ⟨0,0,[]⟩)else(b.a,fJ a ⟨(jp b.co.a x.name x.ver (decide (a.n=1))).2,0,[]⟩):=by
 unfold jC
 rw[show b.a.sns=b.sns.map Sn.a from rfl,wK hix hx,cT]
 rfl
def zT (e:cv):cv:=if e.txn then jJ else e
theorem J5 (x:Sn):tc x={x with inn:=false,last:=x.last.map zT}:=rfl
theorem KB {l:List cv} {i:Nat} {e:cv} (he:l[i]? =some e):((l.take i).map zT++l.drop i).set i (zT e)=(l.take (i+1)).map zT++l.drop (i+1):=by
 have hi:=(cu he).1
 have h1:((l.take i).map zT).length=i:=by simp;omega
 rw[jj _ _ I,h1,mp,dY he,bh,aB]
 congr 1
 rw[m0 hi]
 rfl
theorem Dv {l:List cv} {i:Nat} {e:cv} (he:l[i]? =some e):((l.take i).map zT++l.drop i)[i]? =some e:=by
 have hi:=(cu he).1
 rw[cj (by simp;omega)]
 simp only[bl,aF,bB (mq hi),mp]
 rw[dk]
 exact he
theorem FT {w0 w:World} {bb:Nat} {b:Bk} {gP:Nat} {uP:Array Value} {Ls Lo K:List (Nat×Obj)} {F:List cf} (a:Act) (B:Bw w0 w bb b gP uP Ls Lo K F) (hsl:b.sns.length<=1000000) (hix:eK b.sns a.name=none):dt aa jB [.pointer (Qd bb),a.v] w fun v w2=> ∃ b':Bk,oY (jC b.a a).2 v w2/\b'.a=(jC b.a a).1/\xF w0 w2 bb b' K F:=by
 refine aG l6 Z Z ?_
 obtain⟨ps,pA,pC,co,clo,chi,gr,glo,ghi,sns,snA,snC⟩:=b
 obtain⟨hpA,row,hsn,hown,hco,hgr,hps,H⟩:=B
 dsimp only at hpA row hsn hown hco hgr hps
 subst hpA
 replace H:Hp w0 w ((bb,.cells #[.slice (Qd gP) ps.length pC,J (co.clock),J (co.next),J (co.wait),.slice co.A co.txs.length co.cap,J (gr.clock),J (gr.wait),J (gr.gen),.slice gr.mA gr.ms.length gr.mC,.slice gr.oA gr.os.length gr.oC,.slice snA sns.length snC] bF (0,0))::(gP,.cells uP bK (0,0))::(Ls++(Lo++K))) F:=H
 dsimp only at hix hsl
 show CW _ _ _ _ (args [.pointer (Qd bb),.agg #[J (a.kind),.string (a.name),J (a.part),J (a.n),J (a.m),.string (a.text),J (a.lost)]]) w
 refine W<|Zr<|gM H Z Z fun w1 b3 H=>fg H du Z fun w2 b4 H=>U<|W<|Zr<|G (Yp Z)<|G (Zf fl Z)<|G (Zd aZ H 1 Z Z Z)<|cz dD (jx bb ⟨ps,some ⟨gP,0,none⟩,pC,co,clo,chi,gr,glo,ghi,sns,snA,snC⟩ (a.name) Ls _ (H.ent (i:=2) Z) hsn (fun q hq=>(H.ents q (by simp only[av,aq];grind)).1) hsl) Z Z ?_
 rintro _ w3 ⟨rfl,hb⟩;replace H:=H.later hb;clear hb
 rw[hix]
 refine G (Wp Z)<|U<|W<|Zb<|W<|Zr<|G (Yp Z)<|G (xS iV Z)<|G (Wb Z)<|U<|ZT Z<|W<|Zr<|cz bJ (dQ 5 _) Z Z ?_
 rintro _ w4 ⟨rfl,hb⟩;replace H:=H.later hb;clear hb
 refine bC H 0 (#[J (5),J (0),.slice none 0 0]) aN Z Z Z Z Z N N fun w5 H=>U<|Zt ?_
 exact eQ (cs0:= #[J (5),J (0),.slice none 0 0]) Z aK Z (H.ent (i:=0) Z) Z ⟨⟨ps,some ⟨gP,0,none⟩,pC,co,clo,chi,gr,glo,ghi,sns,snA,snC⟩,by rw[xj hix];exact oY.plain _ _ _,by rw[xj hix],Bw.shut (X:=[(b4,_),(b3,_)]) row hsn hown hco hgr hps (fun _ h=>h) H Z⟩
theorem FS {w0 w:World} {bb:Nat} {b:Bk} {gP:Nat} {uP:Array Value} {Ls Lo K:List (Nat×Obj)} {F:List cf} (a:Act) (B:Bw w0 w bb b gP uP Ls Lo K F) (hsl:b.sns.length<=1000000) {k i:Nat} {x:Sn} (hix:eK b.sns a.name=some i) (hx:b.sns[i]? =some x) (hlo:0<=a.lost/\a.lost<=2) (hn1:0<=a.n/\a.n<=1) (hll:x.last.length<=4) (hnm:bo x.name=true) (hcb:oW k b.co):dt aa jB [.pointer (Qd bb),a.v] w fun v w2=> ∃ b':Bk,oY (jC b.a a).2 v w2/\b'.a=(jC b.a a).1/\xF w0 w2 bb b' K F:=by
 refine aG l6 Z Z ?_
 obtain⟨ps,pA,pC,co,clo,chi,gr,glo,ghi,sns,snA,snC⟩:=b
 obtain⟨hpA,row,hsn,hown,hco,hgr,hps,H⟩:=B
 dsimp only at hpA row hsn hown hco hgr hps
 subst hpA
 dsimp only at hix hx
 obtain⟨gS,uS,hgS,hLs,rowS⟩:=hsn.row (by have:=(cu hx).1;omega)
 subst hgS;subst hLs
 obtain⟨gq,uq,gl,ul,La,Lb,hsA,hlA,rowq,rowl,hLo,hset⟩:=hown.at_ hx
 subst hLo
 replace H:Hp w0 w ((bb,.cells #[.slice (Qd gP) ps.length pC,J (co.clock),J (co.next),J (co.wait),.slice co.A co.txs.length co.cap,J (gr.clock),J (gr.wait),J (gr.gen),.slice gr.mA gr.ms.length gr.mC,.slice gr.oA gr.os.length gr.oC,.slice (Qd gS) sns.length snC] bF (0,0))::(gP,.cells uP bK (0,0))::(gS,.cells uS fF (0,0))::(gq,.cells uq da (0,0))::(gl,.cells ul dz (0,0))::(La++(Lb++K))) F:=H.perm (C9 [(bb,_),(gP,_),(gS,_)] _ _ La Lb K)
 dsimp only at hsl hcb
 have hl5:(zV.f x)[5]? =some (.slice (some ⟨gl,0,none⟩) x.last.length x.lC):=by rw[<-hlA];rfl
 show CW _ _ _ _ (args [.pointer (Qd bb),.agg #[J (a.kind),.string (a.name),J (a.part),J (a.n),J (a.m),.string (a.text),J (a.lost)]]) w
 refine W<|Zr<|gM H Z Z fun w1 b3 H=>fg H du Z fun w2 b4 H=>U<|W<|Zr<|G (Yp Z)<|G (Zf fl Z)<|G (Zd aZ H 1 Z Z Z)<|cz dD (jx bb ⟨ps,some ⟨gP,0,none⟩,pC,co,clo,chi,gr,glo,ghi,sns,some ⟨gS,0,none⟩,snC⟩ (a.name) _ _ (H.ent (i:=2) Z) (d3.own rowS) (fun q hq=>by rw[ar.1 hq];exact(H.ent (i:=4) Z)) hsl) Z Z ?_
 rintro _ w3 ⟨rfl,hb⟩;replace H:=H.later hb;clear hb
 rw[hix]
 refine G (Wp Z)<|U<|W<|Zb<|W<|Zr<|G (Yp Z)<|G (vY iV Z)<|G (Wb Z)<|U<|ZF Z<|W<|Zr<|G (Zf kz Z)<|G (Zd al H 1 Z Z Z)<|G (dn Z Z I)<|G (Yb Z)<|ZG<|G (Zf kz Z)<|ZG<|G (Zd al H 1 Z Z Z)<|ZG<|G (eu Z Z I)<|G (N Z Z)<|G (Yb Z)<|ZG<|G (Zf gh Z)<|ZG<|G (Zd al H 1 Z Z Z)<|ZG<|G (dn Z Z I)<|G (N Z Z)<|G (Yb Z)<|ZG<|G (Zf gh Z)<|ZG<|G (Zd al H 1 Z Z Z)<|ZG<|G (eu Z Z I)<|G (N Z Z) ?_
 refine G (Wb Z)<|U<|ZF Z<|W<|Zr<|G (Yp Z)<|G (aI Z)<|G (Zf oD Z) ?_
 refine zB (bX eL rowS hx 3 Z (H.ent (i:=4) Z) Z) Z Z Z (fun h41=> ?_) (fun h41=> ?_)
 refine G (d7 Z)<|G (Wb Z)<|U<|ZF Z<|W<|Zr<|G (Zf kz Z)<|G (Zd al H 1 Z Z Z) ?_
 refine dq (br Z Z) Z Z Z (fun h47=> ?_) (fun h47=> ?_)
 refine G (Wb Z)<|U<|ZT Z<|W<|Zr<|cz bJ (dQ 14 _) Z Z ?_
 rintro _ w4 ⟨rfl,hb⟩;replace H:=H.later hb;clear hb
 refine bC H 0 (#[J (14),J (0),.slice none 0 0]) aN Z Z Z Z Z N N fun w5 H=>U<|Zt ?_
 exact eQ (cs0:= #[J (14),J (0),.slice none 0 0]) Z aK Z (H.ent (i:=0) Z) Z ⟨⟨ps,some ⟨gP,0,none⟩,pC,co,clo,chi,gr,glo,ghi,sns.set i x,some ⟨gS,0,none⟩,snC⟩,by rw[ja hix hx,if_neg (by rw[h41];decide),if_pos h47];exact oY.plain _ _ _,by rw[ja hix hx,if_neg (by rw[h41];decide),if_pos h47,fb hx];rfl,Bw.close (X:=[(b4,_),(b3,_)]) row (by rw[fb hx];exact rowS) hset hsA hlA rowq rowl hco hgr hps (fun _ h=>h) H (by rw[fb hx];rfl)⟩
 refine G (Wb Z)<|U<|ZF Z<|Zk<|W ?_
 refine fp (τ:=Co×Nat×Nat×Nat) [6,7,49,50,51,52,53,54,55,56,57,58,59,60,61,62,63,64,65,66,67,68] (fun(_,b6,_,_)=>[(6,.pointer (Qd b6)),(7,J (jp co.a x.name x.ver (decide (a.n=1))).2)]) (fun(c3,b6,lo,hi) w'=>c3.a=(jp co.a x.name x.ver (decide (a.n=1))).1/\Hp w0 w' ((b6,.cells #[J (c3.clock),J (c3.next),J (c3.wait),.slice c3.A c3.txs.length c3.cap] bc (0,0))::(b4,.cells #[J (0),J (0),.slice none 0 0] ee (0,0))::(b3,.cells #[J (a.kind),.string (a.name),J (a.part),J (a.n),J (a.m),.string (a.text),J (a.lost)] jf (0,0))::(bb,.cells #[.slice (Qd gP) ps.length pC,J (co.clock),J (co.next),J (co.wait),.slice co.A co.txs.length co.cap,J (gr.clock),J (gr.wait),J (gr.gen),.slice gr.mA gr.ms.length gr.mC,.slice gr.oA gr.os.length gr.oC,.slice (Qd gS) sns.length snC] bF (0,0))::(gP,.cells uP bK (0,0))::(gS,.cells uS fF (0,0))::(gq,.cells uq da (0,0))::(gl,.cells ul dz (0,0))::La++(Lb++K)) (xE w0 lo hi c3::F)) ?_ ?_
 refine oJ cD 20 16 [16,17,18,19,21,22] [20] [0,1,2,3,5,6,7,9,10,11,13,15] [20,21,22] [16] [0,1,2,3,5,6,7,9,10,11,13,15,17,18,19] (sp [(20,Sp.blk w3.heap.size (.agg #[J 0,J 0,J 0,.slice none 0 0]) bc)]) (sp [(16,Sp.deep w3.heap.size M4 (fun c:Co=>c.c.toArray) (fun cs=> .tuple #[.agg cs,J (jp co.a x.name x.ver (decide (a.n=1))).2]) (fun cq:Co=>cq.a=(jp co.a x.name x.ver (decide (a.n=1))).1))]) N N N N (cO _) (cO _) ?_ ?_
 refine jF [0,1,2,3,4,5,6,7,8,9,10,11,12,13,14,15,20] [16,17,18,19,21,22] [20] [0,1,2,3,5,6,7,9,10,11,13,15] 5 (sp [(20,Sp.blk w3.heap.size (.agg #[J 0,J 0,J 0,.slice none 0 0]) bc)]) N N N Nq<|aw Z Z Z Z Z (fun w' hw'=>Yp Z)<|aw Z Z Z Z Z (fun w' hw'=>aI Z)<|aw Z Z Z Z Z (fun w' hw'=>Zf aS Z)<|aw Z Z Z Z Z (fun w' hw'=>Zf eH Z)<|aw Z Z Z Z Z (fun w' hw'=>j4 1 [J (co.clock),J (co.next),J (co.wait),.slice co.A co.txs.length co.cap] ay Z Z ((H.later hw').ent (i:=2) Z) Z)<|aw Z Z Z Z Z (fun w' hw'=>Yp Z)<|aw Z Z Z Z Z (fun w' hw'=>aI Z)<|aw Z Z Z Z Z (fun w' hw'=>Zf oE Z)<|aw Z Z Z Z Z (fun w' hw'=>bX aZ rowS hx 0 Z ((H.later hw').ent (i:=4) Z) Z)<|aw Z Z Z Z Z (fun w' hw'=>Yp Z)<|aw Z Z Z Z Z (fun w' hw'=>aI Z)<|aw Z Z Z Z Z (fun w' hw'=>Zf um Z)<|aw Z Z Z Z Z (fun w' hw'=>bX al rowS hx 2 Z ((H.later hw').ent (i:=4) Z) Z)<|aw Z Z Z Z Z (fun w' hw'=>Zf gh Z)<|aw Z Z Z Z Z (fun w' hw'=>bf al Z (aJ ((H.later hw').ent (i:=1) Z) Z))<|aw Z Z Z Z Z (fun w' hw'=>br Z Z)<|yB cH Z Z Z Z Z (fun w' hw'=>hw'.size) fun b6=>aU ?_
 intro w6 hw' hF
 obtain⟨hF,bq,eq,hge6,hbl6⟩:=hF;cases eq
 replace H:=H.adoptNew hw' hbl6 hge6
 clear hw' hF
 refine dg 16 N Z<|cz xt (F3 co x.name x.ver (decide (a.n=1)) k _ (Hp.coM H hco) hcb hnm) Z Z ?_
 rintro _ w7 ⟨c3,rfl,hac3,hnc3⟩;replace H:=H.learn hnc3.2 (xE w0 w6.heap.size w7.heap.size c3) ⟨H.size,hnc3.1⟩ (ao _) (ao _);clear hnc3
 refine U<|bp 17 N N N Z Z Z Z Nq (fun _=>Yu Z)<|bp 18 N N N Z Z Z Z Nq (fun _=>Xa Z Z)<|bp 19 N N N Z Z Z Z Nq (fun _=>Xi Z Z)<|dg 21 N Z<|bC H 0 (#[J (c3.clock),J (c3.next),J (c3.wait),.slice c3.A c3.txs.length c3.cap]) aE Z Z Z Z Z N N fun w8 H=>U<|bp 22 N N N Z Z Z Z Nq (fun _=>Wi Z)<|cr N ?_
 exact⟨(c3,b6,_,_),⟨hac3,H⟩,lE Z Z,Qg⟩
 refine jF [0,1,2,3,4,5,6,7,8,9,10,11,12,13,14,15,16,17,18,19] [20,21,22] [16] [0,1,2,3,5,6,7,9,10,11,13,15,17,18,19] 2 (sp [(16,Sp.deep w3.heap.size M4 (fun c:Co=>c.c.toArray) (fun cs=> .tuple #[.agg cs,J (jp co.a x.name x.ver (decide (a.n=1))).2]) (fun cq:Co=>cq.a=(jp co.a x.name x.ver (decide (a.n=1))).1))]) N N N Nq<|aw Z Z Z Z Z (fun w' hw'=>Yp Z)<|aw Z Z Z Z Z (fun w' hw'=>aI Z)<|aw Z Z Z Z Z (fun w' hw'=>Zf aS Z)<|aw Z Z Z Z Z (fun w' hw'=>Zf eH Z)<|aw Z Z Z Z Z (fun w' hw'=>j4 1 [J (co.clock),J (co.next),J (co.wait),.slice co.A co.txs.length co.cap] ay Z Z ((H.later hw').ent (i:=2) Z) Z)<|aw Z Z Z Z Z (fun w' hw'=>Yp Z)<|aw Z Z Z Z Z (fun w' hw'=>aI Z)<|aw Z Z Z Z Z (fun w' hw'=>Zf oE Z)<|aw Z Z Z Z Z (fun w' hw'=>bX aZ rowS hx 0 Z ((H.later hw').ent (i:=4) Z) Z)<|aw Z Z Z Z Z (fun w' hw'=>Yp Z)<|aw Z Z Z Z Z (fun w' hw'=>aI Z)<|aw Z Z Z Z Z (fun w' hw'=>Zf um Z)<|aw Z Z Z Z Z (fun w' hw'=>bX al rowS hx 2 Z ((H.later hw').ent (i:=4) Z) Z)<|aw Z Z Z Z Z (fun w' hw'=>Zf gh Z)<|aw Z Z Z Z Z (fun w' hw'=>bf al Z (aJ ((H.later hw').ent (i:=1) Z) Z))<|aw Z Z Z Z Z (fun w' hw'=>br Z Z)<|tm (gv:=(fun cs=> .tuple #[.agg cs,J (jp co.a x.name x.ver (decide (a.n=1))).2])) xt Z Z Z Z Z (fun w' hw'=>hw'.size) (fun w' hw'=>F3 co x.name x.ver (decide (a.n=1)) k w' (Hp.coM (H.later hw') hco) hcb hnm) Z fun cs66=>aw Z Z Z Z Z (fun w' hw'=>Yu Z)<|aw Z Z Z Z Z (fun w' hw'=>Xa Z Z)<|aw Z Z Z Z Z (fun w' hw'=>Xi Z Z)<|aU ?_
 intro w9 hw' hF
 obtain⟨hF,c3,eq,hac3,hrd66⟩:=hF;cases eq
 replace H:=H.learn hw' (xE w0 w3.heap.size w9.heap.size c3) ⟨H.size,hrd66⟩ (ao _) (ao _)
 clear hw' hF
 refine dg 20 N Z<|fg H cH Z fun w10 b6 H=>U<|dg 21 N Z<|bC H 0 (#[J (c3.clock),J (c3.next),J (c3.wait),.slice c3.A c3.txs.length c3.cap]) aE Z Z Z Z Z N N fun w11 H=>U<|bp 22 N N N Z Z Z Z Nq (fun _=>Wi Z)<|cr N ?_
 exact⟨(c3,b6,_,_),⟨hac3,H⟩,lE Z Z,Qg⟩
 rintro⟨c3,b6,lo,hi⟩ ρ1 w12 ⟨hac3,H⟩
 show CW _ _ _ _ (dH (gT _ _ ρ1) [(6,.pointer (Qd b6)),(7,J (jp co.a x.name x.ver (decide (a.n=1))).2)]) w12
 refine W<|W<|Zr<|G (Yi Z) ?_
 refine rq (je Z Z) Z Z Z (fun h70=> ?_) (fun h70=> ?_)
 refine U<|ZT Z<|W ?_
 refine bP cD [0,1,2,3] [4] [2,3] [1] (sp [(2,Sp.one (.agg #[J (jp co.a x.name x.ver (decide (a.n=1))).2,J 0,.slice none 0 0])),(3,Sp.one (.agg #[J (fJ a ⟨(jp co.a x.name x.ver (decide (a.n=1))).2,0,[]⟩).code,J (fJ a ⟨(jp co.a x.name x.ver (decide (a.n=1))).2,0,[]⟩).n,.slice none 0 0]))]) N N N N Nq (cO _) ?_
 refine aw Z Z Z Z Z (fun w' hw'=>js dU Z ((H.later hw').ent (i:=2) Z) Z)<|aw Z Z Z Z Z (fun w' hw'=>Yi Z)<|nS bJ Z Z Z Z Z (fun w' hw'=>dQ (jp co.a x.name x.ver (decide (a.n=1))).2 w') Z<|nS kF Z Z Z Z Z (fun w' hw'=>GD a ⟨(jp co.a x.name x.ver (decide (a.n=1))).2,0,[]⟩ w') Z<|aU ?_
 intro w13 hw' hF
 replace H:=H.later hw';clear hw' hF
 refine bC H 1 (#[J ((fJ a ⟨(jp co.a x.name x.ver (decide (a.n=1))).2,0,[]⟩).code),J ((fJ a ⟨(jp co.a x.name x.ver (decide (a.n=1))).2,0,[]⟩).n),.slice none 0 0]) aN Z Z Z Z Z N N fun w14 H=>U<|Zt ?_
 exact eQ (cs0:= #[J ((fJ a ⟨(jp co.a x.name x.ver (decide (a.n=1))).2,0,[]⟩).code),J ((fJ a ⟨(jp co.a x.name x.ver (decide (a.n=1))).2,0,[]⟩).n),.slice none 0 0]) Z aK Z (H.ent (i:=1) Z) Z ⟨⟨ps,some ⟨gP,0,none⟩,pC,co,clo,chi,gr,glo,ghi,sns.set i x,some ⟨gS,0,none⟩,snC⟩,by rw[ja hix hx,if_neg (by rw[h41];decide),if_neg h47,if_neg h70];exact Qh.r ⟨lD _ Z,rfl⟩ _,by rw[ja hix hx,if_neg (by rw[h41];decide),if_neg h47,if_neg h70,fb hx],Bw.close (X:=[(b6,_),(b4,_),(b3,_)]) row (by rw[fb hx];exact rowS) hset hsA hlA rowq rowl (aj _ hco) (aj _ hgr) (fun q hq=>aj _ (hps q hq)) (fun f hf=>aj _ hf) H (by rw[fb hx];rfl)⟩
 refine U<|ZF Z<|Zk<|W ?_
 have hok3:(jp co.a x.name x.ver (decide (a.n=1))).2=0:=by simpa using h70
 refine Zr<|G (Yp Z)<|G (Zw ay H 0 Z Z Z)<|G (aI Z)<|G (Zf aS Z)<|G (Zf eH Z)<|bC H 3 (#[.slice (Qd gP) ps.length pC,J (c3.clock),J (c3.next),J (c3.wait),.slice c3.A c3.txs.length c3.cap,J (gr.clock),J (gr.wait),J (gr.gen),.slice gr.mA gr.ms.length gr.mC,.slice gr.oA gr.os.length gr.oC,.slice (Qd gS) sns.length snC]) aE Z Z Z Z Z N N fun w15 H=>U<|W<|W<|Zr<|G (Zf kz Z)<|G (Zd al H 2 Z Z Z) ?_
 refine dq (br Z Z) Z Z Z (fun h82=> ?_) (fun h82=> ?_)
 refine U<|ZT Z<|W<|Zr<|G (Yp Z)<|G (aI Z)<|G (Zf oD Z)<|m5 H 5 ({x with inn:=false}) mz rowS hx 3 Z Z Z Z Z Z N fun w17 cur16 row16 H=> ?_
 have hs18:(sns.set i ({x with inn:=false}))[i]? =some ({x with inn:=false}):=am (cu hx).1
 refine U<|W<|Zr<|G (Yp Z)<|G (aI Z)<|G (Zf l8 Z)<|G (bX ny row16 hs18 5 Z (H.ent (i:=5) Z) hl5)<|G (bj eG Z)<|G (Yi Z)<|U<|Zb ?_
 refine bW (τ:=Nat×Array Value) [8,91,92,93,94,95,96,97,98,99,100,101,102,103,104,105,106,107,108,109] (fun(j,_)=>[(91,J (j:Nat))]) (fun(j,u) w'=>j<=x.last.length/\d3 gV ((x.last.take j).map zT++x.last.drop j) x.lC u/\Hp w0 w' ((b6,.cells #[J (c3.clock),J (c3.next),J (c3.wait),.slice c3.A c3.txs.length c3.cap] bc (0,0))::(b4,.cells #[J (0),J (0),.slice none 0 0] ee (0,0))::(b3,.cells #[J (a.kind),.string (a.name),J (a.part),J (a.n),J (a.m),.string (a.text),J (a.lost)] jf (0,0))::(bb,.cells #[.slice (Qd gP) ps.length pC,J (c3.clock),J (c3.next),J (c3.wait),.slice c3.A c3.txs.length c3.cap,J (gr.clock),J (gr.wait),J (gr.gen),.slice gr.mA gr.ms.length gr.mC,.slice gr.oA gr.os.length gr.oC,.slice (Qd gS) sns.length snC] bF (0,0))::(gP,.cells uP bK (0,0))::(gS,.cells cur16 fF (0,0))::(gq,.cells uq da (0,0))::(gl,.cells u dz (0,0))::La++(Lb++K)) (xE w0 lo hi c3::F)) (fun(j,_)=>x.last.length-j) (0,_) ⟨bx _,(by simpa using rowl),H⟩ (dO Z) ?_
 rintro⟨j,u⟩ ρ1 w19 ⟨hj,rowu,H⟩
 show CW _ _ _ _ (dH (gT _ _ ρ1) [(91,J (j:Nat))]) w19
 refine W<|Zr ?_
 refine dq (cL Z Z) Z Z Z (fun h92=> ?_) (fun h92=> ?_)
 refine U<|W<|ZT Z<|Zk<|W<|Zb<|W<|Zr<|G (Yi Z)<|G (Wi Z)<|U<|W ?_
 obtain⟨e,he⟩: ∃ e,x.last[j]? =some e:=⟨_,ai I⟩
 refine Zr<|G (Yp Z)<|G (aI Z)<|G (Zf l8 Z)<|G (bX ny row16 hs18 5 Z (H.ent (i:=5) Z) hl5)<|G (Yi Z)<|G (cQ dV Z Z (by first|omega|(simp only[ae];omega)))<|G (Zf jb Z) ?_
 refine zB (bX eL rowu (Dv he) 5 Z (H.ent (i:=7) Z) Z) Z Z Z (fun h101=> ?_) (fun h101=> ?_)
 refine U<|ZT Z<|Zr<|G (Yp Z)<|G (aI Z)<|G (Zf l8 Z)<|G (bX ny row16 hs18 5 Z (H.ent (i:=5) Z) hl5)<|G (Yi Z)<|G (bE (cs:= #[J (0),J (0),J (0),J (0),J (0),.bool (false),.string (⟨#[]⟩)]) ob gp N)<|G (cQ dV Z Z (by first|omega|(simp only[ae];omega)))<|m5 H 7 (jJ) eV rowu (Dv he) 0 Z Z Z Z Z Z N fun w21 cur20 row20 H=> ?_
 have hs22:((((x.last.take j).map zT++x.last.drop j)).set j (jJ))[j]? =some (jJ):=am (cu (Dv he)).1
 refine U<|Zr<|G (bn Z Z I I)<|G (Yi Z)<|U ?_
 refine⟨(j+1,_),⟨by omega,?_,H⟩,dO Z,Qg,by show x.last.length- (j+1)<x.last.length-j;omega⟩
 rw[<-KB he]
 have hz:zT e=jJ:=by unfold zT;rw[if_pos h101]
 rw[hz]
 exact row20
 refine U<|ZF Z<|Zk<|Zr<|G (bn Z Z I I)<|G (Yi Z)<|U ?_
 refine⟨(j+1,_),⟨by omega,?_,H⟩,dO Z,Qg,by show x.last.length- (j+1)<x.last.length-j;omega⟩
 rw[<-KB he]
 have hz:zT e=e:=by unfold zT;rw[if_neg (by rw[h101];decide)]
 rw[hz,fb (Dv he)]
 exact rowu
 refine U<|W<|ZF Z<|Zx<|W ?_
 obtain rfl:j=x.last.length:=by omega
 rw[bM,fz,aW]at rowu
 obtain⟨x1,hx1⟩: ∃ x1:Sn,{x with inn:=false,last:=x.last.map zT}=x1:=⟨_,rfl⟩
 have hsA1:x1.sA=some ⟨gq,0,none⟩:=by rw[<-hx1];exact hsA
 have hlA1:x1.lA=some ⟨gl,0,none⟩:=by rw[<-hx1];exact hlA
 have rowq1:d3 bN x1.seqs x1.sC uq:=by rw[<-hx1];exact rowq
 have rowl1:d3 gV x1.last x1.lC u:=by rw[<-hx1];exact rowu
 have rowS1:d3 zV (sns.set i x1) snC cur16:=by have:=d3.same (e':=x1) row16 hs18 (by rw[<-hx1];simp only[zV,Sn.c,bl]);rwa[fL]at this
 have hsn1:(if a.lost=0 then(sns.set i (tc x)).map Sn.a else sns.map Sn.a)=(sns.set i x1).map Sn.a:=by rw[if_pos h82,<-hx1,J5]
 refine Zr<|G (Zw dU H 2 Z Z Z)<|G (bE (cs:= #[J (0),J (0),.slice none 0 0]) iN du N)<|cz kF (GD a ⟨0,0,[]⟩ _) Z Z ?_
 rintro _ w23 ⟨rfl,hb⟩;replace H:=H.later hb;clear hb
 refine bC H 1 (#[J ((fJ a ⟨0,0,[]⟩).code),J ((fJ a ⟨0,0,[]⟩).n),.slice none 0 0]) aN Z Z Z Z Z N N fun w24 H=>U<|Zt ?_
 exact eQ (cs0:= #[J ((fJ a ⟨0,0,[]⟩).code),J ((fJ a ⟨0,0,[]⟩).n),.slice none 0 0]) Z aK Z (H.ent (i:=1) Z) Z ⟨⟨ps,some ⟨gP,0,none⟩,pC,c3,lo,hi,gr,glo,ghi,sns.set i x1,some ⟨gS,0,none⟩,snC⟩,by rw[ja hix hx,if_neg (by rw[h41];decide),if_neg h47,if_pos hok3];exact Qh.r ⟨lD _ Z,rfl⟩ _,by rw[ja hix hx,if_neg (by rw[h41];decide),if_neg h47,if_pos hok3,<-hac3];show _=Wa.mk _ _ _ (if a.lost=0 then _ else _);rw[hsn1];rfl,Bw.close (X:=[(b6,_),(b4,_),(b3,_)]) row rowS1 hset hsA1 hlA1 rowq1 rowl1 (az ..) (aj _ hgr) (fun q hq=>aj _ (hps q hq)) (fun f hf=>aj _ hf) H (by simp only[Bk.c,ae])⟩
 refine U<|ZF Z<|Zk<|W ?_
 obtain⟨x1,hx1⟩: ∃ x1:Sn,x=x1:=⟨_,rfl⟩
 have hsA1:x1.sA=some ⟨gq,0,none⟩:=by rw[<-hx1];exact hsA
 have hlA1:x1.lA=some ⟨gl,0,none⟩:=by rw[<-hx1];exact hlA
 have rowq1:d3 bN x1.seqs x1.sC uq:=by rw[<-hx1];exact rowq
 have rowl1:d3 gV x1.last x1.lC ul:=by rw[<-hx1];exact rowl
 have rowS1:d3 zV (sns.set i x1) snC uS:=by rw[<-hx1,fb hx];exact rowS
 have hsn1:(if a.lost=0 then(sns.set i (tc x)).map Sn.a else sns.map Sn.a)=(sns.set i x1).map Sn.a:=by rw[if_neg h82,<-hx1,fb hx]
 refine Zr<|G (Zw dU H 2 Z Z Z)<|G (bE (cs:= #[J (0),J (0),.slice none 0 0]) iN du N)<|cz kF (GD a ⟨0,0,[]⟩ _) Z Z ?_
 rintro _ w25 ⟨rfl,hb⟩;replace H:=H.later hb;clear hb
 refine bC H 1 (#[J ((fJ a ⟨0,0,[]⟩).code),J ((fJ a ⟨0,0,[]⟩).n),.slice none 0 0]) aN Z Z Z Z Z N N fun w26 H=>U<|Zt ?_
 exact eQ (cs0:= #[J ((fJ a ⟨0,0,[]⟩).code),J ((fJ a ⟨0,0,[]⟩).n),.slice none 0 0]) Z aK Z (H.ent (i:=1) Z) Z ⟨⟨ps,some ⟨gP,0,none⟩,pC,c3,lo,hi,gr,glo,ghi,sns.set i x1,some ⟨gS,0,none⟩,snC⟩,by rw[ja hix hx,if_neg (by rw[h41];decide),if_neg h47,if_pos hok3];exact Qh.r ⟨lD _ Z,rfl⟩ _,by rw[ja hix hx,if_neg (by rw[h41];decide),if_neg h47,if_pos hok3,<-hac3];show _=Wa.mk _ _ _ (if a.lost=0 then _ else _);rw[hsn1];rfl,Bw.close (X:=[(b6,_),(b4,_),(b3,_)]) row rowS1 hset hsA1 hlA1 rowq1 rowl1 (az ..) (aj _ hgr) (fun q hq=>aj _ (hps q hq)) (fun f hf=>aj _ hf) H (by simp only[Bk.c,ae])⟩
 refine G (d7 Z)<|G (Wb Z)<|U<|ZT Z<|W<|Zr<|cz bJ (dQ 12 _) Z Z ?_
 rintro _ w27 ⟨rfl,hb⟩;replace H:=H.later hb;clear hb
 refine bC H 0 (#[J (12),J (0),.slice none 0 0]) aN Z Z Z Z Z N N fun w28 H=>U<|Zt ?_
 exact eQ (cs0:= #[J (12),J (0),.slice none 0 0]) Z aK Z (H.ent (i:=0) Z) Z ⟨⟨ps,some ⟨gP,0,none⟩,pC,co,clo,chi,gr,glo,ghi,sns.set i x,some ⟨gS,0,none⟩,snC⟩,by rw[ja hix hx,if_pos h41];exact oY.plain _ _ _,by rw[ja hix hx,if_pos h41,fb hx];rfl,Bw.close (X:=[(b4,_),(b3,_)]) row (by rw[fb hx];exact rowS) hset hsA hlA rowq rowl hco hgr hps (fun _ h=>h) H (by rw[fb hx];rfl)⟩
theorem uV {w:Wa} {a:Act} (h:(bw w.co a.name).2.2.2≠0):mI w a=lF w (bw w.co a.name).2.2.2:=by
 unfold mI
 rw[if_neg h]
theorem C7 {b:Bk} {a:Act} (hix:eK b.sns a.name=none) (h:(bw b.co.a a.name).2.2.2=0):mI b.a a=({b.a with co:=(bw b.co.a a.name).1,sns:=b.sns.map Sn.a++[qT a.name (bw b.co.a a.name).2.1 (bw b.co.a a.name).2.2.1 b.ps.length]},⟨0,(bw b.co.a a.name).2.2.1,[]⟩):=by
 unfold mI vt
 rw[if_pos (show(bw b.a.co a.name).2.2.2=0 from h),show b.a.sns=b.sns.map Sn.a from rfl]
 dsimp only[qT]
 rw[zw,hix,show b.a.ps.length=b.ps.length by show(b.ps.map _).length=_;rw[bl]]
 rfl
theorem C6 {b:Bk} {a:Act} {i:Nat} (hix:eK b.sns a.name=some i) (h:(bw b.co.a a.name).2.2.2=0):mI b.a a=({b.a with co:=(bw b.co.a a.name).1,sns:=(b.sns.map Sn.a).set i (qT a.name (bw b.co.a a.name).2.1 (bw b.co.a a.name).2.2.1 b.ps.length)},⟨0,(bw b.co.a a.name).2.2.1,[]⟩):=by
 unfold mI vt
 rw[if_pos (show(bw b.a.co a.name).2.2.2=0 from h),show b.a.sns=b.sns.map Sn.a from rfl]
 dsimp only[qT]
 rw[zw,hix,show b.a.ps.length=b.ps.length by show(b.ps.map _).length=_;rw[bl]]
 rfl
theorem NY (A Q Lo K:List (Nat×Obj)):(A++((Lo++Q)++K)).Perm (Q++(A++(Lo++K))):=by
 rw[show A++((Lo++Q)++K)=(A++Lo)++(Q++K) by simp,show A++(Lo++K)=(A++Lo)++K by simp]
 exact gf (A++Lo) Q K
def Qr:Sn:=⟨⟨#[]⟩,0,0,false,[],none,0,[],none,0⟩
theorem It:(aa.info? 3).map (fun i=>(i.zero,i.size,i.bytes))=some (some (J 0),bN.sz,8):=by kernel_rfl
theorem C0:(aa.info? 87).map (fun i=>(i.zero,i.size,i.bytes))=some (some (.agg #[J 0,J 0,J 0,J 0,J 0,.bool false,.string ⟨#[]⟩]),gV.sz,64):=by kernel_rfl
theorem JO {w0 w:World} {bb:Nat} {b:Bk} {gP:Nat} {uP:Array Value} {Ls Lo K:List (Nat×Obj)} {F:List cf} (a:Act) (B:Bw w0 w bb b gP uP Ls Lo K F) (hsl:b.sns.length<=1000000) {k:Nat} (hnm:bo a.name=true) (hcb:oW k b.co) (hk:k<=1000) (hnp:0<b.ps.length) (hp4:b.ps.length<=4) (hix:eK b.sns a.name=none):dt aa kh [.pointer (Qd bb),a.v] w fun v w2=> ∃ b':Bk,oY (mI b.a a).2 v w2/\b'.a=(mI b.a a).1/\xF w0 w2 bb b' K F:=by
 refine aG nj Z Z ?_
 obtain⟨ps,pA,pC,co,clo,chi,gr,glo,ghi,sns,snA,snC⟩:=b
 obtain⟨hpA,row,hsn,hown,hco,hgr,hps,H⟩:=B
 dsimp only at hpA row hsn hown hco hgr hps
 subst hpA
 replace H:Hp w0 w ((bb,.cells #[.slice (Qd gP) ps.length pC,J (co.clock),J (co.next),J (co.wait),.slice co.A co.txs.length co.cap,J (gr.clock),J (gr.wait),J (gr.gen),.slice gr.mA gr.ms.length gr.mC,.slice gr.oA gr.os.length gr.oC,.slice snA sns.length snC] bF (0,0))::(gP,.cells uP bK (0,0))::(Ls++(Lo++K))) F:=H
 dsimp only at hix hsl hcb hnp hp4
 show CW _ _ _ _ (args [.pointer (Qd bb),.agg #[J (a.kind),.string (a.name),J (a.part),J (a.n),J (a.m),.string (a.text),J (a.lost)]]) w
 refine W<|Zr<|gM H Z Z fun w1 b3 H=>fg H du Z fun w2 b4 H=>U<|W ?_
 refine fp (τ:=Co×Nat×Nat×Nat) [5,6,7,8,10,11,12,13,14,15,16,17,18,19,20,21,22] (fun(_,b5,_,_)=>[(5,.pointer (Qd b5)),(6,J (bw co.a a.name).2.1),(7,J (bw co.a a.name).2.2.1),(8,J (bw co.a a.name).2.2.2)]) (fun(c3,b5,lo,hi) w'=>c3.a=(bw co.a a.name).1/\Hp w0 w' ((b5,.cells #[J (c3.clock),J (c3.next),J (c3.wait),.slice c3.A c3.txs.length c3.cap] bc (0,0))::(b4,.cells #[J (0),J (0),.slice none 0 0] ee (0,0))::(b3,.cells #[J (a.kind),.string (a.name),J (a.part),J (a.n),J (a.m),.string (a.text),J (a.lost)] jf (0,0))::(bb,.cells #[.slice (Qd gP) ps.length pC,J (co.clock),J (co.next),J (co.wait),.slice co.A co.txs.length co.cap,J (gr.clock),J (gr.wait),J (gr.gen),.slice gr.mA gr.ms.length gr.mC,.slice gr.oA gr.os.length gr.oC,.slice snA sns.length snC] bF (0,0))::(gP,.cells uP bK (0,0))::(Ls++(Lo++K))) (xE w0 lo hi c3::F)) ?_ ?_
 refine oJ cD 13 7 [7,8,9,10,11,12,14,15,16,17] [13] [0,1,2,3,5] [13,14,15,16,17] [7] [0,1,2,3,5,8,9,10,11,12] (sp [(13,Sp.blk w2.heap.size (.agg #[J 0,J 0,J 0,.slice none 0 0]) bc)]) (sp [(7,Sp.deep w2.heap.size M4 (fun c:Co=>c.c.toArray) (fun cs=> .tuple #[.agg cs,J (bw co.a a.name).2.1,J (bw co.a a.name).2.2.1,J (bw co.a a.name).2.2.2]) (fun cq:Co=>cq.a=(bw co.a a.name).1))]) N N N N (cO _) (cO _) ?_ ?_
 refine jF [0,1,2,3,4,5,6,13] [7,8,9,10,11,12,14,15,16,17] [13] [0,1,2,3,5] 9 (sp [(13,Sp.blk w2.heap.size (.agg #[J 0,J 0,J 0,.slice none 0 0]) bc)]) N N N Nq<|aw Z Z Z Z Z (fun w' hw'=>Yp Z)<|aw Z Z Z Z Z (fun w' hw'=>aI Z)<|aw Z Z Z Z Z (fun w' hw'=>Zf aS Z)<|aw Z Z Z Z Z (fun w' hw'=>Zf eH Z)<|aw Z Z Z Z Z (fun w' hw'=>j4 1 [J (co.clock),J (co.next),J (co.wait),.slice co.A co.txs.length co.cap] ay Z Z ((H.later hw').ent (i:=2) Z) Z)<|aw Z Z Z Z Z (fun w' hw'=>Zf fl Z)<|aw Z Z Z Z Z (fun w' hw'=>bf aZ Z (aJ ((H.later hw').ent (i:=1) Z) Z))<|yB cH Z Z Z Z Z (fun w' hw'=>hw'.size) fun b5=>aU ?_
 intro w3 hw' hF
 obtain⟨hF,bq,eq,hge5,hbl5⟩:=hF;cases eq
 replace H:=H.adoptNew hw' hbl5 hge5
 clear hw' hF
 refine dg 7 N Z<|cz n8 (wT co a.name k _ (Hp.coM H hco) hcb hk hnm) Z Z ?_
 rintro _ w4 ⟨c3,rfl,hac3,hnc3⟩;replace H:=H.learn hnc3.2 (xE w0 w3.heap.size w4.heap.size c3) ⟨H.size,hnc3.1⟩ (ao _) (ao _);clear hnc3
 refine U<|bp 8 N N N Z Z Z Z Nq (fun _=>Yu Z)<|bp 9 N N N Z Z Z Z Nq (fun _=>Xa Z Z)<|bp 10 N N N Z Z Z Z Nq (fun _=>Xi Z Z)<|bp 11 N N N Z Z Z Z Nq (fun _=>Xi Z Z)<|bp 12 N N N Z Z Z Z Nq (fun _=>Xi Z Z)<|dg 14 N Z<|bC H 0 (#[J (c3.clock),J (c3.next),J (c3.wait),.slice c3.A c3.txs.length c3.cap]) aE Z Z Z Z Z N N fun w5 H=>U<|bp 15 N N N Z Z Z Z Nq (fun _=>Wi Z)<|bp 16 N N N Z Z Z Z Nq (fun _=>Wi Z)<|bp 17 N N N Z Z Z Z Nq (fun _=>Wi Z)<|cr N ?_
 exact⟨(c3,b5,_,_),⟨hac3,H⟩,Qn Z Z Z Z,Qg⟩
 refine jF [0,1,2,3,4,5,6,7,8,9,10,11,12] [13,14,15,16,17] [7] [0,1,2,3,5,8,9,10,11,12] 4 (sp [(7,Sp.deep w2.heap.size M4 (fun c:Co=>c.c.toArray) (fun cs=> .tuple #[.agg cs,J (bw co.a a.name).2.1,J (bw co.a a.name).2.2.1,J (bw co.a a.name).2.2.2]) (fun cq:Co=>cq.a=(bw co.a a.name).1))]) N N N Nq<|aw Z Z Z Z Z (fun w' hw'=>Yp Z)<|aw Z Z Z Z Z (fun w' hw'=>aI Z)<|aw Z Z Z Z Z (fun w' hw'=>Zf aS Z)<|aw Z Z Z Z Z (fun w' hw'=>Zf eH Z)<|aw Z Z Z Z Z (fun w' hw'=>j4 1 [J (co.clock),J (co.next),J (co.wait),.slice co.A co.txs.length co.cap] ay Z Z ((H.later hw').ent (i:=2) Z) Z)<|aw Z Z Z Z Z (fun w' hw'=>Zf fl Z)<|aw Z Z Z Z Z (fun w' hw'=>bf aZ Z (aJ ((H.later hw').ent (i:=1) Z) Z))<|tm (gv:=(fun cs=> .tuple #[.agg cs,J (bw co.a a.name).2.1,J (bw co.a a.name).2.2.1,J (bw co.a a.name).2.2.2])) n8 Z Z Z Z Z (fun w' hw'=>hw'.size) (fun w' hw'=>wT co a.name k w' (Hp.coM (H.later hw') hco) hcb hk hnm) Z fun cs18=>aw Z Z Z Z Z (fun w' hw'=>Yu Z)<|aw Z Z Z Z Z (fun w' hw'=>Xa Z Z)<|aw Z Z Z Z Z (fun w' hw'=>Xi Z Z)<|aw Z Z Z Z Z (fun w' hw'=>Xi Z Z)<|aw Z Z Z Z Z (fun w' hw'=>Xi Z Z)<|aU ?_
 intro w6 hw' hF
 obtain⟨hF,c3,eq,hac3,hrd18⟩:=hF;cases eq
 replace H:=H.learn hw' (xE w0 w2.heap.size w6.heap.size c3) ⟨H.size,hrd18⟩ (ao _) (ao _)
 clear hw' hF
 refine dg 13 N Z<|fg H cH Z fun w7 b5 H=>U<|dg 14 N Z<|bC H 0 (#[J (c3.clock),J (c3.next),J (c3.wait),.slice c3.A c3.txs.length c3.cap]) aE Z Z Z Z Z N N fun w8 H=>U<|bp 15 N N N Z Z Z Z Nq (fun _=>Wi Z)<|bp 16 N N N Z Z Z Z Nq (fun _=>Wi Z)<|bp 17 N N N Z Z Z Z Nq (fun _=>Wi Z)<|cr N ?_
 exact⟨(c3,b5,_,_),⟨hac3,H⟩,Qn Z Z Z Z,Qg⟩
 rintro⟨c3,b5,lo,hi⟩ ρ1 w9 ⟨hac3,H⟩
 show CW _ _ _ _ (dH (gT _ _ ρ1) [(5,.pointer (Qd b5)),(6,J (bw co.a a.name).2.1),(7,J (bw co.a a.name).2.2.1),(8,J (bw co.a a.name).2.2.2)]) w9
 refine W<|W<|Zr<|G (Yi Z) ?_
 refine rq (je Z Z) Z Z Z (fun h24=> ?_) (fun h24=> ?_)
 refine U<|ZT Z<|W<|Zr<|G (Yi Z)<|cz bJ (dQ (bw co.a a.name).2.2.2 _) Z Z ?_
 rintro _ w10 ⟨rfl,hb⟩;replace H:=H.later hb;clear hb
 refine bC H 1 (#[J ((bw co.a a.name).2.2.2),J (0),.slice none 0 0]) aN Z Z Z Z Z N N fun w11 H=>U<|Zt ?_
 exact eQ (cs0:= #[J ((bw co.a a.name).2.2.2),J (0),.slice none 0 0]) Z aK Z (H.ent (i:=1) Z) Z ⟨⟨ps,some ⟨gP,0,none⟩,pC,co,clo,chi,gr,glo,ghi,sns,snA,snC⟩,by rw[uV h24];exact oY.plain _ _ _,by rw[uV h24];rfl,Bw.shut (X:=[(b5,_),(b4,_),(b3,_)]) row hsn hown (aj _ hco) (aj _ hgr) (fun q hq=>aj _ (hps q hq)) (fun f hf=>aj _ hf) H Z⟩
 refine U<|ZF Z<|Zk<|W ?_
 have hok3:(bw co.a a.name).2.2.2=0:=by simpa using h24
 refine Zr<|G (Yp Z)<|G (Zw ay H 0 Z Z Z)<|G (aI Z)<|G (Zf aS Z)<|G (Zf eH Z)<|bC H 3 (#[.slice (Qd gP) ps.length pC,J (c3.clock),J (c3.next),J (c3.wait),.slice c3.A c3.txs.length c3.cap,J (gr.clock),J (gr.wait),J (gr.gen),.slice gr.mA gr.ms.length gr.mC,.slice gr.oA gr.os.length gr.oC,.slice snA sns.length snC]) aE Z Z Z Z Z N N fun w12 H=>U<|W<|Zr<|G (Yp Z)<|G (Zf fl Z)<|G (Zd aZ H 2 Z Z Z)<|cz dD (jx bb ⟨ps,some ⟨gP,0,none⟩,pC,c3,lo,hi,gr,glo,ghi,sns,snA,snC⟩ a.name Ls _ (H.ent (i:=3) Z) hsn (fun q hq=>(H.ents q (by simp only[List.set_cons_succ,BL,av,aq];grind)).1) hsl) Z Z ?_
 rintro _ w13 ⟨rfl,hb⟩;replace H:=H.later hb;clear hb
 rw[hix]
 refine G (Wp Z)<|U<|W<|W<|Zr<|G (Yp Z)<|G (xS iV Z)<|U<|ZT Z<|W<|Zr<|G (Yp Z)<|G (Yp Z)<|G (aI Z)<|G (Zf aS Z)<|G (Zf kr Z)<|G (Zd ke H 3 Z Z Z)<|G (bE (cs:= #[.string (⟨#[]⟩),J (0),J (0),.bool (false),.slice none 0 0,.slice none 0 0]) xP wF N)<|uA (vs:=[.agg #[.string (⟨#[]⟩),J (0),J (0),.bool (false),.slice none 0 0,.slice none 0 0]]) H sO wF Z Z Z Z Z Z fun w14 b45 H=>xA (Y:=zV) HQ (K:=[(b45,_),(b5,_),(b4,_),(b3,_),(bb,_),(gP,_)]) (L:=Ls) (M:=Lo++K) H hsn (es:=sns) (news:=[Qr]) Z Z Z (y3.row (m:=1) (sz:=zV.sz) (H.ent (i:=0) Z) Z) (by simp only[cF];omega) Z ?_
 intro A46 c46 w15 L46 h46 _ ho46 H
 obtain⟨sn2,hsn2⟩: ∃ l,sns++[Qr]=l:=⟨_,rfl⟩
 rw[hsn2]at ho46 h46⊢
 have hl2:sn2.length=sns.length+1:=by rw[<-hsn2];simp
 have hx2:sn2[sns.length]? =some Qr:=by rw[<-hsn2];simp
 have hlen2:((sn2.length:Nat):Int)-1=((sns.length:Nat):Int):=by omega
 obtain⟨gS,uS,rfl,rfl,rowS⟩:=ho46.row I
 replace H:Hp w0 w15 ((b45,.cells #[.string (⟨#[]⟩),J (0),J (0),.bool (false),.slice none 0 0,.slice none 0 0] fF (0,0))::(b5,.cells #[J (c3.clock),J (c3.next),J (c3.wait),.slice c3.A c3.txs.length c3.cap] bc (0,0))::(b4,.cells #[J (0),J (0),.slice none 0 0] ee (0,0))::(b3,.cells #[J (a.kind),.string (a.name),J (a.part),J (a.n),J (a.m),.string (a.text),J (a.lost)] jf (0,0))::(bb,.cells #[.slice (Qd gP) ps.length pC,J (c3.clock),J (c3.next),J (c3.wait),.slice c3.A c3.txs.length c3.cap,J (gr.clock),J (gr.wait),J (gr.gen),.slice gr.mA gr.ms.length gr.mC,.slice gr.oA gr.os.length gr.oC,.slice snA sns.length snC] bF (0,0))::(gP,.cells uP bK (0,0))::(gS,.cells uS fF (0,0))::(Lo++K)) (xE w0 lo hi c3::F):=H
 refine G (aI Z)<|G (Zf aS Z)<|G (Zf kr Z)<|bC H 4 (#[.slice (Qd gP) ps.length pC,J (c3.clock),J (c3.next),J (c3.wait),.slice c3.A c3.txs.length c3.cap,J (gr.clock),J (gr.wait),J (gr.gen),.slice gr.mA gr.ms.length gr.mC,.slice gr.oA gr.os.length gr.oC,.slice (Qd gS) sn2.length c46]) E1 Z Z Z Z Z N N fun w16 H=>U ?_
 refine bP cD [0,1,2,3,4,5,6,7,8,9,10,11,12,13] [] [] [0,1,2,3,5,6,7,8,10,11,12,13] (sp []) N N N N Nq (cO _) ?_
 refine aw Z Z Z Z Z (fun w' hw'=>Yp Z)<|aw Z Z Z Z Z (fun w' hw'=>aI Z)<|aw Z Z Z Z Z (fun w' hw'=>Zf aS Z)<|aw Z Z Z Z Z (fun w' hw'=>Zf kr Z)<|aw Z Z Z Z Z (fun w' hw'=>bf ke Z (aJ ((H.later hw').ent (i:=4) Z) Z))<|aw Z Z Z Z Z (fun w' hw'=>Yp Z)<|aw Z Z Z Z Z (fun w' hw'=>aI Z)<|aw Z Z Z Z Z (fun w' hw'=>Zf aS Z)<|aw Z Z Z Z Z (fun w' hw'=>Zf kr Z)<|aw Z Z Z Z Z (fun w' hw'=>bf ke Z (aJ ((H.later hw').ent (i:=4) Z) Z))<|aw Z Z Z Z Z (fun w' hw'=>bj ud Z)<|aw Z Z Z Z Z (fun w' hw'=>ng Z Z I I)<|aw Z Z Z Z Z (fun w' hw'=>cQ (k:=sns.length) sO Z (congrArg (Value.int .i64) hlen2) (by first|omega|(simp only[ae];omega)))<|aw Z Z Z Z Z (fun w' hw'=>Wp Z)<|aU ?_
 intro w17 hw' hF
 replace H:=H.later hw';clear hw' hF
 refine U<|W ?_
 refine bP cD [0,1,2,3,4,5,6,7,8,9,10,12,13,14,15,16,17,11,18,19,20] [21] [11,18] [0,1,3,4,5,6,7,8,10,12,13,14,15,17,19,20] (sp [(11,Sp.orow w17.heap.size bN da (ap ps.length (0:Int))),(18,Sp.orow w17.heap.size gV dz (ap ps.length jJ))]) N N N N Nq (cO _) ?_
 refine aw Z Z Z Z Z (fun w' hw'=>Yp Z)<|aw Z Z Z Z Z (fun w' hw'=>Zf fl Z)<|aw Z Z Z Z Z (fun w' hw'=>bf aZ Z (aJ ((H.later hw').ent (i:=3) Z) Z))<|aw Z Z Z Z Z (fun w' hw'=>Yi Z)<|aw Z Z Z Z Z (fun w' hw'=>Yi Z)<|aw Z Z Z Z Z (fun w' hw'=>Yp Z)<|aw Z Z Z Z Z (fun w' hw'=>aI Z)<|aw Z Z Z Z Z (fun w' hw'=>Zf aS Z)<|aw Z Z Z Z Z (fun w' hw'=>Zf dx Z)<|aw Z Z Z Z Z (fun w' hw'=>bf dZ Z (aJ ((H.later hw').ent (i:=4) Z) Z))<|aw Z Z Z Z Z (fun w' hw'=>bj lW Z)<|aw Z Z Z Z Z (fun w' hw'=>Yp Z)<|aw Z Z Z Z Z (fun w' hw'=>aI Z)<|aw Z Z Z Z Z (fun w' hw'=>Zf aS Z)<|aw Z Z Z Z Z (fun w' hw'=>Zf dx Z)<|aw Z Z Z Z Z (fun w' hw'=>bf dZ Z (aJ ((H.later hw').ent (i:=4) Z) Z))<|aw Z Z Z Z Z (fun w' hw'=>bj lW Z)<|IL (Y:=bN) ((0:Int)) ps.length bd It Z Z Z Z Z Z (fun w' hw'=>hw'.size) Z Z I I fun A74 c74 hc74=>IL (Y:=gV) (jJ) ps.length dV C0 Z Z Z Z Z Z (fun w' hw'=>hw'.size) Z Z I I fun A81 c81 hc81=>aw Z Z Z Z Z (fun w' hw'=>bE (cs:= #[.string (a.name),J ((bw co.a a.name).2.1),J ((bw co.a a.name).2.2.1),.bool (false),.slice A74 (((ap ps.length (0:Int))).length) c74,.slice A81 ((ap ps.length jJ).length) c81]) xP wF N)<|aw Z Z Z Z Z (fun w' hw'=>aI Z)<|aU ?_
 intro w18 hw' hF
 obtain⟨hF,Aq,cq,L81,eq,hcq,hm81,ho81,he81,hn81⟩:=hF;cases eq;clear hcq
 obtain⟨hF,Aq,cq,L74,eq,hcq,hm74,ho74,he74,hn74⟩:=hF;cases eq;clear hcq
 obtain⟨nq,curq,rfl,rfl,rowq9⟩:=ho74.row (by simp only[bO];exact hnp)
 obtain⟨nl,curl,rfl,rfl,rowl9⟩:=ho81.row (by simp only[bO];exact hnp)
 have e74:=he74 _ (d6 _)
 have e81:=he81 _ (d6 _)
 replace H:=H.adopt2 hw' e74 e81 (sw e74.1 e81.1 Z)
 clear hw' hF
 refine m5 H 8 (⟨a.name,(bw co.a a.name).2.1,(bw co.a a.name).2.2.1,false,ap ps.length 0,some ⟨nq,0,none⟩,c74,ap ps.length jJ,some ⟨nl,0,none⟩,c81⟩) zX rowS hx2 0 Z Z Z Z Z Z N fun w20 cur19 row19 H=> ?_
 have hs21:(sn2.set sns.length (⟨a.name,(bw co.a a.name).2.1,(bw co.a a.name).2.2.1,false,ap ps.length 0,some ⟨nq,0,none⟩,c74,ap ps.length jJ,some ⟨nl,0,none⟩,c81⟩))[sns.length]? =some (⟨a.name,(bw co.a a.name).2.1,(bw co.a a.name).2.2.1,false,ap ps.length 0,some ⟨nq,0,none⟩,c74,ap ps.length jJ,some ⟨nl,0,none⟩,c81⟩):=am (cu hx2).1
 refine U<|W<|Zr<|G (Yi Z)<|G (bE (cs:= #[J (0),J ((bw co.a a.name).2.2.1),.slice none 0 0]) iN du N)<|bC H 4 (#[J (0),J ((bw co.a a.name).2.2.1),.slice none 0 0]) aN Z Z Z Z Z N N fun w22 H=>U<|Zt ?_
 have hn7:=hown.snoc (s:=(⟨a.name,(bw co.a a.name).2.1,(bw co.a a.name).2.2.1,false,ap ps.length 0,some ⟨nq,0,none⟩,c74,ap ps.length jJ,some ⟨nl,0,none⟩,c81⟩:Sn)) Z Z rowq9 rowl9
 have hs7:sn2.set sns.length (⟨a.name,(bw co.a a.name).2.1,(bw co.a a.name).2.2.1,false,ap ps.length 0,some ⟨nq,0,none⟩,c74,ap ps.length jJ,some ⟨nl,0,none⟩,c81⟩:Sn)=sns++[⟨a.name,(bw co.a a.name).2.1,(bw co.a a.name).2.2.1,false,ap ps.length 0,some ⟨nq,0,none⟩,c74,ap ps.length jJ,some ⟨nl,0,none⟩,c81⟩]:=by rw[<-hsn2,jj _ _ (ao _),mp];rfl
 have row7:=row19
 rw[hs7]at row7
 refine eQ (cs0:= #[J (0),J ((bw co.a a.name).2.2.1),.slice none 0 0]) Z aK Z (H.ent (i:=4) Z) Z ⟨⟨ps,some ⟨gP,0,none⟩,pC,c3,lo,hi,gr,glo,ghi,sns++[⟨a.name,(bw co.a a.name).2.1,(bw co.a a.name).2.2.1,false,ap ps.length 0,some ⟨nq,0,none⟩,c74,ap ps.length jJ,some ⟨nl,0,none⟩,c81⟩],some ⟨gS,0,none⟩,c46⟩,by rw[C7 hix hok3];exact oY.plain _ _ _,by rw[C7 hix hok3,<-hac3];unfold Bk.a;rw[bh];rfl,⟨gP,uP,_,_,_,⟨rfl,row,d3.own row7,hn7,(az ..),(aj _ hgr),(fun q hq=>aj _ (hps q hq)),?_⟩,(fun f hf=>aj _ hf)⟩⟩
 have H7:=H.forget (L':=(nq,_)::(nl,_)::(bb,_)::(gP,_)::(gS,_)::(Lo++K)) (.cons_cons _ (.cons_cons _ (bZ [(b45,_),(b5,_),(b4,_),(b3,_)] _))) (fun _ h=>h)
 have hl7:sn2.length=(sns++[(⟨a.name,(bw co.a a.name).2.1,(bw co.a a.name).2.2.1,false,ap ps.length 0,some ⟨nq,0,none⟩,c74,ap ps.length jJ,some ⟨nl,0,none⟩,c81⟩:Sn)]).length:=by rw[hl2,ax];rfl
 rw[hl7]at H7
 exact H7.perm (NY [(bb,_),(gP,_),(gS,_)] [(nq,_),(nl,_)] Lo K)
theorem JN {w0 w:World} {bb:Nat} {b:Bk} {gP:Nat} {uP:Array Value} {Ls Lo K:List (Nat×Obj)} {F:List cf} (a:Act) (B:Bw w0 w bb b gP uP Ls Lo K F) (hsl:b.sns.length<=1000000) {k:Nat} (hnm:bo a.name=true) (hcb:oW k b.co) (hk:k<=1000) (hnp:0<b.ps.length) (hp4:b.ps.length<=4) {i:Nat} {x:Sn} (hix:eK b.sns a.name=some i) (hx:b.sns[i]? =some x):dt aa kh [.pointer (Qd bb),a.v] w fun v w2=> ∃ b':Bk,oY (mI b.a a).2 v w2/\b'.a=(mI b.a a).1/\xF w0 w2 bb b' K F:=by
 refine aG nj Z Z ?_
 obtain⟨ps,pA,pC,co,clo,chi,gr,glo,ghi,sns,snA,snC⟩:=b
 obtain⟨hpA,row,hsn,hown,hco,hgr,hps,H⟩:=B
 dsimp only at hpA row hsn hown hco hgr hps
 subst hpA
 dsimp only at hix hx
 obtain⟨gS,uS,hgS,hLs,rowS⟩:=hsn.row (by have:=(cu hx).1;omega)
 subst hgS;subst hLs
 obtain⟨gq,uq,gl,ul,La,Lb,hsA,hlA,rowq,rowl,hLo,hset⟩:=hown.at_ hx
 subst hLo
 replace H:Hp w0 w ((bb,.cells #[.slice (Qd gP) ps.length pC,J (co.clock),J (co.next),J (co.wait),.slice co.A co.txs.length co.cap,J (gr.clock),J (gr.wait),J (gr.gen),.slice gr.mA gr.ms.length gr.mC,.slice gr.oA gr.os.length gr.oC,.slice (Qd gS) sns.length snC] bF (0,0))::(gP,.cells uP bK (0,0))::(gS,.cells uS fF (0,0))::(gq,.cells uq da (0,0))::(gl,.cells ul dz (0,0))::(La++(Lb++K))) F:=H.perm (C9 [(bb,_),(gP,_),(gS,_)] _ _ La Lb K)
 dsimp only at hsl hcb hnp hp4
 show CW _ _ _ _ (args [.pointer (Qd bb),.agg #[J (a.kind),.string (a.name),J (a.part),J (a.n),J (a.m),.string (a.text),J (a.lost)]]) w
 refine W<|Zr<|gM H Z Z fun w1 b3 H=>fg H du Z fun w2 b4 H=>U<|W ?_
 refine fp (τ:=Co×Nat×Nat×Nat) [5,6,7,8,10,11,12,13,14,15,16,17,18,19,20,21,22] (fun(_,b5,_,_)=>[(5,.pointer (Qd b5)),(6,J (bw co.a a.name).2.1),(7,J (bw co.a a.name).2.2.1),(8,J (bw co.a a.name).2.2.2)]) (fun(c3,b5,lo,hi) w'=>c3.a=(bw co.a a.name).1/\Hp w0 w' ((b5,.cells #[J (c3.clock),J (c3.next),J (c3.wait),.slice c3.A c3.txs.length c3.cap] bc (0,0))::(b4,.cells #[J (0),J (0),.slice none 0 0] ee (0,0))::(b3,.cells #[J (a.kind),.string (a.name),J (a.part),J (a.n),J (a.m),.string (a.text),J (a.lost)] jf (0,0))::(bb,.cells #[.slice (Qd gP) ps.length pC,J (co.clock),J (co.next),J (co.wait),.slice co.A co.txs.length co.cap,J (gr.clock),J (gr.wait),J (gr.gen),.slice gr.mA gr.ms.length gr.mC,.slice gr.oA gr.os.length gr.oC,.slice (Qd gS) sns.length snC] bF (0,0))::(gP,.cells uP bK (0,0))::(gS,.cells uS fF (0,0))::(gq,.cells uq da (0,0))::(gl,.cells ul dz (0,0))::La++(Lb++K)) (xE w0 lo hi c3::F)) ?_ ?_
 refine oJ cD 13 7 [7,8,9,10,11,12,14,15,16,17] [13] [0,1,2,3,5] [13,14,15,16,17] [7] [0,1,2,3,5,8,9,10,11,12] (sp [(13,Sp.blk w2.heap.size (.agg #[J 0,J 0,J 0,.slice none 0 0]) bc)]) (sp [(7,Sp.deep w2.heap.size M4 (fun c:Co=>c.c.toArray) (fun cs=> .tuple #[.agg cs,J (bw co.a a.name).2.1,J (bw co.a a.name).2.2.1,J (bw co.a a.name).2.2.2]) (fun cq:Co=>cq.a=(bw co.a a.name).1))]) N N N N (cO _) (cO _) ?_ ?_
 refine jF [0,1,2,3,4,5,6,13] [7,8,9,10,11,12,14,15,16,17] [13] [0,1,2,3,5] 9 (sp [(13,Sp.blk w2.heap.size (.agg #[J 0,J 0,J 0,.slice none 0 0]) bc)]) N N N Nq<|aw Z Z Z Z Z (fun w' hw'=>Yp Z)<|aw Z Z Z Z Z (fun w' hw'=>aI Z)<|aw Z Z Z Z Z (fun w' hw'=>Zf aS Z)<|aw Z Z Z Z Z (fun w' hw'=>Zf eH Z)<|aw Z Z Z Z Z (fun w' hw'=>j4 1 [J (co.clock),J (co.next),J (co.wait),.slice co.A co.txs.length co.cap] ay Z Z ((H.later hw').ent (i:=2) Z) Z)<|aw Z Z Z Z Z (fun w' hw'=>Zf fl Z)<|aw Z Z Z Z Z (fun w' hw'=>bf aZ Z (aJ ((H.later hw').ent (i:=1) Z) Z))<|yB cH Z Z Z Z Z (fun w' hw'=>hw'.size) fun b5=>aU ?_
 intro w3 hw' hF
 obtain⟨hF,bq,eq,hge5,hbl5⟩:=hF;cases eq
 replace H:=H.adoptNew hw' hbl5 hge5
 clear hw' hF
 refine dg 7 N Z<|cz n8 (wT co a.name k _ (Hp.coM H hco) hcb hk hnm) Z Z ?_
 rintro _ w4 ⟨c3,rfl,hac3,hnc3⟩;replace H:=H.learn hnc3.2 (xE w0 w3.heap.size w4.heap.size c3) ⟨H.size,hnc3.1⟩ (ao _) (ao _);clear hnc3
 refine U<|bp 8 N N N Z Z Z Z Nq (fun _=>Yu Z)<|bp 9 N N N Z Z Z Z Nq (fun _=>Xa Z Z)<|bp 10 N N N Z Z Z Z Nq (fun _=>Xi Z Z)<|bp 11 N N N Z Z Z Z Nq (fun _=>Xi Z Z)<|bp 12 N N N Z Z Z Z Nq (fun _=>Xi Z Z)<|dg 14 N Z<|bC H 0 (#[J (c3.clock),J (c3.next),J (c3.wait),.slice c3.A c3.txs.length c3.cap]) aE Z Z Z Z Z N N fun w5 H=>U<|bp 15 N N N Z Z Z Z Nq (fun _=>Wi Z)<|bp 16 N N N Z Z Z Z Nq (fun _=>Wi Z)<|bp 17 N N N Z Z Z Z Nq (fun _=>Wi Z)<|cr N ?_
 exact⟨(c3,b5,_,_),⟨hac3,H⟩,Qn Z Z Z Z,Qg⟩
 refine jF [0,1,2,3,4,5,6,7,8,9,10,11,12] [13,14,15,16,17] [7] [0,1,2,3,5,8,9,10,11,12] 4 (sp [(7,Sp.deep w2.heap.size M4 (fun c:Co=>c.c.toArray) (fun cs=> .tuple #[.agg cs,J (bw co.a a.name).2.1,J (bw co.a a.name).2.2.1,J (bw co.a a.name).2.2.2]) (fun cq:Co=>cq.a=(bw co.a a.name).1))]) N N N Nq<|aw Z Z Z Z Z (fun w' hw'=>Yp Z)<|aw Z Z Z Z Z (fun w' hw'=>aI Z)<|aw Z Z Z Z Z (fun w' hw'=>Zf aS Z)<|aw Z Z Z Z Z (fun w' hw'=>Zf eH Z)<|aw Z Z Z Z Z (fun w' hw'=>j4 1 [J (co.clock),J (co.next),J (co.wait),.slice co.A co.txs.length co.cap] ay Z Z ((H.later hw').ent (i:=2) Z) Z)<|aw Z Z Z Z Z (fun w' hw'=>Zf fl Z)<|aw Z Z Z Z Z (fun w' hw'=>bf aZ Z (aJ ((H.later hw').ent (i:=1) Z) Z))<|tm (gv:=(fun cs=> .tuple #[.agg cs,J (bw co.a a.name).2.1,J (bw co.a a.name).2.2.1,J (bw co.a a.name).2.2.2])) n8 Z Z Z Z Z (fun w' hw'=>hw'.size) (fun w' hw'=>wT co a.name k w' (Hp.coM (H.later hw') hco) hcb hk hnm) Z fun cs18=>aw Z Z Z Z Z (fun w' hw'=>Yu Z)<|aw Z Z Z Z Z (fun w' hw'=>Xa Z Z)<|aw Z Z Z Z Z (fun w' hw'=>Xi Z Z)<|aw Z Z Z Z Z (fun w' hw'=>Xi Z Z)<|aw Z Z Z Z Z (fun w' hw'=>Xi Z Z)<|aU ?_
 intro w6 hw' hF
 obtain⟨hF,c3,eq,hac3,hrd18⟩:=hF;cases eq
 replace H:=H.learn hw' (xE w0 w2.heap.size w6.heap.size c3) ⟨H.size,hrd18⟩ (ao _) (ao _)
 clear hw' hF
 refine dg 13 N Z<|fg H cH Z fun w7 b5 H=>U<|dg 14 N Z<|bC H 0 (#[J (c3.clock),J (c3.next),J (c3.wait),.slice c3.A c3.txs.length c3.cap]) aE Z Z Z Z Z N N fun w8 H=>U<|bp 15 N N N Z Z Z Z Nq (fun _=>Wi Z)<|bp 16 N N N Z Z Z Z Nq (fun _=>Wi Z)<|bp 17 N N N Z Z Z Z Nq (fun _=>Wi Z)<|cr N ?_
 exact⟨(c3,b5,_,_),⟨hac3,H⟩,Qn Z Z Z Z,Qg⟩
 rintro⟨c3,b5,lo,hi⟩ ρ1 w9 ⟨hac3,H⟩
 show CW _ _ _ _ (dH (gT _ _ ρ1) [(5,.pointer (Qd b5)),(6,J (bw co.a a.name).2.1),(7,J (bw co.a a.name).2.2.1),(8,J (bw co.a a.name).2.2.2)]) w9
 refine W<|W<|Zr<|G (Yi Z) ?_
 refine rq (je Z Z) Z Z Z (fun h24=> ?_) (fun h24=> ?_)
 refine U<|ZT Z<|W<|Zr<|G (Yi Z)<|cz bJ (dQ (bw co.a a.name).2.2.2 _) Z Z ?_
 rintro _ w10 ⟨rfl,hb⟩;replace H:=H.later hb;clear hb
 refine bC H 1 (#[J ((bw co.a a.name).2.2.2),J (0),.slice none 0 0]) aN Z Z Z Z Z N N fun w11 H=>U<|Zt ?_
 exact eQ (cs0:= #[J ((bw co.a a.name).2.2.2),J (0),.slice none 0 0]) Z aK Z (H.ent (i:=1) Z) Z ⟨⟨ps,some ⟨gP,0,none⟩,pC,co,clo,chi,gr,glo,ghi,sns.set i x,some ⟨gS,0,none⟩,snC⟩,by rw[uV h24];exact oY.plain _ _ _,by rw[uV h24,fb hx];rfl,Bw.close (X:=[(b5,_),(b4,_),(b3,_)]) row (by rw[fb hx];exact rowS) hset hsA hlA rowq rowl (aj _ hco) (aj _ hgr) (fun q hq=>aj _ (hps q hq)) (fun f hf=>aj _ hf) H (by rw[fb hx];rfl)⟩
 refine U<|ZF Z<|Zk<|W ?_
 have hok3:(bw co.a a.name).2.2.2=0:=by simpa using h24
 refine Zr<|G (Yp Z)<|G (Zw ay H 0 Z Z Z)<|G (aI Z)<|G (Zf aS Z)<|G (Zf eH Z)<|bC H 3 (#[.slice (Qd gP) ps.length pC,J (c3.clock),J (c3.next),J (c3.wait),.slice c3.A c3.txs.length c3.cap,J (gr.clock),J (gr.wait),J (gr.gen),.slice gr.mA gr.ms.length gr.mC,.slice gr.oA gr.os.length gr.oC,.slice (Qd gS) sns.length snC]) aE Z Z Z Z Z N N fun w12 H=>U<|W<|Zr<|G (Yp Z)<|G (Zf fl Z)<|G (Zd aZ H 2 Z Z Z)<|cz dD (jx bb ⟨ps,some ⟨gP,0,none⟩,pC,c3,lo,hi,gr,glo,ghi,sns,some ⟨gS,0,none⟩,snC⟩ a.name _ _ (H.ent (i:=3) Z) (d3.own rowS) (fun q hq=>by rw[ar.1 hq];exact(H.ent (i:=5) Z)) hsl) Z Z ?_
 rintro _ w13 ⟨rfl,hb⟩;replace H:=H.later hb;clear hb
 rw[hix]
 refine G (Wp Z)<|U<|W<|W<|Zr<|G (Yp Z)<|G (vY iV Z)<|U<|ZF Z<|Zk<|W ?_
 refine bP cD [0,1,2,3,4,5,6,7,8,9,10,12,13,14,15,16,17,11,18,19,20] [21] [11,18] [0,1,3,4,5,6,7,8,10,12,13,14,15,17,19,20] (sp [(11,Sp.orow w13.heap.size bN da (ap ps.length (0:Int))),(18,Sp.orow w13.heap.size gV dz (ap ps.length jJ))]) N N N N Nq (cO _) ?_
 refine aw Z Z Z Z Z (fun w' hw'=>Yp Z)<|aw Z Z Z Z Z (fun w' hw'=>Zf fl Z)<|aw Z Z Z Z Z (fun w' hw'=>bf aZ Z (aJ ((H.later hw').ent (i:=2) Z) Z))<|aw Z Z Z Z Z (fun w' hw'=>Yi Z)<|aw Z Z Z Z Z (fun w' hw'=>Yi Z)<|aw Z Z Z Z Z (fun w' hw'=>Yp Z)<|aw Z Z Z Z Z (fun w' hw'=>aI Z)<|aw Z Z Z Z Z (fun w' hw'=>Zf aS Z)<|aw Z Z Z Z Z (fun w' hw'=>Zf dx Z)<|aw Z Z Z Z Z (fun w' hw'=>bf dZ Z (aJ ((H.later hw').ent (i:=3) Z) Z))<|aw Z Z Z Z Z (fun w' hw'=>bj lW Z)<|aw Z Z Z Z Z (fun w' hw'=>Yp Z)<|aw Z Z Z Z Z (fun w' hw'=>aI Z)<|aw Z Z Z Z Z (fun w' hw'=>Zf aS Z)<|aw Z Z Z Z Z (fun w' hw'=>Zf dx Z)<|aw Z Z Z Z Z (fun w' hw'=>bf dZ Z (aJ ((H.later hw').ent (i:=3) Z) Z))<|aw Z Z Z Z Z (fun w' hw'=>bj lW Z)<|IL (Y:=bN) ((0:Int)) ps.length bd It Z Z Z Z Z Z (fun w' hw'=>hw'.size) Z Z I I fun A74 c74 hc74=>IL (Y:=gV) (jJ) ps.length dV C0 Z Z Z Z Z Z (fun w' hw'=>hw'.size) Z Z I I fun A81 c81 hc81=>aw Z Z Z Z Z (fun w' hw'=>bE (cs:= #[.string (a.name),J ((bw co.a a.name).2.1),J ((bw co.a a.name).2.2.1),.bool (false),.slice A74 (((ap ps.length (0:Int))).length) c74,.slice A81 ((ap ps.length jJ).length) c81]) xP wF N)<|aw Z Z Z Z Z (fun w' hw'=>aI Z)<|aU ?_
 intro w14 hw' hF
 obtain⟨hF,Aq,cq,L81,eq,hcq,hm81,ho81,he81,hn81⟩:=hF;cases eq;clear hcq
 obtain⟨hF,Aq,cq,L74,eq,hcq,hm74,ho74,he74,hn74⟩:=hF;cases eq;clear hcq
 obtain⟨nq,curq,rfl,rfl,rowq9⟩:=ho74.row (by simp only[bO];exact hnp)
 obtain⟨nl,curl,rfl,rfl,rowl9⟩:=ho81.row (by simp only[bO];exact hnp)
 have e74:=he74 _ (d6 _)
 have e81:=he81 _ (d6 _)
 replace H:=H.adopt2 hw' e74 e81 (sw e74.1 e81.1 Z)
 clear hw' hF
 refine m5 H 7 (⟨a.name,(bw co.a a.name).2.1,(bw co.a a.name).2.2.1,false,ap ps.length 0,some ⟨nq,0,none⟩,c74,ap ps.length jJ,some ⟨nl,0,none⟩,c81⟩) zX rowS hx 0 Z Z Z Z Z Z N fun w16 cur15 row15 H=> ?_
 have hs17:(sns.set i (⟨a.name,(bw co.a a.name).2.1,(bw co.a a.name).2.2.1,false,ap ps.length 0,some ⟨nq,0,none⟩,c74,ap ps.length jJ,some ⟨nl,0,none⟩,c81⟩))[i]? =some (⟨a.name,(bw co.a a.name).2.1,(bw co.a a.name).2.2.1,false,ap ps.length 0,some ⟨nq,0,none⟩,c74,ap ps.length jJ,some ⟨nl,0,none⟩,c81⟩):=am (cu hx).1
 refine U<|W<|Zr<|G (Yi Z)<|G (bE (cs:= #[J (0),J ((bw co.a a.name).2.2.1),.slice none 0 0]) iN du N)<|bC H 3 (#[J (0),J ((bw co.a a.name).2.2.1),.slice none 0 0]) aN Z Z Z Z Z N N fun w18 H=>U<|Zt ?_
 have H7:=H.forget (L':=(nq,_)::(nl,_)::(bb,_)::(gP,_)::(gS,_)::(La++(Lb++K))) (.cons_cons _ (.cons_cons _ ((au _).trans (.trans (.cons_cons _ (.cons_cons _ (.cons_cons _ (.cons _ (.cons _ (au _)))))) (bZ [(b5,_),(b4,_),(b3,_)] _))))) (fun _ h=>h)
 have hm7:(sns.set i (⟨a.name,(bw co.a a.name).2.1,(bw co.a a.name).2.2.1,false,ap ps.length 0,some ⟨nq,0,none⟩,c74,ap ps.length jJ,some ⟨nl,0,none⟩,c81⟩:Sn)).map Sn.a=(sns.map Sn.a).set i (qT a.name (bw co.a a.name).2.1 (bw co.a a.name).2.2.1 ps.length):=by rw[cT];rfl
 replace H7:=H7.perm (gf [(bb,_),(gP,_),(gS,_)] [(nq,_),(nl,_)] _)
 exact eQ (cs0:= #[J (0),J ((bw co.a a.name).2.2.1),.slice none 0 0]) Z aK Z (H.ent (i:=3) Z) Z ⟨⟨ps,some ⟨gP,0,none⟩,pC,c3,lo,hi,gr,glo,ghi,sns.set i ⟨a.name,(bw co.a a.name).2.1,(bw co.a a.name).2.2.1,false,ap ps.length 0,some ⟨nq,0,none⟩,c74,ap ps.length jJ,some ⟨nl,0,none⟩,c81⟩,some ⟨gS,0,none⟩,snC⟩,by rw[C6 hix hok3];exact oY.plain _ _ _,by rw[C6 hix hok3,<-hac3];show Wa.mk _ _ _ ((sns.set i ⟨a.name,(bw co.a a.name).2.1,(bw co.a a.name).2.2.1,false,ap ps.length 0,some ⟨nq,0,none⟩,c74,ap ps.length jJ,some ⟨nl,0,none⟩,c81⟩).map Sn.a)=Wa.mk _ _ _ _;rw[hm7];rfl,Bw.close (X:=[]) row row15 hset Z Z rowq9 rowl9 (az ..) (aj _ hgr) (fun q hq=>aj _ (hps q hq)) (fun f hf=>aj _ hf) H7 (by simp only[Bk.c,ae])⟩
theorem Mi {c:Co} (h:gI c=true) {t:Tx} (ht:t∈c.txs): ∃ i,fS c t.name=some (i,t):=by
 obtain⟨-,-,h3⟩:=f0.1 h
 obtain⟨i,hi⟩:=aM.1 ht
 obtain⟨hl,he⟩:=cu hi
 have:(c.txs.findIdx? fun p=>decide (p.name=t.name))=some i:=by
  rw[aP]
  refine⟨hl,by rw[he];simp,fun j hj=> ?_⟩
  unfold vP at h3
  rw[jv,mZ]at h3
  have:=(h3 j i I hl hj).1
  rw[he]at this
  simpa using this
 exact⟨i,by unfold fS;rw[this];simp[hi]⟩
theorem xZ {c:Co} (h:gI c=true) {n:Nat} {t:Tx} (ht:ia c.txs n=some t):(∃ i,fS c t.name=some (i,t))/\(t.state=3∨t.state=4)/\t.parts.headD 0∈t.parts/\0<=t.parts.headD 0/\t.parts.headD 0<4:=by
 unfold ia at ht
 obtain⟨hm,he⟩:=k9.1 (ab ht)
 have hs:t.state=3∨t.state=4:=by unfold gW at he;simpa using he
 have hx:=ce.1 ((f0.1 h).2.1 t hm)
 have hp:t.parts.headD 0∈t.parts:=by
  cases hp:t.parts with
  |nil=>have:=hx.2.2.2.2.2.2.2.2.2.2.2 (by rw[hp];rfl);omega
  |cons a l=>simp
 exact⟨Mi h hm,hs,hp,by have:=(fP hx.2.2.2.2.2.2.2.2.2.1).2 _ hp;omega⟩
theorem Bl {c:Co} {s:ByteArray} {p:Int} {i:Nat} {t:Tx} (hf:fS c s=some (i,t)) (h34:t.state=3∨t.state=4) (hp:p∈t.parts):(oI c s p).2=0:=by
 unfold oI
 rw[hf]
 dsimp only
 rw[if_pos h34,if_pos hp]
theorem G9 {w:Wa} {a:Act} (h:ia w.co.txs a.n.toNat=none):nh w a=lF w 15:=by
 unfold nh
 rw[h]
theorem LQ {w:Wa} {a:Act} {t:Tx} {n:Nat} {p:fX} (h:ia w.co.txs a.n.toNat=some t) (hn:t.parts.headD 0=(n:Nat)) (hp:w.ps[n]? =some p):nh w a=if(ek p (df t)).2.2=0 then({w with ps:=w.ps.set n (ek p (df t)).1,co:=(oI w.co t.name (t.parts.headD 0)).1},⟨0,(ek p (df t)).2.1,[]⟩)else lF w (ek p (df t)).2.2:=by
 unfold nh
 rw[h]
 dsimp only
 rw[show(t.parts.headD 0).toNat=n by omega,Im hp]
 split
 rename_i h0
 rw[if_pos (by rfl)]
 rename_i h0
 rw[if_neg (show¬ (lF w (ek p (df t)).2.2).2.code=0 from h0)]
theorem JE {w:Wa} {a:Act} {t:Tx} {n:Nat} (h:ia w.co.txs a.n.toNat=some t) (hn:t.parts.headD 0=(n:Nat)) (hp:w.ps[n]? =none):nh w a=lF w 5:=by
 unfold nh lG
 rw[h]
 dsimp only
 rw[show(t.parts.headD 0).toNat=n by omega,hp]
 dsimp only
 rw[if_neg (by show¬ (5:Int)=0;decide)]
theorem JD {w0 w:World} {bb:Nat} {b:Bk} {gP:Nat} {uP:Array Value} {Ls Lo K:List (Nat×Obj)} {F:List cf} (a:Act) (B:Bw w0 w bb b gP uP Ls Lo K F) {k:Nat} (hcb:oW k b.co) (hn:0<=a.n/\a.n<=1000) (hne:ia b.co.a.txs a.n.toNat=none):dt aa kg [.pointer (Qd bb),a.v] w fun v w2=> ∃ b':Bk,oY (nh b.a a).2 v w2/\b'.a=(nh b.a a).1/\xF w0 w2 bb b' K F:=by
 refine aG ni Z Z ?_
 have hsp:=G9 (w:=b.a) hne
 obtain⟨ps,pA,pC,co,clo,chi,gr,glo,ghi,sns,snA,snC⟩:=b
 obtain⟨hpA,row,hsn,hown,hco,hgr,hps,H⟩:=B
 dsimp only at hpA row hsn hown hco hgr hps
 subst hpA
 replace H:Hp w0 w ((bb,.cells #[.slice (Qd gP) ps.length pC,J (co.clock),J (co.next),J (co.wait),.slice co.A co.txs.length co.cap,J (gr.clock),J (gr.wait),J (gr.gen),.slice gr.mA gr.ms.length gr.mC,.slice gr.oA gr.os.length gr.oC,.slice snA sns.length snC] bF (0,0))::(gP,.cells uP bK (0,0))::(Ls++(Lo++K))) F:=H
 dsimp only at hcb hne
 obtain⟨m,hnm⟩: ∃ m:Nat,a.n=(m:Int):=⟨a.n.toNat,by omega⟩
 have htm:a.n.toNat=m:=by omega
 rw[htm]at hne
 show CW _ _ _ _ (args [.pointer (Qd bb),.agg #[J (a.kind),.string (a.name),J (a.part),J (a.n),J (a.m),.string (a.text),J (a.lost)]]) w
 refine W<|Zr<|gM H Z Z fun w1 b3 H=>fg H du Z fun w2 b4 H=>U<|W ?_
 refine bP cD [0,1,2,3,4,5,6,7,8,9,10,11,12,13,14,15] [16,17] [7,13] [0,1,2,3,5,8,9,10,11,12,14,15] (sp [(7,Sp.one (yO none)),(13,Sp.blk w2.heap.size (.agg #[J 0,J 0,J 0,J 0,J 0,.bool false,.string ⟨#[]⟩]) dz)]) N N N N Nq (cO _) ?_
 refine aw Z Z Z Z Z (fun w' hw'=>Yp Z)<|aw Z Z Z Z Z (fun w' hw'=>aI Z)<|aw Z Z Z Z Z (fun w' hw'=>Zf aS Z)<|aw Z Z Z Z Z (fun w' hw'=>Zf eH Z)<|aw Z Z Z Z Z (fun w' hw'=>j4 1 [J (co.clock),J (co.next),J (co.wait),.slice co.A co.txs.length co.cap] ay Z Z ((H.later hw').ent (i:=2) Z) Z)<|aw Z Z Z Z Z (fun w' hw'=>Zf gh Z)<|aw Z Z Z Z Z (fun w' hw'=>bf al Z (aJ ((H.later hw').ent (i:=1) Z) Z))<|nS vH Z Z Z Z Z (fun w' hw'=>(by have hA:=Fm co m w' (Hp.coM (H.later hw') hco) hcb.ok I;rw[show ia co.a.txs m=_ from hne,<-hnm]at hA;exact hA)) Z<|aw Z Z Z Z Z (fun w' hw'=>Yu Z)<|aw Z Z Z Z Z (fun w' hw'=>OD Z Z)<|aw Z Z Z Z Z (fun w' hw'=>Xi Z Z)<|aw Z Z Z Z Z (fun w' hw'=>Xa Z Z)<|aw Z Z Z Z Z (fun w' hw'=>Xi Z Z)<|yB gp Z Z Z Z Z (fun w' hw'=>hw'.size) fun b7=>aw Z Z Z Z Z (fun w' hw'=>Wt Z)<|aw Z Z Z Z Z (fun w' hw'=>Wi Z)<|aU ?_
 intro w3 hw' hF
 obtain⟨hF,bq,eq,hge7,hbl7⟩:=hF;cases eq
 obtain⟨hF,-⟩:=hF
 have Hb:=H
 replace H:=H.adoptNew hw' hbl7 hge7
 clear hw' hF
 refine bC H 0 (#[J (0),J (0),J (0),J (0),J (0),.bool (false),.string (⟨#[]⟩)]) eV Z Z Z Z Z N N fun w4 H=>G (Wi Z)<|U<|W<|W<|Zr<|G (Yi Z)<|G (lH Z Z (by decide))<|U<|ZT Z<|W<|Zr<|G (Yi Z)<|cz bJ (dQ 15 _) Z Z ?_
 rintro _ w5 ⟨rfl,hb⟩;replace H:=H.later hb;clear hb
 refine bC H 1 (#[J (15),J (0),.slice none 0 0]) aN Z Z Z Z Z N N fun w6 H=>U<|Zt ?_
 exact eQ (cs0:= #[J (15),J (0),.slice none 0 0]) Z aK Z (H.ent (i:=1) Z) Z ⟨⟨ps,some ⟨gP,0,none⟩,pC,co,clo,chi,gr,glo,ghi,sns,snA,snC⟩,by rw[hsp];exact oY.plain _ _ _,by rw[hsp];rfl,Bw.shut (X:=[(b7,_),(b4,_),(b3,_)]) row hsn hown hco hgr hps (fun _ h=>h) H Z⟩
theorem JC {w0 w:World} {bb:Nat} {b:Bk} {gP:Nat} {uP:Array Value} {Ls Lo K:List (Nat×Obj)} {F:List cf} (a:Act) (B:Bw w0 w bb b gP uP Ls Lo K F) {k:Nat} (hcb:oW k b.co) (hn:0<=a.n/\a.n<=1000) (hpk: ∀ q∈b.ps,q.p.a.ok/\ ∀ (l:Nat) (y:f5),q.p.leader=l->q.p.reps[l]? =some y->y.es.length<400) {t:Tx} (hne:ia b.co.a.txs a.n.toNat=some t):dt aa kg [.pointer (Qd bb),a.v] w fun v w2=> ∃ b':Bk,oY (nh b.a a).2 v w2/\b'.a=(nh b.a a).1/\xF w0 w2 bb b' K F:=by
 refine aG ni Z Z ?_
 have hne0:ia b.a.co.txs a.n.toNat=some t:=hne
 obtain⟨⟨ti,hf⟩,h34,hpt,hp0,hp4⟩:=xZ hcb.a.ok hne
 have hnmt:=(ce.1 (hcb.a.at_ (gj hf).2.1)).1
 obtain⟨n,hpn⟩: ∃ n:Nat,t.parts.headD 0=(n:Int):=⟨(t.parts.headD 0).toNat,by omega⟩
 have hn4:n<4:=by omega
 have hout:decide (0<=t.parts.headD 0/\t.parts.headD 0<(b.ps.length:Int))=false->nh b.a a=lF b.a 5:=fun h=>JE hne0 hpn (by rw[show b.a.ps=b.ps.map fun q=>q.p.a from rfl,aH,cG (by have:=of_decide_eq_false h;omega)];rfl)
 obtain⟨ps,pA,pC,co,clo,chi,gr,glo,ghi,sns,snA,snC⟩:=b
 obtain⟨hpA,row,hsn,hown,hco,hgr,hps,H⟩:=B
 dsimp only at hpA row hsn hown hco hgr hps
 subst hpA
 replace H:Hp w0 w ((bb,.cells #[.slice (Qd gP) ps.length pC,J (co.clock),J (co.next),J (co.wait),.slice co.A co.txs.length co.cap,J (gr.clock),J (gr.wait),J (gr.gen),.slice gr.mA gr.ms.length gr.mC,.slice gr.oA gr.os.length gr.oC,.slice snA sns.length snC] bF (0,0))::(gP,.cells uP bK (0,0))::(Ls++(Lo++K))) F:=H
 dsimp only at hcb hne hf hpk hout
 obtain⟨m,hnm⟩: ∃ m:Nat,a.n=(m:Int):=⟨a.n.toNat,by omega⟩
 have htm:a.n.toNat=m:=by omega
 rw[htm]at hne
 show CW _ _ _ _ (args [.pointer (Qd bb),.agg #[J (a.kind),.string (a.name),J (a.part),J (a.n),J (a.m),.string (a.text),J (a.lost)]]) w
 refine W<|Zr<|gM H Z Z fun w1 b3 H=>fg H du Z fun w2 b4 H=>U<|W ?_
 refine bP cD [0,1,2,3,4,5,6,7,8,9,10,11,12,13,14,15] [16,17] [7,13] [0,1,2,3,5,8,9,10,11,12,14,15] (sp [(7,Sp.one (yO (some t))),(13,Sp.blk w2.heap.size (.agg #[J 0,J 0,J 0,J 0,J 0,.bool false,.string ⟨#[]⟩]) dz)]) N N N N Nq (cO _) ?_
 refine aw Z Z Z Z Z (fun w' hw'=>Yp Z)<|aw Z Z Z Z Z (fun w' hw'=>aI Z)<|aw Z Z Z Z Z (fun w' hw'=>Zf aS Z)<|aw Z Z Z Z Z (fun w' hw'=>Zf eH Z)<|aw Z Z Z Z Z (fun w' hw'=>j4 1 [J (co.clock),J (co.next),J (co.wait),.slice co.A co.txs.length co.cap] ay Z Z ((H.later hw').ent (i:=2) Z) Z)<|aw Z Z Z Z Z (fun w' hw'=>Zf gh Z)<|aw Z Z Z Z Z (fun w' hw'=>bf al Z (aJ ((H.later hw').ent (i:=1) Z) Z))<|nS vH Z Z Z Z Z (fun w' hw'=>(by have hA:=Fm co m w' (Hp.coM (H.later hw') hco) hcb.ok I;rw[show ia co.a.txs m=_ from hne,<-hnm]at hA;exact hA)) Z<|aw Z Z Z Z Z (fun w' hw'=>Yu Z)<|aw Z Z Z Z Z (fun w' hw'=>OD Z Z)<|aw Z Z Z Z Z (fun w' hw'=>Xi Z Z)<|aw Z Z Z Z Z (fun w' hw'=>Xa Z Z)<|aw Z Z Z Z Z (fun w' hw'=>Xi Z Z)<|yB gp Z Z Z Z Z (fun w' hw'=>hw'.size) fun b7=>aw Z Z Z Z Z (fun w' hw'=>Wt Z)<|aw Z Z Z Z Z (fun w' hw'=>Wi Z)<|aU ?_
 intro w3 hw' hF
 obtain⟨hF,bq,eq,hge7,hbl7⟩:=hF;cases eq
 obtain⟨hF,-⟩:=hF
 have Hb:=H
 replace H:=H.adoptNew hw' hbl7 hge7
 clear hw' hF
 refine bC H 0 (#[J ((df t).epoch),J ((df t).pid),J ((df t).ver),J ((df t).seq),J ((df t).kind),.bool ((df t).txn),.string ((df t).text)]) eV Z Z Z Z Z N N fun w4 H=>G (Wi Z)<|U<|W<|W<|Zr<|G (Yi Z)<|G (ch Z Z (by decide))<|U<|ZF Z<|Zk<|W<|W<|Zr<|G (Yp Z)<|G (Yi Z)<|cz d5 (oh bb ⟨ps,some ⟨gP,0,none⟩,pC,co,clo,chi,gr,glo,ghi,sns,snA,snC⟩ (t.parts.headD 0) _ (H.ent (i:=3) Z)) Z Z ?_
 rintro _ w5 ⟨rfl,hb⟩;replace H:=H.later hb;clear hb
 refine nB 30 Z (fun h30=> ?_) (fun h30=> ?_)
 have hnp:n<ps.length:=by have:=of_decide_eq_true h30;dsimp only at this;omega
 obtain⟨q,hq⟩: ∃ q,ps[n]? =some q:=⟨_,ai hnp⟩
 have hqm:=ab hq
 have hsp:=LQ hne0 hpn (p:=q.p.a) (by show(ps.map fun q=>q.p.a)[n]? =_;rw[aH,hq];rfl)
 refine G (d7 Z)<|U<|ZF Z<|Zk<|W ?_
 refine fp (τ:=Pa×Nat×Nat×Nat) [8,9,10,33,34,35,36,37,38,39,40,41,42,43,44,45,46] (fun(_,b9,_,_)=>[(9,.pointer (Qd b9)),(10,J (ek q.p.a (df t)).2.1),(8,J (ek q.p.a (df t)).2.2)]) (fun(p2,b9,lo,hi) w'=>p2.a=(ek q.p.a (df t)).1/\Hp w0 w' ((b9,.cells #[J (p2.epoch),J (p2.leader),.slice p2.iA p2.isr.length p2.iC,.slice p2.kA p2.known.length p2.kC,.slice p2.rA p2.reps.length p2.rC,J (p2.few),J (p2.base)] bK (0,0))::(b7,.cells #[J ((df t).epoch),J ((df t).pid),J ((df t).ver),J ((df t).seq),J ((df t).kind),.bool ((df t).txn),.string ((df t).text)] dz (0,0))::(b4,.cells #[J (0),J (0),.slice none 0 0] ee (0,0))::(b3,.cells #[J (a.kind),.string (a.name),J (a.part),J (a.n),J (a.m),.string (a.text),J (a.lost)] jf (0,0))::(bb,.cells #[.slice (Qd gP) ps.length pC,J (co.clock),J (co.next),J (co.wait),.slice co.A co.txs.length co.cap,J (gr.clock),J (gr.wait),J (gr.gen),.slice gr.mA gr.ms.length gr.mC,.slice gr.oA gr.os.length gr.oC,.slice snA sns.length snC] bF (0,0))::(gP,.cells uP bK (0,0))::(Ls++(Lo++K))) (wA w0 lo hi p2::F)) ?_ ?_
 refine oJ cD 14 9 [9,10,11,12,13,15,16,17] [14] [0,1,2,3,5,6] [14,15,16,17] [9] [0,1,2,3,5,6,10,11,12,13] (sp [(14,Sp.blk w5.heap.size (.agg #[J 0,J 0,.slice none 0 0,.slice none 0 0,.slice none 0 0,J 0,J 0]) bK)]) (sp [(9,Sp.deep w5.heap.size Qo (fun p:Pa=>p.c.toArray) (fun cs=> .tuple #[.agg cs,J (ek q.p.a (df t)).2.1,J (ek q.p.a (df t)).2.2]) (fun cq:Pa=>cq.a=(ek q.p.a (df t)).1))]) N N N N (cO _) (cO _) ?_ ?_
 refine jF [0,1,2,3,4,5,6,7,8,14] [9,10,11,12,13,15,16,17] [14] [0,1,2,3,5,6] 7 (sp [(14,Sp.blk w5.heap.size (.agg #[J 0,J 0,.slice none 0 0,.slice none 0 0,.slice none 0 0,J 0,J 0]) bK)]) N N N Nq<|aw Z Z Z Z Z (fun w' hw'=>Yp Z)<|aw Z Z Z Z Z (fun w' hw'=>aI Z)<|aw Z Z Z Z Z (fun w' hw'=>Zf aS Z)<|aw Z Z Z Z Z (fun w' hw'=>Zf dx Z)<|aw Z Z Z Z Z (fun w' hw'=>bf dZ Z (aJ ((H.later hw').ent (i:=3) Z) Z))<|aw Z Z Z Z Z (fun w' hw'=>Yi Z)<|aw Z Z Z Z Z (fun w' hw'=>cQ (k:=n) gx Z (congrArg (Value.int .i64) hpn) (by first|omega|(simp only[ae];omega)))<|aw Z Z Z Z Z (fun w' hw'=>o0 bk row hq Z Z ((H.later hw').ent (i:=4) Z))<|aw Z Z Z Z Z (fun w' hw'=>js dI Z ((H.later hw').ent (i:=0) Z) Z)<|yB bT Z Z Z Z Z (fun w' hw'=>hw'.size) fun b9=>aU ?_
 intro w6 hw' hF
 obtain⟨hF,bq,eq,hge9,hbl9⟩:=hF;cases eq
 replace H:=H.adoptNew hw' hbl9 hge9
 clear hw' hF
 refine dg 9 N Z<|cz rb (zz q.p (df t) _ (Hp.paM H (hps q hqm)) (hpk q hqm).1 (hpk q hqm).2) Z Z ?_
 rintro _ w7 ⟨p2,rfl,hap2,hnp2⟩;replace H:=H.learn hnp2.2 (wA w0 w6.heap.size w7.heap.size p2) ⟨H.size,hnp2.1⟩ (ao _) (ao _);clear hnp2
 refine U<|bp 10 N N N Z Z Z Z Nq (fun _=>Yu Z)<|bp 11 N N N Z Z Z Z Nq (fun _=>Xa Z Z)<|bp 12 N N N Z Z Z Z Nq (fun _=>Xi Z Z)<|bp 13 N N N Z Z Z Z Nq (fun _=>Xi Z Z)<|dg 15 N Z<|bC H 0 (#[J (p2.epoch),J (p2.leader),.slice p2.iA p2.isr.length p2.iC,.slice p2.kA p2.known.length p2.kC,.slice p2.rA p2.reps.length p2.rC,J (p2.few),J (p2.base)]) bi Z Z Z Z Z N N fun w8 H=>U<|bp 16 N N N Z Z Z Z Nq (fun _=>Wi Z)<|bp 17 N N N Z Z Z Z Nq (fun _=>Wi Z)<|cr N ?_
 exact⟨(p2,b9,_,_),⟨hap2,H⟩,OU Z Z Z,Qg⟩
 refine jF [0,1,2,3,4,5,6,7,8,9,10,11,12,13] [14,15,16,17] [9] [0,1,2,3,5,6,10,11,12,13] 3 (sp [(9,Sp.deep w5.heap.size Qo (fun p:Pa=>p.c.toArray) (fun cs=> .tuple #[.agg cs,J (ek q.p.a (df t)).2.1,J (ek q.p.a (df t)).2.2]) (fun cq:Pa=>cq.a=(ek q.p.a (df t)).1))]) N N N Nq<|aw Z Z Z Z Z (fun w' hw'=>Yp Z)<|aw Z Z Z Z Z (fun w' hw'=>aI Z)<|aw Z Z Z Z Z (fun w' hw'=>Zf aS Z)<|aw Z Z Z Z Z (fun w' hw'=>Zf dx Z)<|aw Z Z Z Z Z (fun w' hw'=>bf dZ Z (aJ ((H.later hw').ent (i:=3) Z) Z))<|aw Z Z Z Z Z (fun w' hw'=>Yi Z)<|aw Z Z Z Z Z (fun w' hw'=>cQ (k:=n) gx Z (congrArg (Value.int .i64) hpn) (by first|omega|(simp only[ae];omega)))<|aw Z Z Z Z Z (fun w' hw'=>o0 bk row hq Z Z ((H.later hw').ent (i:=4) Z))<|aw Z Z Z Z Z (fun w' hw'=>js dI Z ((H.later hw').ent (i:=0) Z) Z)<|tm (gv:=(fun cs=> .tuple #[.agg cs,J (ek q.p.a (df t)).2.1,J (ek q.p.a (df t)).2.2])) rb Z Z Z Z Z (fun w' hw'=>hw'.size) (fun w' hw'=>zz q.p (df t) w' (Hp.paM (H.later hw') (hps q hqm)) (hpk q hqm).1 (hpk q hqm).2) Z fun cs43=>aw Z Z Z Z Z (fun w' hw'=>Yu Z)<|aw Z Z Z Z Z (fun w' hw'=>Xa Z Z)<|aw Z Z Z Z Z (fun w' hw'=>Xi Z Z)<|aw Z Z Z Z Z (fun w' hw'=>Xi Z Z)<|aU ?_
 intro w9 hw' hF
 obtain⟨hF,p2,eq,hap2,hrd43⟩:=hF;cases eq
 replace H:=H.learn hw' (wA w0 w5.heap.size w9.heap.size p2) ⟨H.size,hrd43⟩ (ao _) (ao _)
 clear hw' hF
 refine dg 14 N Z<|fg H bT Z fun w10 b9 H=>U<|dg 15 N Z<|bC H 0 (#[J (p2.epoch),J (p2.leader),.slice p2.iA p2.isr.length p2.iC,.slice p2.kA p2.known.length p2.kC,.slice p2.rA p2.reps.length p2.rC,J (p2.few),J (p2.base)]) bi Z Z Z Z Z N N fun w11 H=>U<|bp 16 N N N Z Z Z Z Nq (fun _=>Wi Z)<|bp 17 N N N Z Z Z Z Nq (fun _=>Wi Z)<|cr N ?_
 exact⟨(p2,b9,_,_),⟨hap2,H⟩,OU Z Z Z,Qg⟩
 rintro⟨p2,b9,lo,hi⟩ ρ1 w12 ⟨hap2,H⟩
 show CW _ _ _ _ (dH (gT _ _ ρ1) [(9,.pointer (Qd b9)),(10,J (ek q.p.a (df t)).2.1),(8,J (ek q.p.a (df t)).2.2)]) w12
 refine W<|W<|Zr<|G (Yi Z) ?_
 refine rq (je Z Z) Z Z Z (fun h48=> ?_) (fun h48=> ?_)
 refine U<|ZT Z<|W<|Zr<|G (Yi Z)<|cz bJ (dQ (ek q.p.a (df t)).2.2 _) Z Z ?_
 rintro _ w13 ⟨rfl,hb⟩;replace H:=H.later hb;clear hb
 refine bC H 2 (#[J ((ek q.p.a (df t)).2.2),J (0),.slice none 0 0]) aN Z Z Z Z Z N N fun w14 H=>U<|Zt ?_
 exact eQ (cs0:= #[J ((ek q.p.a (df t)).2.2),J (0),.slice none 0 0]) Z aK Z (H.ent (i:=2) Z) Z ⟨⟨ps,some ⟨gP,0,none⟩,pC,co,clo,chi,gr,glo,ghi,sns,snA,snC⟩,by rw[hsp,if_neg h48];exact oY.plain _ _ _,by rw[hsp,if_neg h48];rfl,Bw.shut (X:=[(b9,_),(b7,_),(b4,_),(b3,_)]) row hsn hown (aj _ hco) (aj _ hgr) (fun q hq=>aj _ (hps q hq)) (fun f hf=>aj _ hf) H Z⟩
 refine U<|ZF Z<|Zk<|W ?_
 refine bP cD [0,1,2,3,4,5,6,7] [8] [] [0,1,2,3,5,7] (sp []) N N N N Nq (cO _) ?_
 refine aw Z Z Z Z Z (fun w' hw'=>Yp Z)<|aw Z Z Z Z Z (fun w' hw'=>aI Z)<|aw Z Z Z Z Z (fun w' hw'=>Zf aS Z)<|aw Z Z Z Z Z (fun w' hw'=>Zf dx Z)<|aw Z Z Z Z Z (fun w' hw'=>bf dZ Z (aJ ((H.later hw').ent (i:=4) Z) Z))<|aw Z Z Z Z Z (fun w' hw'=>Yi Z)<|aw Z Z Z Z Z (fun w' hw'=>js bk Z ((H.later hw').ent (i:=0) Z) Z)<|aw Z Z Z Z Z (fun w' hw'=>cQ (k:=n) gx Z (congrArg (Value.int .i64) hpn) (by first|omega|(simp only[ae];omega)))<|aU ?_
 intro w15 hw' hF
 replace H:=H.later hw';clear hw' hF
 refine m5 H 5 (⟨p2,lo,hi⟩) bi row hq 0 Z Z Z Z Z Z N fun w17 cur16 row16 H=> ?_
 have hs18:(ps.set n (⟨p2,lo,hi⟩))[n]? =some (⟨p2,lo,hi⟩):=am (cu hq).1
 refine U<|W<|Zr<|G (Yp Z)<|G (Yp Z)<|G (aI Z)<|G (Zf aS Z)<|G (Zf eH Z)<|G (j4 1 [J (co.clock),J (co.next),J (co.wait),.slice co.A co.txs.length co.cap] ay Z Z (H.ent (i:=4) Z) Z)<|G (Yt Z)<|G (Yi Z)<|cz Cs (J6 co t.name (t.parts.headD 0) k ti t _ (Hp.coM H (aj _ hco)) hcb hnmt hf h34 hpt) Z Z ?_
 rintro _ w19 ⟨c4,rfl,hac4,hnc4⟩;replace H:=H.learn hnc4.2 (xE w0 w17.heap.size w19.heap.size c4) ⟨H.size,hnc4.1⟩ (ao _) (ao _);clear hnc4
 refine G (Yu Z)<|G (Xa Z Z)<|G (Xi Z Z)<|G (aI Z)<|G (Zf aS Z)<|G (Zf eH Z)<|bC H 4 (#[.slice (Qd gP) ps.length pC,J (c4.clock),J (c4.next),J (c4.wait),.slice c4.A c4.txs.length c4.cap,J (gr.clock),J (gr.wait),J (gr.gen),.slice gr.mA gr.ms.length gr.mC,.slice gr.oA gr.os.length gr.oC,.slice snA sns.length snC]) aE Z Z Z Z Z N N fun w20 H=>U<|W<|Zr<|G (Yi Z)<|G (bE (cs:= #[J (0),J ((ek q.p.a (df t)).2.1),.slice none 0 0]) iN du N)<|bC H 2 (#[J (0),J ((ek q.p.a (df t)).2.1),.slice none 0 0]) aN Z Z Z Z Z N N fun w21 H=>U<|Zt ?_
 have hz:(ek q.p.a (df t)).2.2=0:=by simpa using h48
 exact eQ (cs0:= #[J (0),J ((ek q.p.a (df t)).2.1),.slice none 0 0]) Z aK Z (H.ent (i:=2) Z) Z ⟨⟨ps.set n ⟨p2,lo,hi⟩,some ⟨gP,0,none⟩,pC,c4,w17.heap.size,w19.heap.size,gr,glo,ghi,sns,snA,snC⟩,by rw[hsp,if_pos hz];exact oY.plain _ _ _,by rw[hsp,if_pos hz];unfold Bk.a;simp only[cT,hap2,hac4],Bw.shut (X:=[(b9,_),(b7,_),(b4,_),(b3,_)]) row16 hsn hown (az ..) (aj _ (aj _ hgr)) (fun y hy=>by rcases Ak hy with hy|hy;exact aj _ (aj _ (hps y hy));rw[hy];exact aj _ (az ..)) (fun f hf=>aj _ (aj _ hf)) H (by simp only[Bk.c,ae])⟩
 refine G (d7 Z)<|U<|ZT Z<|W<|Zr<|cz bJ (dQ 5 _) Z Z ?_
 rintro _ w22 ⟨rfl,hb⟩;replace H:=H.later hb;clear hb
 refine bC H 1 (#[J (5),J (0),.slice none 0 0]) aN Z Z Z Z Z N N fun w23 H=>U<|Zt ?_
 exact eQ (cs0:= #[J (5),J (0),.slice none 0 0]) Z aK Z (H.ent (i:=1) Z) Z ⟨⟨ps,some ⟨gP,0,none⟩,pC,co,clo,chi,gr,glo,ghi,sns,snA,snC⟩,by rw[hout h30];exact oY.plain _ _ _,by rw[hout h30];rfl,Bw.shut (X:=[(b7,_),(b4,_),(b3,_)]) row hsn hown hco hgr hps (fun _ h=>h) H Z⟩
theorem KK (b:Bk) (a:Act):wJ b.a a=({b.a with co:=(ig b.co.a a.n).1,gr:=qb b.gr.a a.n b.ps.length},⟨0,(ig b.co.a a.n).1.clock,[]⟩):=by
 unfold wJ
 rw[show b.a.ps.length=b.ps.length by show(b.ps.map _).length=_;rw[bl]]
 rfl
theorem KI {w0 w:World} {bb:Nat} {b:Bk} {gP:Nat} {uP:Array Value} {Ls Lo K:List (Nat×Obj)} {F:List cf} (a:Act) (B:Bw w0 w bb b gP uP Ls Lo K F) {k np:Nat} {wt:Int} (hcb:oW k b.co) (hk:k<=1000) (hn:0<=a.n/\a.n<=1000) (hgi:rh (fun _=>True) wt np k b.gr) (hp4:b.ps.length<=4):dt aa ow [.pointer (Qd bb),a.v] w fun v w2=> ∃ b':Bk,oY (wJ b.a a).2 v w2/\b'.a=(wJ b.a a).1/\xF w0 w2 bb b' K F:=by
 refine aG tT Z Z ?_
 have hsp:=KK b a
 obtain⟨ps,pA,pC,co,clo,chi,gr,glo,ghi,sns,snA,snC⟩:=b
 obtain⟨hpA,row,hsn,hown,hco,hgr,hps,H⟩:=B
 dsimp only at hpA row hsn hown hco hgr hps
 subst hpA
 replace H:Hp w0 w ((bb,.cells #[.slice (Qd gP) ps.length pC,J (co.clock),J (co.next),J (co.wait),.slice co.A co.txs.length co.cap,J (gr.clock),J (gr.wait),J (gr.gen),.slice gr.mA gr.ms.length gr.mC,.slice gr.oA gr.os.length gr.oC,.slice snA sns.length snC] bF (0,0))::(gP,.cells uP bK (0,0))::(Ls++(Lo++K))) F:=H
 dsimp only at hcb hgi hp4 hsp
 have h2z:(ig co.a a.n).2=0:=by unfold ig;rw[if_neg I]
 show CW _ _ _ _ (args [.pointer (Qd bb),.agg #[J (a.kind),.string (a.name),J (a.part),J (a.n),J (a.m),.string (a.text),J (a.lost)]]) w
 refine W<|Zr<|gM H Z Z fun w1 b3 H=>fg H du Z fun w2 b4 H=>U<|W ?_
 refine fp (τ:=Co×Nat×Nat×Nat) [5,6,8,9,10,11,12,13,14,15,16,17,18] (fun(_,b5,_,_)=>[(5,.pointer (Qd b5)),(6,J (ig co.a a.n).2)]) (fun(c3,b5,lo,hi) w'=>c3.a=(ig co.a a.n).1/\Hp w0 w' ((b5,.cells #[J (c3.clock),J (c3.next),J (c3.wait),.slice c3.A c3.txs.length c3.cap] bc (0,0))::(b4,.cells #[J (0),J (0),.slice none 0 0] ee (0,0))::(b3,.cells #[J (a.kind),.string (a.name),J (a.part),J (a.n),J (a.m),.string (a.text),J (a.lost)] jf (0,0))::(bb,.cells #[.slice (Qd gP) ps.length pC,J (co.clock),J (co.next),J (co.wait),.slice co.A co.txs.length co.cap,J (gr.clock),J (gr.wait),J (gr.gen),.slice gr.mA gr.ms.length gr.mC,.slice gr.oA gr.os.length gr.oC,.slice snA sns.length snC] bF (0,0))::(gP,.cells uP bK (0,0))::(Ls++(Lo++K))) (xE w0 lo hi c3::F)) ?_ ?_
 refine oJ cD 11 7 [7,8,9,10,12,13] [11] [0,1,2,3,5] [11,12,13] [7] [0,1,2,3,5,8,9,10] (sp [(11,Sp.blk w2.heap.size (.agg #[J 0,J 0,J 0,.slice none 0 0]) bc)]) (sp [(7,Sp.deep w2.heap.size M4 (fun c:Co=>c.c.toArray) (fun cs=> .tuple #[.agg cs,J (ig co.a a.n).2]) (fun cq:Co=>cq.a=(ig co.a a.n).1))]) N N N N (cO _) (cO _) ?_ ?_
 refine jF [0,1,2,3,4,5,6,11] [7,8,9,10,12,13] [11] [0,1,2,3,5] 5 (sp [(11,Sp.blk w2.heap.size (.agg #[J 0,J 0,J 0,.slice none 0 0]) bc)]) N N N Nq<|aw Z Z Z Z Z (fun w' hw'=>Yp Z)<|aw Z Z Z Z Z (fun w' hw'=>aI Z)<|aw Z Z Z Z Z (fun w' hw'=>Zf aS Z)<|aw Z Z Z Z Z (fun w' hw'=>Zf eH Z)<|aw Z Z Z Z Z (fun w' hw'=>j4 1 [J (co.clock),J (co.next),J (co.wait),.slice co.A co.txs.length co.cap] ay Z Z ((H.later hw').ent (i:=2) Z) Z)<|aw Z Z Z Z Z (fun w' hw'=>Zf gh Z)<|aw Z Z Z Z Z (fun w' hw'=>bf al Z (aJ ((H.later hw').ent (i:=1) Z) Z))<|yB cH Z Z Z Z Z (fun w' hw'=>hw'.size) fun b5=>aU ?_
 intro w3 hw' hF
 obtain⟨hF,bq,eq,hge5,hbl5⟩:=hF;cases eq
 replace H:=H.adoptNew hw' hbl5 hge5
 clear hw' hF
 refine dg 7 N Z<|cz vG (CJ co a.n k _ (Hp.coM H hco) hcb hk hn.1) Z Z ?_
 rintro _ w4 ⟨c3,rfl,hac3,hnc3⟩;replace H:=H.learn hnc3.2 (xE w0 w3.heap.size w4.heap.size c3) ⟨H.size,hnc3.1⟩ (ao _) (ao _);clear hnc3
 refine U<|bp 8 N N N Z Z Z Z Nq (fun _=>Yu Z)<|bp 9 N N N Z Z Z Z Nq (fun _=>Xa Z Z)<|bp 10 N N N Z Z Z Z Nq (fun _=>Xi Z Z)<|dg 12 N Z<|bC H 0 (#[J (c3.clock),J (c3.next),J (c3.wait),.slice c3.A c3.txs.length c3.cap]) aE Z Z Z Z Z N N fun w5 H=>U<|bp 13 N N N Z Z Z Z Nq (fun _=>Wi Z)<|cr N ?_
 exact⟨(c3,b5,_,_),⟨hac3,H⟩,lE Z Z,Qg⟩
 refine jF [0,1,2,3,4,5,6,7,8,9,10] [11,12,13] [7] [0,1,2,3,5,8,9,10] 2 (sp [(7,Sp.deep w2.heap.size M4 (fun c:Co=>c.c.toArray) (fun cs=> .tuple #[.agg cs,J (ig co.a a.n).2]) (fun cq:Co=>cq.a=(ig co.a a.n).1))]) N N N Nq<|aw Z Z Z Z Z (fun w' hw'=>Yp Z)<|aw Z Z Z Z Z (fun w' hw'=>aI Z)<|aw Z Z Z Z Z (fun w' hw'=>Zf aS Z)<|aw Z Z Z Z Z (fun w' hw'=>Zf eH Z)<|aw Z Z Z Z Z (fun w' hw'=>j4 1 [J (co.clock),J (co.next),J (co.wait),.slice co.A co.txs.length co.cap] ay Z Z ((H.later hw').ent (i:=2) Z) Z)<|aw Z Z Z Z Z (fun w' hw'=>Zf gh Z)<|aw Z Z Z Z Z (fun w' hw'=>bf al Z (aJ ((H.later hw').ent (i:=1) Z) Z))<|tm (gv:=(fun cs=> .tuple #[.agg cs,J (ig co.a a.n).2])) vG Z Z Z Z Z (fun w' hw'=>hw'.size) (fun w' hw'=>CJ co a.n k w' (Hp.coM (H.later hw') hco) hcb hk hn.1) Z fun cs16=>aw Z Z Z Z Z (fun w' hw'=>Yu Z)<|aw Z Z Z Z Z (fun w' hw'=>Xa Z Z)<|aw Z Z Z Z Z (fun w' hw'=>Xi Z Z)<|aU ?_
 intro w6 hw' hF
 obtain⟨hF,c3,eq,hac3,hrd16⟩:=hF;cases eq
 replace H:=H.learn hw' (xE w0 w2.heap.size w6.heap.size c3) ⟨H.size,hrd16⟩ (ao _) (ao _)
 clear hw' hF
 refine dg 11 N Z<|fg H cH Z fun w7 b5 H=>U<|dg 12 N Z<|bC H 0 (#[J (c3.clock),J (c3.next),J (c3.wait),.slice c3.A c3.txs.length c3.cap]) aE Z Z Z Z Z N N fun w8 H=>U<|bp 13 N N N Z Z Z Z Nq (fun _=>Wi Z)<|cr N ?_
 exact⟨(c3,b5,_,_),⟨hac3,H⟩,lE Z Z,Qg⟩
 rintro⟨c3,b5,lo,hi⟩ ρ1 w9 ⟨hac3,H⟩
 show CW _ _ _ _ (dH (gT _ _ ρ1) [(5,.pointer (Qd b5)),(6,J (ig co.a a.n).2)]) w9
 refine W<|W<|Zr<|G (Yi Z)<|G (ch Z Z I)<|U<|ZF Z<|Zk<|W ?_
 refine fp (τ:=Gr×Nat×Nat×Nat) [6,7,23,24,25,26,27,28,29,30,31,32,33,34,35,36,37,38,39] (fun(_,b7,_,_)=>[(7,.pointer (Qd b7)),(6,J 0)]) (fun(g3,b7,lo2,hi2) w'=>g3.a=((qb gr.a a.n ps.length,(0:Int))).1/\Hp w0 w' ((b7,.cells #[J (g3.clock),J (g3.wait),J (g3.gen),.slice g3.mA g3.ms.length g3.mC,.slice g3.oA g3.os.length g3.oC] cK (0,0))::(b5,.cells #[J (c3.clock),J (c3.next),J (c3.wait),.slice c3.A c3.txs.length c3.cap] bc (0,0))::(b4,.cells #[J (0),J (0),.slice none 0 0] ee (0,0))::(b3,.cells #[J (a.kind),.string (a.name),J (a.part),J (a.n),J (a.m),.string (a.text),J (a.lost)] jf (0,0))::(bb,.cells #[.slice (Qd gP) ps.length pC,J (co.clock),J (co.next),J (co.wait),.slice co.A co.txs.length co.cap,J (gr.clock),J (gr.wait),J (gr.gen),.slice gr.mA gr.ms.length gr.mC,.slice gr.oA gr.os.length gr.oC,.slice snA sns.length snC] bF (0,0))::(gP,.cells uP bK (0,0))::(Ls++(Lo++K))) (Kr w0 lo2 hi2 g3::xE w0 lo hi c3::F)) ?_ ?_
 refine oJ cD 17 13 [13,14,15,16,18,19] [17] [0,1,2,3,5,7,8,9,10,12] [17,18,19] [13] [0,1,2,3,5,7,8,9,10,12,14,15,16] (sp [(17,Sp.blk w9.heap.size (.agg #[J 0,J 0,J 0,.slice none 0 0,.slice none 0 0]) cK)]) (sp [(13,Sp.deep w9.heap.size QB (fun g:Gr=>g.c.toArray) (fun cs=> .tuple #[.agg cs,J ((qb gr.a a.n ps.length,(0:Int))).2]) (fun cq:Gr=>cq.a=((qb gr.a a.n ps.length,(0:Int))).1))]) N N N N (cO _) (cO _) ?_ ?_
 refine jF [0,1,2,3,4,5,6,7,8,9,10,11,12,17] [13,14,15,16,18,19] [17] [0,1,2,3,5,7,8,9,10,12] 5 (sp [(17,Sp.blk w9.heap.size (.agg #[J 0,J 0,J 0,.slice none 0 0,.slice none 0 0]) cK)]) N N N Nq<|aw Z Z Z Z Z (fun w' hw'=>Yp Z)<|aw Z Z Z Z Z (fun w' hw'=>aI Z)<|aw Z Z Z Z Z (fun w' hw'=>Zf aS Z)<|aw Z Z Z Z Z (fun w' hw'=>Zf jD Z)<|aw Z Z Z Z Z (fun w' hw'=>j4 5 [J (gr.clock),J (gr.wait),J (gr.gen),.slice gr.mA gr.ms.length gr.mC,.slice gr.oA gr.os.length gr.oC] aO Z Z ((H.later hw').ent (i:=3) Z) Z)<|aw Z Z Z Z Z (fun w' hw'=>Zf gh Z)<|aw Z Z Z Z Z (fun w' hw'=>bf al Z (aJ ((H.later hw').ent (i:=2) Z) Z))<|aw Z Z Z Z Z (fun w' hw'=>Yp Z)<|aw Z Z Z Z Z (fun w' hw'=>aI Z)<|aw Z Z Z Z Z (fun w' hw'=>Zf aS Z)<|aw Z Z Z Z Z (fun w' hw'=>Zf dx Z)<|aw Z Z Z Z Z (fun w' hw'=>bf dZ Z (aJ ((H.later hw').ent (i:=3) Z) Z))<|aw Z Z Z Z Z (fun w' hw'=>bj lW Z)<|yB d9 Z Z Z Z Z (fun w' hw'=>hw'.size) fun b7=>aU ?_
 intro w10 hw' hF
 obtain⟨hF,bq,eq,hge7,hbl7⟩:=hF;cases eq
 replace H:=H.adoptNew hw' hbl7 hge7
 clear hw' hF
 refine dg 13 N Z<|cz vF (FJ gr a.n ps.length _ (Hp.grM H (aj _ hgr)) hgi.ok hp4 (by have:=hgi.gen;omega) hn.1 hn.2 (by have:=hgi.clock;omega)) Z Z ?_
 rintro _ w11 ⟨g3,rfl,hag3,hng3⟩;replace H:=H.learn hng3.2 (Kr w0 w10.heap.size w11.heap.size g3) ⟨H.size,hng3.1⟩ (ao _) (ao _);clear hng3
 refine U<|bp 14 N N N Z Z Z Z Nq (fun _=>Yu Z)<|bp 15 N N N Z Z Z Z Nq (fun _=>Xa Z Z)<|bp 16 N N N Z Z Z Z Nq (fun _=>Xi Z Z)<|dg 18 N Z<|bC H 0 (#[J (g3.clock),J (g3.wait),J (g3.gen),.slice g3.mA g3.ms.length g3.mC,.slice g3.oA g3.os.length g3.oC]) bA Z Z Z Z Z N N fun w12 H=>U<|bp 19 N N N Z Z Z Z Nq (fun _=>Wi Z)<|cr N ?_
 exact⟨(g3,b7,_,_),⟨hag3,H⟩,lE Z Z,Qg⟩
 refine jF [0,1,2,3,4,5,6,7,8,9,10,11,12,13,14,15,16] [17,18,19] [13] [0,1,2,3,5,7,8,9,10,12,14,15,16] 2 (sp [(13,Sp.deep w9.heap.size QB (fun g:Gr=>g.c.toArray) (fun cs=> .tuple #[.agg cs,J ((qb gr.a a.n ps.length,(0:Int))).2]) (fun cq:Gr=>cq.a=((qb gr.a a.n ps.length,(0:Int))).1))]) N N N Nq<|aw Z Z Z Z Z (fun w' hw'=>Yp Z)<|aw Z Z Z Z Z (fun w' hw'=>aI Z)<|aw Z Z Z Z Z (fun w' hw'=>Zf aS Z)<|aw Z Z Z Z Z (fun w' hw'=>Zf jD Z)<|aw Z Z Z Z Z (fun w' hw'=>j4 5 [J (gr.clock),J (gr.wait),J (gr.gen),.slice gr.mA gr.ms.length gr.mC,.slice gr.oA gr.os.length gr.oC] aO Z Z ((H.later hw').ent (i:=3) Z) Z)<|aw Z Z Z Z Z (fun w' hw'=>Zf gh Z)<|aw Z Z Z Z Z (fun w' hw'=>bf al Z (aJ ((H.later hw').ent (i:=2) Z) Z))<|aw Z Z Z Z Z (fun w' hw'=>Yp Z)<|aw Z Z Z Z Z (fun w' hw'=>aI Z)<|aw Z Z Z Z Z (fun w' hw'=>Zf aS Z)<|aw Z Z Z Z Z (fun w' hw'=>Zf dx Z)<|aw Z Z Z Z Z (fun w' hw'=>bf dZ Z (aJ ((H.later hw').ent (i:=3) Z) Z))<|aw Z Z Z Z Z (fun w' hw'=>bj lW Z)<|tm (gv:=(fun cs=> .tuple #[.agg cs,J ((qb gr.a a.n ps.length,(0:Int))).2])) vF Z Z Z Z Z (fun w' hw'=>hw'.size) (fun w' hw'=>FJ gr a.n ps.length w' (Hp.grM (H.later hw') (aj _ hgr)) hgi.ok hp4 (by have:=hgi.gen;omega) hn.1 hn.2 (by have:=hgi.clock;omega)) Z fun cs37=>aw Z Z Z Z Z (fun w' hw'=>Yu Z)<|aw Z Z Z Z Z (fun w' hw'=>Xa Z Z)<|aw Z Z Z Z Z (fun w' hw'=>Xi Z Z)<|aU ?_
 intro w13 hw' hF
 obtain⟨hF,g3,eq,hag3,hrd37⟩:=hF;cases eq
 replace H:=H.learn hw' (Kr w0 w9.heap.size w13.heap.size g3) ⟨H.size,hrd37⟩ (ao _) (ao _)
 clear hw' hF
 refine dg 17 N Z<|fg H d9 Z fun w14 b7 H=>U<|dg 18 N Z<|bC H 0 (#[J (g3.clock),J (g3.wait),J (g3.gen),.slice g3.mA g3.ms.length g3.mC,.slice g3.oA g3.os.length g3.oC]) bA Z Z Z Z Z N N fun w15 H=>U<|bp 19 N N N Z Z Z Z Nq (fun _=>Wi Z)<|cr N ?_
 exact⟨(g3,b7,_,_),⟨hag3,H⟩,lE Z Z,Qg⟩
 rintro⟨g3,b7,lo2,hi2⟩ ρ1 w16 ⟨hag3,H⟩
 show CW _ _ _ _ (dH (gT _ _ ρ1) [(7,.pointer (Qd b7)),(6,J 0)]) w16
 refine W<|W<|Zr<|G (Yi Z)<|G (ch Z Z (by decide))<|U<|ZF Z<|Zk<|W ?_
 refine u6 cD (fun w'=>w'.heap[b5]? =some (.cells #[J (c3.clock),J (c3.next),J (c3.wait),.slice c3.A c3.txs.length c3.cap] bc (0,0))/\w'.heap[b7]? =some (.cells #[J (g3.clock),J (g3.wait),J (g3.gen),.slice g3.mA g3.ms.length g3.mC,.slice g3.oA g3.os.length g3.oC] cK (0,0))) ?_
 intro w17 hw';replace H:=H.later hw';clear hw'
 refine cI 0 N N N Z Z Z Z Nq ⟨H.ent (i:=1) Z,H.ent (i:=0) Z⟩ (fun _ hS=>Yp Z)<|cI 1 N N N Z Z Z Z Nq ⟨H.ent (i:=1) Z,H.ent (i:=0) Z⟩ (fun _ hS=>Yp Z)<|cI 2 N N N Z Z Z Z Nq ⟨H.ent (i:=1) Z,H.ent (i:=0) Z⟩ (fun _ hS=>js ay Z hS.1 Z)<|cI 3 N N N Z Z Z Z Nq ⟨H.ent (i:=1) Z,H.ent (i:=0) Z⟩ (fun _ hS=>js aO Z hS.2 Z)<|cI 4 N N N Z Z Z Z Nq ⟨H.ent (i:=1) Z,H.ent (i:=0) Z⟩ (fun _ hS=>aI Z)<|cI 5 N N N Z Z Z Z Nq ⟨H.ent (i:=1) Z,H.ent (i:=0) Z⟩ (fun _ hS=>Zf aS Z)<|cI 6 N N N Z Z Z Z Nq ⟨H.ent (i:=1) Z,H.ent (i:=0) Z⟩ (fun _ hS=>Zf eH Z)<|Ku 7 N Z<|bC H 4 (#[.slice (Qd gP) ps.length pC,J (c3.clock),J (c3.next),J (c3.wait),.slice c3.A c3.txs.length c3.cap,J (gr.clock),J (gr.wait),J (gr.gen),.slice gr.mA gr.ms.length gr.mC,.slice gr.oA gr.os.length gr.oC,.slice snA sns.length snC]) aE Z Z Z Z Z N N fun w18 H=>U ?_
 refine⟨⟨H.ent (i:=1) Z,H.ent (i:=0) Z⟩,?_⟩
 refine cI 8 N N N Z Z Z Z Nq ⟨H.ent (i:=1) Z,H.ent (i:=0) Z⟩ (fun _ hS=>aI Z)<|cI 9 N N N Z Z Z Z Nq ⟨H.ent (i:=1) Z,H.ent (i:=0) Z⟩ (fun _ hS=>Zf aS Z)<|cI 10 N N N Z Z Z Z Nq ⟨H.ent (i:=1) Z,H.ent (i:=0) Z⟩ (fun _ hS=>Zf jD Z)<|Ku 11 N Z<|bC H 4 (#[.slice (Qd gP) ps.length pC,J (c3.clock),J (c3.next),J (c3.wait),.slice c3.A c3.txs.length c3.cap,J (g3.clock),J (g3.wait),J (g3.gen),.slice g3.mA g3.ms.length g3.mC,.slice g3.oA g3.os.length g3.oC,.slice snA sns.length snC]) bA Z Z Z Z Z N N fun w19 H=>U ?_
 refine⟨⟨H.ent (i:=1) Z,H.ent (i:=0) Z⟩,?_⟩
 refine xJ N<|W<|Zr<|G (Zf kw Z)<|G (Zd al H 1 Z Z Z)<|G (bE (cs:= #[J (0),J (c3.clock),.slice none 0 0]) iN du N)<|bC H 2 (#[J (0),J (c3.clock),.slice none 0 0]) aN Z Z Z Z Z N N fun w20 H=>U<|Zt ?_
 have hck:c3.clock=(ig co.a a.n).1.clock:=by rw[<-hac3];rfl
 exact eQ (cs0:= #[J (0),J (c3.clock),.slice none 0 0]) Z aK Z (H.ent (i:=2) Z) Z ⟨⟨ps,some ⟨gP,0,none⟩,pC,c3,lo,hi,g3,lo2,hi2,sns,snA,snC⟩,by rw[hsp,<-hck];exact oY.plain _ _ _,by rw[hsp,<-hac3];unfold Bk.a;rw[hag3],Bw.shut (X:=[(b7,_),(b5,_),(b4,_),(b3,_)]) row hsn hown (aj _ (az ..)) (az ..) (fun q hq=>aj _ (aj _ (hps q hq))) (fun f hf=>aj _ (aj _ hf)) H Z⟩
theorem Le {w:Wa} {a:Act} {p:fX} (hp:w.ps[a.part.toNat]? =some p):mD w a=if(jd p a).2.2=0 then({w with ps:=w.ps.set a.part.toNat (jd p a).1},⟨0,(jd p a).2.1,[]⟩)else lF w (jd p a).2.2:=by
 unfold mD
 rw[hp]
theorem Lc {w0 w:World} {bb:Nat} {b:Bk} {gP:Nat} {uP:Array Value} {Ls Lo K:List (Nat×Obj)} {F:List cf} (a:Act) (B:Bw w0 w bb b gP uP Ls Lo K F) (hkd:a.kind=8∨a.kind=9∨a.kind=13) (hpn:0<=a.part/\a.part<b.ps.length) (hn:0<=a.n/\ ∀ q∈b.ps,a.n<q.p.reps.length) (hm:0<=a.m/\a.m<=1000) (hpk: ∀ q∈b.ps,q.p.a.ok):dt aa ln [.pointer (Qd bb),a.v] w fun v w2=> ∃ b':Bk,oY (mD b.a a).2 v w2/\b'.a=(mD b.a a).1/\xF w0 w2 bb b' K F:=by
 refine aG qM Z Z ?_
 obtain⟨n,hna⟩: ∃ n:Nat,a.part=(n:Int):=⟨a.part.toNat,by omega⟩
 have htn:a.part.toNat=n:=by omega
 obtain⟨r,hnr⟩: ∃ r:Nat,a.n=(r:Int):=⟨a.n.toNat,by omega⟩
 have htr:a.n.toNat=r:=by omega
 obtain⟨mm,hmm⟩: ∃ r:Nat,a.m=(r:Int):=⟨a.m.toNat,by omega⟩
 have htm:a.m.toNat=mm:=by omega
 obtain⟨q,hq⟩: ∃ q,b.ps[n]? =some q:=⟨_,ai I⟩
 have hqm:=ab hq
 have hok:=hpk q hqm
 have hr:r<q.p.reps.length:=by have:=hn.2 q hqm;omega
 have hsp:=Le (w:=b.a) (a:=a) (p:=q.p.a) (by rw[htn];show(b.ps.map fun q=>q.p.a)[n]? =_;rw[aH,hq];rfl)
 obtain⟨z,hz⟩: ∃ z,jd q.p.a a=z:=⟨_,rfl⟩
 obtain⟨ps,pA,pC,co,clo,chi,gr,glo,ghi,sns,snA,snC⟩:=b
 obtain⟨hpA,row,hsn,hown,hco,hgr,hps,H⟩:=B
 dsimp only at hpA row hsn hown hco hgr hps
 subst hpA
 replace H:Hp w0 w ((bb,.cells #[.slice (Qd gP) ps.length pC,J (co.clock),J (co.next),J (co.wait),.slice co.A co.txs.length co.cap,J (gr.clock),J (gr.wait),J (gr.gen),.slice gr.mA gr.ms.length gr.mC,.slice gr.oA gr.os.length gr.oC,.slice snA sns.length snC] bF (0,0))::(gP,.cells uP bK (0,0))::(Ls++(Lo++K))) F:=H
 dsimp only at hpn hq hqm
 show CW _ _ _ _ (args [.pointer (Qd bb),.agg #[J (a.kind),.string (a.name),J (a.part),J (a.n),J (a.m),.string (a.text),J (a.lost)]]) w
 refine W<|Zr<|gM H Z Z fun w1 b3 H=>fg H du Z fun w2 b4 H=>U<|W<|W<|Zr<|G (Yp Z)<|G (Zf fe Z)<|G (Zd al H 1 Z Z Z)<|cz d5 (oh bb ⟨ps,some ⟨gP,0,none⟩,pC,co,clo,chi,gr,glo,ghi,sns,snA,snC⟩ a.part _ (H.ent (i:=2) Z)) Z Z ?_
 rintro _ w3 ⟨rfl,hb⟩;replace H:=H.later hb;clear hb
 rw[decide_eq_true hpn]
 refine G (d7 Z)<|U<|ZF Z<|Zk<|W ?_
 refine bP cD [0,1,2,3,4,5,6,7,8,9] [10] [9] [0,1,2,3,5,7] (sp [(9,Sp.blk w3.heap.size (.agg #[J 0,J 0,.slice none 0 0,.slice none 0 0,.slice none 0 0,J 0,J 0]) bK)]) N N N N Nq (cO _) ?_
 refine aw Z Z Z Z Z (fun w' hw'=>Yp Z)<|aw Z Z Z Z Z (fun w' hw'=>aI Z)<|aw Z Z Z Z Z (fun w' hw'=>Zf aS Z)<|aw Z Z Z Z Z (fun w' hw'=>Zf dx Z)<|aw Z Z Z Z Z (fun w' hw'=>bf dZ Z (aJ ((H.later hw').ent (i:=2) Z) Z))<|aw Z Z Z Z Z (fun w' hw'=>Zf fe Z)<|aw Z Z Z Z Z (fun w' hw'=>bf al Z (aJ ((H.later hw').ent (i:=1) Z) Z))<|aw Z Z Z Z Z (fun w' hw'=>cQ (k:=n) gx Z (congrArg (Value.int .i64) hna) (by first|omega|(simp only[ae];omega)))<|aw Z Z Z Z Z (fun w' hw'=>o0 bk row hq Z Z ((H.later hw').ent (i:=3) Z))<|yB bT Z Z Z Z Z (fun w' hw'=>hw'.size) fun b5=>aU ?_
 intro w4 hw' hF
 obtain⟨hF,bq,eq,hge5,hbl5⟩:=hF;cases eq
 have Hb:=H
 replace H:=H.adoptNew hw' hbl5 hge5
 clear hw' hF
 refine bC H 0 (#[J (q.p.epoch),J (q.p.leader),.slice q.p.iA q.p.isr.length q.p.iC,.slice q.p.kA q.p.known.length q.p.kC,.slice q.p.rA q.p.reps.length q.p.rC,J (q.p.few),J (q.p.base)]) bi Z Z Z Z Z N N fun w5 H=>U<|W<|Zr<|G (Wi Z)<|U<|W<|Zr<|G (Wi Z)<|U<|W<|W<|Zr<|G (Zf un Z)<|G (Zd al H 2 Z Z Z)<|U ?_
 refine fp (τ:=Pa×Nat×Nat) [6,7,25,26,27,28,29,30,31,32,33,34,35,36,37,38,39,40,41,42,43,44,45,46,47,48,49,50,51,52,53,54,55,56,57,58,59,60,61,62,63,64,65,66,67,68,69,70,71,72,73,74,75,76,77,78,79,80,81,82,83,84,85,86,87,88,89,90,91,92,93,94,95,96,97] (fun _=>[(6,J z.2.1),(7,J z.2.2)]) (fun(p2,lo,hi) w'=>p2.a=z.1/\Hp w0 w' ((b5,.cells #[J (p2.epoch),J (p2.leader),.slice p2.iA p2.isr.length p2.iC,.slice p2.kA p2.known.length p2.kC,.slice p2.rA p2.reps.length p2.rC,J (p2.few),J (p2.base)] bK (0,0))::(b4,.cells #[J (0),J (0),.slice none 0 0] ee (0,0))::(b3,.cells #[J (a.kind),.string (a.name),J (a.part),J (a.n),J (a.m),.string (a.text),J (a.lost)] jf (0,0))::(bb,.cells #[.slice (Qd gP) ps.length pC,J (co.clock),J (co.next),J (co.wait),.slice co.A co.txs.length co.cap,J (gr.clock),J (gr.wait),J (gr.gen),.slice gr.mA gr.ms.length gr.mC,.slice gr.oA gr.os.length gr.oC,.slice snA sns.length snC] bF (0,0))::(gP,.cells uP bK (0,0))::(Ls++(Lo++K))) (wA w0 lo hi p2::F)) ?_ ?_
 refine Zb<|W<|Zr ?_
 refine dq (br Z Z) Z Z Z (fun h33=> ?_) (fun h33=> ?_)
 refine G (Wb Z)<|U<|ZT Z<|Zr<|G (Zw bk H 0 Z Z Z)<|G (Zf gh Z)<|G (Zd al H 2 Z Z Z)<|cz Cn ((by have hA:=Jr q.p r _ (Hp.paM H (hps q hqm)) hok hr;rw[<-hnr]at hA;exact hA)) Z Z ?_
 rintro _ w6 ⟨p2,rfl,hap2,hnp2⟩;replace H:=H.learn hnp2.2 (wA w0 w5.heap.size w6.heap.size p2) ⟨H.size,hnp2.1⟩ (ao _) (ao _);clear hnp2
 refine G (Yu Z)<|G (Xa Z Z)<|G (Xi Z Z)<|G (Xi Z Z)<|bC H 0 (#[J (p2.epoch),J (p2.leader),.slice p2.iA p2.isr.length p2.iC,.slice p2.kA p2.known.length p2.kC,.slice p2.rA p2.reps.length p2.rC,J (p2.few),J (p2.base)]) bi Z Z Z Z Z N N fun w7 H=>G (Wi Z)<|G (Wi Z)<|U ?_
 obtain rfl:z=gk q.p.a r:=by rw[<-hz];unfold jd;rw[if_pos h33,htr]
 exact⟨(p2,_,_),⟨hap2,H⟩,lE Z Z,Qg⟩
 refine G (Wb Z)<|U<|ZF Z<|W<|Zr ?_
 refine dq (br Z Z) Z Z Z (fun h43=> ?_) (fun h43=> ?_)
 refine G (Wb Z)<|U<|ZT Z<|Zr<|G (Zw bk H 0 Z Z Z)<|G (Zf gh Z)<|G (Zd al H 2 Z Z Z)<|cz EA ((by have hA:=Ly q.p r _ (Hp.paM H (hps q hqm)) hok hr;rw[<-hnr]at hA;exact hA)) Z Z ?_
 rintro _ w8 ⟨p2,rfl,hap2,hnp2⟩;replace H:=H.learn hnp2.2 (wA w0 w5.heap.size w8.heap.size p2) ⟨H.size,hnp2.1⟩ (ao _) (ao _);clear hnp2
 refine G (Yu Z)<|G (Xa Z Z)<|G (Xi Z Z)<|bC H 0 (#[J (p2.epoch),J (p2.leader),.slice p2.iA p2.isr.length p2.iC,.slice p2.kA p2.known.length p2.kC,.slice p2.rA p2.reps.length p2.rC,J (p2.few),J (p2.base)]) bi Z Z Z Z Z N N fun w9 H=>G (Wi Z)<|U ?_
 obtain rfl:z=((jm q.p.a r).1,0,(jm q.p.a r).2):=by rw[<-hz];unfold jd;rw[if_neg h33,if_pos h43,htr]
 exact⟨(p2,_,_),⟨hap2,H⟩,lE Z Z,Qg⟩
 refine G (Wb Z)<|U<|ZF Z<|W<|Zr<|G (lM Z Z I)<|G (Wb Z)<|U<|ZF Z<|W<|Zr<|G (lM Z Z I)<|G (Wb Z)<|U<|ZF Z<|W<|Zr<|G (lM Z Z I)<|G (Wb Z)<|U<|ZF Z<|W<|Zr<|G (rP Z Z I)<|G (Wb Z)<|U<|ZT Z<|Zr<|G (Zw bk H 0 Z Z Z)<|G (Zf gh Z)<|G (Zd al H 2 Z Z Z)<|cz Cp ((by have hA:=Js q.p r _ (Hp.paM H (hps q hqm)) hok hr;rw[<-hnr]at hA;exact hA)) Z Z ?_
 rintro _ w10 ⟨p2,rfl,hap2,hnp2⟩;replace H:=H.learn hnp2.2 (wA w0 w5.heap.size w10.heap.size p2) ⟨H.size,hnp2.1⟩ (ao _) (ao _);clear hnp2
 refine G (Yu Z)<|G (Xa Z Z)<|G (Xi Z Z)<|bC H 0 (#[J (p2.epoch),J (p2.leader),.slice p2.iA p2.isr.length p2.iC,.slice p2.kA p2.known.length p2.kC,.slice p2.rA p2.reps.length p2.rC,J (p2.few),J (p2.base)]) bi Z Z Z Z Z N N fun w11 H=>G (Wi Z)<|U ?_
 obtain rfl:z=((fk q.p.a r).1,0,(fk q.p.a r).2):=by rw[<-hz];unfold jd;rw[if_neg h33,if_neg h43,htr]
 exact⟨(p2,_,_),⟨hap2,H⟩,lE Z Z,Qg⟩
 rintro⟨p2,lo,hi⟩ ρ1 w12 ⟨hap2,H⟩
 show CW _ _ _ _ (dH (gT _ _ ρ1) [(6,J z.2.1),(7,J z.2.2)]) w12
 refine W<|W<|Zr<|G (Yi Z) ?_
 refine rq (je Z Z) Z Z Z (fun h99=> ?_) (fun h99=> ?_)
 refine U<|ZT Z<|W<|Zr<|G (Yi Z)<|cz bJ (dQ z.2.2 _) Z Z ?_
 rintro _ w13 ⟨rfl,hb⟩;replace H:=H.later hb;clear hb
 refine bC H 1 (#[J (z.2.2),J (0),.slice none 0 0]) aN Z Z Z Z Z N N fun w14 H=>U<|Zt ?_
 exact eQ (cs0:= #[J (z.2.2),J (0),.slice none 0 0]) Z aK Z (H.ent (i:=1) Z) Z ⟨⟨ps,some ⟨gP,0,none⟩,pC,co,clo,chi,gr,glo,ghi,sns,snA,snC⟩,by rw[hsp,hz,if_neg h99];exact oY.plain _ _ _,by rw[hsp,hz,if_neg h99];rfl,Bw.shut (X:=[(b5,_),(b4,_),(b3,_)]) row hsn hown (aj _ hco) (aj _ hgr) (fun q hq=>aj _ (hps q hq)) (fun f hf=>aj _ hf) H Z⟩
 refine U<|ZF Z<|Zk<|W ?_
 refine bP cD [0,1,2,3,4,5,6,7,8] [9] [] [0,1,2,3,5,8] (sp []) N N N N Nq (cO _) ?_
 refine aw Z Z Z Z Z (fun w' hw'=>Yp Z)<|aw Z Z Z Z Z (fun w' hw'=>aI Z)<|aw Z Z Z Z Z (fun w' hw'=>Zf aS Z)<|aw Z Z Z Z Z (fun w' hw'=>Zf dx Z)<|aw Z Z Z Z Z (fun w' hw'=>bf dZ Z (aJ ((H.later hw').ent (i:=3) Z) Z))<|aw Z Z Z Z Z (fun w' hw'=>Zf fe Z)<|aw Z Z Z Z Z (fun w' hw'=>bf al Z (aJ ((H.later hw').ent (i:=2) Z) Z))<|aw Z Z Z Z Z (fun w' hw'=>js bk Z ((H.later hw').ent (i:=0) Z) Z)<|aw Z Z Z Z Z (fun w' hw'=>cQ (k:=n) gx Z (congrArg (Value.int .i64) hna) (by first|omega|(simp only[ae];omega)))<|aU ?_
 intro w15 hw' hF
 replace H:=H.later hw';clear hw' hF
 refine m5 H 4 (⟨p2,lo,hi⟩) bi row hq 0 Z Z Z Z Z Z N fun w17 cur16 row16 H=> ?_
 have hs18:(ps.set n (⟨p2,lo,hi⟩))[n]? =some (⟨p2,lo,hi⟩):=am (cu hq).1
 refine U<|W<|Zr<|G (Yi Z)<|G (bE (cs:= #[J (0),J (z.2.1),.slice none 0 0]) iN du N)<|bC H 1 (#[J (0),J (z.2.1),.slice none 0 0]) aN Z Z Z Z Z N N fun w19 H=>U<|Zt ?_
 have hz0:z.2.2=0:=by simpa using h99
 exact eQ (cs0:= #[J (0),J (z.2.1),.slice none 0 0]) Z aK Z (H.ent (i:=1) Z) Z ⟨⟨ps.set n ⟨p2,lo,hi⟩,some ⟨gP,0,none⟩,pC,co,clo,chi,gr,glo,ghi,sns,snA,snC⟩,by rw[hsp,hz,if_pos hz0];exact oY.plain _ _ _,by rw[hsp,hz,if_pos hz0,htn];unfold Bk.a;simp only[cT,hap2],Bw.shut (X:=[(b5,_),(b4,_),(b3,_)]) row16 hsn hown (aj _ hco) (aj _ hgr) (fun y hy=>by rcases Ak hy with hy|hy;exact aj _ (hps y hy);rw[hy];exact az ..) (fun f hf=>aj _ hf) H (by simp only[Bk.c,ae])⟩
theorem NM {b:Bk} {a:Act} {z:Gr×Int} (hz:(if a.kind=16 then tz b.gr.a a.name b.ps.length else if a.kind=18 then xy b.gr.a a.name a.n else sM b.gr.a a.name a.n a.part a.m)=z):Ar b.a a=if z.2=0 then({b.a with gr:=z.1},⟨0,z.1.gen,[]⟩)else lF b.a z.2:=by
 subst hz
 unfold Ar G7
 rw[show b.a.ps.length=b.ps.length by show(b.ps.map _).length=_;rw[bl]]
 rfl
theorem NL {w0 w:World} {bb:Nat} {b:Bk} {gP:Nat} {uP:Array Value} {Ls Lo K:List (Nat×Obj)} {F:List cf} (a:Act) (B:Bw w0 w bb b gP uP Ls Lo K F) {k np:Nat} {wt:Int} (hk:k<=1000) (h17:a.kind≠17) (hnm:bo a.name=true) (hm:0<=a.m/\a.m<=1000) (hgi:rh (fun _=>True) wt np k b.gr) (hp4:b.ps.length<=4):dt aa lZ [.pointer (Qd bb),a.v] w fun v w2=> ∃ b':Bk,oY (Ar b.a a).2 v w2/\b'.a=(Ar b.a a).1/\xF w0 w2 bb b' K F:=by
 refine aG rN Z Z ?_
 obtain⟨z,hz⟩: ∃ z,(if a.kind=16 then tz b.gr.a a.name b.ps.length else if a.kind=18 then xy b.gr.a a.name a.n else sM b.gr.a a.name a.n a.part a.m)=z:=⟨_,rfl⟩
 have hsp:=NM hz
 obtain⟨ps,pA,pC,co,clo,chi,gr,glo,ghi,sns,snA,snC⟩:=b
 obtain⟨hpA,row,hsn,hown,hco,hgr,hps,H⟩:=B
 dsimp only at hpA row hsn hown hco hgr hps
 subst hpA
 replace H:Hp w0 w ((bb,.cells #[.slice (Qd gP) ps.length pC,J (co.clock),J (co.next),J (co.wait),.slice co.A co.txs.length co.cap,J (gr.clock),J (gr.wait),J (gr.gen),.slice gr.mA gr.ms.length gr.mC,.slice gr.oA gr.os.length gr.oC,.slice snA sns.length snC] bF (0,0))::(gP,.cells uP bK (0,0))::(Ls++(Lo++K))) F:=H
 dsimp only at hgi hp4 hz
 show CW _ _ _ _ (args [.pointer (Qd bb),.agg #[J (a.kind),.string (a.name),J (a.part),J (a.n),J (a.m),.string (a.text),J (a.lost)]]) w
 refine W<|Zr<|gM H Z Z fun w1 b3 H=>fg H du Z fun w2 b4 H=>U<|W<|Zr<|G (Yp Z)<|G (aI Z)<|G (Zf aS Z)<|G (Zf jD Z)<|G (j4 5 [J (gr.clock),J (gr.wait),J (gr.gen),.slice gr.mA gr.ms.length gr.mC,.slice gr.oA gr.os.length gr.oC] aO Z Z (H.ent (i:=2) Z) Z)<|fg H d9 Z fun w3 b5 H=>bC H 0 (#[J (gr.clock),J (gr.wait),J (gr.gen),.slice gr.mA gr.ms.length gr.mC,.slice gr.oA gr.os.length gr.oC]) bA Z Z Z Z Z N N fun w4 H=>U<|W<|Zr<|G (Wi Z)<|U<|W<|W<|Zr<|G (Zf un Z)<|G (Zd al H 2 Z Z Z)<|U ?_
 refine fp (τ:=Gr×Nat×Nat) [6,14,15,16,17,18,19,20,21,22,23,24,25,26,27,28,29,30,31,32,33,34,35,36,37,38,39,40,41,42,43,44,45,46,47,48,49,50,51,52,53,54,55,56,57,58,59,60,61,62,63,64,65,66,67] (fun _=>[(6,J z.2)]) (fun(g3,lo,hi) w'=>g3.a=z.1/\Hp w0 w' ((b5,.cells #[J (g3.clock),J (g3.wait),J (g3.gen),.slice g3.mA g3.ms.length g3.mC,.slice g3.oA g3.os.length g3.oC] cK (0,0))::(b4,.cells #[J (0),J (0),.slice none 0 0] ee (0,0))::(b3,.cells #[J (a.kind),.string (a.name),J (a.part),J (a.n),J (a.m),.string (a.text),J (a.lost)] jf (0,0))::(bb,.cells #[.slice (Qd gP) ps.length pC,J (co.clock),J (co.next),J (co.wait),.slice co.A co.txs.length co.cap,J (gr.clock),J (gr.wait),J (gr.gen),.slice gr.mA gr.ms.length gr.mC,.slice gr.oA gr.os.length gr.oC,.slice snA sns.length snC] bF (0,0))::(gP,.cells uP bK (0,0))::(Ls++(Lo++K))) (Kr w0 lo hi g3::F)) ?_ ?_
 refine Zb<|W<|Zr ?_
 refine dq (br Z Z) Z Z Z (fun h28=> ?_) (fun h28=> ?_)
 refine G (Wb Z)<|U<|ZT Z ?_
 refine bP cD [0,1,2,3,4,5,6,7,8,9,10,11,12] [13,14] [9] [1,3,4,5,6,8,10,11,12] (sp [(9,Sp.deep w4.heap.size QB (fun g:Gr=>g.c.toArray) (fun cs=> .tuple #[.agg cs,J (tz gr.a a.name ps.length).2]) (fun cq:Gr=>cq.a=(tz gr.a a.name ps.length).1))]) N N N N Nq (cO _) ?_
 refine aw Z Z Z Z Z (fun w' hw'=>js aO Z ((H.later hw').ent (i:=0) Z) Z)<|aw Z Z Z Z Z (fun w' hw'=>Zf fl Z)<|aw Z Z Z Z Z (fun w' hw'=>bf aZ Z (aJ ((H.later hw').ent (i:=2) Z) Z))<|aw Z Z Z Z Z (fun w' hw'=>Yp Z)<|aw Z Z Z Z Z (fun w' hw'=>aI Z)<|aw Z Z Z Z Z (fun w' hw'=>Zf aS Z)<|aw Z Z Z Z Z (fun w' hw'=>Zf dx Z)<|aw Z Z Z Z Z (fun w' hw'=>bf dZ Z (aJ ((H.later hw').ent (i:=3) Z) Z))<|aw Z Z Z Z Z (fun w' hw'=>bj lW Z)<|tm (gv:=(fun cs=> .tuple #[.agg cs,J (tz gr.a a.name ps.length).2])) Cq Z Z Z Z Z (fun w' hw'=>hw'.size) (fun w' hw'=>JJ gr a.name ps.length w' (Hp.grM (H.later hw') hgr) hgi.ok hnm hp4 (by have:=hgi.gen;omega)) Z fun cs39=>aw Z Z Z Z Z (fun w' hw'=>Yu Z)<|aw Z Z Z Z Z (fun w' hw'=>Xa Z Z)<|aw Z Z Z Z Z (fun w' hw'=>Xi Z Z)<|aU ?_
 intro w5 hw' hF
 obtain⟨hF,g3,eq,hag3,hrd39⟩:=hF;cases eq
 replace H:=H.learn hw' (Kr w0 w4.heap.size w5.heap.size g3) ⟨H.size,hrd39⟩ (ao _) (ao _)
 clear hw' hF
 refine bC H 0 (#[J (g3.clock),J (g3.wait),J (g3.gen),.slice g3.mA g3.ms.length g3.mC,.slice g3.oA g3.os.length g3.oC]) bA Z Z Z Z Z N N fun w6 H=>G (Wi Z)<|U ?_
 obtain rfl:z=tz gr.a a.name ps.length:=by rw[<-hz,if_pos h28]
 exact⟨(g3,_,_),⟨hag3,H⟩,dO Z,Qg⟩
 refine G (Wb Z)<|U<|ZF Z<|W<|Zr<|G (lM Z Z h17)<|G (Wb Z)<|U<|ZF Z<|W<|Zr ?_
 refine dq (br Z Z) Z Z Z (fun h58=> ?_) (fun h58=> ?_)
 refine G (Wb Z)<|U<|ZT Z<|Zr<|G (Zw aO H 0 Z Z Z)<|G (Zf fl Z)<|G (Zd aZ H 2 Z Z Z)<|G (Zf gh Z)<|G (Zd al H 2 Z Z Z)<|cz Cr (Kc gr a.name a.n _ (Hp.grM H hgr) hgi.ok hnm) Z Z ?_
 rintro _ w7 ⟨g3,rfl,hag3,hng3⟩;replace H:=H.learn hng3.2 (Kr w0 w4.heap.size w7.heap.size g3) ⟨H.size,hng3.1⟩ (ao _) (ao _);clear hng3
 refine G (Yu Z)<|G (Xa Z Z)<|G (Xi Z Z)<|bC H 0 (#[J (g3.clock),J (g3.wait),J (g3.gen),.slice g3.mA g3.ms.length g3.mC,.slice g3.oA g3.os.length g3.oC]) bA Z Z Z Z Z N N fun w8 H=>G (Wi Z)<|U ?_
 obtain rfl:z=xy gr.a a.name a.n:=by rw[<-hz,if_neg h28,if_pos h58]
 exact⟨(g3,_,_),⟨hag3,H⟩,dO Z,Qg⟩
 refine G (Wb Z)<|U<|ZF Z<|Zr<|G (Zw aO H 0 Z Z Z)<|G (Zf fl Z)<|G (Zd aZ H 2 Z Z Z)<|G (Zf gh Z)<|G (Zd al H 2 Z Z Z)<|G (Zf fe Z)<|G (Zd al H 2 Z Z Z)<|G (Zf Mo Z)<|G (Zd al H 2 Z Z Z)<|cz Br (GH gr a.name a.n a.part a.m _ (Hp.grM H hgr) hgi.ok hnm hm.1) Z Z ?_
 rintro _ w9 ⟨g3,rfl,hag3,hng3⟩;replace H:=H.learn hng3.2 (Kr w0 w4.heap.size w9.heap.size g3) ⟨H.size,hng3.1⟩ (ao _) (ao _);clear hng3
 refine G (Yu Z)<|G (Xa Z Z)<|G (Xi Z Z)<|bC H 0 (#[J (g3.clock),J (g3.wait),J (g3.gen),.slice g3.mA g3.ms.length g3.mC,.slice g3.oA g3.os.length g3.oC]) bA Z Z Z Z Z N N fun w10 H=>G (Wi Z)<|U ?_
 obtain rfl:z=sM gr.a a.name a.n a.part a.m:=by rw[<-hz,if_neg h28,if_neg h58]
 exact⟨(g3,_,_),⟨hag3,H⟩,dO Z,Qg⟩
 rintro⟨g3,lo,hi⟩ ρ1 w11 ⟨hag3,H⟩
 show CW _ _ _ _ (dH (gT _ _ ρ1) [(6,J z.2)]) w11
 refine W<|W<|Zr<|G (Yi Z) ?_
 refine rq (je Z Z) Z Z Z (fun h69=> ?_) (fun h69=> ?_)
 refine U<|ZT Z<|W<|Zr<|G (Yi Z)<|cz bJ (dQ z.2 _) Z Z ?_
 rintro _ w12 ⟨rfl,hb⟩;replace H:=H.later hb;clear hb
 refine bC H 1 (#[J (z.2),J (0),.slice none 0 0]) aN Z Z Z Z Z N N fun w13 H=>U<|Zt ?_
 exact eQ (cs0:= #[J (z.2),J (0),.slice none 0 0]) Z aK Z (H.ent (i:=1) Z) Z ⟨⟨ps,some ⟨gP,0,none⟩,pC,co,clo,chi,gr,glo,ghi,sns,snA,snC⟩,by rw[hsp,if_neg h69];exact oY.plain _ _ _,by rw[hsp,if_neg h69];rfl,Bw.shut (X:=[(b5,_),(b4,_),(b3,_)]) row hsn hown (aj _ hco) (aj _ hgr) (fun q hq=>aj _ (hps q hq)) (fun f hf=>aj _ hf) H Z⟩
 refine U<|ZF Z<|Zk<|W<|Zr<|G (Yp Z)<|G (Zw aO H 0 Z Z Z)<|G (aI Z)<|G (Zf aS Z)<|G (Zf jD Z)<|bC H 3 (#[.slice (Qd gP) ps.length pC,J (co.clock),J (co.next),J (co.wait),.slice co.A co.txs.length co.cap,J (g3.clock),J (g3.wait),J (g3.gen),.slice g3.mA g3.ms.length g3.mC,.slice g3.oA g3.os.length g3.oC,.slice snA sns.length snC]) bA Z Z Z Z Z N N fun w14 H=>U<|W<|Zr<|G (Zf ks Z)<|G (Zd al H 0 Z Z Z)<|G (bE (cs:= #[J (0),J (g3.gen),.slice none 0 0]) iN du N)<|bC H 1 (#[J (0),J (g3.gen),.slice none 0 0]) aN Z Z Z Z Z N N fun w15 H=>U<|Zt ?_
 have hz0:z.2=0:=by simpa using h69
 have hgn:z.1.gen=g3.gen:=by rw[<-hag3];rfl
 exact eQ (cs0:= #[J (0),J (g3.gen),.slice none 0 0]) Z aK Z (H.ent (i:=1) Z) Z ⟨⟨ps,some ⟨gP,0,none⟩,pC,co,clo,chi,g3,lo,hi,sns,snA,snC⟩,by rw[hsp,if_pos hz0,hgn];exact oY.plain _ _ _,by rw[hsp,if_pos hz0,<-hag3];rfl,Bw.shut (X:=[(b5,_),(b4,_),(b3,_)]) row hsn hown (aj _ hco) (az ..) (fun q hq=>aj _ (hps q hq)) (fun f hf=>aj _ hf) H Z⟩
theorem xF.nil {w0 w:World} {bb:Nat} {b:Bk} {K:List (Nat×Obj)} {F:List cf} (h:xF w0 w bb b K F) (A:Option Addr):xF w0 w bb b K (d4 my 0 0 A []::F):=by
 obtain⟨gP,uP,Ls,Lo,F',B,hF⟩:=h
 exact⟨gP,uP,Ls,Lo,d4 my 0 0 A []::F',⟨B.pA,B.row,B.sn,B.own,aj _ B.co,aj _ B.gr,fun q hq=>aj _ (B.ps q hq),B.H.learnNil 0 (bx _) A⟩,fun f hf=>by
  rcases av.1 hf with rfl|hf
  exact az ..
  exact aj _ (hF f hf)⟩
theorem CD {g:Gr} (h:lJ g=true) (s:ByteArray) (p:Int):0<=(eP g s p).1:=by
 unfold eP
 split
 exact ff 0
 split
 show 0<=t6 g.os p
 unfold t6
 split
 rename_i o ho
 exact((dB.1 h).2.2.1 o (List.mem_of_find?_eq_some ho)).2.2.1
 exact ff 0
 exact ff 0
theorem Nu {w0 w:World} {bb:Nat} {b:Bk} {gP:Nat} {uP:Array Value} {Ls Lo K:List (Nat×Obj)} {F:List cf} (a:Act) (B:Bw w0 w bb b gP uP Ls Lo K F) (hnm:bo a.name=true) (hpn:0<=a.part/\a.part<b.ps.length) {k np:Nat} {wt:Int} (hgi:rh (fun _=>True) wt np k b.gr) (hw:(eP b.gr.a a.name a.part).2≠0):dt aa gB [.pointer (Qd bb),a.v] w fun v w2=> ∃ (x:An) (A:Option Addr) (c lo hi:Nat),re b.a a x/\v=.agg #[J x.code,J x.n,.slice A x.texts.length c]/\x.texts.length<=c/\xF w0 w2 bb b K (d4 my lo hi A x.texts::F):=by
 refine aG iB Z Z ?_
 have hP:re b.a a _:=.no hw
 obtain⟨ps,pA,pC,co,clo,chi,gr,glo,ghi,sns,snA,snC⟩:=b
 obtain⟨hpA,row,hsn,hown,hco,hgr,hps,H⟩:=B
 dsimp only at hpA row hsn hown hco hgr hps
 subst hpA
 replace H:Hp w0 w ((bb,.cells #[.slice (Qd gP) ps.length pC,J (co.clock),J (co.next),J (co.wait),.slice co.A co.txs.length co.cap,J (gr.clock),J (gr.wait),J (gr.gen),.slice gr.mA gr.ms.length gr.mC,.slice gr.oA gr.os.length gr.oC,.slice snA sns.length snC] bF (0,0))::(gP,.cells uP bK (0,0))::(Ls++(Lo++K))) F:=H
 dsimp only at hpn hgi hw
 show CW _ _ _ _ (args [.pointer (Qd bb),.agg #[J (a.kind),.string (a.name),J (a.part),J (a.n),J (a.m),.string (a.text),J (a.lost)]]) w
 refine W<|Zr<|gM H Z Z fun w1 b3 H=>fg H du Z fun w2 b4 H=>U<|W<|W<|Zr<|G (Yp Z)<|G (Zf fe Z)<|G (Zd al H 1 Z Z Z)<|cz d5 (oh bb ⟨ps,some ⟨gP,0,none⟩,pC,co,clo,chi,gr,glo,ghi,sns,snA,snC⟩ a.part _ (H.ent (i:=2) Z)) Z Z ?_
 rintro _ w3 ⟨rfl,hb⟩;replace H:=H.later hb;clear hb
 rw[decide_eq_true hpn]
 refine G (d7 Z)<|U<|ZF Z<|Zk<|W ?_
 refine bP cD [0,1,2,3,4,5,6,7,8,9,10,11,12,13,14] [] [9] [0,1,2,3,5,7,10,11,12,13,14] (sp [(9,Sp.one (.tuple #[J (eP gr.a a.name a.part).1,J (eP gr.a a.name a.part).2]))]) N N N N Nq (cO _) ?_
 refine aw Z Z Z Z Z (fun w' hw'=>Yp Z)<|aw Z Z Z Z Z (fun w' hw'=>aI Z)<|aw Z Z Z Z Z (fun w' hw'=>Zf aS Z)<|aw Z Z Z Z Z (fun w' hw'=>Zf jD Z)<|aw Z Z Z Z Z (fun w' hw'=>j4 5 [J (gr.clock),J (gr.wait),J (gr.gen),.slice gr.mA gr.ms.length gr.mC,.slice gr.oA gr.os.length gr.oC] aO Z Z ((H.later hw').ent (i:=2) Z) Z)<|aw Z Z Z Z Z (fun w' hw'=>Zf fl Z)<|aw Z Z Z Z Z (fun w' hw'=>bf aZ Z (aJ ((H.later hw').ent (i:=1) Z) Z))<|aw Z Z Z Z Z (fun w' hw'=>Zf fe Z)<|aw Z Z Z Z Z (fun w' hw'=>bf al Z (aJ ((H.later hw').ent (i:=1) Z) Z))<|nS mV Z Z Z Z Z (fun w' hw'=>sJ gr a.name a.part w' (Hp.grM (H.later hw') hgr) hgi.ok hnm) Z<|aw Z Z Z Z Z (fun w' hw'=>Yu Z)<|aw Z Z Z Z Z (fun w' hw'=>Xi Z Z)<|aw Z Z Z Z Z (fun w' hw'=>Xi Z Z)<|aw Z Z Z Z Z (fun w' hw'=>Wi Z)<|aw Z Z Z Z Z (fun w' hw'=>Wi Z)<|aU ?_
 intro w4 hw' hF
 replace H:=H.later hw';clear hw' hF
 refine U<|W<|W<|Zr<|G (Yi Z)<|G (lH Z Z hw)<|U<|ZT Z<|W<|Zr<|G (Yi Z)<|cz bJ (dQ (eP gr.a a.name a.part).2 _) Z Z ?_
 rintro _ w5 ⟨rfl,hb⟩;replace H:=H.later hb;clear hb
 refine bC H 0 (#[J ((eP gr.a a.name a.part).2),J (0),.slice none 0 0]) aN Z Z Z Z Z N N fun w6 H=>U<|Zt ?_
 exact eQ (cs0:= #[J ((eP gr.a a.name a.part).2),J (0),.slice none 0 0]) Z aK Z (H.ent (i:=0) Z) Z ⟨_,none,0,0,0,hP,rfl,ao _,xF.nil (Bw.shut (X:=[(b4,_),(b3,_)]) row hsn hown hco hgr hps (fun _ h=>h) H Z) none⟩
theorem Jn {w0 w:World} {bb:Nat} {b:Bk} {gP:Nat} {uP:Array Value} {Ls Lo K:List (Nat×Obj)} {F:List cf} (a:Act) (B:Bw w0 w bb b gP uP Ls Lo K F) (hnm:bo a.name=true) (hpn:0<=a.part/\a.part<b.ps.length) (hn:1<=a.n/\a.n<=20) {k np:Nat} {wt:Int} (hgi:rh (fun _=>True) wt np k b.gr) (hpk: ∀ q∈b.ps,q.p.a.ok) (hw:(eP b.gr.a a.name a.part).2=0) (hl: ∀ q,b.ps[a.part.toNat]? =some q->q.p.leader<0):dt aa gB [.pointer (Qd bb),a.v] w fun v w2=> ∃ (x:An) (A:Option Addr) (c lo hi:Nat),re b.a a x/\v=.agg #[J x.code,J x.n,.slice A x.texts.length c]/\x.texts.length<=c/\xF w0 w2 bb b K (d4 my lo hi A x.texts::F):=by
 refine aG iB Z Z ?_
 obtain⟨n,hna⟩: ∃ n:Nat,a.part=(n:Int):=⟨a.part.toNat,by omega⟩
 have htn:a.part.toNat=n:=by omega
 obtain⟨m,hnm2⟩: ∃ m:Nat,a.n=(m:Int):=⟨a.n.toNat,by omega⟩
 have htm:a.n.toNat=m:=by omega
 obtain⟨q,hq⟩: ∃ q,b.ps[n]? =some q:=⟨_,ai I⟩
 have hqm:=ab hq
 have hok:=hpk q hqm
 have hqa:b.a.ps[a.part.toNat]? =some q.p.a:=by rw[htn];show(b.ps.map fun q=>q.p.a)[n]? =_;rw[aH,hq];rfl
 have hlq:=hl q (by rw[htn];exact hq)
 have hP:re b.a a _:=.yes q.p.a _ hw hqa (.none hlq)
 obtain⟨ps,pA,pC,co,clo,chi,gr,glo,ghi,sns,snA,snC⟩:=b
 obtain⟨hpA,row,hsn,hown,hco,hgr,hps,H⟩:=B
 dsimp only at hpA row hsn hown hco hgr hps
 subst hpA
 replace H:Hp w0 w ((bb,.cells #[.slice (Qd gP) ps.length pC,J (co.clock),J (co.next),J (co.wait),.slice co.A co.txs.length co.cap,J (gr.clock),J (gr.wait),J (gr.gen),.slice gr.mA gr.ms.length gr.mC,.slice gr.oA gr.os.length gr.oC,.slice snA sns.length snC] bF (0,0))::(gP,.cells uP bK (0,0))::(Ls++(Lo++K))) F:=H
 dsimp only at hpn hgi hw hq hqm
 show CW _ _ _ _ (args [.pointer (Qd bb),.agg #[J (a.kind),.string (a.name),J (a.part),J (a.n),J (a.m),.string (a.text),J (a.lost)]]) w
 refine W<|Zr<|gM H Z Z fun w1 b3 H=>fg H du Z fun w2 b4 H=>U<|W<|W<|Zr<|G (Yp Z)<|G (Zf fe Z)<|G (Zd al H 1 Z Z Z)<|cz d5 (oh bb ⟨ps,some ⟨gP,0,none⟩,pC,co,clo,chi,gr,glo,ghi,sns,snA,snC⟩ a.part _ (H.ent (i:=2) Z)) Z Z ?_
 rintro _ w3 ⟨rfl,hb⟩;replace H:=H.later hb;clear hb
 rw[decide_eq_true hpn]
 refine G (d7 Z)<|U<|ZF Z<|Zk<|W ?_
 refine bP cD [0,1,2,3,4,5,6,7,8,9,10,11,12,13,14] [] [9] [0,1,2,3,5,7,10,11,12,13,14] (sp [(9,Sp.one (.tuple #[J (eP gr.a a.name a.part).1,J (eP gr.a a.name a.part).2]))]) N N N N Nq (cO _) ?_
 refine aw Z Z Z Z Z (fun w' hw'=>Yp Z)<|aw Z Z Z Z Z (fun w' hw'=>aI Z)<|aw Z Z Z Z Z (fun w' hw'=>Zf aS Z)<|aw Z Z Z Z Z (fun w' hw'=>Zf jD Z)<|aw Z Z Z Z Z (fun w' hw'=>j4 5 [J (gr.clock),J (gr.wait),J (gr.gen),.slice gr.mA gr.ms.length gr.mC,.slice gr.oA gr.os.length gr.oC] aO Z Z ((H.later hw').ent (i:=2) Z) Z)<|aw Z Z Z Z Z (fun w' hw'=>Zf fl Z)<|aw Z Z Z Z Z (fun w' hw'=>bf aZ Z (aJ ((H.later hw').ent (i:=1) Z) Z))<|aw Z Z Z Z Z (fun w' hw'=>Zf fe Z)<|aw Z Z Z Z Z (fun w' hw'=>bf al Z (aJ ((H.later hw').ent (i:=1) Z) Z))<|nS mV Z Z Z Z Z (fun w' hw'=>sJ gr a.name a.part w' (Hp.grM (H.later hw') hgr) hgi.ok hnm) Z<|aw Z Z Z Z Z (fun w' hw'=>Yu Z)<|aw Z Z Z Z Z (fun w' hw'=>Xi Z Z)<|aw Z Z Z Z Z (fun w' hw'=>Xi Z Z)<|aw Z Z Z Z Z (fun w' hw'=>Wi Z)<|aw Z Z Z Z Z (fun w' hw'=>Wi Z)<|aU ?_
 intro w4 hw' hF
 replace H:=H.later hw';clear hw' hF
 refine U<|W<|W<|Zr<|G (Yi Z)<|G (ch Z Z I)<|U<|ZF Z<|Zk<|W ?_
 refine HE cD [12,13,14,15,16,17,18,19] [] [0,1,2,3,5,7,9,10]<|jF [0,1,2,3,4,5,6,7,8,9,10,11] [12,13,14,15,16,17,18,19] [] [0,1,2,3,5,7,9,10] 7 _ N N N Nq<|aw Z Z Z Z Z (fun w' hw'=>Yp Z)<|aw Z Z Z Z Z (fun w' hw'=>aI Z)<|aw Z Z Z Z Z (fun w' hw'=>Zf aS Z)<|aw Z Z Z Z Z (fun w' hw'=>Zf dx Z)<|aw Z Z Z Z Z (fun w' hw'=>bf dZ Z (aJ ((H.later hw').ent (i:=2) Z) Z))<|aw Z Z Z Z Z (fun w' hw'=>Zf fe Z)<|aw Z Z Z Z Z (fun w' hw'=>bf al Z (aJ ((H.later hw').ent (i:=1) Z) Z))<|aw Z Z Z Z Z (fun w' hw'=>cQ (k:=n) gx Z (congrArg (Value.int .i64) hna) (by first|omega|(simp only[ae];omega)))<|aw Z Z Z Z Z (fun w' hw'=>o0 bk row hq Z Z ((H.later hw').ent (i:=3) Z))<|aw Z Z Z Z Z (fun w' hw'=>Yi Z)<|aw Z Z Z Z Z (fun w' hw'=>Zf gh Z)<|aw Z Z Z Z Z (fun w' hw'=>bf al Z (aJ ((H.later hw').ent (i:=1) Z) Z))<|aU ?_
 intro w5 hw' _;replace H:=H.later hw';clear hw'
 refine dg 12 N Z<|cz mT (GZ q.p (eP gr.a a.name a.part).1 a.n _ (Hp.paM H (hps q hqm)) hok hlq) Z Z ?_
 rintro _ w6 ⟨rfl,hb⟩;replace H:=H.later hb;clear hb
 refine U<|bp 13 N N N Z Z Z Z Nq (fun _=>Yu Z)<|bp 14 N N N Z Z Z Z Nq (fun _=>Xs Z Z)<|bp 15 N N N Z Z Z Z Nq (fun _=>Xi Z Z)<|bp 16 N N N Z Z Z Z Nq (fun _=>Xi Z Z)<|bp 17 N N N Z Z Z Z Nq (fun _=>Ws Z)<|bp 18 N N N Z Z Z Z Nq (fun _=>Wi Z)<|bp 19 N N N Z Z Z Z Nq (fun _=>Wi Z)<|cr N<|W<|W<|Zr<|G (Yi Z)<|G (lH Z Z (by decide))<|U<|ZT Z<|W<|Zr<|G (Yi Z)<|cz bJ (dQ 8 _) Z Z ?_
 rintro _ w7 ⟨rfl,hb⟩;replace H:=H.later hb;clear hb
 refine bC H 0 (#[J (8),J (0),.slice none 0 0]) aN Z Z Z Z Z N N fun w8 H=>U<|Zt ?_
 exact eQ (cs0:= #[J (8),J (0),.slice none 0 0]) Z aK Z (H.ent (i:=0) Z) Z ⟨_,none,0,0,0,hP,rfl,ao _,xF.nil (Bw.shut (X:=[(b4,_),(b3,_)]) row hsn hown hco hgr hps (fun _ h=>h) H Z) none⟩
theorem GU {w0 w:World} {bb:Nat} {b:Bk} {gP:Nat} {uP:Array Value} {Ls Lo K:List (Nat×Obj)} {F:List cf} (a:Act) (B:Bw w0 w bb b gP uP Ls Lo K F) (hnm:bo a.name=true) (hpn:0<=a.part/\a.part<b.ps.length) (hn:1<=a.n/\a.n<=20) {k np:Nat} {wt:Int} (hgi:rh (fun _=>True) wt np k b.gr) (hpk: ∀ q∈b.ps,q.p.a.ok) (hw:(eP b.gr.a a.name a.part).2=0) {l:Nat} {r:f5} (hld: ∀ q,b.ps[a.part.toNat]? =some q->q.p.leader=l/\q.p.reps[l]? =some r) (hr:r.es.length<(eP b.gr.a a.name a.part).1.toNat):dt aa gB [.pointer (Qd bb),a.v] w fun v w2=> ∃ (x:An) (A:Option Addr) (c lo hi:Nat),re b.a a x/\v=.agg #[J x.code,J x.n,.slice A x.texts.length c]/\x.texts.length<=c/\xF w0 w2 bb b K (d4 my lo hi A x.texts::F):=by
 refine aG iB Z Z ?_
 obtain⟨n,hna⟩: ∃ n:Nat,a.part=(n:Int):=⟨a.part.toNat,by omega⟩
 have htn:a.part.toNat=n:=by omega
 obtain⟨m,hnm2⟩: ∃ m:Nat,a.n=(m:Int):=⟨a.n.toNat,by omega⟩
 have htm:a.n.toNat=m:=by omega
 obtain⟨q,hq⟩: ∃ q,b.ps[n]? =some q:=⟨_,ai I⟩
 have hqm:=ab hq
 have hok:=hpk q hqm
 have hqa:b.a.ps[a.part.toNat]? =some q.p.a:=by rw[htn];show(b.ps.map fun q=>q.p.a)[n]? =_;rw[aH,hq];rfl
 obtain⟨hl1,hl2⟩:=hld q (by rw[htn];exact hq)
 have hra:q.p.a.reps[l]? =some r.a:=by show(q.p.reps.map f5.a)[l]? =_;rw[aH,hl2];rfl
 obtain⟨fr,hfr⟩: ∃ f:Nat,(eP b.gr.a a.name a.part).1=(f:Int):=⟨(eP b.gr.a a.name a.part).1.toNat,by have:=CD (g:=b.gr.a) ((Ef _).2 hgi.ok) a.name a.part;omega⟩
 have htf:(eP b.a.gr a.name a.part).1.toNat=fr:=by show(eP b.gr.a a.name a.part).1.toNat=fr;omega
 have hP:re b.a a _:=.yes q.p.a _ hw hqa (.range l r.a hl1 hra hr)
 obtain⟨ps,pA,pC,co,clo,chi,gr,glo,ghi,sns,snA,snC⟩:=b
 obtain⟨hpA,row,hsn,hown,hco,hgr,hps,H⟩:=B
 dsimp only at hpA row hsn hown hco hgr hps
 subst hpA
 replace H:Hp w0 w ((bb,.cells #[.slice (Qd gP) ps.length pC,J (co.clock),J (co.next),J (co.wait),.slice co.A co.txs.length co.cap,J (gr.clock),J (gr.wait),J (gr.gen),.slice gr.mA gr.ms.length gr.mC,.slice gr.oA gr.os.length gr.oC,.slice snA sns.length snC] bF (0,0))::(gP,.cells uP bK (0,0))::(Ls++(Lo++K))) F:=H
 dsimp only at hpn hgi hw hq hqm hfr hr
 show CW _ _ _ _ (args [.pointer (Qd bb),.agg #[J (a.kind),.string (a.name),J (a.part),J (a.n),J (a.m),.string (a.text),J (a.lost)]]) w
 refine W<|Zr<|gM H Z Z fun w1 b3 H=>fg H du Z fun w2 b4 H=>U<|W<|W<|Zr<|G (Yp Z)<|G (Zf fe Z)<|G (Zd al H 1 Z Z Z)<|cz d5 (oh bb ⟨ps,some ⟨gP,0,none⟩,pC,co,clo,chi,gr,glo,ghi,sns,snA,snC⟩ a.part _ (H.ent (i:=2) Z)) Z Z ?_
 rintro _ w3 ⟨rfl,hb⟩;replace H:=H.later hb;clear hb
 rw[decide_eq_true hpn]
 refine G (d7 Z)<|U<|ZF Z<|Zk<|W ?_
 refine bP cD [0,1,2,3,4,5,6,7,8,9,10,11,12,13,14] [] [9] [0,1,2,3,5,7,10,11,12,13,14] (sp [(9,Sp.one (.tuple #[J (eP gr.a a.name a.part).1,J (eP gr.a a.name a.part).2]))]) N N N N Nq (cO _) ?_
 refine aw Z Z Z Z Z (fun w' hw'=>Yp Z)<|aw Z Z Z Z Z (fun w' hw'=>aI Z)<|aw Z Z Z Z Z (fun w' hw'=>Zf aS Z)<|aw Z Z Z Z Z (fun w' hw'=>Zf jD Z)<|aw Z Z Z Z Z (fun w' hw'=>j4 5 [J (gr.clock),J (gr.wait),J (gr.gen),.slice gr.mA gr.ms.length gr.mC,.slice gr.oA gr.os.length gr.oC] aO Z Z ((H.later hw').ent (i:=2) Z) Z)<|aw Z Z Z Z Z (fun w' hw'=>Zf fl Z)<|aw Z Z Z Z Z (fun w' hw'=>bf aZ Z (aJ ((H.later hw').ent (i:=1) Z) Z))<|aw Z Z Z Z Z (fun w' hw'=>Zf fe Z)<|aw Z Z Z Z Z (fun w' hw'=>bf al Z (aJ ((H.later hw').ent (i:=1) Z) Z))<|nS mV Z Z Z Z Z (fun w' hw'=>sJ gr a.name a.part w' (Hp.grM (H.later hw') hgr) hgi.ok hnm) Z<|aw Z Z Z Z Z (fun w' hw'=>Yu Z)<|aw Z Z Z Z Z (fun w' hw'=>Xi Z Z)<|aw Z Z Z Z Z (fun w' hw'=>Xi Z Z)<|aw Z Z Z Z Z (fun w' hw'=>Wi Z)<|aw Z Z Z Z Z (fun w' hw'=>Wi Z)<|aU ?_
 intro w4 hw' hF
 replace H:=H.later hw';clear hw' hF
 refine U<|W<|W<|Zr<|G (Yi Z)<|G (ch Z Z I)<|U<|ZF Z<|Zk<|W ?_
 refine HE cD [12,13,14,15,16,17,18,19] [] [0,1,2,3,5,7,9,10]<|jF [0,1,2,3,4,5,6,7,8,9,10,11] [12,13,14,15,16,17,18,19] [] [0,1,2,3,5,7,9,10] 7 _ N N N Nq<|aw Z Z Z Z Z (fun w' hw'=>Yp Z)<|aw Z Z Z Z Z (fun w' hw'=>aI Z)<|aw Z Z Z Z Z (fun w' hw'=>Zf aS Z)<|aw Z Z Z Z Z (fun w' hw'=>Zf dx Z)<|aw Z Z Z Z Z (fun w' hw'=>bf dZ Z (aJ ((H.later hw').ent (i:=2) Z) Z))<|aw Z Z Z Z Z (fun w' hw'=>Zf fe Z)<|aw Z Z Z Z Z (fun w' hw'=>bf al Z (aJ ((H.later hw').ent (i:=1) Z) Z))<|aw Z Z Z Z Z (fun w' hw'=>cQ (k:=n) gx Z (congrArg (Value.int .i64) hna) (by first|omega|(simp only[ae];omega)))<|aw Z Z Z Z Z (fun w' hw'=>o0 bk row hq Z Z ((H.later hw').ent (i:=3) Z))<|aw Z Z Z Z Z (fun w' hw'=>Yi Z)<|aw Z Z Z Z Z (fun w' hw'=>Zf gh Z)<|aw Z Z Z Z Z (fun w' hw'=>bf al Z (aJ ((H.later hw').ent (i:=1) Z) Z))<|aU ?_
 intro w5 hw' _;replace H:=H.later hw';clear hw'
 refine dg 12 N Z<|cz mT ((by have hA:=Fd q.p fr m l r _ (Hp.paM H (hps q hqm)) hok hl1 hl2 I;rw[<-hfr,<-hnm2]at hA;exact hA)) Z Z ?_
 rintro _ w6 ⟨rfl,hb⟩;replace H:=H.later hb;clear hb
 refine U<|bp 13 N N N Z Z Z Z Nq (fun _=>Yu Z)<|bp 14 N N N Z Z Z Z Nq (fun _=>Xs Z Z)<|bp 15 N N N Z Z Z Z Nq (fun _=>Xi Z Z)<|bp 16 N N N Z Z Z Z Nq (fun _=>Xi Z Z)<|bp 17 N N N Z Z Z Z Nq (fun _=>Ws Z)<|bp 18 N N N Z Z Z Z Nq (fun _=>Wi Z)<|bp 19 N N N Z Z Z Z Nq (fun _=>Wi Z)<|cr N<|W<|W<|Zr<|G (Yi Z)<|G (lH Z Z (by decide))<|U<|ZT Z<|W<|Zr<|G (Yi Z)<|cz bJ (dQ 2 _) Z Z ?_
 rintro _ w7 ⟨rfl,hb⟩;replace H:=H.later hb;clear hb
 refine bC H 0 (#[J (2),J (0),.slice none 0 0]) aN Z Z Z Z Z N N fun w8 H=>U<|Zt ?_
 exact eQ (cs0:= #[J (2),J (0),.slice none 0 0]) Z aK Z (H.ent (i:=0) Z) Z ⟨_,none,0,0,0,hP,rfl,ao _,xF.nil (Bw.shut (X:=[(b4,_),(b3,_)]) row hsn hown hco hgr hps (fun _ h=>h) H Z) none⟩
theorem Nt {w0 w:World} {bb:Nat} {b:Bk} {gP:Nat} {uP:Array Value} {Ls Lo K:List (Nat×Obj)} {F:List cf} (a:Act) (B:Bw w0 w bb b gP uP Ls Lo K F) (hnm:bo a.name=true) (hpn:0<=a.part/\a.part<b.ps.length) (hn:1<=a.n/\a.n<=20) {k np:Nat} {wt:Int} (hgi:rh (fun _=>True) wt np k b.gr) (hpk: ∀ q∈b.ps,q.p.a.ok) (hw:(eP b.gr.a a.name a.part).2=0) {l:Nat} {r:f5} (hld: ∀ q,b.ps[a.part.toNat]? =some q->q.p.leader=l/\q.p.reps[l]? =some r) (hr:(eP b.gr.a a.name a.part).1.toNat<=r.es.length):dt aa gB [.pointer (Qd bb),a.v] w fun v w2=> ∃ (x:An) (A:Option Addr) (c lo hi:Nat),re b.a a x/\v=.agg #[J x.code,J x.n,.slice A x.texts.length c]/\x.texts.length<=c/\xF w0 w2 bb b K (d4 my lo hi A x.texts::F):=by
 refine aG iB Z Z ?_
 obtain⟨n,hna⟩: ∃ n:Nat,a.part=(n:Int):=⟨a.part.toNat,by omega⟩
 have htn:a.part.toNat=n:=by omega
 obtain⟨m,hnm2⟩: ∃ m:Nat,a.n=(m:Int):=⟨a.n.toNat,by omega⟩
 have htm:a.n.toNat=m:=by omega
 obtain⟨q,hq⟩: ∃ q,b.ps[n]? =some q:=⟨_,ai I⟩
 have hqm:=ab hq
 have hok:=hpk q hqm
 have hqa:b.a.ps[a.part.toNat]? =some q.p.a:=by rw[htn];show(b.ps.map fun q=>q.p.a)[n]? =_;rw[aH,hq];rfl
 obtain⟨hl1,hl2⟩:=hld q (by rw[htn];exact hq)
 have hra:q.p.a.reps[l]? =some r.a:=by show(q.p.reps.map f5.a)[l]? =_;rw[aH,hl2];rfl
 obtain⟨fr,hfr⟩: ∃ f:Nat,(eP b.gr.a a.name a.part).1=(f:Int):=⟨(eP b.gr.a a.name a.part).1.toNat,by have:=CD (g:=b.gr.a) ((Ef _).2 hgi.ok) a.name a.part;omega⟩
 have htf:(eP b.a.gr a.name a.part).1.toNat=fr:=by show(eP b.gr.a a.name a.part).1.toNat=fr;omega
 have hP: ∀ st out bt,ru (r.es.take r.high.toNat) st->y4 r.es r.high.toNat st fr m out bt->re b.a a ⟨0,(bt:Nat),out⟩:=fun st out bt h1 h2=> .yes q.p.a _ hw hqa (.ok l r.a st out bt hl1 hra (by rw[htf];show fr<=r.es.length;omega) h1 (by rw[htf,htm];exact h2))
 obtain⟨ps,pA,pC,co,clo,chi,gr,glo,ghi,sns,snA,snC⟩:=b
 obtain⟨hpA,row,hsn,hown,hco,hgr,hps,H⟩:=B
 dsimp only at hpA row hsn hown hco hgr hps
 subst hpA
 replace H:Hp w0 w ((bb,.cells #[.slice (Qd gP) ps.length pC,J (co.clock),J (co.next),J (co.wait),.slice co.A co.txs.length co.cap,J (gr.clock),J (gr.wait),J (gr.gen),.slice gr.mA gr.ms.length gr.mC,.slice gr.oA gr.os.length gr.oC,.slice snA sns.length snC] bF (0,0))::(gP,.cells uP bK (0,0))::(Ls++(Lo++K))) F:=H
 dsimp only at hpn hgi hw hq hqm hfr hr hP
 show CW _ _ _ _ (args [.pointer (Qd bb),.agg #[J (a.kind),.string (a.name),J (a.part),J (a.n),J (a.m),.string (a.text),J (a.lost)]]) w
 refine W<|Zr<|gM H Z Z fun w1 b3 H=>fg H du Z fun w2 b4 H=>U<|W<|W<|Zr<|G (Yp Z)<|G (Zf fe Z)<|G (Zd al H 1 Z Z Z)<|cz d5 (oh bb ⟨ps,some ⟨gP,0,none⟩,pC,co,clo,chi,gr,glo,ghi,sns,snA,snC⟩ a.part _ (H.ent (i:=2) Z)) Z Z ?_
 rintro _ w3 ⟨rfl,hb⟩;replace H:=H.later hb;clear hb
 rw[decide_eq_true hpn]
 refine G (d7 Z)<|U<|ZF Z<|Zk<|W ?_
 refine bP cD [0,1,2,3,4,5,6,7,8,9,10,11,12,13,14] [] [9] [0,1,2,3,5,7,10,11,12,13,14] (sp [(9,Sp.one (.tuple #[J (eP gr.a a.name a.part).1,J (eP gr.a a.name a.part).2]))]) N N N N Nq (cO _) ?_
 refine aw Z Z Z Z Z (fun w' hw'=>Yp Z)<|aw Z Z Z Z Z (fun w' hw'=>aI Z)<|aw Z Z Z Z Z (fun w' hw'=>Zf aS Z)<|aw Z Z Z Z Z (fun w' hw'=>Zf jD Z)<|aw Z Z Z Z Z (fun w' hw'=>j4 5 [J (gr.clock),J (gr.wait),J (gr.gen),.slice gr.mA gr.ms.length gr.mC,.slice gr.oA gr.os.length gr.oC] aO Z Z ((H.later hw').ent (i:=2) Z) Z)<|aw Z Z Z Z Z (fun w' hw'=>Zf fl Z)<|aw Z Z Z Z Z (fun w' hw'=>bf aZ Z (aJ ((H.later hw').ent (i:=1) Z) Z))<|aw Z Z Z Z Z (fun w' hw'=>Zf fe Z)<|aw Z Z Z Z Z (fun w' hw'=>bf al Z (aJ ((H.later hw').ent (i:=1) Z) Z))<|nS mV Z Z Z Z Z (fun w' hw'=>sJ gr a.name a.part w' (Hp.grM (H.later hw') hgr) hgi.ok hnm) Z<|aw Z Z Z Z Z (fun w' hw'=>Yu Z)<|aw Z Z Z Z Z (fun w' hw'=>Xi Z Z)<|aw Z Z Z Z Z (fun w' hw'=>Xi Z Z)<|aw Z Z Z Z Z (fun w' hw'=>Wi Z)<|aw Z Z Z Z Z (fun w' hw'=>Wi Z)<|aU ?_
 intro w4 hw' hF
 replace H:=H.later hw';clear hw' hF
 refine U<|W<|W<|Zr<|G (Yi Z)<|G (ch Z Z I)<|U<|ZF Z<|Zk<|W ?_
 refine HE cD [12,13,14,15,16,17,18,19] [] [0,1,2,3,5,7,9,10]<|jF [0,1,2,3,4,5,6,7,8,9,10,11] [12,13,14,15,16,17,18,19] [] [0,1,2,3,5,7,9,10] 7 _ N N N Nq<|aw Z Z Z Z Z (fun w' hw'=>Yp Z)<|aw Z Z Z Z Z (fun w' hw'=>aI Z)<|aw Z Z Z Z Z (fun w' hw'=>Zf aS Z)<|aw Z Z Z Z Z (fun w' hw'=>Zf dx Z)<|aw Z Z Z Z Z (fun w' hw'=>bf dZ Z (aJ ((H.later hw').ent (i:=2) Z) Z))<|aw Z Z Z Z Z (fun w' hw'=>Zf fe Z)<|aw Z Z Z Z Z (fun w' hw'=>bf al Z (aJ ((H.later hw').ent (i:=1) Z) Z))<|aw Z Z Z Z Z (fun w' hw'=>cQ (k:=n) gx Z (congrArg (Value.int .i64) hna) (by first|omega|(simp only[ae];omega)))<|aw Z Z Z Z Z (fun w' hw'=>o0 bk row hq Z Z ((H.later hw').ent (i:=3) Z))<|aw Z Z Z Z Z (fun w' hw'=>Yi Z)<|aw Z Z Z Z Z (fun w' hw'=>Zf gh Z)<|aw Z Z Z Z Z (fun w' hw'=>bf al Z (aJ ((H.later hw').ent (i:=1) Z) Z))<|aU ?_
 intro w5 hw' _;replace H:=H.later hw';clear hw'
 refine dg 12 N Z<|cz mT ((by have hA:=Ab q.p fr m l r _ (Hp.paM H (hps q hqm)) hok hl1 hl2 I I I;rw[<-hfr,<-hnm2]at hA;exact hA)) Z Z ?_
 rintro _ w6 ⟨sb,out,bt,A7,c7,hst7,hrd7,rfl,hr7,hc7,hb7⟩;replace H:=H.learnRd hb7 hr7;clear hr7 hb7
 refine U<|bp 13 N N N Z Z Z Z Nq (fun _=>Yu Z)<|bp 14 N N N Z Z Z Z Nq (fun _=>Xs Z Z)<|bp 15 N N N Z Z Z Z Nq (fun _=>Xi Z Z)<|bp 16 N N N Z Z Z Z Nq (fun _=>Xi Z Z)<|bp 17 N N N Z Z Z Z Nq (fun _=>Ws Z)<|bp 18 N N N Z Z Z Z Nq (fun _=>Wi Z)<|bp 19 N N N Z Z Z Z Nq (fun _=>Wi Z)<|cr N<|W<|W<|Zr<|G (Yi Z)<|G (ch Z Z (by decide))<|U<|ZF Z<|Zk<|W<|Zr<|G (Yi Z)<|G (Ys Z)<|G (bE (cs:= #[J (0),J ((bt:Nat)),.slice A7 out.length c7]) iN du N)<|bC H 0 (#[J (0),J ((bt:Nat)),.slice A7 out.length c7]) aN Z Z Z Z Z N N fun w7 H=>U<|Zt ?_
 exact eQ (cs0:= #[J (0),J ((bt:Nat)),.slice A7 out.length c7]) Z aK Z (H.ent (i:=0) Z) Z ⟨_,A7,c7,_,_,hP _ _ _ hst7 hrd7,rfl,hc7,Bw.shut (X:=[(b4,_),(b3,_)]) row hsn hown (aj _ hco) (aj _ hgr) (fun q hq=>aj _ (hps q hq)) (fun _ h=>h) H Z⟩
section
/-- an act that the laws play -/
structure nc (np nr:Nat) (a:Act):Prop where
 kind:1<=a.kind/\a.kind<=20/\a.kind≠17/\(a.kind<=9∨a.kind=13∨16<=a.kind)
 name:a.kind=1∨a.kind=16∨a.kind=18∨a.kind=19∨a.kind=20->bo a.name=true
 part:0<=a.part/\a.part<np
 n:0<=a.n/\a.n<=1000
 rep:8<=a.kind->a.kind<=15->a.n<nr
 fin:a.kind=5->a.n<=1
 poll:a.kind=19->1<=a.n/\a.n<=20
 m:0<=a.m/\a.m<=1000
 text:a.text.size<=40
 lost:0<=a.lost/\a.lost<=2
def j8 (w:Wa) (a:Act):Wa×An:=
 if a.kind=1 then mI w a else if a.kind=2 then kG w a else if a.kind=3∨a.kind=4 then gY w a (decide (a.kind=4))else if a.kind=5 then jC w a else
 if a.kind=6 then nh w a else if a.kind=7 then wJ w a else if a.kind<=15 then mD w a else Ar w a
inductive rW (w:Wa) (a:Act):Wa->An->Prop
 |poll (x:An):a.kind=19->re w a x->rW w a w x
 |other:a.kind≠19->rW w a (j8 w a).1 (j8 w a).2
def MZ (p:fX):Prop:= ∀ (i:Nat) (x:RA),p.reps[i]? =some x->tW x.es
theorem MZ.set {p:fX} (h:MZ p) {r:Nat} {x':RA} (hx:tW x'.es):MZ {p with reps:=p.reps.set r x'}:=fun i y hy=>by
 rcases fG hy with⟨_,rfl⟩|⟨_,hy⟩
 exact hx
 exact h i y hy
theorem MZ.adv {p:fX} (h:MZ p):MZ (mW p):=fun i y hy=>by
 obtain⟨z,hz,he,-,-⟩:=xC hy
 rw[he];exact h i z hz
def Gt (K:List cv) (m n:Nat) (few:Int) (p:fX):Prop:=Gd (fun _=>True) K m n few p/\MZ p
theorem G8 {K:List cv} {p:fX} (h:BN K p) {i j:Nat} {x y:RA} (hx:p.reps[i]? =some x) (hy:p.reps[j]? =some y):x.es.take (dR x.es y.es)=y.es.take (dR x.es y.es):=by
 cases hc:dR x.es y.es with
 |zero=>simp
 |succ c=>
  obtain⟨e,f,h1,h2,h3⟩:=v5 (a:=x.es) (b:=y.es) (k:=c) I
  exact h.lm i j x y c e f hx hy h1 h2 h3
theorem JY {K:List cv} {p:fX} {r:Nat} (hp:p.ok) (hi:BN K p) (h:MZ p) (he:(gk p r).2.2=0):MZ (gk p r).1:=by
 obtain⟨x,y,l,hx,hl,hne,hu,hy⟩:=yo hp he
 rw[p9 hx hl hne hu hy]
 have hm:=G8 hi hx hy
 intro i z hz
 rcases fG hz with⟨_,rfl⟩|⟨_,hz⟩
 unfold ic
 split
 rename_i z hz
 dsimp only
 rw[hm,<-dY hz];exact(h l y hy).take _
 dsimp only
 exact(h r x hx).take _
 rcases fG hz with⟨_,rfl⟩|⟨_,hz⟩
 exact h l y hy
 exact h i z hz
variable {K:List cv} {m n:Nat} {few:Int} {p:fX} {r:Nat}
theorem O0 {e:cv} (h:Gt K m n few p) (hm:m<400) (he:(ek p e).2.2=0): ∃ K',K<+:K'/\Gt K' (m+1) n few (ek p e).1:=by
 obtain⟨K',h1,h2⟩:=O1 h.1 trivial hm he
 refine⟨K',h1,h2,?_⟩
 obtain⟨x,l,hl,hx,hg,hv,hS⟩:=DN he
 rcases hS with⟨-,hS,-⟩|⟨hv1,-,hS,-⟩
 rw[hS];exact h.2
 rw[hS];exact h.2.set (.snoc (h.2 l x hx) hv hv1)
theorem Nh {a:Act} (h:Gt K m n few p) (he:(jd p a).2.2=0): ∃ K',K<+:K'/\Gt K' m n few (jd p a).1:=by
 unfold jd at he⊢
 split at he
 rename_i c;rw[if_pos c]
 obtain⟨K',h1,h2⟩:=Mn h.1 he
 exact⟨K',h1,h2,JY h.1.ok h.1.inv h.2 he⟩
 rename_i c;rw[if_neg c];clear c
 split at he
 rename_i c;rw[if_pos c]
 obtain⟨K',h1,h2⟩:=M9 h.1 he
 refine⟨K',h1,h2,?_⟩
 obtain⟨x,hx,hu,hS⟩:=zU he
 dsimp only at hS⊢
 rw[hS]
 have:=h.2 _ x hx
 split
 exact MZ.adv (fun i y hy=>by
  rcases fG hy with⟨_,rfl⟩|⟨_,hy⟩
  exact this
  exact h.2 i y hy)
 exact h.2.set this
 rename_i c;rw[if_neg c];clear c
 obtain⟨K',h1,h2⟩:=My h.1 he
 refine⟨K',h1,h2,?_⟩
 obtain⟨x,hx,-,-,-,-,hS⟩:=Dg h.1.ok.isrl he
 dsimp only at hS⊢
 rw[hS]
 exact MZ.adv fun i y hy=>h.2 i y hy
structure M0 (np nr:Nat) (few:Int) (k:Nat) (K:Nat->List cv) (ps:List fX):Prop where
 len:ps.length=np
 gt: ∀ (n:Nat) (p:fX),ps[n]? =some p->Gt (K n) k nr few p
theorem Gt.mono (h:Gt K m n few p) {m':Nat} (hm:m<=m'):Gt K m' n few p:=⟨h.1.mono hm,h.2⟩
theorem M0.more {np nr k k':Nat} {few:Int} {K:Nat->List cv} {ps:List fX} (h:M0 np nr few k K ps) (hk:k<=k'):M0 np nr few k' K ps:=⟨h.len,fun n p hp=>(h.gt n p hp).mono hk⟩
def Up (K K':Nat->List cv):Prop:= ∀ n,K n<+:K' n
theorem Up.refl (K:Nat->List cv):Up K K:=fun _=>j5 _
theorem Up.trans {K K' K2:Nat->List cv} (h:Up K K') (h':Up K' K2):Up K K2:=fun n=>(h n).trans (h' n)
theorem M0.set {np nr k:Nat} {few:Int} {K:Nat->List cv} {ps:List fX} (h:M0 np nr few k K ps) {n:Nat} {p':fX} (hg: ∃ K',K n<+:K'/\Gt K' k nr few p'): ∃ K',Up K K'/\M0 np nr few k K' (ps.set n p'):=by
 obtain⟨K1,h1,h2⟩:=hg
 refine⟨fun i=>if i=n then K1 else K i,fun i=> ?_,by rw[ae];exact h.len,fun i q hq=> ?_⟩
 dsimp only
 split
 rename_i hi;rw[hi];exact h1
 exact j5 _
 rcases fG hq with⟨rfl,rfl⟩|⟨hi,hq⟩
 rw[if_pos Z];exact h2
 rw[if_neg hi];exact h.gt i q hq
structure Kx (np k:Nat) (s:Sn):Prop where
 nm:bo s.name=true
 sl:s.seqs.length=np
 ll:s.last.length=np
 sq: ∀ q∈s.seqs,0<=q/\q<=k
structure Cx (np k:Nat) (l:List Sn):Prop where
 each: ∀ s∈l,Kx np k s
 few:l.length<=k
theorem Kx.more {np k k':Nat} {s:Sn} (h:Kx np k s) (hk:k<=k'):Kx np k' s:=⟨h.nm,h.sl,h.ll,fun q hq=>by have:=h.sq q hq;omega⟩
theorem Cx.more {np k k':Nat} {l:List Sn} (h:Cx np k l) (hk:k<=k'):Cx np k' l:=⟨fun s hs=>(h.each s hs).more hk,aX h.few hk⟩
theorem Cx.set {np k i:Nat} {l:List Sn} {s:Sn} (h:Cx np k l) (hs:Kx np k s):Cx np k (l.set i s):=⟨fun x hx=>by
 rcases aC hx with hx|rfl
 exact h.each x hx
 exact hs,by rw[ae];exact h.few⟩
structure WI (np nr:Nat) (few wt:Int) (k:Nat) (K:Nat->List cv) (w:Wa):Prop where
 ps:M0 np nr few k K w.ps
 co:oW k w.co
 gr:rh (fun _=>True) wt np k w.gr
 sns:Cx np k w.sns
theorem WI.more {np nr k k':Nat} {few wt:Int} {K:Nat->List cv} {w:Wa} (h:WI np nr few wt k K w) (hk:k<=k'):WI np nr few wt k' K w:=⟨h.ps.more hk,h.co.more hk,h.gr.more hk,h.sns.more hk⟩
theorem uX {l:List Sn} {s:ByteArray} {i:Nat} {x:Sn} (h:((eK l s).bind fun i=>l[i]?.map fun s=>(i,s))=some (i,x)):l[i]? =some x/\x.name=s:=by
 cases hf:eK l s with
 |none=>rw[hf]at h;cases h
 |some j=>
  rw[hf]at h
  obtain⟨hl,h1,-⟩:=aP.1 hf
  simp only[fy,ai hl,eJ,lv,Prod.mk.injEq]at h
  obtain⟨rfl,rfl⟩:=h
  exact⟨ai hl,by simpa using h1⟩
end
theorem N4 {c:Co} {s:ByteArray} (h: ∀ t∈c.txs,t.name≠s):fS c s=none:=by
 unfold fS
 rw[cZ.2 fun t ht=>decide_eq_false (h t ht)]
 rfl
abbrev P4:ByteArray:=⟨#[100,101,101]⟩
def wt2 (k:Nat):Co:=⟨0,2,k,[⟨P4,1,0,2,[1],0,0,none,0⟩],none,0⟩
section
variable {np nr k:Nat} {few wt:Int} {K:Nat->List cv} {w:Wa} {a:Act}
theorem NJ {s:ByteArray} (h:bo s=true) (pid ver:Int) (np k:Nat):Kx np k (qT s pid ver np):=⟨h,by simp[qT],by simp[qT],fun q hq=>by
 have:q=0:=by
  unfold qT at hq
  exact cS hq
 omega⟩
theorem Nr {l:List Sn} {s:Sn} (h:Cx np k l) (hs:Kx np (k+1) s):Cx np (k+1) (vt l s):=by
 unfold vt
 split
 refine⟨fun x hx=> ?_,by have:=h.few;simp;omega⟩
 rcases aq.1 hx with hx|hx
 exact(h.each x hx).more (bz k)
 rw[ar.1 hx];exact hs
 exact(h.more (bz k)).set hs
theorem oZ (h:WI np nr few wt k K w) (e:Int): ∃ K',Up K K'/\WI np nr few wt (k+1) K' (lF w e).1:=⟨K,Up.refl K,h.more (bz k)⟩
theorem NW (h:WI np nr few wt k K w) (hk:k<400) (hn:bo a.name=true): ∃ K',Up K K'/\WI np nr few wt (k+1) K' (mI w a).1:=by
 unfold mI
 split
 rename_i h0
 exact⟨K,Up.refl K,h.ps.more (bz k),Iz h.co I hn h0,h.gr.more (bz k),Nr h.sns (by rw[h.ps.len];exact NJ hn ..)⟩
 exact oZ h _
theorem MG (h:WI np nr few wt k K w): ∃ K',Up K K'/\WI np nr few wt (k+1) K' (kG w a).1:=by
 unfold kG
 split
 exact oZ h _
 rename_i i s hf
 split
 exact oZ h _
 have hs:=h.sns.each s (ab (uX hf).1)
 exact⟨K,Up.refl K,h.ps.more (bz k),h.co.more (bz k),h.gr.more (bz k),(h.sns.set (s:={s with inn:=true}) ⟨hs.nm,hs.sl,hs.ll,hs.sq⟩).more (bz k)⟩
theorem Lk (h:M0 np nr few k K w.ps) (hk:k<400) (n:Nat) (x:cv):(∃ K',Up K K'/\M0 np nr few (k+1) K' (lG w n x).1.ps)/\(lG w n x).1.co=w.co/\(lG w n x).1.gr=w.gr/\(lG w n x).1.sns=w.sns:=by
 unfold lG
 split
 exact⟨⟨K,Up.refl K,h.more (bz k)⟩,rfl,rfl,rfl⟩
 rename_i p hp
 split
 rename_i h0
 exact⟨(h.more (bz k)).set (O0 (h.gt n p hp) hk h0),rfl,rfl,rfl⟩
 exact⟨⟨K,Up.refl K,h.more (bz k)⟩,rfl,rfl,rfl⟩
theorem J7 (h:M0 np nr few k K w.ps) (hc:oW k w.co) (hk:k<400) (s:Sn) {n:Nat} (hn:n<4):(∃ K',Up K K'/\M0 np nr few (k+1) K' (dL w s n).1.ps)/\oW (k+1) (dL w s n).1.co/\(dL w s n).1.gr=w.gr/\(dL w s n).1.sns=w.sns:=by
 unfold dL
 split
 exact⟨⟨K,Up.refl K,h.more (bz k)⟩,hc.more (bz k),rfl,rfl⟩
 rename_i x hx
 split
 rename_i h0
 obtain⟨h1,h2,h3,h4⟩:=Lk (w:={w with co:=(nV w s n x).1}) h hk n x
 refine⟨h1,?_,h3,h4⟩
 rw[h2]
 show oW (k+1) (nV w s n x).1
 unfold nV at h0⊢
 split
 rename_i ht
 rw[if_pos ht]at h0
 exact IS hc I I h0
 exact hc.more (bz k)
 exact⟨⟨K,Up.refl K,h.more (bz k)⟩,hc.more (bz k),rfl,rfl⟩
theorem LN {s:Sn} (h:Kx np k s) (n:Nat) (t:ByteArray):Kx np (k+1) (eF s n t):=⟨h.nm,by unfold eF;simp[h.sl],by unfold eF;simp[h.ll],fun q hq=>by
 rcases aC hq with hq|rfl
 have:=h.sq q hq;omega
 by_cases hn:n<s.seqs.length
 have:=h.sq (s.seqs.getD n 0) (by rw[cR,ai hn];exact vM hn);omega
 have:s.seqs.getD n 0=0:=by rw[cR,cG I];rfl
 omega⟩
theorem Nd (h:WI np nr few wt k K w) (hk:k<400) (hp:0<=a.part/\a.part<np) (h4:np<=4) (again:Bool): ∃ K',Up K K'/\WI np nr few wt (k+1) K' (gY w a again).1:=by
 unfold gY
 split
 exact oZ h _
 rename_i i s hf
 split
 exact oZ h _
 have hs:=h.sns.each s (ab (uX hf).1)
 have hs1:Kx np (k+1) (if again then s else eF s a.part.toNat a.text):=by
  split
  exact hs.more (bz k)
  exact LN hs _ _
 generalize (if again then s else eF s a.part.toNat a.text)=s1 at hs1
 have hl:Cx np (k+1) (w.sns.set i s1):=(h.sns.more (bz k)).set hs1
 dsimp only
 split
 exact⟨K,Up.refl K,h.ps.more (bz k),h.co.more (bz k),h.gr.more (bz k),hl⟩
 obtain⟨⟨K',h1,h2⟩,h3,h5,h6⟩:=J7 (w:={w with sns:=w.sns.set i s1}) h.ps h.co hk s1 (n:=a.part.toNat) I
 exact⟨K',h1,h2,h3,by rw[h5];exact h.gr.more (bz k),by rw[h6];exact hl⟩
theorem MC {s:Sn} (h:Kx np k s):Kx np k (tc s):=⟨h.nm,h.sl,by unfold tc;simp[h.ll],h.sq⟩
theorem JX (h:WI np nr few wt k K w): ∃ K',Up K K'/\WI np nr few wt (k+1) K' (jC w a).1:=by
 unfold jC
 split
 exact oZ h _
 rename_i i s hf
 split
 exact oZ h _
 split
 exact oZ h _
 have hs:=h.sns.each s (ab (uX hf).1)
 split
 rename_i h0
 refine⟨K,Up.refl K,h.ps.more (bz k),II h.co h0,h.gr.more (bz k),?_⟩
 dsimp only
 split
 exact(h.sns.set (MC hs)).more (bz k)
 exact h.sns.more (bz k)
 exact⟨K,Up.refl K,h.more (bz k)⟩
theorem NN (h:WI np nr few wt k K w) (hk:k<400): ∃ K',Up K K'/\WI np nr few wt (k+1) K' (nh w a).1:=by
 unfold nh
 split
 exact oZ h _
 rename_i t ht
 obtain⟨⟨i,hf⟩,h34,hp,h0,h4⟩:=xZ h.co.ok ht
 obtain⟨⟨K',h1,h2⟩,h3,h5,h6⟩:=Lk h.ps hk (t.parts.headD 0).toNat (df t)
 split
 exact⟨K',h1,h2,F7 h.co (Bl hf h34 hp),by rw[h5];exact h.gr.more (bz k),by rw[h6];exact h.sns.more (bz k)⟩
 exact⟨K',h1,h2,by rw[h3];exact h.co.more (bz k),by rw[h5];exact h.gr.more (bz k),by rw[h6];exact h.sns.more (bz k)⟩
theorem M7 (h:WI np nr few wt k K w) (hk:k<400) (h4:np<=4) (hn:0<=a.n/\a.n<=1000): ∃ K',Up K K'/\WI np nr few wt (k+1) K' (wJ w a).1:=by
 unfold wJ
 exact⟨K,Up.refl K,h.ps.more (bz k),ET h.co I hn.1 (by unfold ig;rw[if_neg I]),by dsimp only;rw[h.ps.len];exact h.gr.tick h4 I hn.1 hn.2,h.sns.more (bz k)⟩
theorem Ng (h:WI np nr few wt k K w): ∃ K',Up K K'/\WI np nr few wt (k+1) K' (mD w a).1:=by
 unfold mD
 split
 exact oZ h _
 rename_i p hp
 split
 rename_i h0
 obtain⟨K',h1,h2⟩:=h.ps.set (Nh (h.ps.gt _ p hp) h0)
 exact⟨K',h1,h2.more (bz k),h.co.more (bz k),h.gr.more (bz k),h.sns.more (bz k)⟩
 exact oZ h _
theorem O9 (h:WI np nr few wt k K w) (hk:k<400) (h4:np<=4) (hn:a.kind=16->bo a.name=true) (hm:0<=a.m): ∃ K',Up K K'/\WI np nr few wt (k+1) K' (Ar w a).1:=by
 unfold Ar
 split
 rename_i h0
 refine⟨K,Up.refl K,h.ps.more (bz k),h.co.more (bz k),?_,h.sns.more (bz k)⟩
 show rh _ wt np (k+1) (G7 w a).1
 unfold G7 at h0⊢
 rw[h.ps.len]at h0⊢
 split
 rename_i c
 rw[if_pos c]at h0
 exact h.gr.join h4 I (hn c) trivial h0
 rename_i c;rw[if_neg c]at h0
 split
 rename_i c2
 rw[if_pos c2]at h0
 exact h.gr.beat h0
 rename_i c2
 rw[if_neg c2]at h0
 exact h.gr.store hm h0
 exact oZ h _
theorem EL (h:WI np nr few wt k K w) (hk:k<400) (h4:np<=4) (g:nc np nr a) {w':Wa} {x:An} (hA:rW w a w' x): ∃ K',Up K K'/\WI np nr few wt (k+1) K' w':=by
 cases hA with
 |poll x h19 hp=>exact⟨K,Up.refl K,h.more (bz k)⟩
 |other h19=>
  unfold j8
  split
  rename_i c;exact NW h hk (g.name (.inl c))
  split
  exact MG h
  split
  exact Nd h hk g.part h4 _
  split
  exact JX h
  split
  exact NN h hk
  split
  exact M7 h hk h4 g.n
  split
  exact Ng h
  exact O9 h hk h4 (fun c=>g.name (.inr (.inl c))) g.m.1
def m6 (np nr:Nat) (few wt:Int):Wa:=⟨ap np (mH nr few.toNat),⟨0,1,wt,[],none,0⟩,⟨0,wt,0,[],none,0,[],none,0⟩,[]⟩
theorem DU {few:Nat} (n1:1<=nr) (n5:nr<=5) (f1:1<=few) (f2:few<=nr) (w1:1<=wt) (w2:wt<=1000):WI np nr few wt 0 (fun _=>[]) (m6 np nr few wt):=by
 refine⟨⟨by simp[m6],fun n p hp=> ?_⟩,⟨f0.2 ⟨⟨(by decide:iH 0=true),by simp[m6],by simp[m6],w1,w2,by simp[m6]⟩,by simp[m6],by simp[m6,vP]⟩,by simp[m6],by simp[m6],by simp[m6]⟩,NK _ np w1 w2,⟨by simp[m6],by simp[m6]⟩⟩
 have hpe:p=mH nr few:=by
  unfold m6 at hp
  simp only[fm]at hp
  split at hp
  cases hp;simp
  cases hp
 rw[hpe]
 refine⟨DT n1 n5 f1 f2,?_⟩
 intro i x hx
 unfold mH at hx
 simp only[fm]at hx
 split at hx
 cases hx;exact .nil
 cases hx
end
section
theorem Jj {es:List cv} {n st a most b b':Nat} {out out':List ByteArray} (h:y4 es n st a most out b) (h':y4 es n st a most out' b'):out=out'/\b=b':=by
 obtain⟨h1,h2,h3,h4,h5,h6⟩:=h
 obtain⟨g1,g2,g3,g4,g5,g6⟩:=h'
 have hb:b=b':=by
  rcases Nat.lt_trichotomy b b' with hlt|he|hlt
  have:=g6 b h1 hlt
  rw[<-h3]at this
  omega
  exact he
  have:=h6 b' g1 hlt
  rw[<-g3]at this
  omega
 subst hb
 exact⟨h3.trans g3.symm,rfl⟩
theorem Jk {p:fX} {a most:Nat} {x y:An} (h:Dn p a most x) (h':Dn p a most y):x=y:=by
 cases h with
 |none h1=>
  cases h' with
  |none=>rfl
  |range l r g1=>omega
  |ok l r st out b g1=>omega
 |range l r h1 h2 h3=>
  cases h' with
  |none g1=>omega
  |range=>rfl
  |ok l' r' st out b g1 g2 g3=>
   have:l'=l:=by omega
   subst this
   rw[h2]at g2;cases g2;omega
 |ok l r st out b h1 h2 h3 h4 h5=>
  cases h' with
  |none g1=>omega
  |range l' r' g1 g2 g3=>
   have:l'=l:=by omega
   subst this
   rw[h2]at g2;cases g2;omega
  |ok l' r' st' out' b' g1 g2 g3 g4 g5=>
   have:l'=l:=by omega
   subst this
   rw[h2]at g2;cases g2
   have:=Hj h4 g4
   subst this
   obtain⟨rfl,rfl⟩:=Jj h5 g5
   rfl
theorem Jo {w:Wa} {a:Act} {x y:An} (h:re w a x) (h':re w a y):x=y:=by
 cases h with
 |no h1=>
  cases h' with
  |no=>rfl
  |yes p x g1=>exact absurd g1 h1
 |yes p x h1 h2 h3=>
  cases h' with
  |no g1=>exact absurd h1 g1
  |yes p' y g1 g2 g3=>
   rw[h2]at g2;cases g2
   exact Jk h3 g3
theorem MX {w:Wa} {a:Act} {w1 w2:Wa} {x y:An} (h:rW w a w1 x) (h':rW w a w2 y):w1=w2/\x=y:=by
 cases h with
 |poll x h1 h2=>
  cases h' with
  |poll y g1 g2=>exact⟨rfl,Jo h2 g2⟩
  |other g1=>exact absurd h1 g1
 |other h1=>
  cases h' with
  |poll y g1 g2=>exact absurd g1 h1
  |other g1=>exact⟨rfl,rfl⟩
inductive kT:Wa->List Act->List An->Wa->Prop
 |nil (w:Wa):kT w [] [] w
 |cons {w w1 w2:Wa} {a:Act} {x:An} {l:List Act} {xs:List An}:rW w a w1 x->kT w1 l xs w2->kT w (a::l) (x::xs) w2
theorem kT.app {w w1 w2:Wa} {l m:List Act} {xs ys:List An} (h:kT w l xs w1) (h':kT w1 m ys w2):kT w (l++m) (xs++ys) w2:=by
 induction h with
 |nil=>exact h'
 |cons h1 _ ih=>exact .cons h1 (ih h')
theorem kT.snoc {w w1 w2:Wa} {l:List Act} {a:Act} {xs:List An} {x:An} (h:kT w l xs w1) (h':rW w1 a w2 x):kT w (l++[a]) (xs++[x]) w2:=h.app (.cons h' (.nil _))
theorem kT.len {w w1:Wa} {l:List Act} {xs:List An} (h:kT w l xs w1):xs.length=l.length:=by
 induction h with
 |nil=>rfl
 |cons _ _ ih=>simp[ih]
theorem kT.det {w w1 w2:Wa} {l:List Act} {xs ys:List An} (h:kT w l xs w1) (h':kT w l ys w2):xs=ys/\w1=w2:=by
 induction h generalizing ys w2 with
 |nil=>cases h';exact⟨rfl,rfl⟩
 |cons h1 _ ih=>
  cases h' with
  |cons g1 g2=>
   obtain⟨rfl,rfl⟩:=MX h1 g1
   obtain⟨rfl,rfl⟩:=ih g2
   exact⟨rfl,rfl⟩
theorem kT.split {w w2:Wa} {l m:List Act} {xs:List An} (h:kT w (l++m) xs w2): ∃ ys zs w1,xs=ys++zs/\kT w l ys w1/\kT w1 m zs w2:=by
 induction l generalizing w xs with
 |nil=>exact⟨[],xs,w,rfl,.nil w,h⟩
 |cons a l ih=>
  cases h with
  |cons h1 h2=>
   obtain⟨ys,zs,w1,rfl,h3,h4⟩:=ih h2
   exact⟨_::ys,zs,w1,rfl,.cons h1 h3,h4⟩
theorem kT.later {w w1 w2:Wa} {l m:List Act} {xs ys:List An} (h:kT w l xs w1) (h':kT w (l++m) ys w2): ∃ zs,ys=xs++zs:=by
 obtain⟨us,zs,w3,rfl,h1,h2⟩:=h'.split
 obtain⟨rfl,-⟩:=h.det h1
 exact⟨zs,rfl⟩
variable {np nr k:Nat} {few wt:Int} {K:Nat->List cv} {w:Wa}
theorem K7 {w w1:Wa} {l:List Act} {xs:List An} (h:kT w l xs w1): ∀ {k:Nat} {K:Nat->List cv},WI np nr few wt k K w->k+l.length<=400->np<=4->(∀ a∈l,nc np nr a)-> ∃ K',Up K K'/\WI np nr few wt (k+l.length) K' w1:=by
 induction h with
 |nil=>intro k K hw _ _ _;exact⟨K,Up.refl K,hw⟩
 |@cons w wa wb a x l xs h1 _ ih=>
  intro k K hw hk h4 hg
  simp only[bv]at hk
  obtain⟨K1,u1,i1⟩:=EL hw I h4 (hg a (az ..)) h1
  obtain⟨K2,u2,i2⟩:=ih i1 I h4 fun b hb=>hg b (aj _ hb)
  exact⟨K2,u1.trans u2,by simpa [jI,Dp 1]using i2⟩
end
section
/-- what an act yields -/
def BI (b:Bk) (a:Act) (w0:World) (bb:Nat) (K:List (Nat×Obj)) (F:List cf) (v:Value) (w2:World):Prop:=
 ∃ (b':Bk) (x:An) (A:Option Addr) (c lo hi:Nat),rW b.a a b'.a x/\v=.agg #[J x.code,J x.n,.slice A x.texts.length c]/\x.texts.length<=c/\xF w0 w2 bb b' K (d4 my lo hi A x.texts::F)
theorem uD {b:Bk} {a:Act} {w0 w:World} {bb:Nat} {K:List (Nat×Obj)} {F:List cf} {f:FuncId} {args:List Value} {s:Wa×An} (h19:a.kind≠19) (hs:j8 b.a a=s) (ht:s.2.texts=[]) (h:dt aa f args w fun v w2=> ∃ b':Bk,oY s.2 v w2/\b'.a=s.1/\xF w0 w2 bb b' K F):dt aa f args w (BI b a w0 bb K F):=
 h.mono fun v w2 ⟨b',⟨A,c,h1,h2,_⟩,h4,h5⟩=>⟨b',s.2,A,c,0,0,by rw[h4,<-hs];exact .other h19,h1,h2,by rw[ht];exact h5.nil A⟩
variable {w0 w:World} {bb gP:Nat} {b:Bk} {uP:Array Value} {Ls Lo K:List (Nat×Obj)} {F:List cf} {np nr k:Nat} {few wt:Int} {M:Nat->List cv} {a:Act}
theorem Bw.facts (_:Bw w0 w bb b gP uP Ls Lo K F) (hw:WI np nr few wt k M b.a) (hk:k<400):b.ps.length=np/\b.sns.length<=1000000/\oW k b.co/\rh (fun _=>True) wt np k b.gr/\ ∀ q∈b.ps,q.p.a.ok/\q.p.reps.length=nr/\ ∀ (l:Nat) (y:f5),q.p.leader=l->q.p.reps[l]? =some y->y.es.length<400:=by
 have h1:=hw.ps.len
 have h2:=hw.sns.few
 rw[show b.a.ps=b.ps.map fun q=>q.p.a from rfl,bl]at h1
 rw[show b.a.sns=b.sns.map Sn.a from rfl,bl]at h2
 refine⟨h1,by omega,oW.of_a hw.co,rh.of_a hw.gr,fun q hq=> ?_⟩
 obtain⟨n,hn⟩:=aM.1 hq
 have hg:=(hw.ps.gt n q.p.a (by rw[show b.a.ps=b.ps.map fun q=>q.p.a from rfl,aH,hn];rfl)).1
 refine⟨hg.ok,by have:=hg.len;rwa[show q.p.a.reps=q.p.reps.map f5.a from rfl,bl]at this,fun l y _ hy=> ?_⟩
 have:=hg.small l y.a (by rw[show q.p.a.reps=q.p.reps.map f5.a from rfl,aH,hy];rfl)
 have:y.es.length<=k:=this
 omega
theorem Bw.sender (hw:WI np nr few wt k M b.a) {i:Nat} {x:Sn} (hx:b.sns[i]? =some x):bo x.name=true/\x.seqs.length=np/\x.last.length=np/\ ∀ q∈x.seqs,0<=q/\q<=k:=by
 have h:=hw.sns.each x.a (bG (f:=Sn.a) (ab hx))
 exact⟨h.nm,h.sl,h.ll,h.sq⟩
theorem yT (w:Wa) (a:Act):(mI w a).2.texts=[]:=by unfold mI;split<;>rfl
theorem xx (w:Wa) (a:Act):(kG w a).2.texts=[]:=by
 unfold kG
 split
 rfl
 split<;>rfl
theorem yJ (w:Wa) (a:Act) (ag:Bool):(gY w a ag).2.texts=[]:=by
 unfold gY
 split
 rfl
 split
 rfl
 dsimp only
 split
 rfl
 exact lD _ (kB ..)
theorem vB (w:Wa) (a:Act):(jC w a).2.texts=[]:=by
 unfold jC
 split
 rfl
 split
 rfl
 split
 rfl
 split<;>exact lD _ Z
theorem yQ (w:Wa) (a:Act):(nh w a).2.texts=[]:=by
 unfold nh
 split
 rfl
 split<;>exact z8 ..
theorem yM (w:Wa) (a:Act):(mD w a).2.texts=[]:=by
 unfold mD
 split
 rfl
 split<;>rfl
theorem Ap (w:Wa) (a:Act):(Ar w a).2.texts=[]:=by unfold Ar;split<;>rfl
theorem p8 (a:Act) (w:Wa):(a.kind=1->j8 w a=mI w a)/\(a.kind=2->j8 w a=kG w a)/\(a.kind=3∨a.kind=4->j8 w a=gY w a (decide (a.kind=4)))/\(a.kind=5->j8 w a=jC w a)/\(a.kind=6->j8 w a=nh w a)/\(a.kind=7->j8 w a=wJ w a)/\(8<=a.kind/\a.kind<=15->j8 w a=mD w a)/\(16<=a.kind->j8 w a=Ar w a):=by
 unfold j8
 refine⟨fun h=> ?_,fun h=> ?_,fun h=> ?_,fun h=> ?_,fun h=> ?_,fun h=> ?_,fun h=> ?_,fun h=> ?_⟩<;>(repeat (first|rw[if_pos I]|rw[if_neg I]))
theorem Pg (A B C X K:List (Nat×Obj)):(A++(B++(C++(X++K)))).Perm (X++(A++(B++(C++K)))):=by
 rw[show A++(B++(C++(X++K)))=(A++B++C)++(X++K) by simp,show A++(B++(C++K))=(A++B++C)++K by simp]
 exact gf (A++B++C) X K
theorem Bw.into {w2:World} (B:Bw w0 w bb b gP uP Ls Lo K F) (X:List (Nat×Obj)) (H:Hp w0 w2 (X++((bb,.cells b.c.toArray bF (0,0))::(gP,.cells uP bK (0,0))::(Ls++(Lo++K)))) F):Bw w0 w2 bb b gP uP Ls Lo (X++K) F:=
 ⟨B.pA,B.row,B.sn,B.own,B.co,B.gr,B.ps,H.perm (Pg [(bb,_),(gP,_)] Ls Lo X K)⟩
theorem Bw.out {X:List (Nat×Obj)} (B:Bw w0 w bb b gP uP Ls Lo (X++K) F):Hp w0 w (X++((bb,.cells b.c.toArray bF (0,0))::(gP,.cells uP bK (0,0))::(Ls++(Lo++K)))) F:=B.H.perm (Pg [(bb,_),(gP,_)] Ls Lo X K).symm
theorem Bw.at_ {w2:World} {K1:List (Nat×Obj)} (B:Bw w0 w bb b gP uP Ls Lo K1 F) (X:List (Nat×Obj)) (H:Hp w0 w2 (X++((bb,.cells b.c.toArray bF (0,0))::(gP,.cells uP bK (0,0))::(Ls++(Lo++K)))) F):Bw w0 w2 bb b gP uP Ls Lo K F:=
 ⟨B.pA,B.row,B.sn,B.own,B.co,B.gr,B.ps,H.forget (bZ X _) (fun _ h=>h)⟩
theorem zE {l:List Sn} {s:ByteArray} {i:Nat} (h:eK l s=some i): ∃ x,l[i]? =some x:=by
 obtain⟨x,h1,-⟩:=GI h
 exact⟨x,h1⟩
theorem L0 (B:Bw w0 w bb b gP uP Ls Lo K F) (hw:WI np nr few wt k M b.a) (hk:k<400) (h4:np<=4) (g:nc np nr a) (h1:1<=np) (hkd:a.kind=1):dt aa kh [.pointer (Qd bb),a.v] w (BI b a w0 bb K F):=by
 obtain⟨hln,hsl,hcb,hgi,hpk⟩:=B.facts hw hk
 refine uD I ((p8 a b.a).1 hkd) (yT ..) ?_
 cases hix:eK b.sns a.name with
 |none=>exact JO a B hsl (g.name (.inl hkd)) hcb I I I hix
 |some i=>
  obtain⟨x,hx⟩:=zE hix
  exact JN a B hsl (g.name (.inl hkd)) hcb I I I hix hx
theorem Ka (B:Bw w0 w bb b gP uP Ls Lo K F) (hw:WI np nr few wt k M b.a) (hk:k<400) (_:np<=4) (_:nc np nr a) (hkd:a.kind=2):dt aa jU [.pointer (Qd bb),a.v] w (BI b a w0 bb K F):=by
 obtain⟨-,hsl,-⟩:=B.facts hw hk
 refine uD I ((p8 a b.a).2.1 hkd) (xx ..) ?_
 cases hix:eK b.sns a.name with
 |none=>exact HK a B hsl hix
 |some i=>
  obtain⟨x,hx⟩:=zE hix
  exact HH a B hsl hix hx
theorem E5 (B:Bw w0 w bb b gP uP Ls Lo K F) (hw:WI np nr few wt k M b.a) (hk:k<400) (h4:np<=4) (g:nc np nr a) (hkd:a.kind=3∨a.kind=4):dt aa iZ [.pointer (Qd bb),a.v,.bool (decide (a.kind=4))] w (BI b a w0 bb K F):=by
 obtain⟨hln,hsl,hcb,-,hpk⟩:=B.facts hw hk
 refine uD I ((p8 a b.a).2.2.1 hkd) (yJ ..) ?_
 have hpn:=g.part
 cases hix:eK b.sns a.name with
 |none=>exact Jf a B hsl (decide (a.kind=4)) hix
 |some i=>
  obtain⟨x,hx⟩:=zE hix
  obtain⟨s1,s2,s3,s4⟩:=Bw.sender hw hx
  have hpk2:=fun(q:Pq) hq=>(⟨(hpk q hq).1,(hpk q hq).2.2⟩:q.p.a.ok/\ ∀ (l:Nat) (y:f5),q.p.leader=(l:Int)->q.p.reps[l]? =some y->y.es.length<400)
  by_cases h4k:a.kind=4
  rw[decide_eq_true h4k]
  exact GO a B hsl hix hx I g.lost I I I s1 hcb hpk2
  rw[decide_eq_false h4k]
  exact K6 a B hsl hix hx I g.lost I I I s1 hcb hpk2 g.text (fun q hq=>by have:=s4 q hq;omega)
theorem Bd (B:Bw w0 w bb b gP uP Ls Lo K F) (hw:WI np nr few wt k M b.a) (hk:k<400) (h4:np<=4) (g:nc np nr a) (hkd:a.kind=5):dt aa jB [.pointer (Qd bb),a.v] w (BI b a w0 bb K F):=by
 obtain⟨-,hsl,hcb,-⟩:=B.facts hw hk
 refine uD I ((p8 a b.a).2.2.2.1 hkd) (vB ..) ?_
 cases hix:eK b.sns a.name with
 |none=>exact FT a B hsl hix
 |some i=>
  obtain⟨x,hx⟩:=zE hix
  obtain⟨s1,-,s3,-⟩:=Bw.sender hw hx
  exact FS a B hsl hix hx g.lost ⟨g.n.1,g.fin hkd⟩ I s1 hcb
theorem Fq (B:Bw w0 w bb b gP uP Ls Lo K F) (hw:WI np nr few wt k M b.a) (hk:k<400) (_:np<=4) (g:nc np nr a) (hkd:a.kind=6):dt aa kg [.pointer (Qd bb),a.v] w (BI b a w0 bb K F):=by
 obtain⟨-,-,hcb,-,hpk⟩:=B.facts hw hk
 refine uD I ((p8 a b.a).2.2.2.2.1 hkd) (yQ ..) ?_
 have hpk2:=fun(q:Pq) hq=>(⟨(hpk q hq).1,(hpk q hq).2.2⟩:q.p.a.ok/\ ∀ (l:Nat) (y:f5),q.p.leader=(l:Int)->q.p.reps[l]? =some y->y.es.length<400)
 cases hne:ia b.co.a.txs a.n.toNat with
 |none=>exact JD a B hcb g.n hne
 |some t=>exact JC a B hcb g.n hpk2 hne
theorem ES (B:Bw w0 w bb b gP uP Ls Lo K F) (hw:WI np nr few wt k M b.a) (hk:k<400) (h4:np<=4) (g:nc np nr a) (hkd:a.kind=7):dt aa ow [.pointer (Qd bb),a.v] w (BI b a w0 bb K F):=by
 obtain⟨hln,-,hcb,hgi,-⟩:=B.facts hw hk
 refine uD I ((p8 a b.a).2.2.2.2.2.1 hkd) Z ?_
 exact KI a B hcb I g.n hgi I
theorem wN (B:Bw w0 w bb b gP uP Ls Lo K F) (hw:WI np nr few wt k M b.a) (hk:k<400) (_:np<=4) (g:nc np nr a) (hkd:8<=a.kind/\a.kind<=15):dt aa ln [.pointer (Qd bb),a.v] w (BI b a w0 bb K F):=by
 obtain⟨hln,-,-,-,hpk⟩:=B.facts hw hk
 refine uD I ((p8 a b.a).2.2.2.2.2.2.1 hkd) (yM ..) ?_
 have hpn:=g.part
 exact Lc a B (by have:=g.kind;omega) I ⟨g.n.1,fun q hq=>by have:=g.rep hkd.1 hkd.2;have:=(hpk q hq).2.1;omega⟩ g.m (fun q hq=>(hpk q hq).1)
theorem qU (B:Bw w0 w bb b gP uP Ls Lo K F) (hw:WI np nr few wt k M b.a) (hk:k<400) (h4:np<=4) (g:nc np nr a) (hkd:a.kind=16∨a.kind=18∨a.kind=20):dt aa lZ [.pointer (Qd bb),a.v] w (BI b a w0 bb K F):=by
 obtain⟨hln,-,-,hgi,-⟩:=B.facts hw hk
 refine uD I ((p8 a b.a).2.2.2.2.2.2.2 I) (Ap ..) ?_
 exact NL a B I I (g.name I) g.m hgi I
theorem og (B:Bw w0 w bb b gP uP Ls Lo K F) (hw:WI np nr few wt k M b.a) (hk:k<400) (_:np<=4) (g:nc np nr a) (hkd:a.kind=19):dt aa gB [.pointer (Qd bb),a.v] w (BI b a w0 bb K F):=by
 obtain⟨hln,-,-,hgi,hpk⟩:=B.facts hw hk
 have hpn:=g.part
 have hnm:=g.name I
 have hpo:=fun q hq=>(hpk q hq).1
 have hq: ∃ q,b.ps[a.part.toNat]? =some q:=⟨_,ai I⟩
 obtain⟨q,hq⟩:=hq
 refine dt.mono (R:=fun v w2=> ∃ (x:An) (A:Option Addr) (c lo hi:Nat),re b.a a x/\v=.agg #[J x.code,J x.n,.slice A x.texts.length c]/\x.texts.length<=c/\xF w0 w2 bb b K (d4 my lo hi A x.texts::F)) ?_ fun v w2 ⟨x,A,c,lo,hi,h1,h2,h3,h4⟩=>⟨b,x,A,c,lo,hi,.poll x hkd h1,h2,h3,h4⟩
 by_cases hw0:(eP b.gr.a a.name a.part).2=0
 have hqok:=(hpk q (ab hq)).1
 by_cases hl:q.p.leader<0
 exact Jn a B hnm I (g.poll hkd) hgi hpo hw0 (fun q' h=>by rw[hq]at h;cases h;exact hl)
 obtain⟨l,hl2⟩: ∃ l:Nat,q.p.leader=l:=⟨q.p.leader.toNat,by omega⟩
 have hld1:q.p.leader<((q.p.reps.map f5.a).length:Nat):=hqok.ld1
 rw[bl]at hld1
 obtain⟨y,hy⟩: ∃ y,q.p.reps[l]? =some y:=⟨_,ai I⟩
 have hld: ∀ q',b.ps[a.part.toNat]? =some q'->q'.p.leader=l/\q'.p.reps[l]? =some y:=fun q' h=>by rw[hq]at h;cases h;exact⟨hl2,hy⟩
 by_cases hle:(eP b.gr.a a.name a.part).1.toNat<=y.es.length
 exact Nt a B hnm I (g.poll hkd) hgi hpo hw0 hld hle
 exact GU a B hnm I (g.poll hkd) hgi hpo hw0 hld I
 exact Nu a B hnm I hgi hw0
end
theorem PC {w0 w:World} {bb gP:Nat} {b:Bk} {uP:Array Value} {Ls Lo K:List (Nat×Obj)} {F:List cf} {np nr k:Nat} {few wt:Int} {M:Nat->List cv} {a:Act} (B:Bw w0 w bb b gP uP Ls Lo K F) (hw:WI np nr few wt k M b.a) (hk:k<400) (h1:1<=np) (h4:np<=4) (g:nc np nr a):dt aa ve [.pointer (Qd bb),a.v] w (BI b a w0 bb K F):=by
 refine aG ui Z Z ?_
 have hkd:=g.kind
 have H:=B.H
 show CW _ _ _ _ (args [.pointer (Qd bb),.agg #[J (a.kind),.string (a.name),J (a.part),J (a.n),J (a.m),.string (a.text),J (a.lost)]]) w
 refine W<|Zr<|gM H Z Z fun w1 b3 H=>fg H du Z fun w2 b4 H=>U<|W<|W<|Zr<|G (Zf un Z)<|G (Zd al H 1 Z Z Z)<|U<|Zb<|W<|Zr ?_
 refine dq (br Z Z) Z Z Z (fun h8=> ?_) (fun h8=> ?_)
 refine G (Wb Z)<|U<|ZT Z<|W<|Zr<|G (Yp Z)<|G (Zw dU H 1 Z Z Z)<|cz tV (L0 (B.into [(b4,_),(b3,_)] H) hw hk h4 g h1 h8) Z Z ?_
 rintro _ w3 ⟨b2,x2,A9,c9,lo9,hi9,hA9,rfl,hc9,gP9,uP9,Ls9,Lo9,F9,B9,hF9⟩
 replace H:=B9.out (X:=[(b4,_),(b3,_)])
 refine bC H 0 (#[J (x2.code),J (x2.n),.slice A9 x2.texts.length c9]) aN Z Z Z Z Z N N fun w4 H=>U<|Zt ?_
 exact eQ (cs0:= #[J (x2.code),J (x2.n),.slice A9 x2.texts.length c9]) Z aK Z (H.ent (i:=0) Z) Z ⟨b2,x2,A9,c9,lo9,hi9,hA9,rfl,hc9,gP9,uP9,Ls9,Lo9,F9,B9.at_ [(b4,_),(b3,_)] H,hF9⟩
 refine G (Wb Z)<|U<|ZF Z<|W<|Zr ?_
 refine dq (br Z Z) Z Z Z (fun h13=> ?_) (fun h13=> ?_)
 refine G (Wb Z)<|U<|ZT Z<|W<|Zr<|G (Yp Z)<|G (Zw dU H 1 Z Z Z)<|cz tl (Ka (B.into [(b4,_),(b3,_)] H) hw hk h4 g h13) Z Z ?_
 rintro _ w5 ⟨b2,x2,A9,c9,lo9,hi9,hA9,rfl,hc9,gP9,uP9,Ls9,Lo9,F9,B9,hF9⟩
 replace H:=B9.out (X:=[(b4,_),(b3,_)])
 refine bC H 0 (#[J (x2.code),J (x2.n),.slice A9 x2.texts.length c9]) aN Z Z Z Z Z N N fun w6 H=>U<|Zt ?_
 exact eQ (cs0:= #[J (x2.code),J (x2.n),.slice A9 x2.texts.length c9]) Z aK Z (H.ent (i:=0) Z) Z ⟨b2,x2,A9,c9,lo9,hi9,hA9,rfl,hc9,gP9,uP9,Ls9,Lo9,F9,B9.at_ [(b4,_),(b3,_)] H,hF9⟩
 refine G (Wb Z)<|U<|ZF Z<|W<|W<|Zr ?_
 refine dq (br Z Z) Z Z Z (fun h18=> ?_) (fun h18=> ?_)
 refine G (Wb Z)<|U ?_
 refine fp (τ:=Unit) [17,19] (fun _=>[(17,.bool (decide (a.kind=3∨a.kind=4)))]) (fun _ w'=>Hp w0 w' ((b4,.cells #[J (0),J (0),.slice none 0 0] ee (0,0))::(b3,.cells #[J (a.kind),.string (a.name),J (a.part),J (a.n),J (a.m),.string (a.text),J (a.lost)] jf (0,0))::(bb,.cells b.c.toArray bF (0,0))::(gP,.cells uP bK (0,0))::(Ls++(Lo++K))) F) ?_ ?_
 refine ZT Z<|Zk ?_
 exact⟨(),H,dO (congrArg Value.bool (decide_eq_true I)).symm,Qg⟩
 rintro _ ρ1 w7 H
 show CW _ _ _ _ (dH (gT _ _ ρ1) [(17,.bool (decide (a.kind=3∨a.kind=4)))]) w7
 refine kD Z (fun hc17=> ?_) (fun hc17=> ?_)
 refine W<|Zr<|G (Yp Z)<|G (Zw dU H 1 Z Z Z)<|G (Zf un Z)<|G (Zd al H 1 Z Z Z)<|G (br Z Z)<|cz nn (E5 (B.into [(b4,_),(b3,_)] H) hw hk h4 g (of_decide_eq_true hc17)) Z Z ?_
 rintro _ w8 ⟨b2,x2,A9,c9,lo9,hi9,hA9,rfl,hc9,gP9,uP9,Ls9,Lo9,F9,B9,hF9⟩
 replace H:=B9.out (X:=[(b4,_),(b3,_)])
 refine bC H 0 (#[J (x2.code),J (x2.n),.slice A9 x2.texts.length c9]) aN Z Z Z Z Z N N fun w9 H=>U<|Zt ?_
 exact eQ (cs0:= #[J (x2.code),J (x2.n),.slice A9 x2.texts.length c9]) Z aK Z (H.ent (i:=0) Z) Z ⟨b2,x2,A9,c9,lo9,hi9,hA9,rfl,hc9,gP9,uP9,Ls9,Lo9,F9,B9.at_ [(b4,_),(b3,_)] H,hF9⟩
 refine W<|Zr ?_
 refine dq (br Z Z) Z Z Z (fun h27=> ?_) (fun h27=> ?_)
 refine G (Wb Z)<|U<|ZT Z<|W<|Zr<|G (Yp Z)<|G (Zw dU H 1 Z Z Z)<|cz l9 (Bd (B.into [(b4,_),(b3,_)] H) hw hk h4 g h27) Z Z ?_
 rintro _ w10 ⟨b2,x2,A9,c9,lo9,hi9,hA9,rfl,hc9,gP9,uP9,Ls9,Lo9,F9,B9,hF9⟩
 replace H:=B9.out (X:=[(b4,_),(b3,_)])
 refine bC H 0 (#[J (x2.code),J (x2.n),.slice A9 x2.texts.length c9]) aN Z Z Z Z Z N N fun w11 H=>U<|Zt ?_
 exact eQ (cs0:= #[J (x2.code),J (x2.n),.slice A9 x2.texts.length c9]) Z aK Z (H.ent (i:=0) Z) Z ⟨b2,x2,A9,c9,lo9,hi9,hA9,rfl,hc9,gP9,uP9,Ls9,Lo9,F9,B9.at_ [(b4,_),(b3,_)] H,hF9⟩
 refine G (Wb Z)<|U<|ZF Z<|W<|Zr ?_
 refine dq (br Z Z) Z Z Z (fun h32=> ?_) (fun h32=> ?_)
 refine G (Wb Z)<|U<|ZT Z<|W<|Zr<|G (Yp Z)<|G (Zw dU H 1 Z Z Z)<|cz nt (Fq (B.into [(b4,_),(b3,_)] H) hw hk h4 g h32) Z Z ?_
 rintro _ w12 ⟨b2,x2,A9,c9,lo9,hi9,hA9,rfl,hc9,gP9,uP9,Ls9,Lo9,F9,B9,hF9⟩
 replace H:=B9.out (X:=[(b4,_),(b3,_)])
 refine bC H 0 (#[J (x2.code),J (x2.n),.slice A9 x2.texts.length c9]) aN Z Z Z Z Z N N fun w13 H=>U<|Zt ?_
 exact eQ (cs0:= #[J (x2.code),J (x2.n),.slice A9 x2.texts.length c9]) Z aK Z (H.ent (i:=0) Z) Z ⟨b2,x2,A9,c9,lo9,hi9,hA9,rfl,hc9,gP9,uP9,Ls9,Lo9,F9,B9.at_ [(b4,_),(b3,_)] H,hF9⟩
 refine G (Wb Z)<|U<|ZF Z<|W<|Zr ?_
 refine dq (br Z Z) Z Z Z (fun h37=> ?_) (fun h37=> ?_)
 refine G (Wb Z)<|U<|ZT Z<|W<|Zr<|G (Yp Z)<|G (Zw dU H 1 Z Z Z)<|cz nk (ES (B.into [(b4,_),(b3,_)] H) hw hk h4 g h37) Z Z ?_
 rintro _ w14 ⟨b2,x2,A9,c9,lo9,hi9,hA9,rfl,hc9,gP9,uP9,Ls9,Lo9,F9,B9,hF9⟩
 replace H:=B9.out (X:=[(b4,_),(b3,_)])
 refine bC H 0 (#[J (x2.code),J (x2.n),.slice A9 x2.texts.length c9]) aN Z Z Z Z Z N N fun w15 H=>U<|Zt ?_
 exact eQ (cs0:= #[J (x2.code),J (x2.n),.slice A9 x2.texts.length c9]) Z aK Z (H.ent (i:=0) Z) Z ⟨b2,x2,A9,c9,lo9,hi9,hA9,rfl,hc9,gP9,uP9,Ls9,Lo9,F9,B9.at_ [(b4,_),(b3,_)] H,hF9⟩
 refine G (Wb Z)<|U<|ZF Z<|W<|W<|Zr ?_
 refine dq (br Z Z) Z Z Z (fun h42=> ?_) (fun h42=> ?_)
 refine G (Wb Z)<|U ?_
 refine fp (τ:=Unit) [41,43,44,45,46,47,48,49] (fun _=>[(41,.bool (decide (8<=a.kind/\a.kind<=15)))]) (fun _ w'=>Hp w0 w' ((b4,.cells #[J (0),J (0),.slice none 0 0] ee (0,0))::(b3,.cells #[J (a.kind),.string (a.name),J (a.part),J (a.n),J (a.m),.string (a.text),J (a.lost)] jf (0,0))::(bb,.cells b.c.toArray bF (0,0))::(gP,.cells uP bK (0,0))::(Ls++(Lo++K))) F) ?_ ?_
 refine ZT Z<|Zk ?_
 exact⟨(),H,dO (congrArg Value.bool (decide_eq_true I)).symm,Qg⟩
 rintro _ ρ1 w16 H
 show CW _ _ _ _ (dH (gT _ _ ρ1) [(41,.bool (decide (8<=a.kind/\a.kind<=15)))]) w16
 refine kD Z (fun hc41=> ?_) (fun hc41=> ?_)
 refine W<|Zr<|G (Yp Z)<|G (Zw dU H 1 Z Z Z)<|cz gg (wN (B.into [(b4,_),(b3,_)] H) hw hk h4 g (of_decide_eq_true hc41)) Z Z ?_
 rintro _ w17 ⟨b2,x2,A9,c9,lo9,hi9,hA9,rfl,hc9,gP9,uP9,Ls9,Lo9,F9,B9,hF9⟩
 replace H:=B9.out (X:=[(b4,_),(b3,_)])
 refine bC H 0 (#[J (x2.code),J (x2.n),.slice A9 x2.texts.length c9]) aN Z Z Z Z Z N N fun w18 H=>U<|Zt ?_
 exact eQ (cs0:= #[J (x2.code),J (x2.n),.slice A9 x2.texts.length c9]) Z aK Z (H.ent (i:=0) Z) Z ⟨b2,x2,A9,c9,lo9,hi9,hA9,rfl,hc9,gP9,uP9,Ls9,Lo9,F9,B9.at_ [(b4,_),(b3,_)] H,hF9⟩
 refine W<|W<|Zr ?_
 refine dq (br Z Z) Z Z Z (fun h54=> ?_) (fun h54=> ?_)
 refine G (Wb Z)<|U ?_
 refine fp (τ:=Unit) [53,55,56,57] (fun _=>[(53,.bool (decide (a.kind=16∨a.kind=18∨a.kind=20)))]) (fun _ w'=>Hp w0 w' ((b4,.cells #[J (0),J (0),.slice none 0 0] ee (0,0))::(b3,.cells #[J (a.kind),.string (a.name),J (a.part),J (a.n),J (a.m),.string (a.text),J (a.lost)] jf (0,0))::(bb,.cells b.c.toArray bF (0,0))::(gP,.cells uP bK (0,0))::(Ls++(Lo++K))) F) ?_ ?_
 refine ZT Z<|Zk ?_
 exact⟨(),H,dO (congrArg Value.bool (decide_eq_true I)).symm,Qg⟩
 rintro _ ρ1 w19 H
 show CW _ _ _ _ (dH (gT _ _ ρ1) [(53,.bool (decide (a.kind=16∨a.kind=18∨a.kind=20)))]) w19
 refine kD Z (fun hc53=> ?_) (fun hc53=> ?_)
 refine W<|Zr<|G (Yp Z)<|G (Zw dU H 1 Z Z Z)<|cz dM (qU (B.into [(b4,_),(b3,_)] H) hw hk h4 g (of_decide_eq_true hc53)) Z Z ?_
 rintro _ w20 ⟨b2,x2,A9,c9,lo9,hi9,hA9,rfl,hc9,gP9,uP9,Ls9,Lo9,F9,B9,hF9⟩
 replace H:=B9.out (X:=[(b4,_),(b3,_)])
 refine bC H 0 (#[J (x2.code),J (x2.n),.slice A9 x2.texts.length c9]) aN Z Z Z Z Z N N fun w21 H=>U<|Zt ?_
 exact eQ (cs0:= #[J (x2.code),J (x2.n),.slice A9 x2.texts.length c9]) Z aK Z (H.ent (i:=0) Z) Z ⟨b2,x2,A9,c9,lo9,hi9,hA9,rfl,hc9,gP9,uP9,Ls9,Lo9,F9,B9.at_ [(b4,_),(b3,_)] H,hF9⟩
 refine W<|Zr ?_
 refine dq (br Z Z) Z Z Z (fun h62=> ?_) (fun h62=> ?_)
 refine G (Wb Z)<|U<|ZT Z<|W<|Zr<|G (Yp Z)<|G (Zw dU H 1 Z Z Z)<|cz eh (og (B.into [(b4,_),(b3,_)] H) hw hk h4 g h62) Z Z ?_
 rintro _ w22 ⟨b2,x2,A9,c9,lo9,hi9,hA9,rfl,hc9,gP9,uP9,Ls9,Lo9,F9,B9,hF9⟩
 replace H:=B9.out (X:=[(b4,_),(b3,_)])
 refine bC H 0 (#[J (x2.code),J (x2.n),.slice A9 x2.texts.length c9]) aN Z Z Z Z Z N N fun w23 H=>U<|Zt ?_
 exact eQ (cs0:= #[J (x2.code),J (x2.n),.slice A9 x2.texts.length c9]) Z aK Z (H.ent (i:=0) Z) Z ⟨b2,x2,A9,c9,lo9,hi9,hA9,rfl,hc9,gP9,uP9,Ls9,Lo9,F9,B9.at_ [(b4,_),(b3,_)] H,hF9⟩
 exfalso;have h41:=of_decide_eq_false hc41;have h53:=of_decide_eq_false hc53;have h17:=of_decide_eq_false hc17;omega
 refine G (Wb Z)<|U ?_
 refine fp (τ:=Unit) [53,55,56,57] (fun _=>[(53,.bool (decide (a.kind=16∨a.kind=18∨a.kind=20)))]) (fun _ w'=>Hp w0 w' ((b4,.cells #[J (0),J (0),.slice none 0 0] ee (0,0))::(b3,.cells #[J (a.kind),.string (a.name),J (a.part),J (a.n),J (a.m),.string (a.text),J (a.lost)] jf (0,0))::(bb,.cells b.c.toArray bF (0,0))::(gP,.cells uP bK (0,0))::(Ls++(Lo++K))) F) ?_ ?_
 refine ZF Z<|W<|Zr ?_
 refine dq (br Z Z) Z Z Z (fun h55=> ?_) (fun h55=> ?_)
 exact absurd h55 hkd.2.2.1
 refine G (Wb Z)<|U<|ZF Z<|W<|Zr ?_
 refine dq (br Z Z) Z Z Z (fun h56=> ?_) (fun h56=> ?_)
 refine G (Wb Z)<|U<|ZT Z<|Zk ?_
 exact⟨(),H,dO (congrArg Value.bool (decide_eq_true I)).symm,Qg⟩
 refine G (Wb Z)<|U<|ZF Z<|Zr ?_
 refine dq (br Z Z) Z Z Z (fun h57=> ?_) (fun h57=> ?_)
 refine G (Wb Z)<|U ?_
 exact⟨(),H,dO (congrArg Value.bool (decide_eq_true I)).symm,Qg⟩
 refine G (Wb Z)<|U ?_
 exact⟨(),H,dO (congrArg Value.bool (decide_eq_false I)).symm,Qg⟩
 rintro _ ρ1 w24 H
 show CW _ _ _ _ (dH (gT _ _ ρ1) [(53,.bool (decide (a.kind=16∨a.kind=18∨a.kind=20)))]) w24
 refine kD Z (fun hc53=> ?_) (fun hc53=> ?_)
 refine W<|Zr<|G (Yp Z)<|G (Zw dU H 1 Z Z Z)<|cz dM (qU (B.into [(b4,_),(b3,_)] H) hw hk h4 g (of_decide_eq_true hc53)) Z Z ?_
 rintro _ w25 ⟨b2,x2,A9,c9,lo9,hi9,hA9,rfl,hc9,gP9,uP9,Ls9,Lo9,F9,B9,hF9⟩
 replace H:=B9.out (X:=[(b4,_),(b3,_)])
 refine bC H 0 (#[J (x2.code),J (x2.n),.slice A9 x2.texts.length c9]) aN Z Z Z Z Z N N fun w26 H=>U<|Zt ?_
 exact eQ (cs0:= #[J (x2.code),J (x2.n),.slice A9 x2.texts.length c9]) Z aK Z (H.ent (i:=0) Z) Z ⟨b2,x2,A9,c9,lo9,hi9,hA9,rfl,hc9,gP9,uP9,Ls9,Lo9,F9,B9.at_ [(b4,_),(b3,_)] H,hF9⟩
 refine W<|Zr ?_
 refine dq (br Z Z) Z Z Z (fun h62=> ?_) (fun h62=> ?_)
 refine G (Wb Z)<|U<|ZT Z<|W<|Zr<|G (Yp Z)<|G (Zw dU H 1 Z Z Z)<|cz eh (og (B.into [(b4,_),(b3,_)] H) hw hk h4 g h62) Z Z ?_
 rintro _ w27 ⟨b2,x2,A9,c9,lo9,hi9,hA9,rfl,hc9,gP9,uP9,Ls9,Lo9,F9,B9,hF9⟩
 replace H:=B9.out (X:=[(b4,_),(b3,_)])
 refine bC H 0 (#[J (x2.code),J (x2.n),.slice A9 x2.texts.length c9]) aN Z Z Z Z Z N N fun w28 H=>U<|Zt ?_
 exact eQ (cs0:= #[J (x2.code),J (x2.n),.slice A9 x2.texts.length c9]) Z aK Z (H.ent (i:=0) Z) Z ⟨b2,x2,A9,c9,lo9,hi9,hA9,rfl,hc9,gP9,uP9,Ls9,Lo9,F9,B9.at_ [(b4,_),(b3,_)] H,hF9⟩
 exfalso;have h41:=of_decide_eq_false hc41;have h53:=of_decide_eq_false hc53;have h17:=of_decide_eq_false hc17;omega
 refine G (Wb Z)<|U ?_
 refine fp (τ:=Unit) [41,43,44,45,46,47,48,49] (fun _=>[(41,.bool (decide (8<=a.kind/\a.kind<=15)))]) (fun _ w'=>Hp w0 w' ((b4,.cells #[J (0),J (0),.slice none 0 0] ee (0,0))::(b3,.cells #[J (a.kind),.string (a.name),J (a.part),J (a.n),J (a.m),.string (a.text),J (a.lost)] jf (0,0))::(bb,.cells b.c.toArray bF (0,0))::(gP,.cells uP bK (0,0))::(Ls++(Lo++K))) F) ?_ ?_
 refine ZF Z<|W<|Zr ?_
 refine dq (br Z Z) Z Z Z (fun h43=> ?_) (fun h43=> ?_)
 refine G (Wb Z)<|U<|ZT Z<|Zk ?_
 exact⟨(),H,dO (congrArg Value.bool (decide_eq_true I)).symm,Qg⟩
 refine G (Wb Z)<|U<|ZF Z<|W<|Zr ?_
 refine dq (br Z Z) Z Z Z (fun h44=> ?_) (fun h44=> ?_)
 refine G (Wb Z)<|U<|ZT Z<|Zk ?_
 exact⟨(),H,dO (congrArg Value.bool (decide_eq_true I)).symm,Qg⟩
 refine G (Wb Z)<|U<|ZF Z<|W<|Zr ?_
 refine dq (br Z Z) Z Z Z (fun h45=> ?_) (fun h45=> ?_)
 refine G (Wb Z)<|U<|ZT Z<|Zk ?_
 exact⟨(),H,dO (congrArg Value.bool (decide_eq_true I)).symm,Qg⟩
 refine G (Wb Z)<|U<|ZF Z<|W<|Zr ?_
 refine dq (br Z Z) Z Z Z (fun h46=> ?_) (fun h46=> ?_)
 refine G (Wb Z)<|U<|ZT Z<|Zk ?_
 exact⟨(),H,dO (congrArg Value.bool (decide_eq_true I)).symm,Qg⟩
 refine G (Wb Z)<|U<|ZF Z<|W<|Zr ?_
 refine dq (br Z Z) Z Z Z (fun h47=> ?_) (fun h47=> ?_)
 refine G (Wb Z)<|U<|ZT Z<|Zk ?_
 exact⟨(),H,dO (congrArg Value.bool (decide_eq_true I)).symm,Qg⟩
 refine G (Wb Z)<|U<|ZF Z<|W<|Zr ?_
 refine dq (br Z Z) Z Z Z (fun h48=> ?_) (fun h48=> ?_)
 refine G (Wb Z)<|U<|ZT Z<|Zk ?_
 exact⟨(),H,dO (congrArg Value.bool (decide_eq_true I)).symm,Qg⟩
 refine G (Wb Z)<|U<|ZF Z<|Zr ?_
 refine dq (br Z Z) Z Z Z (fun h49=> ?_) (fun h49=> ?_)
 refine G (Wb Z)<|U ?_
 exact⟨(),H,dO (congrArg Value.bool (decide_eq_true I)).symm,Qg⟩
 refine G (Wb Z)<|U ?_
 exact⟨(),H,dO (congrArg Value.bool (decide_eq_false I)).symm,Qg⟩
 rintro _ ρ1 w29 H
 show CW _ _ _ _ (dH (gT _ _ ρ1) [(41,.bool (decide (8<=a.kind/\a.kind<=15)))]) w29
 refine kD Z (fun hc41=> ?_) (fun hc41=> ?_)
 refine W<|Zr<|G (Yp Z)<|G (Zw dU H 1 Z Z Z)<|cz gg (wN (B.into [(b4,_),(b3,_)] H) hw hk h4 g (of_decide_eq_true hc41)) Z Z ?_
 rintro _ w30 ⟨b2,x2,A9,c9,lo9,hi9,hA9,rfl,hc9,gP9,uP9,Ls9,Lo9,F9,B9,hF9⟩
 replace H:=B9.out (X:=[(b4,_),(b3,_)])
 refine bC H 0 (#[J (x2.code),J (x2.n),.slice A9 x2.texts.length c9]) aN Z Z Z Z Z N N fun w31 H=>U<|Zt ?_
 exact eQ (cs0:= #[J (x2.code),J (x2.n),.slice A9 x2.texts.length c9]) Z aK Z (H.ent (i:=0) Z) Z ⟨b2,x2,A9,c9,lo9,hi9,hA9,rfl,hc9,gP9,uP9,Ls9,Lo9,F9,B9.at_ [(b4,_),(b3,_)] H,hF9⟩
 refine W<|W<|Zr ?_
 refine dq (br Z Z) Z Z Z (fun h54=> ?_) (fun h54=> ?_)
 refine G (Wb Z)<|U ?_
 refine fp (τ:=Unit) [53,55,56,57] (fun _=>[(53,.bool (decide (a.kind=16∨a.kind=18∨a.kind=20)))]) (fun _ w'=>Hp w0 w' ((b4,.cells #[J (0),J (0),.slice none 0 0] ee (0,0))::(b3,.cells #[J (a.kind),.string (a.name),J (a.part),J (a.n),J (a.m),.string (a.text),J (a.lost)] jf (0,0))::(bb,.cells b.c.toArray bF (0,0))::(gP,.cells uP bK (0,0))::(Ls++(Lo++K))) F) ?_ ?_
 refine ZT Z<|Zk ?_
 exact⟨(),H,dO (congrArg Value.bool (decide_eq_true I)).symm,Qg⟩
 rintro _ ρ1 w32 H
 show CW _ _ _ _ (dH (gT _ _ ρ1) [(53,.bool (decide (a.kind=16∨a.kind=18∨a.kind=20)))]) w32
 refine kD Z (fun hc53=> ?_) (fun hc53=> ?_)
 refine W<|Zr<|G (Yp Z)<|G (Zw dU H 1 Z Z Z)<|cz dM (qU (B.into [(b4,_),(b3,_)] H) hw hk h4 g (of_decide_eq_true hc53)) Z Z ?_
 rintro _ w33 ⟨b2,x2,A9,c9,lo9,hi9,hA9,rfl,hc9,gP9,uP9,Ls9,Lo9,F9,B9,hF9⟩
 replace H:=B9.out (X:=[(b4,_),(b3,_)])
 refine bC H 0 (#[J (x2.code),J (x2.n),.slice A9 x2.texts.length c9]) aN Z Z Z Z Z N N fun w34 H=>U<|Zt ?_
 exact eQ (cs0:= #[J (x2.code),J (x2.n),.slice A9 x2.texts.length c9]) Z aK Z (H.ent (i:=0) Z) Z ⟨b2,x2,A9,c9,lo9,hi9,hA9,rfl,hc9,gP9,uP9,Ls9,Lo9,F9,B9.at_ [(b4,_),(b3,_)] H,hF9⟩
 refine W<|Zr ?_
 refine dq (br Z Z) Z Z Z (fun h62=> ?_) (fun h62=> ?_)
 refine G (Wb Z)<|U<|ZT Z<|W<|Zr<|G (Yp Z)<|G (Zw dU H 1 Z Z Z)<|cz eh (og (B.into [(b4,_),(b3,_)] H) hw hk h4 g h62) Z Z ?_
 rintro _ w35 ⟨b2,x2,A9,c9,lo9,hi9,hA9,rfl,hc9,gP9,uP9,Ls9,Lo9,F9,B9,hF9⟩
 replace H:=B9.out (X:=[(b4,_),(b3,_)])
 refine bC H 0 (#[J (x2.code),J (x2.n),.slice A9 x2.texts.length c9]) aN Z Z Z Z Z N N fun w36 H=>U<|Zt ?_
 exact eQ (cs0:= #[J (x2.code),J (x2.n),.slice A9 x2.texts.length c9]) Z aK Z (H.ent (i:=0) Z) Z ⟨b2,x2,A9,c9,lo9,hi9,hA9,rfl,hc9,gP9,uP9,Ls9,Lo9,F9,B9.at_ [(b4,_),(b3,_)] H,hF9⟩
 exfalso;have h41:=of_decide_eq_false hc41;have h53:=of_decide_eq_false hc53;have h17:=of_decide_eq_false hc17;omega
 refine G (Wb Z)<|U ?_
 refine fp (τ:=Unit) [53,55,56,57] (fun _=>[(53,.bool (decide (a.kind=16∨a.kind=18∨a.kind=20)))]) (fun _ w'=>Hp w0 w' ((b4,.cells #[J (0),J (0),.slice none 0 0] ee (0,0))::(b3,.cells #[J (a.kind),.string (a.name),J (a.part),J (a.n),J (a.m),.string (a.text),J (a.lost)] jf (0,0))::(bb,.cells b.c.toArray bF (0,0))::(gP,.cells uP bK (0,0))::(Ls++(Lo++K))) F) ?_ ?_
 refine ZF Z<|W<|Zr ?_
 refine dq (br Z Z) Z Z Z (fun h55=> ?_) (fun h55=> ?_)
 exact absurd h55 hkd.2.2.1
 refine G (Wb Z)<|U<|ZF Z<|W<|Zr ?_
 refine dq (br Z Z) Z Z Z (fun h56=> ?_) (fun h56=> ?_)
 refine G (Wb Z)<|U<|ZT Z<|Zk ?_
 exact⟨(),H,dO (congrArg Value.bool (decide_eq_true I)).symm,Qg⟩
 refine G (Wb Z)<|U<|ZF Z<|Zr ?_
 refine dq (br Z Z) Z Z Z (fun h57=> ?_) (fun h57=> ?_)
 refine G (Wb Z)<|U ?_
 exact⟨(),H,dO (congrArg Value.bool (decide_eq_true I)).symm,Qg⟩
 refine G (Wb Z)<|U ?_
 exact⟨(),H,dO (congrArg Value.bool (decide_eq_false I)).symm,Qg⟩
 rintro _ ρ1 w37 H
 show CW _ _ _ _ (dH (gT _ _ ρ1) [(53,.bool (decide (a.kind=16∨a.kind=18∨a.kind=20)))]) w37
 refine kD Z (fun hc53=> ?_) (fun hc53=> ?_)
 refine W<|Zr<|G (Yp Z)<|G (Zw dU H 1 Z Z Z)<|cz dM (qU (B.into [(b4,_),(b3,_)] H) hw hk h4 g (of_decide_eq_true hc53)) Z Z ?_
 rintro _ w38 ⟨b2,x2,A9,c9,lo9,hi9,hA9,rfl,hc9,gP9,uP9,Ls9,Lo9,F9,B9,hF9⟩
 replace H:=B9.out (X:=[(b4,_),(b3,_)])
 refine bC H 0 (#[J (x2.code),J (x2.n),.slice A9 x2.texts.length c9]) aN Z Z Z Z Z N N fun w39 H=>U<|Zt ?_
 exact eQ (cs0:= #[J (x2.code),J (x2.n),.slice A9 x2.texts.length c9]) Z aK Z (H.ent (i:=0) Z) Z ⟨b2,x2,A9,c9,lo9,hi9,hA9,rfl,hc9,gP9,uP9,Ls9,Lo9,F9,B9.at_ [(b4,_),(b3,_)] H,hF9⟩
 refine W<|Zr ?_
 refine dq (br Z Z) Z Z Z (fun h62=> ?_) (fun h62=> ?_)
 refine G (Wb Z)<|U<|ZT Z<|W<|Zr<|G (Yp Z)<|G (Zw dU H 1 Z Z Z)<|cz eh (og (B.into [(b4,_),(b3,_)] H) hw hk h4 g h62) Z Z ?_
 rintro _ w40 ⟨b2,x2,A9,c9,lo9,hi9,hA9,rfl,hc9,gP9,uP9,Ls9,Lo9,F9,B9,hF9⟩
 replace H:=B9.out (X:=[(b4,_),(b3,_)])
 refine bC H 0 (#[J (x2.code),J (x2.n),.slice A9 x2.texts.length c9]) aN Z Z Z Z Z N N fun w41 H=>U<|Zt ?_
 exact eQ (cs0:= #[J (x2.code),J (x2.n),.slice A9 x2.texts.length c9]) Z aK Z (H.ent (i:=0) Z) Z ⟨b2,x2,A9,c9,lo9,hi9,hA9,rfl,hc9,gP9,uP9,Ls9,Lo9,F9,B9.at_ [(b4,_),(b3,_)] H,hF9⟩
 exfalso;have h41:=of_decide_eq_false hc41;have h53:=of_decide_eq_false hc53;have h17:=of_decide_eq_false hc17;omega
 refine G (Wb Z)<|U ?_
 refine fp (τ:=Unit) [17,19] (fun _=>[(17,.bool (decide (a.kind=3∨a.kind=4)))]) (fun _ w'=>Hp w0 w' ((b4,.cells #[J (0),J (0),.slice none 0 0] ee (0,0))::(b3,.cells #[J (a.kind),.string (a.name),J (a.part),J (a.n),J (a.m),.string (a.text),J (a.lost)] jf (0,0))::(bb,.cells b.c.toArray bF (0,0))::(gP,.cells uP bK (0,0))::(Ls++(Lo++K))) F) ?_ ?_
 refine ZF Z<|Zr ?_
 refine dq (br Z Z) Z Z Z (fun h19=> ?_) (fun h19=> ?_)
 refine G (Wb Z)<|U ?_
 exact⟨(),H,dO (congrArg Value.bool (decide_eq_true I)).symm,Qg⟩
 refine G (Wb Z)<|U ?_
 exact⟨(),H,dO (congrArg Value.bool (decide_eq_false I)).symm,Qg⟩
 rintro _ ρ1 w42 H
 show CW _ _ _ _ (dH (gT _ _ ρ1) [(17,.bool (decide (a.kind=3∨a.kind=4)))]) w42
 refine kD Z (fun hc17=> ?_) (fun hc17=> ?_)
 refine W<|Zr<|G (Yp Z)<|G (Zw dU H 1 Z Z Z)<|G (Zf un Z)<|G (Zd al H 1 Z Z Z)<|G (br Z Z)<|cz nn (E5 (B.into [(b4,_),(b3,_)] H) hw hk h4 g (of_decide_eq_true hc17)) Z Z ?_
 rintro _ w43 ⟨b2,x2,A9,c9,lo9,hi9,hA9,rfl,hc9,gP9,uP9,Ls9,Lo9,F9,B9,hF9⟩
 replace H:=B9.out (X:=[(b4,_),(b3,_)])
 refine bC H 0 (#[J (x2.code),J (x2.n),.slice A9 x2.texts.length c9]) aN Z Z Z Z Z N N fun w44 H=>U<|Zt ?_
 exact eQ (cs0:= #[J (x2.code),J (x2.n),.slice A9 x2.texts.length c9]) Z aK Z (H.ent (i:=0) Z) Z ⟨b2,x2,A9,c9,lo9,hi9,hA9,rfl,hc9,gP9,uP9,Ls9,Lo9,F9,B9.at_ [(b4,_),(b3,_)] H,hF9⟩
 refine W<|Zr ?_
 refine dq (br Z Z) Z Z Z (fun h27=> ?_) (fun h27=> ?_)
 refine G (Wb Z)<|U<|ZT Z<|W<|Zr<|G (Yp Z)<|G (Zw dU H 1 Z Z Z)<|cz l9 (Bd (B.into [(b4,_),(b3,_)] H) hw hk h4 g h27) Z Z ?_
 rintro _ w45 ⟨b2,x2,A9,c9,lo9,hi9,hA9,rfl,hc9,gP9,uP9,Ls9,Lo9,F9,B9,hF9⟩
 replace H:=B9.out (X:=[(b4,_),(b3,_)])
 refine bC H 0 (#[J (x2.code),J (x2.n),.slice A9 x2.texts.length c9]) aN Z Z Z Z Z N N fun w46 H=>U<|Zt ?_
 exact eQ (cs0:= #[J (x2.code),J (x2.n),.slice A9 x2.texts.length c9]) Z aK Z (H.ent (i:=0) Z) Z ⟨b2,x2,A9,c9,lo9,hi9,hA9,rfl,hc9,gP9,uP9,Ls9,Lo9,F9,B9.at_ [(b4,_),(b3,_)] H,hF9⟩
 refine G (Wb Z)<|U<|ZF Z<|W<|Zr ?_
 refine dq (br Z Z) Z Z Z (fun h32=> ?_) (fun h32=> ?_)
 refine G (Wb Z)<|U<|ZT Z<|W<|Zr<|G (Yp Z)<|G (Zw dU H 1 Z Z Z)<|cz nt (Fq (B.into [(b4,_),(b3,_)] H) hw hk h4 g h32) Z Z ?_
 rintro _ w47 ⟨b2,x2,A9,c9,lo9,hi9,hA9,rfl,hc9,gP9,uP9,Ls9,Lo9,F9,B9,hF9⟩
 replace H:=B9.out (X:=[(b4,_),(b3,_)])
 refine bC H 0 (#[J (x2.code),J (x2.n),.slice A9 x2.texts.length c9]) aN Z Z Z Z Z N N fun w48 H=>U<|Zt ?_
 exact eQ (cs0:= #[J (x2.code),J (x2.n),.slice A9 x2.texts.length c9]) Z aK Z (H.ent (i:=0) Z) Z ⟨b2,x2,A9,c9,lo9,hi9,hA9,rfl,hc9,gP9,uP9,Ls9,Lo9,F9,B9.at_ [(b4,_),(b3,_)] H,hF9⟩
 refine G (Wb Z)<|U<|ZF Z<|W<|Zr ?_
 refine dq (br Z Z) Z Z Z (fun h37=> ?_) (fun h37=> ?_)
 refine G (Wb Z)<|U<|ZT Z<|W<|Zr<|G (Yp Z)<|G (Zw dU H 1 Z Z Z)<|cz nk (ES (B.into [(b4,_),(b3,_)] H) hw hk h4 g h37) Z Z ?_
 rintro _ w49 ⟨b2,x2,A9,c9,lo9,hi9,hA9,rfl,hc9,gP9,uP9,Ls9,Lo9,F9,B9,hF9⟩
 replace H:=B9.out (X:=[(b4,_),(b3,_)])
 refine bC H 0 (#[J (x2.code),J (x2.n),.slice A9 x2.texts.length c9]) aN Z Z Z Z Z N N fun w50 H=>U<|Zt ?_
 exact eQ (cs0:= #[J (x2.code),J (x2.n),.slice A9 x2.texts.length c9]) Z aK Z (H.ent (i:=0) Z) Z ⟨b2,x2,A9,c9,lo9,hi9,hA9,rfl,hc9,gP9,uP9,Ls9,Lo9,F9,B9.at_ [(b4,_),(b3,_)] H,hF9⟩
 refine G (Wb Z)<|U<|ZF Z<|W<|W<|Zr ?_
 refine dq (br Z Z) Z Z Z (fun h42=> ?_) (fun h42=> ?_)
 refine G (Wb Z)<|U ?_
 refine fp (τ:=Unit) [41,43,44,45,46,47,48,49] (fun _=>[(41,.bool (decide (8<=a.kind/\a.kind<=15)))]) (fun _ w'=>Hp w0 w' ((b4,.cells #[J (0),J (0),.slice none 0 0] ee (0,0))::(b3,.cells #[J (a.kind),.string (a.name),J (a.part),J (a.n),J (a.m),.string (a.text),J (a.lost)] jf (0,0))::(bb,.cells b.c.toArray bF (0,0))::(gP,.cells uP bK (0,0))::(Ls++(Lo++K))) F) ?_ ?_
 refine ZT Z<|Zk ?_
 exact⟨(),H,dO (congrArg Value.bool (decide_eq_true I)).symm,Qg⟩
 rintro _ ρ1 w51 H
 show CW _ _ _ _ (dH (gT _ _ ρ1) [(41,.bool (decide (8<=a.kind/\a.kind<=15)))]) w51
 refine kD Z (fun hc41=> ?_) (fun hc41=> ?_)
 refine W<|Zr<|G (Yp Z)<|G (Zw dU H 1 Z Z Z)<|cz gg (wN (B.into [(b4,_),(b3,_)] H) hw hk h4 g (of_decide_eq_true hc41)) Z Z ?_
 rintro _ w52 ⟨b2,x2,A9,c9,lo9,hi9,hA9,rfl,hc9,gP9,uP9,Ls9,Lo9,F9,B9,hF9⟩
 replace H:=B9.out (X:=[(b4,_),(b3,_)])
 refine bC H 0 (#[J (x2.code),J (x2.n),.slice A9 x2.texts.length c9]) aN Z Z Z Z Z N N fun w53 H=>U<|Zt ?_
 exact eQ (cs0:= #[J (x2.code),J (x2.n),.slice A9 x2.texts.length c9]) Z aK Z (H.ent (i:=0) Z) Z ⟨b2,x2,A9,c9,lo9,hi9,hA9,rfl,hc9,gP9,uP9,Ls9,Lo9,F9,B9.at_ [(b4,_),(b3,_)] H,hF9⟩
 refine W<|W<|Zr ?_
 refine dq (br Z Z) Z Z Z (fun h54=> ?_) (fun h54=> ?_)
 refine G (Wb Z)<|U ?_
 refine fp (τ:=Unit) [53,55,56,57] (fun _=>[(53,.bool (decide (a.kind=16∨a.kind=18∨a.kind=20)))]) (fun _ w'=>Hp w0 w' ((b4,.cells #[J (0),J (0),.slice none 0 0] ee (0,0))::(b3,.cells #[J (a.kind),.string (a.name),J (a.part),J (a.n),J (a.m),.string (a.text),J (a.lost)] jf (0,0))::(bb,.cells b.c.toArray bF (0,0))::(gP,.cells uP bK (0,0))::(Ls++(Lo++K))) F) ?_ ?_
 refine ZT Z<|Zk ?_
 exact⟨(),H,dO (congrArg Value.bool (decide_eq_true I)).symm,Qg⟩
 rintro _ ρ1 w54 H
 show CW _ _ _ _ (dH (gT _ _ ρ1) [(53,.bool (decide (a.kind=16∨a.kind=18∨a.kind=20)))]) w54
 refine kD Z (fun hc53=> ?_) (fun hc53=> ?_)
 refine W<|Zr<|G (Yp Z)<|G (Zw dU H 1 Z Z Z)<|cz dM (qU (B.into [(b4,_),(b3,_)] H) hw hk h4 g (of_decide_eq_true hc53)) Z Z ?_
 rintro _ w55 ⟨b2,x2,A9,c9,lo9,hi9,hA9,rfl,hc9,gP9,uP9,Ls9,Lo9,F9,B9,hF9⟩
 replace H:=B9.out (X:=[(b4,_),(b3,_)])
 refine bC H 0 (#[J (x2.code),J (x2.n),.slice A9 x2.texts.length c9]) aN Z Z Z Z Z N N fun w56 H=>U<|Zt ?_
 exact eQ (cs0:= #[J (x2.code),J (x2.n),.slice A9 x2.texts.length c9]) Z aK Z (H.ent (i:=0) Z) Z ⟨b2,x2,A9,c9,lo9,hi9,hA9,rfl,hc9,gP9,uP9,Ls9,Lo9,F9,B9.at_ [(b4,_),(b3,_)] H,hF9⟩
 refine W<|Zr ?_
 refine dq (br Z Z) Z Z Z (fun h62=> ?_) (fun h62=> ?_)
 refine G (Wb Z)<|U<|ZT Z<|W<|Zr<|G (Yp Z)<|G (Zw dU H 1 Z Z Z)<|cz eh (og (B.into [(b4,_),(b3,_)] H) hw hk h4 g h62) Z Z ?_
 rintro _ w57 ⟨b2,x2,A9,c9,lo9,hi9,hA9,rfl,hc9,gP9,uP9,Ls9,Lo9,F9,B9,hF9⟩
 replace H:=B9.out (X:=[(b4,_),(b3,_)])
 refine bC H 0 (#[J (x2.code),J (x2.n),.slice A9 x2.texts.length c9]) aN Z Z Z Z Z N N fun w58 H=>U<|Zt ?_
 exact eQ (cs0:= #[J (x2.code),J (x2.n),.slice A9 x2.texts.length c9]) Z aK Z (H.ent (i:=0) Z) Z ⟨b2,x2,A9,c9,lo9,hi9,hA9,rfl,hc9,gP9,uP9,Ls9,Lo9,F9,B9.at_ [(b4,_),(b3,_)] H,hF9⟩
 exfalso;have h41:=of_decide_eq_false hc41;have h53:=of_decide_eq_false hc53;have h17:=of_decide_eq_false hc17;omega
 refine G (Wb Z)<|U ?_
 refine fp (τ:=Unit) [53,55,56,57] (fun _=>[(53,.bool (decide (a.kind=16∨a.kind=18∨a.kind=20)))]) (fun _ w'=>Hp w0 w' ((b4,.cells #[J (0),J (0),.slice none 0 0] ee (0,0))::(b3,.cells #[J (a.kind),.string (a.name),J (a.part),J (a.n),J (a.m),.string (a.text),J (a.lost)] jf (0,0))::(bb,.cells b.c.toArray bF (0,0))::(gP,.cells uP bK (0,0))::(Ls++(Lo++K))) F) ?_ ?_
 refine ZF Z<|W<|Zr ?_
 refine dq (br Z Z) Z Z Z (fun h55=> ?_) (fun h55=> ?_)
 exact absurd h55 hkd.2.2.1
 refine G (Wb Z)<|U<|ZF Z<|W<|Zr ?_
 refine dq (br Z Z) Z Z Z (fun h56=> ?_) (fun h56=> ?_)
 refine G (Wb Z)<|U<|ZT Z<|Zk ?_
 exact⟨(),H,dO (congrArg Value.bool (decide_eq_true I)).symm,Qg⟩
 refine G (Wb Z)<|U<|ZF Z<|Zr ?_
 refine dq (br Z Z) Z Z Z (fun h57=> ?_) (fun h57=> ?_)
 refine G (Wb Z)<|U ?_
 exact⟨(),H,dO (congrArg Value.bool (decide_eq_true I)).symm,Qg⟩
 refine G (Wb Z)<|U ?_
 exact⟨(),H,dO (congrArg Value.bool (decide_eq_false I)).symm,Qg⟩
 rintro _ ρ1 w59 H
 show CW _ _ _ _ (dH (gT _ _ ρ1) [(53,.bool (decide (a.kind=16∨a.kind=18∨a.kind=20)))]) w59
 refine kD Z (fun hc53=> ?_) (fun hc53=> ?_)
 refine W<|Zr<|G (Yp Z)<|G (Zw dU H 1 Z Z Z)<|cz dM (qU (B.into [(b4,_),(b3,_)] H) hw hk h4 g (of_decide_eq_true hc53)) Z Z ?_
 rintro _ w60 ⟨b2,x2,A9,c9,lo9,hi9,hA9,rfl,hc9,gP9,uP9,Ls9,Lo9,F9,B9,hF9⟩
 replace H:=B9.out (X:=[(b4,_),(b3,_)])
 refine bC H 0 (#[J (x2.code),J (x2.n),.slice A9 x2.texts.length c9]) aN Z Z Z Z Z N N fun w61 H=>U<|Zt ?_
 exact eQ (cs0:= #[J (x2.code),J (x2.n),.slice A9 x2.texts.length c9]) Z aK Z (H.ent (i:=0) Z) Z ⟨b2,x2,A9,c9,lo9,hi9,hA9,rfl,hc9,gP9,uP9,Ls9,Lo9,F9,B9.at_ [(b4,_),(b3,_)] H,hF9⟩
 refine W<|Zr ?_
 refine dq (br Z Z) Z Z Z (fun h62=> ?_) (fun h62=> ?_)
 refine G (Wb Z)<|U<|ZT Z<|W<|Zr<|G (Yp Z)<|G (Zw dU H 1 Z Z Z)<|cz eh (og (B.into [(b4,_),(b3,_)] H) hw hk h4 g h62) Z Z ?_
 rintro _ w62 ⟨b2,x2,A9,c9,lo9,hi9,hA9,rfl,hc9,gP9,uP9,Ls9,Lo9,F9,B9,hF9⟩
 replace H:=B9.out (X:=[(b4,_),(b3,_)])
 refine bC H 0 (#[J (x2.code),J (x2.n),.slice A9 x2.texts.length c9]) aN Z Z Z Z Z N N fun w63 H=>U<|Zt ?_
 exact eQ (cs0:= #[J (x2.code),J (x2.n),.slice A9 x2.texts.length c9]) Z aK Z (H.ent (i:=0) Z) Z ⟨b2,x2,A9,c9,lo9,hi9,hA9,rfl,hc9,gP9,uP9,Ls9,Lo9,F9,B9.at_ [(b4,_),(b3,_)] H,hF9⟩
 exfalso;have h41:=of_decide_eq_false hc41;have h53:=of_decide_eq_false hc53;have h17:=of_decide_eq_false hc17;omega
 refine G (Wb Z)<|U ?_
 refine fp (τ:=Unit) [41,43,44,45,46,47,48,49] (fun _=>[(41,.bool (decide (8<=a.kind/\a.kind<=15)))]) (fun _ w'=>Hp w0 w' ((b4,.cells #[J (0),J (0),.slice none 0 0] ee (0,0))::(b3,.cells #[J (a.kind),.string (a.name),J (a.part),J (a.n),J (a.m),.string (a.text),J (a.lost)] jf (0,0))::(bb,.cells b.c.toArray bF (0,0))::(gP,.cells uP bK (0,0))::(Ls++(Lo++K))) F) ?_ ?_
 refine ZF Z<|W<|Zr ?_
 refine dq (br Z Z) Z Z Z (fun h43=> ?_) (fun h43=> ?_)
 refine G (Wb Z)<|U<|ZT Z<|Zk ?_
 exact⟨(),H,dO (congrArg Value.bool (decide_eq_true I)).symm,Qg⟩
 refine G (Wb Z)<|U<|ZF Z<|W<|Zr ?_
 refine dq (br Z Z) Z Z Z (fun h44=> ?_) (fun h44=> ?_)
 refine G (Wb Z)<|U<|ZT Z<|Zk ?_
 exact⟨(),H,dO (congrArg Value.bool (decide_eq_true I)).symm,Qg⟩
 refine G (Wb Z)<|U<|ZF Z<|W<|Zr ?_
 refine dq (br Z Z) Z Z Z (fun h45=> ?_) (fun h45=> ?_)
 refine G (Wb Z)<|U<|ZT Z<|Zk ?_
 exact⟨(),H,dO (congrArg Value.bool (decide_eq_true I)).symm,Qg⟩
 refine G (Wb Z)<|U<|ZF Z<|W<|Zr ?_
 refine dq (br Z Z) Z Z Z (fun h46=> ?_) (fun h46=> ?_)
 refine G (Wb Z)<|U<|ZT Z<|Zk ?_
 exact⟨(),H,dO (congrArg Value.bool (decide_eq_true I)).symm,Qg⟩
 refine G (Wb Z)<|U<|ZF Z<|W<|Zr ?_
 refine dq (br Z Z) Z Z Z (fun h47=> ?_) (fun h47=> ?_)
 refine G (Wb Z)<|U<|ZT Z<|Zk ?_
 exact⟨(),H,dO (congrArg Value.bool (decide_eq_true I)).symm,Qg⟩
 refine G (Wb Z)<|U<|ZF Z<|W<|Zr ?_
 refine dq (br Z Z) Z Z Z (fun h48=> ?_) (fun h48=> ?_)
 refine G (Wb Z)<|U<|ZT Z<|Zk ?_
 exact⟨(),H,dO (congrArg Value.bool (decide_eq_true I)).symm,Qg⟩
 refine G (Wb Z)<|U<|ZF Z<|Zr ?_
 refine dq (br Z Z) Z Z Z (fun h49=> ?_) (fun h49=> ?_)
 refine G (Wb Z)<|U ?_
 exact⟨(),H,dO (congrArg Value.bool (decide_eq_true I)).symm,Qg⟩
 refine G (Wb Z)<|U ?_
 exact⟨(),H,dO (congrArg Value.bool (decide_eq_false I)).symm,Qg⟩
 rintro _ ρ1 w64 H
 show CW _ _ _ _ (dH (gT _ _ ρ1) [(41,.bool (decide (8<=a.kind/\a.kind<=15)))]) w64
 refine kD Z (fun hc41=> ?_) (fun hc41=> ?_)
 refine W<|Zr<|G (Yp Z)<|G (Zw dU H 1 Z Z Z)<|cz gg (wN (B.into [(b4,_),(b3,_)] H) hw hk h4 g (of_decide_eq_true hc41)) Z Z ?_
 rintro _ w65 ⟨b2,x2,A9,c9,lo9,hi9,hA9,rfl,hc9,gP9,uP9,Ls9,Lo9,F9,B9,hF9⟩
 replace H:=B9.out (X:=[(b4,_),(b3,_)])
 refine bC H 0 (#[J (x2.code),J (x2.n),.slice A9 x2.texts.length c9]) aN Z Z Z Z Z N N fun w66 H=>U<|Zt ?_
 exact eQ (cs0:= #[J (x2.code),J (x2.n),.slice A9 x2.texts.length c9]) Z aK Z (H.ent (i:=0) Z) Z ⟨b2,x2,A9,c9,lo9,hi9,hA9,rfl,hc9,gP9,uP9,Ls9,Lo9,F9,B9.at_ [(b4,_),(b3,_)] H,hF9⟩
 refine W<|W<|Zr ?_
 refine dq (br Z Z) Z Z Z (fun h54=> ?_) (fun h54=> ?_)
 refine G (Wb Z)<|U ?_
 refine fp (τ:=Unit) [53,55,56,57] (fun _=>[(53,.bool (decide (a.kind=16∨a.kind=18∨a.kind=20)))]) (fun _ w'=>Hp w0 w' ((b4,.cells #[J (0),J (0),.slice none 0 0] ee (0,0))::(b3,.cells #[J (a.kind),.string (a.name),J (a.part),J (a.n),J (a.m),.string (a.text),J (a.lost)] jf (0,0))::(bb,.cells b.c.toArray bF (0,0))::(gP,.cells uP bK (0,0))::(Ls++(Lo++K))) F) ?_ ?_
 refine ZT Z<|Zk ?_
 exact⟨(),H,dO (congrArg Value.bool (decide_eq_true I)).symm,Qg⟩
 rintro _ ρ1 w67 H
 show CW _ _ _ _ (dH (gT _ _ ρ1) [(53,.bool (decide (a.kind=16∨a.kind=18∨a.kind=20)))]) w67
 refine kD Z (fun hc53=> ?_) (fun hc53=> ?_)
 refine W<|Zr<|G (Yp Z)<|G (Zw dU H 1 Z Z Z)<|cz dM (qU (B.into [(b4,_),(b3,_)] H) hw hk h4 g (of_decide_eq_true hc53)) Z Z ?_
 rintro _ w68 ⟨b2,x2,A9,c9,lo9,hi9,hA9,rfl,hc9,gP9,uP9,Ls9,Lo9,F9,B9,hF9⟩
 replace H:=B9.out (X:=[(b4,_),(b3,_)])
 refine bC H 0 (#[J (x2.code),J (x2.n),.slice A9 x2.texts.length c9]) aN Z Z Z Z Z N N fun w69 H=>U<|Zt ?_
 exact eQ (cs0:= #[J (x2.code),J (x2.n),.slice A9 x2.texts.length c9]) Z aK Z (H.ent (i:=0) Z) Z ⟨b2,x2,A9,c9,lo9,hi9,hA9,rfl,hc9,gP9,uP9,Ls9,Lo9,F9,B9.at_ [(b4,_),(b3,_)] H,hF9⟩
 refine W<|Zr ?_
 refine dq (br Z Z) Z Z Z (fun h62=> ?_) (fun h62=> ?_)
 refine G (Wb Z)<|U<|ZT Z<|W<|Zr<|G (Yp Z)<|G (Zw dU H 1 Z Z Z)<|cz eh (og (B.into [(b4,_),(b3,_)] H) hw hk h4 g h62) Z Z ?_
 rintro _ w70 ⟨b2,x2,A9,c9,lo9,hi9,hA9,rfl,hc9,gP9,uP9,Ls9,Lo9,F9,B9,hF9⟩
 replace H:=B9.out (X:=[(b4,_),(b3,_)])
 refine bC H 0 (#[J (x2.code),J (x2.n),.slice A9 x2.texts.length c9]) aN Z Z Z Z Z N N fun w71 H=>U<|Zt ?_
 exact eQ (cs0:= #[J (x2.code),J (x2.n),.slice A9 x2.texts.length c9]) Z aK Z (H.ent (i:=0) Z) Z ⟨b2,x2,A9,c9,lo9,hi9,hA9,rfl,hc9,gP9,uP9,Ls9,Lo9,F9,B9.at_ [(b4,_),(b3,_)] H,hF9⟩
 exfalso;have h41:=of_decide_eq_false hc41;have h53:=of_decide_eq_false hc53;have h17:=of_decide_eq_false hc17;omega
 refine G (Wb Z)<|U ?_
 refine fp (τ:=Unit) [53,55,56,57] (fun _=>[(53,.bool (decide (a.kind=16∨a.kind=18∨a.kind=20)))]) (fun _ w'=>Hp w0 w' ((b4,.cells #[J (0),J (0),.slice none 0 0] ee (0,0))::(b3,.cells #[J (a.kind),.string (a.name),J (a.part),J (a.n),J (a.m),.string (a.text),J (a.lost)] jf (0,0))::(bb,.cells b.c.toArray bF (0,0))::(gP,.cells uP bK (0,0))::(Ls++(Lo++K))) F) ?_ ?_
 refine ZF Z<|W<|Zr ?_
 refine dq (br Z Z) Z Z Z (fun h55=> ?_) (fun h55=> ?_)
 exact absurd h55 hkd.2.2.1
 refine G (Wb Z)<|U<|ZF Z<|W<|Zr ?_
 refine dq (br Z Z) Z Z Z (fun h56=> ?_) (fun h56=> ?_)
 refine G (Wb Z)<|U<|ZT Z<|Zk ?_
 exact⟨(),H,dO (congrArg Value.bool (decide_eq_true I)).symm,Qg⟩
 refine G (Wb Z)<|U<|ZF Z<|Zr ?_
 refine dq (br Z Z) Z Z Z (fun h57=> ?_) (fun h57=> ?_)
 refine G (Wb Z)<|U ?_
 exact⟨(),H,dO (congrArg Value.bool (decide_eq_true I)).symm,Qg⟩
 refine G (Wb Z)<|U ?_
 exact⟨(),H,dO (congrArg Value.bool (decide_eq_false I)).symm,Qg⟩
 rintro _ ρ1 w72 H
 show CW _ _ _ _ (dH (gT _ _ ρ1) [(53,.bool (decide (a.kind=16∨a.kind=18∨a.kind=20)))]) w72
 refine kD Z (fun hc53=> ?_) (fun hc53=> ?_)
 refine W<|Zr<|G (Yp Z)<|G (Zw dU H 1 Z Z Z)<|cz dM (qU (B.into [(b4,_),(b3,_)] H) hw hk h4 g (of_decide_eq_true hc53)) Z Z ?_
 rintro _ w73 ⟨b2,x2,A9,c9,lo9,hi9,hA9,rfl,hc9,gP9,uP9,Ls9,Lo9,F9,B9,hF9⟩
 replace H:=B9.out (X:=[(b4,_),(b3,_)])
 refine bC H 0 (#[J (x2.code),J (x2.n),.slice A9 x2.texts.length c9]) aN Z Z Z Z Z N N fun w74 H=>U<|Zt ?_
 exact eQ (cs0:= #[J (x2.code),J (x2.n),.slice A9 x2.texts.length c9]) Z aK Z (H.ent (i:=0) Z) Z ⟨b2,x2,A9,c9,lo9,hi9,hA9,rfl,hc9,gP9,uP9,Ls9,Lo9,F9,B9.at_ [(b4,_),(b3,_)] H,hF9⟩
 refine W<|Zr ?_
 refine dq (br Z Z) Z Z Z (fun h62=> ?_) (fun h62=> ?_)
 refine G (Wb Z)<|U<|ZT Z<|W<|Zr<|G (Yp Z)<|G (Zw dU H 1 Z Z Z)<|cz eh (og (B.into [(b4,_),(b3,_)] H) hw hk h4 g h62) Z Z ?_
 rintro _ w75 ⟨b2,x2,A9,c9,lo9,hi9,hA9,rfl,hc9,gP9,uP9,Ls9,Lo9,F9,B9,hF9⟩
 replace H:=B9.out (X:=[(b4,_),(b3,_)])
 refine bC H 0 (#[J (x2.code),J (x2.n),.slice A9 x2.texts.length c9]) aN Z Z Z Z Z N N fun w76 H=>U<|Zt ?_
 exact eQ (cs0:= #[J (x2.code),J (x2.n),.slice A9 x2.texts.length c9]) Z aK Z (H.ent (i:=0) Z) Z ⟨b2,x2,A9,c9,lo9,hi9,hA9,rfl,hc9,gP9,uP9,Ls9,Lo9,F9,B9.at_ [(b4,_),(b3,_)] H,hF9⟩
 exfalso;have h41:=of_decide_eq_false hc41;have h53:=of_decide_eq_false hc53;have h17:=of_decide_eq_false hc17;omega
theorem xU (p:Pa) (w:World) (h:p.rd 0 w.heap.size w) (hok:p.a.ok):dt aa yW [p.v] w fun v w2=> ∃ p':Pa,v=p'.v/\p'.a=p.a/\iy w w2 p':=
 (Ac p w h hok).mono fun _ _ ⟨p',_,_,_,_,_,_,h1,h2,h3⟩=>⟨p',h1,h2,h3.new⟩
def Pw (wt:Int):Co:=⟨0,1,wt,[],none,0⟩
def OC (wt:Int):Gr:=⟨0,wt,0,[],none,0,[],none,0⟩
theorem Pv (wt:Int) (lo hi:Nat) (w:World):(Pw wt).rd lo hi w:=⟨Rd.nil,by simp[Pw],by simp[Pw],by simp[Pw],by simp[Pw]⟩
theorem Pm (wt:Int) (lo hi:Nat) (w:World):(OC wt).rd lo hi w:=⟨Rd.nil,by simp[OC],Rd.nil,by simp[OC],by simp[OC],by simp[OC],by simp[OC]⟩
structure Q7 (w00 w0 w:World) (b:Bk) (gP:Nat) (uP:Array Value) (F:List cf):Prop where
 pA:b.pA=some ⟨gP,0,none⟩
 row:d3 CV b.ps b.pC uP
 sns:b.sns=[]/\b.snA=none/\b.snC=0
 co:xE w00 b.clo b.chi b.co∈F
 gr:Kr w00 b.glo b.ghi b.gr∈F
 ps: ∀ q∈b.ps,wA w00 q.lo q.hi q.p∈F
 lo: ∀ f∈F,w0.heap.size<=f.lo
 H:Hp w0 w [(gP,.cells uP bK (0,0))] F
theorem KC {np nr few:Nat} {wt:Int} (w00 w:World) (h00:w00.heap.size<=w.heap.size) (q1:1<=np) (q4:np<=4) (n1:1<=nr) (n5:nr<=5) (f1:1<=few) (f2:few<=nr) (t1:1<=wt) (t2:wt<=1000):dt aa AO [.agg #[J (np:Nat),J (nr:Nat),J (few:Nat),J wt]] w fun v w2=> ∃ (b:Bk) (gP:Nat) (uP:Array Value) (F:List cf),v=.tuple #[.agg b.c.toArray,J 0]/\b.a=m6 np nr few wt/\Q7 w00 w w2 b gP uP F:=by
 refine aG zm Z Z ?_
 have H:=Hp.start w
 show CW _ _ _ _ (args [.agg #[J (np:Nat),J (nr:Nat),J (few:Nat),J wt]]) w
 refine W<|Zr<|gM H Z Z fun w1 b1 H=>fg H pM Z fun w2 b2 H=>G (Wi Z)<|U<|W<|W<|Zr<|G (Zf wn Z)<|G (Zd al H 1 Z Z Z)<|G (dn Z Z I)<|G (Yb Z)<|ZG<|G (Zf wn Z)<|ZG<|G (Zd al H 1 Z Z Z)<|ZG<|G (eu Z Z I)<|G (N Z Z)<|U<|ZF Z<|Zk<|W<|Zr<|G (Zf wl Z)<|G (Zd al H 1 Z Z Z)<|G (Zf Bh Z)<|G (Zd al H 1 Z Z Z)<|cz Gh (Nv nr few _ n1 n5 f1 f2) Z Z ?_
 have hlo4:=H.size
 rintro _ w3 ⟨p4,rfl,hap4,hnp4⟩;replace H:=H.learn hnp4.2 (wA w00 w2.heap.size w3.heap.size p4) ⟨(aX h00 H.size),hnp4.1⟩ (ao _) (ao _);clear hnp4
 refine G (Yu Z)<|G (Xa Z Z)<|G (Xi Z Z)<|fg H bT Z fun w4 b4 H=>bC H 0 (#[J (p4.epoch),J (p4.leader),.slice p4.iA p4.isr.length p4.iC,.slice p4.kA p4.known.length p4.kC,.slice p4.rA p4.reps.length p4.rC,J (p4.few),J (p4.base)]) bi Z Z Z Z Z N N fun w5 H=>G (Wi Z)<|U<|W<|W<|Zr<|G (Yi Z)<|G (ch Z Z (by decide))<|U<|ZF Z<|Zk<|W<|Zr<|G (Zf Bg Z)<|G (Zd al H 2 Z Z Z)<|cz ED (Ga wt _ t1 t2) Z Z ?_
 rintro _ w6 ⟨rfl,hb⟩;replace H:=H.later hb;clear hb
 refine G (Yu Z)<|G (Xa Z Z)<|G (Xi Z Z)<|fg H cH Z fun w7 b6 H=>bC H 0 (#[J (0),J (1),J (wt),.slice none 0 0]) aE Z Z Z Z Z N N fun w8 H=>G (Wi Z)<|U<|W<|W<|Zr<|G (Yi Z)<|G (ch Z Z (by decide))<|U<|ZF Z<|Zk<|W<|Zr<|G (Zf Bg Z)<|G (Zd al H 3 Z Z Z)<|cz EB (N3 wt _ t1 t2) Z Z ?_
 rintro _ w9 ⟨rfl,hb⟩;replace H:=H.later hb;clear hb
 refine G (Yu Z)<|G (Xa Z Z)<|G (Xi Z Z)<|fg H d9 Z fun w10 b7 H=>bC H 0 (#[J (0),J (wt),J (0),.slice none 0 0,.slice none 0 0]) bA Z Z Z Z Z N N fun w11 H=>G (Wi Z)<|U<|W<|Zr<|G (Zw ay H 1 Z Z Z)<|G (Zw aO H 0 Z Z Z)<|G (bE (cs:= #[.slice none 0 0,J (0),J (1),J (wt),.slice none 0 0,J (0),J (wt),J (0),.slice none 0 0,.slice none 0 0,.slice none 0 0]) KR pM N)<|fg H pM Z fun w12 b8 H=>bC H 0 (#[.slice none 0 0,J (0),J (1),J (wt),.slice none 0 0,J (0),J (wt),J (0),.slice none 0 0,.slice none 0 0,.slice none 0 0]) lR Z Z Z Z Z N N fun w13 H=>U<|W<|W<|Zr<|G (Zf wn Z)<|G (Zd al H 5 Z Z Z)<|G (Yi Z)<|U<|Zb ?_
 refine bW (τ:=Nat×List Pq×Option Addr×Nat×List (Nat×Obj)×List cf) [51,52,53,54,55,56,57,58,59,60] (fun(i,_)=>[(51,J (i:Nat))]) (fun(i,qs,A,c,Lq,F') w'=>i<=np/\qs.map (fun q=>q.p.a)=ap i (mH nr few)/\gH CV (.slice A qs.length c) bK qs Lq/\(∀ q∈qs,wA w00 q.lo q.hi q.p∈F')/\(∀ f∈F',w.heap.size<=f.lo)/\(∃ lo hi,wA w00 lo hi p4∈F')/\Hp w w' ((b8,.cells #[.slice A qs.length c,J (0),J (1),J (wt),.slice none 0 0,J (0),J (wt),J (0),.slice none 0 0,.slice none 0 0,.slice none 0 0] n9 (0,0))::(b7,.cells #[J (0),J (wt),J (0),.slice none 0 0,.slice none 0 0] cK (0,0))::(b6,.cells #[J (0),J (1),J (wt),.slice none 0 0] bc (0,0))::(b4,.cells #[J (p4.epoch),J (p4.leader),.slice p4.iA p4.isr.length p4.iC,.slice p4.kA p4.known.length p4.kC,.slice p4.rA p4.reps.length p4.rC,J (p4.few),J (p4.base)] bK (0,0))::(b2,.cells #[.slice none 0 0,J (0),J (0),J (0),.slice none 0 0,J (0),J (0),J (0),.slice none 0 0,.slice none 0 0,.slice none 0 0] n9 (0,0))::(b1,.cells #[J (((np:Nat):Int)),J (((nr:Nat):Int)),J (((few:Nat):Int)),J (wt)] lB (0,0))::(Lq++[])) F') (fun(i,_)=>np-i) (0,[],none,0,[],_) ⟨bx _,rfl,gH.nil,by simp,fun f hf=>(by rw[ar.1 hf];exact hlo4),⟨_,_,az ..⟩,H⟩ (dO Z) ?_
 rintro⟨i,qs,A,c,Lq,F'⟩ ρ1 w14 ⟨hi,hqa,ho,hqs,hFl,⟨lo4,hi4,hp4⟩,H⟩
 show CW _ _ _ _ (dH (gT _ _ ρ1) [(51,J (i:Nat))]) w14
 have hql:qs.length=i:=by have:=congrArg di hqa;simpa using this
 refine W<|Zr ?_
 refine dq (cL Z Z) Z Z Z (fun h52=> ?_) (fun h52=> ?_)
 refine U<|W<|ZT Z<|Zk<|W ?_
 refine fp (τ:=List Pq×Option Addr×Nat×List (Nat×Obj)×List cf) [53,54,55,56,57,58,59] (fun _=>[]) (fun(q9,A9,c9,L9,F9) w'=>q9.map (fun q=>q.p.a)=ap (i+1) (mH nr few)/\gH CV (.slice A9 q9.length c9) bK q9 L9/\(∀ q∈q9,wA w00 q.lo q.hi q.p∈F9)/\(∀ f∈F9,w.heap.size<=f.lo)/\(∃ lo hi,wA w00 lo hi p4∈F9)/\Hp w w' ((b8,.cells #[.slice A9 q9.length c9,J (0),J (1),J (wt),.slice none 0 0,J (0),J (wt),J (0),.slice none 0 0,.slice none 0 0,.slice none 0 0] n9 (0,0))::(b7,.cells #[J (0),J (wt),J (0),.slice none 0 0,.slice none 0 0] cK (0,0))::(b6,.cells #[J (0),J (1),J (wt),.slice none 0 0] bc (0,0))::(b4,.cells #[J (p4.epoch),J (p4.leader),.slice p4.iA p4.isr.length p4.iC,.slice p4.kA p4.known.length p4.kC,.slice p4.rA p4.reps.length p4.rC,J (p4.few),J (p4.base)] bK (0,0))::(b2,.cells #[.slice none 0 0,J (0),J (0),J (0),.slice none 0 0,J (0),J (0),J (0),.slice none 0 0,.slice none 0 0,.slice none 0 0] n9 (0,0))::(b1,.cells #[J (((np:Nat):Int)),J (((nr:Nat):Int)),J (((few:Nat):Int)),J (wt)] lB (0,0))::(L9++[])) F9) ?_ ?_
 refine Zb ?_
 refine ra cD [0] [1,2,3,4,5,6,7] [0] 7 N N N Nq ?_
 refine aw Z Z Z Z Z (fun w' hw'=>Zf dx Z)<|aU ?_
 intro w15 hw';replace H:=H.later hw';clear hw'
 refine t0 1 2 N Z Z ?_ ?_
 refine G (Zd dZ H 0 Z Z Z)<|U<|dg 2 N Z<|G (Zw bk H 3 Z Z Z)<|U<|dg 3 N Z<|cz mU (xU p4 _ (Hp.paM H hp4) (hap4▸(DT (Φ:=fun _=>True) n1 n5 f1 f2).ok)) Z Z ?_
 have hlo2:=H.size
 rintro _ w16 ⟨p2,rfl,hap2,hnp2⟩;replace H:=H.learn hnp2.2 (wA w00 w15.heap.size w16.heap.size p2) ⟨(aX h00 H.size),hnp2.1⟩ (ao _) (ao _);clear hnp2
 refine U<|dg 4 N Z<|uA (vs:=[.agg #[J (p2.epoch),J (p2.leader),.slice p2.iA p2.isr.length p2.iC,.slice p2.kA p2.known.length p2.kC,.slice p2.rA p2.reps.length p2.rC,J (p2.few),J (p2.base)]]) H gx bT Z Z Z Z Z Z fun w17 b57 H=>U<|dg 5 N Z<|xA (Y:=CV) xz (K:=[(b57,_),(b8,_),(b7,_),(b6,_),(b4,_),(b2,_),(b1,_)]) (L:=Lq) (M:=[]) H ho (es:=qs) (news:=[⟨p2,w15.heap.size,w16.heap.size⟩]) Z Z Z (y3.row (m:=1) (sz:=CV.sz) (H.ent (i:=0) Z) Z) (by simp only[cF];omega) Z ?_
 intro A5 c5 w18 L5 h5 h5m ho5 H
 refine U<|dg 6 N Z<|G (Zf dx Z)<|U<|dg 7 N Z<|bC H 1 (#[.slice A5 ((qs++[(⟨p2,w15.heap.size,w16.heap.size⟩:Pq)]).length) c5,J (0),J (1),J (wt),.slice none 0 0,J (0),J (wt),J (0),.slice none 0 0,.slice none 0 0,.slice none 0 0]) uM Z Z Z Z Z N N fun w19 H=>U<|cr N ?_
 exact⟨(qs++[(⟨p2,w15.heap.size,w16.heap.size⟩:Pq)],A5,c5,L5,wA w00 w15.heap.size w16.heap.size p2::F'),⟨by rw[bh,hqa,rg];show _++[p2.a]=_;rw[hap2,hap4],ho5,fun q hq=>(by rcases aq.1 hq with hq|hq;exact aj _ (hqs q hq);rw[ar.1 hq];exact az ..),fun f hf=>(by rcases av.1 hf with rfl|hf;exact hlo2;exact hFl f hf),⟨lo4,hi4,aj _ hp4⟩,H.forget (.cons _ (au _)) (fun _ h=>h)⟩,OV,Qg⟩
 refine G (Zw bk H 3 Z Z Z)<|U ?_
 refine t0 1 3 N Z Z ?_ ?_
 refine G (Zd dZ H 0 Z Z Z)<|U<|dg 3 N Z<|cz mU (xU p4 _ (Hp.paM H hp4) (hap4▸(DT (Φ:=fun _=>True) n1 n5 f1 f2).ok)) Z Z ?_
 have hlo2:=H.size
 rintro _ w20 ⟨p2,rfl,hap2,hnp2⟩;replace H:=H.learn hnp2.2 (wA w00 w15.heap.size w20.heap.size p2) ⟨(aX h00 H.size),hnp2.1⟩ (ao _) (ao _);clear hnp2
 refine U<|dg 4 N Z<|uA (vs:=[.agg #[J (p2.epoch),J (p2.leader),.slice p2.iA p2.isr.length p2.iC,.slice p2.kA p2.known.length p2.kC,.slice p2.rA p2.reps.length p2.rC,J (p2.few),J (p2.base)]]) H gx bT Z Z Z Z Z Z fun w21 b57 H=>U<|dg 5 N Z<|xA (Y:=CV) xz (K:=[(b57,_),(b8,_),(b7,_),(b6,_),(b4,_),(b2,_),(b1,_)]) (L:=Lq) (M:=[]) H ho (es:=qs) (news:=[⟨p2,w15.heap.size,w20.heap.size⟩]) Z Z Z (y3.row (m:=1) (sz:=CV.sz) (H.ent (i:=0) Z) Z) (by simp only[cF];omega) Z ?_
 intro A5 c5 w22 L5 h5 h5m ho5 H
 refine U<|dg 6 N Z<|G (Zf dx Z)<|U<|dg 7 N Z<|bC H 1 (#[.slice A5 ((qs++[(⟨p2,w15.heap.size,w20.heap.size⟩:Pq)]).length) c5,J (0),J (1),J (wt),.slice none 0 0,J (0),J (wt),J (0),.slice none 0 0,.slice none 0 0,.slice none 0 0]) uM Z Z Z Z Z N N fun w23 H=>U<|cr N ?_
 exact⟨(qs++[(⟨p2,w15.heap.size,w20.heap.size⟩:Pq)],A5,c5,L5,wA w00 w15.heap.size w20.heap.size p2::F'),⟨by rw[bh,hqa,rg];show _++[p2.a]=_;rw[hap2,hap4],ho5,fun q hq=>(by rcases aq.1 hq with hq|hq;exact aj _ (hqs q hq);rw[ar.1 hq];exact az ..),fun f hf=>(by rcases av.1 hf with rfl|hf;exact hlo2;exact hFl f hf),⟨lo4,hi4,aj _ hp4⟩,H.forget (.cons _ (au _)) (fun _ h=>h)⟩,OV,Qg⟩
 refine cz mU (xU p4 _ (Hp.paM H hp4) (hap4▸(DT (Φ:=fun _=>True) n1 n5 f1 f2).ok)) Z Z ?_
 have hlo2:=H.size
 rintro _ w24 ⟨p2,rfl,hap2,hnp2⟩;replace H:=H.learn hnp2.2 (wA w00 w15.heap.size w24.heap.size p2) ⟨(aX h00 H.size),hnp2.1⟩ (ao _) (ao _);clear hnp2
 refine U ?_
 refine t0 1 4 N Z Z ?_ ?_
 refine G (Zd dZ H 0 Z Z Z)<|U<|dg 4 N Z<|uA (vs:=[.agg #[J (p2.epoch),J (p2.leader),.slice p2.iA p2.isr.length p2.iC,.slice p2.kA p2.known.length p2.kC,.slice p2.rA p2.reps.length p2.rC,J (p2.few),J (p2.base)]]) H gx bT Z Z Z Z Z Z fun w25 b57 H=>U<|dg 5 N Z<|xA (Y:=CV) xz (K:=[(b57,_),(b8,_),(b7,_),(b6,_),(b4,_),(b2,_),(b1,_)]) (L:=Lq) (M:=[]) H ho (es:=qs) (news:=[⟨p2,w15.heap.size,w24.heap.size⟩]) Z Z Z (y3.row (m:=1) (sz:=CV.sz) (H.ent (i:=0) Z) Z) (by simp only[cF];omega) Z ?_
 intro A5 c5 w26 L5 h5 h5m ho5 H
 refine U<|dg 6 N Z<|G (Zf dx Z)<|U<|dg 7 N Z<|bC H 1 (#[.slice A5 ((qs++[(⟨p2,w15.heap.size,w24.heap.size⟩:Pq)]).length) c5,J (0),J (1),J (wt),.slice none 0 0,J (0),J (wt),J (0),.slice none 0 0,.slice none 0 0,.slice none 0 0]) uM Z Z Z Z Z N N fun w27 H=>U<|cr N ?_
 exact⟨(qs++[(⟨p2,w15.heap.size,w24.heap.size⟩:Pq)],A5,c5,L5,wA w00 w15.heap.size w24.heap.size p2::F'),⟨by rw[bh,hqa,rg];show _++[p2.a]=_;rw[hap2,hap4],ho5,fun q hq=>(by rcases aq.1 hq with hq|hq;exact aj _ (hqs q hq);rw[ar.1 hq];exact az ..),fun f hf=>(by rcases av.1 hf with rfl|hf;exact hlo2;exact hFl f hf),⟨lo4,hi4,aj _ hp4⟩,H.forget (.cons _ (au _)) (fun _ h=>h)⟩,OV,Qg⟩
 refine uA (vs:=[.agg #[J (p2.epoch),J (p2.leader),.slice p2.iA p2.isr.length p2.iC,.slice p2.kA p2.known.length p2.kC,.slice p2.rA p2.reps.length p2.rC,J (p2.few),J (p2.base)]]) H gx bT Z Z Z Z Z Z fun w28 b57 H=>U<|dg 1 N Z<|G (Zd dZ H 1 Z Z Z)<|U<|dg 5 N Z<|xA (Y:=CV) xz (K:=[(b57,_),(b8,_),(b7,_),(b6,_),(b4,_),(b2,_),(b1,_)]) (L:=Lq) (M:=[]) H ho (es:=qs) (news:=[⟨p2,w15.heap.size,w24.heap.size⟩]) Z Z Z (y3.row (m:=1) (sz:=CV.sz) (H.ent (i:=0) Z) Z) (by simp only[cF];omega) Z ?_
 intro A5 c5 w29 L5 h5 h5m ho5 H
 refine U<|dg 6 N Z<|G (Zf dx Z)<|U<|dg 7 N Z<|bC H 1 (#[.slice A5 ((qs++[(⟨p2,w15.heap.size,w24.heap.size⟩:Pq)]).length) c5,J (0),J (1),J (wt),.slice none 0 0,J (0),J (wt),J (0),.slice none 0 0,.slice none 0 0,.slice none 0 0]) uM Z Z Z Z Z N N fun w30 H=>U<|cr N ?_
 exact⟨(qs++[(⟨p2,w15.heap.size,w24.heap.size⟩:Pq)],A5,c5,L5,wA w00 w15.heap.size w24.heap.size p2::F'),⟨by rw[bh,hqa,rg];show _++[p2.a]=_;rw[hap2,hap4],ho5,fun q hq=>(by rcases aq.1 hq with hq|hq;exact aj _ (hqs q hq);rw[ar.1 hq];exact az ..),fun f hf=>(by rcases av.1 hf with rfl|hf;exact hlo2;exact hFl f hf),⟨lo4,hi4,aj _ hp4⟩,H.forget (.cons _ (au _)) (fun _ h=>h)⟩,OV,Qg⟩
 rintro⟨q9,A9,c9,L9,F9⟩ ρ1 w31 H9
 show CW _ _ _ _ (dH (gT _ _ ρ1) []) w31
 refine Zr<|G (bn Z Z I I)<|G (Yi Z)<|U ?_
 exact⟨(i+1,q9,A9,c9,L9,F9),⟨by omega,H9⟩,dO Z,Qg,by show np- (i+1)<np-i;omega⟩
 refine U<|W<|ZF Z<|Zx<|W<|Zr<|G (Zw nT H 0 Z Z Z)<|G (Yi Z)<|bC H 4 (#[.slice A qs.length c,J (0),J (1),J (wt),.slice none 0 0,J (0),J (wt),J (0),.slice none 0 0,.slice none 0 0,.slice none 0 0]) lR Z Z Z Z Z N N fun w32 H=>G (Wi Z)<|U<|Zt ?_
 obtain rfl:i=np:=by omega
 obtain⟨gP,uP,rfl,rfl,row⟩:=ho.row I
 have H7:=((H.forget (L':=[(gP,_)]) ((.cons _ (.cons _ (.cons _ (.cons _ (.cons _ (.cons _ (au _)))))))) (fun _ h=>h)).learnOld (xE w00 w.heap.size w.heap.size (Pw wt)) ⟨h00,Pv ..⟩ (ao _)).learnOld (Kr w00 w.heap.size w.heap.size (OC wt)) ⟨h00,Pm ..⟩ (ao _)
 exact ci (cs0:= #[.slice (Qd gP) qs.length c,J (0),J (1),J (wt),.slice none 0 0,J (0),J (wt),J (0),.slice none 0 0,.slice none 0 0,.slice none 0 0]) (v1:=J 0) Z nT Z (H.ent (i:=4) Z) Z Z ⟨⟨qs,some ⟨gP,0,none⟩,c,Pw wt,w.heap.size,w.heap.size,OC wt,w.heap.size,w.heap.size,[],none,0⟩,gP,uP,_,rfl,by unfold Bk.a m6;rw[hqa];rfl,⟨rfl,row,⟨rfl,rfl,rfl⟩,aj _ (az ..),az ..,fun q hq=>aj _ (aj _ (hqs q hq)),fun f hf=>(by rcases av.1 hf with rfl|hf;exact ao _;rcases av.1 hf with rfl|hf;exact ao _;exact hFl f hf),H7⟩⟩
theorem zp (es:List ByteArray) (A:Option Addr) (c:Nat) (w:World) (hr:Rd my 0 w.heap.size A es w) (hb:es.length*16<=140737488355328):
  dt aa jt [.slice A es.length c] w fun v w2=> ∃ A' c' L',v=.slice A' es.length c'/\es.length<=c'/\c'<=maxLen/\gH my (.slice A' es.length c') qA es L'/\Hp w w2 L' []:=by
 refine aG nG Z Z ?_
 have H:=Hp.startRd hr
 refine W<|Zr<|G (Ws Z)<|U<|W<|W<|Zr<|G (Ys Z) ?_
 refine zB (pO iX Z) Z Z Z (fun h4=> ?_) (fun h4=> ?_)
 refine U<|ZT Z<|W<|Zr<|G (Ws Z)<|U<|Zt ?_
 have he:es=[]:=by
  cases es with
  |nil=>rfl
  |cons e es=>obtain⟨b,o,hA,_⟩:=hr (by simp);subst hA;cases h4
 subst he
 exact cn Z Z ⟨none,0,[],rfl,by simp,by decide,gH.nil,H.forget (by simp) (by simp)⟩
 refine U<|ZF Z<|Zk<|W<|Zr<|Od H jw Z fun w1 b5 H=>G (Ys Z)<|xA (Y:=my) ww (K:=[]) (L:=[(b5,_)]) (M:=[]) H (rV.lit (by decide) (by rfl)) (es:=[]) (news:=es) Z Z Z (Rd.src (H.fact (i:=0) Z)) (by simpa using hb) Z ?_
 intro A3 c3 w3 L3 h3a h3b ho3 H
 refine G (Ws Z)<|U<|Zt ?_
 exact cn Z Z ⟨A3,c3,L3,rfl,h3a,h3b,ho3,H.forget (by simp) (by simp)⟩
theorem zo (es:List ByteArray) (A:Option Addr) (c:Nat) (w:World) (hr:Rd my 0 w.heap.size A es w) (hb:es.length*16<=140737488355328):
  dt aa jt [.slice A es.length c] w fun v w2=> ∃ A' c',v=.slice A' es.length c'/\es.length<=c'/\Rd my w.heap.size w2.heap.size A' es w2/\Below w.heap.size w w2:=
 (zp es A c w hr hb).mono fun v w2 ⟨A',c',L',h1,h2,_,h4,h5⟩=>⟨A',c',h1,h2,h4.rd (K:=[]) (M:=[]) (by simpa using h5),h5.below⟩
structure Aq where
 x:An
 A:Option Addr
 c:Nat
def Qq:fq Aq:=⟨fun q=>[J q.x.code,J q.x.n,.slice q.A q.x.texts.length q.c],3,fun _=>rfl,by decide,fun a u hu=>by
 simp only[av,bu,or_false]at hu
 rcases hu with h|h|h<;>subst h<;>rfl⟩
structure Rn where
 xs:List Aq
 oA:Option Addr
 oC:Nat
 b:Bk
def Rn.v (r:Rn):Value:=.tuple #[.slice r.oA r.xs.length r.oC,.agg r.b.c.toArray,J 0]
structure Rn.rd (r:Rn) (lo hi:Nat) (w:World):Prop where
 xs:Rd Qq lo hi r.oA r.xs w
 oC:r.xs.length<=r.oC
 tx: ∀ x∈r.xs,Rd my lo hi x.A x.x.texts w/\x.x.texts.length<=x.c
 ps:Rd CV lo hi r.b.pA r.b.ps w
 pC:r.b.ps.length<=r.b.pC
 pa: ∀ q∈r.b.ps,q.p.rd lo hi w
 co:r.b.co.rd lo hi w
 gr:r.b.gr.rd lo hi w
theorem Rn.rd.st {r:Rn} {lo hi:Nat} {w w':World} (hk: ∀ k,lo<=k->k<hi->w'.heap[k]? =w.heap[k]?) (h:r.rd lo hi w):r.rd lo hi w':=⟨h.xs.st hk,h.oC,fun x hx=>⟨(h.tx x hx).1.st hk,(h.tx x hx).2⟩,h.ps.st hk,h.pC,fun q hq=>(h.pa q hq).st hk,h.co.st hk,h.gr.st hk⟩
theorem Rn.rd.mono {r:Rn} {lo hi lo' hi':Nat} {w:World} (h:r.rd lo hi w) (h1:lo'<=lo) (h2:hi<=hi'):r.rd lo' hi' w:=⟨h.xs.mono h1 h2,h.oC,fun x hx=>⟨(h.tx x hx).1.mono h1 h2,(h.tx x hx).2⟩,h.ps.mono h1 h2,h.pC,fun q hq=>Pa.rd.mono (h.pa q hq) h1 h2,Co.rd.mono h.co h1 h2,Gr.rd.mono h.gr h1 h2⟩
theorem Hp.rdM {α:Type} {Y:fq α} {w0 w:World} {L:List (Nat×Obj)} {F:List cf} {lo hi:Nat} {A:Option Addr} {es:List α} (H:Hp w0 w L F) (h:d4 Y lo hi A es∈F):Rd Y 0 w.heap.size A es w:=by
 obtain⟨h1,h2,-⟩:=H.facts _ h
 exact Rd.mono h1 (bx _) h2
theorem Bw.into2 {w0 w w2:World} {bb gP:Nat} {b:Bk} {uP:Array Value} {Ls Lo K:List (Nat×Obj)} {F F2:List cf} (B:Bw w0 w bb b gP uP Ls Lo K F) (X:List (Nat×Obj)) (H:Hp w0 w2 (X++((bb,.cells b.c.toArray bF (0,0))::(gP,.cells uP bK (0,0))::(Ls++(Lo++K)))) F2) (hF: ∀ f∈F,f∈F2):Bw w0 w2 bb b gP uP Ls Lo (X++K) F2:=
 ⟨B.pA,B.row,B.sn,B.own,hF _ B.co,hF _ B.gr,fun q hq=>hF _ (B.ps q hq),H.perm (Pg [(bb,_),(gP,_)] Ls Lo X K)⟩
theorem PZ (A Ls Lo oL K:List (Nat×Obj)):(A++(oL++(Ls++(Lo++K)))).Perm (A++(Ls++(Lo++(oL++K)))):=by
 refine List.Perm.append_left A ?_
 rw[show Ls++(Lo++(oL++K))=(Ls++Lo)++(oL++K) by simp,show Ls++(Lo++K)=(Ls++Lo)++K by simp]
 exact gf oL (Ls++Lo) K
structure PD (w0 w:World) (W0:Wa) (acts:List Act) (A0:Option Addr) (bb:Nat) (K:List (Nat×Obj)) (i:Nat) (b:Bk) (xs:List Aq) (gP:Nat) (uP:Array Value) (Ls Lo:List (Nat×Obj)) (oA:Option Addr) (oC:Nat) (oL:List (Nat×Obj)) (F:List cf):Prop where
 le:i<=acts.length
 run:kT W0 (acts.take i) (xs.map Aq.x) b.a
 B:Bw w0 w bb b gP uP Ls Lo (oL++K) F
 own:gH Qq (.slice oA xs.length oC) ee xs oL
 tx: ∀ x∈xs,x.x.texts.length<=x.c/\ ∃ lo hi,w0.heap.size<=lo/\d4 my lo hi x.A x.x.texts∈F
 ac:d4 qz 0 w0.heap.size A0 acts∈F
theorem QA (bb gP:Nat×Obj) (Ls Lo oL K:List (Nat×Obj)):(bb::(K++(gP::(Ls++(Lo++oL))))).Perm (bb::gP::(Ls++(Lo++(oL++K)))):=by
 rw[show Ls++(Lo++(oL++K))=(Ls++(Lo++oL))++K by simp]
 refine ah _ ?_
 exact(xI (l₁:=K) (l₂:=gP::(Ls++(Lo++oL))))
theorem PD.rd {w0 w w2:World} {W0:Wa} {acts:List Act} {A0:Option Addr} {bb:Nat} {K:List (Nat×Obj)} {i:Nat} {b:Bk} {xs:List Aq} {gP:Nat} {uP:Array Value} {Ls Lo:List (Nat×Obj)} {oA:Option Addr} {oC:Nat} {oL:List (Nat×Obj)} {F F2:List cf} (Ii:PD w0 w W0 acts A0 bb K i b xs gP uP Ls Lo oA oC oL F) (X:List (Nat×Obj)) (H:Hp w0 w2 (X++((gP,.cells uP bK (0,0))::(Ls++(Lo++oL)))) F2) (hF: ∀ f∈F,f∈F2):(Rn.mk xs oA oC b).rd w0.heap.size w2.heap.size w2:=by
 have H1:=H.forget (L':=oL) (((bZ Lo oL).trans (bZ Ls _)).trans ((aR _ _).trans (bZ X _))) (fun _ h=>h)
 have H2:=H.forget (L':=[(gP,.cells uP bK (0,0))]) (((List.cons_sublist_cons.2 (List.nil_sublist _))).trans (bZ X _)) (fun _ h=>h)
 obtain⟨A,c,e1,e2,-⟩:=Ii.own.form
 cases e1
 have hg:=H2.ge (i:=0) Z
 have hl:=H2.lt (i:=0) Z
 refine⟨Ii.own.rd (K:=[]) (M:=[]) (by simpa using H1),e2,fun x hx=> ?_,?_,Ii.B.row.le,fun q hq=> ?_,?_,?_⟩
 obtain⟨z1,lo,hi,z2,z3⟩:=Ii.tx x hx
 obtain⟨h1,h2,-⟩:=H.facts _ (hF _ z3)
 exact⟨Rd.mono h1 z2 h2,z1⟩
 have:=(Ii.B.row.rd (H2.ent (i:=0) Z)).mono hg (Nat.succ_le_of_lt hl)
 rw[<-Ii.B.pA]at this
 exact this
 obtain⟨h1,h2,-⟩:=H.facts _ (hF _ (Ii.B.ps q hq))
 exact Pa.rd.mono h1.2 h1.1 h2
 obtain⟨h1,h2,-⟩:=H.facts _ (hF _ Ii.B.co)
 exact Co.rd.mono h1.2 h1.1 h2
 obtain⟨h1,h2,-⟩:=H.facts _ (hF _ Ii.B.gr)
 exact Gr.rd.mono h1.2 h1.1 h2
theorem Ji {es:List cv} {n st a most b:Nat} {out:List ByteArray} (h:y4 es n st a most out b):out.length<=most:=h.2.2.2.1
theorem HT {w:Wa} {a:Act} {w':Wa} {x:An} (h:rW w a w' x) (hn:a.kind=19->a.n<=20) (h17:1<=a.kind):x.texts.length<=20:=by
 cases h with
 |poll x h1 h2=>
  cases h2 with
  |no=>exact bx _
  |yes p x h3 h4 h5=>
   cases h5 with
   |none=>exact bx _
   |range=>exact bx _
   |ok l r st out b g1 g2 g3 g4 g5=>have:=Ji g5;have:=hn h1;show out.length<=20;omega
 |other h1=>
  have:(j8 w a).2.texts=[]:=by
   obtain⟨a1,a2,a3,a4,a5,a6,a7,a8⟩:=p8 a w
   rcases Classical.em (a.kind=1)with h|h
   rw[a1 h];exact yT ..
   rcases Classical.em (a.kind=2)with h|h
   rw[a2 h];exact xx ..
   rcases Classical.em (a.kind=3∨a.kind=4)with h|h
   rw[a3 h];exact yJ ..
   rcases Classical.em (a.kind=5)with h|h
   rw[a4 h];exact vB ..
   rcases Classical.em (a.kind=6)with h|h
   rw[a5 h];exact yQ ..
   rcases Classical.em (a.kind=7)with h|h
   rw[a6 h];rfl
   rcases Classical.em (8<=a.kind/\a.kind<=15)with h|h
   rw[a7 h];exact yM ..
   rw[a8 I];exact Ap ..
  rw[this];exact bx _
theorem OY {np nr few:Nat} {wt:Int} {acts:List Act} {A0:Option Addr} {c0:Nat} (w:World) (q1:1<=np) (q4:np<=4) (n1:1<=nr) (n5:nr<=5) (f1:1<=few) (f2:few<=nr) (t1:1<=wt) (t2:wt<=1000) (hr:Rd qz 0 w.heap.size A0 acts w) (hl:acts.length<=400) (hg: ∀ a∈acts,nc np nr a):dt aa Ee [.agg #[J (np:Nat),J (nr:Nat),J (few:Nat),J wt],.slice A0 acts.length c0] w fun v w2=> ∃ r:Rn,v=r.v/\kT (m6 np nr few wt) acts (r.xs.map Aq.x) r.b.a/\r.rd w.heap.size w2.heap.size w2/\Below w.heap.size w w2:=by
 refine aG Ch Z Z ?_
 have H:=Hp.startRd hr
 show CW _ _ _ _ (args [.agg #[J (np:Nat),J (nr:Nat),J (few:Nat),J wt],.slice A0 acts.length c0]) w
 refine W<|Zr<|gM H Z Z fun w1 b2 H=>G (Ws Z)<|fg H pM Z fun w2 b5 H=>G (Wi Z)<|U<|W<|Zr<|G (Zw sy H 1 Z Z Z)<|cz zv (KC w _ H.size q1 q4 n1 n5 f1 f2 t1 t2) Z Z ?_
 rintro _ w3 ⟨⟨ps,pA,pC,co,clo,chi,gr,glo,ghi,sns,snA,snC⟩,gP,uP,F1,rfl,hba,⟨hpA,row,⟨hs1,hs2,hs3⟩,hco,hgr,hps,hlo1,H1⟩⟩
 dsimp only at hpA row hs1 hs2 hs3 hco hgr hps
 subst hpA;subst hs1;subst hs2;subst hs3
 replace H:=H.joinF H1 hlo1;clear H1
 refine G (Yu Z)<|G (Xa Z Z)<|G (Xi Z Z)<|fg H pM Z fun w4 b7 H=>bC H 0 (#[.slice (Qd gP) ps.length pC,J (co.clock),J (co.next),J (co.wait),.slice co.A co.txs.length co.cap,J (gr.clock),J (gr.wait),J (gr.gen),.slice gr.mA gr.ms.length gr.mC,.slice gr.oA gr.os.length gr.oC,.slice none (([]:List Sn).length) 0]) lR Z Z Z Z Z N N fun w5 H=>G (Wi Z)<|U<|W<|W<|Zr<|G (Yi Z)<|G (ch Z Z (by decide))<|U<|ZF Z<|Zk<|W<|W<|Zr<|G (Ys Z)<|G (bj wQ Z)<|G (eu Z Z I)<|U<|ZF Z<|Zk<|W<|Zr<|G (Zw nT H 0 Z Z Z)<|G (bE (cs:= #[.slice (Qd gP) ps.length pC,J (co.clock),J (co.next),J (co.wait),.slice co.A co.txs.length co.cap,J (gr.clock),J (gr.wait),J (gr.gen),.slice gr.mA gr.ms.length gr.mC,.slice gr.oA gr.os.length gr.oC,.slice none (([]:List Sn).length) 0]) I9 KA N)<|gM H Z Z fun w6 b29 H=>G (Wp Z)<|U<|W<|Zr<|G (Ws Z)<|U<|W<|W<|Zr<|G (Ys Z)<|G (bj wQ Z) ?_
 refine G (Yi Z)<|U<|Zb ?_
 obtain⟨K3,hK3⟩: ∃ l:List (Nat×Obj),([(b7,.cells #[.slice (Qd gP) ps.length pC,J (co.clock),J (co.next),J (co.wait),.slice co.A co.txs.length co.cap,J (gr.clock),J (gr.wait),J (gr.gen),.slice gr.mA gr.ms.length gr.mC,.slice gr.oA gr.os.length gr.oC,.slice none (([]:List Sn).length) 0] n9 (0,0)),(b5,.cells #[.slice none 0 0,J (0),J (0),J (0),.slice none 0 0,J (0),J (0),J (0),.slice none 0 0,.slice none 0 0,.slice none 0 0] n9 (0,0)),(b2,.cells #[J (((np:Nat):Int)),J (((nr:Nat):Int)),J (((few:Nat):Int)),J (wt)] lB (0,0))]:List (Nat×Obj))=l:=⟨_,rfl⟩
 refine bW (τ:=Nat×Bk×List Aq×Nat×Array Value×List (Nat×Obj)×List (Nat×Obj)×Option Addr×Nat×List (Nat×Obj)×List cf) [10,12,13,32,33,34,35,36,37,38,39,40,41,42,43,44,45,46,47] (fun(i,_,xs,_,_,_,_,oA,oC,_,_)=>[(32,J (i:Nat)),(10,.slice oA xs.length oC)]) (fun(i,b,xs,gP,uP,Ls,Lo,oA,oC,oL,F') w'=>PD w w' (m6 np nr few wt) acts A0 b29 K3 i b xs gP uP Ls Lo oA oC oL F') (fun(i,_)=>acts.length-i) (0,⟨ps,some ⟨gP,0,none⟩,pC,co,clo,chi,gr,glo,ghi,[],none,0⟩,[],gP,uP,[],[],none,0,[],_) (by subst hK3;exact⟨bx _,by rw[hba];exact .nil _,⟨rfl,row,gH.nil,rfl,cB _ hco,cB _ hgr,fun q hq=>cB _ (hps q hq),H.perm (ah _ (ak _ _ _))⟩,gH.nil,by simp,az ..⟩) (lE Z Z) ?_
 rintro⟨i,b,xs,gP1,uP1,Ls,Lo,oA,oC,oL,F'⟩ ρ1 w7 Ii
 show CW _ _ _ _ (dH (gT _ _ ρ1) [(32,J (i:Nat)),(10,.slice oA xs.length oC)]) w7
 have hile:=Ii.le
 have H:=Ii.B.H.learnOld (d4 qz 0 w.heap.size A0 acts) (Ii.B.H.facts _ Ii.ac).1 (ao _)
 have hxl:xs.length=i:=by have:=Ii.run.len;rwa[bl,aF,bB hile]at this
 obtain⟨M',-,hwi⟩:=K7 Ii.run (DU n1 n5 f1 f2 t1 t2) (by rw[aF];omega) q4 (fun a ha=>hg a (y8 ha))
 rw[cE,aF,bB hile]at hwi
 refine W<|Zr ?_
 refine dq (cL Z Z) Z Z Z (fun h33=> ?_) (fun h33=> ?_)
 ·
  refine U<|W<|ZT Z<|Zk<|W<|Zb<|W ?_
  obtain⟨a,ha⟩: ∃ a,acts[i]? =some a:=⟨_,ai I⟩
  refine Zr<|px H 0 Z qS Z Z I I Z fun bq8 o8 x8 e8=> ?_
  obtain rfl:a=x8:=by have:=e8.at_;rw[ha]at this;exact aT this
  refine G (jL (xs:=Act.c a) dU Z Z e8.cl)<|fg H pp Z fun w9 b12 H=>bC H 0 (#[J (a.kind),.string (a.name),J (a.part),J (a.n),J (a.m),.string (a.text),J (a.lost)]) Nb Z Z Z Z Z N N fun w10 H=>U<|W<|Zr<|G (Yp Z)<|G (Zw dU H 0 Z Z Z)<|cz uy (PC (Ii.B.into2 [(b12,_)] H (fun f hf=>aj _ hf)) hwi I q1 q4 (hg a (ab ha))) Z Z ?_
  rintro _ w11 ⟨b2,x2,A9,c9,lo9,hi9,hA9,rfl,hc9,gP9,uP9,Ls9,Lo9,F9,B9,hF9⟩
  replace H:=B9.out (X:=[(b12,_)])
  refine fg H du Z fun w12 b13 H=>bC H 0 (#[J (x2.code),J (x2.n),.slice A9 x2.texts.length c9]) aN Z Z Z Z Z N N fun w13 H=>U<|W<|Zr<|G (Zf yY Z)<|G (Zd jr H 0 Z Z Z)<|cz nO (zo x2.texts A9 c9 _ (Hp.rdM H (hF9 _ (az ..))) (by have:=HT hA9 (fun h=>((hg a (ab ha)).poll h).2) (hg a (ab ha)).kind.1;omega)) Z Z ?_
  have hz41:=H.size
  rintro _ w14 ⟨A41,c41,rfl,hc41,hr41,hb41⟩;replace H:=H.learnRd hb41 hr41;clear hr41 hb41
  refine G (Zf yY Z)<|bC H 0 (#[J (x2.code),J (x2.n),.slice A41 x2.texts.length c41]) E0 Z Z Z Z Z N N fun w15 H=>U<|Zr<|G (Ys Z)<|G (Zw aK H 0 Z Z Z)<|uA (vs:=[.agg #[J (x2.code),J (x2.n),.slice A41 x2.texts.length c41]]) H GK du Z Z Z Z Z Z fun w16 b45 H=> ?_
  replace H:=Hp.perm H (PZ [(b45,_),(b13,_),(b12,_),(b29,_),(gP9,_)] Ls9 Lo9 oL K3)
  refine xA (Y:=Qq) HR (K:=[(b45,_),(b13,_),(b12,_),(b29,_),(gP9,_)]) (L:=oL) (M:=Ls9++(Lo9++K3)) H Ii.own (es:=xs) (news:=[(⟨x2,A41,c41⟩:Aq)]) Z Z Z (y3.row (m:=1) (sz:=Qq.sz) (H.ent (i:=0) Z) Z) (by simp only[cF];omega) Z ?_
  intro A5 c5 w17 L5 h5 h5m ho5 H
  replace H:=Hp.perm H (PZ [(b45,_),(b13,_),(b12,_),(b29,_),(gP9,_)] Ls9 Lo9 L5 K3).symm
  refine G (Ws Z)<|U<|Zr<|G (bn Z Z I I)<|G (Yi Z)<|U ?_
  exact⟨(i+1,b2,xs++[(⟨x2,A41,c41⟩:Aq)],gP9,uP9,Ls9,Lo9,A5,c5,L5,_),⟨by omega,by rw[dY ha,bh];exact Ii.run.snoc hA9,Bw.mk B9.pA B9.row B9.sn B9.own (aj _ B9.co) (aj _ B9.gr) (fun q hq=>aj _ (B9.ps q hq)) (H.forget (bZ [(b45,_),(b13,_),(b12,_)] _) (fun _ h=>h)),ho5,fun x hx=>(by rcases aq.1 hx with hx|hx;obtain⟨z1,lo,hi,z2,z3⟩:=Ii.tx x hx;exact⟨z1,lo,hi,z2,aj _ (hF9 _ (aj _ (aj _ z3)))⟩;rw[ar.1 hx];exact⟨hc41,_,_,hz41,az ..⟩),aj _ (hF9 _ (aj _ (az ..)))⟩,lE Z Z,Qg,by show acts.length- (i+1)<acts.length-i;omega⟩
 ·
  refine U<|W<|ZF Z<|Zx<|W ?_
  obtain rfl:i=acts.length:=by omega
  have hrun:=Ii.run
  rw[bM]at hrun
  subst hK3
  obtain⟨ps2,pA2,pC2,co2,clo2,chi2,gr2,glo2,ghi2,sns2,snA2,snC2⟩:=b
  replace H:Hp w w7 ((b29,.cells #[.slice pA2 ps2.length pC2,J (co2.clock),J (co2.next),J (co2.wait),.slice co2.A co2.txs.length co2.cap,J (gr2.clock),J (gr2.wait),J (gr2.gen),.slice gr2.mA gr2.ms.length gr2.mC,.slice gr2.oA gr2.os.length gr2.oC,.slice snA2 sns2.length snC2] bF (0,0))::(b7,.cells #[.slice (Qd gP) ps.length pC,J (co.clock),J (co.next),J (co.wait),.slice co.A co.txs.length co.cap,J (gr.clock),J (gr.wait),J (gr.gen),.slice gr.mA gr.ms.length gr.mC,.slice gr.oA gr.os.length gr.oC,.slice none (([]:List Sn).length) 0] n9 (0,0))::(b5,.cells #[.slice none 0 0,J (0),J (0),J (0),.slice none 0 0,J (0),J (0),J (0),.slice none 0 0,.slice none 0 0,.slice none 0 0] n9 (0,0))::(b2,.cells #[J (((np:Nat):Int)),J (((nr:Nat):Int)),J (((few:Nat):Int)),J (wt)] lB (0,0))::(gP1,.cells uP1 bK (0,0))::(Ls++(Lo++oL))) (d4 qz 0 w.heap.size A0 acts::F'):=H.perm (QA (b29,_) (gP1,_) Ls Lo oL [(b7,_),(b5,_),(b2,_)])
  refine bP cD [0,1,2,3,4,5] [6,7] [] [0,1,2,3,5] (sp []) N N N N Nq (cO _) ?_
  refine aw Z Z Z Z Z (fun w' hw'=>Ys Z)<|aw Z Z Z Z Z (fun w' hw'=>Yp Z)<|aw Z Z Z Z Z (fun w' hw'=>aI Z)<|aw Z Z Z Z Z (fun w' hw'=>Zf aS Z)<|aw Z Z Z Z Z (fun w' hw'=>js nT Z ((H.later hw').ent (i:=0) Z) Z)<|aw Z Z Z Z Z (fun w' hw'=>Ws Z)<|aU ?_
  intro w18 hw' hF
  replace H:=H.later hw';clear hw' hF
  refine bC H 2 (#[.slice pA2 ps2.length pC2,J (co2.clock),J (co2.next),J (co2.wait),.slice co2.A co2.txs.length co2.cap,J (gr2.clock),J (gr2.wait),J (gr2.gen),.slice gr2.mA gr2.ms.length gr2.mC,.slice gr2.oA gr2.os.length gr2.oC,.slice snA2 sns2.length snC2]) lR Z Z Z Z Z N N fun w19 H=>G (Wi Z)<|U<|Zt ?_
  exact Mj (v0:=.slice oA xs.length oC) (cs1:= #[.slice pA2 ps2.length pC2,J (co2.clock),J (co2.next),J (co2.wait),.slice co2.A co2.txs.length co2.cap,J (gr2.clock),J (gr2.wait),J (gr2.gen),.slice gr2.mA gr2.ms.length gr2.mC,.slice gr2.oA gr2.os.length gr2.oC,.slice snA2 sns2.length snC2]) (v2:=J 0) Z Z nT Z (H.ent (i:=2) Z) Z Z ⟨⟨xs,oA,oC,⟨ps2,pA2,pC2,co2,clo2,chi2,gr2,glo2,ghi2,sns2,snA2,snC2⟩⟩,rfl,hrun,Ii.rd [(b29,_),(b7,_),(b5,_),(b2,_)] H (fun f hf=>aj _ hf),H.below⟩
/-- an act that the laws make -/
structure Qf (np nr:Nat) (hard:Bool) (a:Act):Prop where
 g:nc np nr a
 calm:hard=false->(a.kind<=9∨16<=a.kind)/\a.kind≠1/\a.lost=0
 txt:a.text=⟨#[]⟩∨ ∃ n,a.text=CB n
 tk:a.kind=7->a.n<=3
theorem DY {np nr:Nat} {hard:Bool} {k pt n m lo:Int} {nm t:ByteArray} (h:(1<=k/\k<=20/\k≠17/\(k<=9∨k=13∨16<=k))/\(0<=pt/\pt<np)/\(0<=n/\n<=1000)/\(8<=k->k<=15->n<nr)/\(k=5->n<=1)/\(k=19->1<=n/\n<=20)/\(0<=m/\m<=1000)/\(0<=lo/\lo<=2)/\(k=7->n<=3)) (hh:hard=false->(k<=9∨16<=k)/\k≠1/\lo=0) (hn:(k=1∨k=16∨k=18∨k=19∨k=20)->bo nm=true) (ht:t=⟨#[]⟩∨ ∃ n,t=CB n):Qf np nr hard ⟨k,nm,pt,n,m,t,lo⟩:=by
 obtain⟨h1,h2,h3,h4,h5,h6,h7,h8,h9⟩:=h
 refine⟨⟨h1,hn,h2,h3,h4,h5,h6,h7,?_,h8⟩,hh,ht,h9⟩
 rcases ht with ht|⟨x,ht⟩
 show t.size<=40;rw[ht];decide
 show t.size<=40;rw[ht];exact aX (IZ x) (by decide)
def bI (p:Nat):Act:=⟨13,⟨#[]⟩,p,0,0,⟨#[]⟩,0⟩
def cY (s:ByteArray):Act:=⟨1,s,0,0,0,⟨#[]⟩,0⟩
theorem K0 (a b:Int) (w:World) (ha:i64 a) (hb:i64 b):dt aa oo [J a,J b] w fun v w2=>v=.agg #[J (1+(pk a 3:Nat):Int),J (1+(pk b 3:Nat):Int),J (1+(pk a (1+pk b 3):Nat):Int),J (5+(pk b 20:Nat):Int)]/\Below w.heap.size w w2:=by
 refine aG tS Z Z ?_
 have H:=Hp.start w
 have p1:=tv a (show 0<3 by omega)
 have p2:=tv b (show 0<3 by omega)
 have p3:=tv a (show 0<1+pk b 3 by omega)
 have p4:=tv b (show 0<20 by omega)
 refine W<|Zr<|fg H Dt Z fun w1 b4 H=>U<|W<|Zr<|G (Yi Z)<|cz fT (r8 b (3) _ hb.1 hb.2 I I) Z Z ?_
 rintro _ w2 ⟨rfl,hb⟩;replace H:=H.later hb;clear hb
 refine G (bn Z Z I I)<|G (Wi Z)<|U<|W<|Zr<|G (Yi Z)<|cz fT (r8 a (3) _ ha.1 ha.2 I I) Z Z ?_
 rintro _ w3 ⟨rfl,hb⟩;replace H:=H.later hb;clear hb
 refine G (bn Z Z I I)<|G (Yi Z)<|G (Yi Z)<|G (Yi Z)<|cz fT ((by have hA:=r8 a (1+pk b 3) w3 ha.1 ha.2 I I;rw[show((1+pk b 3:Nat):Int)=(1:Int)+(pk b 3:Nat) by omega]at hA;exact hA)) Z Z ?_
 rintro _ w4 ⟨rfl,hb⟩;replace H:=H.later hb;clear hb
 refine G (bn Z Z I I)<|G (Yi Z)<|cz fT (r8 b (20) _ hb.1 hb.2 I I) Z Z ?_
 rintro _ w5 ⟨rfl,hb⟩;replace H:=H.later hb;clear hb
 refine G (bn Z Z I I)<|G (bE (cs:= #[J (1+(((pk a (3):Nat):Int))),J (1+(((pk b (3):Nat):Int))),J (1+(((pk a (1+pk b 3):Nat):Int))),J (5+(((pk b (20):Nat):Int)))]) KS Dt N)<|bC H 0 (#[J (1+(((pk a (3):Nat):Int))),J (1+(((pk b (3):Nat):Int))),J (1+(((pk a (1+pk b 3):Nat):Int))),J (5+(((pk b (20):Nat):Int)))]) CR Z Z Z Z Z N N fun w6 H=>U<|Zt ?_
 exact eQ (cs0:= #[J (1+(pk a 3:Nat):Int),J (1+(pk b 3:Nat):Int),J (1+(pk a (1+pk b 3):Nat):Int),J (5+(pk b 20:Nat):Int)]) Z sy Z (H.ent (i:=0) Z) Z ⟨rfl,H.below⟩
def PF (lo hi:Nat) (r:Rn):cf:=⟨lo,hi,r.rd lo hi,fun _ _ hk h=>h.st hk⟩
def QE (w:World) (W0:Wa) (acts:List Act) (v:Value) (w2:World):Prop:= ∃ (xs:List Aq) (oA:Option Addr) (oC:Nat) (b:Bk),v=.tuple #[.slice oA xs.length oC,.agg b.c.toArray,.bool true]/\kT W0 acts (xs.map Aq.x) b.a/\(Rn.mk xs oA oC b).rd w.heap.size w2.heap.size w2/\Below w.heap.size w w2
theorem DL {a b:Int}:1<=1+pk a 3/\1+pk a 3<=4/\1<=1+pk b 3/\1+pk b 3<=5/\1<=1+pk a (1+pk b 3)/\1+pk a (1+pk b 3)<=1+pk b 3/\(1:Int)<=5+(pk b 20:Nat)/\(5:Int)+(pk b 20:Nat)<=1000:=by
 have p1:=tv a (show 0<3 by omega)
 have p2:=tv b (show 0<3 by omega)
 have p3:=tv a (show 0<1+pk b 3 by omega)
 have p4:=tv b (show 0<20 by omega)
 omega
theorem Ex (es:List Act) (A:Option Addr) (c:Nat) (w:World) (hr:Rd qz 0 w.heap.size A es w) (hb:es.length*72<=140737488355328):
  dt aa sj [.slice A es.length c] w fun v w2=> ∃ A' c' L',v=.slice A' es.length c'/\es.length<=c'/\c'<=maxLen/\gH qz (.slice A' es.length c') jf es L'/\Hp w w2 L' []:=by
 refine aG rI Z Z ?_
 have H:=Hp.startRd hr
 refine W<|Zr<|G (Ws Z)<|U<|W<|W<|Zr<|G (Ys Z) ?_
 refine zB (pO wQ Z) Z Z Z (fun h4=> ?_) (fun h4=> ?_)
 refine U<|ZT Z<|W<|Zr<|G (Ws Z)<|U<|Zt ?_
 have he:es=[]:=by
  cases es with
  |nil=>rfl
  |cons e es=>obtain⟨b,o,hA,_⟩:=hr (by simp);subst hA;cases h4
 subst he
 exact cn Z Z ⟨none,0,[],rfl,by simp,by decide,gH.nil,H.forget (by simp) (by simp)⟩
 refine U<|ZF Z<|Zk<|W<|Zr<|Od H qS Z fun w1 b5 H=>G (Ys Z)<|xA (Y:=qz) IQ (K:=[]) (L:=[(b5,_)]) (M:=[]) H (rV.lit (by decide) (by rfl)) (es:=[]) (news:=es) Z Z Z (Rd.src (H.fact (i:=0) Z)) (by simpa using hb) Z ?_
 intro A3 c3 w3 L3 h3a h3b ho3 H
 refine G (Ws Z)<|U<|Zt ?_
 exact cn Z Z ⟨A3,c3,L3,rfl,h3a,h3b,ho3,H.forget (by simp) (by simp)⟩
theorem Ia {np nr few:Nat} {wt:Int} {acts:List Act} {A0:Option Addr} {c0:Nat} (w:World) (q1:1<=np) (q4:np<=4) (n1:1<=nr) (n5:nr<=5) (f1:1<=few) (f2:few<=nr) (t1:1<=wt) (t2:wt<=1000) (hr:Rd qz 0 w.heap.size A0 acts w) (hl:acts.length<=400) (hg: ∀ a∈acts,nc np nr a):dt aa wV [.agg #[J (np:Nat),J (nr:Nat),J (few:Nat),J wt],.slice A0 acts.length c0] w (QE w (m6 np nr few wt) acts):=by
 refine aG wg Z Z ?_
 have H:=Hp.startRd hr
 show CW _ _ _ _ (args [.agg #[J (np:Nat),J (nr:Nat),J (few:Nat),J wt],.slice A0 acts.length c0]) w
 refine W<|Zr<|gM H Z Z fun w1 b2 H=>G (Ws Z)<|fg H pM Z fun w2 b5 H=>G (Wb Z)<|U<|W<|Zr<|G (Zw sy H 1 Z Z Z)<|G (Ys Z)<|cz Ct (OY _ q1 q4 n1 n5 f1 f2 t1 t2 (H.rd0 0 Z) hl hg) Z Z ?_
 have hlo:=H.size
 rintro _ w3 ⟨⟨xs,oA,oC,⟨ps,pA,pC,co,clo,chi,gr,glo,ghi,sns,snA,snC⟩⟩,rfl,hrun,hrd,hb⟩;replace H:=H.learn hb (PF w2.heap.size w3.heap.size ⟨xs,oA,oC,⟨ps,pA,pC,co,clo,chi,gr,glo,ghi,sns,snA,snC⟩⟩) hrd (ao _) (ao _)
 have hxl:xs.length=acts.length:=by have:=hrun.len;rwa[bl]at this
 refine G (Yu Z)<|G (Xs Z Z)<|G (Xa Z Z)<|G (Xi Z Z)<|fg H pM Z fun w4 b8 H=>G (Ws Z)<|bC H 0 (#[.slice pA ps.length pC,J (co.clock),J (co.next),J (co.wait),.slice co.A co.txs.length co.cap,J (gr.clock),J (gr.wait),J (gr.gen),.slice gr.mA gr.ms.length gr.mC,.slice gr.oA gr.os.length gr.oC,.slice snA sns.length snC]) lR Z Z Z Z Z N N fun w5 H=>G (Wi Z)<|U<|W ?_
 refine bP cD [0,1,2,3,4,5,6,7,8,9,10,11] [12,13] [] [0,2,3,4,5,6,7,8,9,10,11] (sp []) N N N N Nq (cO _) ?_
 refine aw Z Z Z Z Z (fun w' hw'=>Ys Z)<|aw Z Z Z Z Z (fun w' hw'=>js nT Z ((H.later hw').ent (i:=0) Z) Z)<|aw Z Z Z Z Z (fun w' hw'=>Yi Z)<|aw Z Z Z Z Z (fun w' hw'=>rP Z Z Z)<|aw Z Z Z Z Z (fun w' hw'=>Yb Z)<|aw Z Z Z Z Z (fun w' hw'=>Ys Z)<|aw Z Z Z Z Z (fun w' hw'=>bj Fw Z)<|aw Z Z Z Z Z (fun w' hw'=>Ys Z)<|aw Z Z Z Z Z (fun w' hw'=>bj wQ Z)<|aw Z Z Z Z Z (fun w' hw'=>rP Z Z (by dsimp only;omega))<|aw Z Z Z Z Z (fun w' hw'=>Kt Z Z)<|aw Z Z Z Z Z (fun w' hw'=>Ws Z)<|aU ?_
 intro w6 hw' hF
 replace H:=H.later hw';clear hw' hF
 refine bC H 1 (#[.slice pA ps.length pC,J (co.clock),J (co.next),J (co.wait),.slice co.A co.txs.length co.cap,J (gr.clock),J (gr.wait),J (gr.gen),.slice gr.mA gr.ms.length gr.mC,.slice gr.oA gr.os.length gr.oC,.slice snA sns.length snC]) lR Z Z Z Z Z N N fun w7 H=>G (Wb Z)<|U<|Zt ?_
 exact Mj (v0:=.slice oA xs.length oC) (cs1:= #[.slice pA ps.length pC,J (co.clock),J (co.next),J (co.wait),.slice co.A co.txs.length co.cap,J (gr.clock),J (gr.wait),J (gr.gen),.slice gr.mA gr.ms.length gr.mC,.slice gr.oA gr.os.length gr.oC,.slice snA sns.length snC]) (v2:=.bool true) Z Z nT Z (H.ent (i:=1) Z) Z Z ⟨xs,oA,oC,⟨ps,pA,pC,co,clo,chi,gr,glo,ghi,sns,snA,snC⟩,rfl,hrun,Rn.rd.mono (H.fact (i:=0) Z) hlo (H.facts _ (az ..)).2.1,H.below⟩
theorem wG {l m:List Act} {A0 A1:Option Addr} {c0 c1:Nat} (w:World) (hr:Rd qz 0 w.heap.size A0 l w) (hs:Rd qz 0 w.heap.size A1 m w) (hl:l.length<=1000) (hm:m.length<=1000):dt aa wc [.slice A0 l.length c0,.slice A1 m.length c1] w fun v w2=> ∃ (A:Option Addr) (c:Nat) (L:List (Nat×Obj)),v=.slice A (l++m).length c/\gH qz (.slice A (l++m).length c) jf (l++m) L/\Hp w w2 L []:=by
 refine aG vf Z Z ?_
 have H:=(Hp.startRd hr).learnOld (d4 qz 0 w.heap.size A1 m) hs (ao _)
 show CW _ _ _ _ (args [.slice A0 l.length c0,.slice A1 m.length c1]) w
 refine W<|Zr<|G (Ws Z)<|U<|W<|Zr<|G (Ys Z)<|cz rS (Ex l A0 c0 _ (H.rd0 1 Z) I) Z Z ?_
 rintro _ w1 ⟨A2,c2,L2,rfl,hc2,hm2,ho2,hj2⟩;replace H:=H.join hj2;clear hj2
 refine G (Ys Z)<|xA (Y:=qz) IQ (K:=[]) (L:=L2) (M:=[]) H ho2 (es:=l) (news:=m) Z Z Z (Rd.src (H.fact (i:=0) Z)) I Z ?_
 intro A5 c5 w2 L5 h5 h5m ho5 H
 refine G (Ws Z)<|U<|Zt ?_
 exact cn (v:=.slice A5 (l++m).length c5) Z Z ⟨A5,c5,L5,rfl,ho5,H.forget (L':=L5) (by simp) (by simp)⟩
abbrev AI:FuncId:=10
theorem zh:aa.funcs[(10:Nat)]? =some Tryz.f10:=Tryz.func10
theorem ph:bg aa 10=true:=by kernel_rfl
abbrev sk:FuncId:=21
theorem rJ:aa.funcs[(21:Nat)]? =some Tryz.f21:=Tryz.func21
theorem rT:bg aa 21=true:=by kernel_rfl
abbrev pf:FuncId:=28
theorem oz:aa.funcs[(28:Nat)]? =some Tryz.f28:=Tryz.func28
theorem oN:bg aa 28=true:=by kernel_rfl
abbrev rB:FuncId:=36
theorem qL:aa.funcs[(36:Nat)]? =some Tryz.f36:=Tryz.func36
theorem qO:bg aa 36=true:=by kernel_rfl
def Pr:ByteArray:=⟨#[48,49,50,51,52,53,54,55,56,57,97,98,99,100,101,102,103,104,105,106,107,108,109,110,111,112,113,114,115,116,117,118,119,120,121,122]⟩
def OR:ByteArray:=⟨#[48,48,48,49,48,50,48,51,48,52,48,53,48,54,48,55,48,56,48,57,49,48,49,49,49,50,49,51,49,52,49,53,49,54,49,55,49,56,49,57,50,48,50,49,50,50,50,51,50,52,50,53,50,54,50,55,50,56,50,57,51,48,51,49,51,50,51,51,51,52,51,53,51,54,51,55,51,56,51,57,52,48,52,49,52,50,52,51,52,52,52,53,52,54,52,55,52,56,52,57,53,48,53,49,53,50,53,51,53,52,53,53,53,54,53,55,53,56,53,57,54,48,54,49,54,50,54,51,54,52,54,53,54,54,54,55,54,56,54,57,55,48,55,49,55,50,55,51,55,52,55,53,55,54,55,55,55,56,55,57,56,48,56,49,56,50,56,51,56,52,56,53,56,54,56,55,56,56,56,57,57,48,57,49,57,50,57,51,57,52,57,53,57,54,57,55,57,56,57,57]⟩
def gZ (n:Nat):ByteArray:=if n<10 then Pr.extract n (n+1)else OR.extract (2*n) (2*n+2)
theorem C4 (n:Nat):(gZ n).size<=40:=by
 unfold gZ
 split<;>rw[ByteArray.size_extract]<;>omega
theorem HY:aa.underlying qA=some .string:=by kernel_rfl
theorem KY (n:Nat) (w:World) (hn:n<100):dt aa rB [.int .i64 (n:Nat)] w fun v w2=>v=.string (gZ n)/\Below w.heap.size w w2:=by
 refine aG qL rfl rfl ?_
 have H:=Hp.start w
 refine bD ?_
 refine ba ?_
 refine l1 (uC rfl) rfl rfl rfl ?_
 refine bL ?_
 refine bD ?_
 refine bD ?_
 refine ba ?_
 refine l1 (eM rfl) rfl rfl rfl ?_
 refine dq (cL rfl rfl) rfl rfl rfl (fun h4=> ?_) (fun h4=> ?_)
 refine bL ?_
 refine gL rfl ?_
 refine bD ?_
 refine ba ?_
 refine l1 (eM rfl) rfl rfl rfl ?_
 refine l1 (eM rfl) rfl rfl rfl ?_
 refine l1 (bn rfl rfl (by omega) (by omega)) rfl rfl rfl ?_
 refine l1 (Oo (s:=Pr) HY rfl rfl rfl (by omega) (by omega) (by show _<=(36:Int);omega)) rfl rfl rfl ?_
 rw[show Pr.extract ((n:Nat):Int).toNat (((n:Nat):Int)+1).toNat=gZ n by unfold gZ;rw[if_pos (by omega)];rfl]
 refine l1 (uC rfl) rfl rfl rfl ?_
 refine bL ?_
 refine ur ?_
 exact cn rfl rfl ⟨rfl,H.below⟩
 refine bL ?_
 refine eS rfl ?_
 refine jl ?_
 refine bD ?_
 refine ba ?_
 refine l1 (eM rfl) rfl rfl rfl ?_
 refine l1 (Oy rfl rfl (by omega) (by omega)) rfl rfl rfl ?_
 refine l1 (eM rfl) rfl rfl rfl ?_
 refine l1 (Oy rfl rfl (by omega) (by omega)) rfl rfl rfl ?_
 refine l1 (bn rfl rfl (by omega) (by omega)) rfl rfl rfl ?_
 refine l1 (Oo (s:=OR) HY rfl rfl rfl (by omega) (by omega) (by show _<=(200:Int);omega)) rfl rfl rfl ?_
 rw[show OR.extract (((n:Nat):Int)*2).toNat (((n:Nat):Int)*2+2).toNat=gZ n by unfold gZ;rw[if_neg (by omega)];congr 1<;>omega]
 refine l1 (uC rfl) rfl rfl rfl ?_
 refine bL ?_
 refine ur ?_
 exact cn rfl rfl ⟨rfl,H.below⟩
theorem Eh (n:Nat) (w:World) (hn:n<100):dt aa pf [.int .i64 (n:Nat),.int .i64 10] w fun v w2=>v=.string (gZ n)/\Below w.heap.size w w2:=by
 refine aG oz rfl rfl ?_
 have H:=Hp.start w
 refine bD ?_
 refine ba ?_
 refine l1 (uC rfl) rfl rfl rfl ?_
 refine bL ?_
 refine bD ?_
 refine bD ?_
 refine ba ?_
 refine l1 (eM rfl) rfl rfl rfl ?_
 refine l1 (rP rfl rfl rfl) rfl rfl rfl ?_
 refine bL ?_
 refine gL rfl ?_
 refine bD ?_
 refine bD ?_
 refine ba ?_
 refine l1 (eM rfl) rfl rfl rfl ?_
 refine l1 (Pc rfl rfl (by omega)) rfl rfl rfl ?_
 refine l1 (Af rfl) rfl rfl rfl ?_
 refine qg rfl ?_
 refine l1 (eM rfl) rfl rfl rfl ?_
 refine qg rfl ?_
 refine l1 (v7 rfl rfl (by omega)) rfl rfl rfl ?_
 refine l1 (GW rfl rfl) rfl rfl rfl ?_
 refine bL ?_
 refine gL rfl ?_
 refine bD ?_
 refine ba ?_
 refine l1 (eM rfl) rfl rfl rfl ?_
 refine cz qO (KY n _ hn) rfl rfl ?_
 rintro _ w1 ⟨rfl,hb⟩;replace H:=H.later hb;clear hb
 refine l1 (uC rfl) rfl rfl rfl ?_
 refine bL ?_
 refine ur ?_
 exact cn rfl rfl ⟨rfl,H.below⟩
theorem LZ (n:Nat) (w:World) (hn:n<100):dt aa sk [.int .i64 (n:Nat)] w fun v w2=>v=.string (gZ n)/\Below w.heap.size w w2:=by
 refine aG rJ rfl rfl ?_
 have H:=Hp.start w
 refine bD ?_
 refine ba ?_
 refine l1 (uC rfl) rfl rfl rfl ?_
 refine bL ?_
 refine bD ?_
 refine ba ?_
 refine l1 (eM rfl) rfl rfl rfl ?_
 refine cz oN (Eh n _ hn) rfl rfl ?_
 rintro _ w1 ⟨rfl,hb⟩;replace H:=H.later hb;clear hb
 refine l1 (uC rfl) rfl rfl rfl ?_
 refine bL ?_
 refine ur ?_
 exact cn rfl rfl ⟨rfl,H.below⟩
theorem D1 (n:Nat) (w:World) (hn:n<100):dt aa AI [.int .i64 (n:Nat)] w fun v w2=>v=.string (gZ n)/\Below w.heap.size w w2:=by
 refine aG zh rfl rfl ?_
 have H:=Hp.start w
 refine bD ?_
 refine ba ?_
 refine l1 (uC rfl) rfl rfl rfl ?_
 refine bL ?_
 refine bD ?_
 refine ba ?_
 refine l1 (eM rfl) rfl rfl rfl ?_
 refine cz rT (LZ n _ hn) rfl rfl ?_
 rintro _ w1 ⟨rfl,hb⟩;replace H:=H.later hb;clear hb
 refine l1 (uC rfl) rfl rfl rfl ?_
 refine bL ?_
 refine ur ?_
 exact cn rfl rfl ⟨rfl,H.below⟩
theorem vX (a:Int) (n:Nat) (w:World) (h1: -9223372036854775808<=a) (h2:a<=9223372036854775807) (hn:0<n) (hn2:n<=1000):dt aa tO [.int .i64 a,.int .i64 (n:Nat)] w fun v w2=>v=.int .i64 (pk a n:Nat)/\Below w.heap.size w w2:=by
 refine aG s7 rfl rfl ?_
 have H:=Hp.start w
 refine bD ?_
 refine ba ?_
 refine l1 (pz rfl) rfl rfl rfl ?_
 refine bL ?_
 refine bD ?_
 refine ba ?_
 refine l1 (eM rfl) rfl rfl rfl ?_
 refine l1 (eM rfl) rfl rfl rfl ?_
 refine cz fT (r8 a n _ h1 h2 hn (by omega)) rfl rfl ?_
 rintro _ w1 ⟨rfl,hb⟩;replace H:=H.later hb;clear hb
 refine l1 (pz rfl) rfl rfl rfl ?_
 refine bL ?_
 refine ur ?_
 exact cn rfl rfl ⟨rfl,H.below⟩
section
/-! where nothing crashes -/
structure Cm (p:fX):Prop where
 ld:p.leader= -1∨p.leader=0
 isr: ∀ b∈p.isr,b=true
 up: ∀ x∈p.reps,x.up=true
def Pd (Nn:Int) (p:fX):Prop:= ∀ x∈p.reps,∀ e∈x.es,e.pid<Nn
theorem Pd.mono {Nn M:Int} {p:fX} (h:Pd Nn p) (hm:Nn<=M):Pd M p:=fun x hx e he=>by have:=h x hx e he;omega
theorem IR {p:fX} {x:RA} (h:x∈(mW p).reps): ∃ y∈p.reps,x.es=y.es/\x.s=y.s/\x.up=y.up:=by
 obtain⟨i,hi⟩:=aM.1 h
 obtain⟨y,hy,h1⟩:=xC hi
 exact⟨y,ab hy,h1⟩
theorem Cm.adv {p:fX} (h:Cm p):Cm (mW p):=by
 obtain⟨-,-,-,h4,h5,-⟩:=xB (p:=p)
 exact⟨by rw[h4];exact h.ld,by rw[h5];exact h.isr,fun x hx=>by
  obtain⟨y,hy,-,-,hu⟩:=IR hx
  rw[hu];exact h.up y hy⟩
theorem Pd.adv {Nn:Int} {p:fX} (h:Pd Nn p):Pd Nn (mW p):=fun x hx e he=>by
 obtain⟨y,hy,hes,-,-⟩:=IR hx
 rw[hes]at he
 exact h y hy e he
theorem Cm.set {p:fX} (h:Cm p) {r:Nat} {x:RA} (hx:x.up=true):Cm {p with reps:=p.reps.set r x}:=⟨h.ld,h.isr,fun y hy=>by
 rcases aC hy with hy|rfl
 exact h.up y hy
 exact hx⟩
theorem Pd.set {Nn:Int} {p:fX} (h:Pd Nn p) {r:Nat} {x:RA} (hx: ∀ e∈x.es,e.pid<Nn):Pd Nn {p with reps:=p.reps.set r x}:=fun y hy e he=>by
 rcases aC hy with hy|rfl
 exact h y hy e he
 exact hx e he
theorem O2 {Nn:Int} {p:fX} {e:cv} (h:Cm p) (hd:Pd Nn p) (he:e.pid<Nn) (h0:(ek p e).2.2=0):Cm (ek p e).1/\Pd Nn (ek p e).1/\(ek p e).1.leader=p.leader:=by
 obtain⟨x,l,hl,hx,-,-,hS⟩:=DN h0
 have hm:=ab hx
 rcases hS with⟨-,hS,-⟩|⟨-,-,hS,-⟩
 rw[hS];exact⟨h,hd,rfl⟩
 rw[hS]
 exact⟨h.set (h.up x hm),hd.set fun y hy=>by
  rcases aq.1 hy with hy|hy
  exact hd x hm y hy
  rw[ar.1 hy];exact he,rfl⟩
theorem Ni {Nn:Int} {p:fX} {a:Act} (hok:p.ok) (h:Cm p) (hd:Pd Nn p) (hk:a.kind=8∨a.kind=9) (h0:(jd p a).2.2=0):Cm (jd p a).1/\Pd Nn (jd p a).1/\(jd p a).1.leader=p.leader:=by
 unfold jd at h0⊢
 rcases hk with hk|hk
 rw[if_pos hk]at h0⊢
 obtain⟨x,y,l,hx,hl,hne,hu,hy⟩:=yo hok h0
 rw[p9 hx hl hne hu hy]
 have hmx:=ab hx
 have hmy:=ab hy
 refine⟨⟨h.ld,h.isr,fun z hz=> ?_⟩,fun z hz e he=> ?_,rfl⟩
 rcases aC hz with hz|rfl
 rcases aC hz with hz|rfl
 exact h.up z hz
 exact h.up y hmy
 unfold ic;split<;>exact hu
 rcases aC hz with hz|rfl
 rcases aC hz with hz|rfl
 exact hd z hz e he
 exact hd y hmy e he
 unfold ic at he
 split at he
 rename_i z hz
 rcases aq.1 he with he|he
 exact hd x hmx e (qE _ _ he)
 rw[ar.1 he];exact hd y hmy z (ab hz)
 exact hd x hmx e (qE _ _ he)
 rw[if_neg I,if_pos hk]at h0⊢
 obtain⟨x,hx,hu,hS⟩:=zU h0
 dsimp only at hS⊢
 rw[hS]
 have hmx:=ab hx
 have c1:Cm {p with reps:=p.reps.set a.n.toNat {x with s:=x.es.length}}:=h.set hu
 have c2:Pd Nn {p with reps:=p.reps.set a.n.toNat {x with s:=x.es.length}}:=hd.set (hd x hmx)
 split
 refine⟨Cm.adv ⟨c1.ld,c1.isr,c1.up⟩,Pd.adv c2,?_⟩
 rw[xB.2.2.2.1]
 exact⟨c1,c2,rfl⟩
theorem LL (c:Co) (i:Nat) (t:Tx):(qc c i t).next=c.next:=rfl
theorem C5 {k:Nat} {c:Co} {s:ByteArray} (h:oW k c) (h0:(bw c s).2.2.2=0):c.next<=(bw c s).1.next/\(bw c s).2.1<(bw c s).1.next/\0<(bw c s).2.1:=by
 have hn:1<=c.next:=(f0.1 h.ok).1.2.1
 unfold bw at h0⊢
 split
 rename_i hf
 rw[hf]at h0
 dsimp only at h0
 split at h0
 cases h0
 rename_i hl
 rw[if_neg hl]
 unfold mQ
 dsimp only
 omega
 rename_i i t hf
 rw[hf]at h0
 dsimp only at h0
 split at h0
 cases h0
 rename_i hl
 rw[if_neg hl]
 have:=ce.1 (h.at_ (gj hf).2.1)
 dsimp only
 rw[LL]
 omega
theorem MS {c:Co} {s:ByteArray} {ver p:Int} (h0:(mX c s ver p).2=0):(mX c s ver p).1.next=c.next:=by
 unfold mX at h0⊢
 split
 rename_i hf;rw[hf]at h0;cases h0
 rename_i i t hf
 rw[hf]at h0
 dsimp only at h0
 split at h0
 cases h0
 rename_i c1
 rw[if_neg c1]
 split at h0
 rename_i c2;rw[if_pos c2];rfl
 cases h0
theorem FZ {c:Co} {s:ByteArray} {ver:Int} {b:Bool} (h0:(jp c s ver b).2=0):(jp c s ver b).1.next=c.next:=by
 unfold jp at h0⊢
 split
 rename_i hf;rw[hf]at h0;cases h0
 rename_i i t hf
 rw[hf]at h0
 dsimp only at h0
 split at h0
 cases h0
 rename_i c1
 rw[if_neg c1]
 split at h0
 cases h0
 rfl
theorem J3 {c:Co} {s:ByteArray} {p:Int} (h0:(oI c s p).2=0):(oI c s p).1.next=c.next:=by
 unfold oI at h0⊢
 split
 rename_i hf;rw[hf]at h0;cases h0
 rename_i i t hf
 rw[hf]at h0
 dsimp only at h0
 split at h0
 rename_i c1
 rw[if_pos c1]
 split at h0
 rename_i c2;rw[if_pos c2];rfl
 cases h0
 cases h0
theorem I6 {c:Co} {n:Int} (h0:(ig c n).2=0):(ig c n).1.next=c.next:=by
 unfold ig at h0⊢
 split at h0
 cases h0
 rename_i c1;rw[if_neg c1];rfl
structure Gw (Nn:Int) (s:Sn):Prop where
 pid:0<=s.pid/\s.pid<Nn
 last: ∀ e∈s.last,e.pid<Nn
theorem Gw.mono {Nn M:Int} {s:Sn} (h:Gw Nn s) (hm:Nn<=M):Gw M s:=⟨by have:=h.pid;omega,fun e he=>by have:=h.last e he;omega⟩
structure BH (P:ByteArray->Prop) (wt:Int) (w:Wa):Prop where
 ps: ∀ p∈w.ps,Cm p/\Pd w.co.next p
 sns: ∀ s∈w.sns,Gw w.co.next s
 co:wE P wt w.co
def Ld (w w':Wa):Prop:= ∀ (n:Nat) (p:fX),w.ps[n]? =some p->p.leader=0-> ∃ p',w'.ps[n]? =some p'/\p'.leader=0
theorem Ld.refl (w:Wa):Ld w w:=fun _ p h1 h2=>⟨p,h1,h2⟩
theorem Ld.trans {a b c:Wa} (h:Ld a b) (h':Ld b c):Ld a c:=fun n p h1 h2=>by
 obtain⟨p',h3,h4⟩:=h n p h1 h2
 exact h' n p' h3 h4
theorem Ld.ps {w w':Wa} (h:w'.ps=w.ps):Ld w w':=fun n p h1 h2=>⟨p,by rw[h];exact h1,h2⟩
theorem BH.co' {P:ByteArray->Prop} {wt:Int} {w:Wa} (h:BH P wt w) {c:Co} (hn:w.co.next<=c.next) (hc:wE P wt c):BH P wt {w with co:=c}:=⟨fun p hp=>⟨(h.ps p hp).1,(h.ps p hp).2.mono hn⟩,fun s hs=>(h.sns s hs).mono hn,hc⟩
theorem BH.sns' {P:ByteArray->Prop} {wt:Int} {w:Wa} (h:BH P wt w) {l:List Sn} (hl: ∀ s∈l,Gw w.co.next s):BH P wt {w with sns:=l}:=⟨h.ps,hl,h.co⟩
theorem BH.part {P:ByteArray->Prop} {wt:Int} {w:Wa} (h:BH P wt w) {n:Nat} {p:fX} (hc:Cm p/\Pd w.co.next p):BH P wt {w with ps:=w.ps.set n p}:=⟨fun q hq=>by
 rcases aC hq with hq|rfl
 exact h.ps q hq
 exact hc,h.sns,h.co⟩
theorem Hg {w:Wa} {n:Nat} {p p':fX} (hp:w.ps[n]? =some p) (hl:p.leader=0->p'.leader=0):Ld w {w with ps:=w.ps.set n p'}:=fun i q h1 h2=>by
 by_cases hi:n=i
 subst hi
 rw[hp]at h1;cases h1
 exact⟨p',am (cu hp).1,hl h2⟩
 exact⟨q,by show(w.ps.set n p')[i]? =_;rw[aV hi];exact h1,h2⟩
theorem Ik {P:ByteArray->Prop} {wt:Int} {w:Wa} (h:BH P wt w) {n:Nat} {x:cv} (hx:x.pid<w.co.next):BH P wt (lG w n x).1/\Ld w (lG w n x).1/\(lG w n x).1.co=w.co:=by
 unfold lG
 split
 exact⟨h,Ld.refl w,rfl⟩
 rename_i p hp
 split
 rename_i h0
 obtain⟨h1,h2⟩:=h.ps p (ab hp)
 obtain⟨g1,g2,g3⟩:=O2 h1 h2 hx h0
 exact⟨h.part ⟨g1,g2⟩,Hg hp (fun hl=>g3.trans hl),rfl⟩
 exact⟨h,Ld.refl w,rfl⟩
theorem HC {P:ByteArray->Prop} {wt:Int} {w:Wa} (h:BH P wt w) {s:Sn} (hs:Gw w.co.next s) {n:Nat}:BH P wt (dL w s n).1/\Ld w (dL w s n).1:=by
 unfold dL
 split
 exact⟨h,Ld.refl w⟩
 rename_i x hx
 have hxp:=hs.last x (ab hx)
 split
 rename_i h0
 have hn:(nV w s n x).1.next=w.co.next/\wE P wt (nV w s n x).1:=by
  unfold nV at h0⊢
  split
  rename_i ht
  rw[if_pos ht]at h0
  exact⟨MS h0,h.co.add h0⟩
  exact⟨rfl,h.co⟩
 have h1:=h.co' (c:=(nV w s n x).1) I hn.2
 obtain⟨g1,g2,-⟩:=Ik h1 (n:=n) (x:=x) (by show x.pid<(nV w s n x).1.next;omega)
 exact⟨g1,(Ld.ps Z).trans g2⟩
 exact⟨h,Ld.refl w⟩
theorem LM {Nn:Int} {s:Sn} (h:Gw Nn s) (n:Nat) (t:ByteArray):Gw Nn (eF s n t):=⟨h.pid,fun e he=>by
 rcases aC he with he|rfl
 exact h.last e he
 exact h.pid.2⟩
theorem If {Nn:Int} {l:List Sn} {i:Nat} {s:Sn} (h: ∀ x∈l,Gw Nn x) (hs:Gw Nn s): ∀ x∈l.set i s,Gw Nn x:=fun x hx=>by
 rcases aC hx with hx|rfl
 exact h x hx
 exact hs
theorem Np {Nn:Int} {l:List Sn} {s:Sn} (h: ∀ x∈l,Gw Nn x) (hs:Gw Nn s): ∀ x∈vt l s,Gw Nn x:=by
 unfold vt
 split
 intro x hx
 rcases aq.1 hx with hx|hx
 exact h x hx
 rw[ar.1 hx];exact hs
 exact If h hs
theorem Nk {n:Nat} {e:cv} (h:e∈ap n jJ):e=jJ:=cS h
variable {np nr k:Nat} {few wt wt':Int} {K:Nat->List cv} {P:ByteArray->Prop} {w:Wa} {a:Act}
theorem MW (hw:WI np nr few wt k K w) (h:BH P wt' w) (g:nc np nr a) (hk:a.kind<=9∨16<=a.kind) (hP:a.kind=1->P a.name) {w':Wa} {x:An} (hA:rW w a w' x):BH P wt' w'/\Ld w w':=by
 cases hA with
 |poll x h19 hp=>exact⟨h,Ld.refl w⟩
 |other h19=>
  unfold j8
  split
  rename_i c
  unfold mI
  split
  rename_i h0
  obtain⟨n1,n2,n3⟩:=C5 hw.co h0
  have h1:=h.co' n1 (h.co.init (hP c) h0)
  refine⟨h1.sns' (Np h1.sns ⟨⟨?_,n2⟩,fun e he=> ?_⟩),Ld.ps Z⟩
  show 0<=(bw w.co a.name).2.1;omega
  rw[Nk he]
  show(0:Int)<(bw w.co a.name).1.next
  omega
  exact⟨h,Ld.refl w⟩
  split
  unfold kG
  split
  exact⟨h,Ld.refl w⟩
  rename_i i s hf
  split
  exact⟨h,Ld.refl w⟩
  have hs:=h.sns s (ab (uX hf).1)
  exact⟨h.sns' (If h.sns (s:={s with inn:=true}) ⟨hs.pid,hs.last⟩),Ld.ps Z⟩
  split
  unfold gY
  split
  exact⟨h,Ld.refl w⟩
  rename_i i s hf
  split
  exact⟨h,Ld.refl w⟩
  have hs:=h.sns s (ab (uX hf).1)
  have hs1:Gw w.co.next (if(decide (a.kind=4))=true then s else eF s a.part.toNat a.text):=by
   split
   exact hs
   exact LM hs _ _
  generalize (if(decide (a.kind=4))=true then s else eF s a.part.toNat a.text)=s1 at hs1
  have h1:=h.sns' (If (i:=i) h.sns hs1)
  dsimp only
  split
  exact⟨h1,Ld.ps Z⟩
  obtain⟨g1,g2⟩:=HC h1 hs1 (n:=a.part.toNat)
  exact⟨g1,(Ld.ps Z).trans g2⟩
  split
  unfold jC
  split
  exact⟨h,Ld.refl w⟩
  rename_i i s hf
  split
  exact⟨h,Ld.refl w⟩
  split
  exact⟨h,Ld.refl w⟩
  split
  rename_i h0
  have hs:=h.sns s (ab (uX hf).1)
  have h1:=h.co' (by rw[FZ h0];exact ff _) (h.co.end_ h0)
  have hN:(1:Int)<=w.co.next:=(f0.1 hw.co.ok).1.2.1
  refine⟨h1.sns' ?_,Ld.ps Z⟩
  split
  refine If h1.sns ?_
  show Gw (jp w.co s.name s.ver (decide (a.n=1))).1.next (tc s)
  rw[FZ h0]
  refine⟨hs.pid,fun e he=> ?_⟩
  unfold tc at he
  obtain⟨y,hy,rfl⟩:=bS.1 he
  split
  show(0:Int)<w.co.next;omega
  exact hs.last y hy
  exact h1.sns
  exact⟨h,Ld.refl w⟩
  split
  unfold nh
  split
  exact⟨h,Ld.refl w⟩
  rename_i t ht
  obtain⟨⟨i,hf⟩,h34,hp,h0,h4⟩:=xZ hw.co.ok ht
  have htp:=(ce.1 (hw.co.at_ (gj hf).2.1)).2.2.1
  obtain⟨g1,g2,g3⟩:=Ik h (n:=(t.parts.headD 0).toNat) (x:=df t) htp
  split
  have hz:=Bl hf h34 hp
  exact⟨g1.co' (by rw[J3 hz,g3];exact ff _) (h.co.done hz),g2.trans (Ld.ps Z)⟩
  exact⟨g1,g2⟩
  split
  unfold wJ
  have hz:(ig w.co a.n).2=0:=by unfold ig;rw[if_neg (by have:=g.n;omega)]
  have h1:=h.co' (by rw[I6 hz];exact ff _) (h.co.tick hz)
  exact⟨⟨h1.ps,h1.sns,h1.co⟩,Ld.ps Z⟩
  split
  rename_i c1 c2 c3 c4 c5 c6 c7
  unfold mD
  split
  exact⟨h,Ld.refl w⟩
  rename_i p hp
  split
  rename_i h0
  obtain⟨h1,h2⟩:=h.ps p (ab hp)
  have:=g.kind
  obtain⟨g1,g2,g3⟩:=Ni (hw.ps.gt _ p hp).1.ok h1 h2 I h0
  exact⟨h.part ⟨g1,g2⟩,Hg hp (fun hl=>g3.trans hl)⟩
  exact⟨h,Ld.refl w⟩
  unfold Ar
  split
  exact⟨⟨h.ps,h.sns,h.co⟩,Ld.ps Z⟩
  exact⟨h,Ld.refl w⟩
end
section
theorem Ok: ∀ (bs:List Bool) (ys:List RA) (n:Int),n<=Gv bs ys n
 |[],_,n=>by unfold Gv;exact ff _
 |_::_,[],n=>by unfold Gv;exact ff _
 |b::bs,y::ys,n=>by
  unfold Gv
  have:=Ok bs ys (if(b&&y.up)=true then n+1 else n)
  split at this<;>split<;>first|omega|contradiction
theorem OM {p:fX} (hok:p.ok) (h:Cm p):1<=Gv p.isr p.reps 0:=by
 have h1:=hok.n1
 have h2:=hok.isrl
 cases hi:p.isr with
 |nil=>rw[hi]at h2;simp at h2;omega
 |cons b bs=>
  cases hr:p.reps with
  |nil=>rw[hr]at h1;simp at h1
  |cons y ys=>
   have hb:=h.isr b (by rw[hi];exact az ..)
   have hy:=h.up y (by rw[hr];exact az ..)
   unfold Gv
   rw[hb,hy]
   exact Ok bs ys 1
theorem Lj {p:fX} {x:RA} {e:cv} (hok:p.ok) (hc:Cm p) (hl:p.leader=0) (hf:p.few=1) (hx:p.reps[0]? =some x) (hg:nW {e with epoch:=p.epoch}) (hv:(fi x.es {e with epoch:=p.epoch}).2=0):ek p e=if 0<=(fi x.es {e with epoch:=p.epoch}).1 then(p,(fi x.es {e with epoch:=p.epoch}).1,0)else({p with reps:=p.reps.set 0 {x with es:=x.es++[{e with epoch:=p.epoch}]}},(x.es.length:Nat),0):=by
 unfold ek
 rw[if_neg I,show p.leader.toNat=0 by omega,hx]
 dsimp only
 rw[if_neg (fun h=>h hg),if_neg (fun h=>h hv)]
 have:=OM hok hc
 rw[if_neg (show¬ Gv p.isr p.reps 0<p.few by omega)]
theorem CQ {l:List Sn} {s:ByteArray} {i:Nat} {x:Sn} (h:eK l s=some i) (hn:x.name=s):eK (l.set i x) s=some i:=by
 obtain⟨hl,h1,h2⟩:=aP.1 h
 unfold eK
 rw[aP]
 refine⟨by simpa using hl,by simp[hn],fun j hj=> ?_⟩
 rw[List.getElem_set_ne I]
 exact h2 j hj
theorem Ll (l:List Sn) (s:Sn): ∃ i,eK (vt l s) s.name=some i/\(vt l s)[i]? =some s:=by
 unfold vt
 split
 rename_i hf
 refine⟨l.length,?_,by simp⟩
 unfold eK at hf⊢
 rw[List.findIdx?_append,hf]
 simp[List.findIdx?_cons]
 rename_i i hf
 obtain⟨hl,h1,h2⟩:=aP.1 hf
 exact⟨i,CQ hf Z,am hl⟩
theorem Hu {es:List cv} {e:cv} (h0:e.pid≠0) (hf:fO es e.pid=none) (hk:e.kind=1) (hs:e.seq=0):fi es e=(-1,0):=by
 unfold fi mt
 rw[if_neg h0,hf]
 simp[hk,hs]
theorem JA {es:List cv} {e:cv} {p:Prod} (h0:e.pid≠0) (hf:fO es e.pid=some p) (hk:e.kind=1) (hv:p.ver=e.ver) (hs:e.seq=p.seq+1):fi es e=(-1,0):=by
 unfold fi mt
 rw[if_neg h0,hf]
 simp[hk,hs,hv]
theorem Lu {es:List cv} {e:cv} (h0:e.pid≠0) (hk:e.kind=1): ∃ p,fO (es++[e]) e.pid=some p/\p.ver=e.ver/\p.seq=e.seq:=by
 refine⟨_,by rw[qd,if_pos ⟨h0,rfl⟩],?_⟩
 unfold fj
 rw[if_neg (fun h=>h hk)]
 have:(pv e ((fO es e.pid).getD p0)).ver=e.ver:=by
  unfold pv
  split
  rfl
  rename_i h;exact(Classical.not_not.1 h).symm
 split<;>exact⟨this,rfl⟩
theorem JG {es:List cv} {e:cv} (h:tW (es++[e])) (h0:e.pid≠0) (hk:e.kind=1):fi (es++[e]) e=(((es.length:Nat):Int),0):=by
 refine GC h (by simp) h0 ?_ hk
 unfold later
 rw[show(es++[e]).drop es.length=[e] by simp]
 simp
structure At (s:ByteArray) (w:Wa) (i:Nat) (x:Sn):Prop where
 ix:eK w.sns s=some i
 sn:w.sns[i]? =some x
 nm:x.name=s
theorem At.find {s:ByteArray} {w:Wa} {i:Nat} {x:Sn} (h:At s w i x):((eK w.sns s).bind fun i=>w.sns[i]?.map fun s=>(i,s))=some (i,x):=by
 rw[h.ix,fy,h.sn];rfl
theorem At.set {s:ByteArray} {w:Wa} {i:Nat} {x y:Sn} (h:At s w i x) (hn:y.name=s):At s {w with sns:=w.sns.set i y} i y:=⟨CQ h.ix hn,am (cu h.sn).1,hn⟩
theorem At.of {s:ByteArray} {w w':Wa} {i:Nat} {x:Sn} (h:At s w i x) (hs:w'.sns=w.sns):At s w' i x:=⟨by rw[hs];exact h.ix,by rw[hs];exact h.sn,h.nm⟩
structure P0 (w:Wa) (p:fX) (x:RA):Prop where
 pt:w.ps[0]? =some p
 ld:p.leader=0
 rp:p.reps[0]? =some x
variable {np nr k:Nat} {wt:Int} {K:Nat->List cv} {P:ByteArray->Prop} {w:Wa} {p:fX} {x:RA} {e:cv}
theorem Nm (hw:WI np nr 1 wt k K w) (hc:BH P wt w) (h:P0 w p x) (hg:nW {e with epoch:=p.epoch}) (hv:fi x.es {e with epoch:=p.epoch}=(-1,0)):lG w 0 e=({w with ps:=w.ps.set 0 {p with reps:=p.reps.set 0 {x with es:=x.es++[{e with epoch:=p.epoch}]}}},⟨0,(x.es.length:Nat),[]⟩):=by
 have hgt:=hw.ps.gt 0 p h.pt
 have hp:=Lj (e:=e) hgt.1.ok (hc.ps p (ab h.pt)).1 h.ld hgt.1.few h.rp hg (by rw[hv])
 rw[hv,if_neg (by decide)]at hp
 unfold lG
 rw[h.pt]
 dsimp only
 rw[hp,if_pos Z]
theorem No (hw:WI np nr 1 wt k K w) (hc:BH P wt w) (h:P0 w p x) (hg:nW {e with epoch:=p.epoch}) {j:Nat} (hv:fi x.es {e with epoch:=p.epoch}=(((j:Nat):Int),0)):lG w 0 e=(w,⟨0,(j:Nat),[]⟩):=by
 have hgt:=hw.ps.gt 0 p h.pt
 have hp:=Lj (e:=e) hgt.1.ok (hc.ps p (ab h.pt)).1 h.ld hgt.1.few h.rp hg (by rw[hv])
 rw[hv,if_pos (by simp)]at hp
 unfold lG
 rw[h.pt]
 dsimp only
 rw[hp,if_pos Z]
 have:w.ps.set 0 p=w.ps:=by
  apply ei
  intro i
  by_cases hi:0=i
  subst hi
  rw[am (cu h.pt).1];exact h.pt.symm
  rw[aV hi]
 rw[this]
theorem P0.put (h:P0 w p x) (y:RA):P0 {w with ps:=w.ps.set 0 {p with reps:=p.reps.set 0 y}} {p with reps:=p.reps.set 0 y} y:=⟨am (cu h.pt).1,h.ld,am (cu h.rp).1⟩
theorem Ci {s:Sn} (hl:s.last[0]? =some e) (ht:e.txn=false):dL w s 0=lG w 0 e:=by
 unfold dL
 rw[hl]
 dsimp only
 have:nV w s 0 e=(w.co,0):=by unfold nV;rw[if_neg (by rw[ht];decide)]
 rw[this,if_pos Z]
theorem z4 {a:Act} {i:Nat} {s:Sn} (h:At a.name w i s) (h0:a.part=0) (hl:a.lost≠1) {again:Bool} (hag:again=true->(s.last.getD 0 jJ).kind≠0) (he:(if again then s else eF s 0 a.text).last[0]? =some e) (ht:e.txn=false):
  gY w a again=((lG {w with sns:=w.sns.set i (if again then s else eF s 0 a.text)} 0 e).1,fJ a (lG {w with sns:=w.sns.set i (if again then s else eF s 0 a.text)} 0 e).2):=by
 unfold gY
 rw[h.find]
 dsimp only
 rw[h0,show(0:Int).toNat=0 from rfl,if_neg (fun hh=>hag hh.1 hh.2),if_neg hl]
 generalize (if again=true then s else eF s 0 a.text)=s1 at he⊢
 rw[Ci he ht]
end
theorem Jc {a b:Int} (ha:i64 a) (hb:i64 b): ∃ (np nr few:Nat) (wt:Int),1<=np/\np<=4/\1<=nr/\nr<=5/\1<=few/\few<=nr/\1<=wt/\wt<=1000/\ ∀ w:World,dt aa oo [J a,J b] w fun v w2=>v=.agg #[J (np:Nat),J (nr:Nat),J (few:Nat),J wt]/\Below w.heap.size w w2:=by
 obtain⟨h1,h2,h3,h4,h5,h6,h7,h8⟩:=@DL a b
 refine⟨1+pk a 3,1+pk b 3,1+pk a (1+pk b 3),5+(pk b 20:Nat),h1,h2,h3,h4,h5,h6,h7,by omega,fun w=>(K0 a b w ha hb).mono fun v w2 ⟨g1,g2⟩=>⟨?_,g2⟩⟩
 rw[g1,show((1+pk a 3:Nat):Int)=1+(pk a 3:Nat) by omega,show((1+pk b 3:Nat):Int)=1+(pk b 3:Nat) by omega,show((1+pk a (1+pk b 3):Nat):Int)=1+(pk a (1+pk b 3):Nat) by omega]
theorem Hp.rnPs {w0 w:World} {L:List (Nat×Obj)} {F:List cf} {lo hi:Nat} {r:Rn} (H:Hp w0 w L F) (i:Nat) (hF:F[i]? =some (PF lo hi r)):Hp w0 w L (d4 CV lo hi r.b.pA r.b.ps::F):=by
 refine⟨H.below,H.ents,H.nodup,fun f hf=> ?_⟩
 rcases av.1 hf with rfl|hf
 obtain⟨h1,h2,h3⟩:=H.facts _ (ab hF)
 exact⟨h1.ps,h2,h3⟩
 exact H.facts f hf
theorem Hp.rn0 {w0 w:World} {L:List (Nat×Obj)} {F:List cf} {lo hi:Nat} {r:Rn} (H:Hp w0 w L F) (i:Nat) (hF:F[i]? =some (PF lo hi r)):r.rd 0 w.heap.size w:=
 Rn.rd.mono (H.fact hF) (bx _) (H.facts _ (ab hF)).2.1
section
/-! what is sent again stands where it stood -/
def lg (t:ByteArray) (k d:Int):Act:=⟨k,P4,0,0,0,t,d⟩
def tX:ByteArray:=⟨#[120]⟩
def tY:ByteArray:=⟨#[121]⟩
variable {np nr k:Nat} {few wt wt':Int} {K:Nat->List cv} {P:ByteArray->Prop} {w:Wa} {p:fX} {x:RA} {e:cv}
theorem E8 (w:Wa) (l:List Sn) (n:Nat) (e:cv):lG {w with sns:=l} n e=({(lG w n e).1 with sns:=l},(lG w n e).2):=by
 unfold lG lF
 dsimp only
 split
 rfl
 split<;>rfl
theorem CN {s:Sn} {nm:ByteArray} (h:s.name=nm) (b:Bool) (n:Nat) (t:ByteArray):(if b then s else eF s n t).name=nm:=by cases b<;>exact h
theorem EZ {a:Act} {i:Nat} {s:Sn} {again:Bool} (hw:WI np nr 1 wt k K w) (hc:BH P wt w) (h:P0 w p x) (hs:At a.name w i s) (h0:a.part=0) (hl:a.lost≠1) (hag:again=true->(s.last.getD 0 jJ).kind≠0) (he:(if again then s else eF s 0 a.text).last[0]? =some e) (ht:e.txn=false) (hg:nW {e with epoch:=p.epoch}) (hv:fi x.es {e with epoch:=p.epoch}=(-1,0)):
  ∃ w',gY w a again=(w',fJ a ⟨0,(x.es.length:Nat),[]⟩)/\P0 w' {p with reps:=p.reps.set 0 {x with es:=x.es++[{e with epoch:=p.epoch}]}} {x with es:=x.es++[{e with epoch:=p.epoch}]}/\At a.name w' i (if again then s else eF s 0 a.text):=by
 have hs2:=hs.set (y:=if again then s else eF s 0 a.text) (CN hs.nm again 0 a.text)
 have hp2:=h.put {x with es:=x.es++[{e with epoch:=p.epoch}]}
 rw[z4 hs h0 hl hag he ht,E8,Nm hw hc h hg hv]
 exact⟨_,rfl,⟨hp2.pt,hp2.ld,hp2.rp⟩,⟨hs2.ix,hs2.sn,hs2.nm⟩⟩
theorem KQ {a:Act} {i j:Nat} {s:Sn} {again:Bool} (hw:WI np nr 1 wt k K w) (hc:BH P wt w) (h:P0 w p x) (hs:At a.name w i s) (h0:a.part=0) (hl:a.lost≠1) (hag:again=true->(s.last.getD 0 jJ).kind≠0) (he:(if again then s else eF s 0 a.text).last[0]? =some e) (ht:e.txn=false) (hg:nW {e with epoch:=p.epoch}) (hv:fi x.es {e with epoch:=p.epoch}=(((j:Nat):Int),0)):
  ∃ w',gY w a again=(w',fJ a ⟨0,(j:Nat),[]⟩)/\P0 w' p x/\At a.name w' i (if again then s else eF s 0 a.text):=by
 have hs2:=hs.set (y:=if again then s else eF s 0 a.text) (CN hs.nm again 0 a.text)
 rw[z4 hs h0 hl hag he ht,E8,No hw hc h hg hv]
 exact⟨_,rfl,⟨h.pt,h.ld,h.rp⟩,⟨hs2.ix,hs2.sn,hs2.nm⟩⟩
theorem Me {ep pid ver seq:Int} {t:ByteArray} (h1:0<=ep/\ep<=1073741824) (h2:0<pid/\pid<=1073741824) (h3:0<=ver/\ver<=1073741824) (h4:0<=seq/\seq<=1073741824) (ht:t.size<=40):nW ⟨ep,pid,ver,seq,1,false,t⟩:=by
 unfold nW eB
 rw[if_neg (by show¬ ((1:Int)<1∨3<(1:Int));decide),if_neg,if_neg (by simpa using ht),if_neg]
 unfold cv.noForm
 simp
 omega
 simp[cv.nums,iH]
 omega
theorem MA (hw:WI np nr few wt k K w) (h:BH P wt' w) {n:Nat} {w':Wa} {x:An} (hA:rW w (bI n) w' x):BH P wt' w'/\Ld w w'/\ ∀ q,w.ps[n]? =some q->q.epoch<1073741824-> ∃ q',w'.ps[n]? =some q'/\q'.leader=0:=by
 cases hA with
 |poll x h19 hp=>exact absurd h19 (by show¬ ((13:Int)=19);decide)
 |other h19=>
  have e1:j8 w (bI n)=mD w (bI n):=by simp[j8,bI]
  rw[e1]
  unfold mD
  have e2:(bI n).part.toNat=n:=by simp[bI]
  rw[e2]
  cases hq:w.ps[n]? with
  |none=>exact⟨h,Ld.refl w,fun q hq2=>by cases hq2⟩
  |some q=>
   have e3:jd q (bI n)=((fk q 0).1,0,(fk q 0).2):=by simp[jd,bI]
   dsimp only
   rw[e3]
   dsimp only
   obtain⟨hcm,hpd⟩:=h.ps q (ab hq)
   have hok:=(hw.ps.gt n q hq).1.ok
   obtain⟨y,hy⟩: ∃ y,q.reps[0]? =some y:=⟨_,ai hok.n1⟩
   have u0: ¬ y.up=false:=by rw[hcm.up y (ab hy)];decide
   have i0: ¬ q.isr[0]? =some false:=fun hh=>by have:=hcm.isr false (ab hh);cases this
   by_cases hl:q.leader=((0:Nat):Int)
   have e4:fk q 0=(mc,6):=by unfold fk;rw[hy];dsimp only;rw[if_neg u0,if_neg i0,if_pos hl]
   rw[e4]
   dsimp only
   rw[if_neg (by decide)]
   exact⟨h,Ld.refl w,fun q2 hq2 _=>⟨q2,hq.trans hq2,by cases hq2;simpa using hl⟩⟩
   by_cases h30:q.epoch=1073741824
   have e4:fk q 0=(mc,2):=by unfold fk;rw[hy];dsimp only;rw[if_neg u0,if_neg i0,if_neg hl,if_pos h30]
   rw[e4]
   dsimp only
   rw[if_neg (by decide)]
   exact⟨h,Ld.refl w,fun q2 hq2 he=>by cases hq2;omega⟩
   have e4:fk q 0=(mW {q with epoch:=q.epoch+1,leader:=((0:Nat):Int),known:=(ap q.reps.length 0).set 0 y.s,base:=y.es.length},0):=by unfold fk;rw[hy];dsimp only;rw[if_neg u0,if_neg i0,if_neg hl,if_neg h30]
   rw[e4]
   dsimp only
   rw[if_pos Z]
   have hc2:Cm {q with epoch:=q.epoch+1,leader:=((0:Nat):Int),known:=(ap q.reps.length 0).set 0 (y.s:Int),base:=y.es.length}:=⟨.inr Z,hcm.isr,hcm.up⟩
   have hp2:Pd w.co.next {q with epoch:=q.epoch+1,leader:=((0:Nat):Int),known:=(ap q.reps.length 0).set 0 (y.s:Int),base:=y.es.length}:=hpd
   refine⟨h.part ⟨hc2.adv,hp2.adv⟩,Hg hq fun _=> ?_,fun q2 hq2 _=>⟨_,am (cu hq).1,?_⟩⟩<;>rw[xB.2.2.2.1]<;>rfl
theorem uE {w w':Wa} {a:Act} {x:An} (h:rW w a w' x) (hk:a.kind≠19):w'=(j8 w a).1/\x=(j8 w a).2:=by
 cases h with
 |poll x h19 hp=>exact absurd h19 hk
 |other h19=>exact⟨rfl,rfl⟩
theorem xR {a:Act} {i:Nat} {s:Sn} (h:At a.name w i s) (h0:a.part=0) (hl:a.lost=1):gY w a false=({w with sns:=w.sns.set i (eF s 0 a.text)},⟨14,0,[]⟩):=by
 unfold gY
 rw[h.find]
 dsimp only
 rw[h0,show(0:Int).toNat=0 from rfl,if_neg (fun hh=>by cases hh.1),if_pos hl]
 rfl
theorem Gn (w:Wa) (d:Int) (t:ByteArray):j8 w (lg t 3 d)=gY w (lg t 3 d) false:=by simp[j8,lg]
theorem Kn (w:Wa) (d:Int) (t:ByteArray):j8 w (lg t 4 d)=gY w (lg t 4 d) true:=by simp[j8,lg]
theorem MQ {k d:Int} {t:ByteArray} (hp:1<=np) (hk:k=1∨k=3∨k=4) (hd:0<=d/\d<=2) (ht:t.size<=40):nc np nr (lg t k d):=by
 refine⟨?_,fun _=>by show bo P4=true;decide,?_,?_,?_,?_,?_,?_,ht,hd⟩
 show 1<=k/\k<=20/\k≠17/\(k<=9∨k=13∨16<=k);omega
 show(0:Int)<=0/\(0:Int)<np;omega
 show(0:Int)<=0/\(0:Int)<=1000;omega
 show 8<=k->_;omega
 show k=5->_;omega
 show k=19->_;omega
 show(0:Int)<=0/\(0:Int)<=1000;omega
structure Cw (np nr k:Nat) (wt:Int) (w:Wa):Prop where
 wi: ∃ K,WI np nr 1 wt k K w
 cm:BH (fun _=>True) wt w
theorem Cw.act (h:Cw np nr k wt w) (hk:k<400) (h4:np<=4) {t:ByteArray} {kd d:Int} (hp:1<=np) (hkd:kd=1∨kd=3∨kd=4) (hd:0<=d/\d<=2) (ht:t.size<=40) {w':Wa} {x:An} (hA:rW w (lg t kd d) w' x):Cw np nr (k+1) wt w':=by
 obtain⟨K,hw⟩:=h.wi
 have g:nc np nr (lg t kd d):=MQ hp hkd hd ht
 obtain⟨K1,-,i1⟩:=EL hw I h4 g hA
 exact⟨⟨K1,i1⟩,(MW hw h.cm g (.inl (by show kd<=9;omega)) (fun _=>trivial) hA).1⟩
structure Dw (np nr k:Nat) (wt:Int) (w:Wa) (p:fX) (x:RA) (i:Nat) (s:Sn):Prop where
 cw:Cw np nr k wt w
 p0:P0 w p x
 at_:At P4 w i s
theorem Dw.sent {i:Nat} {s:Sn} (h:Dw np nr k wt w p x i s):tW x.es:=by
 obtain⟨K,hw⟩:=h.cw.wi
 exact(hw.ps.gt 0 p h.p0.pt).2 0 x h.p0.rp
theorem Dw.ep {i:Nat} {s:Sn} (h:Dw np nr k wt w p x i s):0<=p.epoch/\p.epoch<=1073741824:=by
 obtain⟨K,hw⟩:=h.cw.wi
 exact⟨(hw.ps.gt 0 p h.p0.pt).1.ok.ep0,(hw.ps.gt 0 p h.p0.pt).1.ok.ep1⟩
theorem Dw.new {i:Nat} {s:Sn} (h:Dw np nr k wt w p x i s) (hk:k<400) (h4:np<=4) (hp:1<=np) {t:ByteArray} {kd d:Int} (hkd:kd=3∨kd=4) (hd:d=0∨d=2) (ht:t.size<=40) {w':Wa} {y:An} (hA:rW w (lg t kd d) w' y)
  (hag:kd=4->(s.last.getD 0 jJ).kind≠0) {e:cv} (he:(if decide (kd=4)then s else eF s 0 t).last[0]? =some e) (hx:e.txn=false) (hg:nW {e with epoch:=p.epoch}) (hv:fi x.es {e with epoch:=p.epoch}=(-1,0)):
  y=fJ (lg t kd d) ⟨0,(x.es.length:Nat),[]⟩/\ ∃ (p':fX) (x':RA),p'.epoch=p.epoch/\x'.es=x.es++[{e with epoch:=p.epoch}]/\Dw np nr (k+1) wt w' p' x' i (if decide (kd=4)then s else eF s 0 t):=by
 obtain⟨K,hw⟩:=h.cw.wi
 obtain⟨h1,h2⟩:=uE hA (by show¬ kd=19;omega)
 obtain⟨w2,e1,g1,g2⟩:=EZ (a:=lg t kd d) (again:=decide (kd=4)) hw h.cw.cm h.p0 h.at_ Z (by show¬ d=1;omega) (fun q=>hag (of_decide_eq_true q)) he hx hg hv
 have e2:j8 w (lg t kd d)=gY w (lg t kd d) (decide (kd=4)):=by rcases hkd with rfl|rfl;exact Gn w d t;exact Kn w d t
 rw[e2,e1]at h1 h2
 refine⟨h2,{p with reps:=p.reps.set 0 {x with es:=x.es++[{e with epoch:=p.epoch}]}},{x with es:=x.es++[{e with epoch:=p.epoch}]},rfl,rfl,h.cw.act hk h4 hp (.inr hkd) I ht hA,?_,?_⟩
 rw[h1];exact g1
 rw[h1];exact g2
theorem Dw.lost {i:Nat} {s:Sn} (h:Dw np nr k wt w p x i s) (hk:k<400) (h4:np<=4) (hp:1<=np) {w':Wa} {y:An} (hA:rW w (lg tY 3 1) w' y):y.code=14/\Dw np nr (k+1) wt w' p x i (eF s 0 tY):=by
 obtain⟨h1,h2⟩:=uE hA (by show¬ (3:Int)=19;decide)
 have hl:=xR (a:=lg tY 3 1) h.at_ Z Z
 rw[Gn,hl]at h1 h2
 have hs2:=h.at_.set (y:=eF s 0 tY) h.at_.nm
 refine⟨by rw[h2],h.cw.act hk h4 hp (.inr (.inl Z)) (by decide) (by decide) hA,?_,?_⟩
 rw[h1];exact⟨h.p0.pt,h.p0.ld,h.p0.rp⟩
 rw[h1];exact⟨hs2.ix,hs2.sn,hs2.nm⟩
theorem nx2 (hp:1<=np) (Nn:Int):(eF (eF (qT P4 Nn 0 np) 0 tX) 0 tY).last[0]? =some ⟨0,Nn,0,1,1,false,tY⟩:=by
 obtain⟨m,rfl⟩: ∃ m,np=m+1:=⟨np-1,by omega⟩
 simp[eF,qT,jY]
theorem IC {α:Type} {l:List α} {i:Nat} {a b:α} (h:l[i]? =some a):l.getD i b=a:=by simp[List.getD,h]
end
/-! rounds of syncs and fetches where nothing crashes -/
theorem Fy {c:Int}: ∀ (isr:List Bool) (kn:List Int) (m:Int),c<=m->(∀ v∈kn,c<=v)->c<=cW isr kn m
 |[],_,m,h,_=>by simpa [cW]using h
 |_::_,[],m,h,_=>by simpa [cW]using h
 |b::bs,n::ns,m,h,hv=>by
  unfold cW
  refine Fy bs ns _ ?_ fun v hv'=>hv v (aj _ hv')
  have:=hv n (az ..)
  split<;>omega
theorem As {L:List cv} {j:Nat} (h:j<=L.length):dR (L.take j) L=j:=by
 have h1:=(sg (L.take j) L).1
 have h2:=Au (a:=L.take j) (b:=L) (k:=j) (by rw[aF];omega) (by rw[dv,Nat.min_self])
 rw[aF]at h1
 omega
def nf (r:Nat):Act:=⟨9,⟨#[]⟩,0,r,0,⟨#[]⟩,0⟩
def jW (r:Nat):Act:=⟨8,⟨#[]⟩,0,r,0,⟨#[]⟩,0⟩
def ki (j:Nat):List Act:=(tI j).flatMap fun r=>[nf r,jW r]
def i8 (nr:Nat):Nat->List Act
 |0=>[]
 |t+1=>i8 nr t++ki nr
theorem s0 (j:Nat):ki (j+1)=ki j++[nf j,jW j]:=by simp[ki,List.range_succ]
theorem yg (j:Nat):(ki j).length=2*j:=by
 induction j with
 |zero=>rfl
 |succ j ih=>rw[s0,ax,ih];simp;omega
theorem ua (nr t:Nat):(i8 nr t).length=t*(2*nr):=by
 induction t with
 |zero=>simp[i8]
 |succ t ih=>rw[i8,ax,ih,yg,cN,f8]
structure Gx (L:List cv) (t j:Nat) (p:fX):Prop where
 cm:Cm p
 ld:p.leader=0
 zero: ∃ y,p.reps[0]? =some y/\y.es=L/\y.high<=(L.length:Int)/\(L.length+1<=t->1<=j->(L.length:Int)<=y.high)/\(L.length+2<=t->(L.length:Int)<=y.high)
 rest: ∀ (r:Nat) (x:RA),1<=r->p.reps[r]? =some x-> ∃ a,a<=L.length/\x.es=L.take a/\min (if r<j then t+1 else t) L.length<=a
 kn: ∀ (r:Nat) (v:Int),1<=r->p.known[r]? =some v->((min (if r<j then t else t-1) L.length:Nat):Int)<=v
 kn0:1<=t∨1<=j-> ∀ v,p.known[0]? =some v->(L.length:Int)<=v
 kl:p.known.length=p.reps.length
theorem Gx.sync0 {L:List cv} {t:Nat} {p:fX} (h:Gx L t 0 p) (hL:L.length<=400): ∃ p',jm p 0=(p',0)/\Gx L t 1 p'/\p'.reps.length=p.reps.length:=by
 obtain⟨y,hy,hyL,hh,-,hh2⟩:=h.zero
 have hu:y.up=true:=h.cm.up y (ab hy)
 have hl:=(cu hy).1
 have hs:(p.reps.set 0 {y with s:=y.es.length})[0]? =some {y with s:=y.es.length}:=am hl
 have e1:jm p 0=(mW {p with reps:=p.reps.set 0 {y with s:=y.es.length},known:=p.known.set 0 (y.es.length:Nat)},0):=by
  unfold jm
  rw[hy];dsimp only
  rw[if_neg (by rw[hu];decide),if_pos (by rw[h.ld];rfl)]
 rw[xD (l:=0) (p:={p with reps:=p.reps.set 0 {y with s:=y.es.length},known:=p.known.set 0 (y.es.length:Nat)}) h.ld hs]at e1
 refine⟨_,e1,⟨?_,h.ld,?_,?_,?_,?_,by simp[h.kl]⟩,by simp⟩
 refine⟨h.cm.ld,h.cm.isr,fun x hx=> ?_⟩
 rcases aC hx with hx|rfl
 rcases aC hx with hx|rfl
 exact h.cm.up x hx
 exact hu
 exact hu
 refine⟨_,am (by simpa using hl),hyL,?_,fun ht _=> ?_,fun ht=> ?_⟩
 show max y.high (min _ ((y.es.length:Nat):Int))<=_
 rw[hyL];omega
 show _<=max y.high (min (cW p.isr (p.known.set 0 ((y.es.length:Nat):Int)) 400) ((y.es.length:Nat):Int))
 have hg:(L.length:Int)<=cW p.isr (p.known.set 0 ((y.es.length:Nat):Int)) 400:=by
  refine Fy _ _ _ I fun v hv=> ?_
  obtain⟨r,hr⟩:=aM.1 hv
  cases r with
  |zero=>
   rw[vN]at hr
   cases hk:p.known[0]? with
   |none=>rw[hk]at hr;cases hr
   |some u=>rw[hk]at hr;simp at hr;rw[hyL]at hr;omega
  |succ r=>
   rw[aV I]at hr
   have:=h.kn (r+1) v I hr
   rw[if_neg (show¬ r+1<0 by omega)]at this
   omega
 rw[hyL]at hg⊢
 omega
 have:=hh2 ht
 show _<=max y.high _
 omega
 intro r x hr hx
 change ((p.reps.set 0 _).set 0 _)[r]? =some x at hx
 rw[aV I,aV I]at hx
 obtain⟨a,h1,h2,h3⟩:=h.rest r x hr hx
 refine⟨a,h1,h2,?_⟩
 rw[if_neg (show¬ r<0 by omega)]at h3
 rw[if_neg (show¬ r<1 by omega)]
 exact h3
 intro r v hr hv
 change (p.known.set 0 _)[r]? =some v at hv
 rw[aV I]at hv
 have:=h.kn r v hr hv
 rw[if_neg (show¬ r<0 by omega)]at this
 rw[if_neg (show¬ r<1 by omega)]
 exact this
 intro _ v hv
 change (p.known.set 0 _)[0]? =some v at hv
 rw[vN]at hv
 cases hk:p.known[0]? with
 |none=>rw[hk]at hv;cases hv
 |some u=>rw[hk]at hv;simp at hv;rw[hyL]at hv;omega
theorem Gx.fetch0 {L:List cv} {t j:Nat} {p:fX} (h:Gx L t j p):(gk p 0).2.2≠0:=by
 obtain⟨y,hy,-⟩:=h.zero
 unfold gk
 rw[hy];dsimp only
 rw[if_pos (.inr (by rw[h.ld];rfl))]
 decide
theorem Eu {L:List cv} {x y:RA} {a:Nat} {hl:Int} (ha:a<=L.length) (hx:x.es=L.take a) (hy:y.es=L): ∃ b,b<=L.length/\(ic x y hl).1.es=L.take b/\min (a+1) L.length<=b/\(ic x y hl).1.up=x.up:=by
 have hm:dR x.es y.es=a:=by rw[hx,hy];exact As ha
 have ht:(L.take a).take a=L.take a:=by rw[dv,Nat.min_self]
 unfold ic
 rw[hm,hx,hy]
 cases hz:L[a]? with
 |none=>
  have hge:=List.getElem?_eq_none_iff.1 hz
  exact⟨a,ha,ht,by omega,rfl⟩
 |some z=>
  have hlt:=(cu hz).1
  refine⟨a+1,by omega,?_,by omega,rfl⟩
  show(L.take a).take a++[z]=_
  rw[ht,dY hz]
theorem Gx.step {L:List cv} {t j:Nat} {p:fX} (h:Gx L t j p) (hj:1<=j) {x:RA} (hx:p.reps[j]? =some x): ∃ p1 p2 n,jm p j=(p1,0)/\gk p1 j=(p2,n,0)/\Gx L t (j+1) p2/\p2.reps.length=p.reps.length:=by
 obtain⟨y,hy,hyL,hh,hh1,hh2⟩:=h.zero
 obtain⟨a,ha,hxa,hat⟩:=h.rest j x hj hx
 rw[if_neg (Nat.lt_irrefl j)]at hat
 have hu:x.up=true:=h.cm.up x (ab hx)
 have hl:=(cu hx).1
 have hl0:=(cu hy).1
 have e1:jm p j=({p with reps:=p.reps.set j {x with s:=x.es.length}},0):=by
  unfold jm
  rw[hx];dsimp only
  rw[if_neg (by rw[hu];decide),if_neg (by rw[h.ld];omega)]
 have hx1:({p with reps:=p.reps.set j {x with s:=x.es.length}}:fX).reps[j]? =some {x with s:=x.es.length}:=am hl
 have hy1:({p with reps:=p.reps.set j {x with s:=x.es.length}}:fX).reps[0]? =some y:=by
  show(p.reps.set j _)[0]? =_
  rw[aV I];exact hy
 have e2:=p9 (l:=0) hx1 h.ld I hu hy1
 obtain⟨b,hb,hbe,hbm,hbu⟩:=Eu (x:={x with s:=x.es.length}) (y:=y) (hl:=max y.high (min (cW p.isr (p.known.set j (min x.es.length (dR x.es y.es):Nat)) 400) y.es.length)) ha hxa hyL
 have hm:dR x.es y.es=a:=by rw[hxa,hyL];exact As ha
 have hxl:x.es.length=a:=by rw[hxa,aF];omega
 refine⟨_,_,_,e1,e2,⟨?_,h.ld,?_,?_,?_,?_,by simp[h.kl]⟩,by simp⟩
 refine⟨h.cm.ld,h.cm.isr,fun z hz=> ?_⟩
 rcases aC hz with hz|rfl
 rcases aC hz with hz|rfl
 rcases aC hz with hz|rfl
 exact h.cm.up z hz
 exact hu
 exact h.cm.up y (ab hy)
 exact hbu.trans hu
 refine⟨{y with high:=max y.high (min (cW p.isr (p.known.set j (min x.es.length (dR x.es y.es):Nat)) 400) y.es.length)},?_,hyL,?_,fun ht _=> ?_,fun ht=> ?_⟩
 show(((p.reps.set j _).set 0 _).set j _)[0]? =_
 rw[aV I,am (by simpa using hl0)]
 show max y.high (min _ ((y.es.length:Nat):Int))<=_
 rw[hyL];omega
 have:=hh1 ht hj
 show _<=max y.high _
 omega
 have:=hh2 ht
 show _<=max y.high _
 omega
 intro r z hr hz
 change (((p.reps.set j _).set 0 _).set j _)[r]? =some z at hz
 by_cases hrj:j=r
 subst hrj
 rw[am (by simpa using hl)]at hz
 cases hz
 refine⟨b,hb,hbe,?_⟩
 rw[if_pos (vK j)]
 omega
 rw[aV hrj,aV I,aV hrj]at hz
 obtain⟨c,h1,h2,h3⟩:=h.rest r z hr hz
 refine⟨c,h1,h2,?_⟩
 by_cases hlt:r<j
 rw[if_pos hlt]at h3
 rw[if_pos (show r<j+1 by omega)];exact h3
 rw[if_neg hlt]at h3
 rw[if_neg (show¬ r<j+1 by omega)];exact h3
 intro r v hr hv
 change (p.known.set j _)[r]? =some v at hv
 by_cases hrj:j=r
 subst hrj
 rw[vN]at hv
 cases hk:p.known[j]? with
 |none=>rw[hk]at hv;cases hv
 |some u=>
  rw[hk]at hv
  simp at hv
  rw[hm,hxl]at hv
  rw[if_pos (vK j)]
  omega
 rw[aV hrj]at hv
 have h3:=h.kn r v hr hv
 by_cases hlt:r<j
 rw[if_pos hlt]at h3
 rw[if_pos (show r<j+1 by omega)];exact h3
 rw[if_neg hlt]at h3
 rw[if_neg (show¬ r<j+1 by omega)];exact h3
 intro _ v hv
 change (p.known.set j _)[0]? =some v at hv
 rw[aV I]at hv
 exact h.kn0 (.inr hj) v hv
theorem Gx.next {L:List cv} {t:Nat} {p:fX} (h:Gx L t p.reps.length p) (h1:1<=p.reps.length):Gx L (t+1) 0 p:=by
 obtain⟨y,hy,hyL,hh,hh1,hh2⟩:=h.zero
 refine⟨h.cm,h.ld,⟨y,hy,hyL,hh,fun _ h0=>by omega,fun ht=>hh1 I h1⟩,fun r x hr hx=> ?_,fun r v hr hv=> ?_,fun _ v hv=>h.kn0 (.inr h1) v hv,h.kl⟩
 obtain⟨a,g1,g2,g3⟩:=h.rest r x hr hx
 rw[if_pos (cu hx).1]at g3
 exact⟨a,g1,g2,by rw[if_neg (show¬ r<0 by omega)];exact g3⟩
 have g:=h.kn r v hr hv
 rw[if_pos (by have:=(cu hv).1;have:=h.kl;omega)]at g
 rw[if_neg (show¬ r<0 by omega)]
 exact g
theorem Dm {w w':Wa} {p:fX} {j:Nat} {x:An} (hp:w.ps[0]? =some p) (hA:rW w (nf j) w' x) (h0:(jm p j).2=0):w'.ps[0]? =some (jm p j).1:=by
 obtain⟨h1,-⟩:=uE hA (by show¬ (9:Int)=19;decide)
 have e1:j8 w (nf j)=mD w (nf j):=by simp[j8,nf]
 have e2:jd p (nf j)=((jm p j).1,0,(jm p j).2):=by simp[jd,nf]
 rw[h1,e1]
 unfold mD
 rw[show(nf j).part.toNat=0 from rfl,hp]
 dsimp only
 rw[e2,if_pos h0]
 exact am (cu hp).1
theorem BE {w w':Wa} {p:fX} {j:Nat} {x:An} (hp:w.ps[0]? =some p) (hA:rW w (jW j) w' x):w'.ps[0]? =some (if(gk p j).2.2=0 then(gk p j).1 else p):=by
 obtain⟨h1,-⟩:=uE hA (by show¬ (8:Int)=19;decide)
 have e1:j8 w (jW j)=mD w (jW j):=by simp[j8,jW]
 have e2:jd p (jW j)=gk p j:=by simp[jd,jW]
 rw[h1,e1]
 unfold mD
 rw[show(jW j).part.toNat=0 from rfl,hp]
 dsimp only
 rw[e2]
 split
 exact am (cu hp).1
 exact hp
theorem FI {L:List cv} {t:Nat} (hL:L.length<=400): ∀ (j:Nat) {w w':Wa} {p:fX} {xs:List An},kT w (ki j) xs w'->j<=p.reps.length->w.ps[0]? =some p->Gx L t 0 p-> ∃ p',w'.ps[0]? =some p'/\Gx L t j p'/\p'.reps.length=p.reps.length
 |0,w,w',p,xs,h,_,hp,hr=>by
  cases h
  exact⟨p,hp,hr,rfl⟩
 |j+1,w,w',p,xs,h,hj,hp,hr=>by
  rw[s0]at h
  obtain⟨us,zs,w1,rfl,r1,r2⟩:=h.split
  obtain⟨p1,h1,h2,h3⟩:=FI hL j r1 I hp hr
  cases r2 with
  |cons a1 r2=>cases r2 with
  |cons a2 r2=>
   cases r2
   cases j with
   |zero=>
    obtain⟨p2,g1,g2,g3⟩:=h2.sync0 hL
    have b1:=Dm h1 a1 (by rw[g1])
    rw[g1]at b1
    have b2:=BE b1 a2
    rw[if_neg g2.fetch0]at b2
    exact⟨p2,b2,g2,g3.trans h3⟩
   |succ j=>
    obtain⟨x,hx⟩: ∃ x,p1.reps[j+1]? =some x:=⟨_,ai I⟩
    obtain⟨p2,p3,n,g1,g2,g3,g4⟩:=h2.step I hx
    have b1:=Dm h1 a1 (by rw[g1])
    rw[g1]at b1
    have b2:=BE b1 a2
    rw[g2,if_pos Z]at b2
    exact⟨p3,b2,g3,g4.trans h3⟩
theorem Ih {L:List cv} {nr:Nat} (hL:L.length<=400) (hn:1<=nr): ∀ (t:Nat) {w w':Wa} {p:fX} {xs:List An},kT w (i8 nr t) xs w'->p.reps.length=nr->w.ps[0]? =some p->Gx L 0 0 p-> ∃ p',w'.ps[0]? =some p'/\Gx L t 0 p'/\p'.reps.length=nr
 |0,w,w',p,xs,h,hl,hp,hr=>by
  cases h
  exact⟨p,hp,hr,hl⟩
 |t+1,w,w',p,xs,h,hl,hp,hr=>by
  rw[i8]at h
  obtain⟨us,zs,w1,rfl,r1,r2⟩:=h.split
  obtain⟨p1,h1,h2,h3⟩:=Ih hL hn t r1 hl hp hr
  obtain⟨p2,g1,g2,g3⟩:=FI hL nr r2 I h1 h2
  rw[h3]at g3
  rw[<-g3]at g2
  exact⟨p2,g1,g2.next I,g3⟩
end Go.Proofs.YtclibalpdhhhfaaGreatDoor
