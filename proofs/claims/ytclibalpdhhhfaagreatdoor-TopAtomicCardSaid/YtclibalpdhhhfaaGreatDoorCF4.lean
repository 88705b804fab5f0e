/- Part 4 of the proofs over this seat: what its theorems say holds for every input that they name. -/
import Derived.Test.YtclibalpdhhhfaaGreatDoorCF3
namespace Go.Proofs.YtclibalpdhhhfaaGreatDoor
open Go Go.Eng Go.RowKit
open Go.Eng renaming nL→U, C6→W, MC→Zr, Q6→Zk, TK→Zt, S9→Zb, Ts→Zx, TS→Yi, TU→Yb, TQ→Ys, TR→Yp, TP→Yt, TO→Yu, Ub→Wi, Uc→Wb, T9→Ws, Ua→Wp, T8→Wt, TY→Zf, T4→Xi, T6→Xa, T3→Xs, TB→Kt, TC→N, qg→ZT, oY→ZF
open Go.Proofs.Tryz renaming prog→aa
open _root_.List renaming mem_of_getElem?→ab,length_set→ae,getElem?_eq_getElem→ai,mem_cons_of_mem→aj,getElem?_set_self→ak,replicate→ao,mem_singleton→aq,mem_append→ar,length_append→av,mem_cons→ay,mem_cons_self→aA,append_assoc→aB,mem_or_eq_of_mem_set→aD,findIdx?_eq_some_iff_getElem→aF,length_take→aI,getElem?_map→aJ,mem_iff_getElem?→aN,getElem?_set_ne→aO,append_nil→aP,sublist_cons_self→aS,length_replicate→bc,length_cons→bf,map_append→bi,take_length→br,mem_nil_iff→bu,length_singleton→bv,length_map→bF,mem_map→bK,getElem?_eq_none→bL,mem_map_of_mem→bM,getElem?_append_left→bU,mem_append_right→ce,sublist_append_right→ci,getElem?_append_right→cy,findIdx?_eq_none_iff→cD,map_set→cO,getD_eq_getElem?_getD→cS,eq_of_mem_replicate→cT,length→cY,getElem?_drop→df,ext_getElem?→dg,getElem?_replicate→dq,take_take→dt,pairwise_cons→ec,mem_singleton_self→eh,pairwise_map→eQ,pairwise_iff_getElem→fF,set_set→fS,mem_append_left→gk,perm_append_comm_assoc→gu,mem_filter→gT,countP_singleton→g8,replicate_succ→iS,countP_append→js,set_append_right→jt,prefix_refl→ki,drop_length→kk,range→kR,drop_eq_getElem_cons→nn,range_succ→oe,length_pos_of_mem→pR,countP_le_length→qV,take_subset→qX,replicate_succ'→rQ,set_cons_zero→uv,getElem?_eq_none_iff→uQ,length_range→vS,findIdx?_map→vT,getElem_mem→xn,perm_append_comm→y8,mem_range→AK,mem_of_mem_take→AL,findIdx?_append→AM,map_congr_left→BH,getElem_set_ne→BI,set_cons_succ→Dx
open _root_.List.Perm renaming cons→ah,swap→am
open _root_.Nat renaming le_refl→ap,zero_le→aV,le_trans→aW,le_succ→bz,min_eq_left→bE,zero_add→cC,lt_or_ge→fC,add_assoc→lx,sub_self→mQ,le_of_lt→mR,add_zero→mS,lt_succ_self→xl,add_comm→Fg
open _root_.List.Sublist renaming refl→au
open _root_.Option.some renaming inj→aZ,injEq→jI
open _root_.Option renaming bind_some→cQ,map_some→dA,getD_some→qW
open _root_.Int renaming le_refl→fj,toNat_natCast→lR
set_option maxHeartbeats 4000000
set_option maxRecDepth 20000
set_option linter.unusedSimpArgs false
set_option linter.unusedVariables false
set_option linter.unusedSectionVars false
theorem yK {b:Bk} {a:Act} (hix:dT b.sns a.name=none):fO b.a a=(b.a,⟨5,0,[]⟩):=by
 unfold fO
 rw[show b.a.sns=b.sns.map Sn.a from rfl,Fz hix]
 rfl
theorem jj {b:Bk} {a:Act} {i:Nat} {x:Sn} (hix:dT b.sns a.name=some i) (hx:b.sns[i]? =some x):fO b.a a=if x.inn=false then lY b.a 12 else if a.lost=1 then lY b.a 14 else
  if(jl b.co.a x.name x.ver (decide (a.n=1))).2=0 then({b.a with co:=(jl b.co.a x.name x.ver (decide (a.n=1))).1,sns:=if a.lost=0 then(b.sns.set i (pH x)).map Sn.a else b.sns.map Sn.a},fR a ⟨0,0,[]⟩)else(b.a,fR a ⟨(jl b.co.a x.name x.ver (decide (a.n=1))).2,0,[]⟩):=by
 unfold fO
 rw[show b.a.sns=b.sns.map Sn.a from rfl,yi hix hx,cO]
 rfl
def zT (e:cd):cd:=if e.txn then jJ else e
theorem Mz (x:Sn):pH x={x with inn:=false,last:=x.last.map zT}:=rfl
theorem M5 {l:List cd} {i:Nat} {e:cd} (he:l[i]? =some e):((l.take i).map zT++l.drop i).set i (zT e)=(l.take (i+1)).map zT++l.drop (i+1):=by
 have hi:=(bZ he).1
 have h1:((l.take i).map zT).length=i:=by simp;omega
 rw[jt _ _ I,h1,mQ,ed he,bi,aB]
 congr 1
 rw[nn hi]
 rfl
theorem Fl {l:List cd} {i:Nat} {e:cd} (he:l[i]? =some e):((l.take i).map zT++l.drop i)[i]? =some e:=by
 have hi:=(bZ he).1
 rw[cy (by simp;omega)]
 simp only[bF,aI,bE (mR hi),mQ]
 rw[df]
 exact he
theorem HV {w0 w:World} {bb:Nat} {b:Bk} {gP:Nat} {uP:Array Value} {Ls Lo K:List (Nat×Obj)} {F:List cf} (a:Act) (B:Bw w0 w bb b gP uP Ls Lo K F) (hsl:b.sns.length<=1000000) (hix:dT b.sns a.name=none):di aa jP [.pointer (Qd bb),a.v] w fun v w2=> ∃ b':Bk,pq (fO b.a a).2 v w2/\b'.a=(fO b.a a).1/\y4 w0 w2 bb b' K F:=by
 refine aG mw Z Z ?_
 obtain⟨ps,pA,pC,co,clo,chi,gr,glo,ghi,sns,snA,snC⟩:=b
 obtain⟨hpA,row,hsn,hown,hco,hgr,hps,H⟩:=B
 dsimp only at hpA row hsn hown hco hgr hps
 subst hpA
 replace H:Hp w0 w ((bb,.cells #[.slice (Qd gP) ps.length pC,J (co.clock),J (co.next),J (co.wait),.slice co.A co.txs.length co.cap,J (gr.clock),J (gr.wait),J (gr.gen),.slice gr.mA gr.ms.length gr.mC,.slice gr.oA gr.os.length gr.oC,.slice snA sns.length snC] cB (0,0))::(gP,.cells uP bY (0,0))::(Ls++(Lo++K))) F:=H
 dsimp only at hix hsl
 show CW _ _ _ _ (args [.pointer (Qd bb),.agg #[J (a.kind),.string (a.name),J (a.part),J (a.n),J (a.m),.string (a.text),J (a.lost)]]) w
 refine W<|Zr<|gU H Z Z fun w1 b3 H=>fc H dn Z fun w2 b4 H=>U<|W<|Zr<|G (Yp Z)<|G (Zf fq Z)<|G (Zd aY H 1 Z Z Z)<|cE dD (jK bb ⟨ps,some ⟨gP,0,none⟩,pC,co,clo,chi,gr,glo,ghi,sns,snA,snC⟩ (a.name) Ls _ (H.ent (i:=2) Z) hsn (fun q hq=>(H.ents q (by simp only[ay,ar];grind)).1) hsl) Z Z ?_
 rintro _ w3 ⟨rfl,hb⟩;replace H:=H.later hb;clear hb
 rw[hix]
 refine G (Wp Z)<|U<|W<|Zb<|W<|Zr<|G (Yp Z)<|G (zl i7 Z)<|G (Wb Z)<|U<|ZT Z<|W<|Zr<|cE bO (dU 5 _) Z Z ?_
 rintro _ w4 ⟨rfl,hb⟩;replace H:=H.later hb;clear hb
 refine bI H 0 (#[J (5),J (0),.slice none 0 0]) bA Z Z Z Z Z N N fun w5 H=>U<|Zt ?_
 exact gB (cs0:= #[J (5),J (0),.slice none 0 0]) Z bx Z (H.ent (i:=0) Z) Z ⟨⟨ps,some ⟨gP,0,none⟩,pC,co,clo,chi,gr,glo,ghi,sns,snA,snC⟩,by rw[yK hix];exact pq.plain _ _ _,by rw[yK hix],Bw.shut (X:=[(b4,_),(b3,_)]) row hsn hown hco hgr hps (fun _ h=>h) H Z⟩
theorem HU {w0 w:World} {bb:Nat} {b:Bk} {gP:Nat} {uP:Array Value} {Ls Lo K:List (Nat×Obj)} {F:List cf} (a:Act) (B:Bw w0 w bb b gP uP Ls Lo K F) (hsl:b.sns.length<=1000000) {k i:Nat} {x:Sn} (hix:dT b.sns a.name=some i) (hx:b.sns[i]? =some x) (hlo:0<=a.lost/\a.lost<=2) (hn1:0<=a.n/\a.n<=1) (hll:x.last.length<=4) (hnm:bC x.name=true) (hcb:pn k b.co):di aa jP [.pointer (Qd bb),a.v] w fun v w2=> ∃ b':Bk,pq (fO b.a a).2 v w2/\b'.a=(fO b.a a).1/\y4 w0 w2 bb b' K F:=by
 refine aG mw Z Z ?_
 obtain⟨ps,pA,pC,co,clo,chi,gr,glo,ghi,sns,snA,snC⟩:=b
 obtain⟨hpA,row,hsn,hown,hco,hgr,hps,H⟩:=B
 dsimp only at hpA row hsn hown hco hgr hps
 subst hpA
 dsimp only at hix hx
 obtain⟨gS,uS,hgS,hLs,rowS⟩:=hsn.row (by have:=(bZ hx).1;omega)
 subst hgS;subst hLs
 obtain⟨gq,uq,gl,ul,La,Lb,hsA,hlA,rowq,rowl,hLo,hset⟩:=hown.at_ hx
 subst hLo
 replace H:Hp w0 w ((bb,.cells #[.slice (Qd gP) ps.length pC,J (co.clock),J (co.next),J (co.wait),.slice co.A co.txs.length co.cap,J (gr.clock),J (gr.wait),J (gr.gen),.slice gr.mA gr.ms.length gr.mC,.slice gr.oA gr.os.length gr.oC,.slice (Qd gS) sns.length snC] cB (0,0))::(gP,.cells uP bY (0,0))::(gS,.cells uS fK (0,0))::(gq,.cells uq cM (0,0))::(gl,.cells ul dy (0,0))::(La++(Lb++K))) F:=H.perm (EW [(bb,_),(gP,_),(gS,_)] _ _ La Lb K)
 dsimp only at hsl hcb
 have hl5:(BR.f x)[5]? =some (.slice (some ⟨gl,0,none⟩) x.last.length x.lC):=by rw[<-hlA];rfl
 show CW _ _ _ _ (args [.pointer (Qd bb),.agg #[J (a.kind),.string (a.name),J (a.part),J (a.n),J (a.m),.string (a.text),J (a.lost)]]) w
 refine W<|Zr<|gU H Z Z fun w1 b3 H=>fc H dn Z fun w2 b4 H=>U<|W<|Zr<|G (Yp Z)<|G (Zf fq Z)<|G (Zd aY H 1 Z Z Z)<|cE dD (jK bb ⟨ps,some ⟨gP,0,none⟩,pC,co,clo,chi,gr,glo,ghi,sns,some ⟨gS,0,none⟩,snC⟩ (a.name) _ _ (H.ent (i:=2) Z) (d8.own rowS) (fun q hq=>by rw[aq.1 hq];exact(H.ent (i:=4) Z)) hsl) Z Z ?_
 rintro _ w3 ⟨rfl,hb⟩;replace H:=H.later hb;clear hb
 rw[hix]
 refine G (Wp Z)<|U<|W<|Zb<|W<|Zr<|G (Yp Z)<|G (xw i7 Z)<|G (Wb Z)<|U<|ZF Z<|W<|Zr<|G (Zf kL Z)<|G (Zd al H 1 Z Z Z)<|G (cV Z Z I)<|G (Yb Z)<|ZG<|G (Zf kL Z)<|ZG<|G (Zd al H 1 Z Z Z)<|ZG<|G (dX Z Z I)<|G (N Z Z)<|G (Yb Z)<|ZG<|G (Zf fY Z)<|ZG<|G (Zd al H 1 Z Z Z)<|ZG<|G (cV Z Z I)<|G (N Z Z)<|G (Yb Z)<|ZG<|G (Zf fY Z)<|ZG<|G (Zd al H 1 Z Z Z)<|ZG<|G (dX Z Z I)<|G (N Z Z) ?_
 refine G (Wb Z)<|U<|ZF Z<|W<|Zr<|G (Yp Z)<|G (aM Z)<|G (Zf oR Z) ?_
 refine By (bW eP rowS hx 3 Z (H.ent (i:=4) Z) Z) Z Z Z (fun h41=> ?_) (fun h41=> ?_)
 refine G (d9 Z)<|G (Wb Z)<|U<|ZF Z<|W<|Zr<|G (Zf kL Z)<|G (Zd al H 1 Z Z Z) ?_
 refine dZ (cr Z Z) Z Z Z (fun h47=> ?_) (fun h47=> ?_)
 refine G (Wb Z)<|U<|ZT Z<|W<|Zr<|cE bO (dU 14 _) Z Z ?_
 rintro _ w4 ⟨rfl,hb⟩;replace H:=H.later hb;clear hb
 refine bI H 0 (#[J (14),J (0),.slice none 0 0]) bA Z Z Z Z Z N N fun w5 H=>U<|Zt ?_
 exact gB (cs0:= #[J (14),J (0),.slice none 0 0]) Z bx Z (H.ent (i:=0) Z) Z ⟨⟨ps,some ⟨gP,0,none⟩,pC,co,clo,chi,gr,glo,ghi,sns.set i x,some ⟨gS,0,none⟩,snC⟩,by rw[jj hix hx,if_neg (by rw[h41];decide),if_pos h47];exact pq.plain _ _ _,by rw[jj hix hx,if_neg (by rw[h41];decide),if_pos h47,fg hx];rfl,Bw.close (X:=[(b4,_),(b3,_)]) row (by rw[fg hx];exact rowS) hset hsA hlA rowq rowl hco hgr hps (fun _ h=>h) H (by rw[fg hx];rfl)⟩
 refine G (Wb Z)<|U<|ZF Z<|Zk<|W ?_
 refine gp (τ:=Co×Nat×Nat×Nat) [6,7,49,50,51,52,53,54,55,56,57,58,59,60,61,62,63,64,65,66,67,68] (fun(_,b6,_,_)=>[(6,.pointer (Qd b6)),(7,J (jl co.a x.name x.ver (decide (a.n=1))).2)]) (fun(c3,b6,lo,hi) w'=>c3.a=(jl co.a x.name x.ver (decide (a.n=1))).1/\Hp w0 w' ((b6,.cells #[J (c3.clock),J (c3.next),J (c3.wait),.slice c3.A c3.txs.length c3.cap] aX (0,0))::(b4,.cells #[J (0),J (0),.slice none 0 0] gR (0,0))::(b3,.cells #[J (a.kind),.string (a.name),J (a.part),J (a.n),J (a.m),.string (a.text),J (a.lost)] iR (0,0))::(bb,.cells #[.slice (Qd gP) ps.length pC,J (co.clock),J (co.next),J (co.wait),.slice co.A co.txs.length co.cap,J (gr.clock),J (gr.wait),J (gr.gen),.slice gr.mA gr.ms.length gr.mC,.slice gr.oA gr.os.length gr.oC,.slice (Qd gS) sns.length snC] cB (0,0))::(gP,.cells uP bY (0,0))::(gS,.cells uS fK (0,0))::(gq,.cells uq cM (0,0))::(gl,.cells ul dy (0,0))::La++(Lb++K)) (y3 w0 lo hi c3::F)) ?_ ?_
 refine oX cv 20 16 [16,17,18,19,21,22] [20] [0,1,2,3,5,6,7,9,10,11,13,15] [20,21,22] [16] [0,1,2,3,5,6,7,9,10,11,13,15,17,18,19] (sp [(20,Sp.blk w3.heap.size (.agg #[J 0,J 0,J 0,.slice none 0 0]) aX)]) (sp [(16,Sp.deep w3.heap.size PR (fun c:Co=>c.c.toArray) (fun cs=> .tuple #[.agg cs,J (jl co.a x.name x.ver (decide (a.n=1))).2]) (fun cq:Co=>cq.a=(jl co.a x.name x.ver (decide (a.n=1))).1))]) N N N N (cG _) (cG _) ?_ ?_
 refine jS [0,1,2,3,4,5,6,7,8,9,10,11,12,13,14,15,20] [16,17,18,19,21,22] [20] [0,1,2,3,5,6,7,9,10,11,13,15] 5 (sp [(20,Sp.blk w3.heap.size (.agg #[J 0,J 0,J 0,.slice none 0 0]) aX)]) N N N Nq<|aw Z Z Z Z Z (fun w' hw'=>Yp Z)<|aw Z Z Z Z Z (fun w' hw'=>aM Z)<|aw Z Z Z Z Z (fun w' hw'=>Zf aU Z)<|aw Z Z Z Z Z (fun w' hw'=>Zf eN Z)<|aw Z Z Z Z Z (fun w' hw'=>jW 1 [J (co.clock),J (co.next),J (co.wait),.slice co.A co.txs.length co.cap] az Z Z ((H.later hw').ent (i:=2) Z) Z)<|aw Z Z Z Z Z (fun w' hw'=>Yp Z)<|aw Z Z Z Z Z (fun w' hw'=>aM Z)<|aw Z Z Z Z Z (fun w' hw'=>Zf oS Z)<|aw Z Z Z Z Z (fun w' hw'=>bW aY rowS hx 0 Z ((H.later hw').ent (i:=4) Z) Z)<|aw Z Z Z Z Z (fun w' hw'=>Yp Z)<|aw Z Z Z Z Z (fun w' hw'=>aM Z)<|aw Z Z Z Z Z (fun w' hw'=>Zf vy Z)<|aw Z Z Z Z Z (fun w' hw'=>bW al rowS hx 2 Z ((H.later hw').ent (i:=4) Z) Z)<|aw Z Z Z Z Z (fun w' hw'=>Zf fY Z)<|aw Z Z Z Z Z (fun w' hw'=>bd al Z (aK ((H.later hw').ent (i:=1) Z) Z))<|aw Z Z Z Z Z (fun w' hw'=>cr Z Z)<|y1 cH Z Z Z Z Z (fun w' hw'=>hw'.size) fun b6=>aT ?_
 intro w6 hw' hF
 obtain⟨hF,bq,eq,hge6,hbl6⟩:=hF;cases eq
 replace H:=H.adoptNew hw' hbl6 hge6
 clear hw' hF
 refine db 16 N Z<|cE yV (Ia co x.name x.ver (decide (a.n=1)) k _ (Hp.coM H hco) hcb hnm) Z Z ?_
 rintro _ w7 ⟨c3,rfl,hac3,hnc3⟩;replace H:=H.learn hnc3.2 (y3 w0 w6.heap.size w7.heap.size c3) ⟨H.size,hnc3.1⟩ (ap _) (ap _);clear hnc3
 refine U<|bw 17 N N N Z Z Z Z Nq (fun _=>Yu Z)<|bw 18 N N N Z Z Z Z Nq (fun _=>Xa Z Z)<|bw 19 N N N Z Z Z Z Nq (fun _=>Xi Z Z)<|db 21 N Z<|bI H 0 (#[J (c3.clock),J (c3.next),J (c3.wait),.slice c3.A c3.txs.length c3.cap]) aH Z Z Z Z Z N N fun w8 H=>U<|bw 22 N N N Z Z Z Z Nq (fun _=>Wi Z)<|cz N ?_
 exact⟨(c3,b6,_,_),⟨hac3,H⟩,jT Z Z,Qg⟩
 refine jS [0,1,2,3,4,5,6,7,8,9,10,11,12,13,14,15,16,17,18,19] [20,21,22] [16] [0,1,2,3,5,6,7,9,10,11,13,15,17,18,19] 2 (sp [(16,Sp.deep w3.heap.size PR (fun c:Co=>c.c.toArray) (fun cs=> .tuple #[.agg cs,J (jl co.a x.name x.ver (decide (a.n=1))).2]) (fun cq:Co=>cq.a=(jl co.a x.name x.ver (decide (a.n=1))).1))]) N N N Nq<|aw Z Z Z Z Z (fun w' hw'=>Yp Z)<|aw Z Z Z Z Z (fun w' hw'=>aM Z)<|aw Z Z Z Z Z (fun w' hw'=>Zf aU Z)<|aw Z Z Z Z Z (fun w' hw'=>Zf eN Z)<|aw Z Z Z Z Z (fun w' hw'=>jW 1 [J (co.clock),J (co.next),J (co.wait),.slice co.A co.txs.length co.cap] az Z Z ((H.later hw').ent (i:=2) Z) Z)<|aw Z Z Z Z Z (fun w' hw'=>Yp Z)<|aw Z Z Z Z Z (fun w' hw'=>aM Z)<|aw Z Z Z Z Z (fun w' hw'=>Zf oS Z)<|aw Z Z Z Z Z (fun w' hw'=>bW aY rowS hx 0 Z ((H.later hw').ent (i:=4) Z) Z)<|aw Z Z Z Z Z (fun w' hw'=>Yp Z)<|aw Z Z Z Z Z (fun w' hw'=>aM Z)<|aw Z Z Z Z Z (fun w' hw'=>Zf vy Z)<|aw Z Z Z Z Z (fun w' hw'=>bW al rowS hx 2 Z ((H.later hw').ent (i:=4) Z) Z)<|aw Z Z Z Z Z (fun w' hw'=>Zf fY Z)<|aw Z Z Z Z Z (fun w' hw'=>bd al Z (aK ((H.later hw').ent (i:=1) Z) Z))<|aw Z Z Z Z Z (fun w' hw'=>cr Z Z)<|ud (gv:=(fun cs=> .tuple #[.agg cs,J (jl co.a x.name x.ver (decide (a.n=1))).2])) yV Z Z Z Z Z (fun w' hw'=>hw'.size) (fun w' hw'=>Ia co x.name x.ver (decide (a.n=1)) k w' (Hp.coM (H.later hw') hco) hcb hnm) Z fun cs66=>aw Z Z Z Z Z (fun w' hw'=>Yu Z)<|aw Z Z Z Z Z (fun w' hw'=>Xa Z Z)<|aw Z Z Z Z Z (fun w' hw'=>Xi Z Z)<|aT ?_
 intro w9 hw' hF
 obtain⟨hF,c3,eq,hac3,hrd66⟩:=hF;cases eq
 replace H:=H.learn hw' (y3 w0 w3.heap.size w9.heap.size c3) ⟨H.size,hrd66⟩ (ap _) (ap _)
 clear hw' hF
 refine db 20 N Z<|fc H cH Z fun w10 b6 H=>U<|db 21 N Z<|bI H 0 (#[J (c3.clock),J (c3.next),J (c3.wait),.slice c3.A c3.txs.length c3.cap]) aH Z Z Z Z Z N N fun w11 H=>U<|bw 22 N N N Z Z Z Z Nq (fun _=>Wi Z)<|cz N ?_
 exact⟨(c3,b6,_,_),⟨hac3,H⟩,jT Z Z,Qg⟩
 rintro⟨c3,b6,lo,hi⟩ ρ1 w12 ⟨hac3,H⟩
 show CW _ _ _ _ (dO (ij _ _ ρ1) [(6,.pointer (Qd b6)),(7,J (jl co.a x.name x.ver (decide (a.n=1))).2)]) w12
 refine W<|W<|Zr<|G (Yi Z) ?_
 refine sU (jv Z Z) Z Z Z (fun h70=> ?_) (fun h70=> ?_)
 refine U<|ZT Z<|W ?_
 refine bG cv [0,1,2,3] [4] [2,3] [1] (sp [(2,Sp.one (.agg #[J (jl co.a x.name x.ver (decide (a.n=1))).2,J 0,.slice none 0 0])),(3,Sp.one (.agg #[J (fR a ⟨(jl co.a x.name x.ver (decide (a.n=1))).2,0,[]⟩).code,J (fR a ⟨(jl co.a x.name x.ver (decide (a.n=1))).2,0,[]⟩).n,.slice none 0 0]))]) N N N N Nq (cG _) ?_
 refine aw Z Z Z Z Z (fun w' hw'=>kh jd Z ((H.later hw').ent (i:=2) Z) Z)<|aw Z Z Z Z Z (fun w' hw'=>Yi Z)<|jy bO Z Z Z Z Z (fun w' hw'=>dU (jl co.a x.name x.ver (decide (a.n=1))).2 w') Z<|jy kP Z Z Z Z Z (fun w' hw'=>IM a ⟨(jl co.a x.name x.ver (decide (a.n=1))).2,0,[]⟩ w') Z<|aT ?_
 intro w13 hw' hF
 replace H:=H.later hw';clear hw' hF
 refine bI H 1 (#[J ((fR a ⟨(jl co.a x.name x.ver (decide (a.n=1))).2,0,[]⟩).code),J ((fR a ⟨(jl co.a x.name x.ver (decide (a.n=1))).2,0,[]⟩).n),.slice none 0 0]) bA Z Z Z Z Z N N fun w14 H=>U<|Zt ?_
 exact gB (cs0:= #[J ((fR a ⟨(jl co.a x.name x.ver (decide (a.n=1))).2,0,[]⟩).code),J ((fR a ⟨(jl co.a x.name x.ver (decide (a.n=1))).2,0,[]⟩).n),.slice none 0 0]) Z bx Z (H.ent (i:=1) Z) Z ⟨⟨ps,some ⟨gP,0,none⟩,pC,co,clo,chi,gr,glo,ghi,sns.set i x,some ⟨gS,0,none⟩,snC⟩,by rw[jj hix hx,if_neg (by rw[h41];decide),if_neg h47,if_neg h70];exact Tk.r ⟨lX _ Z,rfl⟩ _,by rw[jj hix hx,if_neg (by rw[h41];decide),if_neg h47,if_neg h70,fg hx],Bw.close (X:=[(b6,_),(b4,_),(b3,_)]) row (by rw[fg hx];exact rowS) hset hsA hlA rowq rowl (aj _ hco) (aj _ hgr) (fun q hq=>aj _ (hps q hq)) (fun f hf=>aj _ hf) H (by rw[fg hx];rfl)⟩
 refine U<|ZF Z<|Zk<|W ?_
 have hok3:(jl co.a x.name x.ver (decide (a.n=1))).2=0:=by simpa using h70
 refine Zr<|G (Yp Z)<|G (Zw az H 0 Z Z Z)<|G (aM Z)<|G (Zf aU Z)<|G (Zf eN Z)<|bI H 3 (#[.slice (Qd gP) ps.length pC,J (c3.clock),J (c3.next),J (c3.wait),.slice c3.A c3.txs.length c3.cap,J (gr.clock),J (gr.wait),J (gr.gen),.slice gr.mA gr.ms.length gr.mC,.slice gr.oA gr.os.length gr.oC,.slice (Qd gS) sns.length snC]) aH Z Z Z Z Z N N fun w15 H=>U<|W<|W<|Zr<|G (Zf kL Z)<|G (Zd al H 2 Z Z Z) ?_
 refine dZ (cr Z Z) Z Z Z (fun h82=> ?_) (fun h82=> ?_)
 refine U<|ZT Z<|W<|Zr<|G (Yp Z)<|G (aM Z)<|G (Zf oR Z)<|nt H 5 ({x with inn:=false}) mW rowS hx 3 Z Z Z Z Z Z N fun w17 cur16 row16 H=> ?_
 have hs18:(sns.set i ({x with inn:=false}))[i]? =some ({x with inn:=false}):=ak (bZ hx).1
 refine U<|W<|Zr<|G (Yp Z)<|G (aM Z)<|G (Zf mz Z)<|G (bW nI row16 hs18 5 Z (H.ent (i:=5) Z) hl5)<|G (bl dW Z)<|G (Yi Z)<|U<|Zb ?_
 refine bV (τ:=Nat×Array Value) [8,91,92,93,94,95,96,97,98,99,100,101,102,103,104,105,106,107,108,109] (fun(j,_)=>[(91,J (j:Nat))]) (fun(j,u) w'=>j<=x.last.length/\d8 gC ((x.last.take j).map zT++x.last.drop j) x.lC u/\Hp w0 w' ((b6,.cells #[J (c3.clock),J (c3.next),J (c3.wait),.slice c3.A c3.txs.length c3.cap] aX (0,0))::(b4,.cells #[J (0),J (0),.slice none 0 0] gR (0,0))::(b3,.cells #[J (a.kind),.string (a.name),J (a.part),J (a.n),J (a.m),.string (a.text),J (a.lost)] iR (0,0))::(bb,.cells #[.slice (Qd gP) ps.length pC,J (c3.clock),J (c3.next),J (c3.wait),.slice c3.A c3.txs.length c3.cap,J (gr.clock),J (gr.wait),J (gr.gen),.slice gr.mA gr.ms.length gr.mC,.slice gr.oA gr.os.length gr.oC,.slice (Qd gS) sns.length snC] cB (0,0))::(gP,.cells uP bY (0,0))::(gS,.cells cur16 fK (0,0))::(gq,.cells uq cM (0,0))::(gl,.cells u dy (0,0))::La++(Lb++K)) (y3 w0 lo hi c3::F)) (fun(j,_)=>x.last.length-j) (0,_) ⟨aV _,(by simpa using rowl),H⟩ (ef Z) ?_
 rintro⟨j,u⟩ ρ1 w19 ⟨hj,rowu,H⟩
 show CW _ _ _ _ (dO (ij _ _ ρ1) [(91,J (j:Nat))]) w19
 refine W<|Zr ?_
 refine dZ (cI Z Z) Z Z Z (fun h92=> ?_) (fun h92=> ?_)
 refine U<|W<|ZT Z<|Zk<|W<|Zb<|W<|Zr<|G (Yi Z)<|G (Wi Z)<|U<|W ?_
 obtain⟨e,he⟩: ∃ e,x.last[j]? =some e:=⟨_,ai I⟩
 refine Zr<|G (Yp Z)<|G (aM Z)<|G (Zf mz Z)<|G (bW nI row16 hs18 5 Z (H.ent (i:=5) Z) hl5)<|G (Yi Z)<|G (cL dY Z Z (by first|omega|(simp only[ae];omega)))<|G (Zf jk Z) ?_
 refine By (bW eP rowu (Fl he) 5 Z (H.ent (i:=7) Z) Z) Z Z Z (fun h101=> ?_) (fun h101=> ?_)
 refine U<|ZT Z<|Zr<|G (Yp Z)<|G (aM Z)<|G (Zf mz Z)<|G (bW nI row16 hs18 5 Z (H.ent (i:=5) Z) hl5)<|G (Yi Z)<|G (bp (cs:= #[J (0),J (0),J (0),J (0),J (0),.bool (false),.string (⟨#[]⟩)]) ow gz N)<|G (cL dY Z Z (by first|omega|(simp only[ae];omega)))<|nt H 7 (jJ) eX rowu (Fl he) 0 Z Z Z Z Z Z N fun w21 cur20 row20 H=> ?_
 have hs22:((((x.last.take j).map zT++x.last.drop j)).set j (jJ))[j]? =some (jJ):=ak (bZ (Fl he)).1
 refine U<|Zr<|G (bn Z Z I I)<|G (Yi Z)<|U ?_
 refine⟨(j+1,_),⟨by omega,?_,H⟩,ef Z,Qg,by show x.last.length- (j+1)<x.last.length-j;omega⟩
 rw[<-M5 he]
 have hz:zT e=jJ:=by unfold zT;rw[if_pos h101]
 rw[hz]
 exact row20
 refine U<|ZF Z<|Zk<|Zr<|G (bn Z Z I I)<|G (Yi Z)<|U ?_
 refine⟨(j+1,_),⟨by omega,?_,H⟩,ef Z,Qg,by show x.last.length- (j+1)<x.last.length-j;omega⟩
 rw[<-M5 he]
 have hz:zT e=e:=by unfold zT;rw[if_neg (by rw[h101];decide)]
 rw[hz,fg (Fl he)]
 exact rowu
 refine U<|W<|ZF Z<|Zx<|W ?_
 obtain rfl:j=x.last.length:=by omega
 rw[br,kk,aP]at rowu
 obtain⟨x1,hx1⟩: ∃ x1:Sn,{x with inn:=false,last:=x.last.map zT}=x1:=⟨_,rfl⟩
 have hsA1:x1.sA=some ⟨gq,0,none⟩:=by rw[<-hx1];exact hsA
 have hlA1:x1.lA=some ⟨gl,0,none⟩:=by rw[<-hx1];exact hlA
 have rowq1:d8 bR x1.seqs x1.sC uq:=by rw[<-hx1];exact rowq
 have rowl1:d8 gC x1.last x1.lC u:=by rw[<-hx1];exact rowu
 have rowS1:d8 BR (sns.set i x1) snC cur16:=by have:=d8.same (e':=x1) row16 hs18 (by rw[<-hx1];simp only[BR,Sn.c,bF]);rwa[fS]at this
 have hsn1:(if a.lost=0 then(sns.set i (pH x)).map Sn.a else sns.map Sn.a)=(sns.set i x1).map Sn.a:=by rw[if_pos h82,<-hx1,Mz]
 refine Zr<|G (Zw jd H 2 Z Z Z)<|G (bp (cs:= #[J (0),J (0),.slice none 0 0]) iX dn N)<|cE kP (IM a ⟨0,0,[]⟩ _) Z Z ?_
 rintro _ w23 ⟨rfl,hb⟩;replace H:=H.later hb;clear hb
 refine bI H 1 (#[J ((fR a ⟨0,0,[]⟩).code),J ((fR a ⟨0,0,[]⟩).n),.slice none 0 0]) bA Z Z Z Z Z N N fun w24 H=>U<|Zt ?_
 exact gB (cs0:= #[J ((fR a ⟨0,0,[]⟩).code),J ((fR a ⟨0,0,[]⟩).n),.slice none 0 0]) Z bx Z (H.ent (i:=1) Z) Z ⟨⟨ps,some ⟨gP,0,none⟩,pC,c3,lo,hi,gr,glo,ghi,sns.set i x1,some ⟨gS,0,none⟩,snC⟩,by rw[jj hix hx,if_neg (by rw[h41];decide),if_neg h47,if_pos hok3];exact Tk.r ⟨lX _ Z,rfl⟩ _,by rw[jj hix hx,if_neg (by rw[h41];decide),if_neg h47,if_pos hok3,<-hac3];show _=Wa.mk _ _ _ (if a.lost=0 then _ else _);rw[hsn1];rfl,Bw.close (X:=[(b6,_),(b4,_),(b3,_)]) row rowS1 hset hsA1 hlA1 rowq1 rowl1 (aA ..) (aj _ hgr) (fun q hq=>aj _ (hps q hq)) (fun f hf=>aj _ hf) H (by simp only[Bk.c,ae])⟩
 refine U<|ZF Z<|Zk<|W ?_
 obtain⟨x1,hx1⟩: ∃ x1:Sn,x=x1:=⟨_,rfl⟩
 have hsA1:x1.sA=some ⟨gq,0,none⟩:=by rw[<-hx1];exact hsA
 have hlA1:x1.lA=some ⟨gl,0,none⟩:=by rw[<-hx1];exact hlA
 have rowq1:d8 bR x1.seqs x1.sC uq:=by rw[<-hx1];exact rowq
 have rowl1:d8 gC x1.last x1.lC ul:=by rw[<-hx1];exact rowl
 have rowS1:d8 BR (sns.set i x1) snC uS:=by rw[<-hx1,fg hx];exact rowS
 have hsn1:(if a.lost=0 then(sns.set i (pH x)).map Sn.a else sns.map Sn.a)=(sns.set i x1).map Sn.a:=by rw[if_neg h82,<-hx1,fg hx]
 refine Zr<|G (Zw jd H 2 Z Z Z)<|G (bp (cs:= #[J (0),J (0),.slice none 0 0]) iX dn N)<|cE kP (IM a ⟨0,0,[]⟩ _) Z Z ?_
 rintro _ w25 ⟨rfl,hb⟩;replace H:=H.later hb;clear hb
 refine bI H 1 (#[J ((fR a ⟨0,0,[]⟩).code),J ((fR a ⟨0,0,[]⟩).n),.slice none 0 0]) bA Z Z Z Z Z N N fun w26 H=>U<|Zt ?_
 exact gB (cs0:= #[J ((fR a ⟨0,0,[]⟩).code),J ((fR a ⟨0,0,[]⟩).n),.slice none 0 0]) Z bx Z (H.ent (i:=1) Z) Z ⟨⟨ps,some ⟨gP,0,none⟩,pC,c3,lo,hi,gr,glo,ghi,sns.set i x1,some ⟨gS,0,none⟩,snC⟩,by rw[jj hix hx,if_neg (by rw[h41];decide),if_neg h47,if_pos hok3];exact Tk.r ⟨lX _ Z,rfl⟩ _,by rw[jj hix hx,if_neg (by rw[h41];decide),if_neg h47,if_pos hok3,<-hac3];show _=Wa.mk _ _ _ (if a.lost=0 then _ else _);rw[hsn1];rfl,Bw.close (X:=[(b6,_),(b4,_),(b3,_)]) row rowS1 hset hsA1 hlA1 rowq1 rowl1 (aA ..) (aj _ hgr) (fun q hq=>aj _ (hps q hq)) (fun f hf=>aj _ hf) H (by simp only[Bk.c,ae])⟩
 refine G (d9 Z)<|G (Wb Z)<|U<|ZT Z<|W<|Zr<|cE bO (dU 12 _) Z Z ?_
 rintro _ w27 ⟨rfl,hb⟩;replace H:=H.later hb;clear hb
 refine bI H 0 (#[J (12),J (0),.slice none 0 0]) bA Z Z Z Z Z N N fun w28 H=>U<|Zt ?_
 exact gB (cs0:= #[J (12),J (0),.slice none 0 0]) Z bx Z (H.ent (i:=0) Z) Z ⟨⟨ps,some ⟨gP,0,none⟩,pC,co,clo,chi,gr,glo,ghi,sns.set i x,some ⟨gS,0,none⟩,snC⟩,by rw[jj hix hx,if_pos h41];exact pq.plain _ _ _,by rw[jj hix hx,if_pos h41,fg hx];rfl,Bw.close (X:=[(b4,_),(b3,_)]) row (by rw[fg hx];exact rowS) hset hsA hlA rowq rowl hco hgr hps (fun _ h=>h) H (by rw[fg hx];rfl)⟩
theorem wl {w:Wa} {a:Act} (h:(bB w.co a.name).2.2.2≠0):mp w a=lY w (bB w.co a.name).2.2.2:=by
 unfold mp
 rw[if_neg h]
theorem EU {b:Bk} {a:Act} (hix:dT b.sns a.name=none) (h:(bB b.co.a a.name).2.2.2=0):mp b.a a=({b.a with co:=(bB b.co.a a.name).1,sns:=b.sns.map Sn.a++[rB a.name (bB b.co.a a.name).2.1 (bB b.co.a a.name).2.2.1 b.ps.length]},⟨0,(bB b.co.a a.name).2.2.1,[]⟩):=by
 unfold mp qv
 rw[if_pos (show(bB b.a.co a.name).2.2.2=0 from h),show b.a.sns=b.sns.map Sn.a from rfl]
 dsimp only[rB]
 rw[Bp,hix,show b.a.ps.length=b.ps.length by show(b.ps.map _).length=_;rw[bF]]
 rfl
theorem ET {b:Bk} {a:Act} {i:Nat} (hix:dT b.sns a.name=some i) (h:(bB b.co.a a.name).2.2.2=0):mp b.a a=({b.a with co:=(bB b.co.a a.name).1,sns:=(b.sns.map Sn.a).set i (rB a.name (bB b.co.a a.name).2.1 (bB b.co.a a.name).2.2.1 b.ps.length)},⟨0,(bB b.co.a a.name).2.2.1,[]⟩):=by
 unfold mp qv
 rw[if_pos (show(bB b.a.co a.name).2.2.2=0 from h),show b.a.sns=b.sns.map Sn.a from rfl]
 dsimp only[rB]
 rw[Bp,hix,show b.a.ps.length=b.ps.length by show(b.ps.map _).length=_;rw[bF]]
 rfl
theorem QY (A Q Lo K:List (Nat×Obj)):(A++((Lo++Q)++K)).Perm (Q++(A++(Lo++K))):=by
 rw[show A++((Lo++Q)++K)=(A++Lo)++(Q++K) by simp,show A++(Lo++K)=(A++Lo)++K by simp]
 exact gu (A++Lo) Q K
def Tv:Sn:=⟨⟨#[]⟩,0,0,false,[],none,0,[],none,0⟩
theorem FR:(aa.info? 3).map (fun i=>(i.zero,i.size,i.bytes))=some (some (J 0),bR.sz,8):=by kernel_rfl
theorem EK:(aa.info? 87).map (fun i=>(i.zero,i.size,i.bytes))=some (some (.agg #[J 0,J 0,J 0,J 0,J 0,.bool false,.string ⟨#[]⟩]),gC.sz,64):=by kernel_rfl
theorem Mb {w0 w:World} {bb:Nat} {b:Bk} {gP:Nat} {uP:Array Value} {Ls Lo K:List (Nat×Obj)} {F:List cf} (a:Act) (B:Bw w0 w bb b gP uP Ls Lo K F) (hsl:b.sns.length<=1000000) {k:Nat} (hnm:bC a.name=true) (hcb:pn k b.co) (hk:k<=1000) (hnp:0<b.ps.length) (hp4:b.ps.length<=4) (hix:dT b.sns a.name=none):di aa kB [.pointer (Qd bb),a.v] w fun v w2=> ∃ b':Bk,pq (mp b.a a).2 v w2/\b'.a=(mp b.a a).1/\y4 w0 w2 bb b' K F:=by
 refine aG nE Z Z ?_
 obtain⟨ps,pA,pC,co,clo,chi,gr,glo,ghi,sns,snA,snC⟩:=b
 obtain⟨hpA,row,hsn,hown,hco,hgr,hps,H⟩:=B
 dsimp only at hpA row hsn hown hco hgr hps
 subst hpA
 replace H:Hp w0 w ((bb,.cells #[.slice (Qd gP) ps.length pC,J (co.clock),J (co.next),J (co.wait),.slice co.A co.txs.length co.cap,J (gr.clock),J (gr.wait),J (gr.gen),.slice gr.mA gr.ms.length gr.mC,.slice gr.oA gr.os.length gr.oC,.slice snA sns.length snC] cB (0,0))::(gP,.cells uP bY (0,0))::(Ls++(Lo++K))) F:=H
 dsimp only at hix hsl hcb hnp hp4
 show CW _ _ _ _ (args [.pointer (Qd bb),.agg #[J (a.kind),.string (a.name),J (a.part),J (a.n),J (a.m),.string (a.text),J (a.lost)]]) w
 refine W<|Zr<|gU H Z Z fun w1 b3 H=>fc H dn Z fun w2 b4 H=>U<|W ?_
 refine gp (τ:=Co×Nat×Nat×Nat) [5,6,7,8,10,11,12,13,14,15,16,17,18,19,20,21,22] (fun(_,b5,_,_)=>[(5,.pointer (Qd b5)),(6,J (bB co.a a.name).2.1),(7,J (bB co.a a.name).2.2.1),(8,J (bB co.a a.name).2.2.2)]) (fun(c3,b5,lo,hi) w'=>c3.a=(bB co.a a.name).1/\Hp w0 w' ((b5,.cells #[J (c3.clock),J (c3.next),J (c3.wait),.slice c3.A c3.txs.length c3.cap] aX (0,0))::(b4,.cells #[J (0),J (0),.slice none 0 0] gR (0,0))::(b3,.cells #[J (a.kind),.string (a.name),J (a.part),J (a.n),J (a.m),.string (a.text),J (a.lost)] iR (0,0))::(bb,.cells #[.slice (Qd gP) ps.length pC,J (co.clock),J (co.next),J (co.wait),.slice co.A co.txs.length co.cap,J (gr.clock),J (gr.wait),J (gr.gen),.slice gr.mA gr.ms.length gr.mC,.slice gr.oA gr.os.length gr.oC,.slice snA sns.length snC] cB (0,0))::(gP,.cells uP bY (0,0))::(Ls++(Lo++K))) (y3 w0 lo hi c3::F)) ?_ ?_
 refine oX cv 13 7 [7,8,9,10,11,12,14,15,16,17] [13] [0,1,2,3,5] [13,14,15,16,17] [7] [0,1,2,3,5,8,9,10,11,12] (sp [(13,Sp.blk w2.heap.size (.agg #[J 0,J 0,J 0,.slice none 0 0]) aX)]) (sp [(7,Sp.deep w2.heap.size PR (fun c:Co=>c.c.toArray) (fun cs=> .tuple #[.agg cs,J (bB co.a a.name).2.1,J (bB co.a a.name).2.2.1,J (bB co.a a.name).2.2.2]) (fun cq:Co=>cq.a=(bB co.a a.name).1))]) N N N N (cG _) (cG _) ?_ ?_
 refine jS [0,1,2,3,4,5,6,13] [7,8,9,10,11,12,14,15,16,17] [13] [0,1,2,3,5] 9 (sp [(13,Sp.blk w2.heap.size (.agg #[J 0,J 0,J 0,.slice none 0 0]) aX)]) N N N Nq<|aw Z Z Z Z Z (fun w' hw'=>Yp Z)<|aw Z Z Z Z Z (fun w' hw'=>aM Z)<|aw Z Z Z Z Z (fun w' hw'=>Zf aU Z)<|aw Z Z Z Z Z (fun w' hw'=>Zf eN Z)<|aw Z Z Z Z Z (fun w' hw'=>jW 1 [J (co.clock),J (co.next),J (co.wait),.slice co.A co.txs.length co.cap] az Z Z ((H.later hw').ent (i:=2) Z) Z)<|aw Z Z Z Z Z (fun w' hw'=>Zf fq Z)<|aw Z Z Z Z Z (fun w' hw'=>bd aY Z (aK ((H.later hw').ent (i:=1) Z) Z))<|y1 cH Z Z Z Z Z (fun w' hw'=>hw'.size) fun b5=>aT ?_
 intro w3 hw' hF
 obtain⟨hF,bq,eq,hge5,hbl5⟩:=hF;cases eq
 replace H:=H.adoptNew hw' hbl5 hge5
 clear hw' hF
 refine db 7 N Z<|cE ov (yu co a.name k _ (Hp.coM H hco) hcb hk hnm) Z Z ?_
 rintro _ w4 ⟨c3,rfl,hac3,hnc3⟩;replace H:=H.learn hnc3.2 (y3 w0 w3.heap.size w4.heap.size c3) ⟨H.size,hnc3.1⟩ (ap _) (ap _);clear hnc3
 refine U<|bw 8 N N N Z Z Z Z Nq (fun _=>Yu Z)<|bw 9 N N N Z Z Z Z Nq (fun _=>Xa Z Z)<|bw 10 N N N Z Z Z Z Nq (fun _=>Xi Z Z)<|bw 11 N N N Z Z Z Z Nq (fun _=>Xi Z Z)<|bw 12 N N N Z Z Z Z Nq (fun _=>Xi Z Z)<|db 14 N Z<|bI H 0 (#[J (c3.clock),J (c3.next),J (c3.wait),.slice c3.A c3.txs.length c3.cap]) aH Z Z Z Z Z N N fun w5 H=>U<|bw 15 N N N Z Z Z Z Nq (fun _=>Wi Z)<|bw 16 N N N Z Z Z Z Nq (fun _=>Wi Z)<|bw 17 N N N Z Z Z Z Nq (fun _=>Wi Z)<|cz N ?_
 exact⟨(c3,b5,_,_),⟨hac3,H⟩,Tq Z Z Z Z,Qg⟩
 refine jS [0,1,2,3,4,5,6,7,8,9,10,11,12] [13,14,15,16,17] [7] [0,1,2,3,5,8,9,10,11,12] 4 (sp [(7,Sp.deep w2.heap.size PR (fun c:Co=>c.c.toArray) (fun cs=> .tuple #[.agg cs,J (bB co.a a.name).2.1,J (bB co.a a.name).2.2.1,J (bB co.a a.name).2.2.2]) (fun cq:Co=>cq.a=(bB co.a a.name).1))]) N N N Nq<|aw Z Z Z Z Z (fun w' hw'=>Yp Z)<|aw Z Z Z Z Z (fun w' hw'=>aM Z)<|aw Z Z Z Z Z (fun w' hw'=>Zf aU Z)<|aw Z Z Z Z Z (fun w' hw'=>Zf eN Z)<|aw Z Z Z Z Z (fun w' hw'=>jW 1 [J (co.clock),J (co.next),J (co.wait),.slice co.A co.txs.length co.cap] az Z Z ((H.later hw').ent (i:=2) Z) Z)<|aw Z Z Z Z Z (fun w' hw'=>Zf fq Z)<|aw Z Z Z Z Z (fun w' hw'=>bd aY Z (aK ((H.later hw').ent (i:=1) Z) Z))<|ud (gv:=(fun cs=> .tuple #[.agg cs,J (bB co.a a.name).2.1,J (bB co.a a.name).2.2.1,J (bB co.a a.name).2.2.2])) ov Z Z Z Z Z (fun w' hw'=>hw'.size) (fun w' hw'=>yu co a.name k w' (Hp.coM (H.later hw') hco) hcb hk hnm) Z fun cs18=>aw Z Z Z Z Z (fun w' hw'=>Yu Z)<|aw Z Z Z Z Z (fun w' hw'=>Xa Z Z)<|aw Z Z Z Z Z (fun w' hw'=>Xi Z Z)<|aw Z Z Z Z Z (fun w' hw'=>Xi Z Z)<|aw Z Z Z Z Z (fun w' hw'=>Xi Z Z)<|aT ?_
 intro w6 hw' hF
 obtain⟨hF,c3,eq,hac3,hrd18⟩:=hF;cases eq
 replace H:=H.learn hw' (y3 w0 w2.heap.size w6.heap.size c3) ⟨H.size,hrd18⟩ (ap _) (ap _)
 clear hw' hF
 refine db 13 N Z<|fc H cH Z fun w7 b5 H=>U<|db 14 N Z<|bI H 0 (#[J (c3.clock),J (c3.next),J (c3.wait),.slice c3.A c3.txs.length c3.cap]) aH Z Z Z Z Z N N fun w8 H=>U<|bw 15 N N N Z Z Z Z Nq (fun _=>Wi Z)<|bw 16 N N N Z Z Z Z Nq (fun _=>Wi Z)<|bw 17 N N N Z Z Z Z Nq (fun _=>Wi Z)<|cz N ?_
 exact⟨(c3,b5,_,_),⟨hac3,H⟩,Tq Z Z Z Z,Qg⟩
 rintro⟨c3,b5,lo,hi⟩ ρ1 w9 ⟨hac3,H⟩
 show CW _ _ _ _ (dO (ij _ _ ρ1) [(5,.pointer (Qd b5)),(6,J (bB co.a a.name).2.1),(7,J (bB co.a a.name).2.2.1),(8,J (bB co.a a.name).2.2.2)]) w9
 refine W<|W<|Zr<|G (Yi Z) ?_
 refine sU (jv Z Z) Z Z Z (fun h24=> ?_) (fun h24=> ?_)
 refine U<|ZT Z<|W<|Zr<|G (Yi Z)<|cE bO (dU (bB co.a a.name).2.2.2 _) Z Z ?_
 rintro _ w10 ⟨rfl,hb⟩;replace H:=H.later hb;clear hb
 refine bI H 1 (#[J ((bB co.a a.name).2.2.2),J (0),.slice none 0 0]) bA Z Z Z Z Z N N fun w11 H=>U<|Zt ?_
 exact gB (cs0:= #[J ((bB co.a a.name).2.2.2),J (0),.slice none 0 0]) Z bx Z (H.ent (i:=1) Z) Z ⟨⟨ps,some ⟨gP,0,none⟩,pC,co,clo,chi,gr,glo,ghi,sns,snA,snC⟩,by rw[wl h24];exact pq.plain _ _ _,by rw[wl h24];rfl,Bw.shut (X:=[(b5,_),(b4,_),(b3,_)]) row hsn hown (aj _ hco) (aj _ hgr) (fun q hq=>aj _ (hps q hq)) (fun f hf=>aj _ hf) H Z⟩
 refine U<|ZF Z<|Zk<|W ?_
 have hok3:(bB co.a a.name).2.2.2=0:=by simpa using h24
 refine Zr<|G (Yp Z)<|G (Zw az H 0 Z Z Z)<|G (aM Z)<|G (Zf aU Z)<|G (Zf eN Z)<|bI H 3 (#[.slice (Qd gP) ps.length pC,J (c3.clock),J (c3.next),J (c3.wait),.slice c3.A c3.txs.length c3.cap,J (gr.clock),J (gr.wait),J (gr.gen),.slice gr.mA gr.ms.length gr.mC,.slice gr.oA gr.os.length gr.oC,.slice snA sns.length snC]) aH Z Z Z Z Z N N fun w12 H=>U<|W<|Zr<|G (Yp Z)<|G (Zf fq Z)<|G (Zd aY H 2 Z Z Z)<|cE dD (jK bb ⟨ps,some ⟨gP,0,none⟩,pC,c3,lo,hi,gr,glo,ghi,sns,snA,snC⟩ a.name Ls _ (H.ent (i:=3) Z) hsn (fun q hq=>(H.ents q (by simp only[Dx,uv,ay,ar];grind)).1) hsl) Z Z ?_
 rintro _ w13 ⟨rfl,hb⟩;replace H:=H.later hb;clear hb
 rw[hix]
 refine G (Wp Z)<|U<|W<|W<|Zr<|G (Yp Z)<|G (zl i7 Z)<|U<|ZT Z<|W<|Zr<|G (Yp Z)<|G (Yp Z)<|G (aM Z)<|G (Zf aU Z)<|G (Zf kG Z)<|G (Zd ks H 3 Z Z Z)<|G (bp (cs:= #[.string (⟨#[]⟩),J (0),J (0),.bool (false),.slice none 0 0,.slice none 0 0]) zh yd N)<|sK (vs:=[.agg #[.string (⟨#[]⟩),J (0),J (0),.bool (false),.slice none 0 0,.slice none 0 0]]) H tE yd Z Z Z Z Z Z fun w14 b45 H=>uO (Y:=BR) JZ (K:=[(b45,_),(b5,_),(b4,_),(b3,_),(bb,_),(gP,_)]) (L:=Ls) (M:=Lo++K) H hsn (es:=sns) (news:=[Tv]) Z Z Z (wL.row (m:=1) (sz:=BR.sz) (H.ent (i:=0) Z) Z) (by simp only[bv];omega) Z ?_
 intro A46 c46 w15 L46 h46 _ ho46 H
 obtain⟨sn2,hsn2⟩: ∃ l,sns++[Tv]=l:=⟨_,rfl⟩
 rw[hsn2]at ho46 h46⊢
 have hl2:sn2.length=sns.length+1:=by rw[<-hsn2];simp
 have hx2:sn2[sns.length]? =some Tv:=by rw[<-hsn2];simp
 have hlen2:((sn2.length:Nat):Int)-1=((sns.length:Nat):Int):=by omega
 obtain⟨gS,uS,rfl,rfl,rowS⟩:=ho46.row I
 replace H:Hp w0 w15 ((b45,.cells #[.string (⟨#[]⟩),J (0),J (0),.bool (false),.slice none 0 0,.slice none 0 0] fK (0,0))::(b5,.cells #[J (c3.clock),J (c3.next),J (c3.wait),.slice c3.A c3.txs.length c3.cap] aX (0,0))::(b4,.cells #[J (0),J (0),.slice none 0 0] gR (0,0))::(b3,.cells #[J (a.kind),.string (a.name),J (a.part),J (a.n),J (a.m),.string (a.text),J (a.lost)] iR (0,0))::(bb,.cells #[.slice (Qd gP) ps.length pC,J (c3.clock),J (c3.next),J (c3.wait),.slice c3.A c3.txs.length c3.cap,J (gr.clock),J (gr.wait),J (gr.gen),.slice gr.mA gr.ms.length gr.mC,.slice gr.oA gr.os.length gr.oC,.slice snA sns.length snC] cB (0,0))::(gP,.cells uP bY (0,0))::(gS,.cells uS fK (0,0))::(Lo++K)) (y3 w0 lo hi c3::F):=H
 refine G (aM Z)<|G (Zf aU Z)<|G (Zf kG Z)<|bI H 4 (#[.slice (Qd gP) ps.length pC,J (c3.clock),J (c3.next),J (c3.wait),.slice c3.A c3.txs.length c3.cap,J (gr.clock),J (gr.wait),J (gr.gen),.slice gr.mA gr.ms.length gr.mC,.slice gr.oA gr.os.length gr.oC,.slice (Qd gS) sn2.length c46]) G3 Z Z Z Z Z N N fun w16 H=>U ?_
 refine bG cv [0,1,2,3,4,5,6,7,8,9,10,11,12,13] [] [] [0,1,2,3,5,6,7,8,10,11,12,13] (sp []) N N N N Nq (cG _) ?_
 refine aw Z Z Z Z Z (fun w' hw'=>Yp Z)<|aw Z Z Z Z Z (fun w' hw'=>aM Z)<|aw Z Z Z Z Z (fun w' hw'=>Zf aU Z)<|aw Z Z Z Z Z (fun w' hw'=>Zf kG Z)<|aw Z Z Z Z Z (fun w' hw'=>bd ks Z (aK ((H.later hw').ent (i:=4) Z) Z))<|aw Z Z Z Z Z (fun w' hw'=>Yp Z)<|aw Z Z Z Z Z (fun w' hw'=>aM Z)<|aw Z Z Z Z Z (fun w' hw'=>Zf aU Z)<|aw Z Z Z Z Z (fun w' hw'=>Zf kG Z)<|aw Z Z Z Z Z (fun w' hw'=>bd ks Z (aK ((H.later hw').ent (i:=4) Z) Z))<|aw Z Z Z Z Z (fun w' hw'=>bl vf Z)<|aw Z Z Z Z Z (fun w' hw'=>qt Z Z I I)<|aw Z Z Z Z Z (fun w' hw'=>cL (k:=sns.length) tE Z (congrArg (Value.int .i64) hlen2) (by first|omega|(simp only[ae];omega)))<|aw Z Z Z Z Z (fun w' hw'=>Wp Z)<|aT ?_
 intro w17 hw' hF
 replace H:=H.later hw';clear hw' hF
 refine U<|W ?_
 refine bG cv [0,1,2,3,4,5,6,7,8,9,10,12,13,14,15,16,17,11,18,19,20] [21] [11,18] [0,1,3,4,5,6,7,8,10,12,13,14,15,17,19,20] (sp [(11,Sp.orow w17.heap.size bR cM (ao ps.length (0:Int))),(18,Sp.orow w17.heap.size gC dy (ao ps.length jJ))]) N N N N Nq (cG _) ?_
 refine aw Z Z Z Z Z (fun w' hw'=>Yp Z)<|aw Z Z Z Z Z (fun w' hw'=>Zf fq Z)<|aw Z Z Z Z Z (fun w' hw'=>bd aY Z (aK ((H.later hw').ent (i:=3) Z) Z))<|aw Z Z Z Z Z (fun w' hw'=>Yi Z)<|aw Z Z Z Z Z (fun w' hw'=>Yi Z)<|aw Z Z Z Z Z (fun w' hw'=>Yp Z)<|aw Z Z Z Z Z (fun w' hw'=>aM Z)<|aw Z Z Z Z Z (fun w' hw'=>Zf aU Z)<|aw Z Z Z Z Z (fun w' hw'=>Zf dF Z)<|aw Z Z Z Z Z (fun w' hw'=>bd er Z (aK ((H.later hw').ent (i:=4) Z) Z))<|aw Z Z Z Z Z (fun w' hw'=>bl kW Z)<|aw Z Z Z Z Z (fun w' hw'=>Yp Z)<|aw Z Z Z Z Z (fun w' hw'=>aM Z)<|aw Z Z Z Z Z (fun w' hw'=>Zf aU Z)<|aw Z Z Z Z Z (fun w' hw'=>Zf dF Z)<|aw Z Z Z Z Z (fun w' hw'=>bd er Z (aK ((H.later hw').ent (i:=4) Z) Z))<|aw Z Z Z Z Z (fun w' hw'=>bl kW Z)<|KH (Y:=bR) ((0:Int)) ps.length bj FR Z Z Z Z Z Z (fun w' hw'=>hw'.size) Z Z I I fun A74 c74 hc74=>KH (Y:=gC) (jJ) ps.length dY EK Z Z Z Z Z Z (fun w' hw'=>hw'.size) Z Z I I fun A81 c81 hc81=>aw Z Z Z Z Z (fun w' hw'=>bp (cs:= #[.string (a.name),J ((bB co.a a.name).2.1),J ((bB co.a a.name).2.2.1),.bool (false),.slice A74 (((ao ps.length (0:Int))).length) c74,.slice A81 ((ao ps.length jJ).length) c81]) zh yd N)<|aw Z Z Z Z Z (fun w' hw'=>aM Z)<|aT ?_
 intro w18 hw' hF
 obtain⟨hF,Aq,cq,L81,eq,hcq,hm81,ho81,he81,hn81⟩:=hF;cases eq;clear hcq
 obtain⟨hF,Aq,cq,L74,eq,hcq,hm74,ho74,he74,hn74⟩:=hF;cases eq;clear hcq
 obtain⟨nq,curq,rfl,rfl,rowq9⟩:=ho74.row (by simp only[bc];exact hnp)
 obtain⟨nl,curl,rfl,rfl,rowl9⟩:=ho81.row (by simp only[bc];exact hnp)
 have e74:=he74 _ (eh _)
 have e81:=he81 _ (eh _)
 replace H:=H.adopt2 hw' e74 e81 (tb e74.1 e81.1 Z)
 clear hw' hF
 refine nt H 8 (⟨a.name,(bB co.a a.name).2.1,(bB co.a a.name).2.2.1,false,ao ps.length 0,some ⟨nq,0,none⟩,c74,ao ps.length jJ,some ⟨nl,0,none⟩,c81⟩) BU rowS hx2 0 Z Z Z Z Z Z N fun w20 cur19 row19 H=> ?_
 have hs21:(sn2.set sns.length (⟨a.name,(bB co.a a.name).2.1,(bB co.a a.name).2.2.1,false,ao ps.length 0,some ⟨nq,0,none⟩,c74,ao ps.length jJ,some ⟨nl,0,none⟩,c81⟩))[sns.length]? =some (⟨a.name,(bB co.a a.name).2.1,(bB co.a a.name).2.2.1,false,ao ps.length 0,some ⟨nq,0,none⟩,c74,ao ps.length jJ,some ⟨nl,0,none⟩,c81⟩):=ak (bZ hx2).1
 refine U<|W<|Zr<|G (Yi Z)<|G (bp (cs:= #[J (0),J ((bB co.a a.name).2.2.1),.slice none 0 0]) iX dn N)<|bI H 4 (#[J (0),J ((bB co.a a.name).2.2.1),.slice none 0 0]) bA Z Z Z Z Z N N fun w22 H=>U<|Zt ?_
 have hn7:=hown.snoc (s:=(⟨a.name,(bB co.a a.name).2.1,(bB co.a a.name).2.2.1,false,ao ps.length 0,some ⟨nq,0,none⟩,c74,ao ps.length jJ,some ⟨nl,0,none⟩,c81⟩:Sn)) Z Z rowq9 rowl9
 have hs7:sn2.set sns.length (⟨a.name,(bB co.a a.name).2.1,(bB co.a a.name).2.2.1,false,ao ps.length 0,some ⟨nq,0,none⟩,c74,ao ps.length jJ,some ⟨nl,0,none⟩,c81⟩:Sn)=sns++[⟨a.name,(bB co.a a.name).2.1,(bB co.a a.name).2.2.1,false,ao ps.length 0,some ⟨nq,0,none⟩,c74,ao ps.length jJ,some ⟨nl,0,none⟩,c81⟩]:=by rw[<-hsn2,jt _ _ (ap _),mQ];rfl
 have row7:=row19
 rw[hs7]at row7
 refine gB (cs0:= #[J (0),J ((bB co.a a.name).2.2.1),.slice none 0 0]) Z bx Z (H.ent (i:=4) Z) Z ⟨⟨ps,some ⟨gP,0,none⟩,pC,c3,lo,hi,gr,glo,ghi,sns++[⟨a.name,(bB co.a a.name).2.1,(bB co.a a.name).2.2.1,false,ao ps.length 0,some ⟨nq,0,none⟩,c74,ao ps.length jJ,some ⟨nl,0,none⟩,c81⟩],some ⟨gS,0,none⟩,c46⟩,by rw[EU hix hok3];exact pq.plain _ _ _,by rw[EU hix hok3,<-hac3];unfold Bk.a;rw[bi];rfl,⟨gP,uP,_,_,_,⟨rfl,row,d8.own row7,hn7,(aA ..),(aj _ hgr),(fun q hq=>aj _ (hps q hq)),?_⟩,(fun f hf=>aj _ hf)⟩⟩
 have H7:=H.forget (L':=(nq,_)::(nl,_)::(bb,_)::(gP,_)::(gS,_)::(Lo++K)) (.cons_cons _ (.cons_cons _ (ci [(b45,_),(b5,_),(b4,_),(b3,_)] _))) (fun _ h=>h)
 have hl7:sn2.length=(sns++[(⟨a.name,(bB co.a a.name).2.1,(bB co.a a.name).2.2.1,false,ao ps.length 0,some ⟨nq,0,none⟩,c74,ao ps.length jJ,some ⟨nl,0,none⟩,c81⟩:Sn)]).length:=by rw[hl2,av];rfl
 rw[hl7]at H7
 exact H7.perm (QY [(bb,_),(gP,_),(gS,_)] [(nq,_),(nl,_)] Lo K)
theorem Ma {w0 w:World} {bb:Nat} {b:Bk} {gP:Nat} {uP:Array Value} {Ls Lo K:List (Nat×Obj)} {F:List cf} (a:Act) (B:Bw w0 w bb b gP uP Ls Lo K F) (hsl:b.sns.length<=1000000) {k:Nat} (hnm:bC a.name=true) (hcb:pn k b.co) (hk:k<=1000) (hnp:0<b.ps.length) (hp4:b.ps.length<=4) {i:Nat} {x:Sn} (hix:dT b.sns a.name=some i) (hx:b.sns[i]? =some x):di aa kB [.pointer (Qd bb),a.v] w fun v w2=> ∃ b':Bk,pq (mp b.a a).2 v w2/\b'.a=(mp b.a a).1/\y4 w0 w2 bb b' K F:=by
 refine aG nE Z Z ?_
 obtain⟨ps,pA,pC,co,clo,chi,gr,glo,ghi,sns,snA,snC⟩:=b
 obtain⟨hpA,row,hsn,hown,hco,hgr,hps,H⟩:=B
 dsimp only at hpA row hsn hown hco hgr hps
 subst hpA
 dsimp only at hix hx
 obtain⟨gS,uS,hgS,hLs,rowS⟩:=hsn.row (by have:=(bZ hx).1;omega)
 subst hgS;subst hLs
 obtain⟨gq,uq,gl,ul,La,Lb,hsA,hlA,rowq,rowl,hLo,hset⟩:=hown.at_ hx
 subst hLo
 replace H:Hp w0 w ((bb,.cells #[.slice (Qd gP) ps.length pC,J (co.clock),J (co.next),J (co.wait),.slice co.A co.txs.length co.cap,J (gr.clock),J (gr.wait),J (gr.gen),.slice gr.mA gr.ms.length gr.mC,.slice gr.oA gr.os.length gr.oC,.slice (Qd gS) sns.length snC] cB (0,0))::(gP,.cells uP bY (0,0))::(gS,.cells uS fK (0,0))::(gq,.cells uq cM (0,0))::(gl,.cells ul dy (0,0))::(La++(Lb++K))) F:=H.perm (EW [(bb,_),(gP,_),(gS,_)] _ _ La Lb K)
 dsimp only at hsl hcb hnp hp4
 show CW _ _ _ _ (args [.pointer (Qd bb),.agg #[J (a.kind),.string (a.name),J (a.part),J (a.n),J (a.m),.string (a.text),J (a.lost)]]) w
 refine W<|Zr<|gU H Z Z fun w1 b3 H=>fc H dn Z fun w2 b4 H=>U<|W ?_
 refine gp (τ:=Co×Nat×Nat×Nat) [5,6,7,8,10,11,12,13,14,15,16,17,18,19,20,21,22] (fun(_,b5,_,_)=>[(5,.pointer (Qd b5)),(6,J (bB co.a a.name).2.1),(7,J (bB co.a a.name).2.2.1),(8,J (bB co.a a.name).2.2.2)]) (fun(c3,b5,lo,hi) w'=>c3.a=(bB co.a a.name).1/\Hp w0 w' ((b5,.cells #[J (c3.clock),J (c3.next),J (c3.wait),.slice c3.A c3.txs.length c3.cap] aX (0,0))::(b4,.cells #[J (0),J (0),.slice none 0 0] gR (0,0))::(b3,.cells #[J (a.kind),.string (a.name),J (a.part),J (a.n),J (a.m),.string (a.text),J (a.lost)] iR (0,0))::(bb,.cells #[.slice (Qd gP) ps.length pC,J (co.clock),J (co.next),J (co.wait),.slice co.A co.txs.length co.cap,J (gr.clock),J (gr.wait),J (gr.gen),.slice gr.mA gr.ms.length gr.mC,.slice gr.oA gr.os.length gr.oC,.slice (Qd gS) sns.length snC] cB (0,0))::(gP,.cells uP bY (0,0))::(gS,.cells uS fK (0,0))::(gq,.cells uq cM (0,0))::(gl,.cells ul dy (0,0))::La++(Lb++K)) (y3 w0 lo hi c3::F)) ?_ ?_
 refine oX cv 13 7 [7,8,9,10,11,12,14,15,16,17] [13] [0,1,2,3,5] [13,14,15,16,17] [7] [0,1,2,3,5,8,9,10,11,12] (sp [(13,Sp.blk w2.heap.size (.agg #[J 0,J 0,J 0,.slice none 0 0]) aX)]) (sp [(7,Sp.deep w2.heap.size PR (fun c:Co=>c.c.toArray) (fun cs=> .tuple #[.agg cs,J (bB co.a a.name).2.1,J (bB co.a a.name).2.2.1,J (bB co.a a.name).2.2.2]) (fun cq:Co=>cq.a=(bB co.a a.name).1))]) N N N N (cG _) (cG _) ?_ ?_
 refine jS [0,1,2,3,4,5,6,13] [7,8,9,10,11,12,14,15,16,17] [13] [0,1,2,3,5] 9 (sp [(13,Sp.blk w2.heap.size (.agg #[J 0,J 0,J 0,.slice none 0 0]) aX)]) N N N Nq<|aw Z Z Z Z Z (fun w' hw'=>Yp Z)<|aw Z Z Z Z Z (fun w' hw'=>aM Z)<|aw Z Z Z Z Z (fun w' hw'=>Zf aU Z)<|aw Z Z Z Z Z (fun w' hw'=>Zf eN Z)<|aw Z Z Z Z Z (fun w' hw'=>jW 1 [J (co.clock),J (co.next),J (co.wait),.slice co.A co.txs.length co.cap] az Z Z ((H.later hw').ent (i:=2) Z) Z)<|aw Z Z Z Z Z (fun w' hw'=>Zf fq Z)<|aw Z Z Z Z Z (fun w' hw'=>bd aY Z (aK ((H.later hw').ent (i:=1) Z) Z))<|y1 cH Z Z Z Z Z (fun w' hw'=>hw'.size) fun b5=>aT ?_
 intro w3 hw' hF
 obtain⟨hF,bq,eq,hge5,hbl5⟩:=hF;cases eq
 replace H:=H.adoptNew hw' hbl5 hge5
 clear hw' hF
 refine db 7 N Z<|cE ov (yu co a.name k _ (Hp.coM H hco) hcb hk hnm) Z Z ?_
 rintro _ w4 ⟨c3,rfl,hac3,hnc3⟩;replace H:=H.learn hnc3.2 (y3 w0 w3.heap.size w4.heap.size c3) ⟨H.size,hnc3.1⟩ (ap _) (ap _);clear hnc3
 refine U<|bw 8 N N N Z Z Z Z Nq (fun _=>Yu Z)<|bw 9 N N N Z Z Z Z Nq (fun _=>Xa Z Z)<|bw 10 N N N Z Z Z Z Nq (fun _=>Xi Z Z)<|bw 11 N N N Z Z Z Z Nq (fun _=>Xi Z Z)<|bw 12 N N N Z Z Z Z Nq (fun _=>Xi Z Z)<|db 14 N Z<|bI H 0 (#[J (c3.clock),J (c3.next),J (c3.wait),.slice c3.A c3.txs.length c3.cap]) aH Z Z Z Z Z N N fun w5 H=>U<|bw 15 N N N Z Z Z Z Nq (fun _=>Wi Z)<|bw 16 N N N Z Z Z Z Nq (fun _=>Wi Z)<|bw 17 N N N Z Z Z Z Nq (fun _=>Wi Z)<|cz N ?_
 exact⟨(c3,b5,_,_),⟨hac3,H⟩,Tq Z Z Z Z,Qg⟩
 refine jS [0,1,2,3,4,5,6,7,8,9,10,11,12] [13,14,15,16,17] [7] [0,1,2,3,5,8,9,10,11,12] 4 (sp [(7,Sp.deep w2.heap.size PR (fun c:Co=>c.c.toArray) (fun cs=> .tuple #[.agg cs,J (bB co.a a.name).2.1,J (bB co.a a.name).2.2.1,J (bB co.a a.name).2.2.2]) (fun cq:Co=>cq.a=(bB co.a a.name).1))]) N N N Nq<|aw Z Z Z Z Z (fun w' hw'=>Yp Z)<|aw Z Z Z Z Z (fun w' hw'=>aM Z)<|aw Z Z Z Z Z (fun w' hw'=>Zf aU Z)<|aw Z Z Z Z Z (fun w' hw'=>Zf eN Z)<|aw Z Z Z Z Z (fun w' hw'=>jW 1 [J (co.clock),J (co.next),J (co.wait),.slice co.A co.txs.length co.cap] az Z Z ((H.later hw').ent (i:=2) Z) Z)<|aw Z Z Z Z Z (fun w' hw'=>Zf fq Z)<|aw Z Z Z Z Z (fun w' hw'=>bd aY Z (aK ((H.later hw').ent (i:=1) Z) Z))<|ud (gv:=(fun cs=> .tuple #[.agg cs,J (bB co.a a.name).2.1,J (bB co.a a.name).2.2.1,J (bB co.a a.name).2.2.2])) ov Z Z Z Z Z (fun w' hw'=>hw'.size) (fun w' hw'=>yu co a.name k w' (Hp.coM (H.later hw') hco) hcb hk hnm) Z fun cs18=>aw Z Z Z Z Z (fun w' hw'=>Yu Z)<|aw Z Z Z Z Z (fun w' hw'=>Xa Z Z)<|aw Z Z Z Z Z (fun w' hw'=>Xi Z Z)<|aw Z Z Z Z Z (fun w' hw'=>Xi Z Z)<|aw Z Z Z Z Z (fun w' hw'=>Xi Z Z)<|aT ?_
 intro w6 hw' hF
 obtain⟨hF,c3,eq,hac3,hrd18⟩:=hF;cases eq
 replace H:=H.learn hw' (y3 w0 w2.heap.size w6.heap.size c3) ⟨H.size,hrd18⟩ (ap _) (ap _)
 clear hw' hF
 refine db 13 N Z<|fc H cH Z fun w7 b5 H=>U<|db 14 N Z<|bI H 0 (#[J (c3.clock),J (c3.next),J (c3.wait),.slice c3.A c3.txs.length c3.cap]) aH Z Z Z Z Z N N fun w8 H=>U<|bw 15 N N N Z Z Z Z Nq (fun _=>Wi Z)<|bw 16 N N N Z Z Z Z Nq (fun _=>Wi Z)<|bw 17 N N N Z Z Z Z Nq (fun _=>Wi Z)<|cz N ?_
 exact⟨(c3,b5,_,_),⟨hac3,H⟩,Tq Z Z Z Z,Qg⟩
 rintro⟨c3,b5,lo,hi⟩ ρ1 w9 ⟨hac3,H⟩
 show CW _ _ _ _ (dO (ij _ _ ρ1) [(5,.pointer (Qd b5)),(6,J (bB co.a a.name).2.1),(7,J (bB co.a a.name).2.2.1),(8,J (bB co.a a.name).2.2.2)]) w9
 refine W<|W<|Zr<|G (Yi Z) ?_
 refine sU (jv Z Z) Z Z Z (fun h24=> ?_) (fun h24=> ?_)
 refine U<|ZT Z<|W<|Zr<|G (Yi Z)<|cE bO (dU (bB co.a a.name).2.2.2 _) Z Z ?_
 rintro _ w10 ⟨rfl,hb⟩;replace H:=H.later hb;clear hb
 refine bI H 1 (#[J ((bB co.a a.name).2.2.2),J (0),.slice none 0 0]) bA Z Z Z Z Z N N fun w11 H=>U<|Zt ?_
 exact gB (cs0:= #[J ((bB co.a a.name).2.2.2),J (0),.slice none 0 0]) Z bx Z (H.ent (i:=1) Z) Z ⟨⟨ps,some ⟨gP,0,none⟩,pC,co,clo,chi,gr,glo,ghi,sns.set i x,some ⟨gS,0,none⟩,snC⟩,by rw[wl h24];exact pq.plain _ _ _,by rw[wl h24,fg hx];rfl,Bw.close (X:=[(b5,_),(b4,_),(b3,_)]) row (by rw[fg hx];exact rowS) hset hsA hlA rowq rowl (aj _ hco) (aj _ hgr) (fun q hq=>aj _ (hps q hq)) (fun f hf=>aj _ hf) H (by rw[fg hx];rfl)⟩
 refine U<|ZF Z<|Zk<|W ?_
 have hok3:(bB co.a a.name).2.2.2=0:=by simpa using h24
 refine Zr<|G (Yp Z)<|G (Zw az H 0 Z Z Z)<|G (aM Z)<|G (Zf aU Z)<|G (Zf eN Z)<|bI H 3 (#[.slice (Qd gP) ps.length pC,J (c3.clock),J (c3.next),J (c3.wait),.slice c3.A c3.txs.length c3.cap,J (gr.clock),J (gr.wait),J (gr.gen),.slice gr.mA gr.ms.length gr.mC,.slice gr.oA gr.os.length gr.oC,.slice (Qd gS) sns.length snC]) aH Z Z Z Z Z N N fun w12 H=>U<|W<|Zr<|G (Yp Z)<|G (Zf fq Z)<|G (Zd aY H 2 Z Z Z)<|cE dD (jK bb ⟨ps,some ⟨gP,0,none⟩,pC,c3,lo,hi,gr,glo,ghi,sns,some ⟨gS,0,none⟩,snC⟩ a.name _ _ (H.ent (i:=3) Z) (d8.own rowS) (fun q hq=>by rw[aq.1 hq];exact(H.ent (i:=5) Z)) hsl) Z Z ?_
 rintro _ w13 ⟨rfl,hb⟩;replace H:=H.later hb;clear hb
 rw[hix]
 refine G (Wp Z)<|U<|W<|W<|Zr<|G (Yp Z)<|G (xw i7 Z)<|U<|ZF Z<|Zk<|W ?_
 refine bG cv [0,1,2,3,4,5,6,7,8,9,10,12,13,14,15,16,17,11,18,19,20] [21] [11,18] [0,1,3,4,5,6,7,8,10,12,13,14,15,17,19,20] (sp [(11,Sp.orow w13.heap.size bR cM (ao ps.length (0:Int))),(18,Sp.orow w13.heap.size gC dy (ao ps.length jJ))]) N N N N Nq (cG _) ?_
 refine aw Z Z Z Z Z (fun w' hw'=>Yp Z)<|aw Z Z Z Z Z (fun w' hw'=>Zf fq Z)<|aw Z Z Z Z Z (fun w' hw'=>bd aY Z (aK ((H.later hw').ent (i:=2) Z) Z))<|aw Z Z Z Z Z (fun w' hw'=>Yi Z)<|aw Z Z Z Z Z (fun w' hw'=>Yi Z)<|aw Z Z Z Z Z (fun w' hw'=>Yp Z)<|aw Z Z Z Z Z (fun w' hw'=>aM Z)<|aw Z Z Z Z Z (fun w' hw'=>Zf aU Z)<|aw Z Z Z Z Z (fun w' hw'=>Zf dF Z)<|aw Z Z Z Z Z (fun w' hw'=>bd er Z (aK ((H.later hw').ent (i:=3) Z) Z))<|aw Z Z Z Z Z (fun w' hw'=>bl kW Z)<|aw Z Z Z Z Z (fun w' hw'=>Yp Z)<|aw Z Z Z Z Z (fun w' hw'=>aM Z)<|aw Z Z Z Z Z (fun w' hw'=>Zf aU Z)<|aw Z Z Z Z Z (fun w' hw'=>Zf dF Z)<|aw Z Z Z Z Z (fun w' hw'=>bd er Z (aK ((H.later hw').ent (i:=3) Z) Z))<|aw Z Z Z Z Z (fun w' hw'=>bl kW Z)<|KH (Y:=bR) ((0:Int)) ps.length bj FR Z Z Z Z Z Z (fun w' hw'=>hw'.size) Z Z I I fun A74 c74 hc74=>KH (Y:=gC) (jJ) ps.length dY EK Z Z Z Z Z Z (fun w' hw'=>hw'.size) Z Z I I fun A81 c81 hc81=>aw Z Z Z Z Z (fun w' hw'=>bp (cs:= #[.string (a.name),J ((bB co.a a.name).2.1),J ((bB co.a a.name).2.2.1),.bool (false),.slice A74 (((ao ps.length (0:Int))).length) c74,.slice A81 ((ao ps.length jJ).length) c81]) zh yd N)<|aw Z Z Z Z Z (fun w' hw'=>aM Z)<|aT ?_
 intro w14 hw' hF
 obtain⟨hF,Aq,cq,L81,eq,hcq,hm81,ho81,he81,hn81⟩:=hF;cases eq;clear hcq
 obtain⟨hF,Aq,cq,L74,eq,hcq,hm74,ho74,he74,hn74⟩:=hF;cases eq;clear hcq
 obtain⟨nq,curq,rfl,rfl,rowq9⟩:=ho74.row (by simp only[bc];exact hnp)
 obtain⟨nl,curl,rfl,rfl,rowl9⟩:=ho81.row (by simp only[bc];exact hnp)
 have e74:=he74 _ (eh _)
 have e81:=he81 _ (eh _)
 replace H:=H.adopt2 hw' e74 e81 (tb e74.1 e81.1 Z)
 clear hw' hF
 refine nt H 7 (⟨a.name,(bB co.a a.name).2.1,(bB co.a a.name).2.2.1,false,ao ps.length 0,some ⟨nq,0,none⟩,c74,ao ps.length jJ,some ⟨nl,0,none⟩,c81⟩) BU rowS hx 0 Z Z Z Z Z Z N fun w16 cur15 row15 H=> ?_
 have hs17:(sns.set i (⟨a.name,(bB co.a a.name).2.1,(bB co.a a.name).2.2.1,false,ao ps.length 0,some ⟨nq,0,none⟩,c74,ao ps.length jJ,some ⟨nl,0,none⟩,c81⟩))[i]? =some (⟨a.name,(bB co.a a.name).2.1,(bB co.a a.name).2.2.1,false,ao ps.length 0,some ⟨nq,0,none⟩,c74,ao ps.length jJ,some ⟨nl,0,none⟩,c81⟩):=ak (bZ hx).1
 refine U<|W<|Zr<|G (Yi Z)<|G (bp (cs:= #[J (0),J ((bB co.a a.name).2.2.1),.slice none 0 0]) iX dn N)<|bI H 3 (#[J (0),J ((bB co.a a.name).2.2.1),.slice none 0 0]) bA Z Z Z Z Z N N fun w18 H=>U<|Zt ?_
 have H7:=H.forget (L':=(nq,_)::(nl,_)::(bb,_)::(gP,_)::(gS,_)::(La++(Lb++K))) (.cons_cons _ (.cons_cons _ ((au _).trans (.trans (.cons_cons _ (.cons_cons _ (.cons_cons _ (.cons _ (.cons _ (au _)))))) (ci [(b5,_),(b4,_),(b3,_)] _))))) (fun _ h=>h)
 have hm7:(sns.set i (⟨a.name,(bB co.a a.name).2.1,(bB co.a a.name).2.2.1,false,ao ps.length 0,some ⟨nq,0,none⟩,c74,ao ps.length jJ,some ⟨nl,0,none⟩,c81⟩:Sn)).map Sn.a=(sns.map Sn.a).set i (rB a.name (bB co.a a.name).2.1 (bB co.a a.name).2.2.1 ps.length):=by rw[cO];rfl
 replace H7:=H7.perm (gu [(bb,_),(gP,_),(gS,_)] [(nq,_),(nl,_)] _)
 exact gB (cs0:= #[J (0),J ((bB co.a a.name).2.2.1),.slice none 0 0]) Z bx Z (H.ent (i:=3) Z) Z ⟨⟨ps,some ⟨gP,0,none⟩,pC,c3,lo,hi,gr,glo,ghi,sns.set i ⟨a.name,(bB co.a a.name).2.1,(bB co.a a.name).2.2.1,false,ao ps.length 0,some ⟨nq,0,none⟩,c74,ao ps.length jJ,some ⟨nl,0,none⟩,c81⟩,some ⟨gS,0,none⟩,snC⟩,by rw[ET hix hok3];exact pq.plain _ _ _,by rw[ET hix hok3,<-hac3];show Wa.mk _ _ _ ((sns.set i ⟨a.name,(bB co.a a.name).2.1,(bB co.a a.name).2.2.1,false,ao ps.length 0,some ⟨nq,0,none⟩,c74,ao ps.length jJ,some ⟨nl,0,none⟩,c81⟩).map Sn.a)=Wa.mk _ _ _ _;rw[hm7];rfl,Bw.close (X:=[]) row row15 hset Z Z rowq9 rowl9 (aA ..) (aj _ hgr) (fun q hq=>aj _ (hps q hq)) (fun f hf=>aj _ hf) H7 (by simp only[Bk.c,ae])⟩
theorem CX {c:Co} (h:iD c=true) {t:Tx} (ht:t∈c.txs): ∃ i,d6 c t.name=some (i,t):=by
 obtain⟨-,-,h3⟩:=dS.1 h
 obtain⟨i,hi⟩:=aN.1 ht
 obtain⟨hl,he⟩:=bZ hi
 have:(c.txs.findIdx? fun p=>decide (p.name=t.name))=some i:=by
  rw[aF]
  refine⟨hl,by rw[he];simp,fun j hj=> ?_⟩
  unfold rS at h3
  rw[eQ,fF]at h3
  have:=(h3 j i I hl hj).1
  rw[he]at this
  simpa using this
 exact⟨i,by unfold d6;rw[this];simp[hi]⟩
theorem sR {c:Co} (h:iD c=true) {n:Nat} {t:Tx} (ht:fW c.txs n=some t):(∃ i,d6 c t.name=some (i,t))/\(t.state=3∨t.state=4)/\t.parts.headD 0∈t.parts/\0<=t.parts.headD 0/\t.parts.headD 0<4:=by
 unfold fW at ht
 obtain⟨hm,he⟩:=gT.1 (ab ht)
 have hs:t.state=3∨t.state=4:=by unfold fZ at he;simpa using he
 have hx:=dp.1 ((dS.1 h).2.1 t hm)
 have hp:t.parts.headD 0∈t.parts:=by
  cases hp:t.parts with
  |nil=>have:=hx.2.2.2.2.2.2.2.2.2.2.2 (by rw[hp];rfl);omega
  |cons a l=>simp
 exact⟨CX h hm,hs,hp,by have:=(fE hx.2.2.2.2.2.2.2.2.2.1).2 _ hp;omega⟩
theorem C4 {c:Co} {s:ByteArray} {p:Int} {i:Nat} {t:Tx} (hf:d6 c s=some (i,t)) (h34:t.state=3∨t.state=4) (hp:p∈t.parts):(nb c s p).2=0:=by
 unfold nb
 rw[hf]
 dsimp only
 rw[if_pos h34,if_pos hp]
theorem Ji {w:Wa} {a:Act} (h:fW w.co.txs a.n.toNat=none):kg w a=lY w 15:=by
 unfold kg
 rw[h]
theorem Ou {w:Wa} {a:Act} {t:Tx} {n:Nat} {p:gi} (h:fW w.co.txs a.n.toNat=some t) (hn:t.parts.headD 0=(n:Nat)) (hp:w.ps[n]? =some p):kg w a=if(eF p (bP t)).2.2=0 then({w with ps:=w.ps.set n (eF p (bP t)).1,co:=(nb w.co t.name (t.parts.headD 0)).1},⟨0,(eF p (bP t)).2.1,[]⟩)else lY w (eF p (bP t)).2.2:=by
 unfold kg
 rw[h]
 dsimp only
 rw[show(t.parts.headD 0).toNat=n by omega,Kl hp]
 split
 rename_i h0
 rw[if_pos (by rfl)]
 rename_i h0
 rw[if_neg (show¬ (lY w (eF p (bP t)).2.2).2.code=0 from h0)]
theorem LP {w:Wa} {a:Act} {t:Tx} {n:Nat} (h:fW w.co.txs a.n.toNat=some t) (hn:t.parts.headD 0=(n:Nat)) (hp:w.ps[n]? =none):kg w a=lY w 5:=by
 unfold kg ib
 rw[h]
 dsimp only
 rw[show(t.parts.headD 0).toNat=n by omega,hp]
 dsimp only
 rw[if_neg (by show¬ (5:Int)=0;decide)]
theorem LO {w0 w:World} {bb:Nat} {b:Bk} {gP:Nat} {uP:Array Value} {Ls Lo K:List (Nat×Obj)} {F:List cf} (a:Act) (B:Bw w0 w bb b gP uP Ls Lo K F) {k:Nat} (hcb:pn k b.co) (hn:0<=a.n/\a.n<=1000) (hne:fW b.co.a.txs a.n.toNat=none):di aa kz [.pointer (Qd bb),a.v] w fun v w2=> ∃ b':Bk,pq (kg b.a a).2 v w2/\b'.a=(kg b.a a).1/\y4 w0 w2 bb b' K F:=by
 refine aG nD Z Z ?_
 have hsp:=Ji (w:=b.a) hne
 obtain⟨ps,pA,pC,co,clo,chi,gr,glo,ghi,sns,snA,snC⟩:=b
 obtain⟨hpA,row,hsn,hown,hco,hgr,hps,H⟩:=B
 dsimp only at hpA row hsn hown hco hgr hps
 subst hpA
 replace H:Hp w0 w ((bb,.cells #[.slice (Qd gP) ps.length pC,J (co.clock),J (co.next),J (co.wait),.slice co.A co.txs.length co.cap,J (gr.clock),J (gr.wait),J (gr.gen),.slice gr.mA gr.ms.length gr.mC,.slice gr.oA gr.os.length gr.oC,.slice snA sns.length snC] cB (0,0))::(gP,.cells uP bY (0,0))::(Ls++(Lo++K))) F:=H
 dsimp only at hcb hne
 obtain⟨m,hnm⟩: ∃ m:Nat,a.n=(m:Int):=⟨a.n.toNat,by omega⟩
 have htm:a.n.toNat=m:=by omega
 rw[htm]at hne
 show CW _ _ _ _ (args [.pointer (Qd bb),.agg #[J (a.kind),.string (a.name),J (a.part),J (a.n),J (a.m),.string (a.text),J (a.lost)]]) w
 refine W<|Zr<|gU H Z Z fun w1 b3 H=>fc H dn Z fun w2 b4 H=>U<|W ?_
 refine bG cv [0,1,2,3,4,5,6,7,8,9,10,11,12,13,14,15] [16,17] [7,13] [0,1,2,3,5,8,9,10,11,12,14,15] (sp [(7,Sp.one (Aj none)),(13,Sp.blk w2.heap.size (.agg #[J 0,J 0,J 0,J 0,J 0,.bool false,.string ⟨#[]⟩]) dy)]) N N N N Nq (cG _) ?_
 refine aw Z Z Z Z Z (fun w' hw'=>Yp Z)<|aw Z Z Z Z Z (fun w' hw'=>aM Z)<|aw Z Z Z Z Z (fun w' hw'=>Zf aU Z)<|aw Z Z Z Z Z (fun w' hw'=>Zf eN Z)<|aw Z Z Z Z Z (fun w' hw'=>jW 1 [J (co.clock),J (co.next),J (co.wait),.slice co.A co.txs.length co.cap] az Z Z ((H.later hw').ent (i:=2) Z) Z)<|aw Z Z Z Z Z (fun w' hw'=>Zf fY Z)<|aw Z Z Z Z Z (fun w' hw'=>bd al Z (aK ((H.later hw').ent (i:=1) Z) Z))<|jy xj Z Z Z Z Z (fun w' hw'=>(by have hA:=Hn co m w' (Hp.coM (H.later hw') hco) hcb.ok I;rw[show fW co.a.txs m=_ from hne,<-hnm]at hA;exact hA)) Z<|aw Z Z Z Z Z (fun w' hw'=>Yu Z)<|aw Z Z Z Z Z (fun w' hw'=>RI Z Z)<|aw Z Z Z Z Z (fun w' hw'=>Xi Z Z)<|aw Z Z Z Z Z (fun w' hw'=>Xa Z Z)<|aw Z Z Z Z Z (fun w' hw'=>Xi Z Z)<|y1 gz Z Z Z Z Z (fun w' hw'=>hw'.size) fun b7=>aw Z Z Z Z Z (fun w' hw'=>Wt Z)<|aw Z Z Z Z Z (fun w' hw'=>Wi Z)<|aT ?_
 intro w3 hw' hF
 obtain⟨hF,bq,eq,hge7,hbl7⟩:=hF;cases eq
 obtain⟨hF,-⟩:=hF
 have Hb:=H
 replace H:=H.adoptNew hw' hbl7 hge7
 clear hw' hF
 refine bI H 0 (#[J (0),J (0),J (0),J (0),J (0),.bool (false),.string (⟨#[]⟩)]) eX Z Z Z Z Z N N fun w4 H=>G (Wi Z)<|U<|W<|W<|Zr<|G (Yi Z)<|G (l9 Z Z (by decide))<|U<|ZT Z<|W<|Zr<|G (Yi Z)<|cE bO (dU 15 _) Z Z ?_
 rintro _ w5 ⟨rfl,hb⟩;replace H:=H.later hb;clear hb
 refine bI H 1 (#[J (15),J (0),.slice none 0 0]) bA Z Z Z Z Z N N fun w6 H=>U<|Zt ?_
 exact gB (cs0:= #[J (15),J (0),.slice none 0 0]) Z bx Z (H.ent (i:=1) Z) Z ⟨⟨ps,some ⟨gP,0,none⟩,pC,co,clo,chi,gr,glo,ghi,sns,snA,snC⟩,by rw[hsp];exact pq.plain _ _ _,by rw[hsp];rfl,Bw.shut (X:=[(b7,_),(b4,_),(b3,_)]) row hsn hown hco hgr hps (fun _ h=>h) H Z⟩
theorem LN {w0 w:World} {bb:Nat} {b:Bk} {gP:Nat} {uP:Array Value} {Ls Lo K:List (Nat×Obj)} {F:List cf} (a:Act) (B:Bw w0 w bb b gP uP Ls Lo K F) {k:Nat} (hcb:pn k b.co) (hn:0<=a.n/\a.n<=1000) (hpk: ∀ q∈b.ps,q.p.a.ok/\ ∀ (l:Nat) (y:gh),q.p.leader=l->q.p.reps[l]? =some y->y.es.length<400) {t:Tx} (hne:fW b.co.a.txs a.n.toNat=some t):di aa kz [.pointer (Qd bb),a.v] w fun v w2=> ∃ b':Bk,pq (kg b.a a).2 v w2/\b'.a=(kg b.a a).1/\y4 w0 w2 bb b' K F:=by
 refine aG nD Z Z ?_
 have hne0:fW b.a.co.txs a.n.toNat=some t:=hne
 obtain⟨⟨ti,hf⟩,h34,hpt,hp0,hp4⟩:=sR hcb.a.ok hne
 have hnmt:=(dp.1 (hcb.a.at_ (dR hf).2.1)).1
 obtain⟨n,hpn⟩: ∃ n:Nat,t.parts.headD 0=(n:Int):=⟨(t.parts.headD 0).toNat,by omega⟩
 have hn4:n<4:=by omega
 have hout:decide (0<=t.parts.headD 0/\t.parts.headD 0<(b.ps.length:Int))=false->kg b.a a=lY b.a 5:=fun h=>LP hne0 hpn (by rw[show b.a.ps=b.ps.map fun q=>q.p.a from rfl,aJ,bL (by have:=of_decide_eq_false h;omega)];rfl)
 obtain⟨ps,pA,pC,co,clo,chi,gr,glo,ghi,sns,snA,snC⟩:=b
 obtain⟨hpA,row,hsn,hown,hco,hgr,hps,H⟩:=B
 dsimp only at hpA row hsn hown hco hgr hps
 subst hpA
 replace H:Hp w0 w ((bb,.cells #[.slice (Qd gP) ps.length pC,J (co.clock),J (co.next),J (co.wait),.slice co.A co.txs.length co.cap,J (gr.clock),J (gr.wait),J (gr.gen),.slice gr.mA gr.ms.length gr.mC,.slice gr.oA gr.os.length gr.oC,.slice snA sns.length snC] cB (0,0))::(gP,.cells uP bY (0,0))::(Ls++(Lo++K))) F:=H
 dsimp only at hcb hne hf hpk hout
 obtain⟨m,hnm⟩: ∃ m:Nat,a.n=(m:Int):=⟨a.n.toNat,by omega⟩
 have htm:a.n.toNat=m:=by omega
 rw[htm]at hne
 show CW _ _ _ _ (args [.pointer (Qd bb),.agg #[J (a.kind),.string (a.name),J (a.part),J (a.n),J (a.m),.string (a.text),J (a.lost)]]) w
 refine W<|Zr<|gU H Z Z fun w1 b3 H=>fc H dn Z fun w2 b4 H=>U<|W ?_
 refine bG cv [0,1,2,3,4,5,6,7,8,9,10,11,12,13,14,15] [16,17] [7,13] [0,1,2,3,5,8,9,10,11,12,14,15] (sp [(7,Sp.one (Aj (some t))),(13,Sp.blk w2.heap.size (.agg #[J 0,J 0,J 0,J 0,J 0,.bool false,.string ⟨#[]⟩]) dy)]) N N N N Nq (cG _) ?_
 refine aw Z Z Z Z Z (fun w' hw'=>Yp Z)<|aw Z Z Z Z Z (fun w' hw'=>aM Z)<|aw Z Z Z Z Z (fun w' hw'=>Zf aU Z)<|aw Z Z Z Z Z (fun w' hw'=>Zf eN Z)<|aw Z Z Z Z Z (fun w' hw'=>jW 1 [J (co.clock),J (co.next),J (co.wait),.slice co.A co.txs.length co.cap] az Z Z ((H.later hw').ent (i:=2) Z) Z)<|aw Z Z Z Z Z (fun w' hw'=>Zf fY Z)<|aw Z Z Z Z Z (fun w' hw'=>bd al Z (aK ((H.later hw').ent (i:=1) Z) Z))<|jy xj Z Z Z Z Z (fun w' hw'=>(by have hA:=Hn co m w' (Hp.coM (H.later hw') hco) hcb.ok I;rw[show fW co.a.txs m=_ from hne,<-hnm]at hA;exact hA)) Z<|aw Z Z Z Z Z (fun w' hw'=>Yu Z)<|aw Z Z Z Z Z (fun w' hw'=>RI Z Z)<|aw Z Z Z Z Z (fun w' hw'=>Xi Z Z)<|aw Z Z Z Z Z (fun w' hw'=>Xa Z Z)<|aw Z Z Z Z Z (fun w' hw'=>Xi Z Z)<|y1 gz Z Z Z Z Z (fun w' hw'=>hw'.size) fun b7=>aw Z Z Z Z Z (fun w' hw'=>Wt Z)<|aw Z Z Z Z Z (fun w' hw'=>Wi Z)<|aT ?_
 intro w3 hw' hF
 obtain⟨hF,bq,eq,hge7,hbl7⟩:=hF;cases eq
 obtain⟨hF,-⟩:=hF
 have Hb:=H
 replace H:=H.adoptNew hw' hbl7 hge7
 clear hw' hF
 refine bI H 0 (#[J ((bP t).epoch),J ((bP t).pid),J ((bP t).ver),J ((bP t).seq),J ((bP t).kind),.bool ((bP t).txn),.string ((bP t).text)]) eX Z Z Z Z Z N N fun w4 H=>G (Wi Z)<|U<|W<|W<|Zr<|G (Yi Z)<|G (cj Z Z (by decide))<|U<|ZF Z<|Zk<|W<|W<|Zr<|G (Yp Z)<|G (Yi Z)<|cE eg (oD bb ⟨ps,some ⟨gP,0,none⟩,pC,co,clo,chi,gr,glo,ghi,sns,snA,snC⟩ (t.parts.headD 0) _ (H.ent (i:=3) Z)) Z Z ?_
 rintro _ w5 ⟨rfl,hb⟩;replace H:=H.later hb;clear hb
 refine px 30 Z (fun h30=> ?_) (fun h30=> ?_)
 have hnp:n<ps.length:=by have:=of_decide_eq_true h30;dsimp only at this;omega
 obtain⟨q,hq⟩: ∃ q,ps[n]? =some q:=⟨_,ai hnp⟩
 have hqm:=ab hq
 have hsp:=Ou hne0 hpn (p:=q.p.a) (by show(ps.map fun q=>q.p.a)[n]? =_;rw[aJ,hq];rfl)
 refine G (d9 Z)<|U<|ZF Z<|Zk<|W ?_
 refine gp (τ:=Pa×Nat×Nat×Nat) [8,9,10,33,34,35,36,37,38,39,40,41,42,43,44,45,46] (fun(_,b9,_,_)=>[(9,.pointer (Qd b9)),(10,J (eF q.p.a (bP t)).2.1),(8,J (eF q.p.a (bP t)).2.2)]) (fun(p2,b9,lo,hi) w'=>p2.a=(eF q.p.a (bP t)).1/\Hp w0 w' ((b9,.cells #[J (p2.epoch),J (p2.leader),.slice p2.iA p2.isr.length p2.iC,.slice p2.kA p2.known.length p2.kC,.slice p2.rA p2.reps.length p2.rC,J (p2.few),J (p2.base)] bY (0,0))::(b7,.cells #[J ((bP t).epoch),J ((bP t).pid),J ((bP t).ver),J ((bP t).seq),J ((bP t).kind),.bool ((bP t).txn),.string ((bP t).text)] dy (0,0))::(b4,.cells #[J (0),J (0),.slice none 0 0] gR (0,0))::(b3,.cells #[J (a.kind),.string (a.name),J (a.part),J (a.n),J (a.m),.string (a.text),J (a.lost)] iR (0,0))::(bb,.cells #[.slice (Qd gP) ps.length pC,J (co.clock),J (co.next),J (co.wait),.slice co.A co.txs.length co.cap,J (gr.clock),J (gr.wait),J (gr.gen),.slice gr.mA gr.ms.length gr.mC,.slice gr.oA gr.os.length gr.oC,.slice snA sns.length snC] cB (0,0))::(gP,.cells uP bY (0,0))::(Ls++(Lo++K))) (xX w0 lo hi p2::F)) ?_ ?_
 refine oX cv 14 9 [9,10,11,12,13,15,16,17] [14] [0,1,2,3,5,6] [14,15,16,17] [9] [0,1,2,3,5,6,10,11,12,13] (sp [(14,Sp.blk w5.heap.size (.agg #[J 0,J 0,.slice none 0 0,.slice none 0 0,.slice none 0 0,J 0,J 0]) bY)]) (sp [(9,Sp.deep w5.heap.size Tr (fun p:Pa=>p.c.toArray) (fun cs=> .tuple #[.agg cs,J (eF q.p.a (bP t)).2.1,J (eF q.p.a (bP t)).2.2]) (fun cq:Pa=>cq.a=(eF q.p.a (bP t)).1))]) N N N N (cG _) (cG _) ?_ ?_
 refine jS [0,1,2,3,4,5,6,7,8,14] [9,10,11,12,13,15,16,17] [14] [0,1,2,3,5,6] 7 (sp [(14,Sp.blk w5.heap.size (.agg #[J 0,J 0,.slice none 0 0,.slice none 0 0,.slice none 0 0,J 0,J 0]) bY)]) N N N Nq<|aw Z Z Z Z Z (fun w' hw'=>Yp Z)<|aw Z Z Z Z Z (fun w' hw'=>aM Z)<|aw Z Z Z Z Z (fun w' hw'=>Zf aU Z)<|aw Z Z Z Z Z (fun w' hw'=>Zf dF Z)<|aw Z Z Z Z Z (fun w' hw'=>bd er Z (aK ((H.later hw').ent (i:=3) Z) Z))<|aw Z Z Z Z Z (fun w' hw'=>Yi Z)<|aw Z Z Z Z Z (fun w' hw'=>cL (k:=n) ia Z (congrArg (Value.int .i64) hpn) (by first|omega|(simp only[ae];omega)))<|aw Z Z Z Z Z (fun w' hw'=>py bo row hq Z Z ((H.later hw').ent (i:=4) Z))<|aw Z Z Z Z Z (fun w' hw'=>kh dJ Z ((H.later hw').ent (i:=0) Z) Z)<|y1 bT Z Z Z Z Z (fun w' hw'=>hw'.size) fun b9=>aT ?_
 intro w6 hw' hF
 obtain⟨hF,bq,eq,hge9,hbl9⟩:=hF;cases eq
 replace H:=H.adoptNew hw' hbl9 hge9
 clear hw' hF
 refine db 9 N Z<|cE rM (Bt q.p (bP t) _ (Hp.paM H (hps q hqm)) (hpk q hqm).1 (hpk q hqm).2) Z Z ?_
 rintro _ w7 ⟨p2,rfl,hap2,hnp2⟩;replace H:=H.learn hnp2.2 (xX w0 w6.heap.size w7.heap.size p2) ⟨H.size,hnp2.1⟩ (ap _) (ap _);clear hnp2
 refine U<|bw 10 N N N Z Z Z Z Nq (fun _=>Yu Z)<|bw 11 N N N Z Z Z Z Nq (fun _=>Xa Z Z)<|bw 12 N N N Z Z Z Z Nq (fun _=>Xi Z Z)<|bw 13 N N N Z Z Z Z Nq (fun _=>Xi Z Z)<|db 15 N Z<|bI H 0 (#[J (p2.epoch),J (p2.leader),.slice p2.iA p2.isr.length p2.iC,.slice p2.kA p2.known.length p2.kC,.slice p2.rA p2.reps.length p2.rC,J (p2.few),J (p2.base)]) bk Z Z Z Z Z N N fun w8 H=>U<|bw 16 N N N Z Z Z Z Nq (fun _=>Wi Z)<|bw 17 N N N Z Z Z Z Nq (fun _=>Wi Z)<|cz N ?_
 exact⟨(p2,b9,_,_),⟨hap2,H⟩,SU Z Z Z,Qg⟩
 refine jS [0,1,2,3,4,5,6,7,8,9,10,11,12,13] [14,15,16,17] [9] [0,1,2,3,5,6,10,11,12,13] 3 (sp [(9,Sp.deep w5.heap.size Tr (fun p:Pa=>p.c.toArray) (fun cs=> .tuple #[.agg cs,J (eF q.p.a (bP t)).2.1,J (eF q.p.a (bP t)).2.2]) (fun cq:Pa=>cq.a=(eF q.p.a (bP t)).1))]) N N N Nq<|aw Z Z Z Z Z (fun w' hw'=>Yp Z)<|aw Z Z Z Z Z (fun w' hw'=>aM Z)<|aw Z Z Z Z Z (fun w' hw'=>Zf aU Z)<|aw Z Z Z Z Z (fun w' hw'=>Zf dF Z)<|aw Z Z Z Z Z (fun w' hw'=>bd er Z (aK ((H.later hw').ent (i:=3) Z) Z))<|aw Z Z Z Z Z (fun w' hw'=>Yi Z)<|aw Z Z Z Z Z (fun w' hw'=>cL (k:=n) ia Z (congrArg (Value.int .i64) hpn) (by first|omega|(simp only[ae];omega)))<|aw Z Z Z Z Z (fun w' hw'=>py bo row hq Z Z ((H.later hw').ent (i:=4) Z))<|aw Z Z Z Z Z (fun w' hw'=>kh dJ Z ((H.later hw').ent (i:=0) Z) Z)<|ud (gv:=(fun cs=> .tuple #[.agg cs,J (eF q.p.a (bP t)).2.1,J (eF q.p.a (bP t)).2.2])) rM Z Z Z Z Z (fun w' hw'=>hw'.size) (fun w' hw'=>Bt q.p (bP t) w' (Hp.paM (H.later hw') (hps q hqm)) (hpk q hqm).1 (hpk q hqm).2) Z fun cs43=>aw Z Z Z Z Z (fun w' hw'=>Yu Z)<|aw Z Z Z Z Z (fun w' hw'=>Xa Z Z)<|aw Z Z Z Z Z (fun w' hw'=>Xi Z Z)<|aw Z Z Z Z Z (fun w' hw'=>Xi Z Z)<|aT ?_
 intro w9 hw' hF
 obtain⟨hF,p2,eq,hap2,hrd43⟩:=hF;cases eq
 replace H:=H.learn hw' (xX w0 w5.heap.size w9.heap.size p2) ⟨H.size,hrd43⟩ (ap _) (ap _)
 clear hw' hF
 refine db 14 N Z<|fc H bT Z fun w10 b9 H=>U<|db 15 N Z<|bI H 0 (#[J (p2.epoch),J (p2.leader),.slice p2.iA p2.isr.length p2.iC,.slice p2.kA p2.known.length p2.kC,.slice p2.rA p2.reps.length p2.rC,J (p2.few),J (p2.base)]) bk Z Z Z Z Z N N fun w11 H=>U<|bw 16 N N N Z Z Z Z Nq (fun _=>Wi Z)<|bw 17 N N N Z Z Z Z Nq (fun _=>Wi Z)<|cz N ?_
 exact⟨(p2,b9,_,_),⟨hap2,H⟩,SU Z Z Z,Qg⟩
 rintro⟨p2,b9,lo,hi⟩ ρ1 w12 ⟨hap2,H⟩
 show CW _ _ _ _ (dO (ij _ _ ρ1) [(9,.pointer (Qd b9)),(10,J (eF q.p.a (bP t)).2.1),(8,J (eF q.p.a (bP t)).2.2)]) w12
 refine W<|W<|Zr<|G (Yi Z) ?_
 refine sU (jv Z Z) Z Z Z (fun h48=> ?_) (fun h48=> ?_)
 refine U<|ZT Z<|W<|Zr<|G (Yi Z)<|cE bO (dU (eF q.p.a (bP t)).2.2 _) Z Z ?_
 rintro _ w13 ⟨rfl,hb⟩;replace H:=H.later hb;clear hb
 refine bI H 2 (#[J ((eF q.p.a (bP t)).2.2),J (0),.slice none 0 0]) bA Z Z Z Z Z N N fun w14 H=>U<|Zt ?_
 exact gB (cs0:= #[J ((eF q.p.a (bP t)).2.2),J (0),.slice none 0 0]) Z bx Z (H.ent (i:=2) Z) Z ⟨⟨ps,some ⟨gP,0,none⟩,pC,co,clo,chi,gr,glo,ghi,sns,snA,snC⟩,by rw[hsp,if_neg h48];exact pq.plain _ _ _,by rw[hsp,if_neg h48];rfl,Bw.shut (X:=[(b9,_),(b7,_),(b4,_),(b3,_)]) row hsn hown (aj _ hco) (aj _ hgr) (fun q hq=>aj _ (hps q hq)) (fun f hf=>aj _ hf) H Z⟩
 refine U<|ZF Z<|Zk<|W ?_
 refine bG cv [0,1,2,3,4,5,6,7] [8] [] [0,1,2,3,5,7] (sp []) N N N N Nq (cG _) ?_
 refine aw Z Z Z Z Z (fun w' hw'=>Yp Z)<|aw Z Z Z Z Z (fun w' hw'=>aM Z)<|aw Z Z Z Z Z (fun w' hw'=>Zf aU Z)<|aw Z Z Z Z Z (fun w' hw'=>Zf dF Z)<|aw Z Z Z Z Z (fun w' hw'=>bd er Z (aK ((H.later hw').ent (i:=4) Z) Z))<|aw Z Z Z Z Z (fun w' hw'=>Yi Z)<|aw Z Z Z Z Z (fun w' hw'=>kh bo Z ((H.later hw').ent (i:=0) Z) Z)<|aw Z Z Z Z Z (fun w' hw'=>cL (k:=n) ia Z (congrArg (Value.int .i64) hpn) (by first|omega|(simp only[ae];omega)))<|aT ?_
 intro w15 hw' hF
 replace H:=H.later hw';clear hw' hF
 refine nt H 5 (⟨p2,lo,hi⟩) bk row hq 0 Z Z Z Z Z Z N fun w17 cur16 row16 H=> ?_
 have hs18:(ps.set n (⟨p2,lo,hi⟩))[n]? =some (⟨p2,lo,hi⟩):=ak (bZ hq).1
 refine U<|W<|Zr<|G (Yp Z)<|G (Yp Z)<|G (aM Z)<|G (Zf aU Z)<|G (Zf eN Z)<|G (jW 1 [J (co.clock),J (co.next),J (co.wait),.slice co.A co.txs.length co.cap] az Z Z (H.ent (i:=4) Z) Z)<|G (Yt Z)<|G (Yi Z)<|cE Ec (MA co t.name (t.parts.headD 0) k ti t _ (Hp.coM H (aj _ hco)) hcb hnmt hf h34 hpt) Z Z ?_
 rintro _ w19 ⟨c4,rfl,hac4,hnc4⟩;replace H:=H.learn hnc4.2 (y3 w0 w17.heap.size w19.heap.size c4) ⟨H.size,hnc4.1⟩ (ap _) (ap _);clear hnc4
 refine G (Yu Z)<|G (Xa Z Z)<|G (Xi Z Z)<|G (aM Z)<|G (Zf aU Z)<|G (Zf eN Z)<|bI H 4 (#[.slice (Qd gP) ps.length pC,J (c4.clock),J (c4.next),J (c4.wait),.slice c4.A c4.txs.length c4.cap,J (gr.clock),J (gr.wait),J (gr.gen),.slice gr.mA gr.ms.length gr.mC,.slice gr.oA gr.os.length gr.oC,.slice snA sns.length snC]) aH Z Z Z Z Z N N fun w20 H=>U<|W<|Zr<|G (Yi Z)<|G (bp (cs:= #[J (0),J ((eF q.p.a (bP t)).2.1),.slice none 0 0]) iX dn N)<|bI H 2 (#[J (0),J ((eF q.p.a (bP t)).2.1),.slice none 0 0]) bA Z Z Z Z Z N N fun w21 H=>U<|Zt ?_
 have hz:(eF q.p.a (bP t)).2.2=0:=by simpa using h48
 exact gB (cs0:= #[J (0),J ((eF q.p.a (bP t)).2.1),.slice none 0 0]) Z bx Z (H.ent (i:=2) Z) Z ⟨⟨ps.set n ⟨p2,lo,hi⟩,some ⟨gP,0,none⟩,pC,c4,w17.heap.size,w19.heap.size,gr,glo,ghi,sns,snA,snC⟩,by rw[hsp,if_pos hz];exact pq.plain _ _ _,by rw[hsp,if_pos hz];unfold Bk.a;simp only[cO,hap2,hac4],Bw.shut (X:=[(b9,_),(b7,_),(b4,_),(b3,_)]) row16 hsn hown (aA ..) (aj _ (aj _ hgr)) (fun y hy=>by rcases Cg hy with hy|hy;exact aj _ (aj _ (hps y hy));rw[hy];exact aj _ (aA ..)) (fun f hf=>aj _ (aj _ hf)) H (by simp only[Bk.c,ae])⟩
 refine G (d9 Z)<|U<|ZT Z<|W<|Zr<|cE bO (dU 5 _) Z Z ?_
 rintro _ w22 ⟨rfl,hb⟩;replace H:=H.later hb;clear hb
 refine bI H 1 (#[J (5),J (0),.slice none 0 0]) bA Z Z Z Z Z N N fun w23 H=>U<|Zt ?_
 exact gB (cs0:= #[J (5),J (0),.slice none 0 0]) Z bx Z (H.ent (i:=1) Z) Z ⟨⟨ps,some ⟨gP,0,none⟩,pC,co,clo,chi,gr,glo,ghi,sns,snA,snC⟩,by rw[hout h30];exact pq.plain _ _ _,by rw[hout h30];rfl,Bw.shut (X:=[(b7,_),(b4,_),(b3,_)]) row hsn hown hco hgr hps (fun _ h=>h) H Z⟩
theorem Ng (b:Bk) (a:Act):uU b.a a=({b.a with co:=(gX b.co.a a.n).1,gr:=qo b.gr.a a.n b.ps.length},⟨0,(gX b.co.a a.n).1.clock,[]⟩):=by
 unfold uU
 rw[show b.a.ps.length=b.ps.length by show(b.ps.map _).length=_;rw[bF]]
 rfl
theorem Nc {w0 w:World} {bb:Nat} {b:Bk} {gP:Nat} {uP:Array Value} {Ls Lo K:List (Nat×Obj)} {F:List cf} (a:Act) (B:Bw w0 w bb b gP uP Ls Lo K F) {k np:Nat} {wt:Int} (hcb:pn k b.co) (hk:k<=1000) (hn:0<=a.n/\a.n<=1000) (hgi:rR (fun _=>True) wt np k b.gr) (hp4:b.ps.length<=4):di aa oM [.pointer (Qd bb),a.v] w fun v w2=> ∃ b':Bk,pq (uU b.a a).2 v w2/\b'.a=(uU b.a a).1/\y4 w0 w2 bb b' K F:=by
 refine aG uE Z Z ?_
 have hsp:=Ng b a
 obtain⟨ps,pA,pC,co,clo,chi,gr,glo,ghi,sns,snA,snC⟩:=b
 obtain⟨hpA,row,hsn,hown,hco,hgr,hps,H⟩:=B
 dsimp only at hpA row hsn hown hco hgr hps
 subst hpA
 replace H:Hp w0 w ((bb,.cells #[.slice (Qd gP) ps.length pC,J (co.clock),J (co.next),J (co.wait),.slice co.A co.txs.length co.cap,J (gr.clock),J (gr.wait),J (gr.gen),.slice gr.mA gr.ms.length gr.mC,.slice gr.oA gr.os.length gr.oC,.slice snA sns.length snC] cB (0,0))::(gP,.cells uP bY (0,0))::(Ls++(Lo++K))) F:=H
 dsimp only at hcb hgi hp4 hsp
 have h2z:(gX co.a a.n).2=0:=by unfold gX;rw[if_neg I]
 show CW _ _ _ _ (args [.pointer (Qd bb),.agg #[J (a.kind),.string (a.name),J (a.part),J (a.n),J (a.m),.string (a.text),J (a.lost)]]) w
 refine W<|Zr<|gU H Z Z fun w1 b3 H=>fc H dn Z fun w2 b4 H=>U<|W ?_
 refine gp (τ:=Co×Nat×Nat×Nat) [5,6,8,9,10,11,12,13,14,15,16,17,18] (fun(_,b5,_,_)=>[(5,.pointer (Qd b5)),(6,J (gX co.a a.n).2)]) (fun(c3,b5,lo,hi) w'=>c3.a=(gX co.a a.n).1/\Hp w0 w' ((b5,.cells #[J (c3.clock),J (c3.next),J (c3.wait),.slice c3.A c3.txs.length c3.cap] aX (0,0))::(b4,.cells #[J (0),J (0),.slice none 0 0] gR (0,0))::(b3,.cells #[J (a.kind),.string (a.name),J (a.part),J (a.n),J (a.m),.string (a.text),J (a.lost)] iR (0,0))::(bb,.cells #[.slice (Qd gP) ps.length pC,J (co.clock),J (co.next),J (co.wait),.slice co.A co.txs.length co.cap,J (gr.clock),J (gr.wait),J (gr.gen),.slice gr.mA gr.ms.length gr.mC,.slice gr.oA gr.os.length gr.oC,.slice snA sns.length snC] cB (0,0))::(gP,.cells uP bY (0,0))::(Ls++(Lo++K))) (y3 w0 lo hi c3::F)) ?_ ?_
 refine oX cv 11 7 [7,8,9,10,12,13] [11] [0,1,2,3,5] [11,12,13] [7] [0,1,2,3,5,8,9,10] (sp [(11,Sp.blk w2.heap.size (.agg #[J 0,J 0,J 0,.slice none 0 0]) aX)]) (sp [(7,Sp.deep w2.heap.size PR (fun c:Co=>c.c.toArray) (fun cs=> .tuple #[.agg cs,J (gX co.a a.n).2]) (fun cq:Co=>cq.a=(gX co.a a.n).1))]) N N N N (cG _) (cG _) ?_ ?_
 refine jS [0,1,2,3,4,5,6,11] [7,8,9,10,12,13] [11] [0,1,2,3,5] 5 (sp [(11,Sp.blk w2.heap.size (.agg #[J 0,J 0,J 0,.slice none 0 0]) aX)]) N N N Nq<|aw Z Z Z Z Z (fun w' hw'=>Yp Z)<|aw Z Z Z Z Z (fun w' hw'=>aM Z)<|aw Z Z Z Z Z (fun w' hw'=>Zf aU Z)<|aw Z Z Z Z Z (fun w' hw'=>Zf eN Z)<|aw Z Z Z Z Z (fun w' hw'=>jW 1 [J (co.clock),J (co.next),J (co.wait),.slice co.A co.txs.length co.cap] az Z Z ((H.later hw').ent (i:=2) Z) Z)<|aw Z Z Z Z Z (fun w' hw'=>Zf fY Z)<|aw Z Z Z Z Z (fun w' hw'=>bd al Z (aK ((H.later hw').ent (i:=1) Z) Z))<|y1 cH Z Z Z Z Z (fun w' hw'=>hw'.size) fun b5=>aT ?_
 intro w3 hw' hF
 obtain⟨hF,bq,eq,hge5,hbl5⟩:=hF;cases eq
 replace H:=H.adoptNew hw' hbl5 hge5
 clear hw' hF
 refine db 7 N Z<|cE xi (Eu co a.n k _ (Hp.coM H hco) hcb hk hn.1) Z Z ?_
 rintro _ w4 ⟨c3,rfl,hac3,hnc3⟩;replace H:=H.learn hnc3.2 (y3 w0 w3.heap.size w4.heap.size c3) ⟨H.size,hnc3.1⟩ (ap _) (ap _);clear hnc3
 refine U<|bw 8 N N N Z Z Z Z Nq (fun _=>Yu Z)<|bw 9 N N N Z Z Z Z Nq (fun _=>Xa Z Z)<|bw 10 N N N Z Z Z Z Nq (fun _=>Xi Z Z)<|db 12 N Z<|bI H 0 (#[J (c3.clock),J (c3.next),J (c3.wait),.slice c3.A c3.txs.length c3.cap]) aH Z Z Z Z Z N N fun w5 H=>U<|bw 13 N N N Z Z Z Z Nq (fun _=>Wi Z)<|cz N ?_
 exact⟨(c3,b5,_,_),⟨hac3,H⟩,jT Z Z,Qg⟩
 refine jS [0,1,2,3,4,5,6,7,8,9,10] [11,12,13] [7] [0,1,2,3,5,8,9,10] 2 (sp [(7,Sp.deep w2.heap.size PR (fun c:Co=>c.c.toArray) (fun cs=> .tuple #[.agg cs,J (gX co.a a.n).2]) (fun cq:Co=>cq.a=(gX co.a a.n).1))]) N N N Nq<|aw Z Z Z Z Z (fun w' hw'=>Yp Z)<|aw Z Z Z Z Z (fun w' hw'=>aM Z)<|aw Z Z Z Z Z (fun w' hw'=>Zf aU Z)<|aw Z Z Z Z Z (fun w' hw'=>Zf eN Z)<|aw Z Z Z Z Z (fun w' hw'=>jW 1 [J (co.clock),J (co.next),J (co.wait),.slice co.A co.txs.length co.cap] az Z Z ((H.later hw').ent (i:=2) Z) Z)<|aw Z Z Z Z Z (fun w' hw'=>Zf fY Z)<|aw Z Z Z Z Z (fun w' hw'=>bd al Z (aK ((H.later hw').ent (i:=1) Z) Z))<|ud (gv:=(fun cs=> .tuple #[.agg cs,J (gX co.a a.n).2])) xi Z Z Z Z Z (fun w' hw'=>hw'.size) (fun w' hw'=>Eu co a.n k w' (Hp.coM (H.later hw') hco) hcb hk hn.1) Z fun cs16=>aw Z Z Z Z Z (fun w' hw'=>Yu Z)<|aw Z Z Z Z Z (fun w' hw'=>Xa Z Z)<|aw Z Z Z Z Z (fun w' hw'=>Xi Z Z)<|aT ?_
 intro w6 hw' hF
 obtain⟨hF,c3,eq,hac3,hrd16⟩:=hF;cases eq
 replace H:=H.learn hw' (y3 w0 w2.heap.size w6.heap.size c3) ⟨H.size,hrd16⟩ (ap _) (ap _)
 clear hw' hF
 refine db 11 N Z<|fc H cH Z fun w7 b5 H=>U<|db 12 N Z<|bI H 0 (#[J (c3.clock),J (c3.next),J (c3.wait),.slice c3.A c3.txs.length c3.cap]) aH Z Z Z Z Z N N fun w8 H=>U<|bw 13 N N N Z Z Z Z Nq (fun _=>Wi Z)<|cz N ?_
 exact⟨(c3,b5,_,_),⟨hac3,H⟩,jT Z Z,Qg⟩
 rintro⟨c3,b5,lo,hi⟩ ρ1 w9 ⟨hac3,H⟩
 show CW _ _ _ _ (dO (ij _ _ ρ1) [(5,.pointer (Qd b5)),(6,J (gX co.a a.n).2)]) w9
 refine W<|W<|Zr<|G (Yi Z)<|G (cj Z Z I)<|U<|ZF Z<|Zk<|W ?_
 refine gp (τ:=Gr×Nat×Nat×Nat) [6,7,23,24,25,26,27,28,29,30,31,32,33,34,35,36,37,38,39] (fun(_,b7,_,_)=>[(7,.pointer (Qd b7)),(6,J 0)]) (fun(g3,b7,lo2,hi2) w'=>g3.a=((qo gr.a a.n ps.length,(0:Int))).1/\Hp w0 w' ((b7,.cells #[J (g3.clock),J (g3.wait),J (g3.gen),.slice g3.mA g3.ms.length g3.mC,.slice g3.oA g3.os.length g3.oC] cK (0,0))::(b5,.cells #[J (c3.clock),J (c3.next),J (c3.wait),.slice c3.A c3.txs.length c3.cap] aX (0,0))::(b4,.cells #[J (0),J (0),.slice none 0 0] gR (0,0))::(b3,.cells #[J (a.kind),.string (a.name),J (a.part),J (a.n),J (a.m),.string (a.text),J (a.lost)] iR (0,0))::(bb,.cells #[.slice (Qd gP) ps.length pC,J (co.clock),J (co.next),J (co.wait),.slice co.A co.txs.length co.cap,J (gr.clock),J (gr.wait),J (gr.gen),.slice gr.mA gr.ms.length gr.mC,.slice gr.oA gr.os.length gr.oC,.slice snA sns.length snC] cB (0,0))::(gP,.cells uP bY (0,0))::(Ls++(Lo++K))) (MW w0 lo2 hi2 g3::y3 w0 lo hi c3::F)) ?_ ?_
 refine oX cv 17 13 [13,14,15,16,18,19] [17] [0,1,2,3,5,7,8,9,10,12] [17,18,19] [13] [0,1,2,3,5,7,8,9,10,12,14,15,16] (sp [(17,Sp.blk w9.heap.size (.agg #[J 0,J 0,J 0,.slice none 0 0,.slice none 0 0]) cK)]) (sp [(13,Sp.deep w9.heap.size TJ (fun g:Gr=>g.c.toArray) (fun cs=> .tuple #[.agg cs,J ((qo gr.a a.n ps.length,(0:Int))).2]) (fun cq:Gr=>cq.a=((qo gr.a a.n ps.length,(0:Int))).1))]) N N N N (cG _) (cG _) ?_ ?_
 refine jS [0,1,2,3,4,5,6,7,8,9,10,11,12,17] [13,14,15,16,18,19] [17] [0,1,2,3,5,7,8,9,10,12] 5 (sp [(17,Sp.blk w9.heap.size (.agg #[J 0,J 0,J 0,.slice none 0 0,.slice none 0 0]) cK)]) N N N Nq<|aw Z Z Z Z Z (fun w' hw'=>Yp Z)<|aw Z Z Z Z Z (fun w' hw'=>aM Z)<|aw Z Z Z Z Z (fun w' hw'=>Zf aU Z)<|aw Z Z Z Z Z (fun w' hw'=>Zf jQ Z)<|aw Z Z Z Z Z (fun w' hw'=>jW 5 [J (gr.clock),J (gr.wait),J (gr.gen),.slice gr.mA gr.ms.length gr.mC,.slice gr.oA gr.os.length gr.oC] aR Z Z ((H.later hw').ent (i:=3) Z) Z)<|aw Z Z Z Z Z (fun w' hw'=>Zf fY Z)<|aw Z Z Z Z Z (fun w' hw'=>bd al Z (aK ((H.later hw').ent (i:=2) Z) Z))<|aw Z Z Z Z Z (fun w' hw'=>Yp Z)<|aw Z Z Z Z Z (fun w' hw'=>aM Z)<|aw Z Z Z Z Z (fun w' hw'=>Zf aU Z)<|aw Z Z Z Z Z (fun w' hw'=>Zf dF Z)<|aw Z Z Z Z Z (fun w' hw'=>bd er Z (aK ((H.later hw').ent (i:=3) Z) Z))<|aw Z Z Z Z Z (fun w' hw'=>bl kW Z)<|y1 eo Z Z Z Z Z (fun w' hw'=>hw'.size) fun b7=>aT ?_
 intro w10 hw' hF
 obtain⟨hF,bq,eq,hge7,hbl7⟩:=hF;cases eq
 replace H:=H.adoptNew hw' hbl7 hge7
 clear hw' hF
 refine db 13 N Z<|cE xh (HL gr a.n ps.length _ (Hp.grM H (aj _ hgr)) hgi.ok hp4 (by have:=hgi.gen;omega) hn.1 hn.2 (by have:=hgi.clock;omega)) Z Z ?_
 rintro _ w11 ⟨g3,rfl,hag3,hng3⟩;replace H:=H.learn hng3.2 (MW w0 w10.heap.size w11.heap.size g3) ⟨H.size,hng3.1⟩ (ap _) (ap _);clear hng3
 refine U<|bw 14 N N N Z Z Z Z Nq (fun _=>Yu Z)<|bw 15 N N N Z Z Z Z Nq (fun _=>Xa Z Z)<|bw 16 N N N Z Z Z Z Nq (fun _=>Xi Z Z)<|db 18 N Z<|bI H 0 (#[J (g3.clock),J (g3.wait),J (g3.gen),.slice g3.mA g3.ms.length g3.mC,.slice g3.oA g3.os.length g3.oC]) bD Z Z Z Z Z N N fun w12 H=>U<|bw 19 N N N Z Z Z Z Nq (fun _=>Wi Z)<|cz N ?_
 exact⟨(g3,b7,_,_),⟨hag3,H⟩,jT Z Z,Qg⟩
 refine jS [0,1,2,3,4,5,6,7,8,9,10,11,12,13,14,15,16] [17,18,19] [13] [0,1,2,3,5,7,8,9,10,12,14,15,16] 2 (sp [(13,Sp.deep w9.heap.size TJ (fun g:Gr=>g.c.toArray) (fun cs=> .tuple #[.agg cs,J ((qo gr.a a.n ps.length,(0:Int))).2]) (fun cq:Gr=>cq.a=((qo gr.a a.n ps.length,(0:Int))).1))]) N N N Nq<|aw Z Z Z Z Z (fun w' hw'=>Yp Z)<|aw Z Z Z Z Z (fun w' hw'=>aM Z)<|aw Z Z Z Z Z (fun w' hw'=>Zf aU Z)<|aw Z Z Z Z Z (fun w' hw'=>Zf jQ Z)<|aw Z Z Z Z Z (fun w' hw'=>jW 5 [J (gr.clock),J (gr.wait),J (gr.gen),.slice gr.mA gr.ms.length gr.mC,.slice gr.oA gr.os.length gr.oC] aR Z Z ((H.later hw').ent (i:=3) Z) Z)<|aw Z Z Z Z Z (fun w' hw'=>Zf fY Z)<|aw Z Z Z Z Z (fun w' hw'=>bd al Z (aK ((H.later hw').ent (i:=2) Z) Z))<|aw Z Z Z Z Z (fun w' hw'=>Yp Z)<|aw Z Z Z Z Z (fun w' hw'=>aM Z)<|aw Z Z Z Z Z (fun w' hw'=>Zf aU Z)<|aw Z Z Z Z Z (fun w' hw'=>Zf dF Z)<|aw Z Z Z Z Z (fun w' hw'=>bd er Z (aK ((H.later hw').ent (i:=3) Z) Z))<|aw Z Z Z Z Z (fun w' hw'=>bl kW Z)<|ud (gv:=(fun cs=> .tuple #[.agg cs,J ((qo gr.a a.n ps.length,(0:Int))).2])) xh Z Z Z Z Z (fun w' hw'=>hw'.size) (fun w' hw'=>HL gr a.n ps.length w' (Hp.grM (H.later hw') (aj _ hgr)) hgi.ok hp4 (by have:=hgi.gen;omega) hn.1 hn.2 (by have:=hgi.clock;omega)) Z fun cs37=>aw Z Z Z Z Z (fun w' hw'=>Yu Z)<|aw Z Z Z Z Z (fun w' hw'=>Xa Z Z)<|aw Z Z Z Z Z (fun w' hw'=>Xi Z Z)<|aT ?_
 intro w13 hw' hF
 obtain⟨hF,g3,eq,hag3,hrd37⟩:=hF;cases eq
 replace H:=H.learn hw' (MW w0 w9.heap.size w13.heap.size g3) ⟨H.size,hrd37⟩ (ap _) (ap _)
 clear hw' hF
 refine db 17 N Z<|fc H eo Z fun w14 b7 H=>U<|db 18 N Z<|bI H 0 (#[J (g3.clock),J (g3.wait),J (g3.gen),.slice g3.mA g3.ms.length g3.mC,.slice g3.oA g3.os.length g3.oC]) bD Z Z Z Z Z N N fun w15 H=>U<|bw 19 N N N Z Z Z Z Nq (fun _=>Wi Z)<|cz N ?_
 exact⟨(g3,b7,_,_),⟨hag3,H⟩,jT Z Z,Qg⟩
 rintro⟨g3,b7,lo2,hi2⟩ ρ1 w16 ⟨hag3,H⟩
 show CW _ _ _ _ (dO (ij _ _ ρ1) [(7,.pointer (Qd b7)),(6,J 0)]) w16
 refine W<|W<|Zr<|G (Yi Z)<|G (cj Z Z (by decide))<|U<|ZF Z<|Zk<|W ?_
 refine wv cv (fun w'=>w'.heap[b5]? =some (.cells #[J (c3.clock),J (c3.next),J (c3.wait),.slice c3.A c3.txs.length c3.cap] aX (0,0))/\w'.heap[b7]? =some (.cells #[J (g3.clock),J (g3.wait),J (g3.gen),.slice g3.mA g3.ms.length g3.mC,.slice g3.oA g3.os.length g3.oC] cK (0,0))) ?_
 intro w17 hw';replace H:=H.later hw';clear hw'
 refine cJ 0 N N N Z Z Z Z Nq ⟨H.ent (i:=1) Z,H.ent (i:=0) Z⟩ (fun _ hS=>Yp Z)<|cJ 1 N N N Z Z Z Z Nq ⟨H.ent (i:=1) Z,H.ent (i:=0) Z⟩ (fun _ hS=>Yp Z)<|cJ 2 N N N Z Z Z Z Nq ⟨H.ent (i:=1) Z,H.ent (i:=0) Z⟩ (fun _ hS=>kh az Z hS.1 Z)<|cJ 3 N N N Z Z Z Z Nq ⟨H.ent (i:=1) Z,H.ent (i:=0) Z⟩ (fun _ hS=>kh aR Z hS.2 Z)<|cJ 4 N N N Z Z Z Z Nq ⟨H.ent (i:=1) Z,H.ent (i:=0) Z⟩ (fun _ hS=>aM Z)<|cJ 5 N N N Z Z Z Z Nq ⟨H.ent (i:=1) Z,H.ent (i:=0) Z⟩ (fun _ hS=>Zf aU Z)<|cJ 6 N N N Z Z Z Z Nq ⟨H.ent (i:=1) Z,H.ent (i:=0) Z⟩ (fun _ hS=>Zf eN Z)<|MY 7 N Z<|bI H 4 (#[.slice (Qd gP) ps.length pC,J (c3.clock),J (c3.next),J (c3.wait),.slice c3.A c3.txs.length c3.cap,J (gr.clock),J (gr.wait),J (gr.gen),.slice gr.mA gr.ms.length gr.mC,.slice gr.oA gr.os.length gr.oC,.slice snA sns.length snC]) aH Z Z Z Z Z N N fun w18 H=>U ?_
 refine⟨⟨H.ent (i:=1) Z,H.ent (i:=0) Z⟩,?_⟩
 refine cJ 8 N N N Z Z Z Z Nq ⟨H.ent (i:=1) Z,H.ent (i:=0) Z⟩ (fun _ hS=>aM Z)<|cJ 9 N N N Z Z Z Z Nq ⟨H.ent (i:=1) Z,H.ent (i:=0) Z⟩ (fun _ hS=>Zf aU Z)<|cJ 10 N N N Z Z Z Z Nq ⟨H.ent (i:=1) Z,H.ent (i:=0) Z⟩ (fun _ hS=>Zf jQ Z)<|MY 11 N Z<|bI H 4 (#[.slice (Qd gP) ps.length pC,J (c3.clock),J (c3.next),J (c3.wait),.slice c3.A c3.txs.length c3.cap,J (g3.clock),J (g3.wait),J (g3.gen),.slice g3.mA g3.ms.length g3.mC,.slice g3.oA g3.os.length g3.oC,.slice snA sns.length snC]) bD Z Z Z Z Z N N fun w19 H=>U ?_
 refine⟨⟨H.ent (i:=1) Z,H.ent (i:=0) Z⟩,?_⟩
 refine y9 N<|W<|Zr<|G (Zf kK Z)<|G (Zd al H 1 Z Z Z)<|G (bp (cs:= #[J (0),J (c3.clock),.slice none 0 0]) iX dn N)<|bI H 2 (#[J (0),J (c3.clock),.slice none 0 0]) bA Z Z Z Z Z N N fun w20 H=>U<|Zt ?_
 have hck:c3.clock=(gX co.a a.n).1.clock:=by rw[<-hac3];rfl
 exact gB (cs0:= #[J (0),J (c3.clock),.slice none 0 0]) Z bx Z (H.ent (i:=2) Z) Z ⟨⟨ps,some ⟨gP,0,none⟩,pC,c3,lo,hi,g3,lo2,hi2,sns,snA,snC⟩,by rw[hsp,<-hck];exact pq.plain _ _ _,by rw[hsp,<-hac3];unfold Bk.a;rw[hag3],Bw.shut (X:=[(b7,_),(b5,_),(b4,_),(b3,_)]) row hsn hown (aj _ (aA ..)) (aA ..) (fun q hq=>aj _ (aj _ (hps q hq))) (fun f hf=>aj _ (aj _ hf)) H Z⟩
theorem NL {w:Wa} {a:Act} {p:gi} (hp:w.ps[a.part.toNat]? =some p):oz w a=if(jp p a).2.2=0 then({w with ps:=w.ps.set a.part.toNat (jp p a).1},⟨0,(jp p a).2.1,[]⟩)else lY w (jp p a).2.2:=by
 unfold oz
 rw[hp]
theorem NJ {w0 w:World} {bb:Nat} {b:Bk} {gP:Nat} {uP:Array Value} {Ls Lo K:List (Nat×Obj)} {F:List cf} (a:Act) (B:Bw w0 w bb b gP uP Ls Lo K F) (hkd:a.kind=8∨a.kind=9∨a.kind=13) (hpn:0<=a.part/\a.part<b.ps.length) (hn:0<=a.n/\ ∀ q∈b.ps,a.n<q.p.reps.length) (hm:0<=a.m/\a.m<=1000) (hpk: ∀ q∈b.ps,q.p.a.ok):di aa lI [.pointer (Qd bb),a.v] w fun v w2=> ∃ b':Bk,pq (oz b.a a).2 v w2/\b'.a=(oz b.a a).1/\y4 w0 w2 bb b' K F:=by
 refine aG rm Z Z ?_
 obtain⟨n,hna⟩: ∃ n:Nat,a.part=(n:Int):=⟨a.part.toNat,by omega⟩
 have htn:a.part.toNat=n:=by omega
 obtain⟨r,hnr⟩: ∃ r:Nat,a.n=(r:Int):=⟨a.n.toNat,by omega⟩
 have htr:a.n.toNat=r:=by omega
 obtain⟨mm,hmm⟩: ∃ r:Nat,a.m=(r:Int):=⟨a.m.toNat,by omega⟩
 have htm:a.m.toNat=mm:=by omega
 obtain⟨q,hq⟩: ∃ q,b.ps[n]? =some q:=⟨_,ai I⟩
 have hqm:=ab hq
 have hok:=hpk q hqm
 have hr:r<q.p.reps.length:=by have:=hn.2 q hqm;omega
 have hsp:=NL (w:=b.a) (a:=a) (p:=q.p.a) (by rw[htn];show(b.ps.map fun q=>q.p.a)[n]? =_;rw[aJ,hq];rfl)
 obtain⟨z,hz⟩: ∃ z,jp q.p.a a=z:=⟨_,rfl⟩
 obtain⟨ps,pA,pC,co,clo,chi,gr,glo,ghi,sns,snA,snC⟩:=b
 obtain⟨hpA,row,hsn,hown,hco,hgr,hps,H⟩:=B
 dsimp only at hpA row hsn hown hco hgr hps
 subst hpA
 replace H:Hp w0 w ((bb,.cells #[.slice (Qd gP) ps.length pC,J (co.clock),J (co.next),J (co.wait),.slice co.A co.txs.length co.cap,J (gr.clock),J (gr.wait),J (gr.gen),.slice gr.mA gr.ms.length gr.mC,.slice gr.oA gr.os.length gr.oC,.slice snA sns.length snC] cB (0,0))::(gP,.cells uP bY (0,0))::(Ls++(Lo++K))) F:=H
 dsimp only at hpn hq hqm
 show CW _ _ _ _ (args [.pointer (Qd bb),.agg #[J (a.kind),.string (a.name),J (a.part),J (a.n),J (a.m),.string (a.text),J (a.lost)]]) w
 refine W<|Zr<|gU H Z Z fun w1 b3 H=>fc H dn Z fun w2 b4 H=>U<|W<|W<|Zr<|G (Yp Z)<|G (Zf ez Z)<|G (Zd al H 1 Z Z Z)<|cE eg (oD bb ⟨ps,some ⟨gP,0,none⟩,pC,co,clo,chi,gr,glo,ghi,sns,snA,snC⟩ a.part _ (H.ent (i:=2) Z)) Z Z ?_
 rintro _ w3 ⟨rfl,hb⟩;replace H:=H.later hb;clear hb
 rw[decide_eq_true hpn]
 refine G (d9 Z)<|U<|ZF Z<|Zk<|W ?_
 refine bG cv [0,1,2,3,4,5,6,7,8,9] [10] [9] [0,1,2,3,5,7] (sp [(9,Sp.blk w3.heap.size (.agg #[J 0,J 0,.slice none 0 0,.slice none 0 0,.slice none 0 0,J 0,J 0]) bY)]) N N N N Nq (cG _) ?_
 refine aw Z Z Z Z Z (fun w' hw'=>Yp Z)<|aw Z Z Z Z Z (fun w' hw'=>aM Z)<|aw Z Z Z Z Z (fun w' hw'=>Zf aU Z)<|aw Z Z Z Z Z (fun w' hw'=>Zf dF Z)<|aw Z Z Z Z Z (fun w' hw'=>bd er Z (aK ((H.later hw').ent (i:=2) Z) Z))<|aw Z Z Z Z Z (fun w' hw'=>Zf ez Z)<|aw Z Z Z Z Z (fun w' hw'=>bd al Z (aK ((H.later hw').ent (i:=1) Z) Z))<|aw Z Z Z Z Z (fun w' hw'=>cL (k:=n) ia Z (congrArg (Value.int .i64) hna) (by first|omega|(simp only[ae];omega)))<|aw Z Z Z Z Z (fun w' hw'=>py bo row hq Z Z ((H.later hw').ent (i:=3) Z))<|y1 bT Z Z Z Z Z (fun w' hw'=>hw'.size) fun b5=>aT ?_
 intro w4 hw' hF
 obtain⟨hF,bq,eq,hge5,hbl5⟩:=hF;cases eq
 have Hb:=H
 replace H:=H.adoptNew hw' hbl5 hge5
 clear hw' hF
 refine bI H 0 (#[J (q.p.epoch),J (q.p.leader),.slice q.p.iA q.p.isr.length q.p.iC,.slice q.p.kA q.p.known.length q.p.kC,.slice q.p.rA q.p.reps.length q.p.rC,J (q.p.few),J (q.p.base)]) bk Z Z Z Z Z N N fun w5 H=>U<|W<|Zr<|G (Wi Z)<|U<|W<|Zr<|G (Wi Z)<|U<|W<|W<|Zr<|G (Zf oW Z)<|G (Zd al H 2 Z Z Z)<|U ?_
 refine gp (τ:=Pa×Nat×Nat) [6,7,25,26,27,28,29,30,31,32,33,34,35,36,37,38,39,40,41,42,43,44,45,46,47,48,49,50,51,52,53,54,55,56,57,58,59,60,61,62,63,64,65,66,67,68,69,70,71,72,73,74,75,76,77,78,79,80,81,82,83,84,85,86,87,88,89,90,91,92,93,94,95,96,97] (fun _=>[(6,J z.2.1),(7,J z.2.2)]) (fun(p2,lo,hi) w'=>p2.a=z.1/\Hp w0 w' ((b5,.cells #[J (p2.epoch),J (p2.leader),.slice p2.iA p2.isr.length p2.iC,.slice p2.kA p2.known.length p2.kC,.slice p2.rA p2.reps.length p2.rC,J (p2.few),J (p2.base)] bY (0,0))::(b4,.cells #[J (0),J (0),.slice none 0 0] gR (0,0))::(b3,.cells #[J (a.kind),.string (a.name),J (a.part),J (a.n),J (a.m),.string (a.text),J (a.lost)] iR (0,0))::(bb,.cells #[.slice (Qd gP) ps.length pC,J (co.clock),J (co.next),J (co.wait),.slice co.A co.txs.length co.cap,J (gr.clock),J (gr.wait),J (gr.gen),.slice gr.mA gr.ms.length gr.mC,.slice gr.oA gr.os.length gr.oC,.slice snA sns.length snC] cB (0,0))::(gP,.cells uP bY (0,0))::(Ls++(Lo++K))) (xX w0 lo hi p2::F)) ?_ ?_
 refine Zb<|W<|Zr ?_
 refine dZ (cr Z Z) Z Z Z (fun h33=> ?_) (fun h33=> ?_)
 refine G (Wb Z)<|U<|ZT Z<|Zr<|G (Zw bo H 0 Z Z Z)<|G (Zf fY Z)<|G (Zd al H 2 Z Z Z)<|cE D8 ((by have hA:=LF q.p r _ (Hp.paM H (hps q hqm)) hok hr;rw[<-hnr]at hA;exact hA)) Z Z ?_
 rintro _ w6 ⟨p2,rfl,hap2,hnp2⟩;replace H:=H.learn hnp2.2 (xX w0 w5.heap.size w6.heap.size p2) ⟨H.size,hnp2.1⟩ (ap _) (ap _);clear hnp2
 refine G (Yu Z)<|G (Xa Z Z)<|G (Xi Z Z)<|G (Xi Z Z)<|bI H 0 (#[J (p2.epoch),J (p2.leader),.slice p2.iA p2.isr.length p2.iC,.slice p2.kA p2.known.length p2.kC,.slice p2.rA p2.reps.length p2.rC,J (p2.few),J (p2.base)]) bk Z Z Z Z Z N N fun w7 H=>G (Wi Z)<|G (Wi Z)<|U ?_
 obtain rfl:z=iU q.p.a r:=by rw[<-hz];unfold jp;rw[if_pos h33,htr]
 exact⟨(p2,_,_),⟨hap2,H⟩,jT Z Z,Qg⟩
 refine G (Wb Z)<|U<|ZF Z<|W<|Zr ?_
 refine dZ (cr Z Z) Z Z Z (fun h43=> ?_) (fun h43=> ?_)
 refine G (Wb Z)<|U<|ZT Z<|Zr<|G (Zw bo H 0 Z Z Z)<|G (Zf fY Z)<|G (Zd al H 2 Z Z Z)<|cE GA ((by have hA:=NZ q.p r _ (Hp.paM H (hps q hqm)) hok hr;rw[<-hnr]at hA;exact hA)) Z Z ?_
 rintro _ w8 ⟨p2,rfl,hap2,hnp2⟩;replace H:=H.learn hnp2.2 (xX w0 w5.heap.size w8.heap.size p2) ⟨H.size,hnp2.1⟩ (ap _) (ap _);clear hnp2
 refine G (Yu Z)<|G (Xa Z Z)<|G (Xi Z Z)<|bI H 0 (#[J (p2.epoch),J (p2.leader),.slice p2.iA p2.isr.length p2.iC,.slice p2.kA p2.known.length p2.kC,.slice p2.rA p2.reps.length p2.rC,J (p2.few),J (p2.base)]) bk Z Z Z Z Z N N fun w9 H=>G (Wi Z)<|U ?_
 obtain rfl:z=((mi q.p.a r).1,0,(mi q.p.a r).2):=by rw[<-hz];unfold jp;rw[if_neg h33,if_pos h43,htr]
 exact⟨(p2,_,_),⟨hap2,H⟩,jT Z Z,Qg⟩
 refine G (Wb Z)<|U<|ZF Z<|W<|Zr<|G (me Z Z I)<|G (Wb Z)<|U<|ZF Z<|W<|Zr<|G (me Z Z I)<|G (Wb Z)<|U<|ZF Z<|W<|Zr<|G (me Z Z I)<|G (Wb Z)<|U<|ZF Z<|W<|Zr<|G (sw Z Z I)<|G (Wb Z)<|U<|ZT Z<|Zr<|G (Zw bo H 0 Z Z Z)<|G (Zf fY Z)<|G (Zd al H 2 Z Z Z)<|cE D9 ((by have hA:=LG q.p r _ (Hp.paM H (hps q hqm)) hok hr;rw[<-hnr]at hA;exact hA)) Z Z ?_
 rintro _ w10 ⟨p2,rfl,hap2,hnp2⟩;replace H:=H.learn hnp2.2 (xX w0 w5.heap.size w10.heap.size p2) ⟨H.size,hnp2.1⟩ (ap _) (ap _);clear hnp2
 refine G (Yu Z)<|G (Xa Z Z)<|G (Xi Z Z)<|bI H 0 (#[J (p2.epoch),J (p2.leader),.slice p2.iA p2.isr.length p2.iC,.slice p2.kA p2.known.length p2.kC,.slice p2.rA p2.reps.length p2.rC,J (p2.few),J (p2.base)]) bk Z Z Z Z Z N N fun w11 H=>G (Wi Z)<|U ?_
 obtain rfl:z=((fo q.p.a r).1,0,(fo q.p.a r).2):=by rw[<-hz];unfold jp;rw[if_neg h33,if_neg h43,htr]
 exact⟨(p2,_,_),⟨hap2,H⟩,jT Z Z,Qg⟩
 rintro⟨p2,lo,hi⟩ ρ1 w12 ⟨hap2,H⟩
 show CW _ _ _ _ (dO (ij _ _ ρ1) [(6,J z.2.1),(7,J z.2.2)]) w12
 refine W<|W<|Zr<|G (Yi Z) ?_
 refine sU (jv Z Z) Z Z Z (fun h99=> ?_) (fun h99=> ?_)
 refine U<|ZT Z<|W<|Zr<|G (Yi Z)<|cE bO (dU z.2.2 _) Z Z ?_
 rintro _ w13 ⟨rfl,hb⟩;replace H:=H.later hb;clear hb
 refine bI H 1 (#[J (z.2.2),J (0),.slice none 0 0]) bA Z Z Z Z Z N N fun w14 H=>U<|Zt ?_
 exact gB (cs0:= #[J (z.2.2),J (0),.slice none 0 0]) Z bx Z (H.ent (i:=1) Z) Z ⟨⟨ps,some ⟨gP,0,none⟩,pC,co,clo,chi,gr,glo,ghi,sns,snA,snC⟩,by rw[hsp,hz,if_neg h99];exact pq.plain _ _ _,by rw[hsp,hz,if_neg h99];rfl,Bw.shut (X:=[(b5,_),(b4,_),(b3,_)]) row hsn hown (aj _ hco) (aj _ hgr) (fun q hq=>aj _ (hps q hq)) (fun f hf=>aj _ hf) H Z⟩
 refine U<|ZF Z<|Zk<|W ?_
 refine bG cv [0,1,2,3,4,5,6,7,8] [9] [] [0,1,2,3,5,8] (sp []) N N N N Nq (cG _) ?_
 refine aw Z Z Z Z Z (fun w' hw'=>Yp Z)<|aw Z Z Z Z Z (fun w' hw'=>aM Z)<|aw Z Z Z Z Z (fun w' hw'=>Zf aU Z)<|aw Z Z Z Z Z (fun w' hw'=>Zf dF Z)<|aw Z Z Z Z Z (fun w' hw'=>bd er Z (aK ((H.later hw').ent (i:=3) Z) Z))<|aw Z Z Z Z Z (fun w' hw'=>Zf ez Z)<|aw Z Z Z Z Z (fun w' hw'=>bd al Z (aK ((H.later hw').ent (i:=2) Z) Z))<|aw Z Z Z Z Z (fun w' hw'=>kh bo Z ((H.later hw').ent (i:=0) Z) Z)<|aw Z Z Z Z Z (fun w' hw'=>cL (k:=n) ia Z (congrArg (Value.int .i64) hna) (by first|omega|(simp only[ae];omega)))<|aT ?_
 intro w15 hw' hF
 replace H:=H.later hw';clear hw' hF
 refine nt H 4 (⟨p2,lo,hi⟩) bk row hq 0 Z Z Z Z Z Z N fun w17 cur16 row16 H=> ?_
 have hs18:(ps.set n (⟨p2,lo,hi⟩))[n]? =some (⟨p2,lo,hi⟩):=ak (bZ hq).1
 refine U<|W<|Zr<|G (Yi Z)<|G (bp (cs:= #[J (0),J (z.2.1),.slice none 0 0]) iX dn N)<|bI H 1 (#[J (0),J (z.2.1),.slice none 0 0]) bA Z Z Z Z Z N N fun w19 H=>U<|Zt ?_
 have hz0:z.2.2=0:=by simpa using h99
 exact gB (cs0:= #[J (0),J (z.2.1),.slice none 0 0]) Z bx Z (H.ent (i:=1) Z) Z ⟨⟨ps.set n ⟨p2,lo,hi⟩,some ⟨gP,0,none⟩,pC,co,clo,chi,gr,glo,ghi,sns,snA,snC⟩,by rw[hsp,hz,if_pos hz0];exact pq.plain _ _ _,by rw[hsp,hz,if_pos hz0,htn];unfold Bk.a;simp only[cO,hap2],Bw.shut (X:=[(b5,_),(b4,_),(b3,_)]) row16 hsn hown (aj _ hco) (aj _ hgr) (fun y hy=>by rcases Cg hy with hy|hy;exact aj _ (hps y hy);rw[hy];exact aA ..) (fun f hf=>aj _ hf) H (by simp only[Bk.c,ae])⟩
theorem QJ {b:Bk} {a:Act} {z:Gr×Int} (hz:(if a.kind=16 then uk b.gr.a a.name b.ps.length else if a.kind=18 then y0 b.gr.a a.name a.n else tC b.gr.a a.name a.n a.part a.m)=z):AS b.a a=if z.2=0 then({b.a with gr:=z.1},⟨0,z.1.gen,[]⟩)else lY b.a z.2:=by
 subst hz
 unfold AS Jg
 rw[show b.a.ps.length=b.ps.length by show(b.ps.map _).length=_;rw[bF]]
 rfl
theorem QH {w0 w:World} {bb:Nat} {b:Bk} {gP:Nat} {uP:Array Value} {Ls Lo K:List (Nat×Obj)} {F:List cf} (a:Act) (B:Bw w0 w bb b gP uP Ls Lo K F) {k np:Nat} {wt:Int} (hk:k<=1000) (h17:a.kind≠17) (hnm:bC a.name=true) (hm:0<=a.m/\a.m<=1000) (hgi:rR (fun _=>True) wt np k b.gr) (hp4:b.ps.length<=4):di aa mt [.pointer (Qd bb),a.v] w fun v w2=> ∃ b':Bk,pq (AS b.a a).2 v w2/\b'.a=(AS b.a a).1/\y4 w0 w2 bb b' K F:=by
 refine aG su Z Z ?_
 obtain⟨z,hz⟩: ∃ z,(if a.kind=16 then uk b.gr.a a.name b.ps.length else if a.kind=18 then y0 b.gr.a a.name a.n else tC b.gr.a a.name a.n a.part a.m)=z:=⟨_,rfl⟩
 have hsp:=QJ hz
 obtain⟨ps,pA,pC,co,clo,chi,gr,glo,ghi,sns,snA,snC⟩:=b
 obtain⟨hpA,row,hsn,hown,hco,hgr,hps,H⟩:=B
 dsimp only at hpA row hsn hown hco hgr hps
 subst hpA
 replace H:Hp w0 w ((bb,.cells #[.slice (Qd gP) ps.length pC,J (co.clock),J (co.next),J (co.wait),.slice co.A co.txs.length co.cap,J (gr.clock),J (gr.wait),J (gr.gen),.slice gr.mA gr.ms.length gr.mC,.slice gr.oA gr.os.length gr.oC,.slice snA sns.length snC] cB (0,0))::(gP,.cells uP bY (0,0))::(Ls++(Lo++K))) F:=H
 dsimp only at hgi hp4 hz
 show CW _ _ _ _ (args [.pointer (Qd bb),.agg #[J (a.kind),.string (a.name),J (a.part),J (a.n),J (a.m),.string (a.text),J (a.lost)]]) w
 refine W<|Zr<|gU H Z Z fun w1 b3 H=>fc H dn Z fun w2 b4 H=>U<|W<|Zr<|G (Yp Z)<|G (aM Z)<|G (Zf aU Z)<|G (Zf jQ Z)<|G (jW 5 [J (gr.clock),J (gr.wait),J (gr.gen),.slice gr.mA gr.ms.length gr.mC,.slice gr.oA gr.os.length gr.oC] aR Z Z (H.ent (i:=2) Z) Z)<|fc H eo Z fun w3 b5 H=>bI H 0 (#[J (gr.clock),J (gr.wait),J (gr.gen),.slice gr.mA gr.ms.length gr.mC,.slice gr.oA gr.os.length gr.oC]) bD Z Z Z Z Z N N fun w4 H=>U<|W<|Zr<|G (Wi Z)<|U<|W<|W<|Zr<|G (Zf oW Z)<|G (Zd al H 2 Z Z Z)<|U ?_
 refine gp (τ:=Gr×Nat×Nat) [6,14,15,16,17,18,19,20,21,22,23,24,25,26,27,28,29,30,31,32,33,34,35,36,37,38,39,40,41,42,43,44,45,46,47,48,49,50,51,52,53,54,55,56,57,58,59,60,61,62,63,64,65,66,67] (fun _=>[(6,J z.2)]) (fun(g3,lo,hi) w'=>g3.a=z.1/\Hp w0 w' ((b5,.cells #[J (g3.clock),J (g3.wait),J (g3.gen),.slice g3.mA g3.ms.length g3.mC,.slice g3.oA g3.os.length g3.oC] cK (0,0))::(b4,.cells #[J (0),J (0),.slice none 0 0] gR (0,0))::(b3,.cells #[J (a.kind),.string (a.name),J (a.part),J (a.n),J (a.m),.string (a.text),J (a.lost)] iR (0,0))::(bb,.cells #[.slice (Qd gP) ps.length pC,J (co.clock),J (co.next),J (co.wait),.slice co.A co.txs.length co.cap,J (gr.clock),J (gr.wait),J (gr.gen),.slice gr.mA gr.ms.length gr.mC,.slice gr.oA gr.os.length gr.oC,.slice snA sns.length snC] cB (0,0))::(gP,.cells uP bY (0,0))::(Ls++(Lo++K))) (MW w0 lo hi g3::F)) ?_ ?_
 refine Zb<|W<|Zr ?_
 refine dZ (cr Z Z) Z Z Z (fun h28=> ?_) (fun h28=> ?_)
 refine G (Wb Z)<|U<|ZT Z ?_
 refine bG cv [0,1,2,3,4,5,6,7,8,9,10,11,12] [13,14] [9] [1,3,4,5,6,8,10,11,12] (sp [(9,Sp.deep w4.heap.size TJ (fun g:Gr=>g.c.toArray) (fun cs=> .tuple #[.agg cs,J (uk gr.a a.name ps.length).2]) (fun cq:Gr=>cq.a=(uk gr.a a.name ps.length).1))]) N N N N Nq (cG _) ?_
 refine aw Z Z Z Z Z (fun w' hw'=>kh aR Z ((H.later hw').ent (i:=0) Z) Z)<|aw Z Z Z Z Z (fun w' hw'=>Zf fq Z)<|aw Z Z Z Z Z (fun w' hw'=>bd aY Z (aK ((H.later hw').ent (i:=2) Z) Z))<|aw Z Z Z Z Z (fun w' hw'=>Yp Z)<|aw Z Z Z Z Z (fun w' hw'=>aM Z)<|aw Z Z Z Z Z (fun w' hw'=>Zf aU Z)<|aw Z Z Z Z Z (fun w' hw'=>Zf dF Z)<|aw Z Z Z Z Z (fun w' hw'=>bd er Z (aK ((H.later hw').ent (i:=3) Z) Z))<|aw Z Z Z Z Z (fun w' hw'=>bl kW Z)<|ud (gv:=(fun cs=> .tuple #[.agg cs,J (uk gr.a a.name ps.length).2])) Ea Z Z Z Z Z (fun w' hw'=>hw'.size) (fun w' hw'=>LV gr a.name ps.length w' (Hp.grM (H.later hw') hgr) hgi.ok hnm hp4 (by have:=hgi.gen;omega)) Z fun cs39=>aw Z Z Z Z Z (fun w' hw'=>Yu Z)<|aw Z Z Z Z Z (fun w' hw'=>Xa Z Z)<|aw Z Z Z Z Z (fun w' hw'=>Xi Z Z)<|aT ?_
 intro w5 hw' hF
 obtain⟨hF,g3,eq,hag3,hrd39⟩:=hF;cases eq
 replace H:=H.learn hw' (MW w0 w4.heap.size w5.heap.size g3) ⟨H.size,hrd39⟩ (ap _) (ap _)
 clear hw' hF
 refine bI H 0 (#[J (g3.clock),J (g3.wait),J (g3.gen),.slice g3.mA g3.ms.length g3.mC,.slice g3.oA g3.os.length g3.oC]) bD Z Z Z Z Z N N fun w6 H=>G (Wi Z)<|U ?_
 obtain rfl:z=uk gr.a a.name ps.length:=by rw[<-hz,if_pos h28]
 exact⟨(g3,_,_),⟨hag3,H⟩,ef Z,Qg⟩
 refine G (Wb Z)<|U<|ZF Z<|W<|Zr<|G (me Z Z h17)<|G (Wb Z)<|U<|ZF Z<|W<|Zr ?_
 refine dZ (cr Z Z) Z Z Z (fun h58=> ?_) (fun h58=> ?_)
 refine G (Wb Z)<|U<|ZT Z<|Zr<|G (Zw aR H 0 Z Z Z)<|G (Zf fq Z)<|G (Zd aY H 2 Z Z Z)<|G (Zf fY Z)<|G (Zd al H 2 Z Z Z)<|cE Eb (MH gr a.name a.n _ (Hp.grM H hgr) hgi.ok hnm) Z Z ?_
 rintro _ w7 ⟨g3,rfl,hag3,hng3⟩;replace H:=H.learn hng3.2 (MW w0 w4.heap.size w7.heap.size g3) ⟨H.size,hng3.1⟩ (ap _) (ap _);clear hng3
 refine G (Yu Z)<|G (Xa Z Z)<|G (Xi Z Z)<|bI H 0 (#[J (g3.clock),J (g3.wait),J (g3.gen),.slice g3.mA g3.ms.length g3.mC,.slice g3.oA g3.os.length g3.oC]) bD Z Z Z Z Z N N fun w8 H=>G (Wi Z)<|U ?_
 obtain rfl:z=y0 gr.a a.name a.n:=by rw[<-hz,if_neg h28,if_pos h58]
 exact⟨(g3,_,_),⟨hag3,H⟩,ef Z,Qg⟩
 refine G (Wb Z)<|U<|ZF Z<|Zr<|G (Zw aR H 0 Z Z Z)<|G (Zf fq Z)<|G (Zd aY H 2 Z Z Z)<|G (Zf fY Z)<|G (Zd al H 2 Z Z Z)<|G (Zf ez Z)<|G (Zd al H 2 Z Z Z)<|G (Zf OZ Z)<|G (Zd al H 2 Z Z Z)<|cE Da (IS gr a.name a.n a.part a.m _ (Hp.grM H hgr) hgi.ok hnm hm.1) Z Z ?_
 rintro _ w9 ⟨g3,rfl,hag3,hng3⟩;replace H:=H.learn hng3.2 (MW w0 w4.heap.size w9.heap.size g3) ⟨H.size,hng3.1⟩ (ap _) (ap _);clear hng3
 refine G (Yu Z)<|G (Xa Z Z)<|G (Xi Z Z)<|bI H 0 (#[J (g3.clock),J (g3.wait),J (g3.gen),.slice g3.mA g3.ms.length g3.mC,.slice g3.oA g3.os.length g3.oC]) bD Z Z Z Z Z N N fun w10 H=>G (Wi Z)<|U ?_
 obtain rfl:z=tC gr.a a.name a.n a.part a.m:=by rw[<-hz,if_neg h28,if_neg h58]
 exact⟨(g3,_,_),⟨hag3,H⟩,ef Z,Qg⟩
 rintro⟨g3,lo,hi⟩ ρ1 w11 ⟨hag3,H⟩
 show CW _ _ _ _ (dO (ij _ _ ρ1) [(6,J z.2)]) w11
 refine W<|W<|Zr<|G (Yi Z) ?_
 refine sU (jv Z Z) Z Z Z (fun h69=> ?_) (fun h69=> ?_)
 refine U<|ZT Z<|W<|Zr<|G (Yi Z)<|cE bO (dU z.2 _) Z Z ?_
 rintro _ w12 ⟨rfl,hb⟩;replace H:=H.later hb;clear hb
 refine bI H 1 (#[J (z.2),J (0),.slice none 0 0]) bA Z Z Z Z Z N N fun w13 H=>U<|Zt ?_
 exact gB (cs0:= #[J (z.2),J (0),.slice none 0 0]) Z bx Z (H.ent (i:=1) Z) Z ⟨⟨ps,some ⟨gP,0,none⟩,pC,co,clo,chi,gr,glo,ghi,sns,snA,snC⟩,by rw[hsp,if_neg h69];exact pq.plain _ _ _,by rw[hsp,if_neg h69];rfl,Bw.shut (X:=[(b5,_),(b4,_),(b3,_)]) row hsn hown (aj _ hco) (aj _ hgr) (fun q hq=>aj _ (hps q hq)) (fun f hf=>aj _ hf) H Z⟩
 refine U<|ZF Z<|Zk<|W<|Zr<|G (Yp Z)<|G (Zw aR H 0 Z Z Z)<|G (aM Z)<|G (Zf aU Z)<|G (Zf jQ Z)<|bI H 3 (#[.slice (Qd gP) ps.length pC,J (co.clock),J (co.next),J (co.wait),.slice co.A co.txs.length co.cap,J (g3.clock),J (g3.wait),J (g3.gen),.slice g3.mA g3.ms.length g3.mC,.slice g3.oA g3.os.length g3.oC,.slice snA sns.length snC]) bD Z Z Z Z Z N N fun w14 H=>U<|W<|Zr<|G (Zf kI Z)<|G (Zd al H 0 Z Z Z)<|G (bp (cs:= #[J (0),J (g3.gen),.slice none 0 0]) iX dn N)<|bI H 1 (#[J (0),J (g3.gen),.slice none 0 0]) bA Z Z Z Z Z N N fun w15 H=>U<|Zt ?_
 have hz0:z.2=0:=by simpa using h69
 have hgn:z.1.gen=g3.gen:=by rw[<-hag3];rfl
 exact gB (cs0:= #[J (0),J (g3.gen),.slice none 0 0]) Z bx Z (H.ent (i:=1) Z) Z ⟨⟨ps,some ⟨gP,0,none⟩,pC,co,clo,chi,g3,lo,hi,sns,snA,snC⟩,by rw[hsp,if_pos hz0,hgn];exact pq.plain _ _ _,by rw[hsp,if_pos hz0,<-hag3];rfl,Bw.shut (X:=[(b5,_),(b4,_),(b3,_)]) row hsn hown (aj _ hco) (aA ..) (fun q hq=>aj _ (hps q hq)) (fun f hf=>aj _ hf) H Z⟩
theorem y4.nil {w0 w:World} {bb:Nat} {b:Bk} {K:List (Nat×Obj)} {F:List cf} (h:y4 w0 w bb b K F) (A:Option Addr):y4 w0 w bb b K (ee nu 0 0 A []::F):=by
 obtain⟨gP,uP,Ls,Lo,F',B,hF⟩:=h
 exact⟨gP,uP,Ls,Lo,ee nu 0 0 A []::F',⟨B.pA,B.row,B.sn,B.own,aj _ B.co,aj _ B.gr,fun q hq=>aj _ (B.ps q hq),B.H.learnNil 0 (aV _) A⟩,fun f hf=>by
  rcases ay.1 hf with rfl|hf
  exact aA ..
  exact aj _ (hF f hf)⟩
theorem En {g:Gr} (h:ma g=true) (s:ByteArray) (p:Int):0<=(eS g s p).1:=by
 unfold eS
 split
 exact fj 0
 split
 show 0<=uT g.os p
 unfold uT
 split
 rename_i o ho
 exact((dC.1 h).2.2.1 o (List.mem_of_find?_eq_some ho)).2.2.1
 exact fj 0
 exact fj 0
theorem Qp {w0 w:World} {bb:Nat} {b:Bk} {gP:Nat} {uP:Array Value} {Ls Lo K:List (Nat×Obj)} {F:List cf} (a:Act) (B:Bw w0 w bb b gP uP Ls Lo K F) (hnm:bC a.name=true) (hpn:0<=a.part/\a.part<b.ps.length) {k np:Nat} {wt:Int} (hgi:rR (fun _=>True) wt np k b.gr) (hw:(eS b.gr.a a.name a.part).2≠0):di aa gK [.pointer (Qd bb),a.v] w fun v w2=> ∃ (x:An) (A:Option Addr) (c lo hi:Nat),rO b.a a x/\v=.agg #[J x.code,J x.n,.slice A x.texts.length c]/\x.texts.length<=c/\y4 w0 w2 bb b K (ee nu lo hi A x.texts::F):=by
 refine aG iL Z Z ?_
 have hP:rO b.a a _:=.no hw
 obtain⟨ps,pA,pC,co,clo,chi,gr,glo,ghi,sns,snA,snC⟩:=b
 obtain⟨hpA,row,hsn,hown,hco,hgr,hps,H⟩:=B
 dsimp only at hpA row hsn hown hco hgr hps
 subst hpA
 replace H:Hp w0 w ((bb,.cells #[.slice (Qd gP) ps.length pC,J (co.clock),J (co.next),J (co.wait),.slice co.A co.txs.length co.cap,J (gr.clock),J (gr.wait),J (gr.gen),.slice gr.mA gr.ms.length gr.mC,.slice gr.oA gr.os.length gr.oC,.slice snA sns.length snC] cB (0,0))::(gP,.cells uP bY (0,0))::(Ls++(Lo++K))) F:=H
 dsimp only at hpn hgi hw
 show CW _ _ _ _ (args [.pointer (Qd bb),.agg #[J (a.kind),.string (a.name),J (a.part),J (a.n),J (a.m),.string (a.text),J (a.lost)]]) w
 refine W<|Zr<|gU H Z Z fun w1 b3 H=>fc H dn Z fun w2 b4 H=>U<|W<|W<|Zr<|G (Yp Z)<|G (Zf ez Z)<|G (Zd al H 1 Z Z Z)<|cE eg (oD bb ⟨ps,some ⟨gP,0,none⟩,pC,co,clo,chi,gr,glo,ghi,sns,snA,snC⟩ a.part _ (H.ent (i:=2) Z)) Z Z ?_
 rintro _ w3 ⟨rfl,hb⟩;replace H:=H.later hb;clear hb
 rw[decide_eq_true hpn]
 refine G (d9 Z)<|U<|ZF Z<|Zk<|W ?_
 refine bG cv [0,1,2,3,4,5,6,7,8,9,10,11,12,13,14] [] [9] [0,1,2,3,5,7,10,11,12,13,14] (sp [(9,Sp.one (.tuple #[J (eS gr.a a.name a.part).1,J (eS gr.a a.name a.part).2]))]) N N N N Nq (cG _) ?_
 refine aw Z Z Z Z Z (fun w' hw'=>Yp Z)<|aw Z Z Z Z Z (fun w' hw'=>aM Z)<|aw Z Z Z Z Z (fun w' hw'=>Zf aU Z)<|aw Z Z Z Z Z (fun w' hw'=>Zf jQ Z)<|aw Z Z Z Z Z (fun w' hw'=>jW 5 [J (gr.clock),J (gr.wait),J (gr.gen),.slice gr.mA gr.ms.length gr.mC,.slice gr.oA gr.os.length gr.oC] aR Z Z ((H.later hw').ent (i:=2) Z) Z)<|aw Z Z Z Z Z (fun w' hw'=>Zf fq Z)<|aw Z Z Z Z Z (fun w' hw'=>bd aY Z (aK ((H.later hw').ent (i:=1) Z) Z))<|aw Z Z Z Z Z (fun w' hw'=>Zf ez Z)<|aw Z Z Z Z Z (fun w' hw'=>bd al Z (aK ((H.later hw').ent (i:=1) Z) Z))<|jy nh Z Z Z Z Z (fun w' hw'=>tA gr a.name a.part w' (Hp.grM (H.later hw') hgr) hgi.ok hnm) Z<|aw Z Z Z Z Z (fun w' hw'=>Yu Z)<|aw Z Z Z Z Z (fun w' hw'=>Xi Z Z)<|aw Z Z Z Z Z (fun w' hw'=>Xi Z Z)<|aw Z Z Z Z Z (fun w' hw'=>Wi Z)<|aw Z Z Z Z Z (fun w' hw'=>Wi Z)<|aT ?_
 intro w4 hw' hF
 replace H:=H.later hw';clear hw' hF
 refine U<|W<|W<|Zr<|G (Yi Z)<|G (l9 Z Z hw)<|U<|ZT Z<|W<|Zr<|G (Yi Z)<|cE bO (dU (eS gr.a a.name a.part).2 _) Z Z ?_
 rintro _ w5 ⟨rfl,hb⟩;replace H:=H.later hb;clear hb
 refine bI H 0 (#[J ((eS gr.a a.name a.part).2),J (0),.slice none 0 0]) bA Z Z Z Z Z N N fun w6 H=>U<|Zt ?_
 exact gB (cs0:= #[J ((eS gr.a a.name a.part).2),J (0),.slice none 0 0]) Z bx Z (H.ent (i:=0) Z) Z ⟨_,none,0,0,0,hP,rfl,ap _,y4.nil (Bw.shut (X:=[(b4,_),(b3,_)]) row hsn hown hco hgr hps (fun _ h=>h) H Z) none⟩
theorem LB {w0 w:World} {bb:Nat} {b:Bk} {gP:Nat} {uP:Array Value} {Ls Lo K:List (Nat×Obj)} {F:List cf} (a:Act) (B:Bw w0 w bb b gP uP Ls Lo K F) (hnm:bC a.name=true) (hpn:0<=a.part/\a.part<b.ps.length) (hn:1<=a.n/\a.n<=20) {k np:Nat} {wt:Int} (hgi:rR (fun _=>True) wt np k b.gr) (hpk: ∀ q∈b.ps,q.p.a.ok) (hw:(eS b.gr.a a.name a.part).2=0) (hl: ∀ q,b.ps[a.part.toNat]? =some q->q.p.leader<0):di aa gK [.pointer (Qd bb),a.v] w fun v w2=> ∃ (x:An) (A:Option Addr) (c lo hi:Nat),rO b.a a x/\v=.agg #[J x.code,J x.n,.slice A x.texts.length c]/\x.texts.length<=c/\y4 w0 w2 bb b K (ee nu lo hi A x.texts::F):=by
 refine aG iL Z Z ?_
 obtain⟨n,hna⟩: ∃ n:Nat,a.part=(n:Int):=⟨a.part.toNat,by omega⟩
 have htn:a.part.toNat=n:=by omega
 obtain⟨m,hnm2⟩: ∃ m:Nat,a.n=(m:Int):=⟨a.n.toNat,by omega⟩
 have htm:a.n.toNat=m:=by omega
 obtain⟨q,hq⟩: ∃ q,b.ps[n]? =some q:=⟨_,ai I⟩
 have hqm:=ab hq
 have hok:=hpk q hqm
 have hqa:b.a.ps[a.part.toNat]? =some q.p.a:=by rw[htn];show(b.ps.map fun q=>q.p.a)[n]? =_;rw[aJ,hq];rfl
 have hlq:=hl q (by rw[htn];exact hq)
 have hP:rO b.a a _:=.yes q.p.a _ hw hqa (.none hlq)
 obtain⟨ps,pA,pC,co,clo,chi,gr,glo,ghi,sns,snA,snC⟩:=b
 obtain⟨hpA,row,hsn,hown,hco,hgr,hps,H⟩:=B
 dsimp only at hpA row hsn hown hco hgr hps
 subst hpA
 replace H:Hp w0 w ((bb,.cells #[.slice (Qd gP) ps.length pC,J (co.clock),J (co.next),J (co.wait),.slice co.A co.txs.length co.cap,J (gr.clock),J (gr.wait),J (gr.gen),.slice gr.mA gr.ms.length gr.mC,.slice gr.oA gr.os.length gr.oC,.slice snA sns.length snC] cB (0,0))::(gP,.cells uP bY (0,0))::(Ls++(Lo++K))) F:=H
 dsimp only at hpn hgi hw hq hqm
 show CW _ _ _ _ (args [.pointer (Qd bb),.agg #[J (a.kind),.string (a.name),J (a.part),J (a.n),J (a.m),.string (a.text),J (a.lost)]]) w
 refine W<|Zr<|gU H Z Z fun w1 b3 H=>fc H dn Z fun w2 b4 H=>U<|W<|W<|Zr<|G (Yp Z)<|G (Zf ez Z)<|G (Zd al H 1 Z Z Z)<|cE eg (oD bb ⟨ps,some ⟨gP,0,none⟩,pC,co,clo,chi,gr,glo,ghi,sns,snA,snC⟩ a.part _ (H.ent (i:=2) Z)) Z Z ?_
 rintro _ w3 ⟨rfl,hb⟩;replace H:=H.later hb;clear hb
 rw[decide_eq_true hpn]
 refine G (d9 Z)<|U<|ZF Z<|Zk<|W ?_
 refine bG cv [0,1,2,3,4,5,6,7,8,9,10,11,12,13,14] [] [9] [0,1,2,3,5,7,10,11,12,13,14] (sp [(9,Sp.one (.tuple #[J (eS gr.a a.name a.part).1,J (eS gr.a a.name a.part).2]))]) N N N N Nq (cG _) ?_
 refine aw Z Z Z Z Z (fun w' hw'=>Yp Z)<|aw Z Z Z Z Z (fun w' hw'=>aM Z)<|aw Z Z Z Z Z (fun w' hw'=>Zf aU Z)<|aw Z Z Z Z Z (fun w' hw'=>Zf jQ Z)<|aw Z Z Z Z Z (fun w' hw'=>jW 5 [J (gr.clock),J (gr.wait),J (gr.gen),.slice gr.mA gr.ms.length gr.mC,.slice gr.oA gr.os.length gr.oC] aR Z Z ((H.later hw').ent (i:=2) Z) Z)<|aw Z Z Z Z Z (fun w' hw'=>Zf fq Z)<|aw Z Z Z Z Z (fun w' hw'=>bd aY Z (aK ((H.later hw').ent (i:=1) Z) Z))<|aw Z Z Z Z Z (fun w' hw'=>Zf ez Z)<|aw Z Z Z Z Z (fun w' hw'=>bd al Z (aK ((H.later hw').ent (i:=1) Z) Z))<|jy nh Z Z Z Z Z (fun w' hw'=>tA gr a.name a.part w' (Hp.grM (H.later hw') hgr) hgi.ok hnm) Z<|aw Z Z Z Z Z (fun w' hw'=>Yu Z)<|aw Z Z Z Z Z (fun w' hw'=>Xi Z Z)<|aw Z Z Z Z Z (fun w' hw'=>Xi Z Z)<|aw Z Z Z Z Z (fun w' hw'=>Wi Z)<|aw Z Z Z Z Z (fun w' hw'=>Wi Z)<|aT ?_
 intro w4 hw' hF
 replace H:=H.later hw';clear hw' hF
 refine U<|W<|W<|Zr<|G (Yi Z)<|G (cj Z Z I)<|U<|ZF Z<|Zk<|W ?_
 refine JO cv [12,13,14,15,16,17,18,19] [] [0,1,2,3,5,7,9,10]<|jS [0,1,2,3,4,5,6,7,8,9,10,11] [12,13,14,15,16,17,18,19] [] [0,1,2,3,5,7,9,10] 7 _ N N N Nq<|aw Z Z Z Z Z (fun w' hw'=>Yp Z)<|aw Z Z Z Z Z (fun w' hw'=>aM Z)<|aw Z Z Z Z Z (fun w' hw'=>Zf aU Z)<|aw Z Z Z Z Z (fun w' hw'=>Zf dF Z)<|aw Z Z Z Z Z (fun w' hw'=>bd er Z (aK ((H.later hw').ent (i:=2) Z) Z))<|aw Z Z Z Z Z (fun w' hw'=>Zf ez Z)<|aw Z Z Z Z Z (fun w' hw'=>bd al Z (aK ((H.later hw').ent (i:=1) Z) Z))<|aw Z Z Z Z Z (fun w' hw'=>cL (k:=n) ia Z (congrArg (Value.int .i64) hna) (by first|omega|(simp only[ae];omega)))<|aw Z Z Z Z Z (fun w' hw'=>py bo row hq Z Z ((H.later hw').ent (i:=3) Z))<|aw Z Z Z Z Z (fun w' hw'=>Yi Z)<|aw Z Z Z Z Z (fun w' hw'=>Zf fY Z)<|aw Z Z Z Z Z (fun w' hw'=>bd al Z (aK ((H.later hw').ent (i:=1) Z) Z))<|aT ?_
 intro w5 hw' _;replace H:=H.later hw';clear hw'
 refine db 12 N Z<|cE ub (I9 q.p (eS gr.a a.name a.part).1 a.n _ (Hp.paM H (hps q hqm)) hok hlq) Z Z ?_
 rintro _ w6 ⟨rfl,hb⟩;replace H:=H.later hb;clear hb
 refine U<|bw 13 N N N Z Z Z Z Nq (fun _=>Yu Z)<|bw 14 N N N Z Z Z Z Nq (fun _=>Xs Z Z)<|bw 15 N N N Z Z Z Z Nq (fun _=>Xi Z Z)<|bw 16 N N N Z Z Z Z Nq (fun _=>Xi Z Z)<|bw 17 N N N Z Z Z Z Nq (fun _=>Ws Z)<|bw 18 N N N Z Z Z Z Nq (fun _=>Wi Z)<|bw 19 N N N Z Z Z Z Nq (fun _=>Wi Z)<|cz N<|W<|W<|Zr<|G (Yi Z)<|G (l9 Z Z (by decide))<|U<|ZT Z<|W<|Zr<|G (Yi Z)<|cE bO (dU 8 _) Z Z ?_
 rintro _ w7 ⟨rfl,hb⟩;replace H:=H.later hb;clear hb
 refine bI H 0 (#[J (8),J (0),.slice none 0 0]) bA Z Z Z Z Z N N fun w8 H=>U<|Zt ?_
 exact gB (cs0:= #[J (8),J (0),.slice none 0 0]) Z bx Z (H.ent (i:=0) Z) Z ⟨_,none,0,0,0,hP,rfl,ap _,y4.nil (Bw.shut (X:=[(b4,_),(b3,_)]) row hsn hown hco hgr hps (fun _ h=>h) H Z) none⟩
theorem I5 {w0 w:World} {bb:Nat} {b:Bk} {gP:Nat} {uP:Array Value} {Ls Lo K:List (Nat×Obj)} {F:List cf} (a:Act) (B:Bw w0 w bb b gP uP Ls Lo K F) (hnm:bC a.name=true) (hpn:0<=a.part/\a.part<b.ps.length) (hn:1<=a.n/\a.n<=20) {k np:Nat} {wt:Int} (hgi:rR (fun _=>True) wt np k b.gr) (hpk: ∀ q∈b.ps,q.p.a.ok) (hw:(eS b.gr.a a.name a.part).2=0) {l:Nat} {r:gh} (hld: ∀ q,b.ps[a.part.toNat]? =some q->q.p.leader=l/\q.p.reps[l]? =some r) (hr:r.es.length<(eS b.gr.a a.name a.part).1.toNat):di aa gK [.pointer (Qd bb),a.v] w fun v w2=> ∃ (x:An) (A:Option Addr) (c lo hi:Nat),rO b.a a x/\v=.agg #[J x.code,J x.n,.slice A x.texts.length c]/\x.texts.length<=c/\y4 w0 w2 bb b K (ee nu lo hi A x.texts::F):=by
 refine aG iL Z Z ?_
 obtain⟨n,hna⟩: ∃ n:Nat,a.part=(n:Int):=⟨a.part.toNat,by omega⟩
 have htn:a.part.toNat=n:=by omega
 obtain⟨m,hnm2⟩: ∃ m:Nat,a.n=(m:Int):=⟨a.n.toNat,by omega⟩
 have htm:a.n.toNat=m:=by omega
 obtain⟨q,hq⟩: ∃ q,b.ps[n]? =some q:=⟨_,ai I⟩
 have hqm:=ab hq
 have hok:=hpk q hqm
 have hqa:b.a.ps[a.part.toNat]? =some q.p.a:=by rw[htn];show(b.ps.map fun q=>q.p.a)[n]? =_;rw[aJ,hq];rfl
 obtain⟨hl1,hl2⟩:=hld q (by rw[htn];exact hq)
 have hra:q.p.a.reps[l]? =some r.a:=by show(q.p.reps.map gh.a)[l]? =_;rw[aJ,hl2];rfl
 obtain⟨fr,hfr⟩: ∃ f:Nat,(eS b.gr.a a.name a.part).1=(f:Int):=⟨(eS b.gr.a a.name a.part).1.toNat,by have:=En (g:=b.gr.a) ((Gb _).2 hgi.ok) a.name a.part;omega⟩
 have htf:(eS b.a.gr a.name a.part).1.toNat=fr:=by show(eS b.gr.a a.name a.part).1.toNat=fr;omega
 have hP:rO b.a a _:=.yes q.p.a _ hw hqa (.range l r.a hl1 hra hr)
 obtain⟨ps,pA,pC,co,clo,chi,gr,glo,ghi,sns,snA,snC⟩:=b
 obtain⟨hpA,row,hsn,hown,hco,hgr,hps,H⟩:=B
 dsimp only at hpA row hsn hown hco hgr hps
 subst hpA
 replace H:Hp w0 w ((bb,.cells #[.slice (Qd gP) ps.length pC,J (co.clock),J (co.next),J (co.wait),.slice co.A co.txs.length co.cap,J (gr.clock),J (gr.wait),J (gr.gen),.slice gr.mA gr.ms.length gr.mC,.slice gr.oA gr.os.length gr.oC,.slice snA sns.length snC] cB (0,0))::(gP,.cells uP bY (0,0))::(Ls++(Lo++K))) F:=H
 dsimp only at hpn hgi hw hq hqm hfr hr
 show CW _ _ _ _ (args [.pointer (Qd bb),.agg #[J (a.kind),.string (a.name),J (a.part),J (a.n),J (a.m),.string (a.text),J (a.lost)]]) w
 refine W<|Zr<|gU H Z Z fun w1 b3 H=>fc H dn Z fun w2 b4 H=>U<|W<|W<|Zr<|G (Yp Z)<|G (Zf ez Z)<|G (Zd al H 1 Z Z Z)<|cE eg (oD bb ⟨ps,some ⟨gP,0,none⟩,pC,co,clo,chi,gr,glo,ghi,sns,snA,snC⟩ a.part _ (H.ent (i:=2) Z)) Z Z ?_
 rintro _ w3 ⟨rfl,hb⟩;replace H:=H.later hb;clear hb
 rw[decide_eq_true hpn]
 refine G (d9 Z)<|U<|ZF Z<|Zk<|W ?_
 refine bG cv [0,1,2,3,4,5,6,7,8,9,10,11,12,13,14] [] [9] [0,1,2,3,5,7,10,11,12,13,14] (sp [(9,Sp.one (.tuple #[J (eS gr.a a.name a.part).1,J (eS gr.a a.name a.part).2]))]) N N N N Nq (cG _) ?_
 refine aw Z Z Z Z Z (fun w' hw'=>Yp Z)<|aw Z Z Z Z Z (fun w' hw'=>aM Z)<|aw Z Z Z Z Z (fun w' hw'=>Zf aU Z)<|aw Z Z Z Z Z (fun w' hw'=>Zf jQ Z)<|aw Z Z Z Z Z (fun w' hw'=>jW 5 [J (gr.clock),J (gr.wait),J (gr.gen),.slice gr.mA gr.ms.length gr.mC,.slice gr.oA gr.os.length gr.oC] aR Z Z ((H.later hw').ent (i:=2) Z) Z)<|aw Z Z Z Z Z (fun w' hw'=>Zf fq Z)<|aw Z Z Z Z Z (fun w' hw'=>bd aY Z (aK ((H.later hw').ent (i:=1) Z) Z))<|aw Z Z Z Z Z (fun w' hw'=>Zf ez Z)<|aw Z Z Z Z Z (fun w' hw'=>bd al Z (aK ((H.later hw').ent (i:=1) Z) Z))<|jy nh Z Z Z Z Z (fun w' hw'=>tA gr a.name a.part w' (Hp.grM (H.later hw') hgr) hgi.ok hnm) Z<|aw Z Z Z Z Z (fun w' hw'=>Yu Z)<|aw Z Z Z Z Z (fun w' hw'=>Xi Z Z)<|aw Z Z Z Z Z (fun w' hw'=>Xi Z Z)<|aw Z Z Z Z Z (fun w' hw'=>Wi Z)<|aw Z Z Z Z Z (fun w' hw'=>Wi Z)<|aT ?_
 intro w4 hw' hF
 replace H:=H.later hw';clear hw' hF
 refine U<|W<|W<|Zr<|G (Yi Z)<|G (cj Z Z I)<|U<|ZF Z<|Zk<|W ?_
 refine JO cv [12,13,14,15,16,17,18,19] [] [0,1,2,3,5,7,9,10]<|jS [0,1,2,3,4,5,6,7,8,9,10,11] [12,13,14,15,16,17,18,19] [] [0,1,2,3,5,7,9,10] 7 _ N N N Nq<|aw Z Z Z Z Z (fun w' hw'=>Yp Z)<|aw Z Z Z Z Z (fun w' hw'=>aM Z)<|aw Z Z Z Z Z (fun w' hw'=>Zf aU Z)<|aw Z Z Z Z Z (fun w' hw'=>Zf dF Z)<|aw Z Z Z Z Z (fun w' hw'=>bd er Z (aK ((H.later hw').ent (i:=2) Z) Z))<|aw Z Z Z Z Z (fun w' hw'=>Zf ez Z)<|aw Z Z Z Z Z (fun w' hw'=>bd al Z (aK ((H.later hw').ent (i:=1) Z) Z))<|aw Z Z Z Z Z (fun w' hw'=>cL (k:=n) ia Z (congrArg (Value.int .i64) hna) (by first|omega|(simp only[ae];omega)))<|aw Z Z Z Z Z (fun w' hw'=>py bo row hq Z Z ((H.later hw').ent (i:=3) Z))<|aw Z Z Z Z Z (fun w' hw'=>Yi Z)<|aw Z Z Z Z Z (fun w' hw'=>Zf fY Z)<|aw Z Z Z Z Z (fun w' hw'=>bd al Z (aK ((H.later hw').ent (i:=1) Z) Z))<|aT ?_
 intro w5 hw' _;replace H:=H.later hw';clear hw'
 refine db 12 N Z<|cE ub ((by have hA:=Hg q.p fr m l r _ (Hp.paM H (hps q hqm)) hok hl1 hl2 I;rw[<-hfr,<-hnm2]at hA;exact hA)) Z Z ?_
 rintro _ w6 ⟨rfl,hb⟩;replace H:=H.later hb;clear hb
 refine U<|bw 13 N N N Z Z Z Z Nq (fun _=>Yu Z)<|bw 14 N N N Z Z Z Z Nq (fun _=>Xs Z Z)<|bw 15 N N N Z Z Z Z Nq (fun _=>Xi Z Z)<|bw 16 N N N Z Z Z Z Nq (fun _=>Xi Z Z)<|bw 17 N N N Z Z Z Z Nq (fun _=>Ws Z)<|bw 18 N N N Z Z Z Z Nq (fun _=>Wi Z)<|bw 19 N N N Z Z Z Z Nq (fun _=>Wi Z)<|cz N<|W<|W<|Zr<|G (Yi Z)<|G (l9 Z Z (by decide))<|U<|ZT Z<|W<|Zr<|G (Yi Z)<|cE bO (dU 2 _) Z Z ?_
 rintro _ w7 ⟨rfl,hb⟩;replace H:=H.later hb;clear hb
 refine bI H 0 (#[J (2),J (0),.slice none 0 0]) bA Z Z Z Z Z N N fun w8 H=>U<|Zt ?_
 exact gB (cs0:= #[J (2),J (0),.slice none 0 0]) Z bx Z (H.ent (i:=0) Z) Z ⟨_,none,0,0,0,hP,rfl,ap _,y4.nil (Bw.shut (X:=[(b4,_),(b3,_)]) row hsn hown hco hgr hps (fun _ h=>h) H Z) none⟩
theorem Qo {w0 w:World} {bb:Nat} {b:Bk} {gP:Nat} {uP:Array Value} {Ls Lo K:List (Nat×Obj)} {F:List cf} (a:Act) (B:Bw w0 w bb b gP uP Ls Lo K F) (hnm:bC a.name=true) (hpn:0<=a.part/\a.part<b.ps.length) (hn:1<=a.n/\a.n<=20) {k np:Nat} {wt:Int} (hgi:rR (fun _=>True) wt np k b.gr) (hpk: ∀ q∈b.ps,q.p.a.ok) (hw:(eS b.gr.a a.name a.part).2=0) {l:Nat} {r:gh} (hld: ∀ q,b.ps[a.part.toNat]? =some q->q.p.leader=l/\q.p.reps[l]? =some r) (hr:(eS b.gr.a a.name a.part).1.toNat<=r.es.length):di aa gK [.pointer (Qd bb),a.v] w fun v w2=> ∃ (x:An) (A:Option Addr) (c lo hi:Nat),rO b.a a x/\v=.agg #[J x.code,J x.n,.slice A x.texts.length c]/\x.texts.length<=c/\y4 w0 w2 bb b K (ee nu lo hi A x.texts::F):=by
 refine aG iL Z Z ?_
 obtain⟨n,hna⟩: ∃ n:Nat,a.part=(n:Int):=⟨a.part.toNat,by omega⟩
 have htn:a.part.toNat=n:=by omega
 obtain⟨m,hnm2⟩: ∃ m:Nat,a.n=(m:Int):=⟨a.n.toNat,by omega⟩
 have htm:a.n.toNat=m:=by omega
 obtain⟨q,hq⟩: ∃ q,b.ps[n]? =some q:=⟨_,ai I⟩
 have hqm:=ab hq
 have hok:=hpk q hqm
 have hqa:b.a.ps[a.part.toNat]? =some q.p.a:=by rw[htn];show(b.ps.map fun q=>q.p.a)[n]? =_;rw[aJ,hq];rfl
 obtain⟨hl1,hl2⟩:=hld q (by rw[htn];exact hq)
 have hra:q.p.a.reps[l]? =some r.a:=by show(q.p.reps.map gh.a)[l]? =_;rw[aJ,hl2];rfl
 obtain⟨fr,hfr⟩: ∃ f:Nat,(eS b.gr.a a.name a.part).1=(f:Int):=⟨(eS b.gr.a a.name a.part).1.toNat,by have:=En (g:=b.gr.a) ((Gb _).2 hgi.ok) a.name a.part;omega⟩
 have htf:(eS b.a.gr a.name a.part).1.toNat=fr:=by show(eS b.gr.a a.name a.part).1.toNat=fr;omega
 have hP: ∀ st out bt,rW (r.es.take r.high.toNat) st->Do r.es r.high.toNat st fr m out bt->rO b.a a ⟨0,(bt:Nat),out⟩:=fun st out bt h1 h2=> .yes q.p.a _ hw hqa (.ok l r.a st out bt hl1 hra (by rw[htf];show fr<=r.es.length;omega) h1 (by rw[htf,htm];exact h2))
 obtain⟨ps,pA,pC,co,clo,chi,gr,glo,ghi,sns,snA,snC⟩:=b
 obtain⟨hpA,row,hsn,hown,hco,hgr,hps,H⟩:=B
 dsimp only at hpA row hsn hown hco hgr hps
 subst hpA
 replace H:Hp w0 w ((bb,.cells #[.slice (Qd gP) ps.length pC,J (co.clock),J (co.next),J (co.wait),.slice co.A co.txs.length co.cap,J (gr.clock),J (gr.wait),J (gr.gen),.slice gr.mA gr.ms.length gr.mC,.slice gr.oA gr.os.length gr.oC,.slice snA sns.length snC] cB (0,0))::(gP,.cells uP bY (0,0))::(Ls++(Lo++K))) F:=H
 dsimp only at hpn hgi hw hq hqm hfr hr hP
 show CW _ _ _ _ (args [.pointer (Qd bb),.agg #[J (a.kind),.string (a.name),J (a.part),J (a.n),J (a.m),.string (a.text),J (a.lost)]]) w
 refine W<|Zr<|gU H Z Z fun w1 b3 H=>fc H dn Z fun w2 b4 H=>U<|W<|W<|Zr<|G (Yp Z)<|G (Zf ez Z)<|G (Zd al H 1 Z Z Z)<|cE eg (oD bb ⟨ps,some ⟨gP,0,none⟩,pC,co,clo,chi,gr,glo,ghi,sns,snA,snC⟩ a.part _ (H.ent (i:=2) Z)) Z Z ?_
 rintro _ w3 ⟨rfl,hb⟩;replace H:=H.later hb;clear hb
 rw[decide_eq_true hpn]
 refine G (d9 Z)<|U<|ZF Z<|Zk<|W ?_
 refine bG cv [0,1,2,3,4,5,6,7,8,9,10,11,12,13,14] [] [9] [0,1,2,3,5,7,10,11,12,13,14] (sp [(9,Sp.one (.tuple #[J (eS gr.a a.name a.part).1,J (eS gr.a a.name a.part).2]))]) N N N N Nq (cG _) ?_
 refine aw Z Z Z Z Z (fun w' hw'=>Yp Z)<|aw Z Z Z Z Z (fun w' hw'=>aM Z)<|aw Z Z Z Z Z (fun w' hw'=>Zf aU Z)<|aw Z Z Z Z Z (fun w' hw'=>Zf jQ Z)<|aw Z Z Z Z Z (fun w' hw'=>jW 5 [J (gr.clock),J (gr.wait),J (gr.gen),.slice gr.mA gr.ms.length gr.mC,.slice gr.oA gr.os.length gr.oC] aR Z Z ((H.later hw').ent (i:=2) Z) Z)<|aw Z Z Z Z Z (fun w' hw'=>Zf fq Z)<|aw Z Z Z Z Z (fun w' hw'=>bd aY Z (aK ((H.later hw').ent (i:=1) Z) Z))<|aw Z Z Z Z Z (fun w' hw'=>Zf ez Z)<|aw Z Z Z Z Z (fun w' hw'=>bd al Z (aK ((H.later hw').ent (i:=1) Z) Z))<|jy nh Z Z Z Z Z (fun w' hw'=>tA gr a.name a.part w' (Hp.grM (H.later hw') hgr) hgi.ok hnm) Z<|aw Z Z Z Z Z (fun w' hw'=>Yu Z)<|aw Z Z Z Z Z (fun w' hw'=>Xi Z Z)<|aw Z Z Z Z Z (fun w' hw'=>Xi Z Z)<|aw Z Z Z Z Z (fun w' hw'=>Wi Z)<|aw Z Z Z Z Z (fun w' hw'=>Wi Z)<|aT ?_
 intro w4 hw' hF
 replace H:=H.later hw';clear hw' hF
 refine U<|W<|W<|Zr<|G (Yi Z)<|G (cj Z Z I)<|U<|ZF Z<|Zk<|W ?_
 refine JO cv [12,13,14,15,16,17,18,19] [] [0,1,2,3,5,7,9,10]<|jS [0,1,2,3,4,5,6,7,8,9,10,11] [12,13,14,15,16,17,18,19] [] [0,1,2,3,5,7,9,10] 7 _ N N N Nq<|aw Z Z Z Z Z (fun w' hw'=>Yp Z)<|aw Z Z Z Z Z (fun w' hw'=>aM Z)<|aw Z Z Z Z Z (fun w' hw'=>Zf aU Z)<|aw Z Z Z Z Z (fun w' hw'=>Zf dF Z)<|aw Z Z Z Z Z (fun w' hw'=>bd er Z (aK ((H.later hw').ent (i:=2) Z) Z))<|aw Z Z Z Z Z (fun w' hw'=>Zf ez Z)<|aw Z Z Z Z Z (fun w' hw'=>bd al Z (aK ((H.later hw').ent (i:=1) Z) Z))<|aw Z Z Z Z Z (fun w' hw'=>cL (k:=n) ia Z (congrArg (Value.int .i64) hna) (by first|omega|(simp only[ae];omega)))<|aw Z Z Z Z Z (fun w' hw'=>py bo row hq Z Z ((H.later hw').ent (i:=3) Z))<|aw Z Z Z Z Z (fun w' hw'=>Yi Z)<|aw Z Z Z Z Z (fun w' hw'=>Zf fY Z)<|aw Z Z Z Z Z (fun w' hw'=>bd al Z (aK ((H.later hw').ent (i:=1) Z) Z))<|aT ?_
 intro w5 hw' _;replace H:=H.later hw';clear hw'
 refine db 12 N Z<|cE ub ((by have hA:=N0 q.p fr m l r _ (Hp.paM H (hps q hqm)) hok hl1 hl2 I I I;rw[<-hfr,<-hnm2]at hA;exact hA)) Z Z ?_
 rintro _ w6 ⟨sb,out,bt,A7,c7,hst7,hrd7,rfl,hr7,hc7,hb7⟩;replace H:=H.learnRd hb7 hr7;clear hr7 hb7
 refine U<|bw 13 N N N Z Z Z Z Nq (fun _=>Yu Z)<|bw 14 N N N Z Z Z Z Nq (fun _=>Xs Z Z)<|bw 15 N N N Z Z Z Z Nq (fun _=>Xi Z Z)<|bw 16 N N N Z Z Z Z Nq (fun _=>Xi Z Z)<|bw 17 N N N Z Z Z Z Nq (fun _=>Ws Z)<|bw 18 N N N Z Z Z Z Nq (fun _=>Wi Z)<|bw 19 N N N Z Z Z Z Nq (fun _=>Wi Z)<|cz N<|W<|W<|Zr<|G (Yi Z)<|G (cj Z Z (by decide))<|U<|ZF Z<|Zk<|W<|Zr<|G (Yi Z)<|G (Ys Z)<|G (bp (cs:= #[J (0),J ((bt:Nat)),.slice A7 out.length c7]) iX dn N)<|bI H 0 (#[J (0),J ((bt:Nat)),.slice A7 out.length c7]) bA Z Z Z Z Z N N fun w7 H=>U<|Zt ?_
 exact gB (cs0:= #[J (0),J ((bt:Nat)),.slice A7 out.length c7]) Z bx Z (H.ent (i:=0) Z) Z ⟨_,A7,c7,_,_,hP _ _ _ hst7 hrd7,rfl,hc7,Bw.shut (X:=[(b4,_),(b3,_)]) row hsn hown (aj _ hco) (aj _ hgr) (fun q hq=>aj _ (hps q hq)) (fun _ h=>h) H Z⟩
section
/-- an act that the laws play -/
structure og (np nr:Nat) (a:Act):Prop where
 kind:1<=a.kind/\a.kind<=20/\a.kind≠17/\(a.kind<=9∨a.kind=13∨16<=a.kind)
 name:a.kind=1∨a.kind=16∨a.kind=18∨a.kind=19∨a.kind=20->bC a.name=true
 part:0<=a.part/\a.part<np
 n:0<=a.n/\a.n<=1000
 rep:8<=a.kind->a.kind<=15->a.n<nr
 fin:a.kind=5->a.n<=1
 poll:a.kind=19->1<=a.n/\a.n<=20
 m:0<=a.m/\a.m<=1000
 text:a.text.size<=40
 lost:0<=a.lost/\a.lost<=2
def jz (w:Wa) (a:Act):Wa×An:=
 if a.kind=1 then mp w a else if a.kind=2 then jn w a else if a.kind=3∨a.kind=4 then gw w a (decide (a.kind=4))else if a.kind=5 then fO w a else
 if a.kind=6 then kg w a else if a.kind=7 then uU w a else if a.kind<=15 then oz w a else AS w a
inductive lS (w:Wa) (a:Act):Wa->An->Prop
 |poll (x:An):a.kind=19->rO w a x->lS w a w x
 |other:a.kind≠19->lS w a (jz w a).1 (jz w a).2
def PL (p:gi):Prop:= ∀ (i:Nat) (x:RA),p.reps[i]? =some x->uL x.es
theorem PL.set {p:gi} (h:PL p) {r:Nat} {x':RA} (hx:uL x'.es):PL {p with reps:=p.reps.set r x'}:=fun i y hy=>by
 rcases eZ hy with⟨_,rfl⟩|⟨_,hy⟩
 exact hx
 exact h i y hy
theorem PL.adv {p:gi} (h:PL p):PL (nB p):=fun i y hy=>by
 obtain⟨z,hz,he,-,-⟩:=wx hy
 rw[he];exact h i z hz
def Gt (K:List cd) (m n:Nat) (few:Int) (p:gi):Prop:=Gd (fun _=>True) K m n few p/\PL p
theorem Jh {K:List cd} {p:gi} (h:Dz K p) {i j:Nat} {x y:RA} (hx:p.reps[i]? =some x) (hy:p.reps[j]? =some y):x.es.take (dV x.es y.es)=y.es.take (dV x.es y.es):=by
 cases hc:dV x.es y.es with
 |zero=>simp
 |succ c=>
  obtain⟨e,f,h1,h2,h3⟩:=xy (a:=x.es) (b:=y.es) (k:=c) I
  exact h.lm i j x y c e f hx hy h1 h2 h3
theorem Mq {K:List cd} {p:gi} {r:Nat} (hp:p.ok) (hi:Dz K p) (h:PL p) (he:(iU p r).2.2=0):PL (iU p r).1:=by
 obtain⟨x,y,l,hx,hl,hne,hu,hy⟩:=wq hp he
 rw[nX hx hl hne hu hy]
 have hm:=Jh hi hx hy
 intro i z hz
 rcases eZ hz with⟨_,rfl⟩|⟨_,hz⟩
 unfold io
 split
 rename_i z hz
 dsimp only
 rw[hm,<-ed hz];exact(h l y hy).take _
 dsimp only
 exact(h r x hx).take _
 rcases eZ hz with⟨_,rfl⟩|⟨_,hz⟩
 exact h l y hy
 exact h i z hz
variable {K:List cd} {m n:Nat} {few:Int} {p:gi} {r:Nat}
theorem R2 {e:cd} (h:Gt K m n few p) (hm:m<400) (he:(eF p e).2.2=0): ∃ K',K<+:K'/\Gt K' (m+1) n few (eF p e).1:=by
 obtain⟨K',h1,h2⟩:=R3 h.1 trivial hm he
 refine⟨K',h1,h2,?_⟩
 obtain⟨x,l,hl,hx,hg,hv,hS⟩:=Bs he
 rcases hS with⟨-,hS,-⟩|⟨hv1,-,hS,-⟩
 rw[hS];exact h.2
 rw[hS];exact h.2.set (.snoc (h.2 l x hx) hv hv1)
theorem Qf {a:Act} (h:Gt K m n few p) (he:(jp p a).2.2=0): ∃ K',K<+:K'/\Gt K' m n few (jp p a).1:=by
 unfold jp at he⊢
 split at he
 rename_i c;rw[if_pos c]
 obtain⟨K',h1,h2⟩:=OW h.1 he
 exact⟨K',h1,h2,Mq h.1.ok h.1.inv h.2 he⟩
 rename_i c;rw[if_neg c];clear c
 split at he
 rename_i c;rw[if_pos c]
 obtain⟨K',h1,h2⟩:=P3 h.1 he
 refine⟨K',h1,h2,?_⟩
 obtain⟨x,hx,hu,hS⟩:=yg he
 dsimp only at hS⊢
 rw[hS]
 have:=h.2 _ x hx
 split
 exact PL.adv (fun i y hy=>by
  rcases eZ hy with⟨_,rfl⟩|⟨_,hy⟩
  exact this
  exact h.2 i y hy)
 exact h.2.set this
 rename_i c;rw[if_neg c];clear c
 obtain⟨K',h1,h2⟩:=O8 h.1 he
 refine⟨K',h1,h2,?_⟩
 obtain⟨x,hx,-,-,-,-,hS⟩:=zK h.1.ok.isrl he
 dsimp only at hS⊢
 rw[hS]
 exact PL.adv fun i y hy=>h.2 i y hy
structure PM (np nr:Nat) (few:Int) (k:Nat) (K:Nat->List cd) (ps:List gi):Prop where
 len:ps.length=np
 gt: ∀ (n:Nat) (p:gi),ps[n]? =some p->Gt (K n) k nr few p
theorem Gt.mono (h:Gt K m n few p) {m':Nat} (hm:m<=m'):Gt K m' n few p:=⟨h.1.mono hm,h.2⟩
theorem PM.more {np nr k k':Nat} {few:Int} {K:Nat->List cd} {ps:List gi} (h:PM np nr few k K ps) (hk:k<=k'):PM np nr few k' K ps:=⟨h.len,fun n p hp=>(h.gt n p hp).mono hk⟩
def Up (K K':Nat->List cd):Prop:= ∀ n,K n<+:K' n
theorem Up.refl (K:Nat->List cd):Up K K:=fun _=>ki _
theorem Up.trans {K K' K2:Nat->List cd} (h:Up K K') (h':Up K' K2):Up K K2:=fun n=>(h n).trans (h' n)
theorem PM.set {np nr k:Nat} {few:Int} {K:Nat->List cd} {ps:List gi} (h:PM np nr few k K ps) {n:Nat} {p':gi} (hg: ∃ K',K n<+:K'/\Gt K' k nr few p'): ∃ K',Up K K'/\PM np nr few k K' (ps.set n p'):=by
 obtain⟨K1,h1,h2⟩:=hg
 refine⟨fun i=>if i=n then K1 else K i,fun i=> ?_,by rw[ae];exact h.len,fun i q hq=> ?_⟩
 dsimp only
 split
 rename_i hi;rw[hi];exact h1
 exact ki _
 rcases eZ hq with⟨rfl,rfl⟩|⟨hi,hq⟩
 rw[if_pos Z];exact h2
 rw[if_neg hi];exact h.gt i q hq
structure M1 (np k:Nat) (s:Sn):Prop where
 nm:bC s.name=true
 sl:s.seqs.length=np
 ll:s.last.length=np
 sq: ∀ q∈s.seqs,0<=q/\q<=k
structure Eg (np k:Nat) (l:List Sn):Prop where
 each: ∀ s∈l,M1 np k s
 few:l.length<=k
theorem M1.more {np k k':Nat} {s:Sn} (h:M1 np k s) (hk:k<=k'):M1 np k' s:=⟨h.nm,h.sl,h.ll,fun q hq=>by have:=h.sq q hq;omega⟩
theorem Eg.more {np k k':Nat} {l:List Sn} (h:Eg np k l) (hk:k<=k'):Eg np k' l:=⟨fun s hs=>(h.each s hs).more hk,aW h.few hk⟩
theorem Eg.set {np k i:Nat} {l:List Sn} {s:Sn} (h:Eg np k l) (hs:M1 np k s):Eg np k (l.set i s):=⟨fun x hx=>by
 rcases aD hx with hx|rfl
 exact h.each x hx
 exact hs,by rw[ae];exact h.few⟩
structure WI (np nr:Nat) (few wt:Int) (k:Nat) (K:Nat->List cd) (w:Wa):Prop where
 ps:PM np nr few k K w.ps
 co:pn k w.co
 gr:rR (fun _=>True) wt np k w.gr
 sns:Eg np k w.sns
theorem WI.more {np nr k k':Nat} {few wt:Int} {K:Nat->List cd} {w:Wa} (h:WI np nr few wt k K w) (hk:k<=k'):WI np nr few wt k' K w:=⟨h.ps.more hk,h.co.more hk,h.gr.more hk,h.sns.more hk⟩
theorem qf {l:List Sn} {s:ByteArray} {i:Nat} {x:Sn} (h:((dT l s).bind fun i=>l[i]?.map fun s=>(i,s))=some (i,x)):l[i]? =some x/\x.name=s:=by
 cases hf:dT l s with
 |none=>rw[hf]at h;cases h
 |some j=>
  rw[hf]at h
  obtain⟨hl,h1,-⟩:=aF.1 hf
  simp only[cQ,ai hl,dA,jI,Prod.mk.injEq]at h
  obtain⟨rfl,rfl⟩:=h
  exact⟨ai hl,by simpa using h1⟩
end
theorem Cc {α:Type} [DecidableEq α]: ∀ {l m:List α},l.Pairwise (· ≠ ·)->(∀ x∈l,x∈m)->l.length<=m.length
 |[],_,_,_=>aV _
 |x::l,m,hp,hs=>by
  obtain⟨h1,h2⟩:=ec.1 hp
  have hx:=hs x (aA ..)
  have:=Cc (l:=l) (m:=m.erase x) h2 fun y hy=>(List.mem_erase_of_ne fun h=>h1 y hy h.symm).2 (hs y (aj _ hy))
  rw[List.length_erase_of_mem hx]at this
  have:=pR hx
  simp only[bf]
  omega
theorem Gq {c:Co} {s:ByteArray} (h: ∀ t∈c.txs,t.name≠s):d6 c s=none:=by
 unfold d6
 rw[cD.2 fun t ht=>decide_eq_false (h t ht)]
 rfl
theorem QA {c:Co} {s:ByteArray} (h:d6 c s=none): ∀ t∈c.txs,t.name≠s:=by
 have:=s8 h
 unfold fN at this
 cases hi:c.txs.findIdx? fun p=>decide (p.name=s)with
 |none=>rw[cD]at hi;intro t ht;simpa using hi t ht
 |some i=>rw[hi]at this;simp[lH]at this
theorem Mo {c:Co} {s:ByteArray} (h:d6 c s=none):d6 (kN c s) s=some (c.txs.length,gH s c.next):=by
 have h1:=QA h
 have h2:c.txs.findIdx? (fun p=>decide (p.name=s))=none:=cD.2 fun t ht=>decide_eq_false (h1 t ht)
 have:(c.txs++[gH s c.next]).findIdx? (fun p=>decide (p.name=s))=some c.txs.length:=by
  rw[AM,h2]
  simp[gH,List.findIdx?_cons]
 unfold d6 kN
 dsimp only
 rw[this]
 simp
theorem OR {c:Co} {s:ByteArray} {i:Nat} {t t':Tx} (h:d6 c s=some (i,t)) (hn:t'.name=t.name):d6 (gF c i t') s=some (i,t'):=by
 obtain⟨-,ht,hs⟩:=dR h
 obtain⟨hl,he⟩:=bZ ht
 have h2:(c.txs.findIdx? fun p=>decide (p.name=s))=some i:=by
  unfold d6 at h
  cases hi:c.txs.findIdx? fun p=>decide (p.name=s)with
  |none=>rw[hi]at h;cases h
  |some j=>
   obtain⟨hlj,-⟩:=aF.1 hi
   rw[hi]at h
   simp only[cQ,ai hlj,dA,jI]at h
   exact congrArg some (_root_.Prod.mk.inj h).1
 obtain⟨_,_,h3⟩:=aF.1 h2
 have:((c.txs.set i t').findIdx? fun p=>decide (p.name=s))=some i:=by
  rw[aF]
  refine⟨by simpa using hl,by simp[hn,hs],fun j hj=> ?_⟩
  rw[BI I]
  exact h3 j hj
 unfold d6 gF
 dsimp only
 rw[this,cQ,ak hl]
 rfl
abbrev yO:ByteArray:=⟨#[100,101,101]⟩
def wt2 (k:Nat):Co:=⟨0,2,k,[⟨yO,1,0,2,[1],0,0,none,0⟩],none,0⟩
section
variable {np nr k:Nat} {few wt:Int} {K:Nat->List cd} {w:Wa} {a:Act}
theorem QF {s:ByteArray} (h:bC s=true) (pid ver:Int) (np k:Nat):M1 np k (rB s pid ver np):=⟨h,by simp[rB],by simp[rB],fun q hq=>by
 have:q=0:=by
  unfold rB at hq
  exact cT hq
 omega⟩
theorem Qm {l:List Sn} {s:Sn} (h:Eg np k l) (hs:M1 np (k+1) s):Eg np (k+1) (qv l s):=by
 unfold qv
 split
 refine⟨fun x hx=> ?_,by have:=h.few;simp;omega⟩
 rcases ar.1 hx with hx|hx
 exact(h.each x hx).more (bz k)
 rw[aq.1 hx];exact hs
 exact(h.more (bz k)).set hs
theorem pw (h:WI np nr few wt k K w) (e:Int): ∃ K',Up K K'/\WI np nr few wt (k+1) K' (lY w e).1:=⟨K,Up.refl K,h.more (bz k)⟩
theorem QV (h:WI np nr few wt k K w) (hk:k<400) (hn:bC a.name=true): ∃ K',Up K K'/\WI np nr few wt (k+1) K' (mp w a).1:=by
 unfold mp
 split
 rename_i h0
 exact⟨K,Up.refl K,h.ps.more (bz k),Kx h.co I hn h0,h.gr.more (bz k),Qm h.sns (by rw[h.ps.len];exact QF hn ..)⟩
 exact pw h _
theorem Pp (h:WI np nr few wt k K w): ∃ K',Up K K'/\WI np nr few wt (k+1) K' (jn w a).1:=by
 unfold jn
 split
 exact pw h _
 rename_i i s hf
 split
 exact pw h _
 have hs:=h.sns.each s (ab (qf hf).1)
 exact⟨K,Up.refl K,h.ps.more (bz k),h.co.more (bz k),h.gr.more (bz k),(h.sns.set (s:={s with inn:=true}) ⟨hs.nm,hs.sl,hs.ll,hs.sq⟩).more (bz k)⟩
theorem NS (h:PM np nr few k K w.ps) (hk:k<400) (n:Nat) (x:cd):(∃ K',Up K K'/\PM np nr few (k+1) K' (ib w n x).1.ps)/\(ib w n x).1.co=w.co/\(ib w n x).1.gr=w.gr/\(ib w n x).1.sns=w.sns:=by
 unfold ib
 split
 exact⟨⟨K,Up.refl K,h.more (bz k)⟩,rfl,rfl,rfl⟩
 rename_i p hp
 split
 rename_i h0
 exact⟨(h.more (bz k)).set (R2 (h.gt n p hp) hk h0),rfl,rfl,rfl⟩
 exact⟨⟨K,Up.refl K,h.more (bz k)⟩,rfl,rfl,rfl⟩
theorem MB (h:PM np nr few k K w.ps) (hc:pn k w.co) (hk:k<400) (s:Sn) {n:Nat} (hn:n<4):(∃ K',Up K K'/\PM np nr few (k+1) K' (dw w s n).1.ps)/\pn (k+1) (dw w s n).1.co/\(dw w s n).1.gr=w.gr/\(dw w s n).1.sns=w.sns:=by
 unfold dw
 split
 exact⟨⟨K,Up.refl K,h.more (bz k)⟩,hc.more (bz k),rfl,rfl⟩
 rename_i x hx
 split
 rename_i h0
 obtain⟨h1,h2,h3,h4⟩:=NS (w:={w with co:=(lv w s n x).1}) h hk n x
 refine⟨h1,?_,h3,h4⟩
 rw[h2]
 show pn (k+1) (lv w s n x).1
 unfold lv at h0⊢
 split
 rename_i ht
 rw[if_pos ht]at h0
 exact KM hc I I h0
 exact hc.more (bz k)
 exact⟨⟨K,Up.refl K,h.more (bz k)⟩,hc.more (bz k),rfl,rfl⟩
theorem Ok {s:Sn} (h:M1 np k s) (n:Nat) (t:ByteArray):M1 np (k+1) (dk s n t):=⟨h.nm,by unfold dk;simp[h.sl],by unfold dk;simp[h.ll],fun q hq=>by
 rcases aD hq with hq|rfl
 have:=h.sq q hq;omega
 by_cases hn:n<s.seqs.length
 have:=h.sq (s.seqs.getD n 0) (by rw[cS,ai hn];exact xn hn);omega
 have:s.seqs.getD n 0=0:=by rw[cS,bL I];rfl
 omega⟩
theorem Qa (h:WI np nr few wt k K w) (hk:k<400) (hp:0<=a.part/\a.part<np) (h4:np<=4) (again:Bool): ∃ K',Up K K'/\WI np nr few wt (k+1) K' (gw w a again).1:=by
 unfold gw
 split
 exact pw h _
 rename_i i s hf
 split
 exact pw h _
 have hs:=h.sns.each s (ab (qf hf).1)
 have hs1:M1 np (k+1) (if again then s else dk s a.part.toNat a.text):=by
  split
  exact hs.more (bz k)
  exact Ok hs _ _
 generalize (if again then s else dk s a.part.toNat a.text)=s1 at hs1
 have hl:Eg np (k+1) (w.sns.set i s1):=(h.sns.more (bz k)).set hs1
 dsimp only
 split
 exact⟨K,Up.refl K,h.ps.more (bz k),h.co.more (bz k),h.gr.more (bz k),hl⟩
 obtain⟨⟨K',h1,h2⟩,h3,h5,h6⟩:=MB (w:={w with sns:=w.sns.set i s1}) h.ps h.co hk s1 (n:=a.part.toNat) I
 exact⟨K',h1,h2,h3,by rw[h5];exact h.gr.more (bz k),by rw[h6];exact hl⟩
theorem Pg {s:Sn} (h:M1 np k s):M1 np k (pH s):=⟨h.nm,h.sl,by unfold pH;simp[h.ll],h.sq⟩
theorem Mn (h:WI np nr few wt k K w): ∃ K',Up K K'/\WI np nr few wt (k+1) K' (fO w a).1:=by
 unfold fO
 split
 exact pw h _
 rename_i i s hf
 split
 exact pw h _
 split
 exact pw h _
 have hs:=h.sns.each s (ab (qf hf).1)
 split
 rename_i h0
 refine⟨K,Up.refl K,h.ps.more (bz k),KD h.co h0,h.gr.more (bz k),?_⟩
 dsimp only
 split
 exact(h.sns.set (Pg hs)).more (bz k)
 exact h.sns.more (bz k)
 exact⟨K,Up.refl K,h.more (bz k)⟩
theorem QK (h:WI np nr few wt k K w) (hk:k<400): ∃ K',Up K K'/\WI np nr few wt (k+1) K' (kg w a).1:=by
 unfold kg
 split
 exact pw h _
 rename_i t ht
 obtain⟨⟨i,hf⟩,h34,hp,h0,h4⟩:=sR h.co.ok ht
 obtain⟨⟨K',h1,h2⟩,h3,h5,h6⟩:=NS h.ps hk (t.parts.headD 0).toNat (bP t)
 split
 exact⟨K',h1,h2,Ig h.co (C4 hf h34 hp),by rw[h5];exact h.gr.more (bz k),by rw[h6];exact h.sns.more (bz k)⟩
 exact⟨K',h1,h2,by rw[h3];exact h.co.more (bz k),by rw[h5];exact h.gr.more (bz k),by rw[h6];exact h.sns.more (bz k)⟩
theorem PY (h:WI np nr few wt k K w) (hk:k<400) (h4:np<=4) (hn:0<=a.n/\a.n<=1000): ∃ K',Up K K'/\WI np nr few wt (k+1) K' (uU w a).1:=by
 unfold uU
 exact⟨K,Up.refl K,h.ps.more (bz k),GT h.co I hn.1 (by unfold gX;rw[if_neg I]),by dsimp only;rw[h.ps.len];exact h.gr.tick h4 I hn.1 hn.2,h.sns.more (bz k)⟩
theorem Qe (h:WI np nr few wt k K w): ∃ K',Up K K'/\WI np nr few wt (k+1) K' (oz w a).1:=by
 unfold oz
 split
 exact pw h _
 rename_i p hp
 split
 rename_i h0
 obtain⟨K',h1,h2⟩:=h.ps.set (Qf (h.ps.gt _ p hp) h0)
 exact⟨K',h1,h2.more (bz k),h.co.more (bz k),h.gr.more (bz k),h.sns.more (bz k)⟩
 exact pw h _
theorem Sd (h:WI np nr few wt k K w) (hk:k<400) (h4:np<=4) (hn:a.kind=16->bC a.name=true) (hm:0<=a.m): ∃ K',Up K K'/\WI np nr few wt (k+1) K' (AS w a).1:=by
 unfold AS
 split
 rename_i h0
 refine⟨K,Up.refl K,h.ps.more (bz k),h.co.more (bz k),?_,h.sns.more (bz k)⟩
 show rR _ wt np (k+1) (Jg w a).1
 unfold Jg at h0⊢
 rw[h.ps.len]at h0⊢
 split
 rename_i c
 rw[if_pos c]at h0
 exact h.gr.join h4 I (hn c) trivial h0
 rename_i c;rw[if_neg c]at h0
 split
 rename_i c2
 rw[if_pos c2]at h0
 exact h.gr.beat h0
 rename_i c2
 rw[if_neg c2]at h0
 exact h.gr.store hm h0
 exact pw h _
theorem Dm (h:WI np nr few wt k K w) (hk:k<400) (h4:np<=4) (g:og np nr a) {w':Wa} {x:An} (hA:lS w a w' x): ∃ K',Up K K'/\WI np nr few wt (k+1) K' w':=by
 cases hA with
 |poll x h19 hp=>exact⟨K,Up.refl K,h.more (bz k)⟩
 |other h19=>
  unfold jz
  split
  rename_i c;exact QV h hk (g.name (.inl c))
  split
  exact Pp h
  split
  exact Qa h hk g.part h4 _
  split
  exact Mn h
  split
  exact QK h hk
  split
  exact PY h hk h4 g.n
  split
  exact Qe h
  exact Sd h hk h4 (fun c=>g.name (.inr (.inl c))) g.m.1
def lF (np nr:Nat) (few wt:Int):Wa:=⟨ao np (l8 nr few.toNat),⟨0,1,wt,[],none,0⟩,⟨0,wt,0,[],none,0,[],none,0⟩,[]⟩
theorem FN {few:Nat} (n1:1<=nr) (n5:nr<=5) (f1:1<=few) (f2:few<=nr) (w1:1<=wt) (w2:wt<=1000):WI np nr few wt 0 (fun _=>[]) (lF np nr few wt):=by
 refine⟨⟨by simp[lF],fun n p hp=> ?_⟩,⟨dS.2 ⟨⟨(by decide:iu 0=true),by simp[lF],by simp[lF],w1,w2,by simp[lF]⟩,by simp[lF],by simp[lF,rS]⟩,by simp[lF],by simp[lF],by simp[lF]⟩,QG _ np w1 w2,⟨by simp[lF],by simp[lF]⟩⟩
 have hpe:p=l8 nr few:=by
  unfold lF at hp
  simp only[dq]at hp
  split at hp
  cases hp;simp
  cases hp
 rw[hpe]
 refine⟨FM n1 n5 f1 f2,?_⟩
 intro i x hx
 unfold l8 at hx
 simp only[dq]at hx
 split at hx
 cases hx;exact .nil
 cases hx
end
section
theorem Lu {es:List cd} {n st a most b b':Nat} {out out':List ByteArray} (h:Do es n st a most out b) (h':Do es n st a most out' b'):out=out'/\b=b':=by
 obtain⟨h1,h2,h3,h4,h5,h6⟩:=h
 obtain⟨g1,g2,g3,g4,g5,g6⟩:=h'
 have hb:b=b':=by
  rcases Nat.lt_trichotomy b b' with hlt|he|hlt
  have:=g6 b h1 hlt
  rw[<-h3]at this
  omega
  exact he
  have:=h6 b' g1 hlt
  rw[<-g3]at this
  omega
 subst hb
 exact⟨h3.trans g3.symm,rfl⟩
theorem Lv {p:gi} {a most:Nat} {x y:An} (h:Fb p a most x) (h':Fb p a most y):x=y:=by
 cases h with
 |none h1=>
  cases h' with
  |none=>rfl
  |range l r g1=>omega
  |ok l r st out b g1=>omega
 |range l r h1 h2 h3=>
  cases h' with
  |none g1=>omega
  |range=>rfl
  |ok l' r' st out b g1 g2 g3=>
   have:l'=l:=by omega
   subst this
   rw[h2]at g2;cases g2;omega
 |ok l r st out b h1 h2 h3 h4 h5=>
  cases h' with
  |none g1=>omega
  |range l' r' g1 g2 g3=>
   have:l'=l:=by omega
   subst this
   rw[h2]at g2;cases g2;omega
  |ok l' r' st' out' b' g1 g2 g3 g4 g5=>
   have:l'=l:=by omega
   subst this
   rw[h2]at g2;cases g2
   have:=xF h4 g4
   subst this
   obtain⟨rfl,rfl⟩:=Lu h5 g5
   rfl
theorem LC {w:Wa} {a:Act} {x y:An} (h:rO w a x) (h':rO w a y):x=y:=by
 cases h with
 |no h1=>
  cases h' with
  |no=>rfl
  |yes p x g1=>exact absurd g1 h1
 |yes p x h1 h2 h3=>
  cases h' with
  |no g1=>exact absurd h1 g1
  |yes p' y g1 g2 g3=>
   rw[h2]at g2;cases g2
   exact Lv h3 g3
theorem PJ {w:Wa} {a:Act} {w1 w2:Wa} {x y:An} (h:lS w a w1 x) (h':lS w a w2 y):w1=w2/\x=y:=by
 cases h with
 |poll x h1 h2=>
  cases h' with
  |poll y g1 g2=>exact⟨rfl,LC h2 g2⟩
  |other g1=>exact absurd h1 g1
 |other h1=>
  cases h' with
  |poll y g1 g2=>exact absurd g1 h1
  |other g1=>exact⟨rfl,rfl⟩
inductive li:Wa->List Act->List An->Wa->Prop
 |nil (w:Wa):li w [] [] w
 |cons {w w1 w2:Wa} {a:Act} {x:An} {l:List Act} {xs:List An}:lS w a w1 x->li w1 l xs w2->li w (a::l) (x::xs) w2
theorem li.app {w w1 w2:Wa} {l m:List Act} {xs ys:List An} (h:li w l xs w1) (h':li w1 m ys w2):li w (l++m) (xs++ys) w2:=by
 induction h with
 |nil=>exact h'
 |cons h1 _ ih=>exact .cons h1 (ih h')
theorem li.snoc {w w1 w2:Wa} {l:List Act} {a:Act} {xs:List An} {x:An} (h:li w l xs w1) (h':lS w1 a w2 x):li w (l++[a]) (xs++[x]) w2:=h.app (.cons h' (.nil _))
theorem li.len {w w1:Wa} {l:List Act} {xs:List An} (h:li w l xs w1):xs.length=l.length:=by
 induction h with
 |nil=>rfl
 |cons _ _ ih=>simp[ih]
theorem li.det {w w1 w2:Wa} {l:List Act} {xs ys:List An} (h:li w l xs w1) (h':li w l ys w2):xs=ys/\w1=w2:=by
 induction h generalizing ys w2 with
 |nil=>cases h';exact⟨rfl,rfl⟩
 |cons h1 _ ih=>
  cases h' with
  |cons g1 g2=>
   obtain⟨rfl,rfl⟩:=PJ h1 g1
   obtain⟨rfl,rfl⟩:=ih g2
   exact⟨rfl,rfl⟩
theorem li.split {w w2:Wa} {l m:List Act} {xs:List An} (h:li w (l++m) xs w2): ∃ ys zs w1,xs=ys++zs/\li w l ys w1/\li w1 m zs w2:=by
 induction l generalizing w xs with
 |nil=>exact⟨[],xs,w,rfl,.nil w,h⟩
 |cons a l ih=>
  cases h with
  |cons h1 h2=>
   obtain⟨ys,zs,w1,rfl,h3,h4⟩:=ih h2
   exact⟨_::ys,zs,w1,rfl,.cons h1 h3,h4⟩
theorem li.later {w w1 w2:Wa} {l m:List Act} {xs ys:List An} (h:li w l xs w1) (h':li w (l++m) ys w2): ∃ zs,ys=xs++zs:=by
 obtain⟨us,zs,w3,rfl,h1,h2⟩:=h'.split
 obtain⟨rfl,-⟩:=h.det h1
 exact⟨zs,rfl⟩
variable {np nr k:Nat} {few wt:Int} {K:Nat->List cd} {w:Wa}
theorem NF {w w1:Wa} {l:List Act} {xs:List An} (h:li w l xs w1): ∀ {k:Nat} {K:Nat->List cd},WI np nr few wt k K w->k+l.length<=400->np<=4->(∀ a∈l,og np nr a)-> ∃ K',Up K K'/\WI np nr few wt (k+l.length) K' w1:=by
 induction h with
 |nil=>intro k K hw _ _ _;exact⟨K,Up.refl K,hw⟩
 |@cons w wa wb a x l xs h1 _ ih=>
  intro k K hw hk h4 hg
  simp only[bf]at hk
  obtain⟨K1,u1,i1⟩:=Dm hw I h4 (hg a (aA ..)) h1
  obtain⟨K2,u2,i2⟩:=ih i1 I h4 fun b hb=>hg b (aj _ hb)
  exact⟨K2,u1.trans u2,by simpa [lx,Fg 1]using i2⟩
end
section
/-- what an act yields -/
def Dt (b:Bk) (a:Act) (w0:World) (bb:Nat) (K:List (Nat×Obj)) (F:List cf) (v:Value) (w2:World):Prop:=
 ∃ (b':Bk) (x:An) (A:Option Addr) (c lo hi:Nat),lS b.a a b'.a x/\v=.agg #[J x.code,J x.n,.slice A x.texts.length c]/\x.texts.length<=c/\y4 w0 w2 bb b' K (ee nu lo hi A x.texts::F)
theorem vO {b:Bk} {a:Act} {w0 w:World} {bb:Nat} {K:List (Nat×Obj)} {F:List cf} {f:FuncId} {args:List Value} {s:Wa×An} (h19:a.kind≠19) (hs:jz b.a a=s) (ht:s.2.texts=[]) (h:di aa f args w fun v w2=> ∃ b':Bk,pq s.2 v w2/\b'.a=s.1/\y4 w0 w2 bb b' K F):di aa f args w (Dt b a w0 bb K F):=
 h.mono fun v w2 ⟨b',⟨A,c,h1,h2,_⟩,h4,h5⟩=>⟨b',s.2,A,c,0,0,by rw[h4,<-hs];exact .other h19,h1,h2,by rw[ht];exact h5.nil A⟩
variable {w0 w:World} {bb gP:Nat} {b:Bk} {uP:Array Value} {Ls Lo K:List (Nat×Obj)} {F:List cf} {np nr k:Nat} {few wt:Int} {M:Nat->List cd} {a:Act}
theorem Bw.facts (_:Bw w0 w bb b gP uP Ls Lo K F) (hw:WI np nr few wt k M b.a) (hk:k<400):b.ps.length=np/\b.sns.length<=1000000/\pn k b.co/\rR (fun _=>True) wt np k b.gr/\ ∀ q∈b.ps,q.p.a.ok/\q.p.reps.length=nr/\ ∀ (l:Nat) (y:gh),q.p.leader=l->q.p.reps[l]? =some y->y.es.length<400:=by
 have h1:=hw.ps.len
 have h2:=hw.sns.few
 rw[show b.a.ps=b.ps.map fun q=>q.p.a from rfl,bF]at h1
 rw[show b.a.sns=b.sns.map Sn.a from rfl,bF]at h2
 refine⟨h1,by omega,pn.of_a hw.co,rR.of_a hw.gr,fun q hq=> ?_⟩
 obtain⟨n,hn⟩:=aN.1 hq
 have hg:=(hw.ps.gt n q.p.a (by rw[show b.a.ps=b.ps.map fun q=>q.p.a from rfl,aJ,hn];rfl)).1
 refine⟨hg.ok,by have:=hg.len;rwa[show q.p.a.reps=q.p.reps.map gh.a from rfl,bF]at this,fun l y _ hy=> ?_⟩
 have:=hg.small l y.a (by rw[show q.p.a.reps=q.p.reps.map gh.a from rfl,aJ,hy];rfl)
 have:y.es.length<=k:=this
 omega
theorem Bw.sender (hw:WI np nr few wt k M b.a) {i:Nat} {x:Sn} (hx:b.sns[i]? =some x):bC x.name=true/\x.seqs.length=np/\x.last.length=np/\ ∀ q∈x.seqs,0<=q/\q<=k:=by
 have h:=hw.sns.each x.a (bM (f:=Sn.a) (ab hx))
 exact⟨h.nm,h.sl,h.ll,h.sq⟩
theorem Ap (w:Wa) (a:Act):(mp w a).2.texts=[]:=by unfold mp;split<;>rfl
theorem yZ (w:Wa) (a:Act):(jn w a).2.texts=[]:=by
 unfold jn
 split
 rfl
 split<;>rfl
theorem Aa (w:Wa) (a:Act) (ag:Bool):(gw w a ag).2.texts=[]:=by
 unfold gw
 split
 rfl
 split
 rfl
 dsimp only
 split
 rfl
 exact lX _ (kM ..)
theorem xc (w:Wa) (a:Act):(fO w a).2.texts=[]:=by
 unfold fO
 split
 rfl
 split
 rfl
 split
 rfl
 split<;>exact lX _ Z
theorem Al (w:Wa) (a:Act):(kg w a).2.texts=[]:=by
 unfold kg
 split
 rfl
 split<;>exact B4 ..
theorem Af (w:Wa) (a:Act):(oz w a).2.texts=[]:=by
 unfold oz
 split
 rfl
 split<;>rfl
theorem Ck (w:Wa) (a:Act):(AS w a).2.texts=[]:=by unfold AS;split<;>rfl
theorem qk (a:Act) (w:Wa):(a.kind=1->jz w a=mp w a)/\(a.kind=2->jz w a=jn w a)/\(a.kind=3∨a.kind=4->jz w a=gw w a (decide (a.kind=4)))/\(a.kind=5->jz w a=fO w a)/\(a.kind=6->jz w a=kg w a)/\(a.kind=7->jz w a=uU w a)/\(8<=a.kind/\a.kind<=15->jz w a=oz w a)/\(16<=a.kind->jz w a=AS w a):=by
 unfold jz
 refine⟨fun h=> ?_,fun h=> ?_,fun h=> ?_,fun h=> ?_,fun h=> ?_,fun h=> ?_,fun h=> ?_,fun h=> ?_⟩<;>(repeat (first|rw[if_pos I]|rw[if_neg I]))
theorem Sh (A B C X K:List (Nat×Obj)):(A++(B++(C++(X++K)))).Perm (X++(A++(B++(C++K)))):=by
 rw[show A++(B++(C++(X++K)))=(A++B++C)++(X++K) by simp,show A++(B++(C++K))=(A++B++C)++K by simp]
 exact gu (A++B++C) X K
theorem Bw.into {w2:World} (B:Bw w0 w bb b gP uP Ls Lo K F) (X:List (Nat×Obj)) (H:Hp w0 w2 (X++((bb,.cells b.c.toArray cB (0,0))::(gP,.cells uP bY (0,0))::(Ls++(Lo++K)))) F):Bw w0 w2 bb b gP uP Ls Lo (X++K) F:=
 ⟨B.pA,B.row,B.sn,B.own,B.co,B.gr,B.ps,H.perm (Sh [(bb,_),(gP,_)] Ls Lo X K)⟩
theorem Bw.out {X:List (Nat×Obj)} (B:Bw w0 w bb b gP uP Ls Lo (X++K) F):Hp w0 w (X++((bb,.cells b.c.toArray cB (0,0))::(gP,.cells uP bY (0,0))::(Ls++(Lo++K)))) F:=B.H.perm (Sh [(bb,_),(gP,_)] Ls Lo X K).symm
theorem Bw.at_ {w2:World} {K1:List (Nat×Obj)} (B:Bw w0 w bb b gP uP Ls Lo K1 F) (X:List (Nat×Obj)) (H:Hp w0 w2 (X++((bb,.cells b.c.toArray cB (0,0))::(gP,.cells uP bY (0,0))::(Ls++(Lo++K)))) F):Bw w0 w2 bb b gP uP Ls Lo K F:=
 ⟨B.pA,B.row,B.sn,B.own,B.co,B.gr,B.ps,H.forget (ci X _) (fun _ h=>h)⟩
theorem yL {l:List Sn} {s:ByteArray} {i:Nat} (h:dT l s=some i): ∃ x,l[i]? =some x:=by
 obtain⟨x,h1,-⟩:=IT h
 exact⟨x,h1⟩
theorem OG (B:Bw w0 w bb b gP uP Ls Lo K F) (hw:WI np nr few wt k M b.a) (hk:k<400) (h4:np<=4) (g:og np nr a) (h1:1<=np) (hkd:a.kind=1):di aa kB [.pointer (Qd bb),a.v] w (Dt b a w0 bb K F):=by
 obtain⟨hln,hsl,hcb,hgi,hpk⟩:=B.facts hw hk
 refine vO I ((qk a b.a).1 hkd) (Ap ..) ?_
 cases hix:dT b.sns a.name with
 |none=>exact Mb a B hsl (g.name (.inl hkd)) hcb I I I hix
 |some i=>
  obtain⟨x,hx⟩:=yL hix
  exact Ma a B hsl (g.name (.inl hkd)) hcb I I I hix hx
theorem MF (B:Bw w0 w bb b gP uP Ls Lo K F) (hw:WI np nr few wt k M b.a) (hk:k<400) (_:np<=4) (_:og np nr a) (hkd:a.kind=2):di aa j9 [.pointer (Qd bb),a.v] w (Dt b a w0 bb K F):=by
 obtain⟨-,hsl,-⟩:=B.facts hw hk
 refine vO I ((qk a b.a).2.1 hkd) (yZ ..) ?_
 cases hix:dT b.sns a.name with
 |none=>exact JS a B hsl hix
 |some i=>
  obtain⟨x,hx⟩:=yL hix
  exact JR a B hsl hix hx
theorem ND (B:Bw w0 w bb b gP uP Ls Lo K F) (hw:WI np nr few wt k M b.a) (hk:k<400) (h4:np<=4) (g:og np nr a) (hkd:a.kind=3∨a.kind=4):di aa i8 [.pointer (Qd bb),a.v,.bool (decide (a.kind=4))] w (Dt b a w0 bb K F):=by
 obtain⟨hln,hsl,hcb,-,hpk⟩:=B.facts hw hk
 refine vO I ((qk a b.a).2.2.1 hkd) (Aa ..) ?_
 have hpn:=g.part
 cases hix:dT b.sns a.name with
 |none=>exact Lh a B hsl (decide (a.kind=4)) hix
 |some i=>
  obtain⟨x,hx⟩:=yL hix
  obtain⟨s1,s2,s3,s4⟩:=Bw.sender hw hx
  have hpk2:=fun(q:Pq) hq=>(⟨(hpk q hq).1,(hpk q hq).2.2⟩:q.p.a.ok/\ ∀ (l:Nat) (y:gh),q.p.leader=(l:Int)->q.p.reps[l]? =some y->y.es.length<400)
  by_cases h4k:a.kind=4
  rw[decide_eq_true h4k]
  exact IX a B hsl hix hx I g.lost I I I s1 hcb hpk2
  rw[decide_eq_false h4k]
  exact NC a B hsl hix hx I g.lost I I I s1 hcb hpk2 g.text (fun q hq=>by have:=s4 q hq;omega)
theorem JF (B:Bw w0 w bb b gP uP Ls Lo K F) (hw:WI np nr few wt k M b.a) (hk:k<400) (h4:np<=4) (g:og np nr a) (hkd:a.kind=5):di aa jP [.pointer (Qd bb),a.v] w (Dt b a w0 bb K F):=by
 obtain⟨-,hsl,hcb,-⟩:=B.facts hw hk
 refine vO I ((qk a b.a).2.2.2.1 hkd) (xc ..) ?_
 cases hix:dT b.sns a.name with
 |none=>exact HV a B hsl hix
 |some i=>
  obtain⟨x,hx⟩:=yL hix
  obtain⟨s1,-,s3,-⟩:=Bw.sender hw hx
  exact HU a B hsl hix hx g.lost ⟨g.n.1,g.fin hkd⟩ I s1 hcb
theorem Ot (B:Bw w0 w bb b gP uP Ls Lo K F) (hw:WI np nr few wt k M b.a) (hk:k<400) (_:np<=4) (g:og np nr a) (hkd:a.kind=6):di aa kz [.pointer (Qd bb),a.v] w (Dt b a w0 bb K F):=by
 obtain⟨-,-,hcb,-,hpk⟩:=B.facts hw hk
 refine vO I ((qk a b.a).2.2.2.2.1 hkd) (Al ..) ?_
 have hpk2:=fun(q:Pq) hq=>(⟨(hpk q hq).1,(hpk q hq).2.2⟩:q.p.a.ok/\ ∀ (l:Nat) (y:gh),q.p.leader=(l:Int)->q.p.reps[l]? =some y->y.es.length<400)
 cases hne:fW b.co.a.txs a.n.toNat with
 |none=>exact LO a B hcb g.n hne
 |some t=>exact LN a B hcb g.n hpk2 hne
theorem Nd (B:Bw w0 w bb b gP uP Ls Lo K F) (hw:WI np nr few wt k M b.a) (hk:k<400) (h4:np<=4) (g:og np nr a) (hkd:a.kind=7):di aa oM [.pointer (Qd bb),a.v] w (Dt b a w0 bb K F):=by
 obtain⟨hln,-,hcb,hgi,-⟩:=B.facts hw hk
 refine vO I ((qk a b.a).2.2.2.2.2.1 hkd) Z ?_
 exact Nc a B hcb I g.n hgi I
theorem NK (B:Bw w0 w bb b gP uP Ls Lo K F) (hw:WI np nr few wt k M b.a) (hk:k<400) (_:np<=4) (g:og np nr a) (hkd:8<=a.kind/\a.kind<=15):di aa lI [.pointer (Qd bb),a.v] w (Dt b a w0 bb K F):=by
 obtain⟨hln,-,-,-,hpk⟩:=B.facts hw hk
 refine vO I ((qk a b.a).2.2.2.2.2.2.1 hkd) (Af ..) ?_
 have hpn:=g.part
 exact NJ a B (by have:=g.kind;omega) I ⟨g.n.1,fun q hq=>by have:=g.rep hkd.1 hkd.2;have:=(hpk q hq).2.1;omega⟩ g.m (fun q hq=>(hpk q hq).1)
theorem QI (B:Bw w0 w bb b gP uP Ls Lo K F) (hw:WI np nr few wt k M b.a) (hk:k<400) (h4:np<=4) (g:og np nr a) (hkd:a.kind=16∨a.kind=18∨a.kind=20):di aa mt [.pointer (Qd bb),a.v] w (Dt b a w0 bb K F):=by
 obtain⟨hln,-,-,hgi,-⟩:=B.facts hw hk
 refine vO I ((qk a b.a).2.2.2.2.2.2.2 I) (Ck ..) ?_
 exact QH a B I I (g.name I) g.m hgi I
theorem NV (B:Bw w0 w bb b gP uP Ls Lo K F) (hw:WI np nr few wt k M b.a) (hk:k<400) (_:np<=4) (g:og np nr a) (hkd:a.kind=19):di aa gK [.pointer (Qd bb),a.v] w (Dt b a w0 bb K F):=by
 obtain⟨hln,-,-,hgi,hpk⟩:=B.facts hw hk
 have hpn:=g.part
 have hnm:=g.name I
 have hpo:=fun q hq=>(hpk q hq).1
 have hq: ∃ q,b.ps[a.part.toNat]? =some q:=⟨_,ai I⟩
 obtain⟨q,hq⟩:=hq
 refine di.mono (R:=fun v w2=> ∃ (x:An) (A:Option Addr) (c lo hi:Nat),rO b.a a x/\v=.agg #[J x.code,J x.n,.slice A x.texts.length c]/\x.texts.length<=c/\y4 w0 w2 bb b K (ee nu lo hi A x.texts::F)) ?_ fun v w2 ⟨x,A,c,lo,hi,h1,h2,h3,h4⟩=>⟨b,x,A,c,lo,hi,.poll x hkd h1,h2,h3,h4⟩
 by_cases hw0:(eS b.gr.a a.name a.part).2=0
 have hqok:=(hpk q (ab hq)).1
 by_cases hl:q.p.leader<0
 exact LB a B hnm I (g.poll hkd) hgi hpo hw0 (fun q' h=>by rw[hq]at h;cases h;exact hl)
 obtain⟨l,hl2⟩: ∃ l:Nat,q.p.leader=l:=⟨q.p.leader.toNat,by omega⟩
 have hld1:q.p.leader<((q.p.reps.map gh.a).length:Nat):=hqok.ld1
 rw[bF]at hld1
 obtain⟨y,hy⟩: ∃ y,q.p.reps[l]? =some y:=⟨_,ai I⟩
 have hld: ∀ q',b.ps[a.part.toNat]? =some q'->q'.p.leader=l/\q'.p.reps[l]? =some y:=fun q' h=>by rw[hq]at h;cases h;exact⟨hl2,hy⟩
 by_cases hle:(eS b.gr.a a.name a.part).1.toNat<=y.es.length
 exact Qo a B hnm I (g.poll hkd) hgi hpo hw0 hld hle
 exact I5 a B hnm I (g.poll hkd) hgi hpo hw0 hld I
 exact Qp a B hnm I hgi hw0
end
theorem SF {w0 w:World} {bb gP:Nat} {b:Bk} {uP:Array Value} {Ls Lo K:List (Nat×Obj)} {F:List cf} {np nr k:Nat} {few wt:Int} {M:Nat->List cd} {a:Act} (B:Bw w0 w bb b gP uP Ls Lo K F) (hw:WI np nr few wt k M b.a) (hk:k<400) (h1:1<=np) (h4:np<=4) (g:og np nr a):di aa wF [.pointer (Qd bb),a.v] w (Dt b a w0 bb K F):=by
 refine aG vu Z Z ?_
 have hkd:=g.kind
 have H:=B.H
 show CW _ _ _ _ (args [.pointer (Qd bb),.agg #[J (a.kind),.string (a.name),J (a.part),J (a.n),J (a.m),.string (a.text),J (a.lost)]]) w
 refine W<|Zr<|gU H Z Z fun w1 b3 H=>fc H dn Z fun w2 b4 H=>U<|W<|W<|Zr<|G (Zf oW Z)<|G (Zd al H 1 Z Z Z)<|U<|Zb<|W<|Zr ?_
 refine dZ (cr Z Z) Z Z Z (fun h8=> ?_) (fun h8=> ?_)
 refine G (Wb Z)<|U<|ZT Z<|W<|Zr<|G (Yp Z)<|G (Zw jd H 1 Z Z Z)<|cE uK (OG (B.into [(b4,_),(b3,_)] H) hw hk h4 g h1 h8) Z Z ?_
 rintro _ w3 ⟨b2,x2,A9,c9,lo9,hi9,hA9,rfl,hc9,gP9,uP9,Ls9,Lo9,F9,B9,hF9⟩
 replace H:=B9.out (X:=[(b4,_),(b3,_)])
 refine bI H 0 (#[J (x2.code),J (x2.n),.slice A9 x2.texts.length c9]) bA Z Z Z Z Z N N fun w4 H=>U<|Zt ?_
 exact gB (cs0:= #[J (x2.code),J (x2.n),.slice A9 x2.texts.length c9]) Z bx Z (H.ent (i:=0) Z) Z ⟨b2,x2,A9,c9,lo9,hi9,hA9,rfl,hc9,gP9,uP9,Ls9,Lo9,F9,B9.at_ [(b4,_),(b3,_)] H,hF9⟩
 refine G (Wb Z)<|U<|ZF Z<|W<|Zr ?_
 refine dZ (cr Z Z) Z Z Z (fun h13=> ?_) (fun h13=> ?_)
 refine G (Wb Z)<|U<|ZT Z<|W<|Zr<|G (Yp Z)<|G (Zw jd H 1 Z Z Z)<|cE uc (MF (B.into [(b4,_),(b3,_)] H) hw hk h4 g h13) Z Z ?_
 rintro _ w5 ⟨b2,x2,A9,c9,lo9,hi9,hA9,rfl,hc9,gP9,uP9,Ls9,Lo9,F9,B9,hF9⟩
 replace H:=B9.out (X:=[(b4,_),(b3,_)])
 refine bI H 0 (#[J (x2.code),J (x2.n),.slice A9 x2.texts.length c9]) bA Z Z Z Z Z N N fun w6 H=>U<|Zt ?_
 exact gB (cs0:= #[J (x2.code),J (x2.n),.slice A9 x2.texts.length c9]) Z bx Z (H.ent (i:=0) Z) Z ⟨b2,x2,A9,c9,lo9,hi9,hA9,rfl,hc9,gP9,uP9,Ls9,Lo9,F9,B9.at_ [(b4,_),(b3,_)] H,hF9⟩
 refine G (Wb Z)<|U<|ZF Z<|W<|W<|Zr<|G (cr Z Z)<|G (Wb Z)<|U ?_
 refine gp (τ:=Unit) [17,19] (fun _=>[(17,.bool (decide (a.kind=3∨a.kind=4)))]) (fun _ w'=>Hp w0 w' ((b4,.cells #[J (0),J (0),.slice none 0 0] gR (0,0))::(b3,.cells #[J (a.kind),.string (a.name),J (a.part),J (a.n),J (a.m),.string (a.text),J (a.lost)] iR (0,0))::(bb,.cells b.c.toArray cB (0,0))::(gP,.cells uP bY (0,0))::(Ls++(Lo++K))) F) ?_ ?_
 refine qL Z (fun hc17=> ?_) (fun hc17=> ?_)
 refine Zk ?_
 have h0:=of_decide_eq_true hc17
 exact⟨(),H,ef (congrArg Value.bool (hc17.trans (decide_eq_true I).symm)),Qg⟩
 refine Zr ?_
 refine dZ (cr Z Z) Z Z Z (fun h19=> ?_) (fun h19=> ?_)
 refine G (Wb Z)<|U ?_
 have h0:=of_decide_eq_false hc17
 exact⟨(),H,ef (congrArg Value.bool (decide_eq_true I)).symm,Qg⟩
 refine G (Wb Z)<|U ?_
 have h0:=of_decide_eq_false hc17
 exact⟨(),H,ef (congrArg Value.bool (decide_eq_false I)).symm,Qg⟩
 rintro _ ρ1 w7 H
 show CW _ _ _ _ (dO (ij _ _ ρ1) [(17,.bool (decide (a.kind=3∨a.kind=4)))]) w7
 refine qL Z (fun hc17=> ?_) (fun hc17=> ?_)
 refine W<|Zr<|G (Yp Z)<|G (Zw jd H 1 Z Z Z)<|G (Zf oW Z)<|G (Zd al H 1 Z Z Z)<|G (cr Z Z)<|cE uH (ND (B.into [(b4,_),(b3,_)] H) hw hk h4 g (of_decide_eq_true hc17)) Z Z ?_
 rintro _ w8 ⟨b2,x2,A9,c9,lo9,hi9,hA9,rfl,hc9,gP9,uP9,Ls9,Lo9,F9,B9,hF9⟩
 replace H:=B9.out (X:=[(b4,_),(b3,_)])
 refine bI H 0 (#[J (x2.code),J (x2.n),.slice A9 x2.texts.length c9]) bA Z Z Z Z Z N N fun w9 H=>U<|Zt ?_
 exact gB (cs0:= #[J (x2.code),J (x2.n),.slice A9 x2.texts.length c9]) Z bx Z (H.ent (i:=0) Z) Z ⟨b2,x2,A9,c9,lo9,hi9,hA9,rfl,hc9,gP9,uP9,Ls9,Lo9,F9,B9.at_ [(b4,_),(b3,_)] H,hF9⟩
 refine W<|Zr ?_
 refine dZ (cr Z Z) Z Z Z (fun h27=> ?_) (fun h27=> ?_)
 refine G (Wb Z)<|U<|ZT Z<|W<|Zr<|G (Yp Z)<|G (Zw jd H 1 Z Z Z)<|cE tc (JF (B.into [(b4,_),(b3,_)] H) hw hk h4 g h27) Z Z ?_
 rintro _ w10 ⟨b2,x2,A9,c9,lo9,hi9,hA9,rfl,hc9,gP9,uP9,Ls9,Lo9,F9,B9,hF9⟩
 replace H:=B9.out (X:=[(b4,_),(b3,_)])
 refine bI H 0 (#[J (x2.code),J (x2.n),.slice A9 x2.texts.length c9]) bA Z Z Z Z Z N N fun w11 H=>U<|Zt ?_
 exact gB (cs0:= #[J (x2.code),J (x2.n),.slice A9 x2.texts.length c9]) Z bx Z (H.ent (i:=0) Z) Z ⟨b2,x2,A9,c9,lo9,hi9,hA9,rfl,hc9,gP9,uP9,Ls9,Lo9,F9,B9.at_ [(b4,_),(b3,_)] H,hF9⟩
 refine G (Wb Z)<|U<|ZF Z<|W<|Zr ?_
 refine dZ (cr Z Z) Z Z Z (fun h32=> ?_) (fun h32=> ?_)
 refine G (Wb Z)<|U<|ZT Z<|W<|Zr<|G (Yp Z)<|G (Zw jd H 1 Z Z Z)<|cE uJ (Ot (B.into [(b4,_),(b3,_)] H) hw hk h4 g h32) Z Z ?_
 rintro _ w12 ⟨b2,x2,A9,c9,lo9,hi9,hA9,rfl,hc9,gP9,uP9,Ls9,Lo9,F9,B9,hF9⟩
 replace H:=B9.out (X:=[(b4,_),(b3,_)])
 refine bI H 0 (#[J (x2.code),J (x2.n),.slice A9 x2.texts.length c9]) bA Z Z Z Z Z N N fun w13 H=>U<|Zt ?_
 exact gB (cs0:= #[J (x2.code),J (x2.n),.slice A9 x2.texts.length c9]) Z bx Z (H.ent (i:=0) Z) Z ⟨b2,x2,A9,c9,lo9,hi9,hA9,rfl,hc9,gP9,uP9,Ls9,Lo9,F9,B9.at_ [(b4,_),(b3,_)] H,hF9⟩
 refine G (Wb Z)<|U<|ZF Z<|W<|Zr ?_
 refine dZ (cr Z Z) Z Z Z (fun h37=> ?_) (fun h37=> ?_)
 refine G (Wb Z)<|U<|ZT Z<|W<|Zr<|G (Yp Z)<|G (Zw jd H 1 Z Z Z)<|cE uG (Nd (B.into [(b4,_),(b3,_)] H) hw hk h4 g h37) Z Z ?_
 rintro _ w14 ⟨b2,x2,A9,c9,lo9,hi9,hA9,rfl,hc9,gP9,uP9,Ls9,Lo9,F9,B9,hF9⟩
 replace H:=B9.out (X:=[(b4,_),(b3,_)])
 refine bI H 0 (#[J (x2.code),J (x2.n),.slice A9 x2.texts.length c9]) bA Z Z Z Z Z N N fun w15 H=>U<|Zt ?_
 exact gB (cs0:= #[J (x2.code),J (x2.n),.slice A9 x2.texts.length c9]) Z bx Z (H.ent (i:=0) Z) Z ⟨b2,x2,A9,c9,lo9,hi9,hA9,rfl,hc9,gP9,uP9,Ls9,Lo9,F9,B9.at_ [(b4,_),(b3,_)] H,hF9⟩
 refine G (Wb Z)<|U<|ZF Z<|W<|W<|Zr<|G (cr Z Z)<|G (Wb Z)<|U ?_
 refine gp (τ:=Unit) [41,43,44,45,46,47,48,49] (fun _=>[(41,.bool (decide (8<=a.kind/\a.kind<=15)))]) (fun _ w'=>Hp w0 w' ((b4,.cells #[J (0),J (0),.slice none 0 0] gR (0,0))::(b3,.cells #[J (a.kind),.string (a.name),J (a.part),J (a.n),J (a.m),.string (a.text),J (a.lost)] iR (0,0))::(bb,.cells b.c.toArray cB (0,0))::(gP,.cells uP bY (0,0))::(Ls++(Lo++K))) F) ?_ ?_
 refine qL Z (fun hc41=> ?_) (fun hc41=> ?_)
 refine Zk ?_
 have h0:=of_decide_eq_true hc41
 exact⟨(),H,ef (congrArg Value.bool (hc41.trans (decide_eq_true I).symm)),Qg⟩
 refine W<|Zr ?_
 refine dZ (cr Z Z) Z Z Z (fun h43=> ?_) (fun h43=> ?_)
 refine G (Wb Z)<|U<|ZT Z<|Zk ?_
 have h0:=of_decide_eq_false hc41
 exact⟨(),H,ef (congrArg Value.bool (decide_eq_true I)).symm,Qg⟩
 refine G (Wb Z)<|U<|ZF Z<|W<|Zr ?_
 refine dZ (cr Z Z) Z Z Z (fun h44=> ?_) (fun h44=> ?_)
 refine G (Wb Z)<|U<|ZT Z<|Zk ?_
 have h0:=of_decide_eq_false hc41
 exact⟨(),H,ef (congrArg Value.bool (decide_eq_true I)).symm,Qg⟩
 refine G (Wb Z)<|U<|ZF Z<|W<|Zr ?_
 refine dZ (cr Z Z) Z Z Z (fun h45=> ?_) (fun h45=> ?_)
 refine G (Wb Z)<|U<|ZT Z<|Zk ?_
 have h0:=of_decide_eq_false hc41
 exact⟨(),H,ef (congrArg Value.bool (decide_eq_true I)).symm,Qg⟩
 refine G (Wb Z)<|U<|ZF Z<|W<|Zr ?_
 refine dZ (cr Z Z) Z Z Z (fun h46=> ?_) (fun h46=> ?_)
 refine G (Wb Z)<|U<|ZT Z<|Zk ?_
 have h0:=of_decide_eq_false hc41
 exact⟨(),H,ef (congrArg Value.bool (decide_eq_true I)).symm,Qg⟩
 refine G (Wb Z)<|U<|ZF Z<|W<|Zr ?_
 refine dZ (cr Z Z) Z Z Z (fun h47=> ?_) (fun h47=> ?_)
 refine G (Wb Z)<|U<|ZT Z<|Zk ?_
 have h0:=of_decide_eq_false hc41
 exact⟨(),H,ef (congrArg Value.bool (decide_eq_true I)).symm,Qg⟩
 refine G (Wb Z)<|U<|ZF Z<|W<|Zr ?_
 refine dZ (cr Z Z) Z Z Z (fun h48=> ?_) (fun h48=> ?_)
 refine G (Wb Z)<|U<|ZT Z<|Zk ?_
 have h0:=of_decide_eq_false hc41
 exact⟨(),H,ef (congrArg Value.bool (decide_eq_true I)).symm,Qg⟩
 refine G (Wb Z)<|U<|ZF Z<|Zr ?_
 refine dZ (cr Z Z) Z Z Z (fun h49=> ?_) (fun h49=> ?_)
 refine G (Wb Z)<|U ?_
 have h0:=of_decide_eq_false hc41
 exact⟨(),H,ef (congrArg Value.bool (decide_eq_true I)).symm,Qg⟩
 refine G (Wb Z)<|U ?_
 have h0:=of_decide_eq_false hc41
 exact⟨(),H,ef (congrArg Value.bool (decide_eq_false I)).symm,Qg⟩
 rintro _ ρ1 w16 H
 show CW _ _ _ _ (dO (ij _ _ ρ1) [(41,.bool (decide (8<=a.kind/\a.kind<=15)))]) w16
 refine qL Z (fun hc41=> ?_) (fun hc41=> ?_)
 refine W<|Zr<|G (Yp Z)<|G (Zw jd H 1 Z Z Z)<|cE rt (NK (B.into [(b4,_),(b3,_)] H) hw hk h4 g (of_decide_eq_true hc41)) Z Z ?_
 rintro _ w17 ⟨b2,x2,A9,c9,lo9,hi9,hA9,rfl,hc9,gP9,uP9,Ls9,Lo9,F9,B9,hF9⟩
 replace H:=B9.out (X:=[(b4,_),(b3,_)])
 refine bI H 0 (#[J (x2.code),J (x2.n),.slice A9 x2.texts.length c9]) bA Z Z Z Z Z N N fun w18 H=>U<|Zt ?_
 exact gB (cs0:= #[J (x2.code),J (x2.n),.slice A9 x2.texts.length c9]) Z bx Z (H.ent (i:=0) Z) Z ⟨b2,x2,A9,c9,lo9,hi9,hA9,rfl,hc9,gP9,uP9,Ls9,Lo9,F9,B9.at_ [(b4,_),(b3,_)] H,hF9⟩
 refine W<|W<|Zr<|G (cr Z Z)<|G (Wb Z)<|U ?_
 refine gp (τ:=Unit) [53,55,56,57] (fun _=>[(53,.bool (decide (a.kind=16∨a.kind=18∨a.kind=20)))]) (fun _ w'=>Hp w0 w' ((b4,.cells #[J (0),J (0),.slice none 0 0] gR (0,0))::(b3,.cells #[J (a.kind),.string (a.name),J (a.part),J (a.n),J (a.m),.string (a.text),J (a.lost)] iR (0,0))::(bb,.cells b.c.toArray cB (0,0))::(gP,.cells uP bY (0,0))::(Ls++(Lo++K))) F) ?_ ?_
 refine qL Z (fun hc53=> ?_) (fun hc53=> ?_)
 refine Zk ?_
 have h0:=of_decide_eq_true hc53
 exact⟨(),H,ef (congrArg Value.bool (hc53.trans (decide_eq_true I).symm)),Qg⟩
 refine W<|Zr ?_
 refine dZ (cr Z Z) Z Z Z (fun h55=> ?_) (fun h55=> ?_)
 exact absurd h55 hkd.2.2.1
 refine G (Wb Z)<|U<|ZF Z<|W<|Zr ?_
 refine dZ (cr Z Z) Z Z Z (fun h56=> ?_) (fun h56=> ?_)
 refine G (Wb Z)<|U<|ZT Z<|Zk ?_
 have h0:=of_decide_eq_false hc53
 exact⟨(),H,ef (congrArg Value.bool (decide_eq_true I)).symm,Qg⟩
 refine G (Wb Z)<|U<|ZF Z<|Zr ?_
 refine dZ (cr Z Z) Z Z Z (fun h57=> ?_) (fun h57=> ?_)
 refine G (Wb Z)<|U ?_
 have h0:=of_decide_eq_false hc53
 exact⟨(),H,ef (congrArg Value.bool (decide_eq_true I)).symm,Qg⟩
 refine G (Wb Z)<|U ?_
 have h0:=of_decide_eq_false hc53
 exact⟨(),H,ef (congrArg Value.bool (decide_eq_false I)).symm,Qg⟩
 rintro _ ρ1 w19 H
 show CW _ _ _ _ (dO (ij _ _ ρ1) [(53,.bool (decide (a.kind=16∨a.kind=18∨a.kind=20)))]) w19
 refine qL Z (fun hc53=> ?_) (fun hc53=> ?_)
 refine W<|Zr<|G (Yp Z)<|G (Zw jd H 1 Z Z Z)<|cE sG (QI (B.into [(b4,_),(b3,_)] H) hw hk h4 g (of_decide_eq_true hc53)) Z Z ?_
 rintro _ w20 ⟨b2,x2,A9,c9,lo9,hi9,hA9,rfl,hc9,gP9,uP9,Ls9,Lo9,F9,B9,hF9⟩
 replace H:=B9.out (X:=[(b4,_),(b3,_)])
 refine bI H 0 (#[J (x2.code),J (x2.n),.slice A9 x2.texts.length c9]) bA Z Z Z Z Z N N fun w21 H=>U<|Zt ?_
 exact gB (cs0:= #[J (x2.code),J (x2.n),.slice A9 x2.texts.length c9]) Z bx Z (H.ent (i:=0) Z) Z ⟨b2,x2,A9,c9,lo9,hi9,hA9,rfl,hc9,gP9,uP9,Ls9,Lo9,F9,B9.at_ [(b4,_),(b3,_)] H,hF9⟩
 refine W<|Zr ?_
 refine dZ (cr Z Z) Z Z Z (fun h62=> ?_) (fun h62=> ?_)
 refine G (Wb Z)<|U<|ZT Z<|W<|Zr<|G (Yp Z)<|G (Zw jd H 1 Z Z Z)<|cE uI (NV (B.into [(b4,_),(b3,_)] H) hw hk h4 g h62) Z Z ?_
 rintro _ w22 ⟨b2,x2,A9,c9,lo9,hi9,hA9,rfl,hc9,gP9,uP9,Ls9,Lo9,F9,B9,hF9⟩
 replace H:=B9.out (X:=[(b4,_),(b3,_)])
 refine bI H 0 (#[J (x2.code),J (x2.n),.slice A9 x2.texts.length c9]) bA Z Z Z Z Z N N fun w23 H=>U<|Zt ?_
 exact gB (cs0:= #[J (x2.code),J (x2.n),.slice A9 x2.texts.length c9]) Z bx Z (H.ent (i:=0) Z) Z ⟨b2,x2,A9,c9,lo9,hi9,hA9,rfl,hc9,gP9,uP9,Ls9,Lo9,F9,B9.at_ [(b4,_),(b3,_)] H,hF9⟩
 exfalso;have h41:=of_decide_eq_false hc41;have h53:=of_decide_eq_false hc53;have h17:=of_decide_eq_false hc17;omega
theorem zn (p:Pa) (w:World) (h:p.rd 0 w.heap.size w) (hok:p.a.ok):di aa Au [p.v] w fun v w2=> ∃ p':Pa,v=p'.v/\p'.a=p.a/\iI w w2 p':=
 (B8 p w h hok).mono fun _ _ ⟨p',_,_,_,_,_,_,h1,h2,h3⟩=>⟨p',h1,h2,h3.new⟩
def Sz (wt:Int):Co:=⟨0,1,wt,[],none,0⟩
def RH (wt:Int):Gr:=⟨0,wt,0,[],none,0,[],none,0⟩
theorem Sy (wt:Int) (lo hi:Nat) (w:World):(Sz wt).rd lo hi w:=⟨Rd.nil,by simp[Sz],by simp[Sz],by simp[Sz],by simp[Sz]⟩
theorem Sl (wt:Int) (lo hi:Nat) (w:World):(RH wt).rd lo hi w:=⟨Rd.nil,by simp[RH],Rd.nil,by simp[RH],by simp[RH],by simp[RH],by simp[RH]⟩
structure UC (w00 w0 w:World) (b:Bk) (gP:Nat) (uP:Array Value) (F:List cf):Prop where
 pA:b.pA=some ⟨gP,0,none⟩
 row:d8 Dv b.ps b.pC uP
 sns:b.sns=[]/\b.snA=none/\b.snC=0
 co:y3 w00 b.clo b.chi b.co∈F
 gr:MW w00 b.glo b.ghi b.gr∈F
 ps: ∀ q∈b.ps,xX w00 q.lo q.hi q.p∈F
 lo: ∀ f∈F,w0.heap.size<=f.lo
 H:Hp w0 w [(gP,.cells uP bY (0,0))] F
theorem M6 {np nr few:Nat} {wt:Int} (w00 w:World) (h00:w00.heap.size<=w.heap.size) (q1:1<=np) (q4:np<=4) (n1:1<=nr) (n5:nr<=5) (f1:1<=few) (f2:few<=nr) (t1:1<=wt) (t2:wt<=1000):di aa CI [.agg #[J (np:Nat),J (nr:Nat),J (few:Nat),J wt]] w fun v w2=> ∃ (b:Bk) (gP:Nat) (uP:Array Value) (F:List cf),v=.tuple #[.agg b.c.toArray,J 0]/\b.a=lF np nr few wt/\UC w00 w w2 b gP uP F:=by
 refine aG Bd Z Z ?_
 have H:=Hp.start w
 show CW _ _ _ _ (args [.agg #[J (np:Nat),J (nr:Nat),J (few:Nat),J wt]]) w
 refine W<|Zr<|gU H Z Z fun w1 b1 H=>fc H rv Z fun w2 b2 H=>G (Wi Z)<|U<|W<|W<|Zr<|G (Zf kH Z)<|G (Zd al H 1 Z Z Z)<|G (cV Z Z I)<|G (Yb Z)<|ZG<|G (Zf kH Z)<|ZG<|G (Zd al H 1 Z Z Z)<|ZG<|G (dX Z Z I)<|G (N Z Z)<|U<|ZF Z<|Zk<|W<|Zr<|G (Zf qJ Z)<|G (Zd al H 1 Z Z Z)<|G (Zf CZ Z)<|G (Zd al H 1 Z Z Z)<|cE Is (Qq nr few _ n1 n5 f1 f2) Z Z ?_
 have hlo4:=H.size
 rintro _ w3 ⟨p4,rfl,hap4,hnp4⟩;replace H:=H.learn hnp4.2 (xX w00 w2.heap.size w3.heap.size p4) ⟨(aW h00 H.size),hnp4.1⟩ (ap _) (ap _);clear hnp4
 refine G (Yu Z)<|G (Xa Z Z)<|G (Xi Z Z)<|fc H bT Z fun w4 b4 H=>bI H 0 (#[J (p4.epoch),J (p4.leader),.slice p4.iA p4.isr.length p4.iC,.slice p4.kA p4.known.length p4.kC,.slice p4.rA p4.reps.length p4.rC,J (p4.few),J (p4.base)]) bk Z Z Z Z Z N N fun w5 H=>G (Wi Z)<|U<|W<|W<|Zr<|G (Yi Z)<|G (cj Z Z (by decide))<|U<|ZF Z<|Zk<|W<|Zr<|G (Zf xM Z)<|G (Zd al H 2 Z Z Z)<|cE GD (Ik wt _ t1 t2) Z Z ?_
 rintro _ w6 ⟨rfl,hb⟩;replace H:=H.later hb;clear hb
 refine G (Yu Z)<|G (Xa Z Z)<|G (Xi Z Z)<|fc H cH Z fun w7 b6 H=>bI H 0 (#[J (0),J (1),J (wt),.slice none 0 0]) aH Z Z Z Z Z N N fun w8 H=>G (Wi Z)<|U<|W<|W<|Zr<|G (Yi Z)<|G (cj Z Z (by decide))<|U<|ZF Z<|Zk<|W<|Zr<|G (Zf xM Z)<|G (Zd al H 3 Z Z Z)<|cE GB (Q2 wt _ t1 t2) Z Z ?_
 rintro _ w9 ⟨rfl,hb⟩;replace H:=H.later hb;clear hb
 refine G (Yu Z)<|G (Xa Z Z)<|G (Xi Z Z)<|fc H eo Z fun w10 b7 H=>bI H 0 (#[J (0),J (wt),J (0),.slice none 0 0,.slice none 0 0]) bD Z Z Z Z Z N N fun w11 H=>G (Wi Z)<|U<|W<|Zr<|G (Zw az H 1 Z Z Z)<|G (Zw aR H 0 Z Z Z)<|G (bp (cs:= #[.slice none 0 0,J (0),J (1),J (wt),.slice none 0 0,J (0),J (wt),J (0),.slice none 0 0,.slice none 0 0,.slice none 0 0]) Nr rv N)<|fc H rv Z fun w12 b8 H=>bI H 0 (#[.slice none 0 0,J (0),J (1),J (wt),.slice none 0 0,J (0),J (wt),J (0),.slice none 0 0,.slice none 0 0,.slice none 0 0]) nG Z Z Z Z Z N N fun w13 H=>U<|W<|W<|Zr<|G (Zf kH Z)<|G (Zd al H 5 Z Z Z)<|G (Yi Z)<|U<|Zb ?_
 refine bV (τ:=Nat×List Pq×Option Addr×Nat×List (Nat×Obj)×List cf) [51,52,53,54,55,56,57,58,59,60] (fun(i,_)=>[(51,J (i:Nat))]) (fun(i,qs,A,c,Lq,F') w'=>i<=np/\qs.map (fun q=>q.p.a)=ao i (l8 nr few)/\gb Dv (.slice A qs.length c) bY qs Lq/\(∀ q∈qs,xX w00 q.lo q.hi q.p∈F')/\(∀ f∈F',w.heap.size<=f.lo)/\(∃ lo hi,xX w00 lo hi p4∈F')/\Hp w w' ((b8,.cells #[.slice A qs.length c,J (0),J (1),J (wt),.slice none 0 0,J (0),J (wt),J (0),.slice none 0 0,.slice none 0 0,.slice none 0 0] lW (0,0))::(b7,.cells #[J (0),J (wt),J (0),.slice none 0 0,.slice none 0 0] cK (0,0))::(b6,.cells #[J (0),J (1),J (wt),.slice none 0 0] aX (0,0))::(b4,.cells #[J (p4.epoch),J (p4.leader),.slice p4.iA p4.isr.length p4.iC,.slice p4.kA p4.known.length p4.kC,.slice p4.rA p4.reps.length p4.rC,J (p4.few),J (p4.base)] bY (0,0))::(b2,.cells #[.slice none 0 0,J (0),J (0),J (0),.slice none 0 0,J (0),J (0),J (0),.slice none 0 0,.slice none 0 0,.slice none 0 0] lW (0,0))::(b1,.cells #[J (((np:Nat):Int)),J (((nr:Nat):Int)),J (((few:Nat):Int)),J (wt)] iq (0,0))::(Lq++[])) F') (fun(i,_)=>np-i) (0,[],none,0,[],_) ⟨aV _,rfl,gb.nil,by simp,fun f hf=>(by rw[aq.1 hf];exact hlo4),⟨_,_,aA ..⟩,H⟩ (ef Z) ?_
 rintro⟨i,qs,A,c,Lq,F'⟩ ρ1 w14 ⟨hi,hqa,ho,hqs,hFl,⟨lo4,hi4,hp4⟩,H⟩
 show CW _ _ _ _ (dO (ij _ _ ρ1) [(51,J (i:Nat))]) w14
 have hql:qs.length=i:=by have:=congrArg cY hqa;simpa using this
 refine W<|Zr ?_
 refine dZ (cI Z Z) Z Z Z (fun h52=> ?_) (fun h52=> ?_)
 refine U<|W<|ZT Z<|Zk<|W ?_
 refine gp (τ:=List Pq×Option Addr×Nat×List (Nat×Obj)×List cf) [53,54,55,56,57,58,59] (fun _=>[]) (fun(q9,A9,c9,L9,F9) w'=>q9.map (fun q=>q.p.a)=ao (i+1) (l8 nr few)/\gb Dv (.slice A9 q9.length c9) bY q9 L9/\(∀ q∈q9,xX w00 q.lo q.hi q.p∈F9)/\(∀ f∈F9,w.heap.size<=f.lo)/\(∃ lo hi,xX w00 lo hi p4∈F9)/\Hp w w' ((b8,.cells #[.slice A9 q9.length c9,J (0),J (1),J (wt),.slice none 0 0,J (0),J (wt),J (0),.slice none 0 0,.slice none 0 0,.slice none 0 0] lW (0,0))::(b7,.cells #[J (0),J (wt),J (0),.slice none 0 0,.slice none 0 0] cK (0,0))::(b6,.cells #[J (0),J (1),J (wt),.slice none 0 0] aX (0,0))::(b4,.cells #[J (p4.epoch),J (p4.leader),.slice p4.iA p4.isr.length p4.iC,.slice p4.kA p4.known.length p4.kC,.slice p4.rA p4.reps.length p4.rC,J (p4.few),J (p4.base)] bY (0,0))::(b2,.cells #[.slice none 0 0,J (0),J (0),J (0),.slice none 0 0,J (0),J (0),J (0),.slice none 0 0,.slice none 0 0,.slice none 0 0] lW (0,0))::(b1,.cells #[J (((np:Nat):Int)),J (((nr:Nat):Int)),J (((few:Nat):Int)),J (wt)] iq (0,0))::(L9++[])) F9) ?_ ?_
 refine Zb ?_
 refine rL cv [0] [1,2,3,4,5,6,7] [0] 7 N N N Nq ?_
 refine aw Z Z Z Z Z (fun w' hw'=>Zf dF Z)<|aT ?_
 intro w15 hw';replace H:=H.later hw';clear hw'
 refine uN 1 2 N Z Z ?_ ?_
 refine G (Zd er H 0 Z Z Z)<|U<|db 2 N Z<|G (Zw bo H 3 Z Z Z)<|U<|db 3 N Z<|cE ng (zn p4 _ (Hp.paM H hp4) (hap4▸(FM (Φ:=fun _=>True) n1 n5 f1 f2).ok)) Z Z ?_
 have hlo2:=H.size
 rintro _ w16 ⟨p2,rfl,hap2,hnp2⟩;replace H:=H.learn hnp2.2 (xX w00 w15.heap.size w16.heap.size p2) ⟨(aW h00 H.size),hnp2.1⟩ (ap _) (ap _);clear hnp2
 refine U<|db 4 N Z<|sK (vs:=[.agg #[J (p2.epoch),J (p2.leader),.slice p2.iA p2.isr.length p2.iC,.slice p2.kA p2.known.length p2.kC,.slice p2.rA p2.reps.length p2.rC,J (p2.few),J (p2.base)]]) H ia bT Z Z Z Z Z Z fun w17 b57 H=>U<|db 5 N Z<|uO (Y:=Dv) y2 (K:=[(b57,_),(b8,_),(b7,_),(b6,_),(b4,_),(b2,_),(b1,_)]) (L:=Lq) (M:=[]) H ho (es:=qs) (news:=[⟨p2,w15.heap.size,w16.heap.size⟩]) Z Z Z (wL.row (m:=1) (sz:=Dv.sz) (H.ent (i:=0) Z) Z) (by simp only[bv];omega) Z ?_
 intro A5 c5 w18 L5 h5 h5m ho5 H
 refine U<|db 6 N Z<|G (Zf dF Z)<|U<|db 7 N Z<|bI H 1 (#[.slice A5 ((qs++[(⟨p2,w15.heap.size,w16.heap.size⟩:Pq)]).length) c5,J (0),J (1),J (wt),.slice none 0 0,J (0),J (wt),J (0),.slice none 0 0,.slice none 0 0,.slice none 0 0]) v5 Z Z Z Z Z N N fun w19 H=>U<|cz N ?_
 exact⟨(qs++[(⟨p2,w15.heap.size,w16.heap.size⟩:Pq)],A5,c5,L5,xX w00 w15.heap.size w16.heap.size p2::F'),⟨by rw[bi,hqa,rQ];show _++[p2.a]=_;rw[hap2,hap4],ho5,fun q hq=>(by rcases ar.1 hq with hq|hq;exact aj _ (hqs q hq);rw[aq.1 hq];exact aA ..),fun f hf=>(by rcases ay.1 hf with rfl|hf;exact hlo2;exact hFl f hf),⟨lo4,hi4,aj _ hp4⟩,H.forget (.cons _ (au _)) (fun _ h=>h)⟩,FB,Qg⟩
 refine G (Zw bo H 3 Z Z Z)<|U ?_
 refine uN 1 3 N Z Z ?_ ?_
 refine G (Zd er H 0 Z Z Z)<|U<|db 3 N Z<|cE ng (zn p4 _ (Hp.paM H hp4) (hap4▸(FM (Φ:=fun _=>True) n1 n5 f1 f2).ok)) Z Z ?_
 have hlo2:=H.size
 rintro _ w20 ⟨p2,rfl,hap2,hnp2⟩;replace H:=H.learn hnp2.2 (xX w00 w15.heap.size w20.heap.size p2) ⟨(aW h00 H.size),hnp2.1⟩ (ap _) (ap _);clear hnp2
 refine U<|db 4 N Z<|sK (vs:=[.agg #[J (p2.epoch),J (p2.leader),.slice p2.iA p2.isr.length p2.iC,.slice p2.kA p2.known.length p2.kC,.slice p2.rA p2.reps.length p2.rC,J (p2.few),J (p2.base)]]) H ia bT Z Z Z Z Z Z fun w21 b57 H=>U<|db 5 N Z<|uO (Y:=Dv) y2 (K:=[(b57,_),(b8,_),(b7,_),(b6,_),(b4,_),(b2,_),(b1,_)]) (L:=Lq) (M:=[]) H ho (es:=qs) (news:=[⟨p2,w15.heap.size,w20.heap.size⟩]) Z Z Z (wL.row (m:=1) (sz:=Dv.sz) (H.ent (i:=0) Z) Z) (by simp only[bv];omega) Z ?_
 intro A5 c5 w22 L5 h5 h5m ho5 H
 refine U<|db 6 N Z<|G (Zf dF Z)<|U<|db 7 N Z<|bI H 1 (#[.slice A5 ((qs++[(⟨p2,w15.heap.size,w20.heap.size⟩:Pq)]).length) c5,J (0),J (1),J (wt),.slice none 0 0,J (0),J (wt),J (0),.slice none 0 0,.slice none 0 0,.slice none 0 0]) v5 Z Z Z Z Z N N fun w23 H=>U<|cz N ?_
 exact⟨(qs++[(⟨p2,w15.heap.size,w20.heap.size⟩:Pq)],A5,c5,L5,xX w00 w15.heap.size w20.heap.size p2::F'),⟨by rw[bi,hqa,rQ];show _++[p2.a]=_;rw[hap2,hap4],ho5,fun q hq=>(by rcases ar.1 hq with hq|hq;exact aj _ (hqs q hq);rw[aq.1 hq];exact aA ..),fun f hf=>(by rcases ay.1 hf with rfl|hf;exact hlo2;exact hFl f hf),⟨lo4,hi4,aj _ hp4⟩,H.forget (.cons _ (au _)) (fun _ h=>h)⟩,FB,Qg⟩
 refine cE ng (zn p4 _ (Hp.paM H hp4) (hap4▸(FM (Φ:=fun _=>True) n1 n5 f1 f2).ok)) Z Z ?_
 have hlo2:=H.size
 rintro _ w24 ⟨p2,rfl,hap2,hnp2⟩;replace H:=H.learn hnp2.2 (xX w00 w15.heap.size w24.heap.size p2) ⟨(aW h00 H.size),hnp2.1⟩ (ap _) (ap _);clear hnp2
 refine U ?_
 refine uN 1 4 N Z Z ?_ ?_
 refine G (Zd er H 0 Z Z Z)<|U<|db 4 N Z<|sK (vs:=[.agg #[J (p2.epoch),J (p2.leader),.slice p2.iA p2.isr.length p2.iC,.slice p2.kA p2.known.length p2.kC,.slice p2.rA p2.reps.length p2.rC,J (p2.few),J (p2.base)]]) H ia bT Z Z Z Z Z Z fun w25 b57 H=>U<|db 5 N Z<|uO (Y:=Dv) y2 (K:=[(b57,_),(b8,_),(b7,_),(b6,_),(b4,_),(b2,_),(b1,_)]) (L:=Lq) (M:=[]) H ho (es:=qs) (news:=[⟨p2,w15.heap.size,w24.heap.size⟩]) Z Z Z (wL.row (m:=1) (sz:=Dv.sz) (H.ent (i:=0) Z) Z) (by simp only[bv];omega) Z ?_
 intro A5 c5 w26 L5 h5 h5m ho5 H
 refine U<|db 6 N Z<|G (Zf dF Z)<|U<|db 7 N Z<|bI H 1 (#[.slice A5 ((qs++[(⟨p2,w15.heap.size,w24.heap.size⟩:Pq)]).length) c5,J (0),J (1),J (wt),.slice none 0 0,J (0),J (wt),J (0),.slice none 0 0,.slice none 0 0,.slice none 0 0]) v5 Z Z Z Z Z N N fun w27 H=>U<|cz N ?_
 exact⟨(qs++[(⟨p2,w15.heap.size,w24.heap.size⟩:Pq)],A5,c5,L5,xX w00 w15.heap.size w24.heap.size p2::F'),⟨by rw[bi,hqa,rQ];show _++[p2.a]=_;rw[hap2,hap4],ho5,fun q hq=>(by rcases ar.1 hq with hq|hq;exact aj _ (hqs q hq);rw[aq.1 hq];exact aA ..),fun f hf=>(by rcases ay.1 hf with rfl|hf;exact hlo2;exact hFl f hf),⟨lo4,hi4,aj _ hp4⟩,H.forget (.cons _ (au _)) (fun _ h=>h)⟩,FB,Qg⟩
 refine sK (vs:=[.agg #[J (p2.epoch),J (p2.leader),.slice p2.iA p2.isr.length p2.iC,.slice p2.kA p2.known.length p2.kC,.slice p2.rA p2.reps.length p2.rC,J (p2.few),J (p2.base)]]) H ia bT Z Z Z Z Z Z fun w28 b57 H=>U<|db 1 N Z<|G (Zd er H 1 Z Z Z)<|U<|db 5 N Z<|uO (Y:=Dv) y2 (K:=[(b57,_),(b8,_),(b7,_),(b6,_),(b4,_),(b2,_),(b1,_)]) (L:=Lq) (M:=[]) H ho (es:=qs) (news:=[⟨p2,w15.heap.size,w24.heap.size⟩]) Z Z Z (wL.row (m:=1) (sz:=Dv.sz) (H.ent (i:=0) Z) Z) (by simp only[bv];omega) Z ?_
 intro A5 c5 w29 L5 h5 h5m ho5 H
 refine U<|db 6 N Z<|G (Zf dF Z)<|U<|db 7 N Z<|bI H 1 (#[.slice A5 ((qs++[(⟨p2,w15.heap.size,w24.heap.size⟩:Pq)]).length) c5,J (0),J (1),J (wt),.slice none 0 0,J (0),J (wt),J (0),.slice none 0 0,.slice none 0 0,.slice none 0 0]) v5 Z Z Z Z Z N N fun w30 H=>U<|cz N ?_
 exact⟨(qs++[(⟨p2,w15.heap.size,w24.heap.size⟩:Pq)],A5,c5,L5,xX w00 w15.heap.size w24.heap.size p2::F'),⟨by rw[bi,hqa,rQ];show _++[p2.a]=_;rw[hap2,hap4],ho5,fun q hq=>(by rcases ar.1 hq with hq|hq;exact aj _ (hqs q hq);rw[aq.1 hq];exact aA ..),fun f hf=>(by rcases ay.1 hf with rfl|hf;exact hlo2;exact hFl f hf),⟨lo4,hi4,aj _ hp4⟩,H.forget (.cons _ (au _)) (fun _ h=>h)⟩,FB,Qg⟩
 rintro⟨q9,A9,c9,L9,F9⟩ ρ1 w31 H9
 show CW _ _ _ _ (dO (ij _ _ ρ1) []) w31
 refine Zr<|G (bn Z Z I I)<|G (Yi Z)<|U ?_
 exact⟨(i+1,q9,A9,c9,L9,F9),⟨by omega,H9⟩,ef Z,Qg,by show np- (i+1)<np-i;omega⟩
 refine U<|W<|ZF Z<|Zx<|W<|Zr<|G (Zw oc H 0 Z Z Z)<|G (Yi Z)<|bI H 4 (#[.slice A qs.length c,J (0),J (1),J (wt),.slice none 0 0,J (0),J (wt),J (0),.slice none 0 0,.slice none 0 0,.slice none 0 0]) nG Z Z Z Z Z N N fun w32 H=>G (Wi Z)<|U<|Zt ?_
 obtain rfl:i=np:=by omega
 obtain⟨gP,uP,rfl,rfl,row⟩:=ho.row I
 have H7:=((H.forget (L':=[(gP,_)]) ((.cons _ (.cons _ (.cons _ (.cons _ (.cons _ (.cons _ (au _)))))))) (fun _ h=>h)).learnOld (y3 w00 w.heap.size w.heap.size (Sz wt)) ⟨h00,Sy ..⟩ (ap _)).learnOld (MW w00 w.heap.size w.heap.size (RH wt)) ⟨h00,Sl ..⟩ (ap _)
 exact cu (cs0:= #[.slice (Qd gP) qs.length c,J (0),J (1),J (wt),.slice none 0 0,J (0),J (wt),J (0),.slice none 0 0,.slice none 0 0,.slice none 0 0]) (v1:=J 0) Z oc Z (H.ent (i:=4) Z) Z Z ⟨⟨qs,some ⟨gP,0,none⟩,c,Sz wt,w.heap.size,w.heap.size,RH wt,w.heap.size,w.heap.size,[],none,0⟩,gP,uP,_,rfl,by unfold Bk.a lF;rw[hqa];rfl,⟨rfl,row,⟨rfl,rfl,rfl⟩,aj _ (aA ..),aA ..,fun q hq=>aj _ (aj _ (hqs q hq)),fun f hf=>(by rcases ay.1 hf with rfl|hf;exact ap _;rcases ay.1 hf with rfl|hf;exact ap _;exact hFl f hf),H7⟩⟩
theorem Bg (es:List ByteArray) (A:Option Addr) (c:Nat) (w:World) (hr:Rd nu 0 w.heap.size A es w) (hb:es.length*16<=140737488355328):
  di aa jG [.slice A es.length c] w fun v w2=> ∃ A' c' L',v=.slice A' es.length c'/\es.length<=c'/\c'<=maxLen/\gb nu (.slice A' es.length c') lP es L'/\Hp w w2 L' []:=by
 refine aG nR Z Z ?_
 have H:=Hp.startRd hr
 refine W<|Zr<|G (Ws Z)<|U<|W<|W<|Zr<|G (Ys Z) ?_
 refine By (pX ku Z) Z Z Z (fun h4=> ?_) (fun h4=> ?_)
 refine U<|ZT Z<|W<|Zr<|G (Ws Z)<|U<|Zt ?_
 have he:es=[]:=by
  cases es with
  |nil=>rfl
  |cons e es=>obtain⟨b,o,hA,_⟩:=hr (by simp);subst hA;cases h4
 subst he
 exact cU Z Z ⟨none,0,[],rfl,by simp,by decide,gb.nil,H.forget (by simp) (by simp)⟩
 refine U<|ZF Z<|Zk<|W<|Zr<|Rg H g9 Z fun w1 b5 H=>G (Ys Z)<|uO (Y:=nu) xT (K:=[]) (L:=[(b5,_)]) (M:=[]) H (sI.lit (by decide) (by rfl)) (es:=[]) (news:=es) Z Z Z (Rd.src (H.fact (i:=0) Z)) (by simpa using hb) Z ?_
 intro A3 c3 w3 L3 h3a h3b ho3 H
 refine G (Ws Z)<|U<|Zt ?_
 exact cU Z Z ⟨A3,c3,L3,rfl,h3a,h3b,ho3,H.forget (by simp) (by simp)⟩
theorem Bf (es:List ByteArray) (A:Option Addr) (c:Nat) (w:World) (hr:Rd nu 0 w.heap.size A es w) (hb:es.length*16<=140737488355328):
  di aa jG [.slice A es.length c] w fun v w2=> ∃ A' c',v=.slice A' es.length c'/\es.length<=c'/\Rd nu w.heap.size w2.heap.size A' es w2/\Below w.heap.size w w2:=
 (Bg es A c w hr hb).mono fun v w2 ⟨A',c',L',h1,h2,_,h4,h5⟩=>⟨A',c',h1,h2,h4.rd (K:=[]) (M:=[]) (by simpa using h5),h5.below⟩
structure Aq where
 x:An
 A:Option Addr
 c:Nat
def Tu:fu Aq:=⟨fun q=>[J q.x.code,J q.x.n,.slice q.A q.x.texts.length q.c],3,fun _=>rfl,by decide,fun a u hu=>by
 simp only[ay,bu,or_false]at hu
 rcases hu with h|h|h<;>subst h<;>rfl⟩
structure Rn where
 xs:List Aq
 oA:Option Addr
 oC:Nat
 b:Bk
def Rn.v (r:Rn):Value:=.tuple #[.slice r.oA r.xs.length r.oC,.agg r.b.c.toArray,J 0]
structure Rn.rd (r:Rn) (lo hi:Nat) (w:World):Prop where
 xs:Rd Tu lo hi r.oA r.xs w
 oC:r.xs.length<=r.oC
 tx: ∀ x∈r.xs,Rd nu lo hi x.A x.x.texts w/\x.x.texts.length<=x.c
 ps:Rd Dv lo hi r.b.pA r.b.ps w
 pC:r.b.ps.length<=r.b.pC
 pa: ∀ q∈r.b.ps,q.p.rd lo hi w
 co:r.b.co.rd lo hi w
 gr:r.b.gr.rd lo hi w
theorem Rn.rd.st {r:Rn} {lo hi:Nat} {w w':World} (hk: ∀ k,lo<=k->k<hi->w'.heap[k]? =w.heap[k]?) (h:r.rd lo hi w):r.rd lo hi w':=⟨h.xs.st hk,h.oC,fun x hx=>⟨(h.tx x hx).1.st hk,(h.tx x hx).2⟩,h.ps.st hk,h.pC,fun q hq=>(h.pa q hq).st hk,h.co.st hk,h.gr.st hk⟩
theorem Rn.rd.mono {r:Rn} {lo hi lo' hi':Nat} {w:World} (h:r.rd lo hi w) (h1:lo'<=lo) (h2:hi<=hi'):r.rd lo' hi' w:=⟨h.xs.mono h1 h2,h.oC,fun x hx=>⟨(h.tx x hx).1.mono h1 h2,(h.tx x hx).2⟩,h.ps.mono h1 h2,h.pC,fun q hq=>Pa.rd.mono (h.pa q hq) h1 h2,Co.rd.mono h.co h1 h2,Gr.rd.mono h.gr h1 h2⟩
theorem Hp.rdM {α:Type} {Y:fu α} {w0 w:World} {L:List (Nat×Obj)} {F:List cf} {lo hi:Nat} {A:Option Addr} {es:List α} (H:Hp w0 w L F) (h:ee Y lo hi A es∈F):Rd Y 0 w.heap.size A es w:=by
 obtain⟨h1,h2,-⟩:=H.facts _ h
 exact Rd.mono h1 (aV _) h2
theorem Bw.into2 {w0 w w2:World} {bb gP:Nat} {b:Bk} {uP:Array Value} {Ls Lo K:List (Nat×Obj)} {F F2:List cf} (B:Bw w0 w bb b gP uP Ls Lo K F) (X:List (Nat×Obj)) (H:Hp w0 w2 (X++((bb,.cells b.c.toArray cB (0,0))::(gP,.cells uP bY (0,0))::(Ls++(Lo++K)))) F2) (hF: ∀ f∈F,f∈F2):Bw w0 w2 bb b gP uP Ls Lo (X++K) F2:=
 ⟨B.pA,B.row,B.sn,B.own,hF _ B.co,hF _ B.gr,fun q hq=>hF _ (B.ps q hq),H.perm (Sh [(bb,_),(gP,_)] Ls Lo X K)⟩
theorem S6 (A Ls Lo oL K:List (Nat×Obj)):(A++(oL++(Ls++(Lo++K)))).Perm (A++(Ls++(Lo++(oL++K)))):=by
 refine List.Perm.append_left A ?_
 rw[show Ls++(Lo++(oL++K))=(Ls++Lo)++(oL++K) by simp,show Ls++(Lo++K)=(Ls++Lo)++K by simp]
 exact gu oL (Ls++Lo) K
structure SG (w0 w:World) (W0:Wa) (acts:List Act) (A0:Option Addr) (bb:Nat) (K:List (Nat×Obj)) (i:Nat) (b:Bk) (xs:List Aq) (gP:Nat) (uP:Array Value) (Ls Lo:List (Nat×Obj)) (oA:Option Addr) (oC:Nat) (oL:List (Nat×Obj)) (F:List cf):Prop where
 le:i<=acts.length
 run:li W0 (acts.take i) (xs.map Aq.x) b.a
 B:Bw w0 w bb b gP uP Ls Lo (oL++K) F
 own:gb Tu (.slice oA xs.length oC) gR xs oL
 tx: ∀ x∈xs,x.x.texts.length<=x.c/\ ∃ lo hi,w0.heap.size<=lo/\ee nu lo hi x.A x.x.texts∈F
 ac:ee jo 0 w0.heap.size A0 acts∈F
theorem TI (bb gP:Nat×Obj) (Ls Lo oL K:List (Nat×Obj)):(bb::(K++(gP::(Ls++(Lo++oL))))).Perm (bb::gP::(Ls++(Lo++(oL++K)))):=by
 rw[show Ls++(Lo++(oL++K))=(Ls++(Lo++oL))++K by simp]
 refine ah _ ?_
 exact(y8 (l₁:=K) (l₂:=gP::(Ls++(Lo++oL))))
theorem SG.rd {w0 w w2:World} {W0:Wa} {acts:List Act} {A0:Option Addr} {bb:Nat} {K:List (Nat×Obj)} {i:Nat} {b:Bk} {xs:List Aq} {gP:Nat} {uP:Array Value} {Ls Lo:List (Nat×Obj)} {oA:Option Addr} {oC:Nat} {oL:List (Nat×Obj)} {F F2:List cf} (Ii:SG w0 w W0 acts A0 bb K i b xs gP uP Ls Lo oA oC oL F) (X:List (Nat×Obj)) (H:Hp w0 w2 (X++((gP,.cells uP bY (0,0))::(Ls++(Lo++oL)))) F2) (hF: ∀ f∈F,f∈F2):(Rn.mk xs oA oC b).rd w0.heap.size w2.heap.size w2:=by
 have H1:=H.forget (L':=oL) (((ci Lo oL).trans (ci Ls _)).trans ((aS _ _).trans (ci X _))) (fun _ h=>h)
 have H2:=H.forget (L':=[(gP,.cells uP bY (0,0))]) (((List.cons_sublist_cons.2 (List.nil_sublist _))).trans (ci X _)) (fun _ h=>h)
 obtain⟨A,c,e1,e2,-⟩:=Ii.own.form
 cases e1
 have hg:=H2.ge (i:=0) Z
 have hl:=H2.lt (i:=0) Z
 refine⟨Ii.own.rd (K:=[]) (M:=[]) (by simpa using H1),e2,fun x hx=> ?_,?_,Ii.B.row.le,fun q hq=> ?_,?_,?_⟩
 obtain⟨z1,lo,hi,z2,z3⟩:=Ii.tx x hx
 obtain⟨h1,h2,-⟩:=H.facts _ (hF _ z3)
 exact⟨Rd.mono h1 z2 h2,z1⟩
 have:=(Ii.B.row.rd (H2.ent (i:=0) Z)).mono hg (Nat.succ_le_of_lt hl)
 rw[<-Ii.B.pA]at this
 exact this
 obtain⟨h1,h2,-⟩:=H.facts _ (hF _ (Ii.B.ps q hq))
 exact Pa.rd.mono h1.2 h1.1 h2
 obtain⟨h1,h2,-⟩:=H.facts _ (hF _ Ii.B.co)
 exact Co.rd.mono h1.2 h1.1 h2
 obtain⟨h1,h2,-⟩:=H.facts _ (hF _ Ii.B.gr)
 exact Gr.rd.mono h1.2 h1.1 h2
theorem Ll {es:List cd} {n st a most b:Nat} {out:List ByteArray} (h:Do es n st a most out b):out.length<=most:=h.2.2.2.1
theorem J3 {w:Wa} {a:Act} {w':Wa} {x:An} (h:lS w a w' x) (hn:a.kind=19->a.n<=20) (h17:1<=a.kind):x.texts.length<=20:=by
 cases h with
 |poll x h1 h2=>
  cases h2 with
  |no=>exact aV _
  |yes p x h3 h4 h5=>
   cases h5 with
   |none=>exact aV _
   |range=>exact aV _
   |ok l r st out b g1 g2 g3 g4 g5=>have:=Ll g5;have:=hn h1;show out.length<=20;omega
 |other h1=>
  have:(jz w a).2.texts=[]:=by
   obtain⟨a1,a2,a3,a4,a5,a6,a7,a8⟩:=qk a w
   rcases Classical.em (a.kind=1)with h|h
   rw[a1 h];exact Ap ..
   rcases Classical.em (a.kind=2)with h|h
   rw[a2 h];exact yZ ..
   rcases Classical.em (a.kind=3∨a.kind=4)with h|h
   rw[a3 h];exact Aa ..
   rcases Classical.em (a.kind=5)with h|h
   rw[a4 h];exact xc ..
   rcases Classical.em (a.kind=6)with h|h
   rw[a5 h];exact Al ..
   rcases Classical.em (a.kind=7)with h|h
   rw[a6 h];rfl
   rcases Classical.em (8<=a.kind/\a.kind<=15)with h|h
   rw[a7 h];exact Af ..
   rw[a8 I];exact Ck ..
  rw[this];exact aV _
theorem R1 {np nr few:Nat} {wt:Int} {acts:List Act} {A0:Option Addr} {c0:Nat} (w:World) (q1:1<=np) (q4:np<=4) (n1:1<=nr) (n5:nr<=5) (f1:1<=few) (f2:few<=nr) (t1:1<=wt) (t2:wt<=1000) (hr:Rd jo 0 w.heap.size A0 acts w) (hl:acts.length<=400) (hg: ∀ a∈acts,og np nr a):di aa Ga [.agg #[J (np:Nat),J (nr:Nat),J (few:Nat),J wt],.slice A0 acts.length c0] w fun v w2=> ∃ r:Rn,v=r.v/\li (lF np nr few wt) acts (r.xs.map Aq.x) r.b.a/\r.rd w.heap.size w2.heap.size w2/\Below w.heap.size w w2:=by
 refine aG D3 Z Z ?_
 have H:=Hp.startRd hr
 show CW _ _ _ _ (args [.agg #[J (np:Nat),J (nr:Nat),J (few:Nat),J wt],.slice A0 acts.length c0]) w
 refine W<|Zr<|gU H Z Z fun w1 b2 H=>G (Ws Z)<|fc H rv Z fun w2 b5 H=>G (Wi Z)<|U<|W<|Zr<|G (Zw qn H 1 Z Z Z)<|cE Bn (M6 w _ H.size q1 q4 n1 n5 f1 f2 t1 t2) Z Z ?_
 rintro _ w3 ⟨⟨ps,pA,pC,co,clo,chi,gr,glo,ghi,sns,snA,snC⟩,gP,uP,F1,rfl,hba,⟨hpA,row,⟨hs1,hs2,hs3⟩,hco,hgr,hps,hlo1,H1⟩⟩
 dsimp only at hpA row hs1 hs2 hs3 hco hgr hps
 subst hpA;subst hs1;subst hs2;subst hs3
 replace H:=H.joinF H1 hlo1;clear H1
 refine G (Yu Z)<|G (Xa Z Z)<|G (Xi Z Z)<|fc H rv Z fun w4 b7 H=>bI H 0 (#[.slice (Qd gP) ps.length pC,J (co.clock),J (co.next),J (co.wait),.slice co.A co.txs.length co.cap,J (gr.clock),J (gr.wait),J (gr.gen),.slice gr.mA gr.ms.length gr.mC,.slice gr.oA gr.os.length gr.oC,.slice none (([]:List Sn).length) 0]) nG Z Z Z Z Z N N fun w5 H=>G (Wi Z)<|U<|W<|W<|Zr<|G (Yi Z)<|G (cj Z Z (by decide))<|U<|ZF Z<|Zk<|W<|W<|Zr<|G (Ys Z)<|G (bl yp Z)<|G (dX Z Z I)<|U<|ZF Z<|Zk<|W<|Zr<|G (Zw oc H 0 Z Z Z)<|G (bp (cs:= #[.slice (Qd gP) ps.length pC,J (co.clock),J (co.next),J (co.wait),.slice co.A co.txs.length co.cap,J (gr.clock),J (gr.wait),J (gr.gen),.slice gr.mA gr.ms.length gr.mC,.slice gr.oA gr.os.length gr.oC,.slice none (([]:List Sn).length) 0]) K6 M4 N)<|gU H Z Z fun w6 b29 H=>G (Wp Z)<|U<|W<|Zr<|G (Ws Z)<|U<|W<|W<|Zr<|G (Ys Z)<|G (bl yp Z) ?_
 refine G (Yi Z)<|U<|Zb ?_
 obtain⟨K3,hK3⟩: ∃ l:List (Nat×Obj),([(b7,.cells #[.slice (Qd gP) ps.length pC,J (co.clock),J (co.next),J (co.wait),.slice co.A co.txs.length co.cap,J (gr.clock),J (gr.wait),J (gr.gen),.slice gr.mA gr.ms.length gr.mC,.slice gr.oA gr.os.length gr.oC,.slice none (([]:List Sn).length) 0] lW (0,0)),(b5,.cells #[.slice none 0 0,J (0),J (0),J (0),.slice none 0 0,J (0),J (0),J (0),.slice none 0 0,.slice none 0 0,.slice none 0 0] lW (0,0)),(b2,.cells #[J (((np:Nat):Int)),J (((nr:Nat):Int)),J (((few:Nat):Int)),J (wt)] iq (0,0))]:List (Nat×Obj))=l:=⟨_,rfl⟩
 refine bV (τ:=Nat×Bk×List Aq×Nat×Array Value×List (Nat×Obj)×List (Nat×Obj)×Option Addr×Nat×List (Nat×Obj)×List cf) [10,12,13,32,33,34,35,36,37,38,39,40,41,42,43,44,45,46,47] (fun(i,_,xs,_,_,_,_,oA,oC,_,_)=>[(32,J (i:Nat)),(10,.slice oA xs.length oC)]) (fun(i,b,xs,gP,uP,Ls,Lo,oA,oC,oL,F') w'=>SG w w' (lF np nr few wt) acts A0 b29 K3 i b xs gP uP Ls Lo oA oC oL F') (fun(i,_)=>acts.length-i) (0,⟨ps,some ⟨gP,0,none⟩,pC,co,clo,chi,gr,glo,ghi,[],none,0⟩,[],gP,uP,[],[],none,0,[],_) (by subst hK3;exact⟨aV _,by rw[hba];exact .nil _,⟨rfl,row,gb.nil,rfl,ce _ hco,ce _ hgr,fun q hq=>ce _ (hps q hq),H.perm (ah _ (am _ _ _))⟩,gb.nil,by simp,aA ..⟩) (jT Z Z) ?_
 rintro⟨i,b,xs,gP1,uP1,Ls,Lo,oA,oC,oL,F'⟩ ρ1 w7 Ii
 show CW _ _ _ _ (dO (ij _ _ ρ1) [(32,J (i:Nat)),(10,.slice oA xs.length oC)]) w7
 have hile:=Ii.le
 have H:=Ii.B.H.learnOld (ee jo 0 w.heap.size A0 acts) (Ii.B.H.facts _ Ii.ac).1 (ap _)
 have hxl:xs.length=i:=by have:=Ii.run.len;rwa[bF,aI,bE hile]at this
 obtain⟨M',-,hwi⟩:=NF Ii.run (FN n1 n5 f1 f2 t1 t2) (by rw[aI];omega) q4 (fun a ha=>hg a (AL ha))
 rw[cC,aI,bE hile]at hwi
 refine W<|Zr ?_
 refine dZ (cI Z Z) Z Z Z (fun h33=> ?_) (fun h33=> ?_)
 ·
  refine U<|W<|ZT Z<|Zk<|W<|Zb<|W ?_
  obtain⟨a,ha⟩: ∃ a,acts[i]? =some a:=⟨_,ai I⟩
  refine Zr<|rE H 0 Z kT Z Z I I Z fun bq8 o8 x8 e8=> ?_
  obtain rfl:a=x8:=by have:=e8.at_;rw[ha]at this;exact aZ this
  refine G (jF (xs:=Act.c a) jd Z Z e8.cl)<|fc H gW Z fun w9 b12 H=>bI H 0 (#[J (a.kind),.string (a.name),J (a.part),J (a.n),J (a.m),.string (a.text),J (a.lost)]) oh Z Z Z Z Z N N fun w10 H=>U<|W<|Zr<|G (Yp Z)<|G (Zw jd H 0 Z Z Z)<|cE vL (SF (Ii.B.into2 [(b12,_)] H (fun f hf=>aj _ hf)) hwi I q1 q4 (hg a (ab ha))) Z Z ?_
  rintro _ w11 ⟨b2,x2,A9,c9,lo9,hi9,hA9,rfl,hc9,gP9,uP9,Ls9,Lo9,F9,B9,hF9⟩
  replace H:=B9.out (X:=[(b12,_)])
  refine fc H dn Z fun w12 b13 H=>bI H 0 (#[J (x2.code),J (x2.n),.slice A9 x2.texts.length c9]) bA Z Z Z Z Z N N fun w13 H=>U<|W<|Zr<|G (Zf Ay Z)<|G (Zd jE H 0 Z Z Z)<|cE n8 (Bf x2.texts A9 c9 _ (Hp.rdM H (hF9 _ (aA ..))) (by have:=J3 hA9 (fun h=>((hg a (ab ha)).poll h).2) (hg a (ab ha)).kind.1;omega)) Z Z ?_
  have hz41:=H.size
  rintro _ w14 ⟨A41,c41,rfl,hc41,hr41,hb41⟩;replace H:=H.learnRd hb41 hr41;clear hr41 hb41
  refine G (Zf Ay Z)<|bI H 0 (#[J (x2.code),J (x2.n),.slice A41 x2.texts.length c41]) G2 Z Z Z Z Z N N fun w15 H=>U<|Zr<|G (Ys Z)<|G (Zw bx H 0 Z Z Z)<|sK (vs:=[.agg #[J (x2.code),J (x2.n),.slice A41 x2.texts.length c41]]) H IV dn Z Z Z Z Z Z fun w16 b45 H=> ?_
  replace H:=Hp.perm H (S6 [(b45,_),(b13,_),(b12,_),(b29,_),(gP9,_)] Ls9 Lo9 oL K3)
  refine uO (Y:=Tu) J0 (K:=[(b45,_),(b13,_),(b12,_),(b29,_),(gP9,_)]) (L:=oL) (M:=Ls9++(Lo9++K3)) H Ii.own (es:=xs) (news:=[(⟨x2,A41,c41⟩:Aq)]) Z Z Z (wL.row (m:=1) (sz:=Tu.sz) (H.ent (i:=0) Z) Z) (by simp only[bv];omega) Z ?_
  intro A5 c5 w17 L5 h5 h5m ho5 H
  replace H:=Hp.perm H (S6 [(b45,_),(b13,_),(b12,_),(b29,_),(gP9,_)] Ls9 Lo9 L5 K3).symm
  refine G (Ws Z)<|U<|Zr<|G (bn Z Z I I)<|G (Yi Z)<|U ?_
  exact⟨(i+1,b2,xs++[(⟨x2,A41,c41⟩:Aq)],gP9,uP9,Ls9,Lo9,A5,c5,L5,_),⟨by omega,by rw[ed ha,bi];exact Ii.run.snoc hA9,Bw.mk B9.pA B9.row B9.sn B9.own (aj _ B9.co) (aj _ B9.gr) (fun q hq=>aj _ (B9.ps q hq)) (H.forget (ci [(b45,_),(b13,_),(b12,_)] _) (fun _ h=>h)),ho5,fun x hx=>(by rcases ar.1 hx with hx|hx;obtain⟨z1,lo,hi,z2,z3⟩:=Ii.tx x hx;exact⟨z1,lo,hi,z2,aj _ (hF9 _ (aj _ (aj _ z3)))⟩;rw[aq.1 hx];exact⟨hc41,_,_,hz41,aA ..⟩),aj _ (hF9 _ (aj _ (aA ..)))⟩,jT Z Z,Qg,by show acts.length- (i+1)<acts.length-i;omega⟩
 ·
  refine U<|W<|ZF Z<|Zx<|W ?_
  obtain rfl:i=acts.length:=by omega
  have hrun:=Ii.run
  rw[br]at hrun
  subst hK3
  obtain⟨ps2,pA2,pC2,co2,clo2,chi2,gr2,glo2,ghi2,sns2,snA2,snC2⟩:=b
  replace H:Hp w w7 ((b29,.cells #[.slice pA2 ps2.length pC2,J (co2.clock),J (co2.next),J (co2.wait),.slice co2.A co2.txs.length co2.cap,J (gr2.clock),J (gr2.wait),J (gr2.gen),.slice gr2.mA gr2.ms.length gr2.mC,.slice gr2.oA gr2.os.length gr2.oC,.slice snA2 sns2.length snC2] cB (0,0))::(b7,.cells #[.slice (Qd gP) ps.length pC,J (co.clock),J (co.next),J (co.wait),.slice co.A co.txs.length co.cap,J (gr.clock),J (gr.wait),J (gr.gen),.slice gr.mA gr.ms.length gr.mC,.slice gr.oA gr.os.length gr.oC,.slice none (([]:List Sn).length) 0] lW (0,0))::(b5,.cells #[.slice none 0 0,J (0),J (0),J (0),.slice none 0 0,J (0),J (0),J (0),.slice none 0 0,.slice none 0 0,.slice none 0 0] lW (0,0))::(b2,.cells #[J (((np:Nat):Int)),J (((nr:Nat):Int)),J (((few:Nat):Int)),J (wt)] iq (0,0))::(gP1,.cells uP1 bY (0,0))::(Ls++(Lo++oL))) (ee jo 0 w.heap.size A0 acts::F'):=H.perm (TI (b29,_) (gP1,_) Ls Lo oL [(b7,_),(b5,_),(b2,_)])
  refine bG cv [0,1,2,3,4,5] [6,7] [] [0,1,2,3,5] (sp []) N N N N Nq (cG _) ?_
  refine aw Z Z Z Z Z (fun w' hw'=>Ys Z)<|aw Z Z Z Z Z (fun w' hw'=>Yp Z)<|aw Z Z Z Z Z (fun w' hw'=>aM Z)<|aw Z Z Z Z Z (fun w' hw'=>Zf aU Z)<|aw Z Z Z Z Z (fun w' hw'=>kh oc Z ((H.later hw').ent (i:=0) Z) Z)<|aw Z Z Z Z Z (fun w' hw'=>Ws Z)<|aT ?_
  intro w18 hw' hF
  replace H:=H.later hw';clear hw' hF
  refine bI H 2 (#[.slice pA2 ps2.length pC2,J (co2.clock),J (co2.next),J (co2.wait),.slice co2.A co2.txs.length co2.cap,J (gr2.clock),J (gr2.wait),J (gr2.gen),.slice gr2.mA gr2.ms.length gr2.mC,.slice gr2.oA gr2.os.length gr2.oC,.slice snA2 sns2.length snC2]) nG Z Z Z Z Z N N fun w19 H=>G (Wi Z)<|U<|Zt ?_
  exact OS (v0:=.slice oA xs.length oC) (cs1:= #[.slice pA2 ps2.length pC2,J (co2.clock),J (co2.next),J (co2.wait),.slice co2.A co2.txs.length co2.cap,J (gr2.clock),J (gr2.wait),J (gr2.gen),.slice gr2.mA gr2.ms.length gr2.mC,.slice gr2.oA gr2.os.length gr2.oC,.slice snA2 sns2.length snC2]) (v2:=J 0) Z Z oc Z (H.ent (i:=2) Z) Z Z ⟨⟨xs,oA,oC,⟨ps2,pA2,pC2,co2,clo2,chi2,gr2,glo2,ghi2,sns2,snA2,snC2⟩⟩,rfl,hrun,Ii.rd [(b29,_),(b7,_),(b5,_),(b2,_)] H (fun f hf=>aj _ hf),H.below⟩
/-- an act that the laws make -/
structure xp (np nr:Nat) (hard:Bool) (a:Act):Prop where
 g:og np nr a
 calm:hard=false->(a.kind<=9∨16<=a.kind)/\a.kind≠1/\a.lost=0
 txt:a.text=⟨#[]⟩∨ ∃ n,a.text=wP n
 tk:a.kind=7->a.n<=3
theorem jw {np nr:Nat} {hard:Bool} {k pt n m lo:Int} {nm t:ByteArray} (h:(1<=k/\k<=20/\k≠17/\(k<=9∨k=13∨16<=k))/\(0<=pt/\pt<np)/\(0<=n/\n<=1000)/\(8<=k->k<=15->n<nr)/\(k=5->n<=1)/\(k=19->1<=n/\n<=20)/\(0<=m/\m<=1000)/\(0<=lo/\lo<=2)/\(k=7->n<=3)) (hh:hard=false->(k<=9∨16<=k)/\k≠1/\lo=0) (hn:(k=1∨k=16∨k=18∨k=19∨k=20)->bC nm=true) (ht:t=⟨#[]⟩∨ ∃ n,t=wP n):xp np nr hard ⟨k,nm,pt,n,m,t,lo⟩:=by
 obtain⟨h1,h2,h3,h4,h5,h6,h7,h8,h9⟩:=h
 refine⟨⟨h1,hn,h2,h3,h4,h5,h6,h7,?_,h8⟩,hh,ht,h9⟩
 rcases ht with ht|⟨x,ht⟩
 show t.size<=40;rw[ht];decide
 show t.size<=40;rw[ht];exact aW (Ek x) (by decide)
def jb (p:Nat):Act:=⟨13,⟨#[]⟩,p,0,0,⟨#[]⟩,0⟩
def vj (s:ByteArray):Act:=⟨1,s,0,0,0,⟨#[]⟩,0⟩
def Cy (s:ByteArray):Act:=⟨16,s,0,0,0,⟨#[]⟩,0⟩
def ip (n:Nat):List Act:=(kR n).map jb
def oB (np:Nat):List Act:=ip np++[vj (mN 0),vj (mN 1),Cy (mN 2)]
theorem Az (n:Nat):ip (n+1)=ip n++[jb n]:=by unfold ip;rw[oe,bi];rfl
theorem nZ (n:Nat):(ip n).length=n:=by simp[ip]
theorem Ny (a b:Int) (w:World) (ha:i64 a) (hb:i64 b):di aa oG [J a,J b] w fun v w2=>v=.agg #[J (1+(pk a 3:Nat):Int),J (1+(pk b 3:Nat):Int),J (1+(pk a (1+pk b 3):Nat):Int),J (5+(pk b 20:Nat):Int)]/\Below w.heap.size w w2:=by
 refine aG uD Z Z ?_
 have H:=Hp.start w
 have p1:=lE a (show 0<3 by omega)
 have p2:=lE b (show 0<3 by omega)
 have p3:=lE a (show 0<1+pk b 3 by omega)
 have p4:=lE b (show 0<20 by omega)
 refine W<|Zr<|fc H Fj Z fun w1 b4 H=>U<|W<|Zr<|G (Yi Z)<|cE bH (fz b (3) _ hb.1 hb.2 I I) Z Z ?_
 rintro _ w2 ⟨rfl,hb⟩;replace H:=H.later hb;clear hb
 refine G (bn Z Z I I)<|G (Wi Z)<|U<|W<|Zr<|G (Yi Z)<|cE bH (fz a (3) _ ha.1 ha.2 I I) Z Z ?_
 rintro _ w3 ⟨rfl,hb⟩;replace H:=H.later hb;clear hb
 refine G (bn Z Z I I)<|G (Yi Z)<|G (Yi Z)<|G (Yi Z)<|cE bH ((by have hA:=fz a (1+pk b 3) w3 ha.1 ha.2 I I;rw[show((1+pk b 3:Nat):Int)=(1:Int)+(pk b 3:Nat) by omega]at hA;exact hA)) Z Z ?_
 rintro _ w4 ⟨rfl,hb⟩;replace H:=H.later hb;clear hb
 refine G (bn Z Z I I)<|G (Yi Z)<|cE bH (fz b (20) _ hb.1 hb.2 I I) Z Z ?_
 rintro _ w5 ⟨rfl,hb⟩;replace H:=H.later hb;clear hb
 refine G (bn Z Z I I)<|G (bp (cs:= #[J (1+(((pk a (3):Nat):Int))),J (1+(((pk b (3):Nat):Int))),J (1+(((pk a (1+pk b 3):Nat):Int))),J (5+(((pk b (20):Nat):Int)))]) Ns Fj N)<|bI H 0 (#[J (1+(((pk a (3):Nat):Int))),J (1+(((pk b (3):Nat):Int))),J (1+(((pk a (1+pk b 3):Nat):Int))),J (5+(((pk b (20):Nat):Int)))]) ED Z Z Z Z Z N N fun w6 H=>U<|Zt ?_
 exact gB (cs0:= #[J (1+(pk a 3:Nat):Int),J (1+(pk b 3:Nat):Int),J (1+(pk a (1+pk b 3):Nat):Int),J (5+(pk b 20:Nat):Int)]) Z qn Z (H.ent (i:=0) Z) Z ⟨rfl,H.below⟩
def Rp (lo hi:Nat) (r:Rn):cf:=⟨lo,hi,r.rd lo hi,fun _ _ hk h=>h.st hk⟩
def TN (w:World) (W0:Wa) (acts:List Act) (v:Value) (w2:World):Prop:= ∃ (xs:List Aq) (oA:Option Addr) (oC:Nat) (b:Bk),v=.tuple #[.slice oA xs.length oC,.agg b.c.toArray,.bool true]/\li W0 acts (xs.map Aq.x) b.a/\(Rn.mk xs oA oC b).rd w.heap.size w2.heap.size w2/\Below w.heap.size w w2
theorem Gw (es:List Act) (A:Option Addr) (c:Nat) (w:World) (hr:Rd jo 0 w.heap.size A es w) (hb:es.length*72<=140737488355328):
  di aa sZ [.slice A es.length c] w fun v w2=> ∃ A' c' L',v=.slice A' es.length c'/\es.length<=c'/\c'<=maxLen/\gb jo (.slice A' es.length c') iR es L'/\Hp w w2 L' []:=by
 refine aG sj Z Z ?_
 have H:=Hp.startRd hr
 refine W<|Zr<|G (Ws Z)<|U<|W<|W<|Zr<|G (Ys Z) ?_
 refine By (pX yp Z) Z Z Z (fun h4=> ?_) (fun h4=> ?_)
 refine U<|ZT Z<|W<|Zr<|G (Ws Z)<|U<|Zt ?_
 have he:es=[]:=by
  cases es with
  |nil=>rfl
  |cons e es=>obtain⟨b,o,hA,_⟩:=hr (by simp);subst hA;cases h4
 subst he
 exact cU Z Z ⟨none,0,[],rfl,by simp,by decide,gb.nil,H.forget (by simp) (by simp)⟩
 refine U<|ZF Z<|Zk<|W<|Zr<|Rg H kT Z fun w1 b5 H=>G (Ys Z)<|uO (Y:=jo) qj (K:=[]) (L:=[(b5,_)]) (M:=[]) H (sI.lit (by decide) (by rfl)) (es:=[]) (news:=es) Z Z Z (Rd.src (H.fact (i:=0) Z)) (by simpa using hb) Z ?_
 intro A3 c3 w3 L3 h3a h3b ho3 H
 refine G (Ws Z)<|U<|Zt ?_
 exact cU Z Z ⟨A3,c3,L3,rfl,h3a,h3b,ho3,H.forget (by simp) (by simp)⟩
theorem PX {np nr few:Nat} {wt:Int} {acts:List Act} {A0:Option Addr} {c0:Nat} (w:World) (q1:1<=np) (q4:np<=4) (n1:1<=nr) (n5:nr<=5) (f1:1<=few) (f2:few<=nr) (t1:1<=wt) (t2:wt<=1000) (hr:Rd jo 0 w.heap.size A0 acts w) (hl:acts.length<=400) (hg: ∀ a∈acts,og np nr a):di aa yw [.agg #[J (np:Nat),J (nr:Nat),J (few:Nat),J wt],.slice A0 acts.length c0] w (TN w (lF np nr few wt) acts):=by
 refine aG xI Z Z ?_
 have H:=Hp.startRd hr
 show CW _ _ _ _ (args [.agg #[J (np:Nat),J (nr:Nat),J (few:Nat),J wt],.slice A0 acts.length c0]) w
 refine W<|Zr<|gU H Z Z fun w1 b2 H=>G (Ws Z)<|fc H rv Z fun w2 b5 H=>G (Wb Z)<|U<|W<|Zr<|G (Zw qn H 1 Z Z Z)<|G (Ys Z)<|cE Ed (R1 _ q1 q4 n1 n5 f1 f2 t1 t2 (H.rd0 0 Z) hl hg) Z Z ?_
 have hlo:=H.size
 rintro _ w3 ⟨⟨xs,oA,oC,⟨ps,pA,pC,co,clo,chi,gr,glo,ghi,sns,snA,snC⟩⟩,rfl,hrun,hrd,hb⟩;replace H:=H.learn hb (Rp w2.heap.size w3.heap.size ⟨xs,oA,oC,⟨ps,pA,pC,co,clo,chi,gr,glo,ghi,sns,snA,snC⟩⟩) hrd (ap _) (ap _)
 have hxl:xs.length=acts.length:=by have:=hrun.len;rwa[bF]at this
 refine G (Yu Z)<|G (Xs Z Z)<|G (Xa Z Z)<|G (Xi Z Z)<|fc H rv Z fun w4 b8 H=>G (Ws Z)<|bI H 0 (#[.slice pA ps.length pC,J (co.clock),J (co.next),J (co.wait),.slice co.A co.txs.length co.cap,J (gr.clock),J (gr.wait),J (gr.gen),.slice gr.mA gr.ms.length gr.mC,.slice gr.oA gr.os.length gr.oC,.slice snA sns.length snC]) nG Z Z Z Z Z N N fun w5 H=>G (Wi Z)<|U<|W ?_
 refine bG cv [0,1,2,3,4,5,6,7,8,9,10,11] [12,13] [] [0,2,3,4,5,6,7,8,9,10,11] (sp []) N N N N Nq (cG _) ?_
 refine aw Z Z Z Z Z (fun w' hw'=>Ys Z)<|aw Z Z Z Z Z (fun w' hw'=>kh oc Z ((H.later hw').ent (i:=0) Z) Z)<|aw Z Z Z Z Z (fun w' hw'=>Yi Z)<|aw Z Z Z Z Z (fun w' hw'=>sw Z Z Z)<|aw Z Z Z Z Z (fun w' hw'=>Yb Z)<|aw Z Z Z Z Z (fun w' hw'=>Ys Z)<|aw Z Z Z Z Z (fun w' hw'=>bl Hw Z)<|aw Z Z Z Z Z (fun w' hw'=>Ys Z)<|aw Z Z Z Z Z (fun w' hw'=>bl yp Z)<|aw Z Z Z Z Z (fun w' hw'=>sw Z Z (by dsimp only;omega))<|aw Z Z Z Z Z (fun w' hw'=>Kt Z Z)<|aw Z Z Z Z Z (fun w' hw'=>Ws Z)<|aT ?_
 intro w6 hw' hF
 replace H:=H.later hw';clear hw' hF
 refine bI H 1 (#[.slice pA ps.length pC,J (co.clock),J (co.next),J (co.wait),.slice co.A co.txs.length co.cap,J (gr.clock),J (gr.wait),J (gr.gen),.slice gr.mA gr.ms.length gr.mC,.slice gr.oA gr.os.length gr.oC,.slice snA sns.length snC]) nG Z Z Z Z Z N N fun w7 H=>G (Wb Z)<|U<|Zt ?_
 exact OS (v0:=.slice oA xs.length oC) (cs1:= #[.slice pA ps.length pC,J (co.clock),J (co.next),J (co.wait),.slice co.A co.txs.length co.cap,J (gr.clock),J (gr.wait),J (gr.gen),.slice gr.mA gr.ms.length gr.mC,.slice gr.oA gr.os.length gr.oC,.slice snA sns.length snC]) (v2:=.bool true) Z Z oc Z (H.ent (i:=1) Z) Z Z ⟨xs,oA,oC,⟨ps,pA,pC,co,clo,chi,gr,glo,ghi,sns,snA,snC⟩,rfl,hrun,Rn.rd.mono (H.fact (i:=0) Z) hlo (H.facts _ (aA ..)).2.1,H.below⟩
theorem ye {l m:List Act} {A0 A1:Option Addr} {c0 c1:Nat} (w:World) (hr:Rd jo 0 w.heap.size A0 l w) (hs:Rd jo 0 w.heap.size A1 m w) (hl:l.length<=1000) (hm:m.length<=1000):di aa xG [.slice A0 l.length c0,.slice A1 m.length c1] w fun v w2=> ∃ (A:Option Addr) (c:Nat) (L:List (Nat×Obj)),v=.slice A (l++m).length c/\gb jo (.slice A (l++m).length c) iR (l++m) L/\Hp w w2 L []:=by
 refine aG wG Z Z ?_
 have H:=(Hp.startRd hr).learnOld (ee jo 0 w.heap.size A1 m) hs (ap _)
 show CW _ _ _ _ (args [.slice A0 l.length c0,.slice A1 m.length c1]) w
 refine W<|Zr<|G (Ws Z)<|U<|W<|Zr<|G (Ys Z)<|cE sD (Gw l A0 c0 _ (H.rd0 1 Z) I) Z Z ?_
 rintro _ w1 ⟨A2,c2,L2,rfl,hc2,hm2,ho2,hj2⟩;replace H:=H.join hj2;clear hj2
 refine G (Ys Z)<|uO (Y:=jo) qj (K:=[]) (L:=L2) (M:=[]) H ho2 (es:=l) (news:=m) Z Z Z (Rd.src (H.fact (i:=0) Z)) I Z ?_
 intro A5 c5 w2 L5 h5 h5m ho5 H
 refine G (Ws Z)<|U<|Zt ?_
 exact cU (v:=.slice A5 (l++m).length c5) Z Z ⟨A5,c5,L5,rfl,ho5,H.forget (L':=L5) (by simp) (by simp)⟩
abbrev CC:FuncId:=10
theorem AY:aa.funcs[(10:Nat)]? =some Tryz.f10:=Tryz.func10
theorem Bj:bh aa 10=true:=by kernel_rfl
abbrev s0:FuncId:=21
theorem sk:aa.funcs[(21:Nat)]? =some Tryz.f21:=Tryz.func21
theorem sE:bh aa 21=true:=by kernel_rfl
abbrev pF:FuncId:=28
theorem oP:aa.funcs[(28:Nat)]? =some Tryz.f28:=Tryz.func28
theorem pd:bh aa 28=true:=by kernel_rfl
abbrev sd:FuncId:=36
theorem rj:aa.funcs[(36:Nat)]? =some Tryz.f36:=Tryz.func36
theorem rq:bh aa 36=true:=by kernel_rfl
def Ss:ByteArray:=⟨#[48,49,50,51,52,53,54,55,56,57,97,98,99,100,101,102,103,104,105,106,107,108,109,110,111,112,113,114,115,116,117,118,119,120,121,122]⟩
def RW:ByteArray:=⟨#[48,48,48,49,48,50,48,51,48,52,48,53,48,54,48,55,48,56,48,57,49,48,49,49,49,50,49,51,49,52,49,53,49,54,49,55,49,56,49,57,50,48,50,49,50,50,50,51,50,52,50,53,50,54,50,55,50,56,50,57,51,48,51,49,51,50,51,51,51,52,51,53,51,54,51,55,51,56,51,57,52,48,52,49,52,50,52,51,52,52,52,53,52,54,52,55,52,56,52,57,53,48,53,49,53,50,53,51,53,52,53,53,53,54,53,55,53,56,53,57,54,48,54,49,54,50,54,51,54,52,54,53,54,54,54,55,54,56,54,57,55,48,55,49,55,50,55,51,55,52,55,53,55,54,55,55,55,56,55,57,56,48,56,49,56,50,56,51,56,52,56,53,56,54,56,55,56,56,56,57,57,48,57,49,57,50,57,51,57,52,57,53,57,54,57,55,57,56,57,57]⟩
def vh (n:Nat):ByteArray:=if n<10 then Ss.extract n (n+1)else RW.extract (2*n) (2*n+2)
theorem LY (n:Nat):(vh n).size<=40:=by
 unfold vh
 split<;>rw[ByteArray.size_extract]<;>omega
theorem Fq:aa.underlying lP=some .string:=by kernel_rfl
theorem Nx (n:Nat) (w:World) (hn:n<100):di aa sd [J (n:Nat)] w fun v w2=>v=.string (vh n)/\Below w.heap.size w w2:=by
 refine aG rj Z Z ?_
 have H:=Hp.start w
 refine W<|Zr<|G (Wt Z)<|U<|W<|W<|Zr<|G (Yi Z) ?_
 refine dZ (cI Z Z) Z Z Z (fun h4=> ?_) (fun h4=> ?_)
 refine U<|ZT Z<|W<|Zr<|G (Yi Z)<|G (Yi Z)<|G (bn Z Z I I)<|G (Rv (s:=Ss) Fq Z Z Z I I (by show _<=(36:Int);omega)) ?_
 rw[show Ss.extract ((n:Nat):Int).toNat (((n:Nat):Int)+1).toNat=vh n by unfold vh;rw[if_pos I];rfl]
 refine G (Wt Z)<|U<|Zt ?_
 exact cU Z Z ⟨rfl,H.below⟩
 refine U<|ZF Z<|Zk<|W<|Zr<|G (Yi Z)<|G (RD Z Z I I)<|G (Yi Z)<|G (RD Z Z I I)<|G (bn Z Z I I)<|G (Rv (s:=RW) Fq Z Z Z I I (by show _<=(200:Int);omega)) ?_
 rw[show RW.extract (((n:Nat):Int)*2).toNat (((n:Nat):Int)*2+2).toNat=vh n by unfold vh;rw[if_neg I];congr 1<;>omega]
 refine G (Wt Z)<|U<|Zt ?_
 exact cU Z Z ⟨rfl,H.below⟩
theorem Ge (n:Nat) (w:World) (hn:n<100):di aa pF [J (n:Nat),J 10] w fun v w2=>v=.string (vh n)/\Below w.heap.size w w2:=by
 refine aG oP Z Z ?_
 have H:=Hp.start w
 refine W<|Zr<|G (Wt Z)<|U<|W<|W<|Zr<|G (Yi Z)<|G (sw Z Z Z)<|U<|ZT Z<|W<|W<|Zr<|G (Yi Z)<|G (Sf Z Z I)<|G (Yb Z)<|ZG<|G (Yi Z)<|ZG<|G (xB Z Z I)<|G (Kt Z Z)<|U<|ZT Z<|W<|Zr<|G (Yi Z)<|cE rq (Nx n _ hn) Z Z ?_
 rintro _ w1 ⟨rfl,hb⟩;replace H:=H.later hb;clear hb
 refine G (Wt Z)<|U<|Zt ?_
 exact cU Z Z ⟨rfl,H.below⟩
theorem OF (n:Nat) (w:World) (hn:n<100):di aa s0 [J (n:Nat)] w fun v w2=>v=.string (vh n)/\Below w.heap.size w w2:=by
 refine aG sk Z Z ?_
 have H:=Hp.start w
 refine W<|Zr<|G (Wt Z)<|U<|W<|Zr<|G (Yi Z)<|cE pd (Ge n _ hn) Z Z ?_
 rintro _ w1 ⟨rfl,hb⟩;replace H:=H.later hb;clear hb
 refine G (Wt Z)<|U<|Zt ?_
 exact cU Z Z ⟨rfl,H.below⟩
theorem QU (n:Nat) (w:World) (hn:n<100):di aa CC [J (n:Nat)] w fun v w2=>v=.string (vh n)/\Below w.heap.size w w2:=by
 refine aG AY Z Z ?_
 have H:=Hp.start w
 refine W<|Zr<|G (Wt Z)<|U<|W<|Zr<|G (Yi Z)<|cE sE (OF n _ hn) Z Z ?_
 rintro _ w1 ⟨rfl,hb⟩;replace H:=H.later hb;clear hb
 refine G (Wt Z)<|U<|Zt ?_
 exact cU Z Z ⟨rfl,H.below⟩
theorem I7 (a:Int) (n:Nat) (w:World) (h1: -9223372036854775808<=a) (h2:a<=9223372036854775807) (hn:0<n) (hn2:n<=1000):di aa uz [J a,J (n:Nat)] w fun v w2=>v=J (pk a n:Nat)/\Below w.heap.size w w2:=by
 refine aG tQ Z Z ?_
 have H:=Hp.start w
 refine W<|Zr<|G (Wi Z)<|U<|W<|Zr<|G (Yi Z)<|G (Yi Z)<|cE bH (fz a n _ h1 h2 hn I) Z Z ?_
 rintro _ w1 ⟨rfl,hb⟩;replace H:=H.later hb;clear hb
 refine G (Wi Z)<|U<|Zt ?_
 exact cU Z Z ⟨rfl,H.below⟩
section
/-! where nothing crashes -/
structure Cm (p:gi):Prop where
 ld:p.leader= -1∨p.leader=0
 isr: ∀ b∈p.isr,b=true
 up: ∀ x∈p.reps,x.up=true
def Pd (Nn:Int) (p:gi):Prop:= ∀ x∈p.reps,∀ e∈x.es,e.pid<Nn
theorem Pd.mono {Nn M:Int} {p:gi} (h:Pd Nn p) (hm:Nn<=M):Pd M p:=fun x hx e he=>by have:=h x hx e he;omega
theorem KL {p:gi} {x:RA} (h:x∈(nB p).reps): ∃ y∈p.reps,x.es=y.es/\x.s=y.s/\x.up=y.up:=by
 obtain⟨i,hi⟩:=aN.1 h
 obtain⟨y,hy,h1⟩:=wx hi
 exact⟨y,ab hy,h1⟩
theorem Cm.adv {p:gi} (h:Cm p):Cm (nB p):=by
 obtain⟨-,-,-,h4,h5,-⟩:=ue (p:=p)
 exact⟨by rw[h4];exact h.ld,by rw[h5];exact h.isr,fun x hx=>by
  obtain⟨y,hy,-,-,hu⟩:=KL hx
  rw[hu];exact h.up y hy⟩
theorem Pd.adv {Nn:Int} {p:gi} (h:Pd Nn p):Pd Nn (nB p):=fun x hx e he=>by
 obtain⟨y,hy,hes,-,-⟩:=KL hx
 rw[hes]at he
 exact h y hy e he
theorem Cm.set {p:gi} (h:Cm p) {r:Nat} {x:RA} (hx:x.up=true):Cm {p with reps:=p.reps.set r x}:=⟨h.ld,h.isr,fun y hy=>by
 rcases aD hy with hy|rfl
 exact h.up y hy
 exact hx⟩
theorem Pd.set {Nn:Int} {p:gi} (h:Pd Nn p) {r:Nat} {x:RA} (hx: ∀ e∈x.es,e.pid<Nn):Pd Nn {p with reps:=p.reps.set r x}:=fun y hy e he=>by
 rcases aD hy with hy|rfl
 exact h y hy e he
 exact hx e he
theorem R4 {Nn:Int} {p:gi} {e:cd} (h:Cm p) (hd:Pd Nn p) (he:e.pid<Nn) (h0:(eF p e).2.2=0):Cm (eF p e).1/\Pd Nn (eF p e).1/\(eF p e).1.leader=p.leader:=by
 obtain⟨x,l,hl,hx,-,-,hS⟩:=Bs h0
 have hm:=ab hx
 rcases hS with⟨-,hS,-⟩|⟨-,-,hS,-⟩
 rw[hS];exact⟨h,hd,rfl⟩
 rw[hS]
 exact⟨h.set (h.up x hm),hd.set fun y hy=>by
  rcases ar.1 hy with hy|hy
  exact hd x hm y hy
  rw[aq.1 hy];exact he,rfl⟩
theorem Qh {Nn:Int} {p:gi} {a:Act} (hok:p.ok) (h:Cm p) (hd:Pd Nn p) (hk:a.kind=8∨a.kind=9) (h0:(jp p a).2.2=0):Cm (jp p a).1/\Pd Nn (jp p a).1/\(jp p a).1.leader=p.leader:=by
 unfold jp at h0⊢
 rcases hk with hk|hk
 rw[if_pos hk]at h0⊢
 obtain⟨x,y,l,hx,hl,hne,hu,hy⟩:=wq hok h0
 rw[nX hx hl hne hu hy]
 have hmx:=ab hx
 have hmy:=ab hy
 refine⟨⟨h.ld,h.isr,fun z hz=> ?_⟩,fun z hz e he=> ?_,rfl⟩
 rcases aD hz with hz|rfl
 rcases aD hz with hz|rfl
 exact h.up z hz
 exact h.up y hmy
 unfold io;split<;>exact hu
 rcases aD hz with hz|rfl
 rcases aD hz with hz|rfl
 exact hd z hz e he
 exact hd y hmy e he
 unfold io at he
 split at he
 rename_i z hz
 rcases ar.1 he with he|he
 exact hd x hmx e (qX _ _ he)
 rw[aq.1 he];exact hd y hmy z (ab hz)
 exact hd x hmx e (qX _ _ he)
 rw[if_neg I,if_pos hk]at h0⊢
 obtain⟨x,hx,hu,hS⟩:=yg h0
 dsimp only at hS⊢
 rw[hS]
 have hmx:=ab hx
 have c1:Cm {p with reps:=p.reps.set a.n.toNat {x with s:=x.es.length}}:=h.set hu
 have c2:Pd Nn {p with reps:=p.reps.set a.n.toNat {x with s:=x.es.length}}:=hd.set (hd x hmx)
 split
 refine⟨Cm.adv ⟨c1.ld,c1.isr,c1.up⟩,Pd.adv c2,?_⟩
 rw[ue.2.2.2.1]
 exact⟨c1,c2,rfl⟩
theorem Oh (c:Co) (i:Nat) (t:Tx):(gF c i t).next=c.next:=rfl
theorem Mc {k:Nat} {c:Co} {s:ByteArray} (h:pn k c) (h0:(bB c s).2.2.2=0):c.next<=(bB c s).1.next/\(bB c s).2.1<(bB c s).1.next/\0<(bB c s).2.1:=by
 have hn:1<=c.next:=(dS.1 h.ok).1.2.1
 unfold bB at h0⊢
 split
 rename_i hf
 rw[hf]at h0
 dsimp only at h0
 split at h0
 cases h0
 rename_i hl
 rw[if_neg hl]
 unfold kN
 dsimp only
 omega
 rename_i i t hf
 rw[hf]at h0
 dsimp only at h0
 split at h0
 cases h0
 rename_i hl
 rw[if_neg hl]
 have:=dp.1 (h.at_ (dR hf).2.1)
 dsimp only
 rw[Oh]
 omega
theorem PF {c:Co} {s:ByteArray} {ver p:Int} (h0:(lw c s ver p).2=0):(lw c s ver p).1.next=c.next:=by
 unfold lw at h0⊢
 split
 rename_i hf;rw[hf]at h0;cases h0
 rename_i i t hf
 rw[hf]at h0
 dsimp only at h0
 split at h0
 cases h0
 rename_i c1
 rw[if_neg c1]
 split at h0
 rename_i c2;rw[if_pos c2];rfl
 cases h0
theorem HZ {c:Co} {s:ByteArray} {ver:Int} {b:Bool} (h0:(jl c s ver b).2=0):(jl c s ver b).1.next=c.next:=by
 unfold jl at h0⊢
 split
 rename_i hf;rw[hf]at h0;cases h0
 rename_i i t hf
 rw[hf]at h0
 dsimp only at h0
 split at h0
 cases h0
 rename_i c1
 rw[if_neg c1]
 split at h0
 cases h0
 rfl
theorem Mx {c:Co} {s:ByteArray} {p:Int} (h0:(nb c s p).2=0):(nb c s p).1.next=c.next:=by
 unfold nb at h0⊢
 split
 rename_i hf;rw[hf]at h0;cases h0
 rename_i i t hf
 rw[hf]at h0
 dsimp only at h0
 split at h0
 rename_i c1
 rw[if_pos c1]
 split at h0
 rename_i c2;rw[if_pos c2];rfl
 cases h0
 cases h0
theorem KZ {c:Co} {n:Int} (h0:(gX c n).2=0):(gX c n).1.next=c.next:=by
 unfold gX at h0⊢
 split at h0
 cases h0
 rename_i c1;rw[if_neg c1];rfl
structure IH (Nn:Int) (s:Sn):Prop where
 pid:0<=s.pid/\s.pid<Nn
 last: ∀ e∈s.last,e.pid<Nn
theorem IH.mono {Nn M:Int} {s:Sn} (h:IH Nn s) (hm:Nn<=M):IH M s:=⟨by have:=h.pid;omega,fun e he=>by have:=h.last e he;omega⟩
structure Bo (P:ByteArray->Prop) (wt:Int) (w:Wa):Prop where
 ps: ∀ p∈w.ps,Cm p/\Pd w.co.next p
 sns: ∀ s∈w.sns,IH w.co.next s
 co:yb P wt w.co
def Ld (w w':Wa):Prop:= ∀ (n:Nat) (p:gi),w.ps[n]? =some p->p.leader=0-> ∃ p',w'.ps[n]? =some p'/\p'.leader=0
theorem Ld.refl (w:Wa):Ld w w:=fun _ p h1 h2=>⟨p,h1,h2⟩
theorem Ld.trans {a b c:Wa} (h:Ld a b) (h':Ld b c):Ld a c:=fun n p h1 h2=>by
 obtain⟨p',h3,h4⟩:=h n p h1 h2
 exact h' n p' h3 h4
theorem Ld.ps {w w':Wa} (h:w'.ps=w.ps):Ld w w':=fun n p h1 h2=>⟨p,by rw[h];exact h1,h2⟩
theorem Bo.co' {P:ByteArray->Prop} {wt:Int} {w:Wa} (h:Bo P wt w) {c:Co} (hn:w.co.next<=c.next) (hc:yb P wt c):Bo P wt {w with co:=c}:=⟨fun p hp=>⟨(h.ps p hp).1,(h.ps p hp).2.mono hn⟩,fun s hs=>(h.sns s hs).mono hn,hc⟩
theorem Bo.sns' {P:ByteArray->Prop} {wt:Int} {w:Wa} (h:Bo P wt w) {l:List Sn} (hl: ∀ s∈l,IH w.co.next s):Bo P wt {w with sns:=l}:=⟨h.ps,hl,h.co⟩
theorem Bo.part {P:ByteArray->Prop} {wt:Int} {w:Wa} (h:Bo P wt w) {n:Nat} {p:gi} (hc:Cm p/\Pd w.co.next p):Bo P wt {w with ps:=w.ps.set n p}:=⟨fun q hq=>by
 rcases aD hq with hq|rfl
 exact h.ps q hq
 exact hc,h.sns,h.co⟩
theorem Jo {w:Wa} {n:Nat} {p p':gi} (hp:w.ps[n]? =some p) (hl:p.leader=0->p'.leader=0):Ld w {w with ps:=w.ps.set n p'}:=fun i q h1 h2=>by
 by_cases hi:n=i
 subst hi
 rw[hp]at h1;cases h1
 exact⟨p',ak (bZ hp).1,hl h2⟩
 exact⟨q,by show(w.ps.set n p')[i]? =_;rw[aO hi];exact h1,h2⟩
theorem Kk {P:ByteArray->Prop} {wt:Int} {w:Wa} (h:Bo P wt w) {n:Nat} {x:cd} (hx:x.pid<w.co.next):Bo P wt (ib w n x).1/\Ld w (ib w n x).1/\(ib w n x).1.co=w.co:=by
 unfold ib
 split
 exact⟨h,Ld.refl w,rfl⟩
 rename_i p hp
 split
 rename_i h0
 obtain⟨h1,h2⟩:=h.ps p (ab hp)
 obtain⟨g1,g2,g3⟩:=R4 h1 h2 hx h0
 exact⟨h.part ⟨g1,g2⟩,Jo hp (fun hl=>g3.trans hl),rfl⟩
 exact⟨h,Ld.refl w,rfl⟩
theorem JM {P:ByteArray->Prop} {wt:Int} {w:Wa} (h:Bo P wt w) {s:Sn} (hs:IH w.co.next s) {n:Nat}:Bo P wt (dw w s n).1/\Ld w (dw w s n).1:=by
 unfold dw
 split
 exact⟨h,Ld.refl w⟩
 rename_i x hx
 have hxp:=hs.last x (ab hx)
 split
 rename_i h0
 have hn:(lv w s n x).1.next=w.co.next/\yb P wt (lv w s n x).1:=by
  unfold lv at h0⊢
  split
  rename_i ht
  rw[if_pos ht]at h0
  exact⟨PF h0,h.co.add h0⟩
  exact⟨rfl,h.co⟩
 have h1:=h.co' (c:=(lv w s n x).1) I hn.2
 obtain⟨g1,g2,-⟩:=Kk h1 (n:=n) (x:=x) (by show x.pid<(lv w s n x).1.next;omega)
 exact⟨g1,(Ld.ps Z).trans g2⟩
 exact⟨h,Ld.refl w⟩
theorem Oi {Nn:Int} {s:Sn} (h:IH Nn s) (n:Nat) (t:ByteArray):IH Nn (dk s n t):=⟨h.pid,fun e he=>by
 rcases aD he with he|rfl
 exact h.last e he
 exact h.pid.2⟩
theorem Ke {Nn:Int} {l:List Sn} {i:Nat} {s:Sn} (h: ∀ x∈l,IH Nn x) (hs:IH Nn s): ∀ x∈l.set i s,IH Nn x:=fun x hx=>by
 rcases aD hx with hx|rfl
 exact h x hx
 exact hs
theorem Ql {Nn:Int} {l:List Sn} {s:Sn} (h: ∀ x∈l,IH Nn x) (hs:IH Nn s): ∀ x∈qv l s,IH Nn x:=by
 unfold qv
 split
 intro x hx
 rcases ar.1 hx with hx|hx
 exact h x hx
 rw[aq.1 hx];exact hs
 exact Ke h hs
theorem Ki {n:Nat} {e:cd} (h:e∈ao n jJ):e=jJ:=cT h
variable {np nr k:Nat} {few wt wt':Int} {K:Nat->List cd} {P:ByteArray->Prop} {w:Wa} {a:Act}
theorem J2 (hw:WI np nr few wt k K w) (h:Bo P wt' w) (g:og np nr a) (hk:a.kind<=9∨16<=a.kind) (hP:a.kind=1->P a.name) {w':Wa} {x:An} (hA:lS w a w' x):Bo P wt' w'/\Ld w w':=by
 cases hA with
 |poll x h19 hp=>exact⟨h,Ld.refl w⟩
 |other h19=>
  unfold jz
  split
  rename_i c
  unfold mp
  split
  rename_i h0
  obtain⟨n1,n2,n3⟩:=Mc hw.co h0
  have h1:=h.co' n1 (h.co.init (hP c) h0)
  refine⟨h1.sns' (Ql h1.sns ⟨⟨?_,n2⟩,fun e he=> ?_⟩),Ld.ps Z⟩
  show 0<=(bB w.co a.name).2.1;omega
  rw[Ki he]
  show(0:Int)<(bB w.co a.name).1.next
  omega
  exact⟨h,Ld.refl w⟩
  split
  unfold jn
  split
  exact⟨h,Ld.refl w⟩
  rename_i i s hf
  split
  exact⟨h,Ld.refl w⟩
  have hs:=h.sns s (ab (qf hf).1)
  exact⟨h.sns' (Ke h.sns (s:={s with inn:=true}) ⟨hs.pid,hs.last⟩),Ld.ps Z⟩
  split
  unfold gw
  split
  exact⟨h,Ld.refl w⟩
  rename_i i s hf
  split
  exact⟨h,Ld.refl w⟩
  have hs:=h.sns s (ab (qf hf).1)
  have hs1:IH w.co.next (if(decide (a.kind=4))=true then s else dk s a.part.toNat a.text):=by
   split
   exact hs
   exact Oi hs _ _
  generalize (if(decide (a.kind=4))=true then s else dk s a.part.toNat a.text)=s1 at hs1
  have h1:=h.sns' (Ke (i:=i) h.sns hs1)
  dsimp only
  split
  exact⟨h1,Ld.ps Z⟩
  obtain⟨g1,g2⟩:=JM h1 hs1 (n:=a.part.toNat)
  exact⟨g1,(Ld.ps Z).trans g2⟩
  split
  unfold fO
  split
  exact⟨h,Ld.refl w⟩
  rename_i i s hf
  split
  exact⟨h,Ld.refl w⟩
  split
  exact⟨h,Ld.refl w⟩
  split
  rename_i h0
  have hs:=h.sns s (ab (qf hf).1)
  have h1:=h.co' (by rw[HZ h0];exact fj _) (h.co.end_ h0)
  have hN:(1:Int)<=w.co.next:=(dS.1 hw.co.ok).1.2.1
  refine⟨h1.sns' ?_,Ld.ps Z⟩
  split
  refine Ke h1.sns ?_
  show IH (jl w.co s.name s.ver (decide (a.n=1))).1.next (pH s)
  rw[HZ h0]
  refine⟨hs.pid,fun e he=> ?_⟩
  unfold pH at he
  obtain⟨y,hy,rfl⟩:=bK.1 he
  split
  show(0:Int)<w.co.next;omega
  exact hs.last y hy
  exact h1.sns
  exact⟨h,Ld.refl w⟩
  split
  unfold kg
  split
  exact⟨h,Ld.refl w⟩
  rename_i t ht
  obtain⟨⟨i,hf⟩,h34,hp,h0,h4⟩:=sR hw.co.ok ht
  have htp:=(dp.1 (hw.co.at_ (dR hf).2.1)).2.2.1
  obtain⟨g1,g2,g3⟩:=Kk h (n:=(t.parts.headD 0).toNat) (x:=bP t) htp
  split
  have hz:=C4 hf h34 hp
  exact⟨g1.co' (by rw[Mx hz,g3];exact fj _) (h.co.done hz),g2.trans (Ld.ps Z)⟩
  exact⟨g1,g2⟩
  split
  unfold uU
  have hz:(gX w.co a.n).2=0:=by unfold gX;rw[if_neg (by have:=g.n;omega)]
  have h1:=h.co' (by rw[KZ hz];exact fj _) (h.co.tick hz)
  exact⟨⟨h1.ps,h1.sns,h1.co⟩,Ld.ps Z⟩
  split
  rename_i c1 c2 c3 c4 c5 c6 c7
  unfold oz
  split
  exact⟨h,Ld.refl w⟩
  rename_i p hp
  split
  rename_i h0
  obtain⟨h1,h2⟩:=h.ps p (ab hp)
  have:=g.kind
  obtain⟨g1,g2,g3⟩:=Qh (hw.ps.gt _ p hp).1.ok h1 h2 I h0
  exact⟨h.part ⟨g1,g2⟩,Jo hp (fun hl=>g3.trans hl)⟩
  exact⟨h,Ld.refl w⟩
  unfold AS
  split
  exact⟨⟨h.ps,h.sns,h.co⟩,Ld.ps Z⟩
  exact⟨h,Ld.refl w⟩
end
section
theorem Rs: ∀ (bs:List Bool) (ys:List RA) (n:Int),n<=IG bs ys n
 |[],_,n=>by unfold IG;exact fj _
 |_::_,[],n=>by unfold IG;exact fj _
 |b::bs,y::ys,n=>by
  unfold IG
  have:=Rs bs ys (if(b&&y.up)=true then n+1 else n)
  split at this<;>split<;>first|omega|contradiction
theorem RR {p:gi} (hok:p.ok) (h:Cm p):1<=IG p.isr p.reps 0:=by
 have h1:=hok.n1
 have h2:=hok.isrl
 cases hi:p.isr with
 |nil=>rw[hi]at h2;simp at h2;omega
 |cons b bs=>
  cases hr:p.reps with
  |nil=>rw[hr]at h1;simp at h1
  |cons y ys=>
   have hb:=h.isr b (by rw[hi];exact aA ..)
   have hy:=h.up y (by rw[hr];exact aA ..)
   unfold IG
   rw[hb,hy]
   exact Rs bs ys 1
theorem FF {p:gi} {x:RA} {e:cd} (hok:p.ok) (hc:Cm p) (hl:p.leader=0) (hf:p.few=1) (hx:p.reps[0]? =some x) (hg:lj {e with epoch:=p.epoch}) (hv:(eI x.es {e with epoch:=p.epoch}).2=0):eF p e=if 0<=(eI x.es {e with epoch:=p.epoch}).1 then(p,(eI x.es {e with epoch:=p.epoch}).1,0)else({p with reps:=p.reps.set 0 {x with es:=x.es++[{e with epoch:=p.epoch}]}},(x.es.length:Nat),0):=by
 unfold eF
 rw[if_neg I,show p.leader.toNat=0 by omega,hx]
 dsimp only
 rw[if_neg (fun h=>h hg),if_neg (fun h=>h hv)]
 have:=RR hok hc
 rw[if_neg (show¬ IG p.isr p.reps 0<p.few by omega)]
theorem EC {l:List Sn} {s:ByteArray} {i:Nat} {x:Sn} (h:dT l s=some i) (hn:x.name=s):dT (l.set i x) s=some i:=by
 obtain⟨hl,h1,h2⟩:=aF.1 h
 unfold dT
 rw[aF]
 refine⟨by simpa using hl,by simp[hn],fun j hj=> ?_⟩
 rw[BI I]
 exact h2 j hj
theorem NT (l:List Sn) (s:Sn): ∃ i,dT (qv l s) s.name=some i/\(qv l s)[i]? =some s:=by
 unfold qv
 split
 rename_i hf
 refine⟨l.length,?_,by simp⟩
 unfold dT at hf⊢
 rw[AM,hf]
 simp[List.findIdx?_cons]
 rename_i i hf
 obtain⟨hl,h1,h2⟩:=aF.1 hf
 exact⟨i,EC hf Z,ak hl⟩
theorem CL {es:List cd} {e:cd} (h0:e.pid≠0) (hf:fv es e.pid=none) (hk:e.kind=1) (hs:e.seq=0):eI es e=(-1,0):=by
 unfold eI lB
 rw[if_neg h0,hf]
 simp[hk,hs]
theorem EJ {es:List cd} {e:cd} {p:Prod} (h0:e.pid≠0) (hf:fv es e.pid=some p) (hk:e.kind=1) (hv:p.ver=e.ver) (hs:e.seq=p.seq+1):eI es e=(-1,0):=by
 unfold eI lB
 rw[if_neg h0,hf]
 simp[hk,hs,hv]
theorem Ha {es:List cd} {e:cd} (h0:e.pid≠0) (hk:e.kind=1): ∃ p,fv (es++[e]) e.pid=some p/\p.ver=e.ver/\p.seq=e.seq:=by
 refine⟨_,by rw[qw,if_pos ⟨h0,rfl⟩],?_⟩
 unfold fl
 rw[if_neg (fun h=>h hk)]
 have:(pv e ((fv es e.pid).getD p0)).ver=e.ver:=by
  unfold pv
  split
  rfl
  rename_i h;exact(Classical.not_not.1 h).symm
 split<;>exact⟨this,rfl⟩
theorem LR {es:List cd} {e:cd} (h:uL (es++[e])) (h0:e.pid≠0) (hk:e.kind=1):eI (es++[e]) e=(((es.length:Nat):Int),0):=by
 refine IL h (by simp) h0 ?_ hk
 unfold later
 rw[show(es++[e]).drop es.length=[e] by simp]
 simp
theorem Sb {es:List cd} {Nn:Int} (h: ∀ e∈es,e.pid<Nn):fv es Nn=none:=by
 cases hp:fv es Nn with
 |none=>rfl
 |some p=>
  obtain⟨e,he,hpe,-⟩:=((iB es Nn).1 p hp).ver
  have:=h e he
  omega
structure At (s:ByteArray) (w:Wa) (i:Nat) (x:Sn):Prop where
 ix:dT w.sns s=some i
 sn:w.sns[i]? =some x
 nm:x.name=s
theorem At.find {s:ByteArray} {w:Wa} {i:Nat} {x:Sn} (h:At s w i x):((dT w.sns s).bind fun i=>w.sns[i]?.map fun s=>(i,s))=some (i,x):=by
 rw[h.ix,cQ,h.sn];rfl
theorem At.set {s:ByteArray} {w:Wa} {i:Nat} {x y:Sn} (h:At s w i x) (hn:y.name=s):At s {w with sns:=w.sns.set i y} i y:=⟨EC h.ix hn,ak (bZ h.sn).1,hn⟩
theorem At.of {s:ByteArray} {w w':Wa} {i:Nat} {x:Sn} (h:At s w i x) (hs:w'.sns=w.sns):At s w' i x:=⟨by rw[hs];exact h.ix,by rw[hs];exact h.sn,h.nm⟩
structure P0 (w:Wa) (p:gi) (x:RA):Prop where
 pt:w.ps[0]? =some p
 ld:p.leader=0
 rp:p.reps[0]? =some x
variable {np nr k:Nat} {wt:Int} {K:Nat->List cd} {P:ByteArray->Prop} {w:Wa} {p:gi} {x:RA} {e:cd}
theorem Qj (hw:WI np nr 1 wt k K w) (hc:Bo P wt w) (h:P0 w p x) (hg:lj {e with epoch:=p.epoch}) (hv:eI x.es {e with epoch:=p.epoch}=(-1,0)):ib w 0 e=({w with ps:=w.ps.set 0 {p with reps:=p.reps.set 0 {x with es:=x.es++[{e with epoch:=p.epoch}]}}},⟨0,(x.es.length:Nat),[]⟩):=by
 have hgt:=hw.ps.gt 0 p h.pt
 have hp:=FF (e:=e) hgt.1.ok (hc.ps p (ab h.pt)).1 h.ld hgt.1.few h.rp hg (by rw[hv])
 rw[hv,if_neg (by decide)]at hp
 unfold ib
 rw[h.pt]
 dsimp only
 rw[hp,if_pos Z]
theorem Qk (hw:WI np nr 1 wt k K w) (hc:Bo P wt w) (h:P0 w p x) (hg:lj {e with epoch:=p.epoch}) {j:Nat} (hv:eI x.es {e with epoch:=p.epoch}=(((j:Nat):Int),0)):ib w 0 e=(w,⟨0,(j:Nat),[]⟩):=by
 have hgt:=hw.ps.gt 0 p h.pt
 have hp:=FF (e:=e) hgt.1.ok (hc.ps p (ab h.pt)).1 h.ld hgt.1.few h.rp hg (by rw[hv])
 rw[hv,if_pos (by simp)]at hp
 unfold ib
 rw[h.pt]
 dsimp only
 rw[hp,if_pos Z]
 have:w.ps.set 0 p=w.ps:=by
  apply dg
  intro i
  by_cases hi:0=i
  subst hi
  rw[ak (bZ h.pt).1];exact h.pt.symm
  rw[aO hi]
 rw[this]
theorem P0.put (h:P0 w p x) (y:RA):P0 {w with ps:=w.ps.set 0 {p with reps:=p.reps.set 0 y}} {p with reps:=p.reps.set 0 y} y:=⟨ak (bZ h.pt).1,h.ld,ak (bZ h.rp).1⟩
theorem D4 {s:Sn} (hl:s.last[0]? =some e) (ht:e.txn=false):dw w s 0=ib w 0 e:=by
 unfold dw
 rw[hl]
 dsimp only
 have:lv w s 0 e=(w.co,0):=by unfold lv;rw[if_neg (by rw[ht];decide)]
 rw[this,if_pos Z]
theorem BY {a:Act} {i:Nat} {s:Sn} (h:At a.name w i s) (h0:a.part=0) (hl:a.lost≠1) {again:Bool} (hag:again=true->(s.last.getD 0 jJ).kind≠0) (he:(if again then s else dk s 0 a.text).last[0]? =some e) (ht:e.txn=false):
  gw w a again=((ib {w with sns:=w.sns.set i (if again then s else dk s 0 a.text)} 0 e).1,fR a (ib {w with sns:=w.sns.set i (if again then s else dk s 0 a.text)} 0 e).2):=by
 unfold gw
 rw[h.find]
 dsimp only
 rw[h0,show(0:Int).toNat=0 from rfl,if_neg (fun hh=>hag hh.1 hh.2),if_neg hl]
 generalize (if again=true then s else dk s 0 a.text)=s1 at he⊢
 rw[D4 he ht]
end
theorem MQ {np nr:Nat} {hard:Bool} {body:List Act} (h1:1<=np) (hr:1<=nr) (hb: ∀ a∈body,xp np nr hard a): ∀ a∈oB np++body,og np nr a:=fun a ha=>by
 rcases ar.1 ha with ha|ha
 unfold oB at ha
 rcases ar.1 ha with ha|ha
 obtain⟨p,hp,rfl⟩:=bK.1 ha
 have:=AK.1 hp
 refine(jw (hard:=true) (k:=13) (pt:=p) (n:=0) (m:=0) (lo:=0) I (by simp) I (.inl Z)).g
 simp only[ay,bu,or_false]at ha
 rcases ha with rfl|rfl|rfl<;>exact(jw (hard:=true) (pt:=0) (n:=0) (m:=0) (lo:=0) I (by simp) (fun _=>u7 _) (.inl Z)).g
 exact(hb a ha).g
theorem Hp.rnPs {w0 w:World} {L:List (Nat×Obj)} {F:List cf} {lo hi:Nat} {r:Rn} (H:Hp w0 w L F) (i:Nat) (hF:F[i]? =some (Rp lo hi r)):Hp w0 w L (ee Dv lo hi r.b.pA r.b.ps::F):=by
 refine⟨H.below,H.ents,H.nodup,fun f hf=> ?_⟩
 rcases ay.1 hf with rfl|hf
 obtain⟨h1,h2,h3⟩:=H.facts _ (ab hF)
 exact⟨h1.ps,h2,h3⟩
 exact H.facts f hf
theorem Hp.rn0 {w0 w:World} {L:List (Nat×Obj)} {F:List cf} {lo hi:Nat} {r:Rn} (H:Hp w0 w L F) (i:Nat) (hF:F[i]? =some (Rp lo hi r)):r.rd 0 w.heap.size w:=
 Rn.rd.mono (H.fact hF) (aV _) (H.facts _ (ab hF)).2.1
section
/-! what is sent again stands where it stood -/
def gQ (t:ByteArray) (k d:Int):Act:=⟨k,yO,0,0,0,t,d⟩
def tX:ByteArray:=⟨#[120]⟩
def tY:ByteArray:=⟨#[121]⟩
def t0:ByteArray:=⟨#[]⟩
variable {np nr k:Nat} {few wt wt':Int} {K:Nat->List cd} {P:ByteArray->Prop} {w:Wa} {p:gi} {x:RA} {e:cd}
theorem G9 (w:Wa) (l:List Sn) (n:Nat) (e:cd):ib {w with sns:=l} n e=({(ib w n e).1 with sns:=l},(ib w n e).2):=by
 unfold ib lY
 dsimp only
 split
 rfl
 split<;>rfl
theorem EA {s:Sn} {nm:ByteArray} (h:s.name=nm) (b:Bool) (n:Nat) (t:ByteArray):(if b then s else dk s n t).name=nm:=by cases b<;>exact h
theorem G0 {a:Act} {i:Nat} {s:Sn} {again:Bool} (hw:WI np nr 1 wt k K w) (hc:Bo P wt w) (h:P0 w p x) (hs:At a.name w i s) (h0:a.part=0) (hl:a.lost≠1) (hag:again=true->(s.last.getD 0 jJ).kind≠0) (he:(if again then s else dk s 0 a.text).last[0]? =some e) (ht:e.txn=false) (hg:lj {e with epoch:=p.epoch}) (hv:eI x.es {e with epoch:=p.epoch}=(-1,0)):
  ∃ w',gw w a again=(w',fR a ⟨0,(x.es.length:Nat),[]⟩)/\P0 w' {p with reps:=p.reps.set 0 {x with es:=x.es++[{e with epoch:=p.epoch}]}} {x with es:=x.es++[{e with epoch:=p.epoch}]}/\At a.name w' i (if again then s else dk s 0 a.text):=by
 have hs2:=hs.set (y:=if again then s else dk s 0 a.text) (EA hs.nm again 0 a.text)
 have hp2:=h.put {x with es:=x.es++[{e with epoch:=p.epoch}]}
 rw[BY hs h0 hl hag he ht,G9,Qj hw hc h hg hv]
 exact⟨_,rfl,⟨hp2.pt,hp2.ld,hp2.rp⟩,⟨hs2.ix,hs2.sn,hs2.nm⟩⟩
theorem No {a:Act} {i j:Nat} {s:Sn} {again:Bool} (hw:WI np nr 1 wt k K w) (hc:Bo P wt w) (h:P0 w p x) (hs:At a.name w i s) (h0:a.part=0) (hl:a.lost≠1) (hag:again=true->(s.last.getD 0 jJ).kind≠0) (he:(if again then s else dk s 0 a.text).last[0]? =some e) (ht:e.txn=false) (hg:lj {e with epoch:=p.epoch}) (hv:eI x.es {e with epoch:=p.epoch}=(((j:Nat):Int),0)):
  ∃ w',gw w a again=(w',fR a ⟨0,(j:Nat),[]⟩)/\P0 w' p x/\At a.name w' i (if again then s else dk s 0 a.text):=by
 have hs2:=hs.set (y:=if again then s else dk s 0 a.text) (EA hs.nm again 0 a.text)
 rw[BY hs h0 hl hag he ht,G9,Qk hw hc h hg hv]
 exact⟨_,rfl,⟨h.pt,h.ld,h.rp⟩,⟨hs2.ix,hs2.sn,hs2.nm⟩⟩
theorem ON {ep pid ver seq:Int} {t:ByteArray} (h1:0<=ep/\ep<=1073741824) (h2:0<pid/\pid<=1073741824) (h3:0<=ver/\ver<=1073741824) (h4:0<=seq/\seq<=1073741824) (ht:t.size<=40):lj ⟨ep,pid,ver,seq,1,false,t⟩:=by
 unfold lj eA
 rw[if_neg (by show¬ ((1:Int)<1∨3<(1:Int));decide),if_neg,if_neg (by simpa using ht),if_neg]
 unfold cd.noForm
 simp
 omega
 simp[cd.nums,iu]
 omega
theorem Pb (hw:WI np nr few wt k K w) (h:Bo P wt' w) {n:Nat} {w':Wa} {x:An} (hA:lS w (jb n) w' x):Bo P wt' w'/\Ld w w'/\ ∀ q,w.ps[n]? =some q->q.epoch<1073741824-> ∃ q',w'.ps[n]? =some q'/\q'.leader=0:=by
 cases hA with
 |poll x h19 hp=>exact absurd h19 (by show¬ ((13:Int)=19);decide)
 |other h19=>
  have e1:jz w (jb n)=oz w (jb n):=by simp[jz,jb]
  rw[e1]
  unfold oz
  have e2:(jb n).part.toNat=n:=by simp[jb]
  rw[e2]
  cases hq:w.ps[n]? with
  |none=>exact⟨h,Ld.refl w,fun q hq2=>by cases hq2⟩
  |some q=>
   have e3:jp q (jb n)=((fo q 0).1,0,(fo q 0).2):=by simp[jp,jb]
   dsimp only
   rw[e3]
   dsimp only
   obtain⟨hcm,hpd⟩:=h.ps q (ab hq)
   have hok:=(hw.ps.gt n q hq).1.ok
   obtain⟨y,hy⟩: ∃ y,q.reps[0]? =some y:=⟨_,ai hok.n1⟩
   have u0: ¬ y.up=false:=by rw[hcm.up y (ab hy)];decide
   have i0: ¬ q.isr[0]? =some false:=fun hh=>by have:=hcm.isr false (ab hh);cases this
   by_cases hl:q.leader=((0:Nat):Int)
   have e4:fo q 0=(mF,6):=by unfold fo;rw[hy];dsimp only;rw[if_neg u0,if_neg i0,if_pos hl]
   rw[e4]
   dsimp only
   rw[if_neg (by decide)]
   exact⟨h,Ld.refl w,fun q2 hq2 _=>⟨q2,hq.trans hq2,by cases hq2;simpa using hl⟩⟩
   by_cases h30:q.epoch=1073741824
   have e4:fo q 0=(mF,2):=by unfold fo;rw[hy];dsimp only;rw[if_neg u0,if_neg i0,if_neg hl,if_pos h30]
   rw[e4]
   dsimp only
   rw[if_neg (by decide)]
   exact⟨h,Ld.refl w,fun q2 hq2 he=>by cases hq2;omega⟩
   have e4:fo q 0=(nB {q with epoch:=q.epoch+1,leader:=((0:Nat):Int),known:=(ao q.reps.length 0).set 0 y.s,base:=y.es.length},0):=by unfold fo;rw[hy];dsimp only;rw[if_neg u0,if_neg i0,if_neg hl,if_neg h30]
   rw[e4]
   dsimp only
   rw[if_pos Z]
   have hc2:Cm {q with epoch:=q.epoch+1,leader:=((0:Nat):Int),known:=(ao q.reps.length 0).set 0 (y.s:Int),base:=y.es.length}:=⟨.inr Z,hcm.isr,hcm.up⟩
   have hp2:Pd w.co.next {q with epoch:=q.epoch+1,leader:=((0:Nat):Int),known:=(ao q.reps.length 0).set 0 (y.s:Int),base:=y.es.length}:=hpd
   refine⟨h.part ⟨hc2.adv,hp2.adv⟩,Jo hq fun _=> ?_,fun q2 hq2 _=>⟨_,ak (bZ hq).1,?_⟩⟩<;>rw[ue.2.2.2.1]<;>rfl
theorem qR {w w':Wa} {a:Act} {x:An} (h:lS w a w' x) (hk:a.kind≠19):w'=(jz w a).1/\x=(jz w a).2:=by
 cases h with
 |poll x h19 hp=>exact absurd h19 hk
 |other h19=>exact⟨rfl,rfl⟩
theorem zk {a:Act} {i:Nat} {s:Sn} (h:At a.name w i s) (h0:a.part=0) (hl:a.lost=1):gw w a false=({w with sns:=w.sns.set i (dk s 0 a.text)},⟨14,0,[]⟩):=by
 unfold gw
 rw[h.find]
 dsimp only
 rw[h0,show(0:Int).toNat=0 from rfl,if_neg (fun hh=>by cases hh.1),if_pos hl]
 rfl
theorem IA (w:Wa) (d:Int) (t:ByteArray):jz w (gQ t 3 d)=gw w (gQ t 3 d) false:=by simp[jz,gQ]
theorem MR (w:Wa) (d:Int) (t:ByteArray):jz w (gQ t 4 d)=gw w (gQ t 4 d) true:=by simp[jz,gQ]
theorem Ix {k d:Int} {t:ByteArray} (hp:1<=np) (hk:k=1∨k=3∨k=4) (hd:0<=d/\d<=2) (ht:t.size<=40):og np nr (gQ t k d):=by
 refine⟨?_,fun _=>by show bC yO=true;decide,?_,?_,?_,?_,?_,?_,ht,hd⟩
 show 1<=k/\k<=20/\k≠17/\(k<=9∨k=13∨16<=k);omega
 show(0:Int)<=0/\(0:Int)<np;omega
 show(0:Int)<=0/\(0:Int)<=1000;omega
 show 8<=k->_;omega
 show k=5->_;omega
 show k=19->_;omega
 show(0:Int)<=0/\(0:Int)<=1000;omega
structure Cw (np nr k:Nat) (wt:Int) (w:Wa):Prop where
 wi: ∃ K,WI np nr 1 wt k K w
 cm:Bo (fun _=>True) wt w
theorem Cw.act (h:Cw np nr k wt w) (hk:k<400) (h4:np<=4) {t:ByteArray} {kd d:Int} (hp:1<=np) (hkd:kd=1∨kd=3∨kd=4) (hd:0<=d/\d<=2) (ht:t.size<=40) {w':Wa} {x:An} (hA:lS w (gQ t kd d) w' x):Cw np nr (k+1) wt w':=by
 obtain⟨K,hw⟩:=h.wi
 have g:og np nr (gQ t kd d):=Ix hp hkd hd ht
 obtain⟨K1,-,i1⟩:=Dm hw I h4 g hA
 exact⟨⟨K1,i1⟩,(J2 hw h.cm g (.inl (by show kd<=9;omega)) (fun _=>trivial) hA).1⟩
structure Dw (np nr k:Nat) (wt:Int) (w:Wa) (p:gi) (x:RA) (i:Nat) (s:Sn):Prop where
 cw:Cw np nr k wt w
 p0:P0 w p x
 at_:At yO w i s
theorem Dw.sent {i:Nat} {s:Sn} (h:Dw np nr k wt w p x i s):uL x.es:=by
 obtain⟨K,hw⟩:=h.cw.wi
 exact(hw.ps.gt 0 p h.p0.pt).2 0 x h.p0.rp
theorem Dw.ep {i:Nat} {s:Sn} (h:Dw np nr k wt w p x i s):0<=p.epoch/\p.epoch<=1073741824:=by
 obtain⟨K,hw⟩:=h.cw.wi
 exact⟨(hw.ps.gt 0 p h.p0.pt).1.ok.ep0,(hw.ps.gt 0 p h.p0.pt).1.ok.ep1⟩
theorem Dw.new {i:Nat} {s:Sn} (h:Dw np nr k wt w p x i s) (hk:k<400) (h4:np<=4) (hp:1<=np) {t:ByteArray} {kd d:Int} (hkd:kd=3∨kd=4) (hd:d=0∨d=2) (ht:t.size<=40) {w':Wa} {y:An} (hA:lS w (gQ t kd d) w' y)
  (hag:kd=4->(s.last.getD 0 jJ).kind≠0) {e:cd} (he:(if decide (kd=4)then s else dk s 0 t).last[0]? =some e) (hx:e.txn=false) (hg:lj {e with epoch:=p.epoch}) (hv:eI x.es {e with epoch:=p.epoch}=(-1,0)):
  y=fR (gQ t kd d) ⟨0,(x.es.length:Nat),[]⟩/\ ∃ (p':gi) (x':RA),p'.epoch=p.epoch/\x'.es=x.es++[{e with epoch:=p.epoch}]/\Dw np nr (k+1) wt w' p' x' i (if decide (kd=4)then s else dk s 0 t):=by
 obtain⟨K,hw⟩:=h.cw.wi
 obtain⟨h1,h2⟩:=qR hA (by show¬ kd=19;omega)
 obtain⟨w2,e1,g1,g2⟩:=G0 (a:=gQ t kd d) (again:=decide (kd=4)) hw h.cw.cm h.p0 h.at_ Z (by show¬ d=1;omega) (fun q=>hag (of_decide_eq_true q)) he hx hg hv
 have e2:jz w (gQ t kd d)=gw w (gQ t kd d) (decide (kd=4)):=by rcases hkd with rfl|rfl;exact IA w d t;exact MR w d t
 rw[e2,e1]at h1 h2
 refine⟨h2,{p with reps:=p.reps.set 0 {x with es:=x.es++[{e with epoch:=p.epoch}]}},{x with es:=x.es++[{e with epoch:=p.epoch}]},rfl,rfl,h.cw.act hk h4 hp (.inr hkd) I ht hA,?_,?_⟩
 rw[h1];exact g1
 rw[h1];exact g2
theorem Dw.lost {i:Nat} {s:Sn} (h:Dw np nr k wt w p x i s) (hk:k<400) (h4:np<=4) (hp:1<=np) {w':Wa} {y:An} (hA:lS w (gQ tY 3 1) w' y):y.code=14/\Dw np nr (k+1) wt w' p x i (dk s 0 tY):=by
 obtain⟨h1,h2⟩:=qR hA (by show¬ (3:Int)=19;decide)
 have hl:=zk (a:=gQ tY 3 1) h.at_ Z Z
 rw[IA,hl]at h1 h2
 have hs2:=h.at_.set (y:=dk s 0 tY) h.at_.nm
 refine⟨by rw[h2],h.cw.act hk h4 hp (.inr (.inl Z)) (by decide) (by decide) hA,?_,?_⟩
 rw[h1];exact⟨h.p0.pt,h.p0.ld,h.p0.rp⟩
 rw[h1];exact⟨hs2.ix,hs2.sn,hs2.nm⟩
theorem nx2 (hp:1<=np) (Nn:Int):(dk (dk (rB yO Nn 0 np) 0 tX) 0 tY).last[0]? =some ⟨0,Nn,0,1,1,false,tY⟩:=by
 obtain⟨m,rfl⟩: ∃ m,np=m+1:=⟨np-1,by omega⟩
 simp[dk,rB,iS]
theorem BA {α:Type} {l:List α} {i:Nat} {a b:α} (h:l[i]? =some a):l.getD i b=a:=by simp[List.getD,h]
end
/-! rounds of syncs and fetches where nothing crashes -/
theorem Cl {L:List cd} {j:Nat} (h:j<=L.length):dV (L.take j) L=j:=by
 have h1:=(sT (L.take j) L).1
 have h2:=Cn (a:=L.take j) (b:=L) (k:=j) (by rw[aI];omega) (by rw[dt,Nat.min_self])
 rw[aI]at h1
 omega
structure SM (L:List cd) (t j:Nat) (p:gi):Prop where
 cm:Cm p
 ld:p.leader=0
 zero: ∃ y,p.reps[0]? =some y/\y.es=L/\y.high<=(L.length:Int)/\(L.length+1<=t->1<=j->(L.length:Int)<=y.high)/\(L.length+2<=t->(L.length:Int)<=y.high)
 rest: ∀ (r:Nat) (x:RA),1<=r->p.reps[r]? =some x-> ∃ a,a<=L.length/\x.es=L.take a/\min (if r<j then t+1 else t) L.length<=a
 kn: ∀ (r:Nat) (v:Int),1<=r->p.known[r]? =some v->((min (if r<j then t else t-1) L.length:Nat):Int)<=v
 kn0:1<=t∨1<=j-> ∀ v,p.known[0]? =some v->(L.length:Int)<=v
 kl:p.known.length=p.reps.length
theorem Gs {L:List cd} {x y:RA} {a:Nat} {hl:Int} (ha:a<=L.length) (hx:x.es=L.take a) (hy:y.es=L): ∃ b,b<=L.length/\(io x y hl).1.es=L.take b/\min (a+1) L.length<=b/\(io x y hl).1.up=x.up:=by
 have hm:dV x.es y.es=a:=by rw[hx,hy];exact Cl ha
 have ht:(L.take a).take a=L.take a:=by rw[dt,Nat.min_self]
 unfold io
 rw[hm,hx,hy]
 cases hz:L[a]? with
 |none=>
  have hge:=uQ.1 hz
  exact⟨a,ha,ht,by omega,rfl⟩
 |some z=>
  have hlt:=(bZ hz).1
  refine⟨a+1,by omega,?_,by omega,rfl⟩
  show(L.take a).take a++[z]=_
  rw[ht,ed hz]
theorem SM.step {L:List cd} {t j:Nat} {p:gi} (h:SM L t j p) (hj:1<=j) {x:RA} (hx:p.reps[j]? =some x): ∃ p1 p2 n,mi p j=(p1,0)/\iU p1 j=(p2,n,0)/\SM L t (j+1) p2/\p2.reps.length=p.reps.length:=by
 obtain⟨y,hy,hyL,hh,hh1,hh2⟩:=h.zero
 obtain⟨a,ha,hxa,hat⟩:=h.rest j x hj hx
 rw[if_neg (Nat.lt_irrefl j)]at hat
 have hu:x.up=true:=h.cm.up x (ab hx)
 have hl:=(bZ hx).1
 have hl0:=(bZ hy).1
 have e1:mi p j=({p with reps:=p.reps.set j {x with s:=x.es.length}},0):=by
  unfold mi
  rw[hx];dsimp only
  rw[if_neg (by rw[hu];decide),if_neg (by rw[h.ld];omega)]
 have hx1:({p with reps:=p.reps.set j {x with s:=x.es.length}}:gi).reps[j]? =some {x with s:=x.es.length}:=ak hl
 have hy1:({p with reps:=p.reps.set j {x with s:=x.es.length}}:gi).reps[0]? =some y:=by
  show(p.reps.set j _)[0]? =_
  rw[aO I];exact hy
 have e2:=nX (l:=0) hx1 h.ld I hu hy1
 obtain⟨b,hb,hbe,hbm,hbu⟩:=Gs (x:={x with s:=x.es.length}) (y:=y) (hl:=max y.high (min (dr p.isr (p.known.set j (min x.es.length (dV x.es y.es):Nat)) 400) y.es.length)) ha hxa hyL
 have hm:dV x.es y.es=a:=by rw[hxa,hyL];exact Cl ha
 have hxl:x.es.length=a:=by rw[hxa,aI];omega
 refine⟨_,_,_,e1,e2,⟨?_,h.ld,?_,?_,?_,?_,by simp[h.kl]⟩,by simp⟩
 refine⟨h.cm.ld,h.cm.isr,fun z hz=> ?_⟩
 rcases aD hz with hz|rfl
 rcases aD hz with hz|rfl
 rcases aD hz with hz|rfl
 exact h.cm.up z hz
 exact hu
 exact h.cm.up y (ab hy)
 exact hbu.trans hu
 refine⟨{y with high:=max y.high (min (dr p.isr (p.known.set j (min x.es.length (dV x.es y.es):Nat)) 400) y.es.length)},?_,hyL,?_,fun ht _=> ?_,fun ht=> ?_⟩
 show(((p.reps.set j _).set 0 _).set j _)[0]? =_
 rw[aO I,ak (by simpa using hl0)]
 show max y.high (min _ ((y.es.length:Nat):Int))<=_
 rw[hyL];omega
 have:=hh1 ht hj
 show _<=max y.high _
 omega
 have:=hh2 ht
 show _<=max y.high _
 omega
 intro r z hr hz
 change (((p.reps.set j _).set 0 _).set j _)[r]? =some z at hz
 by_cases hrj:j=r
 subst hrj
 rw[ak (by simpa using hl)]at hz
 cases hz
 refine⟨b,hb,hbe,?_⟩
 rw[if_pos (xl j)]
 omega
 rw[aO hrj,aO I,aO hrj]at hz
 obtain⟨c,h1,h2,h3⟩:=h.rest r z hr hz
 refine⟨c,h1,h2,?_⟩
 by_cases hlt:r<j
 rw[if_pos hlt]at h3
 rw[if_pos (show r<j+1 by omega)];exact h3
 rw[if_neg hlt]at h3
 rw[if_neg (show¬ r<j+1 by omega)];exact h3
 intro r v hr hv
 change (p.known.set j _)[r]? =some v at hv
 by_cases hrj:j=r
 subst hrj
 rw[List.getElem?_set_self']at hv
 cases hk:p.known[j]? with
 |none=>rw[hk]at hv;cases hv
 |some u=>
  rw[hk]at hv
  simp at hv
  rw[hm,hxl]at hv
  rw[if_pos (xl j)]
  omega
 rw[aO hrj]at hv
 have h3:=h.kn r v hr hv
 by_cases hlt:r<j
 rw[if_pos hlt]at h3
 rw[if_pos (show r<j+1 by omega)];exact h3
 rw[if_neg hlt]at h3
 rw[if_neg (show¬ r<j+1 by omega)];exact h3
 intro _ v hv
 change (p.known.set j _)[0]? =some v at hv
 rw[aO I]at hv
 exact h.kn0 (.inr hj) v hv
theorem SM.next {L:List cd} {t:Nat} {p:gi} (h:SM L t p.reps.length p) (h1:1<=p.reps.length):SM L (t+1) 0 p:=by
 obtain⟨y,hy,hyL,hh,hh1,hh2⟩:=h.zero
 refine⟨h.cm,h.ld,⟨y,hy,hyL,hh,fun _ h0=>by omega,fun ht=>hh1 I h1⟩,fun r x hr hx=> ?_,fun r v hr hv=> ?_,fun _ v hv=>h.kn0 (.inr h1) v hv,h.kl⟩
 obtain⟨a,g1,g2,g3⟩:=h.rest r x hr hx
 rw[if_pos (bZ hx).1]at g3
 exact⟨a,g1,g2,by rw[if_neg (show¬ r<0 by omega)];exact g3⟩
 have g:=h.kn r v hr hv
 rw[if_pos (by have:=(bZ hv).1;have:=h.kl;omega)]at g
 rw[if_neg (show¬ r<0 by omega)]
 exact g
section
/-! one sender, one part: what is sent stands in order -/
def yk (nm t:ByteArray) (d:Int):Act:=⟨3,nm,0,0,0,t,d⟩
def sH (nm:ByteArray) (d:Int):Act:=⟨4,nm,0,0,0,⟨#[]⟩,d⟩
def Hk (Nn:Int) (τ:Nat->ByteArray) (j:Nat):cd:=⟨0,Nn,0,j,1,false,τ j⟩
def AQ (ep Nn:Int) (τ:Nat->ByteArray) (k:Nat):List cd:=(kR k).map fun j=>{Hk Nn τ j with epoch:=ep}
theorem zo (ep Nn:Int) (τ:Nat->ByteArray) (k:Nat):AQ ep Nn τ (k+1)=AQ ep Nn τ k++[{Hk Nn τ k with epoch:=ep}]:=by simp[AQ,oe]
theorem N4 (ep Nn:Int) (τ:Nat->ByteArray) (k:Nat):(AQ ep Nn τ k).length=k:=by simp[AQ]
theorem Qr {ep Nn:Int} {τ:Nat->ByteArray} (hN:Nn≠0) (k:Nat):eI (AQ ep Nn τ k) {Hk Nn τ k with epoch:=ep}=(-1,0):=by
 cases k with
 |zero=>exact CL hN Z Z Z
 |succ k=>
  rw[zo]
  obtain⟨pr,b1,b2,b3⟩:=Ha (es:=AQ ep Nn τ k) (e:={Hk Nn τ k with epoch:=ep}) hN Z
  exact EJ (p:=pr) hN b1 Z b2 (by rw[b3];show((k+1:Nat):Int)=(k:Nat)+1;omega)
theorem Qs {ep Nn:Int} {τ:Nat->ByteArray} (hN:Nn≠0) {k:Nat} (h:uL (AQ ep Nn τ (k+1))):eI (AQ ep Nn τ (k+1)) {Hk Nn τ k with epoch:=ep}=(((k:Nat):Int),0):=by
 rw[zo]at h⊢
 have:=LR h (by show Nn≠0;exact hN) Z
 rwa[N4]at this
variable {np nr k m i:Nat} {wt ep Nn:Int} {w w':Wa} {p:gi} {x:RA} {s:Sn} {nm:ByteArray} {τ:Nat->ByteArray}
theorem Cw.next (h:Cw np nr k wt w) (hk:k<400) (h4:np<=4) {a:Act} (g:og np nr a) (hc:a.kind<=9∨16<=a.kind) {y:An} (hA:lS w a w' y):Cw np nr (k+1) wt w':=by
 obtain⟨K,hw⟩:=h.wi
 obtain⟨K1,-,i1⟩:=Dm hw hk h4 g hA
 exact⟨⟨K1,i1⟩,(J2 hw h.cm g hc (fun _=>trivial) hA).1⟩
structure Sp (Nn:Int) (k:Nat) (s:Sn):Prop where
 pid:s.pid=Nn
 ver:s.ver=0
 inn:s.inn=false
 seq:s.seqs.getD 0 0=(k:Nat)
 l1:1<=s.seqs.length
 l2:1<=s.last.length
theorem Sp.next (h:Sp Nn k s) (t:ByteArray):Sp Nn (k+1) (dk s 0 t)/\(dk s 0 t).last[0]? =some ⟨0,Nn,0,(k:Nat),1,false,t⟩:=by
 refine⟨⟨h.pid,h.ver,h.inn,?_,?_,?_⟩,?_⟩
 show(s.seqs.set 0 (s.seqs.getD 0 0+1)).getD 0 0=_
 rw[BA (ak h.l1),h.seq];omega
 show 1<=(s.seqs.set 0 _).length
 rw[ae];exact h.l1
 show 1<=(s.last.set 0 _).length
 rw[ae];exact h.l2
 show(s.last.set 0 _)[0]? =_
 rw[ak h.l2,h.pid,h.ver,h.inn,h.seq]
def SN (p:gi):Prop:= ∀ (r:Nat) (z:RA),1<=r->p.reps[r]? =some z->z.es=[]
theorem SN.set {p:gi} (h:SN p) (y:RA):SN {p with reps:=p.reps.set 0 y}:=fun r z hr hz=>h r z hr (by change (p.reps.set 0 y)[r]? =some z at hz;rwa[aO I]at hz)
structure Ow (np nr m:Nat) (wt ep Nn:Int) (nm:ByteArray) (τ:Nat->ByteArray) (w:Wa) (c:Nat):Prop where
 cw:Cw np nr m wt w
 ex: ∃ (p:gi) (x:RA) (i:Nat) (s:Sn),P0 w p x/\At nm w i s/\p.epoch=ep/\x.es=AQ ep Nn τ c/\Sp Nn c s/\SN p
structure Mw (np nr m:Nat) (wt ep Nn:Int) (nm:ByteArray) (τ:Nat->ByteArray) (w:Wa) (k:Nat) (b:Bool):Prop where
 cw:Cw np nr m wt w
 ex: ∃ (p:gi) (x:RA) (i:Nat) (s:Sn),P0 w p x/\At nm w i s/\p.epoch=ep/\x.es=AQ ep Nn τ (if b then k+1 else k)/\Sp Nn (k+1) s/\s.last[0]? =some (Hk Nn τ k)/\SN p
theorem Cw.epo (h:Cw np nr k wt w) (h0:P0 w p x):0<=p.epoch/\p.epoch<=1073741824:=by
 obtain⟨K,hw⟩:=h.wi
 exact⟨(hw.ps.gt 0 p h0.pt).1.ok.ep0,(hw.ps.gt 0 p h0.pt).1.ok.ep1⟩
theorem Cw.sent (h:Cw np nr k wt w) (h0:P0 w p x):uL x.es:=by
 obtain⟨K,hw⟩:=h.wi
 exact(hw.ps.gt 0 p h0.pt).2 0 x h0.rp
theorem Qb (hp:1<=np) {t:ByteArray} {d:Int} (hd:0<=d/\d<=2) (ht:t.size<=40) (hn:bC nm=true):og np nr (yk nm t d):=by
 refine⟨by show(1:Int)<=3/\(3:Int)<=20/\(3:Int)≠17/\((3:Int)<=9∨(3:Int)=13∨(16:Int)<=3);decide,fun _=>hn,by show(0:Int)<=0/\(0:Int)<np;omega,by show(0:Int)<=0/\(0:Int)<=1000;decide,?_,?_,?_,by show(0:Int)<=0/\(0:Int)<=1000;decide,ht,hd⟩
 show(8:Int)<=3->_;omega
 show(3:Int)=5->_;omega
 show(3:Int)=19->_;omega
theorem PD (hp:1<=np) {d:Int} (hd:0<=d/\d<=2) (hn:bC nm=true):og np nr (sH nm d):=by
 refine⟨by show(1:Int)<=4/\(4:Int)<=20/\(4:Int)≠17/\((4:Int)<=9∨(4:Int)=13∨(16:Int)<=4);decide,fun _=>hn,by show(0:Int)<=0/\(0:Int)<np;omega,by show(0:Int)<=0/\(0:Int)<=1000;decide,?_,?_,?_,by show(0:Int)<=0/\(0:Int)<=1000;decide,by show(0:Nat)<=40;decide,hd⟩
 show(8:Int)<=4->_;omega
 show(4:Int)=5->_;omega
 show(4:Int)=19->_;omega
theorem Mw.put {a:Act} {y:An} {b b0:Bool} {s1:Sn} (hcw:Cw np nr m wt w) (hcw':Cw np nr (m+1) wt w') (h0:P0 w p x) (hs:At a.name w i s) (ho:SN p) (he:p.epoch=ep) (hx:x.es=AQ ep Nn τ (if b then k+1 else k)) (hN:0<Nn/\Nn<=1073741824) (hk:k<=1000) (ht:(τ k).size<=40) {again:Bool} (h1:a.part=0) (hl:a.lost≠1) (hag:again=true->(s.last.getD 0 jJ).kind≠0)
  (hl1:(if again then s else dk s 0 a.text).last[0]? =some (Hk Nn τ k)) (hsp:Sp Nn (k+1) (if again then s else dk s 0 a.text)) (hw':w'=(gw w a again).1):Mw np nr (m+1) wt ep Nn a.name τ w' k true:=by
 obtain⟨K,hw⟩:=hcw.wi
 have hep:=hcw.epo h0
 have hg:lj (⟨p.epoch,Nn,0,(k:Nat),1,false,τ k⟩:cd):=ON hep hN (by decide) ⟨by omega,by omega⟩ ht
 cases b with
 |false=>
  obtain⟨w2,e1,g1,g2⟩:=G0 hw hcw.cm h0 hs h1 hl hag hl1 Z hg (by rw[hx,he];exact Qr I k)
  rw[e1]at hw'
  subst hw'
  exact⟨hcw',_,_,i,_,g1,g2,he,by rw[if_pos Z,zo,<-he];show x.es++_=_;rw[hx,he];rfl,hsp,hl1,ho.set _⟩
 |true=>
  have hse:=hcw.sent h0
  rw[hx,if_pos Z]at hse
  obtain⟨w2,e1,g1,g2⟩:=No (j:=k) hw hcw.cm h0 hs h1 hl hag hl1 Z hg (by rw[hx,he,if_pos Z];exact Qs I hse)
  rw[e1]at hw'
  subst hw'
  exact⟨hcw',_,_,i,_,g1,g2,he,hx,hsp,hl1,ho⟩
theorem Fx (h:s.last[0]? =some (Hk Nn τ k)):(s.last.getD 0 jJ).kind≠0:=by rw[BA h];show(1:Int)≠0;decide
theorem Ow.send {y:An} {d:Int} (h:Ow np nr m wt ep Nn nm τ w k) (hm:m<400) (h4:np<=4) (hp:1<=np) (hN:0<Nn/\Nn<=1073741824) (hk:k<=1000) (ht:(τ k).size<=40) (hn:bC nm=true) (hd:0<=d/\d<=2) (hA:lS w (yk nm (τ k) d) w' y): ∃ b,Mw np nr (m+1) wt ep Nn nm τ w' k b/\(d≠1->b=true):=by
 obtain⟨p,x,i,s,h0,hs,he,hx,hsp,ho⟩:=h.ex
 have cw:=h.cw.next hm h4 (Qb hp hd ht hn) (.inl (by show(3:Int)<=9;decide)) hA
 obtain⟨h1,-⟩:=qR hA (by show¬ (3:Int)=19;decide)
 have e1:jz w (yk nm (τ k) d)=gw w (yk nm (τ k) d) false:=by simp[jz,yk]
 rw[e1]at h1
 obtain⟨g1,g2⟩:=hsp.next (τ k)
 by_cases hd1:d=1
 refine⟨false,⟨cw,p,x,i,dk s 0 (τ k),?_,?_,he,hx,g1,g2,ho⟩,fun q=>absurd hd1 q⟩
 rw[h1,zk (a:=yk nm (τ k) d) hs Z hd1]
 exact⟨h0.pt,h0.ld,h0.rp⟩
 rw[h1,zk (a:=yk nm (τ k) d) hs Z hd1]
 have hs2:=hs.set (y:=dk s 0 (τ k)) hs.nm
 exact⟨hs2.ix,hs2.sn,hs2.nm⟩
 exact⟨true,Mw.put (a:=yk nm (τ k) d) (b:=false) (again:=false) (b0:=false) (s1:=s) (y:=y) h.cw cw h0 hs ho he hx hN hk ht Z hd1 (fun q=>by cases q) g2 g1 h1,fun _=>rfl⟩
theorem Dk {a:Act} {i:Nat} {s:Sn} (h:At a.name w i s) (h0:a.part=0) (hl:a.lost=1) (hag:(s.last.getD 0 jJ).kind≠0):gw w a true=({w with sns:=w.sns.set i s},⟨14,0,[]⟩):=by
 unfold gw
 rw[h.find]
 dsimp only
 rw[h0,show(0:Int).toNat=0 from rfl,if_neg (fun hh=>hag hh.2),if_pos hl]
 rfl
theorem Mw.again {y:An} {d:Int} {b:Bool} (h:Mw np nr m wt ep Nn nm τ w k b) (hm:m<400) (h4:np<=4) (hp:1<=np) (hN:0<Nn/\Nn<=1073741824) (hk:k<=1000) (ht:(τ k).size<=40) (hn:bC nm=true) (hd:0<=d/\d<=2) (hA:lS w (sH nm d) w' y): ∃ b',Mw np nr (m+1) wt ep Nn nm τ w' k b'/\(d≠1->b'=true):=by
 obtain⟨p,x,i,s,h0,hs,he,hx,hsp,hl,ho⟩:=h.ex
 have cw:=h.cw.next hm h4 (PD hp hd hn) (.inl (by show(4:Int)<=9;decide)) hA
 obtain⟨h1,-⟩:=qR hA (by show¬ (4:Int)=19;decide)
 have e1:jz w (sH nm d)=gw w (sH nm d) true:=by simp[jz,sH]
 rw[e1]at h1
 by_cases hd1:d=1
 refine⟨b,⟨cw,p,x,i,s,?_,?_,he,hx,hsp,hl,ho⟩,fun q=>absurd hd1 q⟩
 rw[h1,Dk (a:=sH nm d) hs Z hd1 (Fx hl)]
 exact⟨h0.pt,h0.ld,h0.rp⟩
 rw[h1,Dk (a:=sH nm d) hs Z hd1 (Fx hl)]
 have hs2:=hs.set (y:=s) hs.nm
 exact⟨hs2.ix,hs2.sn,hs2.nm⟩
 exact⟨true,Mw.put (a:=sH nm d) (b:=b) (again:=true) (b0:=false) (s1:=s) (y:=y) h.cw cw h0 hs ho he hx hN hk ht Z hd1 (fun _=>Fx hl) hl hsp h1,fun _=>rfl⟩
theorem Mw.done (h:Mw np nr m wt ep Nn nm τ w k true):Ow np nr m wt ep Nn nm τ w (k+1):=by
 obtain⟨p,x,i,s,h0,hs,he,hx,hsp,-,ho⟩:=h.ex
 exact⟨h.cw,p,x,i,s,h0,hs,he,hx,hsp,ho⟩
def JB (nm t:ByteArray) (d e:Int) (c:Nat):List Act:=yk nm t d::(ao c (sH nm e)++[sH nm 0])
theorem JA (nm t:ByteArray) (d e:Int) (c:Nat):(JB nm t d e c).length=c+2:=by simp[JB]
inductive Tj (nm:ByteArray) (τ:Nat->ByteArray):Nat->List Act->Prop
 |zero:Tj nm τ 0 []
 |succ {k:Nat} {l:List Act} {d e:Int} {c:Nat}:Tj nm τ k l->0<=d/\d<=2->0<=e/\e<=2->c<=2->Tj nm τ (k+1) (l++JB nm (τ k) d e c)
theorem Tj.len {l:List Act} (h:Tj nm τ k l):l.length<=4*k:=by
 induction h with
 |zero=>simp
 |succ _ _ _ hc ih=>rw[av,JA];omega
theorem Ol {P:ByteArray->Prop}:Bo P wt (lF np nr 1 wt):=by
 refine⟨fun q hq=> ?_,by simp[lF],rfl,by simp[lF]⟩
 obtain rfl:q=l8 nr 1:=cT hq
 exact⟨⟨.inl Z,fun b hb=>cT hb,fun y hy=>by rw[cT hy]⟩,fun y hy e he=>by rw[cT hy]at he;cases he⟩
theorem O9 {q:gi} (h0:(fo q 0).2=0): ∀ (i:Nat) (y:RA),(fo q 0).1.reps[i]? =some y-> ∃ z,q.reps[i]? =some z/\y.es=z.es:=by
 unfold fo at h0⊢
 split at h0
 cases h0
 rename_i x hx
 split at h0
 cases h0
 rename_i c1
 split at h0
 cases h0
 rename_i c2
 split at h0
 cases h0
 rename_i c3
 split at h0
 cases h0
 rename_i c4
 rw[if_neg c1,if_neg c2,if_neg c3,if_neg c4]
 intro i y hy
 obtain⟨z,g1,g2,-⟩:=wx hy
 exact⟨z,g1,g2⟩
theorem QW (hp:1<=np) (hn:bC nm=true):og np nr (vj nm):=(jw (hard:=true) (k:=1) (pt:=0) (n:=0) (m:=0) (lo:=0) (nm:=nm) (t:=⟨#[]⟩) I (by simp) (fun _=>hn) (.inl Z)).g
end
section
/-! who has open transactions, and where, while nothing crashes -/
def tm (w:Wa) (n:Nat):List cd:=((w.ps[n]?).bind fun p=>(p.reps[0]?).map RA.es).getD []
theorem ve {w:Wa} {n:Nat} {p:gi} {y:RA} (hp:w.ps[n]? =some p) (hy:p.reps[0]? =some y):tm w n=y.es:=by
 unfold tm
 rw[hp,cQ,hy];rfl
theorem Jn {w:Wa} {n m:Nat} {p':gi} (h:m≠n):tm {w with ps:=w.ps.set n p'} m=tm w m:=by
 unfold tm
 show(((w.ps.set n p')[m]?).bind _).getD []=_
 rw[aO (Ne.symm h)]
theorem Ku {w:Wa} {n:Nat} {p p':gi} (hp:w.ps[n]? =some p) (he:p'.reps[0]?.map RA.es=p.reps[0]?.map RA.es) (m:Nat):tm {w with ps:=w.ps.set n p'} m=tm w m:=by
 by_cases h:m=n
 subst h
 unfold tm
 show(((w.ps.set m p')[m]?).bind _).getD []=_
 rw[ak (bZ hp).1,hp,cQ,cQ,he]
 exact Jn h
theorem JJ {p p':gi} (hl:p'.reps.length=p.reps.length) (h: ∀ x,p'.reps[0]? =some x-> ∃ y,p.reps[0]? =some y/\x.es=y.es):p'.reps[0]?.map RA.es=p.reps[0]?.map RA.es:=by
 cases hx:p'.reps[0]? with
 |none=>
  have:=uQ.1 hx
  rw[bL I]
 |some x=>
  obtain⟨y,h1,h2⟩:=h x hx
  rw[h1,dA,dA,h2]
theorem Kh {p:gi} {a:Act} (hok:p.ok) (h:Cm p) (hk:a.kind=8∨a.kind=9∨(a.kind=13/\a.n=0)) (h0:(jp p a).2.2=0):(jp p a).1.reps[0]?.map RA.es=p.reps[0]?.map RA.es:=by
 unfold jp at h0⊢
 rcases hk with hk|hk|⟨hk,hn⟩
 rw[if_pos hk]at h0⊢
 obtain⟨x,y,l,hx,hl,hne,hu,hy⟩:=wq hok h0
 have hl0:l=0:=by have:=h.ld;omega
 subst hl0
 rw[nX hx hl hne hu hy]
 dsimp only
 rw[aO I,ak (bZ hy).1,hy]
 rfl
 rw[if_neg I,if_pos hk]at h0⊢
 obtain⟨x,hx,hu,hS⟩:=yg h0
 dsimp only at hS⊢
 rw[hS]
 split
 refine JJ (by rw[ue.1];simp) fun z hz=> ?_
 obtain⟨y,hy,he,-⟩:=wx hz
 rcases eZ hy with⟨h1,h2⟩|⟨_,hy⟩
 rw[<-h1]at hx
 exact⟨x,hx,by rw[he,h2]⟩
 exact⟨y,hy,he⟩
 refine JJ (by simp) fun z hz=> ?_
 rcases eZ hz with⟨h1,h2⟩|⟨_,hz⟩
 rw[<-h1]at hx
 exact⟨x,hx,by rw[h2]⟩
 exact⟨z,hz,rfl⟩
 have e:jp p a=((fo p 0).1,0,(fo p 0).2):=by
  unfold jp
  simp[hk,hn]
 unfold jp at e
 rw[e]at h0⊢
 dsimp only at h0⊢
 obtain⟨x,-,-,-,-,-,hS⟩:=zK hok.isrl h0
 exact JJ (by rw[hS,ue.1]) fun z hz=>O9 h0 0 z hz
theorem v7 {w:Wa} (hc: ∀ p∈w.ps,Cm p) (n:Nat) (x:cd):((ib w n x).1=w/\((ib w n x).2.code=0-> ∃ ep,(eI (tm w n) {x with epoch:=ep}).2=0/\0<=(eI (tm w n) {x with epoch:=ep}).1))∨
  ∃ (ep:Int) (ps:List gi),(ib w n x).2.code=0/\(ib w n x).1={w with ps:=ps}/\tm {w with ps:=ps} n=tm w n++[{x with epoch:=ep}]/\ ∀ m,m≠n->tm {w with ps:=ps} m=tm w m:=by
 unfold ib
 cases hp:w.ps[n]? with
 |none=>exact .inl ⟨rfl,fun h=>by cases h⟩
 |some p=>
  dsimp only
  split
  rename_i h0
  obtain⟨y,l,hl,hy,-,hv,hS⟩:=Bs h0
  have hl0:l=0:=by have:=(hc p (ab hp)).ld;omega
  subst hl0
  rcases hS with⟨h1,h2,-⟩|⟨-,-,h2,-⟩
  refine .inl ⟨?_,fun _=>⟨p.epoch,?_⟩⟩
  rw[h2]
  show({w with ps:=w.ps.set n p}:Wa)=w
  have:w.ps.set n p=w.ps:=by
   apply dg
   intro i
   by_cases hi:n=i
   subst hi
   rw[ak (bZ hp).1];exact hp.symm
   rw[aO hi]
  rw[this]
  rw[ve hp hy]
  exact⟨hv,h1⟩
  refine .inr ⟨p.epoch,_,rfl,rfl,?_,fun m hm=>Jn hm⟩
  rw[h2,ve hp hy]
  exact ve (p:={p with reps:=p.reps.set 0 {y with es:=y.es++[{x with epoch:=p.epoch}]}}) (y:={y with es:=y.es++[{x with epoch:=p.epoch}]}) (ak (bZ hp).1) (ak (bZ hy).1)
  exact .inl ⟨rfl,fun h=>by rename_i h0;exact absurd h h0⟩
def RN (l:List Sn) (nm:ByteArray):Prop:= ∃ i s,dT l nm=some i/\l[i]? =some s/\s.inn=true
structure MS (B:Nat) (txs:List Tx) (s:Sn):Prop where
 ver:s.ver=0
 tx: ∃ t∈txs,t.name=s.name/\t.pid=s.pid
 last: ∀ x∈s.last,x.ver=0/\x.text.size<=B/\(x.txn=true->x.pid=s.pid/\s.inn=true)
structure Ue (np:Nat) (l:List Sn) (t:Tx):Prop where
 ver:t.ver=0
 two:t.state=2->RN l t.name
 parts: ∀ q∈t.parts,q<np
structure Uf (B:Nat) (txs:List Tx) (n:Nat) (es:List cd):Prop where
 each: ∀ e∈es,e.ver=0/\e.text.size<=B
 opn: ∀ k pid,jh es k pid-> ∃ t∈txs,t.pid=pid/\(n:Int)∈t.parts
structure Ax (B np k:Nat) (w:Wa):Prop where
 ck:w.co.clock<=3*k
 sns: ∀ s∈w.sns,MS B w.co.txs s
 txs: ∀ t∈w.co.txs,Ue np w.sns t
 lgs: ∀ n,Uf B w.co.txs n (tm w n)
variable {B np nr k:Nat} {wt:Int} {K:Nat->List cd} {w:Wa}
theorem MS.mono {B':Nat} {txs:List Tx} {s:Sn} (h:MS B txs s) (hB:B<=B'):MS B' txs s:=⟨h.ver,h.tx,fun x hx=>by obtain⟨h1,h2,h3⟩:=h.last x hx;exact⟨h1,by omega,h3⟩⟩
theorem Ax.mono {B' k':Nat} (h:Ax B np k w) (hB:B<=B') (hk:k<=k'):Ax B' np k' w:=⟨by have:=h.ck;omega,fun s hs=>(h.sns s hs).mono hB,h.txs,fun n=>⟨fun e he=>⟨((h.lgs n).each e he).1,by have:=((h.lgs n).each e he).2;omega⟩,(h.lgs n).opn⟩⟩
theorem uW {l l':List Sn} (h:l'.map Sn.name=l.map Sn.name) (s:ByteArray):dT l' s=dT l s:=by
 have e: ∀ l:List Sn,dT l s=(l.map Sn.name).findIdx? fun x=>decide (x=s):=fun l=>by unfold dT;rw[vT];rfl
 rw[e,e,h]
theorem zi {l:List Sn} {i:Nat} {s s':Sn} (hi:l[i]? =some s) (hn:s'.name=s.name):(l.set i s').map Sn.name=l.map Sn.name:=by
 rw[cO,hn]
 apply dg
 intro j
 by_cases hj:i=j
 subst hj
 rw[ak (by simpa using(bZ hi).1),aJ,hi];rfl
 rw[aO hj]
theorem tD {l:List Sn} {s:ByteArray} {i:Nat} {x:Sn} (h:dT l s=some i) (hx:l[i]? =some x):x.name=s:=by
 obtain⟨hl,h1,-⟩:=aF.1 h
 rw[(bZ hx).2]at h1
 simpa using h1
theorem RN.set {l:List Sn} {i:Nat} {s s':Sn} {nm:ByteArray} (h:RN l nm) (hi:l[i]? =some s) (hn:s'.name=s.name) (hI:s.name=nm->s.inn=true->s'.inn=true):RN (l.set i s') nm:=by
 obtain⟨j,x,h1,h2,h3⟩:=h
 by_cases hj:i=j
 subst hj
 rw[hi]at h2;cases h2
 exact⟨i,s',by rw[uW (zi hi hn)];exact h1,ak (bZ hi).1,hI (tD h1 hi) h3⟩
 exact⟨j,x,by rw[uW (zi hi hn)];exact h1,by rw[aO hj];exact h2,h3⟩
theorem Ax.setSn (h:Ax B np k w) {i:Nat} {s s':Sn} (hi:w.sns[i]? =some s) (hn:s'.name=s.name) (hK:MS B w.co.txs s') (hI:s.inn=true->s'.inn=true∨ ∀ t∈w.co.txs,t.name=s.name->t.state≠2):Ax B np k {w with sns:=w.sns.set i s'}:=by
 refine⟨h.ck,fun x hx=> ?_,fun t ht=> ?_,h.lgs⟩
 rcases aD hx with hx|rfl
 exact h.sns x hx
 exact hK
 have hT:=h.txs t ht
 refine⟨hT.ver,fun h2=>(hT.two h2).set hi hn fun e1 e2=> ?_,hT.parts⟩
 rcases hI e2 with h3|h3
 exact h3
 exact absurd h2 (h3 t ht e1.symm)
theorem MS.txs' {txs txs':List Tx} {s:Sn} (h:MS B txs s) (hk: ∀ t∈txs,∃ t'∈txs',t'.name=t.name/\t'.pid=t.pid):MS B txs' s:=by
 obtain⟨t,ht,h1,h2⟩:=h.tx
 obtain⟨t',ht',h3,h4⟩:=hk t ht
 exact⟨h.ver,⟨t',ht',h3.trans h1,h4.trans h2⟩,h.last⟩
theorem zw {c:Co} {i:Nat} {t t':Tx} (hi:c.txs[i]? =some t) {x:Tx} (hx:x∈c.txs):x=t∨x∈(gF c i t').txs:=by
 obtain⟨j,hj⟩:=aN.1 hx
 by_cases h:i=j
 subst h
 rw[hi]at hj;cases hj;exact .inl Z
 refine .inr (ab (i:=j) ?_)
 show(c.txs.set i t')[j]? =_
 rw[aO h];exact hj
theorem wd {c:Co} {i:Nat} {t:Tx} (t':Tx) (hi:c.txs[i]? =some t):t'∈(gF c i t').txs:=ab (i:=i) (ak (bZ hi).1)
theorem xE {c:Co} {i:Nat} {t t':Tx} (hi:c.txs[i]? =some t) (hn:t'.name=t.name) (hp:t'.pid=t.pid): ∀ x∈c.txs,∃ x'∈(gF c i t').txs,x'.name=x.name/\x'.pid=x.pid:=fun x hx=>by
 rcases zw (t':=t') hi hx with rfl|h
 exact⟨t',wd t' hi,hn,hp⟩
 exact⟨x,h,rfl,rfl⟩
theorem Ax.stx (h:Ax B np k w) {i:Nat} {t t':Tx} (hi:w.co.txs[i]? =some t) (hn:t'.name=t.name) (hp:t'.pid=t.pid) (hT:Ue np w.sns t') (hs: ∀ q∈t.parts,q∈t'.parts):Ax B np k {w with co:=gF w.co i t'}:=by
 refine⟨h.ck,fun s hs=>(h.sns s hs).txs' (xE hi hn hp),fun x hx=> ?_,fun n=>⟨(h.lgs n).each,fun j pid ho=> ?_⟩⟩
 rcases om hx with hx|rfl
 exact h.txs x hx
 exact hT
 obtain⟨x,hx,h1,h2⟩:=(h.lgs n).opn j pid ho
 rcases zw (t':=t') hi hx with rfl|hx
 exact⟨t',wd t' hi,hp.trans h1,hs _ h2⟩
 exact⟨x,hx,h1,h2⟩
theorem Ax.put (h:Ax B np k w) (hc: ∀ p∈w.ps,Cm p) {n:Nat} {x:cd} (hx:x.ver=0/\x.text.size<=B) (ho:x.txn=true-> ∃ t∈w.co.txs,t.pid=x.pid/\(n:Int)∈t.parts):Ax B np k (ib w n x).1:=by
 rcases v7 hc n x with⟨h1,-⟩|⟨ep,ps,-,h1,h2,h3⟩
 rw[h1];exact h
 rw[h1]
 refine⟨h.ck,h.sns,h.txs,fun m=> ?_⟩
 show Uf B w.co.txs m _
 by_cases hm:m=n
 subst hm
 rw[h2]
 refine⟨fun e he=> ?_,fun j pid hop=> ?_⟩
 rcases ar.1 he with he|he
 exact(h.lgs m).each e he
 rw[aq.1 he];exact hx
 rcases jD.1 hop with⟨-,hop,-⟩|⟨-,-,ht,hpid,-⟩
 exact(h.lgs m).opn j pid hop
 obtain⟨t,t1,t2,t3⟩:=ho ht
 exact⟨t,t1,t2.trans hpid,t3⟩
 rw[h3 m hm];exact h.lgs m
theorem Mp {c:Co} (hok:iD c=true) {s:ByteArray} {j:Nat} {t t2:Tx} (hf:d6 c s=some (j,t)) (h2:t2∈c.txs) (hn:t2.name=s):t2=t:=by
 obtain⟨i,hi⟩:=CX hok h2
 rw[hn,hf]at hi
 cases hi;rfl
theorem NY {c:Co} (hok:iD c=true) {t t2:Tx} (h1:t∈c.txs) (h2:t2∈c.txs) (hp:t.pid=t2.pid):t=t2:=by
 obtain⟨-,-,h3⟩:=dS.1 hok
 unfold rS at h3
 rw[eQ,fF]at h3
 obtain⟨i,hi,rfl⟩:=List.mem_iff_getElem.1 h1
 obtain⟨j,hj,rfl⟩:=List.mem_iff_getElem.1 h2
 rcases Nat.lt_trichotomy i j with h|h|h
 exact absurd hp (h3 i j hi hj h).2
 subst h;rfl
 exact absurd hp.symm (h3 j i hj hi h).2
theorem Kd {c:Co} (hok:iD c=true) {j:Nat} {t t' x:Tx} (hj:c.txs[j]? =some t) (hx:x∈(gF c j t').txs) (hn:x.name=t.name):x=t':=by
 obtain⟨m,hm⟩:=aN.1 hx
 rcases eZ (show(c.txs.set j t')[m]? =some x from hm)with⟨-,h⟩|⟨h,hm⟩
 exact h
 exfalso
 obtain⟨-,-,h3⟩:=dS.1 hok
 unfold rS at h3
 rw[eQ,fF]at h3
 obtain⟨a1,a2⟩:=bZ hj
 obtain⟨b1,b2⟩:=bZ hm
 rcases fC m j with hlt|hge
 exact(h3 m j b1 a1 hlt).1 (by rw[a2,b2];exact hn)
 exact(h3 j m a1 b1 I).1 (by rw[a2,b2];exact hn.symm)
theorem tJ {l:List Int} {p q:Int}:q∈je l p↔q∈l∨q=p:=by
 unfold je
 split
 rename_i h
 exact⟨.inl,fun hh=>hh.elim id fun e=>e▸h⟩
 simp only[ar,gT,aq,decide_eq_true_eq]
 constructor
 rintro((⟨h,-⟩|h)|⟨h,-⟩)
 exact .inl h
 exact .inr h
 exact .inl h
 rintro(h|h)
 rcases Int.lt_or_le q p with h1|h1
 exact .inl (.inl ⟨h,h1⟩)
 exact .inr ⟨h,h1⟩
 exact .inl (.inr h)
theorem AG (ck p:Int) (t:Tx):(fy ck p t).parts=je t.parts p/\(fy ck p t).name=t.name/\(fy ck p t).pid=t.pid/\(fy ck p t).ver=t.ver:=by
 unfold fy;split<;>exact⟨rfl,rfl,rfl,rfl⟩
theorem Ax.deliver (h:Ax B np k w) (hok:iD w.co=true) (hc: ∀ p∈w.ps,Cm p) {i n:Nat} {s:Sn} (hi:dT w.sns s.name=some i) (hs:w.sns[i]? =some s) (hn:n<np):Ax B np k (dw w s n).1:=by
 have hK:=h.sns s (ab hs)
 unfold dw
 split
 exact h
 rename_i x hx
 obtain⟨x1,x2,x3⟩:=hK.last x (ab hx)
 split
 rename_i h0
 cases ht:x.txn with
 |false=>
  have e:lv w s n x=(w.co,0):=by unfold lv;rw[if_neg (by rw[ht];decide)]
  rw[e]
  exact h.put hc ⟨x1,x2⟩ fun q=>by rw[ht]at q;cases q
 |true=>
  have e:lv w s n x=lw w.co s.name x.ver n:=by unfold lv;rw[if_pos ht]
  rw[e]at h0⊢
  unfold lw at h0⊢
  cases hf:d6 w.co s.name with
  |none=>rw[hf]at h0;cases h0
  |some q=>
   obtain⟨j,t⟩:=q
   rw[hf]at h0
   dsimp only at h0⊢
   split at h0
   cases h0
   rename_i c1
   rw[if_neg c1]
   split at h0
   rename_i c2
   rw[if_pos c2]
   obtain⟨-,hj,hnm⟩:=dR hf
   obtain⟨a1,a2,a3,a4⟩:=AG w.co.clock n t
   have hT:=h.txs t (ab hj)
   have h2:=h.stx hj a2 a3 (t':=fy w.co.clock n t) ⟨a4.trans hT.ver,fun _=>⟨i,s,by rw[a2,hnm];exact hi,hs,(x3 ht).2⟩,fun q hq=> ?_⟩ fun q hq=>by rw[a1,tJ];exact .inl hq
   refine Ax.put h2 hc ⟨x1,x2⟩ fun _=>⟨_,wd _ hj,?_,by rw[a1,tJ];exact .inr Z⟩
   obtain⟨t2,b1,b2,b3⟩:=hK.tx
   rw[a3,(x3 ht).1,<-b3,Mp hok hf b1 b2]
   rw[a1,tJ]at hq
   rcases hq with hq|rfl
   exact hT.parts q hq
   omega
   cases h0
 exact h
theorem Oj {txs:List Tx} {s:Sn} (h:MS B txs s) (n:Nat) {t:ByteArray} (ht:t.size<=B):MS B txs (dk s n t):=⟨h.ver,h.tx,fun x hx=>by
 rcases aD hx with hx|rfl
 exact h.last x hx
 exact⟨h.ver,ht,fun q=>⟨rfl,q⟩⟩⟩
theorem Ax.send (h:Ax B np k w) (hok:iD w.co=true) (hc: ∀ p∈w.ps,Cm p) {a:Act} {again:Bool} (hp:0<=a.part/\a.part<np) (ht:again=false->a.text.size<=B):Ax B np k (gw w a again).1:=by
 unfold gw
 split
 exact h
 rename_i i s hf
 split
 exact h
 obtain⟨h1,h2⟩:=qf hf
 have hix:dT w.sns a.name=some i:=by
  cases hs:dT w.sns a.name with
  |none=>rw[hs]at hf;cases hf
  |some j=>
   rw[hs,cQ]at hf
   cases hj:w.sns[j]? with
   |none=>rw[hj]at hf;cases hf
   |some z=>rw[hj]at hf;cases hf;rfl
 have hK:=h.sns s (ab h1)
 have hK1:MS B w.co.txs (if again then s else dk s a.part.toNat a.text):=by
  cases again
  exact Oj hK _ (ht Z)
  exact hK
 have hn1:(if again then s else dk s a.part.toNat a.text).name=s.name:=by cases again<;>rfl
 have hI1:(if again then s else dk s a.part.toNat a.text).inn=s.inn:=by cases again<;>rfl
 generalize (if again then s else dk s a.part.toNat a.text)=s1 at hK1 hn1 hI1
 have h3:=h.setSn h1 hn1 hK1 fun q=> .inl (hI1.trans q)
 dsimp only
 split
 exact h3
 exact Ax.deliver h3 hok hc (by rw[hn1,h2,uW (zi h1 hn1)];exact hix) (ak (bZ h1).1) I
theorem Ax.begin (h:Ax B np k w) {a:Act}:Ax B np k (jn w a).1:=by
 unfold jn
 split
 exact h
 rename_i i s hf
 split
 exact h
 have hs:=(qf hf).1
 have hK:=h.sns s (ab hs)
 exact h.setSn (s':={s with inn:=true}) hs Z ⟨hK.ver,hK.tx,fun x hx=>by obtain⟨a1,a2,a3⟩:=hK.last x hx;exact⟨a1,a2,fun q=>⟨(a3 q).1,rfl⟩⟩⟩ fun _=> .inl Z
theorem tV {b:Bool} {t t':Tx} (h:ej (lq b) t=some t'):t'.name=t.name/\t'.pid=t.pid/\t'.ver=t.ver/\t'.parts=t.parts/\t'.state≠2/\(t.state≠2->t'.state=t.state):=by
 have hw:lq b≠2:=by cases b<;>decide
 unfold ej at h
 split at h
 rename_i h2;cases h;exact⟨rfl,rfl,rfl,rfl,hw,fun q=>absurd h2 q⟩
 rename_i h2
 split at h
 cases h;exact⟨rfl,rfl,rfl,rfl,h2,fun _=>rfl⟩
 split at h
 cases h;exact⟨rfl,rfl,rfl,rfl,h2,fun _=>rfl⟩
 cases h
theorem Pf {txs:List Tx} {s:Sn} (h:MS B txs s):MS B txs (pH s):=⟨h.ver,h.tx,fun x hx=>by
 obtain⟨y,hy,rfl⟩:=bK.1 (show x∈s.last.map _ from hx)
 split
 exact⟨rfl,aV _,fun q=>by cases q⟩
 rename_i hyt
 obtain⟨a1,a2,-⟩:=h.last y hy
 exact⟨a1,a2,fun q=>absurd q hyt⟩⟩
theorem wo {a:Act} (hl:a.lost=0) (hok:iD w.co=true):(fO w a).1=w∨ ∃ (i j:Nat) (s:Sn) (t t':Tx),dT w.sns a.name=some i/\w.sns[i]? =some s/\s.name=a.name/\d6 w.co a.name=some (j,t)/\ej (lq (decide (a.n=1))) t=some t'/\(fO w a).1={w with co:=gF w.co j t',sns:=w.sns.set i (pH s)}:=by
 unfold fO
 split
 exact .inl Z
 rename_i i s hf
 split
 exact .inl Z
 rw[if_neg I]
 split
 rename_i h0
 obtain⟨h1,h2⟩:=qf hf
 right
 have hix:dT w.sns a.name=some i:=by
  cases hs:dT w.sns a.name with
  |none=>rw[hs]at hf;cases hf
  |some j=>
   rw[hs,cQ]at hf
   cases hj:w.sns[j]? with
   |none=>rw[hj]at hf;cases hf
   |some z=>rw[hj]at hf;cases hf;rfl
 rw[h2]
 rw[h2]at h0
 unfold jl at h0⊢
 cases hft:d6 w.co a.name with
 |none=>rw[hft]at h0;cases h0
 |some q=>
  obtain⟨j,t⟩:=q
  rw[hft]at h0
  dsimp only at h0⊢
  split at h0
  cases h0
  rename_i c1
  rw[if_neg c1]
  cases he:ej (lq (decide (a.n=1))) t with
  |none=>rw[he]at h0;cases h0
  |some t'=>exact⟨i,j,s,t,t',hix,h1,h2,rfl,he,rfl⟩
 exact .inl Z
theorem Ax.finish (h:Ax B np k w) (hok:iD w.co=true) {a:Act} (hl:a.lost=0):Ax B np k (fO w a).1:=by
 rcases wo hl hok with h1|⟨i,j,s,t,t',h1,h2,h3,h4,h5,h6⟩
 rw[h1];exact h
 rw[h6]
 obtain⟨-,hj,hnm⟩:=dR h4
 obtain⟨e1,e2,e3,e4,e5,-⟩:=tV h5
 have hT:=h.txs t (ab hj)
 have g1:=h.stx hj e1 e2 (t':=t') ⟨e3.trans hT.ver,fun q=>absurd q e5,by rw[e4];exact hT.parts⟩ (by rw[e4];exact fun _ q=>q)
 refine Ax.setSn (w:={w with co:=gF w.co j t'}) g1 h2 Z (Pf ((h.sns s (ab h2)).txs' (xE hj e1 e2))) fun _=> .inr fun x hx hxn=> ?_
 rw[Kd hok hj hx (hxn.trans (h3.trans hnm.symm))]
 exact e5
theorem AA (p:Int) (t:Tx):(eH p t).name=t.name/\(eH p t).pid=t.pid/\(eH p t).ver=t.ver/\(∀ q,q∈(eH p t).parts↔q∈t.parts/\q≠p)/\((eH p t).state=1∨(eH p t).state=t.state):=by
 have hm: ∀ q,q∈t.parts.filter (fun q=>decide (q≠p))↔q∈t.parts/\q≠p:=fun q=>by simp[gT]
 unfold eH
 split
 rename_i h0
 refine⟨rfl,rfl,rfl,fun q=> ?_,.inl Z⟩
 rw[<-hm q,List.length_eq_zero_iff.1 h0]
 exact⟨rfl,rfl,rfl,hm,.inr Z⟩
theorem Oq {es:List cd} {x:cd} (h0:x.pid≠0) (hk:x.kind≠1) (h2:(eI es x).2=0) (h1:0<=(eI es x).1) (j:Nat): ¬ jh es j x.pid:=fun ho=>by
 unfold eI at h1 h2
 rw[if_neg h0]at h1 h2
 obtain⟨i1,i2⟩:=iB es x.pid
 cases hp:fv es x.pid with
 |none=>
  obtain⟨e,e1,-,-,e4,e5,-⟩:=ho
  exact e5 (i2 hp e (ab e1) e4)
 |some p=>
  have:=(i1 p hp).least j ho
  rw[hp]at h1 h2
  unfold lB at h1 h2
  dsimp only[qW]at h1 h2
  split at h2
  cases h2
  rename_i c1
  rw[if_neg c1,if_pos hk]at h1
  split at h1
  rename_i c2;omega
  exact absurd h1 (by decide)
theorem qy (t:Tx):(bP t).kind≠1:=by unfold bP;dsimp only;split<;>decide
theorem xz {a:Act} (hok:iD w.co=true) (hc: ∀ p∈w.ps,Cm p):((kg w a).1=w/\ ∀ t,fW w.co.txs a.n.toNat=some t->(ib w (t.parts.headD 0).toNat (bP t)).2.code≠0)∨ ∃ (i:Nat) (t:Tx),fW w.co.txs a.n.toNat=some t/\d6 w.co t.name=some (i,t)/\(t.state=3∨t.state=4)/\t.parts.headD 0∈t.parts/\0<=t.parts.headD 0/\(ib w (t.parts.headD 0).toNat (bP t)).2.code=0/\
  (ib w (t.parts.headD 0).toNat (bP t)).1.co=w.co/\(ib w (t.parts.headD 0).toNat (bP t)).1.sns=w.sns/\(kg w a).1={(ib w (t.parts.headD 0).toNat (bP t)).1 with co:=gF w.co i (eH (t.parts.headD 0) t)}:=by
 unfold kg
 cases ht:fW w.co.txs a.n.toNat with
 |none=>exact .inl ⟨rfl,fun t h=>by cases h⟩
 |some t=>
  obtain⟨⟨i,hf⟩,h34,hp,h0,h4⟩:=sR hok ht
  have e:(nb w.co t.name (t.parts.headD 0)).1=gF w.co i (eH (t.parts.headD 0) t):=by
   unfold nb
   rw[hf]
   dsimp only
   rw[if_pos h34,if_pos hp]
  dsimp only
  split
  rename_i hc0
  refine .inr ⟨i,t,rfl,hf,h34,hp,h0,hc0,?_,?_,by rw[e]⟩
  rcases v7 hc (t.parts.headD 0).toNat (bP t)with⟨h1,-⟩|⟨ep,ps,-,h1,-⟩<;>rw[h1]
  rcases v7 hc (t.parts.headD 0).toNat (bP t)with⟨h1,-⟩|⟨ep,ps,-,h1,-⟩<;>rw[h1]
  rename_i hc0
  rcases v7 hc (t.parts.headD 0).toNat (bP t)with⟨h1,-⟩|⟨ep,ps,h1,-⟩
  exact .inl ⟨h1,fun t2 h2=>by cases h2;exact hc0⟩
  exact absurd h1 hc0
theorem Ax.close (h:Ax B np k w) (hok:iD w.co=true) {i n:Nat} {t:Tx} (hi:w.co.txs[i]? =some t) (h34:t.state=3∨t.state=4) (hno: ∀ j,¬ jh (tm w n) j t.pid):Ax B np k {w with co:=gF w.co i (eH n t)}:=by
 obtain⟨d1,d2,d3,d4,d5⟩:=AA n t
 refine⟨h.ck,fun s hs=>(h.sns s hs).txs' (xE hi d1 d2),fun x hx=> ?_,fun m=>⟨(h.lgs m).each,fun j pid ho=> ?_⟩⟩
 rcases om hx with hx|rfl
 exact h.txs x hx
 have hT:=h.txs t (ab hi)
 exact⟨d3.trans hT.ver,fun q=>by omega,fun q hq=>hT.parts q ((d4 q).1 hq).1⟩
 obtain⟨x,hx,h1,h2⟩:=(h.lgs m).opn j pid ho
 rcases zw (t':=eH n t) hi hx with rfl|hx
 refine⟨_,wd _ hi,d2.trans h1,(d4 _).2 ⟨h2,fun hm=> ?_⟩⟩
 have hm:m=n:=by omega
 subst hm
 rw[<-h1]at ho
 exact hno j ho
 exact⟨x,hx,h1,h2⟩
theorem Ax.mark (h:Ax B np k w) (hok:iD w.co=true) (hc: ∀ p∈w.ps,Cm p) {a:Act}:Ax B np k (kg w a).1:=by
 rcases xz (a:=a) hok hc with⟨h1,-⟩|⟨i,t,h1,h2,h3,h4,h5,h6,h7,h8,h9⟩
 rw[h1];exact h
 obtain⟨-,hi,-⟩:=dR h2
 have hT:=h.txs t (ab hi)
 have hpid:t.pid≠0:=by
  have:=(dp.1 ((dS.1 hok).2.1 t (ab hi))).2.1
  omega
 have hd:((t.parts.headD 0).toNat:Int)=t.parts.headD 0:=by omega
 have g1:Ax B np k (ib w (t.parts.headD 0).toNat (bP t)).1:=h.put hc ⟨hT.ver,aV _⟩ fun _=>⟨t,ab hi,rfl,by rw[hd];exact h4⟩
 have hno: ∀ j,¬ jh (tm (ib w (t.parts.headD 0).toNat (bP t)).1 (t.parts.headD 0).toNat) j t.pid:=fun j=>by
  rcases v7 hc (t.parts.headD 0).toNat (bP t)with⟨b1,b2⟩|⟨ep,ps,-,b1,b2,b3⟩
  rw[b1]
  obtain⟨ep,c1,c2⟩:=b2 h6
  exact Oq (x:={bP t with epoch:=ep}) hpid (qy t) c1 c2 j
  rw[b1,b2,jD]
  rintro(⟨-,-,q⟩|⟨-,q,-⟩)
  exact qy t (q Z)
  exact qy t q
 rw[h9]
 have:=g1.close (by rw[h7];exact hok) (i:=i) (by rw[h7];exact hi) h3 hno
 rw[h7,hd]at this
 exact this
theorem Ax.tick (h:Ax B np k w) (hok:iD w.co=true) (hwt:w.co.wait=1000) (hk:k<=300) {a:Act} (hn:0<=a.n/\a.n<=3):Ax B np (k+1) (uU w a).1:=by
 have e:(gX w.co a.n).1={w.co with clock:=w.co.clock+a.n}:=by
  unfold gX uV
  rw[if_neg I]
  have:w.co.txs.map (fm (w.co.clock+a.n) w.co.wait)=w.co.txs:=by
   rw[BH (g:=id),List.map_id]
   intro t ht
   unfold fm
   have hx:=dp.1 ((dS.1 hok).2.1 t ht)
   have:=h.ck
   rw[if_neg I];rfl
  dsimp only
  rw[this]
 unfold uU
 rw[e]
 exact⟨by have:=h.ck;show w.co.clock+a.n<=_;omega,h.sns,h.txs,h.lgs⟩
theorem RN.put {l:List Sn} {s:Sn} {nm:ByteArray} (h:RN l nm) (hn:s.name≠nm):RN (qv l s) nm:=by
 unfold qv
 split
 rename_i hf
 obtain⟨i,x,h1,h2,h3⟩:=h
 refine⟨i,x,?_,by rw[bU (bZ h2).1];exact h2,h3⟩
 unfold dT at h1⊢
 rw[AM,h1];rfl
 rename_i i hf
 obtain⟨z,hz⟩:=yL hf
 exact h.set hz (tD hf hz).symm fun q=>absurd ((tD hf hz).symm.trans q) hn
theorem LL {l:List Sn} {s x:Sn} (h:x∈qv l s):x∈l∨x=s:=by
 unfold qv at h
 split at h
 rcases ar.1 h with h|h
 exact .inl h
 exact .inr (aq.1 h)
 exact aD h
theorem Ax.init (h:Ax B np k w) {a:Act} (hf: ∀ t∈w.co.txs,t.name≠a.name):Ax B np k (mp w a).1:=by
 unfold mp
 split
 rename_i h0
 unfold bB at h0⊢
 rw[Gq hf]at h0⊢
 dsimp only at h0⊢
 split at h0
 cases h0
 rename_i c1
 rw[if_neg c1]
 have hsub: ∀ x∈w.co.txs,x∈(kN w.co a.name).txs:=fun x hx=>gk _ hx
 refine⟨h.ck,fun s hs=> ?_,fun x hx=> ?_,fun n=>⟨(h.lgs n).each,fun j pid ho=> ?_⟩⟩
 rcases LL hs with hs|rfl
 exact(h.sns s hs).txs' fun x hx=>⟨x,hsub x hx,rfl,rfl⟩
 refine⟨rfl,⟨gH a.name w.co.next,ce _ (aq.2 Z),rfl,rfl⟩,fun x hx=> ?_⟩
 rw[Ki (show x∈ao _ jJ from hx)]
 exact⟨rfl,aV _,fun q=>by cases q⟩
 rcases ar.1 (show x∈w.co.txs++[gH a.name w.co.next]from hx)with hx|hx
 exact⟨(h.txs x hx).ver,fun q=>((h.txs x hx).two q).put fun e=>hf x hx e.symm,(h.txs x hx).parts⟩
 rw[aq.1 hx]
 exact⟨rfl,fun q=>absurd q (by show¬ (1:Int)=2;decide),fun q hq=>by cases hq⟩
 obtain⟨x,hx,h1,h2⟩:=(h.lgs n).opn j pid ho
 exact⟨x,hsub x hx,h1,h2⟩
 exact h
theorem Ax.act {P:ByteArray->Prop} {a:Act} (h:Ax B np k w) (hw:WI np nr 1 1000 k K w) (hcm:Bo P 1000 w) (g:og np nr a) (hl:a.kind=5->a.lost=0) (hi:a.kind=1-> ∀ t∈w.co.txs,t.name≠a.name) (ht:a.kind=3->a.text.size<=B) (h7:a.kind=7->a.n<=3/\k<=300) (h13:a.kind=13->a.n=0) {w':Wa} {x:An} (hA:lS w a w' x):Ax B np (k+1) w':=by
 have hok:=hw.co.ok
 have hc: ∀ p∈w.ps,Cm p:=fun p hp=>(hcm.ps p hp).1
 have hS:=h.mono (ap B) (bz k)
 cases hA with
 |poll x h19 hp=>exact hS
 |other h19=>
  unfold jz
  split
  exact hS.init (hi ‹_›)
  split
  exact hS.begin
  split
  rename_i c;exact hS.send hok hc g.part fun q=>ht (by have:=of_decide_eq_false q;omega)
  split
  exact hS.finish hok (hl ‹_›)
  split
  exact hS.mark hok hc
  split
  rename_i c;exact h.tick hok hcm.co.1 (h7 c).2 ⟨g.n.1,(h7 c).1⟩
  split
  unfold oz
  split
  exact hS
  rename_i p hp
  split
  rename_i h0
  have e:=Ku hp (Kh (hw.ps.gt _ p hp).1.ok (hc p (ab hp)) (by have:=g.kind;omega) h0)
  exact⟨hS.ck,hS.sns,hS.txs,fun n=>by rw[e n];exact hS.lgs n⟩
  exact hS
  unfold AS
  split
  exact⟨hS.ck,hS.sns,hS.txs,hS.lgs⟩
  exact hS
theorem QE:Ax B np 0 (lF np nr 1 1000):=by
 have hl: ∀ n,tm (lF np nr 1 1000) n=[]:=fun n=>by
  unfold tm lF
  dsimp only
  rw[dq]
  split
  simp[l8,dq]
  split<;>rfl
  rfl
 refine⟨by simp[lF],by simp[lF],by simp[lF],fun n=> ?_⟩
 rw[hl n]
 exact⟨by simp,fun j pid ⟨e,he,_⟩=>by simp at he⟩
end
section
/-! a transaction: all of it is there, or nothing -/
def KG:ByteArray:=⟨#[100,101,97,108]⟩
def eT (t:ByteArray):Bool:=decide (4<t.size)&&decide (t.extract 0 4=KG)
def pO (p:Nat) (t:ByteArray):Act:=⟨3,yO,p,0,0,t,0⟩
def sx (pt:Nat->Nat) (τ:Nat->ByteArray) (m:Nat):List Act:=(kR m).map fun j=>pO (pt j) (τ j)
def t7 (pt:Nat->Nat) (m n:Nat):Nat:=(kR m).countP fun j=>decide (pt j=n)
def ni:Act:=⟨2,yO,0,0,0,t0,0⟩
def jY (nm:ByteArray) (n:Int):Act:=⟨5,nm,0,n,0,t0,0⟩
def ei:Act:=⟨6,t0,0,0,0,t0,0⟩
theorem AB (pt:Nat->Nat) (τ:Nat->ByteArray) (m:Nat):sx pt τ (m+1)=sx pt τ m++[pO (pt m) (τ m)]:=by simp[sx,oe]
theorem n6 (pt:Nat->Nat) (τ:Nat->ByteArray) (m:Nat):(sx pt τ m).length=m:=by simp[sx]
theorem zN (pt:Nat->Nat) (m n:Nat):t7 pt (m+1) n=t7 pt m n+if pt m=n then 1 else 0:=by
 unfold t7
 rw[oe,js,g8]
 simp
def zt (Nn:Int) (e:cd):Bool:=decide (e.pid=Nn)&&decide (e.kind=1)
structure DL (Nn:Int) (c:Nat) (sq:Int) (es:List cd):Prop where
 oth: ∀ e∈es,e.pid≠Nn->e.text.size<=4
 own: ∀ e∈es,e.pid=Nn->e.kind=1/\e.txn=true/\eT e.text=true
 cnt:es.countP (zt Nn)=c
 sqc:sq=c
 nx: ∀ ep t,eI es ⟨ep,Nn,0,sq,1,true,t⟩=(-1,0)
theorem DL.add {Nn:Int} {c:Nat} {sq:Int} {es:List cd} {t:ByteArray} (h:DL Nn c sq es) (hN:Nn≠0) (ht:eT t=true) (ep:Int):DL Nn (c+1) (sq+1) (es++[⟨ep,Nn,0,sq,1,true,t⟩]):=by
 refine⟨fun e he hp=> ?_,fun e he hp=> ?_,?_,by rw[h.sqc];omega,fun ep2 t2=> ?_⟩
 rcases ar.1 he with he|he
 exact h.oth e he hp
 rw[aq.1 he]at hp;exact absurd Z hp
 rcases ar.1 he with he|he
 exact h.own e he hp
 rw[aq.1 he];exact⟨rfl,rfl,ht⟩
 rw[js,h.cnt,g8]
 simp[zt]
 obtain⟨p,h1,h2,h3⟩:=Ha (es:=es) (e:=⟨ep,Nn,0,sq,1,true,t⟩) hN Z
 exact EJ (p:=p) hN h1 Z h2 (by rw[h3])
theorem DL.start {Nn:Int} {es:List cd} (hN:Nn≠0) (h: ∀ e∈es,e.pid<Nn) (ht: ∀ e∈es,e.text.size<=4):DL Nn 0 0 es:=by
 refine⟨fun e he _=>ht e he,fun e he hp=> ?_,?_,rfl,fun ep t=>CL hN (Sb h) Z Z⟩
 have:=h e he;omega
 rw[List.countP_eq_zero]
 intro e he
 have:=h e he
 unfold zt
 rw[decide_eq_false (show¬ e.pid=Nn by omega)]
 simp
structure EL (Nn kd:Int) (c:Nat) (es:List cd):Prop where
 oth: ∀ e∈es,e.pid≠Nn->e.text.size<=4
 own: ∀ e∈es,e.pid=Nn->(e.kind=1->e.txn=true/\eT e.text=true)/\(e.kind≠1->e.kind=kd)
 cnt:es.countP (zt Nn)=c
variable {B np nr k:Nat} {wt Nn kd:Int} {K:Nat->List cd} {w w':Wa} {P:ByteArray->Prop} {c:Nat->Nat}
def Lz (np:Nat) (w:Wa):Prop:= ∀ n,n<np-> ∃ p,w.ps[n]? =some p/\p.leader=0
structure Bx (P:ByteArray->Prop) (B np nr k:Nat) (w:Wa):Prop where
 wi: ∃ K,WI np nr 1 1000 k K w
 cm:Bo P 1000 w
 ax:Ax B np k w
structure vQ (P:ByteArray->Prop) (B np nr:Nat) (a:Act):Prop where
 g:og np nr a
 kd:a.kind<=9∨16<=a.kind
 k1:a.kind=1->P a.name
 k5:a.kind=5->a.lost=0
 k3:a.kind=3->a.text.size<=B
 k7:a.kind=7->a.n<=3
theorem Bx.act {a:Act} {x:An} (h:Bx P B np nr k w) (h4:np<=4) (hk:k<=300) (o:vQ P B np nr a) (hi:a.kind=1-> ∀ t∈w.co.txs,t.name≠a.name) (hA:lS w a w' x):Bx P B np nr (k+1) w'/\Ld w w':=by
 obtain⟨K,hw⟩:=h.wi
 obtain⟨K1,-,i1⟩:=Dm hw I h4 o.g hA
 obtain⟨c1,c2⟩:=J2 hw h.cm o.g o.kd o.k1 hA
 exact⟨⟨⟨K1,i1⟩,c1,h.ax.act hw h.cm o.g o.k5 hi o.k3 (fun q=>⟨o.k7 q,hk⟩) (fun q=>by have:=o.kd;omega) hA⟩,c2⟩
theorem Bx.run {l:List Act} {xs:List An} (h:li w l xs w') (h4:np<=4): ∀ {k:Nat},Bx P B np nr k w->k+l.length<=300->(∀ a∈l,vQ P B np nr a/\a.kind≠1)->Bx P B np nr (k+l.length) w'/\Ld w w':=by
 induction h with
 |nil=>intro k hb _ _;exact⟨hb,Ld.refl _⟩
 |@cons w wa wb a x l xs h1 _ ih=>
  intro k hb hk ho
  simp only[bf]at hk
  obtain⟨o1,o2⟩:=ho a (aA ..)
  obtain⟨b1,b2⟩:=hb.act h4 I o1 (fun q=>absurd q o2) h1
  obtain⟨b3,b4⟩:=ih b1 I fun b hb=>ho b (aj _ hb)
  exact⟨by rw[bf,show k+(l.length+1)=k+1+l.length by omega];exact b3,b2.trans b4⟩
theorem Lz.next (h:Lz np w) (hl:Ld w w'):Lz np w':=fun n hn=>by
 obtain⟨p,h1,h2⟩:=h n hn
 exact hl n p h1 h2
theorem Bx.imp {P':ByteArray->Prop} {B':Nat} (h:Bx P B np nr k w) (hP: ∀ s,P s->P' s) (hB:B<=B'):Bx P' B' np nr k w:=⟨h.wi,⟨h.cm.ps,h.cm.sns,h.cm.co.1,fun t ht=>hP _ (h.cm.co.2 t ht)⟩,h.ax.mono hB (ap _)⟩
theorem Ic {n m:Nat} {x:An} (hA:lS w (jb n) w' x) (hm:m≠n):w'.ps[m]? =w.ps[m]? /\w'.co=w.co:=by
 obtain⟨h1,-⟩:=qR hA (by show¬ (13:Int)=19;decide)
 have e1:jz w (jb n)=oz w (jb n):=by simp[jz,jb]
 rw[h1,e1]
 unfold oz
 rw[show(jb n).part.toNat=n from lR n]
 split
 exact⟨rfl,rfl⟩
 split
 exact⟨aO (Ne.symm hm),rfl⟩
 exact⟨rfl,rfl⟩
theorem C2 (q4:np<=4) (n1:1<=nr) (n5:nr<=5): ∀ (j:Nat) {w:Wa} {xs:List An},li (lF np nr 1 1000) (ip j) xs w->j<=np->Bx P B np nr j w/\w.co.txs=[]/\Lz j w/\ ∀ n,j<=n->n<np->w.ps[n]? =some (l8 nr 1)
 |0,w,xs,h,hj=>by
  cases h
  exact⟨⟨⟨_,FN (few:=1) n1 n5 (ap _) n1 (by decide) (by decide)⟩,Ol,QE⟩,rfl,fun n hn=>by omega,fun n _ hn=>by
   show(ao np (l8 nr 1))[n]? =_
   rw[dq,if_pos hn]⟩
 |j+1,w,xs,h,hj=>by
  rw[Az]at h
  obtain⟨us,zs,w1,rfl,r1,r2⟩:=h.split
  obtain⟨b1,b2,b3,b4⟩:=C2 q4 n1 n5 j r1 I
  cases r2 with
  |cons a1 r2=>
   cases r2
   obtain⟨K,hw⟩:=b1.wi
   have g:og np nr (jb j):=(jw (hard:=true) (k:=13) (pt:=j) (n:=0) (m:=0) (lo:=0) (nm:=⟨#[]⟩) (t:=⟨#[]⟩) I (by simp) I (.inl Z)).g
   obtain⟨K1,-,i1⟩:=Dm hw I q4 g a1
   obtain⟨c1,c2,c3⟩:=Pb hw b1.cm a1
   have hax:=b1.ax.act hw b1.cm g (fun q=>absurd q (by show¬ (13:Int)=5;decide)) (fun q=>absurd q (by show¬ (13:Int)=1;decide)) (fun q=>absurd q (by show¬ (13:Int)=3;decide)) (fun q=>absurd q (by show¬ (13:Int)=7;decide)) (fun _=>rfl) a1
   have hco:w.co=w1.co:=(Ic a1 (show j+1≠j by omega)).2
   refine⟨⟨⟨K1,i1⟩,c1,hax⟩,by rw[hco];exact b2,fun n hn=> ?_,fun n h1 h2=> ?_⟩
   rcases fC n j with h1|h1
   obtain⟨p,e1,e2⟩:=b3 n h1
   exact c2 n p e1 e2
   obtain rfl:n=j:=by omega
   exact c3 _ (b4 n (ap _) I) (by show(0:Int)<1073741824;decide)
   rw[(Ic a1 (show n≠j by omega)).1]
   exact b4 n I h2
theorem fewP {l:List ByteArray} (hok:iD w.co=true) (hn: ∀ t∈w.co.txs,t.name∈l):w.co.txs.length<=l.length:=by
 obtain⟨-,-,h3⟩:=dS.1 hok
 unfold rS at h3
 rw[eQ]at h3
 have:=Cc (l:=w.co.txs.map Tx.name) (m:=l) (by rw[eQ];exact h3.imp fun h=>h.1) fun x hx=>by
  obtain⟨t,ht,rfl⟩:=bK.1 hx
  exact hn t ht
 simpa using this
theorem HB {a:Act} {x:An} (h1:a.kind=1) (hl:w.co.txs.length≠8) (hf: ∀ t∈w.co.txs,t.name≠a.name) (hA:lS w a w' x):w'={w with co:=kN w.co a.name,sns:=qv w.sns (rB a.name w.co.next 0 w.ps.length)}:=by
 obtain⟨e,-⟩:=qR hA I
 rw[e]
 unfold jz
 rw[if_pos h1]
 unfold mp
 have:bB w.co a.name=(kN w.co a.name,w.co.next,0,0):=by
  unfold bB
  rw[Gq hf]
  dsimp only
  rw[if_neg hl]
 rw[this,if_pos Z]
theorem NR {n:Nat} {p:gi} {y:RA} {e:cd} (hp:w.ps[n]? =some p) (hok:p.ok) (hc:Cm p) (hf:p.few=1) (hl:p.leader=0) (hy:p.reps[0]? =some y) (hg:lj {e with epoch:=p.epoch}) (hv:eI y.es {e with epoch:=p.epoch}=(-1,0)): ∃ ps,ib w n e=({w with ps:=ps},⟨0,(y.es.length:Nat),[]⟩)/\tm {w with ps:=ps} n=tm w n++[{e with epoch:=p.epoch}]/\ ∀ m,m≠n->tm {w with ps:=ps} m=tm w m:=by
 have h:=FF (e:=e) hok hc hl hf hy hg (by rw[hv])
 rw[hv,if_neg (by decide)]at h
 refine⟨w.ps.set n {p with reps:=p.reps.set 0 {y with es:=y.es++[{e with epoch:=p.epoch}]}},?_,?_,fun m hm=>Jn hm⟩
 unfold ib
 rw[hp]
 dsimp only
 rw[h,if_pos Z]
 rw[ve hp hy]
 exact ve (p:={p with reps:=p.reps.set 0 {y with es:=y.es++[{e with epoch:=p.epoch}]}}) (y:={y with es:=y.es++[{e with epoch:=p.epoch}]}) (ak (bZ hp).1) (ak (bZ hy).1)
theorem Mk {ep pid seq:Int} {t:ByteArray} (h1:0<=ep/\ep<=1073741824) (h2:0<pid/\pid<=1073741824) (h4:0<=seq/\seq<=1073741824) (ht:t.size<=40):lj ⟨ep,pid,0,seq,1,true,t⟩:=by
 unfold lj eA
 rw[if_neg (by show¬ ((1:Int)<1∨3<(1:Int));decide),if_neg,if_neg (by simpa using ht),if_neg]
 unfold cd.noForm
 simp
 omega
 simp[cd.nums,iu]
 omega
structure Ds (Nn:Int) (np:Nat) (b:Bool) (c:Nat->Nat) (w:Wa) (i j:Nat) (s:Sn) (t:Tx):Prop where
 at_:At yO w i s
 pid:s.pid=Nn
 ver:s.ver=0
 inn:s.inn=b
 ls:s.seqs.length=np
 ll:s.last.length=np
 fnd:d6 w.co yO=some (j,t)
 tp:t.pid=Nn
 tv:t.ver=0
 st:t.state=1∨t.state=2
 dl: ∀ n,n<np->DL Nn (c n) (s.seqs.getD n 0) (tm w n)
theorem Pc {x:An} (h:Bx P B np nr k w) (hl:w.co.txs.length≠8) (hf: ∀ t∈w.co.txs,t.name≠yO) (ht: ∀ n,∀ e∈tm w n,e.text.size<=4) (hA:lS w (gQ t0 1 0) w' x): ∃ i j s t,Ds w.co.next np false (fun _=>0) w' i j s t:=by
 obtain⟨K,hw⟩:=h.wi
 have e:=HB (a:=gQ t0 1 0) Z hl hf hA
 subst e
 have hN:w.co.next≠0:=by have:=(dS.1 hw.co.ok).1.2.1;omega
 obtain⟨i,g1,g2⟩:=NT w.sns (rB yO w.co.next 0 w.ps.length)
 refine⟨i,w.co.txs.length,_,_,⟨g1,g2,rfl⟩,rfl,rfl,rfl,?_,?_,Mo (Gq hf),rfl,rfl,.inl Z,fun n hn=> ?_⟩
 show(ao w.ps.length (0:Int)).length=np
 rw[bc];exact hw.ps.len
 show(ao w.ps.length jJ).length=np
 rw[bc];exact hw.ps.len
 have e0:(ao w.ps.length (0:Int)).getD n 0=0:=by
  simp[List.getD,dq]
  split<;>rfl
 show DL w.co.next 0 ((ao w.ps.length (0:Int)).getD n 0) (tm w n)
 rw[e0]
 refine DL.start hN (fun e he=> ?_) (ht n)
 unfold tm at he
 cases hp:w.ps[n]? with
 |none=>rw[hp]at he;cases he
 |some p=>
  cases hy:p.reps[0]? with
  |none=>rw[hp,cQ,hy]at he;cases he
  |some y=>
   rw[hp,cQ,hy]at he
   exact(h.cm.ps p (ab hp)).2 y (ab hy) e he
theorem Ds.begin {i j:Nat} {s:Sn} {t:Tx} {x:An} (h:Ds Nn np false c w i j s t) (hA:lS w ni w' x): ∃ s',Ds Nn np true c w' i j s' t:=by
 obtain⟨e,-⟩:=qR hA (by show¬ (2:Int)=19;decide)
 have e1:jz w ni=jn w ni:=by simp[jz,ni]
 have e2:w'={w with sns:=w.sns.set i {s with inn:=true}}:=by
  rw[e,e1]
  unfold jn
  rw[(show At ni.name w i s from h.at_).find]
  dsimp only
  rw[if_neg (by rw[h.inn];decide)]
 subst e2
 exact⟨{s with inn:=true},h.at_.set (y:={s with inn:=true}) h.at_.nm,h.pid,h.ver,rfl,h.ls,h.ll,h.fnd,h.tp,h.tv,h.st,h.dl⟩
theorem Ds.send {i j p:Nat} {s:Sn} {t:Tx} {x:An} {tx:ByteArray} (h:Ds Nn np true c w i j s t) (hb:Bx P B np nr k w) (hz:Lz np w) (hp:p<np) (htx:eT tx=true) (h40:tx.size<=40) (hN:0<Nn/\Nn<=1073741824) (hc:c p<=1000) (hA:lS w (pO p tx) w' x): ∃ s' t',Ds Nn np true (fun n=>c n+if p=n then 1 else 0) w' i j s' t':=by
 obtain⟨K,hw⟩:=hb.wi
 obtain⟨q,hq,hql⟩:=hz p hp
 have hgt:=(hw.ps.gt p q hq).1
 have hcm:=(hb.cm.ps q (ab hq)).1
 obtain⟨y,hy⟩: ∃ y,q.reps[0]? =some y:=⟨_,ai hgt.ok.n1⟩
 have hD:=h.dl p hp
 have hlg:=ve hq hy
 rw[hlg]at hD
 obtain⟨-,hj,htn⟩:=dR h.fnd
 obtain⟨a1,a2,a3,a4⟩:=AG w.co.clock p t
 have hst:(fy w.co.clock p t).state=2:=by
  unfold fy
  rcases h.st with h1|h1
  rw[if_pos h1]
  rw[if_neg I];exact h1
 have hg:lj (⟨q.epoch,Nn,0,s.seqs.getD p 0,1,true,tx⟩:cd):=Mk ⟨hgt.ok.ep0,hgt.ok.ep1⟩ hN (by rw[hD.sqc];omega) h40
 obtain⟨ps,b1,b2,b3⟩:=NR (w:={w with sns:=w.sns.set i (dk s p tx),co:=gF w.co j (fy w.co.clock p t)}) (e:=⟨0,Nn,0,s.seqs.getD p 0,1,true,tx⟩) hq hgt.ok hcm hgt.few hql hy hg (hD.nx q.epoch tx)
 have hlast:(dk s p tx).last[p]? =some ⟨0,Nn,0,s.seqs.getD p 0,1,true,tx⟩:=by
  show(s.last.set p _)[p]? =_
  rw[ak (by rw[h.ll];exact hp),h.pid,h.ver,h.inn]
 obtain⟨e,-⟩:=qR hA (by show¬ (3:Int)=19;decide)
 have e1:jz w (pO p tx)=gw w (pO p tx) false:=by simp[jz,pO]
 have e2:w'={w with sns:=w.sns.set i (dk s p tx),co:=gF w.co j (fy w.co.clock p t),ps:=ps}:=by
  rw[e,e1]
  unfold gw
  rw[(show At (pO p tx).name w i s from h.at_).find]
  dsimp only
  rw[if_neg (fun q=>by cases q.1),show(pO p tx).part.toNat=p from lR p,if_neg (show¬ (pO p tx).lost=1 by show¬ (0:Int)=1;decide)]
  rw[show(if false=true then s else dk s p (pO p tx).text)=dk s p tx from rfl]
  unfold dw
  rw[hlast]
  dsimp only
  have:lv {w with sns:=w.sns.set i (dk s p tx)} (dk s p tx) p ⟨0,Nn,0,s.seqs.getD p 0,1,true,tx⟩=(gF w.co j (fy w.co.clock p t),0):=by
   unfold lv
   rw[if_pos Z]
   show lw w.co s.name 0 p=_
   rw[h.at_.nm]
   unfold lw
   rw[h.fnd]
   dsimp only
   rw[if_neg (fun q=>q h.tv),if_pos h.st]
  rw[this,if_pos Z,b1]
 subst e2
 have hat:=h.at_.set (y:=dk s p tx) h.at_.nm
 refine⟨dk s p tx,fy w.co.clock p t,⟨hat.ix,hat.sn,hat.nm⟩,h.pid,h.ver,h.inn,?_,?_,OR h.fnd a2,a3.trans h.tp,a4.trans h.tv,.inr hst,fun n hn=> ?_⟩
 show(s.seqs.set p _).length=np
 rw[ae];exact h.ls
 show(s.last.set p _).length=np
 rw[ae];exact h.ll
 show DL Nn _ ((s.seqs.set p (s.seqs.getD p 0+1)).getD n 0) (tm _ n)
 by_cases hpn:p=n
 subst hpn
 rw[if_pos Z,BA (ak (by rw[h.ls];exact hp))]
 have:=hD.add I htx q.epoch
 rw[<-hlg]at this
 have e3:tm {w with sns:=w.sns.set i (dk s p tx),co:=gF w.co j (fy w.co.clock p t),ps:=ps} p=tm w p++[⟨q.epoch,Nn,0,s.seqs.getD p 0,1,true,tx⟩]:=b2
 rw[e3];exact this
 rw[if_neg hpn,mS]
 have e3:tm {w with sns:=w.sns.set i (dk s p tx),co:=gF w.co j (fy w.co.clock p t),ps:=ps} n=tm w n:=b3 n (Ne.symm hpn)
 rw[e3]
 have e4:(s.seqs.set p (s.seqs.getD p 0+1)).getD n 0=s.seqs.getD n 0:=by simp[List.getD,aO hpn]
 rw[e4];exact h.dl n hn
theorem E4 {p:Nat} {t:ByteArray} (hp:p<np) (ht:t.size<=40):vQ P 40 np nr (pO p t):=by
 refine⟨⟨?_,fun q=> ?_,?_,?_,?_,?_,?_,?_,ht,?_⟩,.inl ?_,fun q=> ?_,fun _=>rfl,fun _=>ht,fun q=> ?_⟩
 show(1:Int)<=3/\(3:Int)<=20/\(3:Int)≠17/\((3:Int)<=9∨(3:Int)=13∨(16:Int)<=3);decide
 exact absurd q (by show¬ ((3:Int)=1∨(3:Int)=16∨(3:Int)=18∨(3:Int)=19∨(3:Int)=20);decide)
 show(0:Int)<=(p:Nat)/\((p:Nat):Int)<np;omega
 show(0:Int)<=0/\(0:Int)<=1000;decide
 show(8:Int)<=3->_;omega
 show(3:Int)=5->_;omega
 show(3:Int)=19->_;omega
 show(0:Int)<=0/\(0:Int)<=1000;decide
 show(0:Int)<=0/\(0:Int)<=2;decide
 show(3:Int)<=9;decide
 exact absurd q (by show¬ (3:Int)=1;decide)
 exact absurd q (by show¬ (3:Int)=7;decide)
theorem E3 {i j:Nat} {pt:Nat->Nat} {τ:Nat->ByteArray} (h4:np<=4) (hN:0<Nn/\Nn<=1073741824) (hpt: ∀ j,pt j<np): ∀ (m:Nat) {k:Nat} {w w':Wa} {s:Sn} {t:Tx} {xs:List An},(∀ j,j<m->eT (τ j)=true/\(τ j).size<=40)->li w (sx pt τ m) xs w'->k+m<=300->Bx P 40 np nr k w->Lz np w->Ds Nn np true (fun _=>0) w i j s t->Bx P 40 np nr (k+m) w'/\Lz np w'/\ ∃ s' t',Ds Nn np true (t7 pt m) w' i j s' t'
 |0,k,w,w',s,t,xs,_,h,_,hb,hz,hd=>by cases h;exact⟨hb,hz,s,t,hd⟩
 |m+1,k,w,w',s,t,xs,ht,h,hk,hb,hz,hd=>by
  rw[AB]at h
  obtain⟨us,zs,w1,rfl,r1,r2⟩:=h.split
  obtain⟨b1,z1,s1,t1,d1⟩:=E3 h4 hN hpt m (fun j hj=>ht j I) r1 I hb hz hd
  cases r2 with
  |cons a1 r2=>
   cases r2
   obtain⟨b2,l2⟩:=b1.act h4 I (E4 (hpt m) (ht m I).2) (fun q=>absurd q (by show¬ (3:Int)=1;decide)) a1
   have hcm:t7 pt m (pt m)<=1000:=by
    have:t7 pt m (pt m)<=(kR m).length:=qV
    rw[vS]at this
    omega
   obtain⟨s2,t2,d2⟩:=d1.send b1 z1 (hpt m) (ht m I).1 (ht m I).2 hN hcm a1
   refine⟨b2,z1.next l2,s2,t2,?_⟩
   have:(fun n=>t7 pt m n+if pt m=n then 1 else 0)=t7 pt (m+1):=funext fun n=>(zN pt m n).symm
   rw[<-this];exact d2
end
end Go.Proofs.YtclibalpdhhhfaaGreatDoor
