/- Part 5 of the proofs over this seat: what its theorems say holds for every input that they name. -/
import Derived.Test.YtclibalpdhhhfaaGreatDoorCF4
namespace Go.Proofs.YtclibalpdhhhfaaGreatDoor
open Go Go.Eng Go.RowKit
open Go.Eng renaming nL→U, C6→W, MC→Zr, Q6→Zk, TK→Zt, S9→Zb, Ts→Zx, TS→Yi, TU→Yb, TQ→Ys, TP→Yt, TO→Yu, Ub→Wi, Uc→Wb, T9→Ws, T8→Wt, TY→Zf, T4→Xi, T6→Xa, T5→Xb, T3→Xs, TB→Kt, TC→N, qg→ZT, oY→ZF
open Go.Proofs.Tryz renaming prog→aa
open _root_.List renaming mem_of_getElem?→ab,length_set→ae,getElem?_eq_getElem→ai,mem_cons_of_mem→aj,getElem?_set_self→ak,replicate→ao,mem_singleton→aq,mem_append→ar,length_append→av,mem_cons→ay,mem_cons_self→aA,append_assoc→aB,length_take→aI,getElem?_map→aJ,mem_iff_getElem?→aN,getElem?_set_ne→aO,append_nil→aP,length_replicate→bc,length_cons→bf,map_append→bi,take_length→br,mem_nil_iff→bu,length_singleton→bv,length_map→bF,mem_map→bK,getElem?_eq_none→bL,eq_of_mem_replicate→cT,getElem?_drop→df,ext_getElem?→dg,getElem?_replicate→dq,map_cons→dB,size_toArray→dK,pairwise_map→eQ,take_of_length_le→fD,pairwise_iff_getElem→fF,length_nil→fT,mem_filter→gT,countP_singleton→g8,replicate_succ→iS,countP_append→js,nil_append→jC,flatMap_append→kc,range→kR,range_succ→oe,length_pos_of_mem→pR,countP_le_length→qV,replicate_succ'→rQ,getElem?_range→tg,set_cons_zero→uv,getElem?_eq_none_iff→uQ,length_range→vS,mem_range→AK,sum_cons→Dq,set_cons_succ→Dx
open _root_.Nat renaming le_refl→ap,zero_le→aV,le_trans→aW,zero_add→cC,mul_le_mul_right→cN,lt_or_ge→fC,one_mul→gj,add_zero→mS,le_of_eq→Ff
open _root_.List.Sublist renaming refl→au
open _root_.Option.some renaming inj→aZ
open _root_.Option renaming map_some→dA,map_none→jA,getD_some→qW
set_option maxHeartbeats 4000000
set_option maxRecDepth 20000
set_option linter.unusedSimpArgs false
set_option linter.unusedVariables false
set_option linter.unusedSectionVars false
section
/-! the ends, the markers, and what stands at last -/
variable {B np nr k:Nat} {wt Nn kd:Int} {K:Nat->List cd} {w w':Wa} {P:ByteArray->Prop} {c:Nat->Nat}
structure Ex (Nn kd:Int) (np:Nat) (c:Nat->Nat) (w:Wa):Prop where
 txs: ∀ t∈w.co.txs,t.pid=Nn->t.name=yO/\(t.state=3->kd=2)/\(t.state=4->kd=3)
 lgs: ∀ n,n<np->EL Nn kd (c n) (tm w n)
def SH (nm:ByteArray) (w:Wa):Prop:= ∀ t∈w.co.txs,t.name=nm->t.state≠2
theorem S4 {nm:ByteArray} (h:RN w.sns nm): ∃ i s,At nm w i s/\s.inn=true:=by
 obtain⟨i,s,h1,h2,h3⟩:=h
 exact⟨i,s,⟨h1,h2,tD h1 h2⟩,h3⟩
theorem KB {a:Act} {i j:Nat} {s:Sn} {t:Tx} (hs:At a.name w i s) (hi:s.inn=true) (hl:a.lost=0) (hf:d6 w.co a.name=some (j,t)) (hv:t.ver=s.ver) (h2:t.state=2):(fO w a).1={w with co:=gF w.co j {t with state:=lq (decide (a.n=1))},sns:=w.sns.set i (pH s)}:=by
 have e:jl w.co s.name s.ver (decide (a.n=1))=(gF w.co j {t with state:=lq (decide (a.n=1))},0):=by
  rw[hs.nm]
  unfold jl
  rw[hf]
  dsimp only
  rw[if_neg (fun q=>q hv)]
  unfold ej
  rw[if_pos h2]
 unfold fO
 rw[hs.find]
 dsimp only
 rw[if_neg (by rw[hi];decide),if_neg I,e,if_pos Z,if_pos hl]
theorem GK {nm:ByteArray} {n:Int} {x:An} (hA:lS w (jY nm n) w' x):w'=(fO w (jY nm n)).1:=by
 obtain⟨e,-⟩:=qR hA (by show¬ (5:Int)=19;decide)
 have e1:jz w (jY nm n)=fO w (jY nm n):=by simp[jz,jY]
 rw[e,e1]
theorem IB {x:An} (hA:lS w ei w' x):w'=(kg w ei).1:=by
 obtain⟨e,-⟩:=qR hA (by show¬ (6:Int)=19;decide)
 have e1:jz w ei=kg w ei:=by simp[jz,ei]
 rw[e,e1]
theorem JG {nm:ByteArray} {n:Int} {x:An} (h:Bx P B np nr k w) (hA:lS w (jY nm n) w' x):SH nm w'/\ ∀ m,SH m w->SH m w':=by
 obtain⟨K,hw⟩:=h.wi
 have hok:=hw.co.ok
 rw[GK hA]
 have key: ∀ m,SH m w->SH m (fO w (jY nm n)).1:=fun m hm=>by
  rcases wo (a:=jY nm n) Z hok with h1|⟨i,j,s,t,t',h1,h2,h3,h4,h5,h6⟩
  rw[h1];exact hm
  rw[h6]
  obtain⟨-,hj,hnm⟩:=dR h4
  obtain⟨e1,e2,e3,e4,e5,-⟩:=tV h5
  intro y hy hyn
  rcases om hy with hy|rfl
  exact hm y hy hyn
  exact e5
 refine⟨?_,key⟩
 by_cases h2: ∃ t∈w.co.txs,t.name=nm/\t.state=2
 obtain⟨t,t1,t2,t3⟩:=h2
 have hT:=h.ax.txs t t1
 obtain⟨i,s,s1,s2⟩:=S4 (hT.two t3)
 rw[t2]at s1
 obtain⟨j,hj⟩:=CX hok t1
 rw[t2]at hj
 have hK:=h.ax.sns s (ab s1.sn)
 rw[KB (a:=jY nm n) s1 s2 Z hj (hT.ver.trans hK.ver.symm) t3]
 obtain⟨-,hjt,-⟩:=dR hj
 intro y hy hyn
 rw[Kd hok hjt hy (hyn.trans t2.symm)]
 show lq _≠2
 cases decide ((jY nm n).n=1)<;>decide
 exact key nm fun t ht hn h=>h2 ⟨t,ht,hn,h⟩
theorem Sr {i j:Nat} {s:Sn} {t:Tx} {x:An} {commit:Bool} (h:Ds Nn np true c w i j s t) (hb:Bx P B np nr k w) (hN:Nn≠0) (hA:lS w (jY yO (if commit then 1 else 0)) w' x):Ex Nn (if commit then 2 else 3) np c w':=by
 obtain⟨K,hw⟩:=hb.wi
 have hok:=hw.co.ok
 rw[GK hA]
 obtain⟨-,hj,htn⟩:=dR h.fnd
 have hEL: ∀ n,n<np->EL Nn (if commit then 2 else 3) (c n) (tm w n):=fun n hn=>by
  have:=h.dl n hn
  exact⟨this.oth,fun e he hp=>⟨fun _=>(this.own e he hp).2,fun q=>absurd (this.own e he hp).1 q⟩,this.cnt⟩
 have hnm: ∀ y∈w.co.txs,y.pid=Nn->y=t:=fun y hy hp=>NY hok hy (ab hj) (hp.trans h.tp.symm)
 rcases h.st with h1|h1
 rcases wo (a:=jY yO (if commit then 1 else 0)) Z hok with g1|⟨i2,j2,s2,t2,t',g1,g2,g3,g4,g5,g6⟩
 rw[g1]
 refine⟨fun y hy hp=> ?_,hEL⟩
 rw[hnm y hy hp]
 exact⟨htn,fun q=>by omega,fun q=>by omega⟩
 rw[g6]
 have g4:d6 w.co yO=some (j2,t2):=g4
 rw[h.fnd]at g4
 cases g4
 obtain⟨e1,e2,e3,e4,e5,e6⟩:=tV g5
 have e7:t'.state=1:=(e6 I).trans h1
 refine⟨fun y hy hp=> ?_,hEL⟩
 rcases om hy with hy|rfl
 rw[hnm y hy hp]
 exact⟨htn,fun q=>by omega,fun q=>by omega⟩
 exact⟨e1.trans htn,fun q=>by omega,fun q=>by omega⟩
 rw[KB (a:=jY yO (if commit then 1 else 0)) h.at_ h.inn Z h.fnd (h.tv.trans h.ver.symm) h1]
 refine⟨fun y hy hp=> ?_,hEL⟩
 obtain⟨m,hm⟩:=aN.1 hy
 rcases eZ (show(w.co.txs.set j _)[m]? =some y from hm)with⟨-,rfl⟩|⟨hne,hm⟩
 refine⟨htn,fun q=> ?_,fun q=> ?_⟩
 cases commit
 exact absurd q (by show¬ lq (decide ((0:Int)=1))=3;decide)
 rfl
 cases commit
 rfl
 exact absurd q (by show¬ lq (decide ((1:Int)=1))=4;decide)
 exfalso
 have hm2:w.co.txs[m]? =some y:=hm
 obtain⟨b1,b2⟩:=bZ hm2
 have:=hnm y (ab hm) hp
 subst this
 obtain⟨-,-,h3⟩:=dS.1 hok
 unfold rS at h3
 rw[eQ,fF]at h3
 obtain⟨a1,a2⟩:=bZ hj
 rcases fC m j with hlt|hge
 exact(h3 m j b1 a1 hlt).1 (by rw[a2,b2])
 exact(h3 j m a1 b1 I).1 (by rw[a2,b2])
theorem Ex.fin {nm:ByteArray} {n:Int} {x:An} (h:Ex Nn kd np c w) (hb:Bx P B np nr k w) (hn:nm≠yO) (hA:lS w (jY nm n) w' x):Ex Nn kd np c w':=by
 obtain⟨K,hw⟩:=hb.wi
 rw[GK hA]
 rcases wo (a:=jY nm n) Z hw.co.ok with h1|⟨i,j,s,t,t',h1,h2,h3,h4,h5,h6⟩
 rw[h1];exact h
 rw[h6]
 obtain⟨-,hj,hnm⟩:=dR h4
 obtain⟨e1,e2,-⟩:=tV h5
 refine⟨fun y hy hp=> ?_,h.lgs⟩
 rcases om hy with hy|rfl
 exact h.txs y hy hp
 exact absurd (hnm.symm.trans (h.txs t (ab hj) (e2.symm.trans hp)).1) hn
theorem EL.mark {n:Nat} {es:List cd} {e:cd} (h:EL Nn kd n es) (hk:e.kind≠1) (ht:e.text.size<=4) (hp:e.pid=Nn->e.kind=kd):EL Nn kd n (es++[e]):=by
 refine⟨fun y hy hyp=> ?_,fun y hy hyp=> ?_,?_⟩
 rcases ar.1 hy with hy|hy
 exact h.oth y hy hyp
 rw[aq.1 hy];exact ht
 rcases ar.1 hy with hy|hy
 exact h.own y hy hyp
 rw[aq.1 hy]at hyp⊢
 exact⟨fun q=>absurd q hk,fun _=>hp hyp⟩
 rw[js,h.cnt,g8]
 unfold zt
 rw[decide_eq_false hk]
 simp
theorem Ex.mark {x:An} (h:Ex Nn kd np c w) (hb:Bx P B np nr k w) (hA:lS w ei w' x):Ex Nn kd np c w'/\ ∀ m,SH m w->SH m w':=by
 obtain⟨K,hw⟩:=hb.wi
 have hok:=hw.co.ok
 have hc: ∀ p∈w.ps,Cm p:=fun p hp=>(hb.cm.ps p hp).1
 rw[IB hA]
 rcases xz (a:=ei) hok hc with⟨h1,-⟩|⟨i,t,h1,h2,h3,h4,h5,h6,h7,h8,h9⟩
 rw[h1];exact⟨h,fun _ q=>q⟩
 rw[h9]
 obtain⟨-,hi,-⟩:=dR h2
 have ht:=ab hi
 obtain⟨d1,d2,d3,d4,d5⟩:=AA (t.parts.headD 0) t
 refine⟨⟨fun y hy hp=> ?_,fun n hn=> ?_⟩,fun m hm y hy hyn=> ?_⟩
 rcases om hy with hy|rfl
 exact h.txs y hy hp
 obtain⟨a1,a2,a3⟩:=h.txs t ht (d2.symm.trans hp)
 refine⟨d1.trans a1,fun q=> ?_,fun q=> ?_⟩
 rcases d5 with d5|d5
 omega
 exact a2 (d5.symm.trans q)
 rcases d5 with d5|d5
 omega
 exact a3 (d5.symm.trans q)
 have hE:=h.lgs n hn
 show EL Nn kd (c n) (tm (ib w (t.parts.headD 0).toNat (bP t)).1 n)
 rcases v7 hc (t.parts.headD 0).toNat (bP t)with⟨b1,-⟩|⟨ep,ps,-,b1,b2,b3⟩
 rw[b1];exact hE
 rw[b1]
 by_cases hq:n=(t.parts.headD 0).toNat
 rw[hq,b2,<-hq]
 refine hE.mark (qy t) (aV _) fun q=> ?_
 obtain⟨a1,a2,a3⟩:=h.txs t ht q
 show(if t.state=4 then(3:Int)else 2)=kd
 rcases h3 with h3|h3
 rw[if_neg I];exact(a2 h3).symm
 rw[if_pos h3];exact(a3 h3).symm
 rw[b3 n hq];exact hE
 rcases om hy with hy|rfl
 exact hm y hy hyn
 omega
def PP (w:Wa):Nat:=(w.co.txs.map fun t=>t.parts.length).sum
theorem Ka {α:Type} {f:α->Nat}: ∀ {l:List α} {i:Nat} {t t':α},l[i]? =some t->f t'<f t->((l.set i t').map f).sum<(l.map f).sum
 |[],i,t,t',h,_=>by simp at h
 |x::l,0,t,t',h,hl=>by
  obtain rfl:x=t:=by simpa using h
  simp only[uv,dB,Dq];omega
 |x::l,i+1,t,t',h,hl=>by
  have:=Ka (l:=l) (i:=i) (f:=f) (by simpa using h) hl
  simp only[Dx,dB,Dq];omega
theorem IQ {α:Type} {f:α->Nat} {m:Nat}: ∀ {l:List α},(∀ x∈l,f x<=m)->(l.map f).sum<=l.length*m
 |[],_=>by simp
 |x::l,h=>by
  have h1:=h x (aA ..)
  have h2:=IQ (l:=l) (f:=f) (m:=m) fun y hy=>h y (aj _ hy)
  simp only[dB,Dq,bf,Nat.succ_mul];omega
theorem GU {α:Type} {f:α->Nat}: ∀ {l:List α},(l.map f).sum=0-> ∀ x∈l,f x=0
 |[],_,x,hx=>by cases hx
 |y::l,h,x,hx=>by
  simp only[dB,Dq]at h
  rcases ay.1 hx with rfl|hx
  omega
  exact GU (l:=l) I x hx
theorem If {p:Int} {t:Tx} (h:p∈t.parts):(eH p t).parts.length<t.parts.length:=by
 unfold eH
 split
 exact pR h
 exact List.length_filter_lt_length_iff_exists.2 ⟨p,h,by simp⟩
theorem Mj {ep pid kd:Int} (h1:0<=ep/\ep<=1073741824) (h2:0<pid/\pid<=1073741824) (hk:kd=2∨kd=3):lj ⟨ep,pid,0,0,kd,true,⟨#[]⟩⟩:=by
 unfold lj eA
 rw[if_neg (by show¬ (kd<1∨3<kd);omega),if_neg,if_neg (by show¬ 40<(ByteArray.size ⟨#[]⟩);decide),if_neg]
 unfold cd.noForm
 simp
 omega
 simp[cd.nums,iu]
 omega
theorem KV {es:List cd} {x:cd} (h0:x.pid≠0) (hk:x.kind≠1) (hv: ∀ e∈es,e.ver<=x.ver):(eI es x).2=0:=by
 unfold eI
 rw[if_neg h0]
 have hver: ¬ x.ver<((fv es x.pid).getD ⟨x.ver,-1,-1,-1⟩).ver:=by
  cases hpf:fv es x.pid with
  |none=>show¬ x.ver<x.ver;omega
  |some p=>
   obtain⟨e,he,-,hpv⟩:=((iB es x.pid).1 p hpf).ver
   have:=hv e he
   rw[qW,hpv];omega
 unfold lB
 rw[if_neg hver,if_pos hk]
 split<;>rfl
theorem Oo {t:Tx} (hb:Bx P B np nr k w) (hz:Lz np w) (hk:k<=400) (ht:t∈w.co.txs) (h34:t.state=3∨t.state=4) (hp:t.parts.headD 0∈t.parts) (h0:0<=t.parts.headD 0):(ib w (t.parts.headD 0).toNat (bP t)).2.code=0:=by
 obtain⟨K,hw⟩:=hb.wi
 have hT:=hb.ax.txs t ht
 obtain⟨q,hq,hql⟩:=hz (t.parts.headD 0).toNat (by have:=hT.parts _ hp;omega)
 have hgt:=(hw.ps.gt _ q hq).1
 have hcm:=(hb.cm.ps q (ab hq)).1
 obtain⟨y,hy⟩: ∃ y,q.reps[0]? =some y:=⟨_,ai hgt.ok.n1⟩
 have htx:=dp.1 ((dS.1 hw.co.ok).2.1 t ht)
 have hnx:=hw.co.next
 have hg:lj {bP t with epoch:=q.epoch}:=by
  have:=Mj (kd:=if t.state=4 then 3 else 2) (pid:=t.pid) (ep:=q.epoch) ⟨hgt.ok.ep0,hgt.ok.ep1⟩ ⟨by have:=htx.2.1;omega,by have:=htx.2.2.1;omega⟩ (by split<;>omega)
  unfold bP
  rw[hT.ver]
  exact this
 have hv:(eI y.es {bP t with epoch:=q.epoch}).2=0:=KV (x:={bP t with epoch:=q.epoch}) (by show t.pid≠0;have:=htx.2.1;omega) (qy t) fun e he=>by
  have:=((hb.ax.lgs (t.parts.headD 0).toNat).each e (by rw[ve hq hy];exact he)).1
  show e.ver<=t.ver
  rw[this,hT.ver];decide
 have h:=FF (e:=bP t) hgt.ok hcm hql hgt.few hy hg hv
 unfold ib
 rw[hq]
 dsimp only
 rw[h]
 split<;>rfl
theorem QL {x:An} (hb:Bx P B np nr k w) (hz:Lz np w) (hk:k<=400) (hn: ∀ t∈w.co.txs,t.state≠2) (hA:lS w ei w' x):PP w'<=PP w-1:=by
 obtain⟨K,hw⟩:=hb.wi
 have hok:=hw.co.ok
 have hc: ∀ p∈w.ps,Cm p:=fun p hp=>(hb.cm.ps p hp).1
 rw[IB hA]
 rcases xz (a:=ei) hok hc with⟨h1,h2⟩|⟨i,t,h1,h2,h3,h4,h5,h6,h7,h8,h9⟩
 rw[h1]
 have:PP w=0:=by
  cases hnx:fW w.co.txs 0 with
  |some t=>
   obtain⟨⟨i,hf⟩,h34,hp,h0,h4⟩:=sR hok hnx
   exact absurd (Oo hb hz hk (ab (dR hf).2.1) h34 hp h0) (h2 t hnx)
  |none=>
   unfold PP
   have hall: ∀ t∈w.co.txs,t.parts.length=0:=fun t ht=>by
    have htx:=dp.1 ((dS.1 hok).2.1 t ht)
    have hne:fZ t=false:=by
     cases he:fZ t with
     |false=>rfl
     |true=>
      unfold fW at hnx
      have hm:t∈w.co.txs.filter fZ:=gT.2 ⟨ht,he⟩
      have:=uQ.1 hnx
      have:=pR hm
      omega
    unfold fZ at hne
    have:=hn t ht
    simp at hne
    exact htx.2.2.2.2.2.2.2.2.2.2.1 (by have:=htx.2.2.2.2.1;have:=htx.2.2.2.2.2.1;omega)
   have:=IQ (f:=fun t:Tx=>t.parts.length) (m:=0) fun t ht=>Ff (hall t ht)
   omega
 omega
 rw[h9]
 obtain⟨-,hi,-⟩:=dR h2
 have:PP {(ib w (t.parts.headD 0).toNat (bP t)).1 with co:=gF w.co i (eH (t.parts.headD 0) t)}<PP w:=Ka hi (If h4)
 omega
theorem vw {nm:ByteArray} {n:Int} (hn:n=0∨n=1) (hp:1<=np):vQ P B np nr (jY nm n)/\(jY nm n).kind≠1:=by
 refine⟨⟨⟨?_,fun q=> ?_,?_,?_,?_,?_,?_,?_,?_,?_⟩,.inl ?_,fun q=> ?_,fun _=>rfl,fun q=> ?_,fun q=> ?_⟩,?_⟩
 show(1:Int)<=5/\(5:Int)<=20/\(5:Int)≠17/\((5:Int)<=9∨(5:Int)=13∨(16:Int)<=5);decide
 exact absurd q (by show¬ ((5:Int)=1∨(5:Int)=16∨(5:Int)=18∨(5:Int)=19∨(5:Int)=20);decide)
 show(0:Int)<=0/\(0:Int)<np;omega
 show(0:Int)<=n/\n<=1000;omega
 show(8:Int)<=5->_;omega
 show(5:Int)=5->n<=1;omega
 show(5:Int)=19->_;omega
 show(0:Int)<=0/\(0:Int)<=1000;decide
 show(0:Nat)<=40;decide
 show(0:Int)<=0/\(0:Int)<=2;decide
 show(5:Int)<=9;decide
 exact absurd q (by show¬ (5:Int)=1;decide)
 exact absurd q (by show¬ (5:Int)=3;decide)
 exact absurd q (by show¬ (5:Int)=7;decide)
 show¬ (5:Int)=1;decide
theorem EO (hp:1<=np):vQ P B np nr ei/\ei.kind≠1:=by
 refine⟨⟨⟨?_,fun q=> ?_,?_,?_,?_,?_,?_,?_,?_,?_⟩,.inl ?_,fun q=> ?_,fun q=> ?_,fun q=> ?_,fun q=> ?_⟩,?_⟩
 show(1:Int)<=6/\(6:Int)<=20/\(6:Int)≠17/\((6:Int)<=9∨(6:Int)=13∨(16:Int)<=6);decide
 exact absurd q (by show¬ ((6:Int)=1∨(6:Int)=16∨(6:Int)=18∨(6:Int)=19∨(6:Int)=20);decide)
 show(0:Int)<=0/\(0:Int)<np;omega
 show(0:Int)<=0/\(0:Int)<=1000;decide
 show(8:Int)<=6->_;omega
 show(6:Int)=5->_;omega
 show(6:Int)=19->_;omega
 show(0:Int)<=0/\(0:Int)<=1000;decide
 show(0:Nat)<=40;decide
 show(0:Int)<=0/\(0:Int)<=2;decide
 show(6:Int)<=9;decide
 exact absurd q (by show¬ (6:Int)=1;decide)
 exact absurd q (by show¬ (6:Int)=5;decide)
 exact absurd q (by show¬ (6:Int)=3;decide)
 exact absurd q (by show¬ (6:Int)=7;decide)
 show¬ (6:Int)=1;decide
theorem EN (h4:np<=4) (hp:1<=np): ∀ (m:Nat) {k:Nat} {w w':Wa} {xs:List An},li w (ao m ei) xs w'->k+m<=300->Bx P B np nr k w->Lz np w->Ex Nn kd np c w->(∀ t∈w.co.txs,t.state≠2)->Bx P B np nr (k+m) w'/\Lz np w'/\Ex Nn kd np c w'/\PP w'<=PP w-m
 |0,k,w,w',xs,h,_,hb,hz,he,_=>by cases h;exact⟨hb,hz,he,ap _⟩
 |m+1,k,w,w',xs,h,hk,hb,hz,he,hn=>by
  rw[iS]at h
  cases h with
  |cons a1 r=>
   obtain⟨o1,o2⟩:=EO (P:=P) (B:=B) (np:=np) (nr:=nr) hp
   obtain⟨b1,l1⟩:=hb.act h4 I o1 (fun q=>absurd q o2) a1
   obtain⟨e1,e2⟩:=he.mark hb a1
   have hm:=QL hb hz I hn a1
   obtain⟨b2,z2,e3,m2⟩:=EN h4 hp m r I b1 (hz.next l1) e1 fun t ht=>e2 t.name (fun y hy _=>hn y hy) t ht Z
   exact⟨by rw[show k+(m+1)=k+1+m by omega];exact b2,z2,e3,by omega⟩
theorem NI {l:List Act} {xs:List An} (h:li w l xs w') (h4:np<=4): ∀ {k:Nat},Bx P B np nr k w->k+l.length<=300->(∀ a∈l,vQ P B np nr a/\(a.kind=8∨a.kind=9))->(∀ n,tm w' n=tm w n)/\w'.co=w.co/\Ld w w'/\ ∃ k',Bx P B np nr k' w':=by
 induction h with
 |nil=>intro k hb _ _;exact⟨fun _=>rfl,rfl,Ld.refl _,k,hb⟩
 |@cons w wa wb a x l xs h1 _ ih=>
  intro k hb hk ho
  simp only[bf]at hk
  obtain⟨o1,o2⟩:=ho a (aA ..)
  obtain⟨b1,l1⟩:=hb.act h4 I o1 (fun q=>by omega) h1
  obtain⟨g1,g2,g3,g4⟩:=ih b1 I fun b hb=>ho b (aj _ hb)
  obtain⟨K,hw⟩:=hb.wi
  have key:(∀ n,tm wa n=tm w n)/\wa.co=w.co:=by
   obtain⟨e,-⟩:=qR h1 I
   rw[e]
   unfold jz
   rw[if_neg I,if_neg I,if_neg I,if_neg I,if_neg I,if_neg I,if_pos I]
   unfold oz
   split
   exact⟨fun _=>rfl,rfl⟩
   rename_i p hp
   split
   rename_i h0
   exact⟨Ku hp (Kh (hw.ps.gt _ p hp).1.ok (hb.cm.ps p (ab hp)).1 I h0),rfl⟩
   exact⟨fun _=>rfl,rfl⟩
  exact⟨fun n=>(g1 n).trans (key.1 n),g2.trans key.2,l1.trans g3,g4⟩
end
section
/-! TopAtomic: what stands at last, and what is read of it -/
variable {B np nr k m:Nat} {wt Nn kd:Int} {K:Nat->List cd} {w w':Wa} {P:ByteArray->Prop} {c:Nat->Nat} {pt:Nat->Nat} {τ:Nat->ByteArray} {commit:Bool}
def P1 (s:ByteArray):Prop:=s=mN 0∨s=mN 1
def P2 (s:ByteArray):Prop:=P1 s∨s=yO
theorem Mi {a:Act} (h:xp np nr false a):vQ P 4 np nr a/\a.kind≠1:=by
 obtain⟨h1,h2,h3⟩:=h.calm Z
 refine⟨⟨h.g,h1,fun q=>absurd q h2,fun _=>h3,fun _=> ?_,h.tk⟩,h2⟩
 rcases h.txt with ht|⟨x,ht⟩
 rw[ht];decide
 rw[ht];exact Ek x
theorem ES {nm:ByteArray} (hp:1<=np) (hn:bC nm=true) (hP:P nm):vQ P B np nr (vj nm):=
 ⟨QW hp hn,.inl (by show(1:Int)<=9;decide),fun _=>hP,fun q=>absurd q (by show¬ (1:Int)=5;decide),fun q=>absurd q (by show¬ (1:Int)=3;decide),fun q=>absurd q (by show¬ (1:Int)=7;decide)⟩
theorem LT (hp:1<=np) (hr:1<=nr):vQ P B np nr (Cy (mN 2))/\(Cy (mN 2)).kind≠1:=
 ⟨⟨(jw (hard:=true) (k:=16) (pt:=0) (n:=0) (m:=0) (lo:=0) (nm:=mN 2) (t:=⟨#[]⟩) I (by simp) (fun _=>u7 _) (.inl Z)).g,.inr (by show(16:Int)<=16;decide),fun q=>absurd q (by show¬ (16:Int)=1;decide),fun q=>absurd q (by show¬ (16:Int)=5;decide),fun q=>absurd q (by show¬ (16:Int)=3;decide),fun q=>absurd q (by show¬ (16:Int)=7;decide)⟩,by show¬ (16:Int)=1;decide⟩
theorem Dc (hp:1<=np) (hr:1<=nr):vQ P B np nr ni/\ni.kind≠1:=
 ⟨⟨(jw (hard:=true) (k:=2) (pt:=0) (n:=0) (m:=0) (lo:=0) (nm:=yO) (t:=t0) I (by simp) I (.inl Z)).g,.inl (by show(2:Int)<=9;decide),fun q=>absurd q (by show¬ (2:Int)=1;decide),fun q=>absurd q (by show¬ (2:Int)=5;decide),fun q=>absurd q (by show¬ (2:Int)=3;decide),fun q=>absurd q (by show¬ (2:Int)=7;decide)⟩,by show¬ (2:Int)=1;decide⟩
theorem Ih (hp:1<=np):vQ P2 B np nr (gQ t0 1 0):=
 ⟨Ix hp (.inl Z) (by decide) (by decide),.inl (by show(1:Int)<=9;decide),fun _=> .inr Z,fun q=>absurd q (by show¬ (1:Int)=5;decide),fun q=>absurd q (by show¬ (1:Int)=3;decide),fun q=>absurd q (by show¬ (1:Int)=7;decide)⟩
theorem Ps {l:List Act} {us:List An} (q1:1<=np) (q4:np<=4) (n1:1<=nr) (n5:nr<=5) (hl:l.length<=30) (hb: ∀ a∈l,xp np nr false a) (h:li (lF np nr 1 1000) (oB np++l) us w):Bx P1 4 np nr (np+3+l.length) w/\Lz np w:=by
 obtain⟨us,zs,w2,rfl,r1,r2⟩:=h.split
 unfold oB at r1
 obtain⟨us,zs2,w3,rfl,r3,r4⟩:=r1.split
 obtain⟨b1,t1,z1,-⟩:=C2 (P:=P1) (B:=4) q4 n1 n5 np r3 (ap _)
 cases r4 with
 |cons a1 r4=>cases r4 with
 |cons a2 r4=>cases r4 with
 |cons a3 r4=>
  cases r4
  have f1: ∀ t∈w3.co.txs,t.name≠mN 0:=by rw[t1];simp
  have e1:=HB (a:=vj (mN 0)) Z (by rw[t1];decide) f1 a1
  obtain⟨b2,l2⟩:=b1.act q4 I (ES q1 (u7 0) (.inl Z)) (fun _=>f1) a1
  obtain⟨b3,l3⟩:=b2.act q4 I (ES q1 (u7 1) (.inr Z)) (fun _ t ht=>by
   rw[e1]at ht
   have ht:t∈w3.co.txs++[gH (mN 0) w3.co.next]:=ht
   rw[t1,jC]at ht
   rw[aq.1 ht]
   show mN 0≠mN 1
   decide) a2
  obtain⟨o1,o2⟩:=LT (P:=P1) (B:=4) (np:=np) (nr:=nr) q1 n1
  obtain⟨b4,l4⟩:=b3.act q4 I o1 (fun q=>absurd q o2) a3
  obtain⟨b5,l5⟩:=Bx.run r2 q4 b4 I fun a ha=>Mi (hb a ha)
  exact⟨b5,(((z1.next l2).next l3).next l4).next l5⟩
theorem He {t:Tx} (hq:np<=3) (h:fa (-1) t.parts=true) (hT: ∀ q∈t.parts,q<np):t.parts.length<=3:=by
 obtain⟨h1,h2⟩:=fE h
 exact Cc (l:=t.parts) (m:=[0,1,2]) (h1.imp fun h=>by omega) fun q hq2=>by
  have a1:=h2 q hq2
  have a2:=hT q hq2
  have:q=0∨q=1∨q=2:=by omega
  simpa using this
theorem JV {l rest:List Act} {xs:List An} (q1:1<=np) (q3:np<=3) (n1:1<=nr) (n5:nr<=5) (hl:l.length<=30) (hb: ∀ a∈l,xp np nr false a) (hm:m<=8) (hpt: ∀ j,pt j<np) (hτ: ∀ j,j<m->eT (τ j)=true/\(τ j).size<=40) (hrl:rest.length<=220) (hrest: ∀ a∈rest,vQ P2 40 np nr a/\(a.kind=8∨a.kind=9))
  (h:li (lF np nr 1 1000) (oB np++l++[gQ t0 1 0,ni]++sx pt τ m++[jY yO (if commit then 1 else 0)]++[jY (mN 0) 0,jY (mN 1) 0]++(ao 10 ei++rest)) xs w'):
  ∃ Nn:Int,Nn≠0/\ ∀ n,n<np-> ∃ p y,w'.ps[n]? =some p/\p.leader=0/\p.reps[0]? =some y/\(∀ j pid,¬ jh y.es j pid)/\EL Nn (if commit then 2 else 3) (t7 pt m n) y.es:=by
 have q4:np<=4:=by omega
 obtain⟨us7,zs7,w7,e7_,h7,r7⟩:=h.split
 obtain⟨us6,zs6,w6,e6_,h6,r6⟩:=h7.split
 obtain⟨us5,zs5,w5,e5_,h5,r5⟩:=h6.split
 obtain⟨us4,zs4,w4,e4_,h4,r4⟩:=h5.split
 obtain⟨us3,zs3,w3,e3_,h3,r3⟩:=h4.split
 obtain⟨us8,zs8,w8,e8_,r8,r9⟩:=r7.split
 obtain⟨b1,z1⟩:=Ps q1 q4 n1 n5 hl hb h3
 obtain⟨K3,hw3⟩:=b1.wi
 have f1: ∀ t∈w3.co.txs,t.name≠yO:=fun t ht=>by
  rcases b1.cm.co.2 t ht with h|h<;>rw[h]<;>decide
 have hl2:=fewP (l:=[mN 0,mN 1]) hw3.co.ok fun t ht=>by
  rcases b1.cm.co.2 t ht with h|h<;>rw[h]<;>simp
 have hl8:w3.co.txs.length≠8:=by simp at hl2;omega
 have hN:=(dS.1 hw3.co.ok).1
 have htx: ∀ n,∀ e∈tm w3 n,e.text.size<=4:=fun n e he=>((b1.ax.lgs n).each e he).2
 have b1':Bx P2 40 np nr (np+3+l.length) w3:=b1.imp (fun s hs=> .inl hs) I
 cases r3 with
 |cons a1 r3=>cases r3 with
 |cons a2 r3=>
  cases r3
  obtain⟨i,j,s,t,d1⟩:=Pc b1 hl8 f1 htx a1
  obtain⟨b2,l2⟩:=b1'.act q4 I (Ih q1) (fun _=>f1) a1
  obtain⟨s2,d2⟩:=d1.begin a2
  obtain⟨o1,o2⟩:=Dc (P:=P2) (B:=40) (np:=np) (nr:=nr) q1 n1
  obtain⟨b3,l3⟩:=b2.act q4 I o1 (fun q=>absurd q o2) a2
  obtain⟨b4,z4,s4,t4,d4⟩:=E3 q4 ⟨by omega,hN.2.2.1⟩ hpt m hτ r4 I b3 ((z1.next l2).next l3) d2
  cases r5 with
  |cons a3 r5=>
   cases r5
   have hN0:w3.co.next≠0:=by omega
   have e5:=Sr (commit:=commit) d4 b4 hN0 a3
   obtain⟨x5,-⟩:=JG b4 a3
   obtain⟨o3,o4⟩:=vw (P:=P2) (B:=40) (np:=np) (nr:=nr) (nm:=yO) (n:=if commit then 1 else 0) (by cases commit<;>simp) q1
   obtain⟨b5,l5⟩:=b4.act q4 I o3 (fun q=>absurd q o4) a3
   cases r6 with
   |cons a4 r6=>cases r6 with
   |cons a5 r6=>
    cases r6
    have e6:=e5.fin b5 (nm:=mN 0) (by decide) a4
    obtain⟨x6,y6⟩:=JG b5 a4
    obtain⟨o5,o6⟩:=vw (P:=P2) (B:=40) (np:=np) (nr:=nr) (nm:=mN 0) (n:=0) (.inl Z) q1
    obtain⟨b6,l6⟩:=b5.act q4 I o5 (fun q=>absurd q o6) a4
    have e7:=e6.fin b6 (nm:=mN 1) (by decide) a5
    obtain⟨x7,y7⟩:=JG b6 a5
    obtain⟨o7,o8⟩:=vw (P:=P2) (B:=40) (np:=np) (nr:=nr) (nm:=mN 1) (n:=0) (.inl Z) q1
    obtain⟨b7,l7⟩:=b6.act q4 I o7 (fun q=>absurd q o8) a5
    have z7:=((z4.next l5).next l6).next l7
    have hn2: ∀ t∈w7.co.txs,t.state≠2:=fun t ht=>by
     rcases b7.cm.co.2 t ht with(h|h)|h
     exact y7 _ x6 t ht h
     exact x7 t ht h
     exact y7 _ (y6 _ x5) t ht h
    obtain⟨K7,hw7⟩:=b7.wi
    have hl3:=fewP (l:=[mN 0,mN 1,yO]) hw7.co.ok fun t ht=>by
     rcases b7.cm.co.2 t ht with(h|h)|h<;>rw[h]<;>simp
    have hmu:PP w7<=w7.co.txs.length*3:=IQ fun t ht=>He q3 (dp.1 ((dS.1 hw7.co.ok).2.1 t ht)).2.2.2.2.2.2.2.2.2.1 (b7.ax.txs t ht).parts
    have hl3:w7.co.txs.length<=3:=hl3
    obtain⟨b8,z8,e8,m8⟩:=EN q4 q1 10 r8 I b7 z7 e7 hn2
    obtain⟨g1,g2,g3,k9,b9⟩:=NI r9 q4 b8 I hrest
    have z9:=z8.next g3
    have hp0: ∀ t∈w'.co.txs,t.parts.length=0:=by
     rw[g2]
     exact GU (f:=fun t:Tx=>t.parts.length) (show PP w8=0 by omega)
    refine⟨w3.co.next,hN0,fun n hn=> ?_⟩
    obtain⟨p,hp,hpl⟩:=z9 n hn
    obtain⟨K9,hw9⟩:=b9.wi
    obtain⟨y,hy⟩: ∃ y,p.reps[0]? =some y:=⟨_,ai (hw9.ps.gt n p hp).1.ok.n1⟩
    have hlg:=ve hp hy
    refine⟨p,y,hp,hpl,hy,fun j pid ho=> ?_,?_⟩
    rw[<-hlg]at ho
    obtain⟨t,ht,-,h2⟩:=(b9.ax.lgs n).opn j pid ho
    have:=hp0 t ht
    have:=pR h2
    omega
    rw[<-hlg,g1 n]
    exact e8.lgs n hn
theorem Hy {p:Int}: ∀ {l:List cd},(∃ f∈l,f.kind≠1/\f.pid=p)->(∀ f∈l,f.pid=p->f.kind≠1->f.kind=kd)->vg l p=decide (kd=2)
 |[],h,_=>by obtain⟨f,hf,-⟩:=h;cases hf
 |e::l,h,ha=>by
  rw[rD]
  split
  rename_i hc
  rw[ha e (aA ..) hc.2 hc.1]
  rename_i hc
  obtain⟨f,hf,h1,h2⟩:=h
  rcases ay.1 hf with rfl|hf
  exact absurd ⟨h1,h2⟩ hc
  exact Hy ⟨f,hf,h1,h2⟩ fun g hg=>ha g (aj _ hg)
theorem B3 {n:Nat} {es:List cd} (hN:Nn≠0) (hno: ∀ j pid,¬ jh es j pid) (h:EL Nn kd n es): ∀ b,b<=es.length->(texts es es.length 0 b).countP eT=if kd=2 then(es.take b).countP (zt Nn)else 0
 |0,_=>by rw[qq];simp
 |b+1,hb=>by
  have ih:=B3 hN hno h b I
  obtain⟨e,he⟩: ∃ e,es[b]? =some e:=⟨_,ai I⟩
  have hm:=ab he
  rw[qp (aV _),js,ih,ed he,js,g8]
  have key:(AP es es.length b).countP eT=if kd=2 then(if zt Nn e=true then 1 else 0)else 0:=by
   unfold AP
   rw[he]
   dsimp only
   rw[br]
   by_cases hp:e.pid=Nn
   by_cases hk:e.kind=1
   obtain⟨ht,hd⟩:=(h.own e hm hp).1 hk
   have hmi:zt Nn e=true:=by unfold zt;rw[decide_eq_true hp,decide_eq_true hk];rfl
   have hkept:wV es b e=decide (kd=2):=by
    unfold wV
    rw[ht,hp]
    show(false||vg (es.drop (b+1)) Nn)=_
    rw[Bool.false_or]
    refine Hy ?_ fun f hf hfp hfk=>(h.own f (List.mem_of_mem_drop hf) hfp).2 hfk
    refine Classical.byContradiction fun hn=>hno b Nn ⟨e,he,hk,ht,hp,hN,fun j f hj hf hfp=>Classical.byContradiction fun hfk=>hn ⟨f,?_,hfk,hfp⟩⟩
    refine ab (i:=j- (b+1)) ?_
    rw[df,show b+1+(j- (b+1))=j by omega]
    exact hf
   rw[hkept,hmi,if_pos Z]
   by_cases h2:kd=2
   rw[if_pos h2,if_pos ⟨hk,decide_eq_true h2⟩,g8,if_pos hd]
   rw[if_neg h2,if_neg fun q=>h2 (of_decide_eq_true q.2)];rfl
   have hmi:zt Nn e=false:=by unfold zt;rw[decide_eq_false hk,Bool.and_false]
   rw[if_neg fun q=>hk q.1,hmi]
   simp
   have hmi:zt Nn e=false:=by unfold zt;rw[decide_eq_false hp,Bool.false_and]
   have h4:=h.oth e hm hp
   have hd:eT e.text=false:=by unfold eT;rw[decide_eq_false I,Bool.false_and]
   rw[hmi]
   split
   rw[g8,hd]
   simp
   simp
  rw[key]
  split<;>simp
theorem NP {n:Nat} {es:List cd} (hN:Nn≠0) (hno: ∀ j pid,¬ jh es j pid) (h:EL Nn (if commit then 2 else 3) n es):(texts es es.length 0 es.length).countP eT=if commit then n else 0:=by
 rw[B3 hN hno h es.length (ap _),br,h.cnt]
 cases commit<;>simp
theorem Np {es:List cd} (hno: ∀ j pid,¬ jh es j pid):rW es es.length:=⟨ap _,fun j pid h=>absurd h (hno j pid),.inl Z⟩
end
def sN (p n:Nat):Act:=⟨9,⟨#[]⟩,p,n,0,⟨#[]⟩,0⟩
def xL (p n:Nat):Act:=⟨8,⟨#[]⟩,p,n,0,⟨#[]⟩,0⟩
def iP (p:Nat):Nat->List Act
 |0=>[]
 |n+1=>if 0<n then iP p n++[sN p n]++[xL p n]else iP p n++[sN p n]
def lZ (nr:Nat):Nat->List Act
 |0=>[]
 |p+1=>lZ nr p++iP p nr
def jL (np nr:Nat):Nat->List Act
 |0=>[]
 |t+1=>jL np nr t++lZ nr np
def te (np nr R:Nat):List Act:=ao 10 ei++jL np nr R
theorem OL {p n:Nat} (h: ¬ 0<n):iP p (n+1)=iP p n++[sN p n]:=by rw[iP,if_neg h]
theorem Mg {p n:Nat} (h:0<n):iP p (n+1)=iP p n++[sN p n]++[xL p n]:=by rw[iP,if_pos h]
theorem zA (p n:Nat):(iP p n).length<=2*n:=by
 induction n with
 |zero=>simp[iP]
 |succ n ih=>rw[iP];split<;>simp<;>omega
theorem B5 (nr p:Nat):(lZ nr p).length<=p*(2*nr):=by
 induction p with
 |zero=>simp[lZ]
 |succ p ih=>rw[lZ,av,Nat.succ_mul];have:=zA p nr;omega
theorem ym (np nr t:Nat):(jL np nr t).length<=t*(np*(2*nr)):=by
 induction t with
 |zero=>simp[jL]
 |succ t ih=>rw[jL,av,Nat.succ_mul];have:=B5 nr np;omega
theorem vZ {np nr t:Nat} (h1:np<=3) (h2:nr<=3) (ht:t<=12):np*(2*nr)<=18/\t*(np*(2*nr))<=216:=by
 have h3:np*(2*nr)<=3*6:=Nat.mul_le_mul h1 I
 have h4:t*(np*(2*nr))<=12*18:=Nat.mul_le_mul ht I
 omega
theorem NN (i:Nat):ao i ei++[ei]=ao (i+1) ei:=rQ.symm
theorem Rc {np nr:Nat} {few wt:Int} (w:World) (q3:np<=3) (n3:nr<=3):di aa wD [.agg #[J (((np:Nat):Int)),J (((nr:Nat):Int)),J (few),J (wt)],J 12] w fun v w2=> ∃ (A:Option Addr) (c:Nat) (L:List (Nat×Obj)),v=.slice A (te np nr 12).length c/\gb jo (.slice A (te np nr 12).length c) iR (te np nr 12) L/\Hp w w2 L []:=by
 refine aG vr Z Z ?_
 have H:=Hp.start w
 show CW _ _ _ _ (args [.agg #[J (((np:Nat):Int)),J (((nr:Nat):Int)),J (few),J (wt)],J 12]) w
 refine W<|Zr<|gU H Z Z fun w1 b2 H=>G (Ws Z)<|U<|W<|Zr<|G (Ws Z)<|U<|W<|W<|Zr<|G (Yi Z)<|U<|Zb ?_
 refine bV (τ:=Nat×Option Addr×Nat×List (Nat×Obj)) [5,8,9,10,11,12,13,14] (fun(i,A,c,_)=>[(8,J (i:Nat)),(5,.slice A (ao i ei).length c)]) (fun(i,A,c,L) w'=>i<=10/\gb jo (.slice A (ao i ei).length c) iR (ao i ei) L/\Hp w w' ((b2,.cells #[J (((np:Nat):Int)),J (((nr:Nat):Int)),J (few),J (wt)] iq (0,0))::(L++[])) ([])) (fun(i,_)=>10-i) (0,none,0,[]) ⟨aV _,gb.nil,H⟩ (jT Z Z) ?_
 rintro⟨i,A,c,L⟩ ρ1 w2 ⟨him,ho,H⟩
 show CW _ _ _ _ (dO (ij _ _ ρ1) [(8,J (i:Nat)),(5,.slice A (ao i ei).length c)]) w2
 refine W<|Zr ?_
 refine dZ (cI Z Z) Z Z Z (fun h9=> ?_) (fun h9=> ?_)
 ·
  refine U<|W<|ZT Z<|Zk<|W<|Zb<|Zr<|G (Ys Z)<|G (bp (cs:= #[J (6),.string (⟨#[]⟩),J (0),J (0),J (0),.string (⟨#[]⟩),J (0)]) jg gW N)<|sK (vs:=[.agg #[J (6),.string (⟨#[]⟩),J (0),J (0),J (0),.string (⟨#[]⟩),J (0)]]) H kT gW Z Z Z Z Z Z fun w3 b12 H=>uO (Y:=jo) qj (K:=[(b12,_),(b2,_)]) (L:=L) (M:=[]) H ho (es:=ao i ei) (news:=[ei]) Z Z Z (wL.row (m:=1) (sz:=jo.sz) (H.ent (i:=0) Z) Z) (by simp only[bv,av,bc];omega) Z ?_
  intro A5 c5 w4 L ho5l ho5m ho H
  rw[show ao i ei++[ei]=ao (i+1) ei from NN i]at ho ho5l⊢
  refine G (Ws Z)<|U<|Zr<|G (bn Z Z I I)<|G (Yi Z)<|U ?_
  exact⟨(i+1,A5,c5,L),⟨by omega,ho,H.forget (by repeat (first|exact au _|refine .cons _ ?_)) (fun _ h=>h)⟩,jT Z Z,Qg,by show 10- (i+1)<10-i;omega⟩
 ·
  refine U<|W<|ZF Z<|Zx<|W<|W<|Zr<|G (Yi Z)<|G (Yi Z)<|U<|Zb ?_
  obtain rfl:i=10:=by omega
  rw[show ao 10 ei=(ao 10 ei++jL np nr 0)from(aP _).symm]at ho⊢
  refine bV (τ:=Nat×Option Addr×Nat×List (Nat×Obj)) [5,6,7,16,17,18,19,20,21,22,23,24,25,26,27,28,29,30,31,32,33,34,35,36,37,38,39,40,41,42,43,44] (fun(t,A,c,_)=>[(16,J (t:Nat)),(5,.slice A (ao 10 ei++jL np nr t).length c)]) (fun(t,A,c,L) w'=>t<=12/\gb jo (.slice A (ao 10 ei++jL np nr t).length c) iR (ao 10 ei++jL np nr t) L/\Hp w w' ((b2,.cells #[J (((np:Nat):Int)),J (((nr:Nat):Int)),J (few),J (wt)] iq (0,0))::(L++[])) ([])) (fun(t,_)=>12-t) (0,A,c,L) ⟨aV _,ho,H⟩ (jT Z Z) ?_
  rintro⟨t,A,c,L⟩ ρ1 w5 ⟨htm,ho,H⟩
  show CW _ _ _ _ (dO (ij _ _ ρ1) [(16,J (t:Nat)),(5,.slice A (ao 10 ei++jL np nr t).length c)]) w5
  refine W<|Zr ?_
  refine dZ (cI Z Z) Z Z Z (fun h17=> ?_) (fun h17=> ?_)
  ·
   refine U<|W<|ZT Z<|Zk<|W<|Zb<|W<|Zr<|G (Zf kH Z)<|G (Zd al H 0 Z Z Z)<|G (Yi Z)<|U<|Zb ?_
   have ht12:t<=12:=htm
   rw[show(ao 10 ei++jL np nr t)=(ao 10 ei++jL np nr t++lZ nr 0)from(aP _).symm]at ho⊢
   refine bV (τ:=Nat×Option Addr×Nat×List (Nat×Obj)) [5,6,7,20,21,22,23,24,25,26,27,28,29,30,31,32,33,34,35,36,37,38,39,40,41,42,43] (fun(p,A,c,_)=>[(20,J (p:Nat)),(5,.slice A (ao 10 ei++jL np nr t++lZ nr p).length c)]) (fun(p,A,c,L) w'=>p<=np/\gb jo (.slice A (ao 10 ei++jL np nr t++lZ nr p).length c) iR (ao 10 ei++jL np nr t++lZ nr p) L/\Hp w w' ((b2,.cells #[J (((np:Nat):Int)),J (((nr:Nat):Int)),J (few),J (wt)] iq (0,0))::(L++[])) ([])) (fun(p,_)=>np-p) (0,A,c,L) ⟨aV _,ho,H⟩ (jT Z Z) ?_
   rintro⟨p,A,c,L⟩ ρ1 w6 ⟨hpm,ho,H⟩
   show CW _ _ _ _ (dO (ij _ _ ρ1) [(20,J (p:Nat)),(5,.slice A (ao 10 ei++jL np nr t++lZ nr p).length c)]) w6
   refine W<|Zr ?_
   refine dZ (cI Z Z) Z Z Z (fun h21=> ?_) (fun h21=> ?_)
   ·
    refine U<|W<|ZT Z<|Zk<|W<|Zb<|W<|Zr<|G (Yi Z)<|G (Wi Z)<|U<|W<|Zr<|G (Zf qJ Z)<|G (Zd al H 0 Z Z Z)<|G (Yi Z)<|U<|Zb ?_
    rw[show(ao 10 ei++jL np nr t++lZ nr p)=(ao 10 ei++jL np nr t++lZ nr p++iP p 0)from(aP _).symm]at ho⊢
    refine bV (τ:=Nat×Option Addr×Nat×List (Nat×Obj)) [5,7,25,26,27,28,29,30,31,32,33,34,35,36,37,38,39,40,41,42] (fun(n,A,c,_)=>[(25,J (n:Nat)),(5,.slice A (ao 10 ei++jL np nr t++lZ nr p++iP p n).length c)]) (fun(n,A,c,L) w'=>n<=nr/\gb jo (.slice A (ao 10 ei++jL np nr t++lZ nr p++iP p n).length c) iR (ao 10 ei++jL np nr t++lZ nr p++iP p n) L/\Hp w w' ((b2,.cells #[J (((np:Nat):Int)),J (((nr:Nat):Int)),J (few),J (wt)] iq (0,0))::(L++[])) ([])) (fun(n,_)=>nr-n) (0,A,c,L) ⟨aV _,ho,H⟩ (jT Z Z) ?_
    rintro⟨n,A,c,L⟩ ρ1 w7 ⟨hnm,ho,H⟩
    show CW _ _ _ _ (dO (ij _ _ ρ1) [(25,J (n:Nat)),(5,.slice A (ao 10 ei++jL np nr t++lZ nr p++iP p n).length c)]) w7
    refine W<|Zr ?_
    refine dZ (cI Z Z) Z Z Z (fun h26=> ?_) (fun h26=> ?_)
    ·
     refine U<|W<|ZT Z<|Zk<|W<|Zb<|W<|Zr<|G (Yi Z)<|G (Wi Z)<|U<|W<|Zr<|G (Ys Z)<|G (Yi Z)<|G (Yi Z)<|G (bp (cs:= #[J (9),.string (⟨#[]⟩),J (((p:Nat):Int)),J (((n:Nat):Int)),J (0),.string (⟨#[]⟩),J (0)]) jg gW N)<|sK (vs:=[.agg #[J (9),.string (⟨#[]⟩),J (((p:Nat):Int)),J (((n:Nat):Int)),J (0),.string (⟨#[]⟩),J (0)]]) H kT gW Z Z Z Z Z Z fun w8 b32 H=>uO (Y:=jo) qj (K:=[(b32,_),(b2,_)]) (L:=L) (M:=[]) H ho (es:=(ao 10 ei++jL np nr t++lZ nr p++iP p n)) (news:=[sN p n]) Z Z Z (wL.row (m:=1) (sz:=jo.sz) (H.ent (i:=0) Z) Z) (by simp only[bv,av,bc];have h1:=ym np nr t;have h2:=B5 nr p;have h3:=zA p n;have h4:=vZ q3 n3 ht12;have h5:p*(2*nr)<=4*(2*nr):=cN _ I;omega) Z ?_
     intro A5 c5 w9 L ho5l ho5m ho H
     rw[show(ao 10 ei++jL np nr t++lZ nr p++iP p n)++[sN p n]=((ao 10 ei++jL np nr t++lZ nr p++iP p n)++[sN p n])from rfl]at ho ho5l⊢
     refine G (Ws Z)<|U<|W<|Zr<|G (Yi Z) ?_
     refine dZ (nC Z Z) Z Z Z (fun h35=> ?_) (fun h35=> ?_)
     ·
      refine U<|ZT Z<|Zr<|G (Ys Z)<|G (Yi Z)<|G (Yi Z)<|G (bp (cs:= #[J (8),.string (⟨#[]⟩),J (((p:Nat):Int)),J (((n:Nat):Int)),J (0),.string (⟨#[]⟩),J (0)]) jg gW N)<|sK (vs:=[.agg #[J (8),.string (⟨#[]⟩),J (((p:Nat):Int)),J (((n:Nat):Int)),J (0),.string (⟨#[]⟩),J (0)]]) H kT gW Z Z Z Z Z Z fun w10 b40 H=>uO (Y:=jo) qj (K:=[(b40,_),(b32,_),(b2,_)]) (L:=L) (M:=[]) H ho (es:=((ao 10 ei++jL np nr t++lZ nr p++iP p n)++[sN p n])) (news:=[xL p n]) Z Z Z (wL.row (m:=1) (sz:=jo.sz) (H.ent (i:=0) Z) Z) (by simp only[bv,av,bc];have h1:=ym np nr t;have h2:=B5 nr p;have h3:=zA p n;have h4:=vZ q3 n3 ht12;have h5:p*(2*nr)<=4*(2*nr):=cN _ I;omega) Z ?_
      intro A5 c5 w11 L ho5l ho5m ho H
      rw[show((ao 10 ei++jL np nr t++lZ nr p++iP p n)++[sN p n])++[xL p n]=((ao 10 ei++jL np nr t++lZ nr p++iP p n)++[sN p n]++[xL p n])from rfl]at ho ho5l⊢
      refine G (Ws Z)<|U<|Zr<|G (bn Z Z I I)<|G (Yi Z)<|U ?_
      rw[show(ao 10 ei++jL np nr t++lZ nr p++iP p n)++[sN p n]++[xL p n]=(ao 10 ei++jL np nr t++lZ nr p++iP p (n+1))from by rw[Mg I];simp only[aB]]at ho⊢
      exact⟨(n+1,A5,c5,L),⟨by omega,ho,H.forget (by repeat (first|exact au _|refine .cons _ ?_)) (fun _ h=>h)⟩,jT Z Z,Qg,by show nr- (n+1)<nr-n;omega⟩
     ·
      refine U<|ZF Z<|Zk<|Zr<|G (bn Z Z I I)<|G (Yi Z)<|U ?_
      rw[show(ao 10 ei++jL np nr t++lZ nr p++iP p n)++[sN p n]=(ao 10 ei++jL np nr t++lZ nr p++iP p (n+1))from by rw[OL I];simp only[aB]]at ho⊢
      exact⟨(n+1,A5,c5,L),⟨by omega,ho,H.forget (by repeat (first|exact au _|refine .cons _ ?_)) (fun _ h=>h)⟩,jT Z Z,Qg,by show nr- (n+1)<nr-n;omega⟩
    ·
     refine U<|W<|ZF Z<|Zx<|Zr<|G (bn Z Z I I)<|G (Yi Z)<|U ?_
     obtain rfl:nr=n:=by omega
     rw[show(ao 10 ei++jL np nr t++lZ nr p++iP p nr)=(ao 10 ei++jL np nr t++lZ nr (p+1))from by rw[aB];rfl]at ho⊢
     exact⟨(p+1,A,c,L),⟨by omega,ho,H⟩,jT Z Z,Qg,by show np- (p+1)<np-p;omega⟩
   ·
    refine U<|W<|ZF Z<|Zx<|Zr<|G (bn Z Z I I)<|G (Yi Z)<|U ?_
    obtain rfl:np=p:=by omega
    rw[show(ao 10 ei++jL np nr t++lZ nr np)=(ao 10 ei++jL np nr (t+1))from by rw[aB];rfl]at ho⊢
    exact⟨(t+1,A,c,L),⟨by omega,ho,H⟩,jT Z Z,Qg,by show 12- (t+1)<12-t;omega⟩
  ·
   refine U<|W<|ZF Z<|Zx<|W<|Zr<|G (Ys Z)<|G (Ws Z)<|U<|Zt ?_
   have ht2:t=12:=by omega
   subst ht2
   change gb jo (.slice A (te np nr 12).length c) iR (te np nr 12) L at ho
   exact cU (v:=.slice A (te np nr 12).length c) Z Z ⟨A,c,L,rfl,ho,H.forget (L':=L) (.cons _ (by rw[aP];exact au _)) (by simp)⟩
def vi (j:Nat):List Act:=(kR j).map fun k=>vj (mN k)
theorem Jr (np j:Nat):ip np++vi j++[vj (mN j)]=ip np++vi (j+1):=by unfold vi;rw[oe,bi,aB];rfl
theorem NU (np:Nat):ip np++vi 2++[Cy (mN 2)]=oB np:=by rw[aB];rfl
theorem Of {k:Nat} (h:k<2):(rF [.string ⟨#[97,110,110]⟩,.string ⟨#[98,111,98]⟩]).toArray[0+k*1]? =some (.string (mN k)):=by
 rcases k with _|_|k<;>first|rfl|omega
theorem TA {a:Int}:i64 ((pk a 2:Nat):Int):=by
 have:=lE a (show 0<2 by omega)
 exact⟨by omega,by omega⟩
theorem Rm {np nr most:Nat} {few wt:Int} (l:List J5) (A0:Option Addr) (c0:Nat) (w:World) (p1:1<=np) (p4:np<=4) (n1:1<=nr) (n5:nr<=5) (hm:most<=400) (hr:Rd I3 0 w.heap.size A0 l w) (hok: ∀ r∈l,r.ok):di aa wE [.slice A0 l.length c0,.agg #[J (((np:Nat):Int)),J (((nr:Nat):Int)),J (few),J (wt)],J (most:Nat),.bool false] w fun v w2=> ∃ (body:List Act) (A:Option Addr) (c:Nat) (L:List (Nat×Obj)),v=.slice A (oB np++body).length c/\body.length<=most/\(∀ a∈body,xp np nr false a)/\gb jo (.slice A (oB np++body).length c) iR (oB np++body) L/\Hp w w2 L []:=by
 refine aG vt Z Z ?_
 have H:=Hp.startRd hr
 show CW _ _ _ _ (args [.slice A0 l.length c0,.agg #[J (((np:Nat):Int)),J (((nr:Nat):Int)),J (few),J (wt)],J (most:Nat),.bool false]) w
 refine W<|Zr<|gU H Z Z fun w1 b5 H=>G (Ws Z)<|U<|W<|Zr<|G (Ws Z)<|U<|W<|W<|Zr<|G (Zf kH Z)<|G (Zd al H 0 Z Z Z)<|G (Yi Z)<|U<|Zb ?_
 refine bV (τ:=Nat×Option Addr×Nat×List (Nat×Obj)) [9,10,20,21,22,23,24,25,26,27,28] (fun(i,A,c,_)=>[(20,J (i:Nat)),(9,.slice A (ip i).length c)]) (fun(i,A,c,L) w'=>i<=np/\gb jo (.slice A (ip i).length c) iR (ip i) L/\Hp w w' ((b5,.cells #[J (((np:Nat):Int)),J (((nr:Nat):Int)),J (few),J (wt)] iq (0,0))::(L++[])) ([ee I3 0 w.heap.size A0 l])) (fun(i,_)=>np-i) (0,none,0,[]) ⟨aV _,gb.nil,H⟩ (jT Z Z) ?_
 rintro⟨i,A,c,L⟩ ρ1 w2 ⟨hi,ho,H⟩
 show CW _ _ _ _ (dO (ij _ _ ρ1) [(20,J (i:Nat)),(9,.slice A (ip i).length c)]) w2
 refine W<|Zr ?_
 refine dZ (cI Z Z) Z Z Z (fun h21=> ?_) (fun h21=> ?_)
 refine U<|W<|ZT Z<|Zk<|W<|Zb<|W<|Zr<|G (Yi Z)<|G (Wi Z)<|U<|Zr<|G (Ys Z)<|G (Yi Z)<|G (bp (cs:= #[J (13),.string (⟨#[]⟩),J (((i:Nat):Int)),J (0),J (0),.string (⟨#[]⟩),J (0)]) jg gW N)<|sK (vs:=[.agg #[J (13),.string (⟨#[]⟩),J (((i:Nat):Int)),J (0),J (0),.string (⟨#[]⟩),J (0)]]) H kT gW Z Z Z Z Z Z fun w3 b26 H=>uO (Y:=jo) qj (K:=[(b26,_),(b5,_)]) (L:=L) (M:=[]) H ho (es:=ip i) (news:=[jb i]) Z Z Z (wL.row (m:=1) (sz:=jo.sz) (H.ent (i:=0) Z) Z) (by simp only[bv];rw[nZ];omega) Z ?_
 intro A5 c5 w4 L5 h5 h5m ho5 H
 rw[<-Az]at ho5 h5⊢
 refine G (Ws Z)<|U<|Zr<|G (bn Z Z I I)<|G (Yi Z)<|U ?_
 exact⟨(i+1,A5,c5,L5),⟨by omega,ho5,H.forget (.cons _ (au _)) (fun _ h=>h)⟩,jT Z Z,Qg,by show np- (i+1)<np-i;omega⟩
 refine U<|W<|ZF Z<|Zx<|W<|W<|Zr<|sK (vs:=[.string (⟨#[97,110,110]⟩),.string (⟨#[98,111,98]⟩)]) H g9 yc Z Z Z Z Z Z fun w5 b29 H=>G (bl ku Z)<|G (Yi Z)<|U<|Zb ?_
 obtain rfl:np=i:=by omega
 refine bV (τ:=Nat×Option Addr×Nat×List (Nat×Obj)) [9,12,31,32,33,34,35,36,37,38,39,40] (fun(j,A,c,_)=>[(31,J (j:Nat)),(9,.slice A (ip np++vi j).length c)]) (fun(j,A,c,L) w'=>j<=2/\gb jo (.slice A (ip np++vi j).length c) iR (ip np++vi j) L/\Hp w w' ((b29,.cells #[.string (⟨#[97,110,110]⟩),.string (⟨#[98,111,98]⟩)] lP (0,0))::(b5,.cells #[J (((np:Nat):Int)),J (((nr:Nat):Int)),J (few),J (wt)] iq (0,0))::(L++[])) ([ee I3 0 w.heap.size A0 l])) (fun(j,_)=>2-j) (0,A,c,L) ⟨by omega,by show gb jo (.slice A (ip np++[]).length c) iR (ip np++[]) L;rw[aP];exact ho,H⟩ (jT Z (by show _=Value.slice A (ip np++[]).length c;rw[aP];rfl)) ?_
 rintro⟨j,A,c,L⟩ ρ1 w6 ⟨hj,ho,H⟩
 show CW _ _ _ _ (dO (ij _ _ ρ1) [(31,J (j:Nat)),(9,.slice A (ip np++vi j).length c)]) w6
 refine W<|Zr ?_
 refine dZ (cI Z Z) Z Z Z (fun h32=> ?_) (fun h32=> ?_)
 refine U<|W<|ZT Z<|Zk<|W<|Zb<|W<|Zr<|G (yr g9 Z Z I I)<|G (bd aY Z (aK (H.ent (i:=0) Z) (Of I)))<|G (Wt Z)<|U<|Zr<|G (Ys Z)<|G (Yt Z)<|G (bp (cs:= #[J (1),.string (mN j),J (0),J (0),J (0),.string (⟨#[]⟩),J (0)]) jg gW N)<|sK (vs:=[.agg #[J (1),.string (mN j),J (0),J (0),J (0),.string (⟨#[]⟩),J (0)]]) H kT gW Z Z Z Z Z Z fun w7 b38 H=>uO (Y:=jo) qj (K:=[(b38,_),(b29,_),(b5,_)]) (L:=L) (M:=[]) H ho (es:=ip np++vi j) (news:=[vj (mN j)]) Z Z Z (wL.row (m:=1) (sz:=jo.sz) (H.ent (i:=0) Z) Z) (by simp only[bv];rw[av,nZ];unfold vi;rw[bF,vS];omega) Z ?_
 intro A5 c5 w8 L5 h5 h5m ho5 H
 rw[Jr]at ho5 h5⊢
 refine G (Ws Z)<|U<|Zr<|G (bn Z Z I I)<|G (Yi Z)<|U ?_
 exact⟨(j+1,A5,c5,L5),⟨by omega,ho5,H.forget (.cons _ (au _)) (fun _ h=>h)⟩,jT Z Z,Qg,by show 2- (j+1)<2-j;omega⟩
 refine U<|W<|ZF Z<|Zx<|W ?_
 obtain rfl:j=2:=by omega
 refine Zr<|G (Ys Z)<|G (bp (cs:= #[J (16),.string (⟨#[99,121]⟩),J (0),J (0),J (0),.string (⟨#[]⟩),J (0)]) jg gW N)<|sK (vs:=[.agg #[J (16),.string (⟨#[99,121]⟩),J (0),J (0),J (0),.string (⟨#[]⟩),J (0)]]) H kT gW Z Z Z Z Z Z fun w9 b43 H=>uO (Y:=jo) qj (K:=[(b43,_),(b29,_),(b5,_)]) (L:=L) (M:=[]) H ho (es:=ip np++vi 2) (news:=[Cy (mN 2)]) Z Z Z (wL.row (m:=1) (sz:=jo.sz) (H.ent (i:=0) Z) Z) (by simp only[bv];rw[av,nZ];show(np+2+1)*_<=_;omega) Z ?_
 intro A5 c5 w10 L5 h5 h5m ho5 H
 rw[NU]at ho5 h5⊢
 refine G (Ws Z)<|U<|W<|Zr<|G (Wi Z)<|U<|W<|W<|Zr<|G (Wi Z)<|U<|Zb ?_
 refine bV (τ:=Nat×List Act×Option Addr×Nat×List (Nat×Obj)) [9,14,15,16,17,45,46,47,48,49,50,51,52,53,54,55,56,57,58,59,60,61,62,63,64,65,66,67,68,69,70,71,72,73,74,75,76,77,78,79,80,81,82,83,84,85,86,87,88,89,90,91,92,93,94,95,96,97,98,99,100,101,102,103,104,105,106,107,108,109,110,111,112,113,114,115,116,117,118,119,120,121,122,123,124,125,126,127,128,129,130,131,132,133,134,135,136,137,138,139,140,141,142,143,144,145,146,147,148,149,150,151,152,153,154,155,156,157,158,159,160,161,162,163,164,165,166,167,168,169,170,171,172,173,174,175,176,177,178,179,180,181,182,183,184,185,186,187,188,189,190,191,192,193,194,195,196,197,198,199,200,201,202,203,204,205,206,207,208,209,210,211,212,213,214,215,216,217,218,219,220,221,222,223,224,225,226,227,228,229,230,231,232,233] (fun(i,es,A,c,_)=>[(14,J (i:Nat)),(9,.slice A (oB np++es).length c)]) (fun(i,es,A,c,L) w'=>i<=l.length/\i<=most/\es.length=i/\(∀ a∈es,xp np nr false a)/\gb jo (.slice A (oB np++es).length c) iR (oB np++es) L/\Hp w w' ((b29,.cells #[.string (⟨#[97,110,110]⟩),.string (⟨#[98,111,98]⟩)] lP (0,0))::(b5,.cells #[J (((np:Nat):Int)),J (((nr:Nat):Int)),J (few),J (wt)] iq (0,0))::(L++[])) ([ee I3 0 w.heap.size A0 l])) (fun(i,_)=>l.length-i) (0,[],A5,c5,L5) ⟨aV _,aV _,rfl,by simp,by rw[aP];exact ho5,H.forget (.cons _ (au _)) (fun _ h=>h)⟩ (jT Z (by show _=Value.slice A5 (oB np++[]).length c5;rw[aP];rfl)) ?_
 rintro⟨i,es,A,c,L⟩ ρ1 w11 ⟨hi,him,hel,hes,ho,H⟩
 show CW _ _ _ _ (dO (ij _ _ ρ1) [(14,J (i:Nat)),(9,.slice A (oB np++es).length c)]) w11
 refine W<|W<|Zr<|G (Yi Z)<|G (Ys Z)<|G (bl OB Z) ?_
 refine dZ (cI Z Z) Z Z Z (fun h48=> ?_) (fun h48=> ?_)
 refine G (Yb Z)<|ZG<|G (Yi Z)<|ZG<|G (Yi Z)<|ZG ?_
 refine dZ (cI Z Z) Z Z Z (fun h52=> ?_) (fun h52=> ?_)
 refine G (Kt Z Z)<|U<|ZT Z<|Zk<|W<|Zb<|W ?_
 obtain⟨x,hx⟩: ∃ x,l[i]? =some x:=⟨_,ai I⟩
 have hxo:=hok x (ab hx)
 have hq0:=lE x.a (show 0<2 by omega)
 have hq1:=lE x.c (show 0<2 by omega)
 have hq2:=lE x.c (show 0<3 by omega)
 have hq3:=lE x.c (show 0<4 by omega)
 have hq4:=lE x.c (show 0<5 by omega)
 have hq5:=lE x.c (show 0<6 by omega)
 have hq6:=lE x.c (show 0<40 by omega)
 have hq7:=lE x.a (show 0<nr by omega)
 have hq8:=lE x.b (show 0<np by omega)
 have hq9:=lE x.kind (show 0<30 by omega)
 refine Zr<|G (Ys Z)<|G (Yi Z)<|rE H 0 Z P7 Z Z I I Z fun bq12 o12 x12 e12=> ?_
 obtain rfl:x=x12:=by have:=e12.at_;rw[hx]at this;exact aZ this
 refine G (jF (xs:=J5.cs x) Rl Z Z e12.cl)<|fc H SO Z fun w13 b15 H=>bI H 0 (#[J (x.kind),J (x.a),J (x.b),J (x.c)]) P8 Z Z Z Z Z N N fun w14 H=>U<|W ?_
 refine bG cv [0,1,4,5,6,7,2,3,8,9,10] [11] [2,3,8,10] [0,4,6,9] (sp [(2,Sp.one (J ((pk x.a 2:Nat):Int))),(3,Sp.one (.string (mN (pk ((pk x.a 2:Nat):Int) 3)))),(8,Sp.one (J ((pk x.b np:Nat):Int))),(10,Sp.blk w14.heap.size (.agg #[J 0,.string ⟨#[]⟩,J 0,J 0,J 0,.string ⟨#[]⟩,J 0]) iR)]) N N N N Nq (cG _) ?_
 refine aw Z Z Z Z Z (fun w' hw'=>Zf vA Z)<|aw Z Z Z Z Z (fun w' hw'=>bd al Z (aK ((H.later hw').ent (i:=0) Z) Z))<|aw Z Z Z Z Z (fun w' hw'=>Zf OX Z)<|aw Z Z Z Z Z (fun w' hw'=>bd al Z (aK ((H.later hw').ent (i:=0) Z) Z))<|aw Z Z Z Z Z (fun w' hw'=>Zf kH Z)<|aw Z Z Z Z Z (fun w' hw'=>bd al Z (aK ((H.later hw').ent (i:=2) Z) Z))<|jy bH Z Z Z Z Z (fun w' hw'=>fz x.a 2 w' hxo.2.1.1 hxo.2.1.2 I I) Z<|jy vH Z Z Z Z Z (fun w' hw'=>OD ((pk x.a 2:Nat):Int) w' TA) Z<|jy bH Z Z Z Z Z (fun w' hw'=>fz x.b np w' hxo.2.2.1.1 hxo.2.2.1.2 I I) Z<|aw Z Z Z Z Z (fun w' hw'=>bp (cs:= #[J (0),.string (mN (pk ((pk x.a 2:Nat):Int) 3)),J (((pk x.b np:Nat):Int)),J (0),J (0),.string (⟨#[]⟩),J (0)]) jg gW N)<|y1 gW Z Z Z Z Z (fun w' hw'=>hw'.size) fun b16=>aT ?_
 intro w15 hw' hF
 obtain⟨hF,bq,eq,hge16,hbl16⟩:=hF;cases eq
 obtain⟨hF,-⟩:=hF
 obtain⟨hF,-⟩:=hF
 obtain⟨hF,-⟩:=hF
 have Hb:=H
 replace H:=H.adoptNew hw' hbl16 hge16
 clear hw' hF
 refine bI H 0 (#[J (0),.string (mN (pk ((pk x.a 2:Nat):Int) 3)),J (((pk x.b np:Nat):Int)),J (0),J (0),.string (⟨#[]⟩),J (0)]) oh Z Z Z Z Z N N fun w16 H=>U<|W<|W<|Zr<|G (Yb Z)<|G (Yb Z)<|ZN<|ZN<|ZN<|ZN<|G (N Z Z)<|U<|ZF Z<|Zk<|W<|W<|Zr<|G (Zf OY Z)<|G (Zd al H 1 Z Z Z)<|cE bH (fz x.kind 30 _ hxo.1.1 hxo.1.2 I I) Z Z ?_
 rintro _ w17 ⟨rfl,hb⟩;replace H:=H.later hb;clear hb
 refine G (Wi Z)<|U ?_
 refine gp (τ:=Act) [85,86,87,88,89,90,91,92,93,94,95,96,97,98,99,100,101,102,103,104,105,106,107,108,109,110,111,112,113,114,115,116,117,118,119,120,121,122,123,124,125,126,127,128,129,130,131,132,133,134,135,136,137,138,139,140,141,142,143,144,145,146,147,148,149,150,151,152,153,154,155,156,157,158,159,160,161,162,163,164,165,166,167,168,169,170,171,172,173,174,175,176,177,178,179,180,181,182,183,184,185,186,187,188,189,190,191,192,193,194,195,196,197,198,199,200,201,202,203,204,205,206,207,208,209,210,211,212,213,214,215,216,217,218,219,220,221,222,223,224,225,226,227,228,229] (fun _=>[]) (fun a w'=>xp np nr false a/\Hp w w' ((b16,.cells #[J (a.kind),.string (a.name),J (a.part),J (a.n),J (a.m),.string (a.text),J (a.lost)] iR (0,0))::(b15,.cells #[J (x.kind),J (x.a),J (x.b),J (x.c)] Dn (0,0))::(b29,.cells #[.string (⟨#[97,110,110]⟩),.string (⟨#[98,111,98]⟩)] lP (0,0))::(b5,.cells #[J (((np:Nat):Int)),J (((nr:Nat):Int)),J (few),J (wt)] iq (0,0))::(L++[])) ([ee I3 0 w.heap.size A0 l])) ?_ ?_
 refine Zb<|W<|Zr<|G (Yi Z) ?_
 refine dZ (cI Z Z) Z Z Z (fun h103=> ?_) (fun h103=> ?_)
 refine G (Wb Z)<|U<|ZT Z<|W<|Zr<|G (Zf oW Z)<|bI H 0 (#[J (3),.string (mN (pk ((pk x.a 2:Nat):Int) 3)),J (((pk x.b np:Nat):Int)),J (0),J (0),.string (⟨#[]⟩),J (0)]) bN Z Z Z Z Z N N fun w18 H=>U<|Zr<|G (Zf vz Z)<|G (Zd al H 1 Z Z Z)<|cE vG (PU x.c _ hxo.2.2.2) Z Z ?_
 rintro _ w19 ⟨rfl,hb⟩;replace H:=H.later hb;clear hb
 refine G (Zf C0 Z)<|bI H 0 (#[J (3),.string (mN (pk ((pk x.a 2:Nat):Int) 3)),J (((pk x.b np:Nat):Int)),J (0),J (0),.string (wP x.c),J (0)]) BT Z Z Z Z Z N N fun w20 H=>U ?_
 exact⟨(⟨3,mN (pk ((pk x.a 2:Nat):Int) 3),((pk x.b np:Nat):Int),0,0,wP x.c,0⟩:Act),⟨jw I (fun _=>by omega) (fun _=>u7 _) (.inr ⟨_,rfl⟩),H⟩,FB,Qg⟩
 refine G (Wb Z)<|U<|ZF Z<|W<|Zr<|G (Yi Z) ?_
 refine dZ (cr Z Z) Z Z Z (fun h111=> ?_) (fun h111=> ?_)
 refine G (Wb Z)<|U<|ZT Z<|Zr<|G (Zf oW Z)<|bI H 0 (#[J (4),.string (mN (pk ((pk x.a 2:Nat):Int) 3)),J (((pk x.b np:Nat):Int)),J (0),J (0),.string (⟨#[]⟩),J (0)]) bN Z Z Z Z Z N N fun w21 H=>U ?_
 exact⟨(⟨4,mN (pk ((pk x.a 2:Nat):Int) 3),((pk x.b np:Nat):Int),0,0,⟨#[]⟩,0⟩:Act),⟨jw I (fun _=>by omega) (fun _=>u7 _) (.inl Z),H⟩,FB,Qg⟩
 refine G (Wb Z)<|U<|ZF Z<|W<|Zr<|G (Yi Z) ?_
 refine dZ (cI Z Z) Z Z Z (fun h115=> ?_) (fun h115=> ?_)
 refine G (Wb Z)<|U<|ZT Z<|Zr<|G (Zf oW Z)<|bI H 0 (#[J (2),.string (mN (pk ((pk x.a 2:Nat):Int) 3)),J (((pk x.b np:Nat):Int)),J (0),J (0),.string (⟨#[]⟩),J (0)]) bN Z Z Z Z Z N N fun w22 H=>U ?_
 exact⟨(⟨2,mN (pk ((pk x.a 2:Nat):Int) 3),((pk x.b np:Nat):Int),0,0,⟨#[]⟩,0⟩:Act),⟨jw I (fun _=>by omega) (fun _=>u7 _) (.inl Z),H⟩,FB,Qg⟩
 refine G (Wb Z)<|U<|ZF Z<|W<|Zr<|G (Yi Z) ?_
 refine dZ (cI Z Z) Z Z Z (fun h119=> ?_) (fun h119=> ?_)
 refine G (Wb Z)<|U<|ZT Z<|W<|Zr<|G (Zf oW Z)<|bI H 0 (#[J (5),.string (mN (pk ((pk x.a 2:Nat):Int) 3)),J (((pk x.b np:Nat):Int)),J (0),J (0),.string (⟨#[]⟩),J (0)]) bN Z Z Z Z Z N N fun w23 H=>U<|Zr<|G (Zf vz Z)<|G (Zd al H 1 Z Z Z)<|cE bH (fz x.c 2 _ hxo.2.2.2.1 hxo.2.2.2.2 I I) Z Z ?_
 rintro _ w24 ⟨rfl,hb⟩;replace H:=H.later hb;clear hb
 refine G (Zf fY Z)<|bI H 0 (#[J (5),.string (mN (pk ((pk x.a 2:Nat):Int) 3)),J (((pk x.b np:Nat):Int)),J (((pk x.c 2:Nat):Int)),J (0),.string (⟨#[]⟩),J (0)]) bN Z Z Z Z Z N N fun w25 H=>U ?_
 exact⟨(⟨5,mN (pk ((pk x.a 2:Nat):Int) 3),((pk x.b np:Nat):Int),((pk x.c 2:Nat):Int),0,⟨#[]⟩,0⟩:Act),⟨jw I (fun _=>by omega) (fun _=>u7 _) (.inl Z),H⟩,FB,Qg⟩
 refine G (Wb Z)<|U<|ZF Z<|W<|Zr<|G (Yi Z) ?_
 refine dZ (cI Z Z) Z Z Z (fun h127=> ?_) (fun h127=> ?_)
 refine G (Wb Z)<|U<|ZT Z<|Zr<|G (Zf vA Z)<|G (Zd al H 1 Z Z Z)<|cE bH (fz x.a 2 _ hxo.2.1.1 hxo.2.1.2 I I) Z Z ?_
 rintro _ w26 ⟨rfl,hb⟩;replace H:=H.later hb;clear hb
 refine G (bp (cs:= #[J (6),.string (⟨#[]⟩),J (0),J (((pk x.a 2:Nat):Int)),J (0),.string (⟨#[]⟩),J (0)]) jg gW N)<|bI H 0 (#[J (6),.string (⟨#[]⟩),J (0),J (((pk x.a 2:Nat):Int)),J (0),.string (⟨#[]⟩),J (0)]) oh Z Z Z Z Z N N fun w27 H=>U ?_
 exact⟨(⟨6,⟨#[]⟩,0,((pk x.a 2:Nat):Int),0,⟨#[]⟩,0⟩:Act),⟨jw I (fun _=>by omega) (fun h=>by omega) (.inl Z),H⟩,FB,Qg⟩
 refine G (Wb Z)<|U<|ZF Z<|W<|Zr<|G (Yi Z) ?_
 refine dZ (cI Z Z) Z Z Z (fun h134=> ?_) (fun h134=> ?_)
 refine G (Wb Z)<|U<|ZT Z ?_
 refine bG cv [0,1,2,3,4,5,6,7] [8] [6] [0,2,4,7] (sp [(6,Sp.one (J ((pk x.a nr:Nat):Int)))]) N N N N Nq (cG _) ?_
 refine aw Z Z Z Z Z (fun w' hw'=>Zf ez Z)<|aw Z Z Z Z Z (fun w' hw'=>bd al Z (aK ((H.later hw').ent (i:=0) Z) Z))<|aw Z Z Z Z Z (fun w' hw'=>Zf vA Z)<|aw Z Z Z Z Z (fun w' hw'=>bd al Z (aK ((H.later hw').ent (i:=1) Z) Z))<|aw Z Z Z Z Z (fun w' hw'=>Zf qJ Z)<|aw Z Z Z Z Z (fun w' hw'=>bd al Z (aK ((H.later hw').ent (i:=3) Z) Z))<|jy bH Z Z Z Z Z (fun w' hw'=>fz x.a nr w' hxo.2.1.1 hxo.2.1.2 I I) Z<|aw Z Z Z Z Z (fun w' hw'=>bp (cs:= #[J (8),.string (⟨#[]⟩),J (((pk x.b np:Nat):Int)),J (((pk x.a nr:Nat):Int)),J (0),.string (⟨#[]⟩),J (0)]) jg gW N)<|aT ?_
 intro w28 hw' hF
 replace H:=H.later hw';clear hw' hF
 refine bI H 0 (#[J (8),.string (⟨#[]⟩),J (((pk x.b np:Nat):Int)),J (((pk x.a nr:Nat):Int)),J (0),.string (⟨#[]⟩),J (0)]) oh Z Z Z Z Z N N fun w29 H=>U ?_
 exact⟨(⟨8,⟨#[]⟩,((pk x.b np:Nat):Int),((pk x.a nr:Nat):Int),0,⟨#[]⟩,0⟩:Act),⟨jw I (fun _=>by omega) (fun h=>by omega) (.inl Z),H⟩,FB,Qg⟩
 refine G (Wb Z)<|U<|ZF Z<|W<|Zr<|G (Yi Z) ?_
 refine dZ (cI Z Z) Z Z Z (fun h145=> ?_) (fun h145=> ?_)
 refine G (Wb Z)<|U<|ZT Z ?_
 refine bG cv [0,1,2,3,4,5,6,7] [8] [6] [0,2,4,7] (sp [(6,Sp.one (J ((pk x.a nr:Nat):Int)))]) N N N N Nq (cG _) ?_
 refine aw Z Z Z Z Z (fun w' hw'=>Zf ez Z)<|aw Z Z Z Z Z (fun w' hw'=>bd al Z (aK ((H.later hw').ent (i:=0) Z) Z))<|aw Z Z Z Z Z (fun w' hw'=>Zf vA Z)<|aw Z Z Z Z Z (fun w' hw'=>bd al Z (aK ((H.later hw').ent (i:=1) Z) Z))<|aw Z Z Z Z Z (fun w' hw'=>Zf qJ Z)<|aw Z Z Z Z Z (fun w' hw'=>bd al Z (aK ((H.later hw').ent (i:=3) Z) Z))<|jy bH Z Z Z Z Z (fun w' hw'=>fz x.a nr w' hxo.2.1.1 hxo.2.1.2 I I) Z<|aw Z Z Z Z Z (fun w' hw'=>bp (cs:= #[J (9),.string (⟨#[]⟩),J (((pk x.b np:Nat):Int)),J (((pk x.a nr:Nat):Int)),J (0),.string (⟨#[]⟩),J (0)]) jg gW N)<|aT ?_
 intro w30 hw' hF
 replace H:=H.later hw';clear hw' hF
 refine bI H 0 (#[J (9),.string (⟨#[]⟩),J (((pk x.b np:Nat):Int)),J (((pk x.a nr:Nat):Int)),J (0),.string (⟨#[]⟩),J (0)]) oh Z Z Z Z Z N N fun w31 H=>U ?_
 exact⟨(⟨9,⟨#[]⟩,((pk x.b np:Nat):Int),((pk x.a nr:Nat):Int),0,⟨#[]⟩,0⟩:Act),⟨jw I (fun _=>by omega) (fun h=>by omega) (.inl Z),H⟩,FB,Qg⟩
 refine G (Wb Z)<|U<|ZF Z<|W<|Zr<|G (Yi Z) ?_
 refine dZ (cI Z Z) Z Z Z (fun h156=> ?_) (fun h156=> ?_)
 refine G (Wb Z)<|U<|ZT Z ?_
 refine bG cv [0,1,2,3,4,5,6] [7] [4] [0,2,5,6] (sp [(4,Sp.one (J ((pk x.c 5:Nat):Int)))]) N N N N Nq (cG _) ?_
 refine aw Z Z Z Z Z (fun w' hw'=>Zf ez Z)<|aw Z Z Z Z Z (fun w' hw'=>bd al Z (aK ((H.later hw').ent (i:=0) Z) Z))<|aw Z Z Z Z Z (fun w' hw'=>Zf vz Z)<|aw Z Z Z Z Z (fun w' hw'=>bd al Z (aK ((H.later hw').ent (i:=1) Z) Z))<|jy bH Z Z Z Z Z (fun w' hw'=>fz x.c 5 w' hxo.2.2.2.1 hxo.2.2.2.2 I I) Z<|aw Z Z Z Z Z (fun w' hw'=>bn Z Z I I)<|aw Z Z Z Z Z (fun w' hw'=>bp (cs:= #[J (19),.string (⟨#[99,121]⟩),J (((pk x.b np:Nat):Int)),J (1+(((pk x.c 5:Nat):Int))),J (0),.string (⟨#[]⟩),J (0)]) jg gW N)<|aT ?_
 intro w32 hw' hF
 replace H:=H.later hw';clear hw' hF
 refine bI H 0 (#[J (19),.string (⟨#[99,121]⟩),J (((pk x.b np:Nat):Int)),J (1+(((pk x.c 5:Nat):Int))),J (0),.string (⟨#[]⟩),J (0)]) oh Z Z Z Z Z N N fun w33 H=>U ?_
 exact⟨(⟨19,⟨#[99,121]⟩,((pk x.b np:Nat):Int),1+(((pk x.c 5:Nat):Int)),0,⟨#[]⟩,0⟩:Act),⟨jw I (fun _=>by omega) (fun _=>Bu) (.inl Z),H⟩,FB,Qg⟩
 refine G (Wb Z)<|U<|ZF Z<|W<|Zr<|G (Yi Z) ?_
 refine dZ (cr Z Z) Z Z Z (fun h166=> ?_) (fun h166=> ?_)
 refine G (Wb Z)<|U<|ZT Z ?_
 refine bG cv [0,1,2,3,4,5,6] [7] [5] [0,1,3,6] (sp [(5,Sp.one (J ((pk x.c 6:Nat):Int)))]) N N N N Nq (cG _) ?_
 refine aw Z Z Z Z Z (fun w' hw'=>Yi Z)<|aw Z Z Z Z Z (fun w' hw'=>Zf ez Z)<|aw Z Z Z Z Z (fun w' hw'=>bd al Z (aK ((H.later hw').ent (i:=0) Z) Z))<|aw Z Z Z Z Z (fun w' hw'=>Zf vz Z)<|aw Z Z Z Z Z (fun w' hw'=>bd al Z (aK ((H.later hw').ent (i:=1) Z) Z))<|jy bH Z Z Z Z Z (fun w' hw'=>fz x.c 6 w' hxo.2.2.2.1 hxo.2.2.2.2 I I) Z<|aw Z Z Z Z Z (fun w' hw'=>bp (cs:= #[J (20),.string (⟨#[99,121]⟩),J (((pk x.b np:Nat):Int)),J (1),J (((pk x.c 6:Nat):Int)),.string (⟨#[]⟩),J (0)]) jg gW N)<|aT ?_
 intro w34 hw' hF
 replace H:=H.later hw';clear hw' hF
 refine bI H 0 (#[J (20),.string (⟨#[99,121]⟩),J (((pk x.b np:Nat):Int)),J (1),J (((pk x.c 6:Nat):Int)),.string (⟨#[]⟩),J (0)]) oh Z Z Z Z Z N N fun w35 H=>U ?_
 exact⟨(⟨20,⟨#[99,121]⟩,((pk x.b np:Nat):Int),1,((pk x.c 6:Nat):Int),⟨#[]⟩,0⟩:Act),⟨jw I (fun _=>by omega) (fun _=>Bu) (.inl Z),H⟩,FB,Qg⟩
 refine G (Wb Z)<|U<|ZF Z<|W<|Zr<|G (Yi Z) ?_
 refine dZ (cr Z Z) Z Z Z (fun h176=> ?_) (fun h176=> ?_)
 refine G (Wb Z)<|U<|ZT Z<|Zr<|G (Zf vz Z)<|G (Zd al H 1 Z Z Z)<|cE bH (fz x.c 4 _ hxo.2.2.2.1 hxo.2.2.2.2 I I) Z Z ?_
 rintro _ w36 ⟨rfl,hb⟩;replace H:=H.later hb;clear hb
 refine G (bp (cs:= #[J (7),.string (⟨#[]⟩),J (0),J (((pk x.c 4:Nat):Int)),J (0),.string (⟨#[]⟩),J (0)]) jg gW N)<|bI H 0 (#[J (7),.string (⟨#[]⟩),J (0),J (((pk x.c 4:Nat):Int)),J (0),.string (⟨#[]⟩),J (0)]) oh Z Z Z Z Z N N fun w37 H=>U ?_
 exact⟨(⟨7,⟨#[]⟩,0,((pk x.c 4:Nat):Int),0,⟨#[]⟩,0⟩:Act),⟨jw I (fun _=>by omega) (fun h=>by omega) (.inl Z),H⟩,FB,Qg⟩
 refine G (Wb Z)<|U<|ZF Z<|W<|Zr<|G (Yi Z) ?_
 refine dZ (cr Z Z) Z Z Z (fun h183=> ?_) (fun h183=> ?_)
 refine G (Wb Z)<|U<|ZT Z<|Zr<|G (Yi Z)<|G (bp (cs:= #[J (18),.string (⟨#[99,121]⟩),J (0),J (1),J (0),.string (⟨#[]⟩),J (0)]) jg gW N)<|bI H 0 (#[J (18),.string (⟨#[99,121]⟩),J (0),J (1),J (0),.string (⟨#[]⟩),J (0)]) oh Z Z Z Z Z N N fun w38 H=>U ?_
 exact⟨(⟨18,⟨#[99,121]⟩,0,1,0,⟨#[]⟩,0⟩:Act),⟨jw I (fun _=>by omega) (fun _=>Bu) (.inl Z),H⟩,FB,Qg⟩
 refine G (Wb Z)<|U<|ZF Z<|W<|Zr<|G (Yb Z)<|G (d9 Z)<|G (Wb Z)<|U<|ZT Z ?_
 refine bG cv [0,1,2,3,4,5,6,7] [8] [6] [0,2,4,7] (sp [(6,Sp.one (J ((pk x.a nr:Nat):Int)))]) N N N N Nq (cG _) ?_
 refine aw Z Z Z Z Z (fun w' hw'=>Zf ez Z)<|aw Z Z Z Z Z (fun w' hw'=>bd al Z (aK ((H.later hw').ent (i:=0) Z) Z))<|aw Z Z Z Z Z (fun w' hw'=>Zf vA Z)<|aw Z Z Z Z Z (fun w' hw'=>bd al Z (aK ((H.later hw').ent (i:=1) Z) Z))<|aw Z Z Z Z Z (fun w' hw'=>Zf qJ Z)<|aw Z Z Z Z Z (fun w' hw'=>bd al Z (aK ((H.later hw').ent (i:=3) Z) Z))<|jy bH Z Z Z Z Z (fun w' hw'=>fz x.a nr w' hxo.2.1.1 hxo.2.1.2 I I) Z<|aw Z Z Z Z Z (fun w' hw'=>bp (cs:= #[J (9),.string (⟨#[]⟩),J (((pk x.b np:Nat):Int)),J (((pk x.a nr:Nat):Int)),J (0),.string (⟨#[]⟩),J (0)]) jg gW N)<|aT ?_
 intro w39 hw' hF
 replace H:=H.later hw';clear hw' hF
 refine bI H 0 (#[J (9),.string (⟨#[]⟩),J (((pk x.b np:Nat):Int)),J (((pk x.a nr:Nat):Int)),J (0),.string (⟨#[]⟩),J (0)]) oh Z Z Z Z Z N N fun w40 H=>U ?_
 exact⟨(⟨9,⟨#[]⟩,((pk x.b np:Nat):Int),((pk x.a nr:Nat):Int),0,⟨#[]⟩,0⟩:Act),⟨jw I (fun _=>by omega) (fun h=>by omega) (.inl Z),H⟩,FB,Qg⟩
 rintro a ρ1 w41 ⟨hga,H⟩
 show CW _ _ _ _ (dO (ij _ _ ρ1) []) w41
 refine Zr<|G (Ys Z)<|G (Zw jd H 0 Z Z Z)<|sK (vs:=[.agg #[J (a.kind),.string (a.name),J (a.part),J (a.n),J (a.m),.string (a.text),J (a.lost)]]) H kT gW Z Z Z Z Z Z fun w42 b232 H=>uO (Y:=jo) qj (K:=[(b232,_),(b16,_),(b15,_),(b29,_),(b5,_)]) (L:=L) (M:=[]) H ho (es:=oB np++es) (news:=[a]) Z Z Z (wL.row (m:=1) (sz:=jo.sz) (H.ent (i:=0) Z) Z) (by simp only[bv];rw[av];unfold oB;rw[av,nZ];show(np+3+es.length+1)*_<=_;omega) Z ?_
 intro A5 c5 w43 L5 h5 h5m ho5 H
 rw[aB]at ho5 h5⊢
 refine G (Ws Z)<|U<|Zr<|G (Yi Z)<|G (bn Z Z I I)<|G (Wi Z)<|U ?_
 exact⟨(i+1,es++[a],A5,c5,L5),⟨by omega,by omega,by rw[av,hel];rfl,fun y hy=>(by rcases ar.1 hy with hy|hy;exact hes y hy;rw[aq.1 hy];exact hga),ho5,H.forget (.cons _ (.cons _ (.cons _ (au _)))) (fun _ h=>h)⟩,jT Z Z,Qg,by show l.length- (i+1)<l.length-i;omega⟩
 refine G (Kt Z Z)<|U<|ZF Z<|Zx<|W<|Zr<|G (Ys Z)<|G (Ws Z)<|U<|Zt ?_
 exact cU (v:=.slice A (oB np++es).length c) Z Z ⟨es,A,c,L,rfl,by omega,hes,ho,H.forget (L':=L) (.cons _ (.cons _ (by rw[aP];exact au _))) (by simp)⟩
 refine G (Yb Z)<|ZN<|ZN<|ZN<|G (N Z Z)<|U<|ZF Z<|Zx<|W<|Zr<|G (Ys Z)<|G (Ws Z)<|U<|Zt ?_
 exact cU (v:=.slice A (oB np++es).length c) Z Z ⟨es,A,c,L,rfl,by omega,hes,ho,H.forget (L':=L) (.cons _ (.cons _ (by rw[aP];exact au _))) (by simp)⟩
theorem FH (np:Nat) (body:List Act):(oB np++body).length=np+3+body.length:=by rw[av];unfold oB;rw[av,nZ];rfl
theorem BF (es:List Act) (hl:es.length<=1000):d8 jo es es.length (jo.all es).toArray:=⟨by rw[dK,fu.length],by rw[List.toList_toArray];exact fD (by rw[fu.length];exact ap _),ap _,by simp only[maxLen];omega⟩
theorem B1 {P:Program} (w:World) (t:TypeId) (s:ByteArray) (k':IntKind) (j:Int) (h:P.underlying t=some .string) (h0:0<=j) (h2:j<=s.size):(Instr.slice t (.string s) none (some (.int k' j)) none).run P w=.ok (.string (s.extract 0 j.toNat)) w:=by
 have hj:0<=j/\j<=(s.size:Int):=⟨h0,h2⟩
 simp[Instr.slice,Instr.sliceBounds,Instr.sliceBound,asIntOf,run_underlying h,hj]
theorem ST {P:Program} {ρ:gV} {w:World} {t:TypeId} {p:String} {af:Array Edge} {g:Option (Nat×Bool)} {dst:Option Nat} {x hi:Operand} {T:TypeId} {s:ByteArray} {k':IntKind} {j:Int} (hT:P.underlying T=some .string) (hx:ev ρ x=.string s) (hh:ev ρ hi=.int k' j) (h1:0<=j) (h2:j<=s.size):(execOp (ev ρ) (Og dst (.slice T x none (some hi) none) t p af g)).run P w=.ok (.value (.string (s.extract 0 j.toNat))) w:=by
 have:=B1 (P:=P) w T s k' j hT h1 h2
 simp only[execOp,Instr.sliceAt,dA,jA,hx,hh,Sem.run_bind,run_underlying hT,Result.andThen_ok,this,Sem.run_pure]
theorem Nz {a b:Int} (ha:i64 a) (hb:i64 b): ∃ (np nr few:Nat) (wt:Int),1<=np/\np<=3/\1<=nr/\nr<=3/\ ∀ w:World,di aa oG [J a,J b] w fun v w2=>v=.agg #[J (np:Nat),J (nr:Nat),J (few:Nat),J wt]/\Below w.heap.size w w2:=by
 have p1:=lE a (show 0<3 by omega)
 have p2:=lE b (show 0<3 by omega)
 refine⟨1+pk a 3,1+pk b 3,1+pk a (1+pk b 3),5+(pk b 20:Nat),by omega,by omega,by omega,by omega,fun w=>(Ny a b w ha hb).mono fun v w2 ⟨g1,g2⟩=>⟨?_,g2⟩⟩
 rw[g1,show((1+pk a 3:Nat):Int)=1+(pk a 3:Nat) by omega,show((1+pk b 3:Nat):Int)=1+(pk b 3:Nat) by omega,show((1+pk a (1+pk b 3):Nat):Int)=1+(pk a (1+pk b 3):Nat) by omega]
theorem Hp.rnReps {w0 w:World} {L:List (Nat×Obj)} {F:List cf} {lo hi:Nat} {r:Rn} (H:Hp w0 w L F) (i:Nat) (hF:F[i]? =some (Rp lo hi r)) {q:Pq} (hq:q∈r.b.ps):Hp w0 w L (ee iT lo hi q.p.rA q.p.reps::F):=by
 refine⟨H.below,H.ents,H.nodup,fun f hf=> ?_⟩
 rcases ay.1 hf with rfl|hf
 obtain⟨h1,h2,h3⟩:=H.facts _ (ab hF)
 exact⟨(h1.pa q hq).reps,h2,h3⟩
 exact H.facts f hf
def xd (i:Nat):ByteArray:=KG++vh i
theorem Ij: ∀ i,i<8->eT (xd i)=true/\(xd i).size<=40
 |0,_|1,_|2,_|3,_|4,_|5,_|6,_|7,_=>by decide
 |i+8,h=>by omega
def FG (parts:List Int) (np j:Nat):Nat:=pk (parts.getD j 0) np
theorem R6 {np:Nat} (h:1<=np) (parts:List Int) (j:Nat):FG parts np j<np:=lE _ h
def zO (pt:Nat->Nat) (m np:Nat):List Int:=(kR np).map fun n=>((t7 pt m n:Nat):Int)
theorem vD (pt:Nat->Nat) (m np:Nat):(zO pt m np).length=np:=by simp[zO]
theorem yR {pt:Nat->Nat} {m np n:Nat} (h:n<np):(zO pt m np)[n]? =some ((t7 pt m n:Nat):Int):=by
 unfold zO
 rw[aJ,tg h];rfl
theorem Pk {pt:Nat->Nat} {m np:Nat}:(zO pt m np).set (pt m) (((t7 pt m (pt m):Nat):Int)+1)=zO pt (m+1) np:=by
 apply dg
 intro n
 by_cases hn:n<np
 rw[yR hn]
 by_cases hp:pt m=n
 subst hp
 rw[ak (by rw[vD];exact hn),zN,if_pos Z];rfl
 rw[aO hp,yR hn,zN,if_neg hp,mS]
 rw[bL (by rw[ae,vD];omega),bL (by rw[vD];omega)]
theorem Ra (pt:Nat->Nat) (m n:Nat):t7 pt m n<=m:=by
 have:t7 pt m n<=(kR m).length:=qV
 rwa[vS]at this
theorem Lj {np:Nat} (h:np<=1000) (pt:Nat->Nat):d8 bR (zO pt 0 np) np (ao np (J 0)).toArray:=by
 have e:zO pt 0 np=ao np 0:=by
  apply dg
  intro n
  by_cases hn:n<np
  rw[yR hn,dq,if_pos hn];rfl
  rw[bL (by rw[vD];omega),bL (by rw[bc];omega)]
 have e2: ∀ n,bR.all (ao n (0:Int))=ao n (J 0):=fun n=>by
  induction n with
  |zero=>rfl
  |succ n ih=>rw[iS,iS,<-ih];rfl
 refine⟨by rw[dK,bc];exact(Nat.mul_one _).symm,?_,by rw[vD];exact ap _,by simp only[maxLen];omega⟩
 rw[e,e2,bc,List.toList_toArray,fD]
 rw[bc];exact Ff (Nat.mul_one _).symm
theorem Pm {np nr:Nat} (hp:1<=np) (hr:nr<=5): ∀ t,∀ a∈jL np nr t,vQ P2 40 np nr a/\(a.kind=8∨a.kind=9):=by
 have one: ∀ p n,p<np->n<nr->(vQ P2 40 np nr (sN p n)/\vQ P2 40 np nr (xL p n)):=fun p n h1 h2=>
  ⟨⟨(jw (hard:=true) (k:=9) (pt:=p) (n:=n) (m:=0) (lo:=0) (nm:=⟨#[]⟩) (t:=⟨#[]⟩) I (by simp) I (.inl Z)).g,.inl (by show(9:Int)<=9;decide),fun q=>absurd q (by show¬ (9:Int)=1;decide),fun q=>absurd q (by show¬ (9:Int)=5;decide),fun q=>absurd q (by show¬ (9:Int)=3;decide),fun q=>absurd q (by show¬ (9:Int)=7;decide)⟩,
   ⟨(jw (hard:=true) (k:=8) (pt:=p) (n:=n) (m:=0) (lo:=0) (nm:=⟨#[]⟩) (t:=⟨#[]⟩) I (by simp) I (.inl Z)).g,.inl (by show(8:Int)<=9;decide),fun q=>absurd q (by show¬ (8:Int)=1;decide),fun q=>absurd q (by show¬ (8:Int)=5;decide),fun q=>absurd q (by show¬ (8:Int)=3;decide),fun q=>absurd q (by show¬ (8:Int)=7;decide)⟩⟩
 have half: ∀ p n,p<np->n<=nr-> ∀ a∈iP p n,vQ P2 40 np nr a/\(a.kind=8∨a.kind=9):=fun p n h1=>by
  induction n with
  |zero=>intro _ a ha;cases ha
  |succ n ih=>
    intro h2 a ha
    rw[iP]at ha
    obtain⟨o1,o2⟩:=one p n h1 I
    split at ha
    simp only[ar,aq]at ha
    rcases ha with(ha|rfl)|rfl
    exact ih I a ha
    exact⟨o1,.inr Z⟩
    exact⟨o2,.inl Z⟩
    simp only[ar,aq]at ha
    rcases ha with ha|rfl
    exact ih I a ha
    exact⟨o1,.inr Z⟩
 have prt: ∀ p,p<=np-> ∀ a∈lZ nr p,vQ P2 40 np nr a/\(a.kind=8∨a.kind=9):=fun p=>by
  induction p with
  |zero=>intro _ a ha;cases ha
  |succ p ih=>
    intro h1 a ha
    rw[lZ]at ha
    rcases ar.1 ha with ha|ha
    exact ih I a ha
    exact half p nr I (ap _) a ha
 intro t
 induction t with
 |zero=>intro a ha;cases ha
 |succ t ih=>
  intro a ha
  rw[jL]at ha
  rcases ar.1 ha with ha|ha
  exact ih a ha
  exact prt np (ap _) a ha
def It (np nr:Nat) (body:List Act) (pt:Nat->Nat) (m:Nat) (commit:Bool):List Act:=oB np++body++[gQ t0 1 0,ni]++sx pt xd m++[jY yO (if commit then 1 else 0)]++[jY (mN 0) 0,jY (mN 1) 0]++te np nr 12
theorem Pt {np nr m:Nat} {body:List Act} {pt:Nat->Nat} {commit:Bool} (hp:1<=np) (hr:1<=nr) (h5:nr<=5) (hb: ∀ a∈body,xp np nr false a) (hpt: ∀ j,pt j<np) (hm:m<=8): ∀ a∈It np nr body pt m commit,og np nr a:=fun a ha=>by
 unfold It at ha
 rcases ar.1 ha with ha|ha
 rcases ar.1 ha with ha|ha
 rcases ar.1 ha with ha|ha
 rcases ar.1 ha with ha|ha
 rcases ar.1 ha with ha|ha
 exact MQ hp hr hb a ha
 simp only[ay,bu,or_false]at ha
 rcases ha with rfl|rfl
 exact(Ih (B:=40) hp).g
 exact(Dc (P:=P2) (B:=40) hp hr).1.g
 unfold sx at ha
 obtain⟨j,hj,rfl⟩:=bK.1 ha
 exact(E4 (P:=P2) (hpt j) (Ij j (by have:=AK.1 hj;omega)).2).g
 rw[aq.1 ha]
 exact(vw (P:=P2) (B:=40) (by cases commit<;>simp) hp).1.g
 simp only[ay,bu,or_false]at ha
 rcases ha with rfl|rfl<;>exact(vw (P:=P2) (B:=40) (.inl Z) hp).1.g
 unfold te at ha
 rcases ar.1 ha with ha|ha
 rw[cT ha];exact(EO (P:=P2) (B:=40) hp).1.g
 exact(Pm hp h5 12 a ha).1.g
theorem Db {np nr:Nat} (h1:np<=3) (h2:nr<=3):(te np nr 12).length<=226:=by
 unfold te
 rw[av,bc]
 have:=ym np nr 12
 have:=vZ h1 h2 (ap 12)
 omega
theorem Rk {np nr m:Nat} {body:List Act} {pt:Nat->Nat} {commit:Bool} {xs:List An} {b:Bk} (q1:1<=np) (q3:np<=3) (n1:1<=nr) (n3:nr<=3) (hl:body.length<=30) (hb: ∀ a∈body,xp np nr false a) (hpt: ∀ j,pt j<np) (hm:m<=8) (h:li (lF np nr 1 1000) (It np nr body pt m commit) xs b.a):
  b.ps.length=np/\ ∀ n,n<np-> ∃ (q:Pq) (y:gh),b.ps[n]? =some q/\q.p.leader=((0:Nat):Int)/\q.p.reps[0]? =some y/\q.p.a.ok/\y.es.length<=400/\rW y.es y.es.length/\(texts y.es y.es.length 0 y.es.length).countP eT=if commit then t7 pt m n else 0:=by
 have hrl:(jL np nr 12).length<=220:=by
  have:=ym np nr 12
  have:=vZ q3 n3 (ap 12)
  omega
 obtain⟨Nn,hN,hn⟩:=JV (commit:=commit) q1 q3 n1 I hl hb hm hpt (fun j hj=>Ij j I) hrl (Pm q1 I 12) h
 have hw00:WI np nr 1 1000 0 (fun _=>[]) (lF np nr 1 1000):=FN (few:=1) n1 I (ap _) n1 (by decide) (by decide)
 have hcl:=Db q3 n3
 obtain⟨K,-,hw⟩:=NF h hw00 (by unfold It;simp only[av,FH,n6,bf,fT];unfold oB;rw[av,nZ];simp only[bf,fT];omega) I (Pt q1 n1 I hb hpt hm)
 refine⟨by have h1:(b.ps.map fun q=>q.p.a).length=np:=hw.ps.len;rwa[bF]at h1,fun n hn2=> ?_⟩
 obtain⟨p,y,h1,h2,h3,h4,h5⟩:=hn n hn2
 have hok:=(hw.ps.gt n p h1).1.ok
 change (b.ps.map fun q=>q.p.a)[n]? =some p at h1
 rw[aJ]at h1
 cases hq:b.ps[n]? with
 |none=>rw[hq]at h1;cases h1
 |some q=>
  rw[hq]at h1
  cases h1
  have hy400:=(hok.at_ h3).gl.len
  change (q.p.reps.map gh.a)[0]? =some y at h3
  rw[aJ]at h3
  cases hy:q.p.reps[0]? with
  |none=>rw[hy]at h3;cases h3
  |some z=>
   rw[hy]at h3
   cases h3
   exact⟨q,z,rfl,h2,hy,hok,hy400,Np h4,NP hN h4 h5⟩
def aL (np:Nat) (body:List Act) (ps0:List Int) (i:Nat):List Act:=oB np++body++[gQ t0 1 0,ni]++sx (FG ps0 np) xd i
def fL (np:Nat) (body:List Act) (ps0:List Int) (i:Nat) (commit:Bool):List Act:=aL np body ps0 i++[jY yO (if commit=true then(1:Int)else 0)]
def gL (np:Nat) (body:List Act) (ps0:List Int) (i:Nat) (commit:Bool):List Act:=fL np body ps0 i commit++[jY (mN 0) 0,jY (mN 1) 0]
def hL (np nr:Nat) (body:List Act) (ps0:List Int) (i:Nat) (commit:Bool):List Act:=gL np body ps0 i commit++te np nr 12
theorem Ro {np:Nat} {body:List Act} {ps0:List Int} {i:Nat}:aL np body ps0 i++[pO (FG ps0 np i) (xd i)]=aL np body ps0 (i+1):=by unfold aL;rw[aB,<-AB]
theorem u6 (np:Nat):(oB np).length=np+3:=by have:=FH np [];simpa using this
theorem Ev (es:List cd) (n:Nat): ∀ b,(texts es n 0 b).length<=b
 |0=>by rw[qq];simp
 |b+1=>by
  rw[qp (aV _),av]
  have h1:=Ev es n b
  have h2:(AP es n b).length<=1:=by
   unfold AP
   split
   split<;>simp
   simp
  omega
theorem K4 {es:List cd} {n a b:Nat} (h:a<=b):texts es n 0 b=texts es n 0 a++texts es n a b:=by
 unfold texts
 rw[Nat.sub_zero,Nat.sub_zero,<-kc]
 congr 1
 have:=@List.range'_append 0 a (b-a) 1
 rw[gj,cC]at this
 rw[this,show a+(b-a)=b by omega]
theorem Fs (l:List J5) (A:Option Addr) (c:Nat) (a b:Int) (commit:Bool) (ps0:List Int) (A4:Option Addr) (c4:Nat) (w:World) (hr:Rd I3 0 w.heap.size A l w) (hok: ∀ r∈l,r.ok) (_:l.length<=9223372036854775807) (ha:i64 a) (hb:i64 b) (hr4:Rd bR 0 w.heap.size A4 ps0 w) (hok4: ∀ n∈ps0,i64 n) (hl4:ps0.length<=9223372036854775807):di aa sW [.slice A l.length c,J a,J b,.bool commit,.slice A4 ps0.length c4] w fun v w2=>v=.bool true/\Below w.heap.size w w2:=by
 refine aG sf Z Z ?_
 have H:=(Hp.startRd hr).learnOld (ee bR 0 w.heap.size A4 ps0) hr4 (ap _)
 obtain⟨np,nr,few,wt,q1,q3,n1,n3,hset⟩:=Nz ha hb
 have hpt:=R6 q1 ps0
 refine W<|Zr<|G (Wb Z)<|U<|W<|Zr<|G (Yi Z)<|G (Yi Z)<|cE uF (hset _) Z Z ?_
 rintro _ w1 ⟨rfl,hb⟩;replace H:=H.later hb;clear hb
 refine fc H Fj Z fun w2 b11 H=>bI H 0 (#[J (((np:Nat):Int)),J (((nr:Nat):Int)),J (((few:Nat):Int)),J (wt)]) ED Z Z Z Z Z N N fun w3 H=>U<|W<|Zr<|G (Zf CZ Z)<|bI H 0 (#[J (((np:Nat):Int)),J (((nr:Nat):Int)),J (1),J (wt)]) bN Z Z Z Z Z N N fun w4 H=>G (Zf xM Z)<|bI H 0 (#[J (((np:Nat):Int)),J (((nr:Nat):Int)),J (1),J (1000)]) bN Z Z Z Z Z N N fun w5 H=>U<|W<|Zr<|G (Ys Z)<|G (Zw qn H 0 Z Z Z)<|cE vJ (Rm (few:=1) (wt:=1000) (np:=np) (nr:=nr) (most:=30) l _ _ _ q1 I n1 I I (H.rd0 1 Z) hok) Z Z ?_
 rintro _ w6 ⟨body,Ab,cb,Lb,rfl,hbl,hbg,hbo,hbj⟩;replace H:=H.learnOwn hbj hbo
 refine G (bp (cs:= #[J (1),.string (⟨#[100,101,101]⟩),J (0),J (0),J (0),.string (⟨#[]⟩),J (0)]) jg gW N)<|G (bp (cs:= #[J (2),.string (⟨#[100,101,101]⟩),J (0),J (0),J (0),.string (⟨#[]⟩),J (0)]) jg gW N)<|sK (vs:=[.agg (Act.c (gQ t0 1 0)).toArray,.agg (Act.c (ni)).toArray]) H kT gW Z Z Z Z Z Z fun w7 b45 H=> ?_
 replace H:=H.freeze (BF [gQ t0 1 0,ni] (by simp))
 refine cE ie (ye (l:=(oB np++body)) (m:=[gQ t0 1 0,ni]) _ (H.rd0 1 Z) (H.rd0 0 Z) (by rw[FH];omega) (by simp)) Z Z ?_
 rintro _ w8 ⟨Aw,cw,Lw,rfl,how,hjw⟩;replace H:=H.learnOwn hjw how
 refine G (Ws Z)<|U<|W<|Zr<|G (Zf kH Z)<|G (Zd al H 0 Z Z Z)<|TW (m:=np) (z:=J 0) H bj FR Z Z Z I I Z fun w9 b49 H=> ?_
 have rowc:=Lj (np:=np) I (FG ps0 np)
 refine G (Ws Z)<|U<|W<|W<|Zr<|G (Wi Z)<|U ?_
 rw[show((oB np++body)++[gQ t0 1 0,ni])=(aL np body ps0 0)from(aP _).symm]at H⊢
 refine gp (τ:=Nat×Option Addr×Nat×Nat×Nat×Array Value) [12,14,15,50,51,52,53,54,55,56,57,58,59,60,61,62,63,64,65,66,67,68,69,70,71,72,73,74,75,76,77,78,79,80] (fun(m,A2,c2,_,_,_)=>[(12,.slice A2 (aL np body ps0 m).length c2)]) (fun(m,A2,c2,lo2,hi2,cq) w'=>m<=8/\d8 bR (zO (FG ps0 np) m np) np cq/\Hp w w' [(b49,.cells cq cM (0,0)),(b11,.cells #[J (np:Nat),J (nr:Nat),J 1,J 1000] iq (0,0))] (ee jo lo2 hi2 A2 (aL np body ps0 m)::[])) ?_ ?_
 ·skip
  refine Zb ?_
  refine bV (τ:=Nat×Option Addr×Nat×Nat×Nat×Array Value) [12,14,15,50,51,52,53,54,55,56,57,58,59,60,61,62,63,64,65,66,67,68,69,70,71,72,73,74,75,76,77,78,79,80] (fun(i,A2,c2,_,_,_)=>[(12,.slice A2 (aL np body ps0 i).length c2),(14,J (i:Nat))]) (fun(i,A2,c2,lo2,hi2,cq) w'=>i<=8/\i<=ps0.length/\d8 bR (zO (FG ps0 np) i np) np cq/\Hp w w' [(b49,.cells cq cM (0,0)),(b11,.cells #[J (np:Nat),J (nr:Nat),J 1,J 1000] iq (0,0))] (ee jo lo2 hi2 A2 (aL np body ps0 i)::[ee bR 0 w.heap.size A4 ps0])) (fun(i,_)=>8-i) (0,Aw,cw,w7.heap.size,w8.heap.size,_) ⟨aV _,aV _,rowc,H.forget (by repeat (first|exact au _|refine .cons_cons _ ?_|refine .cons _ ?_)) (fun f hf=>by simp only[ay,bu,or_false]at hf⊢;first|exact hf|exact .inl hf|grind)⟩ (jT Z Z) ?_
  rintro⟨i,A2,c2,lo2,hi2,cq⟩ ρ1 w10 ⟨hi8,hil,rowc,H⟩
  show CW _ _ _ _ (dO (ij _ _ ρ1) [(12,.slice A2 (aL np body ps0 i).length c2),(14,J (i:Nat))]) w10
  refine W<|W<|Zr<|G (Yi Z)<|G (Ys Z)<|G (bl fp Z) ?_
  refine dZ (cI Z Z) Z Z Z (fun h53=> ?_) (fun h53=> ?_)
  ·
   refine G (Yb Z)<|ZG<|G (Yi Z)<|ZG ?_
   refine dZ (cI Z Z) Z Z Z (fun h56=> ?_) (fun h56=> ?_)
   ·
    refine G (Kt Z Z)<|U<|ZT Z<|Zk<|W<|Zb<|W ?_
    obtain⟨n0,hn0⟩: ∃ n0,ps0[i]? =some n0:=⟨_,ai I⟩
    have hn0k:i64 n0:=hok4 n0 (ab hn0)
    obtain⟨p,hpp⟩: ∃ p,pk n0 np=p:=⟨_,rfl⟩
    have hpt2:FG ps0 np i=p:=by unfold FG;rw[BA hn0];exact hpp
    have hpl:p<np:=by rw[<-hpt2];exact hpt i
    have hcn:=yR (pt:=FG ps0 np) (m:=i) hpl
    have hcnl:=Ra (FG ps0 np) i p
    refine bG cv [0,1,2,3,4,5,6,7] [] [6] [0,1,2,4,7] (sp [(6,Sp.one (J ((p:Nat):Int)))]) N N N N Nq (cG _) ?_
    refine aw Z Z Z Z Z (fun w' hw'=>Ys Z)<|aw Z Z Z Z Z (fun w' hw'=>Yi Z)<|pP H 1 Z Z Z Z Z bj Z Z I I fun bq11 o11 x11 e11=> ?_
    obtain rfl:n0=x11:=by have:=e11.at_;rw[hn0]at this;exact aZ this
    refine aw Z Z Z Z Z (fun w' hw'=>bd al Z (e11.later hw' 0 _ Z))<|aw Z Z Z Z Z (fun w' hw'=>Zf kH Z)<|aw Z Z Z Z Z (fun w' hw'=>bd al Z (aK ((H.later hw').ent (i:=1) Z) Z))<|jy ua Z Z Z Z Z (fun w' hw'=>(by have hA:=I7 n0 np w' hn0k.1 hn0k.2 I I;rw[hpp]at hA;exact hA)) Z<|aw Z Z Z Z Z (fun w' hw'=>Wi Z)<|aT ?_
    intro w12 hw' hF
    replace H:=H.later hw';clear hw' hF
    refine U<|W<|Zr<|G (Ys Z)<|G (Yi Z)<|G (Yi Z)<|cE Bj (QU i _ I) Z Z ?_
    rintro _ w13 ⟨rfl,hb⟩;replace H:=H.later hb;clear hb
    have hit:=LY i
    refine G (NE Z Z (by have h1:ByteArray.size ⟨#[100,101,97,108]⟩=4:=rfl;omega))<|G (bp (cs:= #[J (3),.string (⟨#[100,101,101]⟩),J (((p:Nat):Int)),J (0),J (0),.string (xd i),J (0)]) jg gW N)<|sK (vs:=[.agg (Act.c (pO p (xd i))).toArray]) H kT gW Z Z Z Z Z Z fun w14 b73 H=> ?_
    replace H:=H.freeze (BF [pO p (xd i)] (by simp))
    refine cE ie (ye (l:=(aL np body ps0 i)) (m:=[pO p (xd i)]) _ (H.rd0 1 Z) (H.rd0 0 Z) (by simp only[av,u6,n6,aL,fL,gL,bf,fT];omega) (by simp)) Z Z ?_
    rintro _ w15 ⟨Aw,cw,Lw,rfl,how,hjw⟩;replace H:=H.learnOwn hjw how
    rw[show(aL np body ps0 i)++[pO p (xd i)]=(aL np body ps0 (i+1))from by rw[<-hpt2];exact Ro]at H⊢
    refine G (Ws Z)<|U<|Zr<|G (Ys Z)<|G (Yi Z)<|G (cL bj Z Z (by first|omega|(simp only[ae];omega)))<|G (bW al rowc hcn 0 Z (H.ent (i:=0) Z) Z)<|G (bn Z Z I I)<|G (cL bj Z Z (by first|omega|(simp only[ae];omega)))<|nt H 0 (((((t7 (FG ps0 np) i p:Nat):Int))+1)) bN rowc hcn 0 Z Z Z Z Z Z N fun w17 cur16 row16 H=> ?_
    have hs18:(((zO (FG ps0 np) i np)).set p (((((t7 (FG ps0 np) i p:Nat):Int))+1)))[p]? =some (((((t7 (FG ps0 np) i p:Nat):Int))+1)):=ak (bZ hcn).1
    refine U<|Zr<|G (Yi Z)<|G (bn Z Z I I)<|G (Wi Z)<|U ?_
    rw[show(zO (FG ps0 np) i np).set p (((t7 (FG ps0 np) i p:Nat):Int)+1)=(zO (FG ps0 np) (i+1) np) by rw[<-hpt2];exact Pk]at row16
    exact⟨(i+1,Aw,cw,w14.heap.size,w15.heap.size,_),⟨by omega,by omega,row16,H.forget (by repeat (first|exact au _|refine .cons_cons _ ?_|refine .cons _ ?_)) (fun f hf=>by simp only[ay,bu,or_false]at hf⊢;first|exact hf|exact .inl hf|grind)⟩,jT Z Z,Qg,by show 8- (i+1)<8-i;omega⟩
   ·
    refine G (Kt Z Z)<|U<|ZF Z<|Zx ?_
    exact⟨(i,A2,c2,lo2,hi2,cq),⟨by omega,rowc,H.forget (by repeat (first|exact au _|refine .cons_cons _ ?_|refine .cons _ ?_)) (fun f hf=>by simp only[ay,bu,or_false]at hf⊢;first|exact hf|exact .inl hf|grind)⟩,ef Z,Qg⟩
  ·
   refine G (Yb Z)<|ZN<|ZN<|G (N Z Z)<|U<|ZF Z<|Zx ?_
   exact⟨(i,A2,c2,lo2,hi2,cq),⟨by omega,rowc,H.forget (by repeat (first|exact au _|refine .cons_cons _ ?_|refine .cons _ ?_)) (fun f hf=>by simp only[ay,bu,or_false]at hf⊢;first|exact hf|exact .inl hf|grind)⟩,ef Z,Qg⟩
 rintro⟨m,A2,c2,lo2,hi2,cq⟩ ρ1 w19 ⟨hm8,rowc,H⟩
 show CW _ _ _ _ (dO (ij _ _ ρ1) [(12,.slice A2 (aL np body ps0 m).length c2)]) w19
 refine W<|Zr<|G (Wi Z)<|U<|W<|W<|Zr<|G (Yb Z)<|U ?_
 refine gp (τ:=Unit) [16] (fun _=>[(16,J (if commit=true then(1:Int)else 0))]) (fun _ w'=>Hp w w' [(b49,.cells cq cM (0,0)),(b11,.cells #[J (((np:Nat):Int)),J (((nr:Nat):Int)),J (1),J (1000)] iq (0,0))] ([ee jo lo2 hi2 A2 (aL np body ps0 m)])) ?_ ?_
 ·skip
  refine qL Z (fun hc81=> ?_) (fun hc81=> ?_)
  ·
   refine Zr<|G (Wi Z)<|U ?_
   exact⟨(),H,ef (by rw[hc81];rfl),Qg⟩
  ·
   refine Zk ?_
   exact⟨(),H,ef (by rw[hc81];rfl),Qg⟩
 rintro _ ρ1 w20 H
 show CW _ _ _ _ (dO (ij _ _ ρ1) [(16,J (if commit=true then(1:Int)else 0))]) w20
 refine W<|Zr<|G (Ys Z)<|G (Yi Z)<|G (bp (cs:= #[J (5),.string (⟨#[100,101,101]⟩),J (0),J ((if commit=true then(1:Int)else 0)),J (0),.string (⟨#[]⟩),J (0)]) jg gW N)<|sK (vs:=[.agg (Act.c (jY yO (if commit=true then(1:Int)else 0))).toArray]) H kT gW Z Z Z Z Z Z fun w21 b85 H=> ?_
 replace H:=H.freeze (BF [jY yO (if commit=true then(1:Int)else 0)] (by simp))
 refine cE ie (ye (l:=(aL np body ps0 m)) (m:=[jY yO (if commit=true then(1:Int)else 0)]) _ (H.rd0 1 Z) (H.rd0 0 Z) (by simp only[av,u6,n6,aL,fL,gL,bf,fT];omega) (by simp)) Z Z ?_
 rintro _ w22 ⟨Aw,cw,Lw,rfl,how,hjw⟩;replace H:=H.learnOwn hjw how
 rw[show(aL np body ps0 m)++[jY yO (if commit=true then(1:Int)else 0)]=(fL np body ps0 m commit)from rfl]at H⊢
 refine G (Ws Z)<|U<|W<|Zr<|G (Ys Z)<|G (bp (cs:= #[J (5),.string (⟨#[97,110,110]⟩),J (0),J (0),J (0),.string (⟨#[]⟩),J (0)]) jg gW N)<|G (bp (cs:= #[J (5),.string (⟨#[98,111,98]⟩),J (0),J (0),J (0),.string (⟨#[]⟩),J (0)]) jg gW N)<|sK (vs:=[.agg (Act.c (jY (mN 0) 0)).toArray,.agg (Act.c (jY (mN 1) 0)).toArray]) H kT gW Z Z Z Z Z Z fun w23 b90 H=> ?_
 replace H:=H.freeze (BF [jY (mN 0) 0,jY (mN 1) 0] (by simp))
 refine cE ie (ye (l:=(fL np body ps0 m commit)) (m:=[jY (mN 0) 0,jY (mN 1) 0]) _ (H.rd0 1 Z) (H.rd0 0 Z) (by simp only[av,u6,n6,aL,fL,gL,bf,fT];omega) (by simp)) Z Z ?_
 rintro _ w24 ⟨Aw,cw,Lw,rfl,how,hjw⟩;replace H:=H.learnOwn hjw how
 rw[show(fL np body ps0 m commit)++[jY (mN 0) 0,jY (mN 1) 0]=(gL np body ps0 m commit)from rfl]at H⊢
 refine G (Ws Z)<|U<|W<|Zr<|G (Ys Z)<|G (Zw qn H 1 Z Z Z)<|cE vI (Rc (few:=1) (wt:=1000) (np:=np) (nr:=nr) _ q3 n3) Z Z ?_
 rintro _ w25 ⟨Ac,cc,Lc,rfl,hco,hcj⟩;replace H:=H.learnOwn hcj hco
 refine cE ie (ye (l:=(gL np body ps0 m commit)) (m:=te np nr 12) _ (H.rd0 1 Z) (H.rd0 0 Z) (by simp only[av,u6,n6,aL,fL,gL,bf,fT];omega) (by have h1:=Db q3 n3;omega)) Z Z ?_
 rintro _ w26 ⟨Aw,cw,Lw,rfl,how,hjw⟩;replace H:=H.learnOwn hjw how
 rw[show(gL np body ps0 m commit)++te np nr 12=(hL np nr body ps0 m commit)from rfl]at H⊢
 refine G (Ws Z)<|U<|W<|Zr<|G (Zw qn H 1 Z Z Z)<|G (Ys Z)<|cE xQ (PX (np:=np) (nr:=nr) (few:=1) (wt:=1000) (acts:=(hL np nr body ps0 m commit)) _ q1 I n1 I (ap 1) n1 I I (H.rd0 0 Z) (by have h1:=Db q3 n3;unfold hL;simp only[av,u6,n6,aL,fL,gL,bf,fT];omega) (show∀ a∈It np nr body (FG ps0 np) m commit,_ from Pt q1 n1 I hbg hpt hm8)) Z Z ?_
 rintro _ w27 ⟨xs,oA,oC,⟨ps,pA,pC,co,clo,chi,gr,glo,ghi,sns,snA,snC⟩,rfl,hrun,hrd,hrb⟩;replace H:=H.learn hrb (Rp w26.heap.size w27.heap.size ⟨xs,oA,oC,⟨ps,pA,pC,co,clo,chi,gr,glo,ghi,sns,snA,snC⟩⟩) hrd (ap _) (ap _);clear hrd hrb
 refine G (Yu Z)<|G (Xs Z Z)<|G (Xa Z Z)<|G (Xb Z Z)<|fc H rv Z fun w28 b18 H=>G (Ws Z)<|bI H 0 (#[.slice pA ps.length pC,J (co.clock),J (co.next),J (co.wait),.slice co.A co.txs.length co.cap,J (gr.clock),J (gr.wait),J (gr.gen),.slice gr.mA gr.ms.length gr.mC,.slice gr.oA gr.os.length gr.oC,.slice snA sns.length snC]) nG Z Z Z Z Z N N fun w29 H=>G (Wb Z)<|U<|W<|W<|Zr<|G (Yb Z)<|G (d9 Z)<|U<|ZF Z<|Zk<|W<|W ?_
 obtain⟨hpsl,hbk⟩:=Rk (b:=⟨ps,pA,pC,co,clo,chi,gr,glo,ghi,sns,snA,snC⟩) q1 q3 n1 n3 hbl hbg hpt hm8 hrun
 have hpsl:ps.length=np:=hpsl
 replace H:=Hp.rnPs H 0 Z
 refine Zr<|G (Zf dF Z)<|G (Zd er H 0 Z Z Z)<|G (bl kW Z)<|G (Yi Z)<|U<|Zb ?_
 refine bV (τ:=Nat) [10,20,21,22,23,24,25,26,27,28,29,30,31,32,34,108,109,110,111,112,113,114,115,116,117,118,119,120,121,122,123,124,125,126,127,128,129,130,131,132,133,134,135,136,137,138,139,140,141,142,143,144,145,146,147,148,149,150,151,152,153,154,155,156,157,158,159,160,161,162,163,164,165,166,167,168,169,170,171,172,173,174,175,176,177,178,179,180,181,182,183,184,185,186,187,188,189,190,191,192,193,194,195,196,197,198,199,200] (fun n=>[(108,J (n:Nat))]) (fun n w'=>n<=ps.length/\Hp w w' [(b18,.cells #[.slice pA ps.length pC,J (co.clock),J (co.next),J (co.wait),.slice co.A co.txs.length co.cap,J (gr.clock),J (gr.wait),J (gr.gen),.slice gr.mA gr.ms.length gr.mC,.slice gr.oA gr.os.length gr.oC,.slice snA sns.length snC] lW (0,0)),(b49,.cells cq cM (0,0)),(b11,.cells #[J (((np:Nat):Int)),J (((nr:Nat):Int)),J (1),J (1000)] iq (0,0))] ([ee Dv w26.heap.size w27.heap.size pA ps,Rp w26.heap.size w27.heap.size ⟨xs,oA,oC,⟨ps,pA,pC,co,clo,chi,gr,glo,ghi,sns,snA,snC⟩⟩])) (fun n=>ps.length-n) 0 ⟨aV _,H.forget (au _) (fun f hf=>by simp only[ay,bu,or_false]at hf⊢;first|exact hf|exact .inl hf|grind)⟩ (ef Z) ?_
 rintro n ρ1 w30 ⟨hnn,H⟩
 show CW _ _ _ _ (dO (ij _ _ ρ1) [(108,J (n:Nat))]) w30
 refine W<|Zr ?_
 refine dZ (cI Z Z) Z Z Z (fun h109=> ?_) (fun h109=> ?_)
 ·
  refine U<|W<|ZT Z<|Zk<|W<|Zb<|W ?_
  obtain⟨q,y,hq,hql,hy,hqok,hy4,hstab,hcount⟩:=hbk n I
  have hqm:=ab hq
  have hpl0:=(bZ hy).1
  have hcn:=yR (pt:=FG ps0 np) (m:=m) (np:=np) (n:=n) I
  refine Zr<|G (Yi Z)<|rE H 0 Z ia Z Z I I Z fun bq31 o31 x31 e31=> ?_
  obtain rfl:q=x31:=by have:=e31.at_;rw[hq]at this;exact aZ this
  refine G (jF (xs:=[J (q.p.epoch),J (q.p.leader),.slice q.p.iA q.p.isr.length q.p.iC,.slice q.p.kA q.p.known.length q.p.kC,.slice q.p.rA q.p.reps.length q.p.rC,J (q.p.few),J (q.p.base)]) bo Z Z (Gx e31.cl 0 Z))<|fc H bT Z fun w32 b21 H=>G (Wi Z)<|bI H 0 (#[J (q.p.epoch),J (q.p.leader),.slice q.p.iA q.p.isr.length q.p.iC,.slice q.p.kA q.p.known.length q.p.kC,.slice q.p.rA q.p.reps.length q.p.rC,J (q.p.few),J (q.p.base)]) bk Z Z Z Z Z N N fun w33 H=>U<|W ?_
  replace H:=Hp.rnReps H 1 Z hqm
  refine Zr<|G (Zf dI Z)<|G (Zd cF H 0 Z Z Z)<|G (Zf eu Z)<|G (Zd al H 0 Z Z Z)<|rE (k:=0) H 0 Z bQ Z (congrArg (Value.int .i64) hql) I I Z fun bq34 o34 x34 e34=> ?_
  obtain rfl:y=x34:=by have:=e34.at_;rw[hy]at this;exact aZ this
  refine G (jF (xs:=gh.c y) mB Z Z e34.cl)<|fc H ql Z fun w35 b22 H=>bI H 0 (#[.bool (y.up),.slice y.A ((bJ y.es).length) y.cap,J (((iF y.es y.s:Nat):Int)),J (y.high)]) mj Z Z Z Z Z N N fun w36 H=>U<|W<|Zr<|G (Zf dM Z)<|G (jW 1 [.slice y.A ((bJ y.es).length) y.cap,J (((iF y.es y.s:Nat):Int))] fx Z Z (H.ent (i:=0) Z) Z)<|cE f5 (gA y.A y.cap y.es y.s _ (Pa.log ((Hp.rn0 H 2 Z).pa q hqm) hqok (i:=0) hy)) Z Z ?_
  have hloen:=H.size
  rintro _ w37 ⟨Aen,cen,rfl,hren,hcen,hben⟩;replace H:=H.learnRd hben hren;clear hren hben
  refine G (Yu Z)<|G (Xs Z Z)<|G (Xi Z Z)<|G (Xi Z Z)<|G (Ws Z)<|G (Wi Z)<|G (Wi Z)<|U<|W<|Zr<|G (Ys Z)<|G (Ys Z)<|G (bl dW Z)<|cE qN (zg y.es _ _ y.es.length _ (H.rd0 0 Z) hcen I (ap _)) Z Z ?_
  rintro _ w38 ⟨m9,hs9,rfl,hb9⟩;replace H:=H.later hb9;clear hb9
  have hm9:m9=y.es.length:=by rw[br]at hs9;exact xF hs9 hstab
  subst hm9
  refine G (Yu Z)<|G (Xi Z Z)<|G (Xi Z Z)<|G (Wi Z)<|G (Wi Z)<|U<|W<|W<|Zr<|G (Yi Z)<|G (cj Z Z Z)<|G (Yb Z)<|ZG<|G (Yi Z)<|ZG<|G (cj Z Z Z)<|G (N Z Z)<|G (Yb Z)<|ZG<|G (Yi Z)<|ZG<|G (Ys Z)<|ZG<|G (bl dW Z)<|ZG<|G (cj Z Z Z)<|G (N Z Z)<|U<|ZF Z<|Zk<|W<|Zr<|G (Wi Z)<|U<|W<|W<|Zr<|G (Wi Z)<|U<|Zb ?_
  refine bV (τ:=Nat) [10,28,29,30,31,32,34,145,146,147,148,149,150,151,152,153,154,155,156,157,158,159,160,161,162,163,164,165,166,167,168,169,170,171,172,173,174,175,176,177,178,179,180,181,182] (fun at_=>[(28,J (((texts y.es y.es.length 0 at_).countP eT:Nat):Int)),(29,J (at_:Nat))]) (fun at_ w'=>at_<=y.es.length/\Hp w w' [(b22,.cells #[.bool (y.up),.slice y.A ((bJ y.es).length) y.cap,J (((iF y.es y.s:Nat):Int)),J (y.high)] fM (0,0)),(b21,.cells #[J (q.p.epoch),J (q.p.leader),.slice q.p.iA q.p.isr.length q.p.iC,.slice q.p.kA q.p.known.length q.p.kC,.slice q.p.rA q.p.reps.length q.p.rC,J (q.p.few),J (q.p.base)] bY (0,0)),(b18,.cells #[.slice pA ps.length pC,J (co.clock),J (co.next),J (co.wait),.slice co.A co.txs.length co.cap,J (gr.clock),J (gr.wait),J (gr.gen),.slice gr.mA gr.ms.length gr.mC,.slice gr.oA gr.os.length gr.oC,.slice snA sns.length snC] lW (0,0)),(b49,.cells cq cM (0,0)),(b11,.cells #[J (((np:Nat):Int)),J (((nr:Nat):Int)),J (1),J (1000)] iq (0,0))] ([ee gC w36.heap.size w37.heap.size Aen y.es,ee iT w26.heap.size w27.heap.size q.p.rA q.p.reps,ee Dv w26.heap.size w27.heap.size pA ps,Rp w26.heap.size w27.heap.size ⟨xs,oA,oC,⟨ps,pA,pC,co,clo,chi,gr,glo,ghi,sns,snA,snC⟩⟩])) (fun at_=>y.es.length-at_) 0 ⟨aV _,H⟩ (jT (by rw[qq];rfl) Z) ?_
  rintro at_ ρ1 w39 ⟨hat,H⟩
  show CW _ _ _ _ (dO (ij _ _ ρ1) [(28,J (((texts y.es y.es.length 0 at_).countP eT:Nat):Int)),(29,J (at_:Nat))]) w39
  have hcl:(texts y.es y.es.length 0 at_).countP eT<=at_:=aW qV (Ev y.es _ at_)
  refine W<|W<|Zr<|G (Yi Z)<|G (Ys Z)<|G (bl dW Z) ?_
  refine dZ (cI Z Z) Z Z Z (fun h148=> ?_) (fun h148=> ?_)
  ·
   refine U<|ZT Z<|Zk<|Zb<|W<|Zr<|G (Ys Z)<|G (Ys Z)<|G (bl dW Z)<|G (Yi Z)<|cE t9 (Kj y.es _ _ y.es.length at_ 20 _ (H.rd0 0 Z) hcen I (ap _) I (by decide) (by decide)) Z Z ?_
   rintro _ w40 ⟨st9,out,b9,A9,c9,hs9,hr9,rfl,hrd9,hc9,hb9⟩;have hlo9:=H.size;replace H:=H.learnRd hb9 hrd9
   refine G (Yu Z)<|G (Xs Z Z)<|G (Xi Z Z)<|G (Xi Z Z)<|G (Ws Z)<|G (Wi Z)<|G (Wi Z)<|U<|W<|W ?_
   have hst9:st9=y.es.length:=by rw[br]at hs9;exact xF hs9 hstab
   obtain⟨r1,r2,r3,r4,r5,-⟩:=hr9
   have hb9l:b9<=y.es.length:=by rcases r2 with r2|r2<;>omega
   have hba:at_<b9:=by
    rcases fC at_ b9 with h|h
    ·exact h
    ·exfalso
     have e:b9=at_:=by omega
     rw[e,qq]at r3
     rw[r3]at r5
     rcases r5 with r5|r5
     ·omega
     ·cases r5
   have htx:(texts y.es y.es.length 0 b9).countP eT=(texts y.es y.es.length 0 at_).countP eT+out.countP eT:=by rw[K4 r1,js,r3]
   refine Zr<|G (Yi Z)<|G (cj Z Z Z)<|G (Yb Z)<|ZG<|G (Yi Z)<|ZG<|G (Yi Z)<|ZG<|G (OA Z Z I)<|G (N Z Z)<|U<|ZF Z<|Zk<|W<|W<|Zr<|G (Ys Z)<|G (bl ku Z)<|G (Yi Z)<|U<|Zb ?_
   refine bV (τ:=Nat) [28,34,167,168,169,170,171,172,173,174,175,176,177,178,179,180,181] (fun u=>[(28,J ((((texts y.es y.es.length 0 at_).countP eT+(out.take u).countP eT:Nat)):Int)),(167,J (u:Nat))]) (fun u w'=>u<=out.length/\Hp w w' [(b22,.cells #[.bool (y.up),.slice y.A ((bJ y.es).length) y.cap,J (((iF y.es y.s:Nat):Int)),J (y.high)] fM (0,0)),(b21,.cells #[J (q.p.epoch),J (q.p.leader),.slice q.p.iA q.p.isr.length q.p.iC,.slice q.p.kA q.p.known.length q.p.kC,.slice q.p.rA q.p.reps.length q.p.rC,J (q.p.few),J (q.p.base)] bY (0,0)),(b18,.cells #[.slice pA ps.length pC,J (co.clock),J (co.next),J (co.wait),.slice co.A co.txs.length co.cap,J (gr.clock),J (gr.wait),J (gr.gen),.slice gr.mA gr.ms.length gr.mC,.slice gr.oA gr.os.length gr.oC,.slice snA sns.length snC] lW (0,0)),(b49,.cells cq cM (0,0)),(b11,.cells #[J (((np:Nat):Int)),J (((nr:Nat):Int)),J (1),J (1000)] iq (0,0))] ([ee nu w39.heap.size w40.heap.size A9 out,ee gC w36.heap.size w37.heap.size Aen y.es,ee iT w26.heap.size w27.heap.size q.p.rA q.p.reps,ee Dv w26.heap.size w27.heap.size pA ps,Rp w26.heap.size w27.heap.size ⟨xs,oA,oC,⟨ps,pA,pC,co,clo,chi,gr,glo,ghi,sns,snA,snC⟩⟩])) (fun u=>out.length-u) 0 ⟨aV _,H⟩ (jT Z Z) ?_
   rintro u ρ1 w41 ⟨huu,H⟩
   show CW _ _ _ _ (dO (ij _ _ ρ1) [(28,J ((((texts y.es y.es.length 0 at_).countP eT+(out.take u).countP eT:Nat)):Int)),(167,J (u:Nat))]) w41
   refine W<|Zr ?_
   refine dZ (cI Z Z) Z Z Z (fun h168=> ?_) (fun h168=> ?_)
   ·
    refine U<|W<|ZT Z<|Zk<|W<|Zb<|W ?_
    obtain⟨tx,htu⟩: ∃ tx,out[u]? =some tx:=⟨_,ai I⟩
    have hck:(out.take u).countP eT<=u:=aW qV (by rw[aI];omega)
    have htk:(out.take (u+1)).countP eT=(out.take u).countP eT+(if eT tx=true then 1 else 0):=by rw[ed htu,js,g8]
    refine Zr<|rE H 0 Z g9 Z Z I I Z fun bq42 o42 x42 e42=> ?_
    obtain rfl:tx=x42:=by have:=e42.at_;rw[htu]at this;exact aZ this
    refine G (bd aY Z (e42.cl 0 _ Z))<|G (Wt Z)<|U<|W<|Zr<|G (Yt Z)<|G (FT jf Z) ?_
    refine dZ (nC Z Z) Z Z Z (fun h173=> ?_) (fun h173=> ?_)
    ·
     refine G (Yb Z)<|ZG<|G (Yt Z)<|ZG<|G (ST Fq Z Z I I)<|ZG ?_
     refine dZ (uZ Z Z) Z Z Z (fun h177=> ?_) (fun h177=> ?_)
     ·
      refine G (Kt Z Z)<|U<|ZT Z<|Zr<|G (Yi Z)<|G (bn Z Z I I)<|G (Wi Z)<|U<|Zr<|G (bn Z Z I I)<|G (Yi Z)<|U ?_
      have hd:eT tx=true:=by unfold eT;rw[decide_eq_true (show 4<tx.size by omega),decide_eq_true (show tx.extract 0 4=KG from h177)];rfl
      rw[if_pos hd]at htk
      exact⟨u+1,⟨by omega,H⟩,jT (congrArg (Value.int .i64) I) Z,Qg,by show out.length- (u+1)<out.length-u;omega⟩
     ·
      refine G (Kt Z Z)<|U<|ZF Z<|Zk<|Zr<|G (bn Z Z I I)<|G (Yi Z)<|U ?_
      have hd: ¬ eT tx=true:=by unfold eT;rw[decide_eq_false (show¬ tx.extract 0 4=KG from h177),Bool.and_false];decide
      rw[if_neg hd]at htk
      exact⟨u+1,⟨by omega,H⟩,jT (congrArg (Value.int .i64) I) Z,Qg,by show out.length- (u+1)<out.length-u;omega⟩
    ·
     refine G (Yb Z)<|ZN<|ZN<|ZN<|G (N Z Z)<|U<|ZF Z<|Zk<|Zr<|G (bn Z Z I I)<|G (Yi Z)<|U ?_
     have hd: ¬ eT tx=true:=by unfold eT;rw[decide_eq_false (show¬ 4<tx.size by omega),Bool.false_and];decide
     rw[if_neg hd]at htk
     exact⟨u+1,⟨by omega,H⟩,jT (congrArg (Value.int .i64) I) Z,Qg,by show out.length- (u+1)<out.length-u;omega⟩
   ·
    refine U<|W<|ZF Z<|Zx<|Zr<|G (Yi Z)<|G (Wi Z)<|U ?_
    have hu2:(out.take u).countP eT=out.countP eT:=by rw[fD I]
    exact⟨b9,⟨hb9l,H.forget (by repeat (first|exact au _|refine .cons_cons _ ?_|refine .cons _ ?_)) (fun f hf=>by simp only[ay,bu,or_false]at hf⊢;first|exact hf|exact .inl hf|grind)⟩,jT (congrArg (Value.int .i64) I) Z,Qg,by show y.es.length-b9<y.es.length-at_;omega⟩
  ·
   refine U<|ZF Z<|Zx<|W ?_
   refine gp (τ:=Unit) [183,184,185,186,187,188,189,190,191,192,193,194,195,196,197,198,199] (fun _=>[(199,.bool false)]) (fun _ w'=>Hp w w' [(b22,.cells #[.bool (y.up),.slice y.A ((bJ y.es).length) y.cap,J (((iF y.es y.s:Nat):Int)),J (y.high)] fM (0,0)),(b21,.cells #[J (q.p.epoch),J (q.p.leader),.slice q.p.iA q.p.isr.length q.p.iC,.slice q.p.kA q.p.known.length q.p.kC,.slice q.p.rA q.p.reps.length q.p.rC,J (q.p.few),J (q.p.base)] bY (0,0)),(b18,.cells #[.slice pA ps.length pC,J (co.clock),J (co.next),J (co.wait),.slice co.A co.txs.length co.cap,J (gr.clock),J (gr.wait),J (gr.gen),.slice gr.mA gr.ms.length gr.mC,.slice gr.oA gr.os.length gr.oC,.slice snA sns.length snC] lW (0,0)),(b49,.cells cq cM (0,0)),(b11,.cells #[J (((np:Nat):Int)),J (((nr:Nat):Int)),J (1),J (1000)] iq (0,0))] ([ee gC w36.heap.size w37.heap.size Aen y.es,ee iT w26.heap.size w27.heap.size q.p.rA q.p.reps,ee Dv w26.heap.size w27.heap.size pA ps,Rp w26.heap.size w27.heap.size ⟨xs,oA,oC,⟨ps,pA,pC,co,clo,chi,gr,glo,ghi,sns,snA,snC⟩⟩])) ?_ ?_
   ·skip
    have hat2:at_=y.es.length:=by omega
    refine Zr<|G (Yb Z)<|G (Yb Z) ?_
    refine px 184 Z (fun h184=> ?_) (fun h184=> ?_)
    ·
     refine ZG<|G (Yi Z)<|ZG<|G (Ys Z)<|ZG<|G (Yi Z)<|ZG<|G (cL bj Z Z (by first|omega|(simp only[ae];omega)))<|ZG<|G (bW al rowc hcn 0 Z (H.ent (i:=3) Z) Z)<|ZG<|G (cj Z Z (by rw[hat2,hcount,if_pos h184]))<|G (Kt Z Z)<|G (Yb Z)<|ZG<|G (Yb Z)<|ZG<|G (d9 Z)<|ZG<|G (Yb Z) ?_
     refine px 195 Z (fun h195=> ?_) (fun h195=> ?_)
     ·
      refine ZG<|G (Yi Z)<|ZG<|G (dX Z Z (by have h1:commit=false:=(by simpa using h195);have h2:(texts y.es y.es.length 0 at_).countP eT=0:=(by rw[hat2,hcount,h1];rfl);omega))<|ZG<|G (Kt Z Z)<|G (N Z Z)<|U ?_
      exact⟨(),H,ef Z,Qg⟩
     ·
      refine ZN<|ZN<|ZG<|G (N Z Z)<|G (N Z Z)<|U ?_
      exact⟨(),H,ef Z,Qg⟩
    ·
     refine ZN<|ZN<|ZN<|ZN<|ZN<|ZN<|G (N Z Z)<|G (Yb Z)<|ZG<|G (Yb Z)<|ZG<|G (d9 Z)<|ZG<|G (Yb Z) ?_
     refine px 195 Z (fun h195=> ?_) (fun h195=> ?_)
     ·
      refine ZG<|G (Yi Z)<|ZG<|G (dX Z Z (by have h1:commit=false:=(by simpa using h195);have h2:(texts y.es y.es.length 0 at_).countP eT=0:=(by rw[hat2,hcount,h1];rfl);omega))<|ZG<|G (Kt Z Z)<|G (N Z Z)<|U ?_
      exact⟨(),H,ef Z,Qg⟩
     ·
      refine ZN<|ZN<|ZG<|G (N Z Z)<|G (N Z Z)<|U ?_
      exact⟨(),H,ef Z,Qg⟩
   rintro _ ρ1 w43 H
   show CW _ _ _ _ (dO (ij _ _ ρ1) [(199,.bool false)]) w43
   refine ZF Z<|Zk<|Zr<|G (bn Z Z I I)<|G (Yi Z)<|U ?_
   exact⟨n+1,⟨by omega,H.forget (by repeat (first|exact au _|refine .cons_cons _ ?_|refine .cons _ ?_)) (fun f hf=>by simp only[ay,bu,or_false]at hf⊢;first|exact hf|exact .inl hf|grind)⟩,ef Z,Qg,by show ps.length- (n+1)<ps.length-n;omega⟩
 ·
  refine U<|W<|ZF Z<|Zx<|W<|Zr<|G (Wb Z)<|U<|Zt ?_
  exact cU Z Z ⟨rfl,H.below⟩
end Go.Proofs.YtclibalpdhhhfaaGreatDoor
