/- Part 5 of the proofs over this seat: what its theorems say holds for every input that they name. -/
import Derived.Test.YtclibalpdhhhfaaGreatDoorBF4
namespace Go.Proofs.YtclibalpdhhhfaaGreatDoor
open Go Go.Eng Go.RowKit
open Go.Proofs.Tryz renaming prog→aa
open _root_.List renaming mem_of_getElem?→ab,length_set→ae,mem_cons_of_mem→ai,getElem?_eq_getElem→aj,getElem?_set_self→al,mem_append→ap,replicate→aq,mem_singleton→ar,mem_cons→av,length_append→ay,mem_cons_self→az,append_assoc→aB,length_take→aD,getElem?_map→aI,getElem?_set_ne→aT,append_nil→aZ,length_map→bc,mem_nil_iff→bd,length_cons→bf,map_append→bk,mem_map→bD,length_replicate→bW,getElem?_eq_none→bX,eq_of_mem_replicate→cT,length_drop→cZ,length→da,getElem?_take→di,getElem?_drop→dk,size_toArray→dY,ext_getElem?→dZ,length_nil→ei,take_of_length_le→eo,getElem?_replicate→fv,range→gy,length_range→jE,replicate_succ→ng,map_map→pM,range_succ→ss,getElem?_range→sU
open _root_.Nat renaming le_refl→ao,zero_le→bN,add_assoc→ls,add_zero→pJ
open _root_.List.Sublist renaming refl→au
open _root_.Option.some renaming inj→aY
set_option maxHeartbeats 4000000
set_option maxRecDepth 20000
set_option linter.unusedSimpArgs false
set_option linter.unusedVariables false
set_option linter.unusedSectionVars false
section
/-! one sender, one part: what is sent stands in order -/
def qo (nm t:ByteArray) (d:Int):Act:=⟨3,nm,0,0,0,t,d⟩
def sk (nm:ByteArray) (d:Int):Act:=⟨4,nm,0,0,0,⟨#[]⟩,d⟩
def Fy (Nn:Int) (τ:Nat->ByteArray) (j:Nat):cr:=⟨0,Nn,0,j,1,false,τ j⟩
def tf (ep Nn:Int) (τ:Nat->ByteArray) (k:Nat):List cr:=(gy k).map fun j=>{Fy Nn τ j with epoch:=ep}
theorem yj (ep Nn:Int) (τ:Nat->ByteArray) (k:Nat):tf ep Nn τ (k+1)=tf ep Nn τ k++[{Fy Nn τ k with epoch:=ep}]:=by simp[tf,ss]
theorem qq (ep Nn:Int) (τ:Nat->ByteArray) (k:Nat):(tf ep Nn τ k).length=k:=by simp[tf]
theorem NX {ep Nn:Int} {τ:Nat->ByteArray} (hN:Nn≠0) (k:Nat):fo (tf ep Nn τ k) {Fy Nn τ k with epoch:=ep}=(-1,0):=by
 cases k with
 |zero=>exact HG hN Z Z Z
 |succ k=>
  rw[yj]
  obtain⟨pr,b1,b2,b3⟩:=LM (es:=tf ep Nn τ k) (e:={Fy Nn τ k with epoch:=ep}) hN Z
  exact JS (p:=pr) hN b1 Z b2 (by rw[b3];show((k+1:Nat):Int)=(k:Nat)+1;omega)
theorem NY {ep Nn:Int} {τ:Nat->ByteArray} (hN:Nn≠0) {k:Nat} (h:uh (tf ep Nn τ (k+1))):fo (tf ep Nn τ (k+1)) {Fy Nn τ k with epoch:=ep}=(((k:Nat):Int),0):=by
 rw[yj]at h⊢
 have:=JY h (by show Nn≠0;exact hN) Z
 rwa[qq]at this
variable {np nr k m i:Nat} {wt ep Nn:Int} {w w':Wa} {p:f3} {x:RA} {s:Sn} {nm:ByteArray} {τ:Nat->ByteArray}
theorem Cw.next (h:Cw np nr k wt w) (hk:k<400) (h4:np<=4) {a:Act} (g:nv np nr a) (hc:a.kind<=9∨16<=a.kind) {y:An} (hA:qf w a w' y):Cw np nr (k+1) wt w':=by
 obtain⟨K,hw⟩:=h.wi
 obtain⟨K1,-,i1⟩:=E0 hw hk h4 g hA
 exact⟨⟨K1,i1⟩,(Np hw h.cm g hc (fun _=>trivial) hA).1⟩
structure Sp (Nn:Int) (k:Nat) (s:Sn):Prop where
 pid:s.pid=Nn
 ver:s.ver=0
 inn:s.inn=false
 seq:s.seqs.getD 0 0=(k:Nat)
 l1:1<=s.seqs.length
 l2:1<=s.last.length
theorem Sp.next (h:Sp Nn k s) (t:ByteArray):Sp Nn (k+1) (eM s 0 t)/\(eM s 0 t).last[0]? =some ⟨0,Nn,0,(k:Nat),1,false,t⟩:=by
 refine⟨⟨h.pid,h.ver,h.inn,?_,?_,?_⟩,?_⟩
 show(s.seqs.set 0 (s.seqs.getD 0 0+1)).getD 0 0=_
 rw[IT (al h.l1),h.seq];omega
 show 1<=(s.seqs.set 0 _).length
 rw[ae];exact h.l1
 show 1<=(s.last.set 0 _).length
 rw[ae];exact h.l2
 show(s.last.set 0 _)[0]? =_
 rw[al h.l2,h.pid,h.ver,h.inn,h.seq]
def Ql (p:f3):Prop:= ∀ (r:Nat) (z:RA),1<=r->p.reps[r]? =some z->z.es=[]
theorem Ql.set {p:f3} (h:Ql p) (y:RA):Ql {p with reps:=p.reps.set 0 y}:=fun r z hr hz=>h r z hr (by change (p.reps.set 0 y)[r]? =some z at hz;rwa[aT I]at hz)
structure Ow (np nr m:Nat) (wt ep Nn:Int) (nm:ByteArray) (τ:Nat->ByteArray) (w:Wa) (c:Nat):Prop where
 cw:Cw np nr m wt w
 ex: ∃ (p:f3) (x:RA) (i:Nat) (s:Sn),P0 w p x/\At nm w i s/\p.epoch=ep/\x.es=tf ep Nn τ c/\Sp Nn c s/\Ql p
structure Mw (np nr m:Nat) (wt ep Nn:Int) (nm:ByteArray) (τ:Nat->ByteArray) (w:Wa) (k:Nat) (b:Bool):Prop where
 cw:Cw np nr m wt w
 ex: ∃ (p:f3) (x:RA) (i:Nat) (s:Sn),P0 w p x/\At nm w i s/\p.epoch=ep/\x.es=tf ep Nn τ (if b then k+1 else k)/\Sp Nn (k+1) s/\s.last[0]? =some (Fy Nn τ k)/\Ql p
theorem Cw.epo (h:Cw np nr k wt w) (h0:P0 w p x):0<=p.epoch/\p.epoch<=1073741824:=by
 obtain⟨K,hw⟩:=h.wi
 exact⟨(hw.ps.gt 0 p h0.pt).1.ok.ep0,(hw.ps.gt 0 p h0.pt).1.ok.ep1⟩
theorem Cw.sent (h:Cw np nr k wt w) (h0:P0 w p x):uh x.es:=by
 obtain⟨K,hw⟩:=h.wi
 exact(hw.ps.gt 0 p h0.pt).2 0 x h0.rp
theorem Iu (hp:1<=np) {t:ByteArray} {d:Int} (hd:0<=d/\d<=2) (ht:t.size<=40) (hn:bu nm=true):nv np nr (qo nm t d):=by
 refine⟨by show(1:Int)<=3/\(3:Int)<=20/\(3:Int)≠17/\((3:Int)<=9∨(3:Int)=13∨(16:Int)<=3);decide,fun _=>hn,by show(0:Int)<=0/\(0:Int)<np;omega,by show(0:Int)<=0/\(0:Int)<=1000;decide,?_,?_,?_,by show(0:Int)<=0/\(0:Int)<=1000;decide,ht,hd⟩
 show(8:Int)<=3->_;omega
 show(3:Int)=5->_;omega
 show(3:Int)=19->_;omega
theorem Nh (hp:1<=np) {d:Int} (hd:0<=d/\d<=2) (hn:bu nm=true):nv np nr (sk nm d):=by
 refine⟨by show(1:Int)<=4/\(4:Int)<=20/\(4:Int)≠17/\((4:Int)<=9∨(4:Int)=13∨(16:Int)<=4);decide,fun _=>hn,by show(0:Int)<=0/\(0:Int)<np;omega,by show(0:Int)<=0/\(0:Int)<=1000;decide,?_,?_,?_,by show(0:Int)<=0/\(0:Int)<=1000;decide,by show(0:Nat)<=40;decide,hd⟩
 show(8:Int)<=4->_;omega
 show(4:Int)=5->_;omega
 show(4:Int)=19->_;omega
theorem Mw.put {a:Act} {y:An} {b b0:Bool} {s1:Sn} (hcw:Cw np nr m wt w) (hcw':Cw np nr (m+1) wt w') (h0:P0 w p x) (hs:At a.name w i s) (ho:Ql p) (he:p.epoch=ep) (hx:x.es=tf ep Nn τ (if b then k+1 else k)) (hN:0<Nn/\Nn<=1073741824) (hk:k<=1000) (ht:(τ k).size<=40) {again:Bool} (h1:a.part=0) (hl:a.lost≠1) (hag:again=true->(s.last.getD 0 jP).kind≠0)
  (hl1:(if again then s else eM s 0 a.text).last[0]? =some (Fy Nn τ k)) (hsp:Sp Nn (k+1) (if again then s else eM s 0 a.text)) (hw':w'=(gX w a again).1):Mw np nr (m+1) wt ep Nn a.name τ w' k true:=by
 obtain⟨K,hw⟩:=hcw.wi
 have hep:=hcw.epo h0
 have hg:ob (⟨p.epoch,Nn,0,(k:Nat),1,false,τ k⟩:cr):=ME hep hN (by decide) ⟨by omega,by omega⟩ ht
 cases b with
 |false=>
  obtain⟨w2,e1,g1,g2⟩:=Fe hw hcw.cm h0 hs h1 hl hag hl1 Z hg (by rw[hx,he];exact NX I k)
  rw[e1]at hw'
  subst hw'
  exact⟨hcw',_,_,i,_,g1,g2,he,by rw[if_pos Z,yj,<-he];show x.es++_=_;rw[hx,he];rfl,hsp,hl1,ho.set _⟩
 |true=>
  have hse:=hcw.sent h0
  rw[hx,if_pos Z]at hse
  obtain⟨w2,e1,g1,g2⟩:=Lg (j:=k) hw hcw.cm h0 hs h1 hl hag hl1 Z hg (by rw[hx,he,if_pos Z];exact NY I hse)
  rw[e1]at hw'
  subst hw'
  exact⟨hcw',_,_,i,_,g1,g2,he,hx,hsp,hl1,ho⟩
theorem DY (h:s.last[0]? =some (Fy Nn τ k)):(s.last.getD 0 jP).kind≠0:=by rw[IT h];show(1:Int)≠0;decide
theorem Ow.send {y:An} {d:Int} (h:Ow np nr m wt ep Nn nm τ w k) (hm:m<400) (h4:np<=4) (hp:1<=np) (hN:0<Nn/\Nn<=1073741824) (hk:k<=1000) (ht:(τ k).size<=40) (hn:bu nm=true) (hd:0<=d/\d<=2) (hA:qf w (qo nm (τ k) d) w' y): ∃ b,Mw np nr (m+1) wt ep Nn nm τ w' k b/\(d≠1->b=true):=by
 obtain⟨p,x,i,s,h0,hs,he,hx,hsp,ho⟩:=h.ex
 have cw:=h.cw.next hm h4 (Iu hp hd ht hn) (.inl (by show(3:Int)<=9;decide)) hA
 obtain⟨h1,-⟩:=qK hA (by show¬ (3:Int)=19;decide)
 have e1:jx w (qo nm (τ k) d)=gX w (qo nm (τ k) d) false:=by simp[jx,qo]
 rw[e1]at h1
 obtain⟨g1,g2⟩:=hsp.next (τ k)
 by_cases hd1:d=1
 refine⟨false,⟨cw,p,x,i,eM s 0 (τ k),?_,?_,he,hx,g1,g2,ho⟩,fun q=>absurd hd1 q⟩
 rw[h1,yf (a:=qo nm (τ k) d) hs Z hd1]
 exact⟨h0.pt,h0.ld,h0.rp⟩
 rw[h1,yf (a:=qo nm (τ k) d) hs Z hd1]
 have hs2:=hs.set (y:=eM s 0 (τ k)) hs.nm
 exact⟨hs2.ix,hs2.sn,hs2.nm⟩
 exact⟨true,Mw.put (a:=qo nm (τ k) d) (b:=false) (again:=false) (b0:=false) (s1:=s) (y:=y) h.cw cw h0 hs ho he hx hN hk ht Z hd1 (fun q=>by cases q) g2 g1 h1,fun _=>rfl⟩
theorem BS {a:Act} {i:Nat} {s:Sn} (h:At a.name w i s) (h0:a.part=0) (hl:a.lost=1) (hag:(s.last.getD 0 jP).kind≠0):gX w a true=({w with sns:=w.sns.set i s},⟨14,0,[]⟩):=by
 unfold gX
 rw[h.find]
 dsimp only
 rw[h0,show(0:Int).toNat=0 from rfl,if_neg (fun hh=>hag hh.2),if_pos hl]
 rfl
theorem Mw.again {y:An} {d:Int} {b:Bool} (h:Mw np nr m wt ep Nn nm τ w k b) (hm:m<400) (h4:np<=4) (hp:1<=np) (hN:0<Nn/\Nn<=1073741824) (hk:k<=1000) (ht:(τ k).size<=40) (hn:bu nm=true) (hd:0<=d/\d<=2) (hA:qf w (sk nm d) w' y): ∃ b',Mw np nr (m+1) wt ep Nn nm τ w' k b'/\(d≠1->b'=true):=by
 obtain⟨p,x,i,s,h0,hs,he,hx,hsp,hl,ho⟩:=h.ex
 have cw:=h.cw.next hm h4 (Nh hp hd hn) (.inl (by show(4:Int)<=9;decide)) hA
 obtain⟨h1,-⟩:=qK hA (by show¬ (4:Int)=19;decide)
 have e1:jx w (sk nm d)=gX w (sk nm d) true:=by simp[jx,sk]
 rw[e1]at h1
 by_cases hd1:d=1
 refine⟨b,⟨cw,p,x,i,s,?_,?_,he,hx,hsp,hl,ho⟩,fun q=>absurd hd1 q⟩
 rw[h1,BS (a:=sk nm d) hs Z hd1 (DY hl)]
 exact⟨h0.pt,h0.ld,h0.rp⟩
 rw[h1,BS (a:=sk nm d) hs Z hd1 (DY hl)]
 have hs2:=hs.set (y:=s) hs.nm
 exact⟨hs2.ix,hs2.sn,hs2.nm⟩
 exact⟨true,Mw.put (a:=sk nm d) (b:=b) (again:=true) (b0:=false) (s1:=s) (y:=y) h.cw cw h0 hs ho he hx hN hk ht Z hd1 (fun _=>DY hl) hl hsp h1,fun _=>rfl⟩
theorem Mw.done (h:Mw np nr m wt ep Nn nm τ w k true):Ow np nr m wt ep Nn nm τ w (k+1):=by
 obtain⟨p,x,i,s,h0,hs,he,hx,hsp,-,ho⟩:=h.ex
 exact⟨h.cw,p,x,i,s,h0,hs,he,hx,hsp,ho⟩
def HF (nm t:ByteArray) (d e:Int) (c:Nat):List Act:=qo nm t d::(aq c (sk nm e)++[sk nm 0])
theorem HE (nm t:ByteArray) (d e:Int) (c:Nat):(HF nm t d e c).length=c+2:=by simp[HF]
inductive QK (nm:ByteArray) (τ:Nat->ByteArray):Nat->List Act->Prop
 |zero:QK nm τ 0 []
 |succ {k:Nat} {l:List Act} {d e:Int} {c:Nat}:QK nm τ k l->0<=d/\d<=2->0<=e/\e<=2->c<=2->QK nm τ (k+1) (l++HF nm (τ k) d e c)
theorem QK.len {l:List Act} (h:QK nm τ k l):l.length<=4*k:=by
 induction h with
 |zero=>simp
 |succ _ _ _ hc ih=>rw[ay,HE];omega
theorem Mj {P:ByteArray->Prop}:BX P wt (mP np nr 1 wt):=by
 refine⟨fun q hq=> ?_,by simp[mP],rfl,by simp[mP]⟩
 obtain rfl:q=mQ nr 1:=cT hq
 exact⟨⟨.inl Z,fun b hb=>cT hb,fun y hy=>by rw[cT hy]⟩,fun y hy e he=>by rw[cT hy]at he;cases he⟩
theorem MZ {q:f3} (h0:(fq q 0).2=0): ∀ (i:Nat) (y:RA),(fq q 0).1.reps[i]? =some y-> ∃ z,q.reps[i]? =some z/\y.es=z.es:=by
 unfold fq at h0⊢
 split at h0
 cases h0
 rename_i x hx
 split at h0
 cases h0
 rename_i c1
 split at h0
 cases h0
 rename_i c2
 split at h0
 cases h0
 rename_i c3
 split at h0
 cases h0
 rename_i c4
 rw[if_neg c1,if_neg c2,if_neg c3,if_neg c4]
 intro i y hy
 obtain⟨z,g1,g2,-⟩:=xQ hy
 exact⟨z,g1,g2⟩
theorem KE {q:f3} {y:An} (hq:w.ps[0]? =some q) (hA:qf w (bT 0) w' y): ∃ q',w'.ps[0]? =some q'/\ ∀ (i:Nat) (x:RA),q'.reps[i]? =some x-> ∃ z,q.reps[i]? =some z/\x.es=z.es:=by
 obtain⟨h1,-⟩:=qK hA (by show¬ (13:Int)=19;decide)
 have e1:jx w (bT 0)=lY w (bT 0):=by simp[jx,bT]
 have e3:jj q (bT 0)=((fq q 0).1,0,(fq q 0).2):=by simp[jj,bT]
 rw[h1,e1]
 unfold lY
 rw[show(bT 0).part.toNat=0 from rfl,hq]
 dsimp only
 rw[e3]
 split
 rename_i c
 exact⟨_,al (cy hq).1,MZ c⟩
 exact⟨q,hq,fun i x hx=>⟨x,hx,rfl⟩⟩
theorem Gl (hp:1<=np) (hr:1<=nr):nv np nr (bT 0):=(wm (hard:=true) (k:=13) (pt:=0) (n:=0) (m:=0) (lo:=0) (nm:=⟨#[]⟩) (t:=⟨#[]⟩) I (by simp) I (.inl Z)).g
theorem IR (hp:1<=np) (hn:bu nm=true):nv np nr (dy nm):=(wm (hard:=true) (k:=1) (pt:=0) (n:=0) (m:=0) (lo:=0) (nm:=nm) (t:=⟨#[]⟩) I (by simp) (fun _=>hn) (.inl Z)).g
theorem JM {xs:List An} (q1:1<=np) (q4:np<=4) (n1:1<=nr) (n5:nr<=5) (t1:1<=wt) (t2:wt<=1000) (hn:bu nm=true) (h:kN (mP np nr 1 wt) [bT 0,dy nm] xs w'): ∃ (ep Nn:Int),0<Nn/\Nn<=1073741824/\Ow np nr 2 wt ep Nn nm τ w' 0:=by
 cases h with
 |cons a1 h=>cases h with
 |cons a2 h=>
  cases h
  rename_i w1 _ _
  have w00:WI np nr 1 wt 0 (fun _=>[]) (mP np nr 1 wt):=IF (few:=1) n1 n5 (ao _) n1 t1 t2
  obtain⟨K1,-,i1⟩:=E0 w00 I q4 (Gl q1 n1) a1
  obtain⟨c1,-,c3⟩:=M0 w00 (Mj (P:=fun _=>False)) a1
  have hp0:(mP np nr 1 wt).ps[0]? =some (mQ nr 1):=by
   obtain⟨m,rfl⟩: ∃ m,np=m+1:=⟨np-1,by omega⟩
   simp[mP,ng]
  obtain⟨q,hq,hql⟩:=c3 _ hp0 (by show(0:Int)<1073741824;decide)
  obtain⟨q',hq',hes⟩:=KE hp0 a1
  obtain rfl:q=q':=by rw[hq]at hq';exact aY hq'
  have hes2: ∀ (i:Nat) (x:RA),q.reps[i]? =some x->x.es=[]:=fun i x hx=>by
   obtain⟨z,g1,g2⟩:=hes i x hx
   rw[g2,cT (ab g1)]
  have hok:=(i1.ps.gt 0 q hq).1.ok
  obtain⟨x0,hx⟩: ∃ x,q.reps[0]? =some x:=⟨_,aj hok.n1⟩
  have hf: ∀ t∈w1.co.txs,t.name≠nm:=fun t ht=>(c1.co.2 t ht).elim
  have hl:w1.co.txs.length=0:=by
   cases hc:w1.co.txs with
   |nil=>rfl
   |cons t l=>exact(c1.co.2 t (by rw[hc];exact az ..)).elim
  have hi:bw w1.co nm=(mZ w1.co nm,w1.co.next,0,0):=by
   unfold bw
   rw[OC hf]
   dsimp only
   rw[if_neg I]
  have hN0:0<w1.co.next:=by have:=(Dm (s:=nm) i1.co (by rw[hi])).2.2;rwa[hi]at this
  have hN1:w1.co.next<=2:=by have:=i1.co.next;omega
  have cw:Cw np nr 1 wt w1:=⟨⟨K1,i1⟩,c1.ps,c1.sns,c1.co.1,fun _ _=>trivial⟩
  have cw2:=cw.next I q4 (IR q1 hn) (.inl (by show(1:Int)<=9;decide)) a2
  obtain⟨h1,-⟩:=qK a2 (by show¬ (1:Int)=19;decide)
  have e1:jx w1 (dy nm)=l9 w1 (dy nm):=by simp[jx,dy]
  rw[e1]at h1
  unfold l9 at h1
  have hi2:bw w1.co (dy nm).name=(mZ w1.co nm,w1.co.next,0,0):=hi
  rw[hi2,if_pos Z]at h1
  obtain⟨i,g1,g2⟩:=LL w1.sns (rh nm w1.co.next 0 w1.ps.length)
  refine⟨q.epoch,w1.co.next,hN0,by omega,cw2,q,x0,i,rh nm w1.co.next 0 w1.ps.length,?_,?_,rfl,?_,?_,fun r z _ hz=>hes2 r z hz⟩
  rw[h1];exact⟨hq,hql,hx⟩
  rw[h1];exact⟨g1,g2,rfl⟩
  rw[hes2 0 x0 hx];rfl
  have hpl:=i1.ps.len
  refine⟨rfl,rfl,rfl,?_,?_,?_⟩
  show(aq w1.ps.length (0:Int)).getD 0 0=((0:Nat):Int)
  simp[List.getD,fv]
  split<;>rfl
  show 1<=(aq w1.ps.length (0:Int)).length
  rw[bW];omega
  show 1<=(aq w1.ps.length jP).length
  rw[bW];omega
end
section
/-! what is read of a log in order -/
def Qb (e:cr):Prop:=e.kind=1/\e.txn=false
theorem Kd {es:List cr} (h: ∀ e∈es,Qb e) {st:Nat} (hs:rN es st):st=es.length:=by
 rcases hs.2.2 with h1|⟨pid,e,h1,h2,h3,h4⟩
 exact h1
 have:=(h e (ab h1)).2
 rw[h3]at this;cases this
theorem Bv {es:List cr} (h: ∀ e∈es,Qb e) (n a:Nat): ∀ b,a+b<=es.length->texts es n a (a+b)=((es.drop a).take b).map cr.text
 |0,_=>by rw[pJ,Ad];simp
 |b+1,hb=>by
  obtain⟨e,he⟩: ∃ e,es[a+b]? =some e:=⟨_,aj I⟩
  have hp:=h e (ab he)
  have he2:(es.drop a)[b]? =some e:=by rw[dk];exact he
  rw[<-ls,s7 I,Bv h n a b I,d6 he2,bk]
  congr 1
  unfold DQ
  rw[he]
  dsimp only
  rw[if_pos ⟨hp.1,by unfold xf;rw[hp.2];rfl⟩]
  rfl
variable {np nr k m i:Nat} {wt ep Nn:Int} {w w':Wa} {p:f3} {x:RA} {s:Sn} {nm:ByteArray} {τ:Nat->ByteArray}
theorem Dg: ∀ e∈tf ep Nn τ k,Qb e:=fun e he=>by
 unfold tf at he
 obtain⟨j,-,rfl⟩:=bD.1 he
 exact⟨rfl,rfl⟩
theorem JO:(tf ep Nn τ k).map cr.text=(gy k).map τ:=by
 unfold tf
 rw[pM]
 rfl
theorem LU {y:RA} {a most st b:Nat} {out:List ByteArray} (hy:y.es=tf ep Nn τ k) (hh:y.high.toNat=k) (ha:a<=k) (hs:rN (y.es.take y.high.toNat) st) (hr:xS y.es y.high.toNat st a most out b):b=min k (a+most)/\out=(((gy k).map τ).drop a).take most:=by
 rw[hh,hy,eo (by rw[qq];exact ao _)]at hs
 rw[hh,hy]at hr
 have hst:=Kd Dg hs
 rw[qq]at hst
 subst hst
 obtain⟨r1,r2,r3,r4,r5,-⟩:=hr
 have hb:b<=st:=by rcases r2 with r2|r2<;>omega
 obtain⟨c,rfl⟩: ∃ c,b=a+c:=⟨b-a,by omega⟩
 rw[Bv Dg _ a c (by rw[qq];exact hb),List.map_take,List.map_drop,JO]at r3
 have hlen:out.length=c:=by rw[r3,aD,cZ,bc,jE];omega
 refine⟨by omega,?_⟩
 rw[r3]
 rcases r5 with h|h
 have e1:c=st-a:=by omega
 rw[eo (by rw[cZ,bc,jE];omega),eo (by rw[cZ,bc,jE];omega)]
 rw[show c=most by omega]
theorem Ow.rds (h:Ow np nr m wt ep Nn nm τ w k): ∃ p,w.ps[0]? =some p/\GM (tf ep Nn τ k) 0 0 p/\p.reps.length=nr:=by
 obtain⟨p,x,i,s,h0,hs,he,hx,hsp,ho⟩:=h.ex
 obtain⟨K,hw⟩:=h.cw.wi
 have hg:=(hw.ps.gt 0 p h0.pt).1
 have hok:=hg.ok
 refine⟨p,h0.pt,⟨(h.cw.cm.ps p (ab h0.pt)).1,h0.ld,⟨x,h0.rp,hx,?_,fun h=>by omega,fun h=>by omega⟩,fun r z hr hz=>⟨0,bN _,?_,?_⟩,fun r v hr hv=> ?_,fun h=>by omega,hok.knownl⟩,hg.len⟩
 have:=(hok.at_ h0.rp).high1
 rw[hx]at this
 exact this
 rw[ho r z hr hz];rfl
 rw[if_neg (show¬ r<0 by omega)];omega
 rw[if_neg (show¬ r<0 by omega)]
 have:=hok.known v (ab hv)
 omega
end
section
/-! one consumer polls -/
def oy (m:Nat):Act:=⟨19,eH 2,0,m,0,⟨#[]⟩,0⟩
def ym (a:Nat):Act:=⟨20,eH 2,0,1,a,⟨#[]⟩,0⟩
def dB (nm:ByteArray) (τ:Nat->ByteArray) (k:Nat):List Act:=(gy k).map fun j=>qo nm (τ j) 0
theorem yZ (nm:ByteArray) (τ:Nat->ByteArray) (k:Nat):dB nm τ (k+1)=dB nm τ k++[qo nm (τ k) 0]:=by simp[dB,ss]
theorem iF (nm:ByteArray) (τ:Nat->ByteArray) (k:Nat):(dB nm τ k).length=k:=by simp[dB]
def jt (k m i:Nat):List Act:=(gy i).map fun j=>ym (min k (m*(j+1)))
theorem AA (k m i:Nat):jt k m (i+1)=jt k m i++[ym (min k (m*(i+1)))]:=by simp[jt,ss]
theorem js (k m i:Nat):(jt k m i).length=i:=by simp[jt]
def Ka (wt:Int) (os:List lr):Gr:=⟨0,wt,1,[⟨eH 2,0,[0],none,0,0,0⟩],none,0,os,none,0⟩
def Qf (k m:Nat):Nat->List lr
 |0=>[]
 |i+1=>[⟨0,(min k (m*(i+1)):Nat)⟩]
variable {np nr k m i:Nat} {wt ep Nn:Int} {w w':Wa} {nm:ByteArray} {τ:Nat->ByteArray}
theorem NQ (w:Wa) (n:Nat) (x:cr):(lk w n x).1.gr=w.gr:=by
 unfold lk kf
 split
 rfl
 split<;>rfl
theorem Gp (w:Wa) (s:Sn) (n:Nat):(dE w s n).1.gr=w.gr:=by
 unfold dE kf
 split
 rfl
 split
 rw[NQ]
 rfl
theorem P9 {a:Act} {y:An} (hk:a.kind=1∨a.kind=3∨(8<=a.kind/\a.kind<=15)) (hA:qf w a w' y):w'.gr=w.gr:=by
 obtain⟨rfl,-⟩:=qK hA I
 unfold jx
 split
 unfold l9 kf;split<;>rfl
 rw[if_neg I]
 split
 unfold gX kf
 split
 rfl
 split
 rfl
 dsimp only
 split
 rfl
 rw[Gp]
 rw[if_neg I,if_neg I,if_neg I,if_pos I]
 unfold lY kf
 split
 rfl
 split<;>rfl
theorem G5 {l:List Act} {xs:List An} (h:kN w l xs w') (hk: ∀ a∈l,a.kind=1∨a.kind=3∨(8<=a.kind/\a.kind<=15)):w'.gr=w.gr:=by
 induction h with
 |nil=>rfl
 |cons h1 _ ih=>exact(ih fun a ha=>hk a (ai _ ha)).trans (P9 (hk _ (az ..)) h1)
theorem Fm: ∀ (nr t:Nat),∀ a∈iG nr t,a.kind=1∨a.kind=3∨(8<=a.kind/\a.kind<=15)
 |nr,0,a,ha=>by simp[iG]at ha
 |nr,t+1,a,ha=>by
  rw[iG]at ha
  rcases ap.1 ha with ha|ha
  exact Fm nr t a ha
  unfold pI at ha
  obtain⟨r,-,hr⟩:=List.mem_flatMap.1 ha
  simp only[av,bd,or_false]at hr
  rcases hr with rfl|rfl
  exact .inr (.inr (by show(8:Int)<=9/\(9:Int)<=15;decide))
  exact .inr (.inr (by show(8:Int)<=8/\(8:Int)<=15;decide))
theorem GZ: ∀ a∈dB nm τ k,a.kind=1∨a.kind=3∨(8<=a.kind/\a.kind<=15):=fun a ha=>by
 unfold dB at ha
 obtain⟨j,-,rfl⟩:=bD.1 ha
 exact .inr (.inl Z)
theorem P4:gF [eH 2] 1=[[0]]:=by decide
theorem Oq (wt:Int):ro ⟨0,wt,0,[],none,0,[],none,0⟩ (eH 2) 1=(Ka wt [],0):=by
 have h:n7 [zu (eH 2) 0] 1=[⟨eH 2,0,[0],none,0,0,0⟩]:=by
  unfold n7
  rw[show [zu (eH 2) 0].map Mem.name=[eH 2]from rfl,P4]
  rfl
 unfold ro
 rw[MJ (by simp)]
 show(EW ⟨0,wt,0,[zu (eH 2) 0],none,0,[],none,0⟩ 1,(0:Int))=_
 unfold EW Ka
 dsimp only
 rw[h]
 rfl
theorem IV (wt:Int) (os:List lr):jv (Ka wt os) (eH 2)=some (0,⟨eH 2,0,[0],none,0,0,0⟩):=by
 have h:(Ka wt os).ms.findIdx? (fun p=>decide (p.name=eH 2))=some 0:=by
  unfold Ka
  rw[List.findIdx?_cons]
  simp
 unfold jv
 rw[h]
 rfl
theorem KY (wt:Int) (os:List lr):ez (Ka wt os) (eH 2) 0=(qk os 0,0):=by
 unfold ez
 rw[IV]
 dsimp only
 rw[if_pos (by simp)]
 rfl
theorem Le (wt:Int) (os:List lr) {a:Nat} (ha:a<=400):qm (Ka wt os) (eH 2) 1 0 a=(Ka wt (fO os 0 a),0):=by
 unfold qm
 rw[IV]
 dsimp only
 rw[if_pos (show(Ka wt os).gen=1 from rfl),if_neg I,if_pos (by simp)]
 rfl
theorem Pu (k m i:Nat) (a:Int):fO (Qf k m i) 0 a=[⟨0,a⟩]:=by
 cases i<;>simp[fO,Qf,l6]
theorem KW (k m i:Nat):qk (Qf k m i) 0=(min k (m*i):Nat):=by
 cases i<;>simp[qk,Qf]
theorem Dc (h4:np<=4) (hp:1<=np) (hN:0<Nn/\Nn<=1073741824) (hn:bu nm=true): ∀ (k:Nat) {w w':Wa} {xs:List An},kN w (dB nm τ k) xs w'->m+k<400->(∀ j,j<k->(τ j).size<=40)->Ow np nr m wt ep Nn nm τ w 0->Ow np nr (m+k) wt ep Nn nm τ w' k
 |0,w,w',xs,h,_,_,ho=>by cases h;exact ho
 |k+1,w,w',xs,h,hm,ht,ho=>by
  rw[yZ]at h
  obtain⟨us,zs,w1,rfl,r1,r2⟩:=h.split
  have o1:=Dc h4 hp hN hn k r1 I (fun j hj=>ht j I) ho
  cases r2 with
  |cons a1 r2=>
   cases r2
   obtain⟨b,g1,g2⟩:=o1.send I h4 hp hN I (ht k I) hn (by decide) a1
   rw[g2 (by decide)]at g1
   exact g1.done
theorem IM (hp:1<=np) (hr:1<=nr):nv np nr (dx (eH 2)):=(wm (hard:=true) (k:=16) (pt:=0) (n:=0) (m:=0) (lo:=0) (nm:=eH 2) (t:=⟨#[]⟩) I (by simp) (fun _=>by decide) (.inl Z)).g
structure Pw (wt ep Nn:Int) (τ:Nat->ByteArray) (k:Nat) (os:List lr) (w:Wa):Prop where
 gr:w.gr=Ka wt os
 ex: ∃ (p:f3) (y:RA),w.ps[0]? =some p/\p.leader=0/\p.reps[0]? =some y/\y.es=tf ep Nn τ k/\y.high.toNat=k
theorem G8 {xs:List An} (n1:1<=nr) (n5:nr<=5) (t1:1<=wt) (t2:wt<=1000) (hn:bu nm=true) (hk:k<=16) (ht: ∀ j,j<k->(τ j).size<=40) (h:kN (mP 1 nr 1 wt) ([bT 0,dy nm,dx (eH 2)]++dB nm τ k++iG nr 18) xs w'): ∃ ep Nn,Pw wt ep Nn τ k [] w':=by
 obtain⟨us,zs,w3,rfl,h,r3⟩:=h.split
 obtain⟨us,zs2,w2,rfl,h,r2⟩:=h.split
 rw[show [bT 0,dy nm,dx (eH 2)]=[bT 0,dy nm]++[dx (eH 2)]from rfl]at h
 obtain⟨us,zs3,w1,rfl,h,r1⟩:=h.split
 obtain⟨ep,Nn,hN0,hN1,o1⟩:=JM (τ:=τ) (ao 1) (by decide) n1 n5 t1 t2 hn h
 have g1:w1.gr=(mP 1 nr 1 wt).gr:=G5 h fun a ha=>by
  simp only[av,bd,or_false]at ha
  rcases ha with rfl|rfl
  exact .inr (.inr (by show(8:Int)<=13/\(13:Int)<=15;decide))
  exact .inl Z
 cases r1 with
 |cons a1 r1=>
  cases r1
  have cw:=o1.cw.next I (by decide) (IM (ao 1) n1) (.inr (by show(16:Int)<=16;decide)) a1
  obtain⟨h1,-⟩:=qK a1 (by show¬ (16:Int)=19;decide)
  obtain⟨K,hw⟩:=o1.cw.wi
  have e1:jx w1 (dx (eH 2))=wn w1 (dx (eH 2)):=by simp[jx,dx]
  have e2:AL w1 (dx (eH 2))=(Ka wt [],0):=by
   unfold AL
   rw[if_pos (show(dx (eH 2)).kind=16 from rfl),g1,hw.ps.len]
   exact Oq wt
  rw[e1]at h1
  unfold wn at h1
  rw[e2,if_pos Z]at h1
  obtain⟨p,x,j,s,b1,b2,b3,b4,b5,b6⟩:=o1.ex
  have o2:Ow 1 nr 3 wt ep Nn nm τ w2 0:=⟨cw,p,x,j,s,by rw[h1];exact⟨b1.pt,b1.ld,b1.rp⟩,by rw[h1];exact⟨b2.ix,b2.sn,b2.nm⟩,b3,b4,b5,b6⟩
  have g2:w2.gr=Ka wt []:=by rw[h1]
  have o3:=Dc (by decide) (ao 1) ⟨hN0,hN1⟩ hn k r2 I ht o2
  obtain⟨p,hp,hr,hl⟩:=o3.rds
  obtain⟨p',c1,c2,-⟩:=Iw (by rw[qq];omega) n1 18 r3 hl hp hr
  obtain⟨y,d1,d2,d3,-,d5⟩:=c2.zero
  rw[qq]at d3 d5
  exact⟨ep,Nn,(G5 r3 (Fm nr 18)).trans ((G5 r2 GZ).trans g2),p',y,c1,c2.ld,d1,d2,by have:=d5 I;omega⟩
theorem Pw.off {os:List lr} {a:Nat} {x:An} (h:Pw wt ep Nn τ k os w) (ha:a<=400) (hA:qf w (ym a) w' x):Pw wt ep Nn τ k (fO os 0 a) w':=by
 obtain⟨h1,-⟩:=qK hA (by show¬ (20:Int)=19;decide)
 have e1:jx w (ym a)=wn w (ym a):=by simp[jx,ym]
 have e2:AL w (ym a)=(Ka wt (fO os 0 a),0):=by
  unfold AL
  rw[if_neg (show¬ (ym a).kind=16 by show¬ (20:Int)=16;decide),if_neg (show¬ (ym a).kind=18 by show¬ (20:Int)=18;decide),h.gr]
  exact Le wt os ha
 rw[e1]at h1
 unfold wn at h1
 rw[e2,if_pos Z]at h1
 exact⟨by rw[h1],by rw[h1];exact h.ex⟩
theorem FA (hk:k<=400): ∀ (i:Nat) {w w':Wa} {xs:List An},kN w (jt k m i) xs w'->Pw wt ep Nn τ k [] w->Pw wt ep Nn τ k (Qf k m i) w'
 |0,w,w',xs,h,ho=>by cases h;exact ho
 |i+1,w,w',xs,h,ho=>by
  rw[AA]at h
  obtain⟨us,zs,w1,rfl,r1,r2⟩:=h.split
  have o1:=FA hk i r1 ho
  cases r2 with
  |cons a1 r2=>
   cases r2
   have:=o1.off I a1
   rw[Pu]at this
   exact this
theorem Pw.poll {x:An} (h:Pw wt ep Nn τ k (Qf k m i) w) (hA:qf w (oy m) w' x):x=⟨0,(min k (m*(i+1)):Nat),(((gy k).map τ).drop (min k (m*i))).take m⟩:=by
 obtain⟨p,y,h1,h2,h3,h4,h5⟩:=h.ex
 have hw:ez w.gr (oy m).name (oy m).part=(((min k (m*i):Nat):Int),(0:Int)):=by
  rw[h.gr]
  show ez _ (eH 2) 0=_
  rw[KY,KW]
 cases hA with
 |other h19=>exact absurd Z h19
 |poll x h19 hp=>
  cases hp with
  |no h0=>rw[hw]at h0;exact absurd Z h0
  |yes q x h0 hq hr=>
   rw[hw]at hr
   have hq:w.ps[0]? =some q:=hq
   rw[h1]at hq
   cases hq
   cases hr with
   |none g1=>omega
   |range l r g1 g2 g3=>
    have:l=0:=by omega
    subst this
    rw[h3]at g2;cases g2
    rw[h4,qq]at g3
    have g3:k<min k (m*i):=g3
    omega
   |ok l r st out b g1 g2 g3 g4 g5=>
    have:l=0:=by omega
    subst this
    rw[h3]at g2;cases g2
    have g5:xS y.es y.high.toNat st (min k (m*i)) m out b:=g5
    obtain⟨rfl,rfl⟩:=LU h4 h5 I g4 g5
    have:min k (min k (m*i)+m)=min k (m*(i+1)):=by rw[Nat.mul_succ];omega
    rw[this]
theorem LN {xs:List An} (n1:1<=nr) (n5:nr<=5) (t1:1<=wt) (t2:wt<=1000) (hn:bu nm=true) (hk:k<=16) (ht: ∀ j,j<k->(τ j).size<=40) (h:kN (mP 1 nr 1 wt) ([bT 0,dy nm,dx (eH 2)]++dB nm τ k++iG nr 18++jt k m i++[oy m]) xs w'):
  ∃ ys,xs=ys++[⟨0,(min k (m*(i+1)):Nat),(((gy k).map τ).drop (min k (m*i))).take m⟩]:=by
 obtain⟨us,zs,w1,rfl,h,r⟩:=h.split
 obtain⟨us,zs2,w2,rfl,h,r2⟩:=h.split
 obtain⟨ep,Nn,g⟩:=G8 n1 n5 t1 t2 hn hk ht h
 have g2:=FA I i r2 g
 cases r with
 |cons a1 r=>
  cases r
  exact⟨us++zs2,by rw[g2.poll a1]⟩
theorem MB {α:Type} (l:List α) (a m:Nat):l.take (min l.length a)++(l.drop (min l.length a)).take m=l.take (min l.length (a+m)):=by
 rw[<-List.take_add]
 apply dZ
 intro j
 simp only[di]
 split<;>split<;>first|rfl|(rw[bX];omega)|(symm;rw[bX];omega)
end

theorem vp (es:List Act) (hl:es.length<=1000):d7 ra es es.length (ra.all es).toArray:=⟨by rw[dY,fA.length],by rw[List.toList_toArray];exact eo (by rw[fA.length];exact ao _),ao _,by simp only[maxLen];omega⟩
theorem Ip {np nr j:Nat} (hp:1<=np) (hj:j<nr) (hr:nr<=5):nv np nr (rf j)/\nv np nr (mY j):=
 ⟨(wm (hard:=true) (k:=9) (pt:=0) (n:=j) (m:=0) (lo:=0) (nm:=⟨#[]⟩) (t:=⟨#[]⟩) (by omega) (by simp) (by omega) (.inl rfl)).g,(wm (hard:=true) (k:=8) (pt:=0) (n:=j) (m:=0) (lo:=0) (nm:=⟨#[]⟩) (t:=⟨#[]⟩) (by omega) (by simp) (by omega) (.inl rfl)).g⟩
theorem Pt {np nr:Nat} (hp:1<=np) (hr:nr<=5) (t:Nat): ∀ a∈iG nr t,nv np nr a:=by
 induction t with
 |zero=>intro a ha;cases ha
 |succ t ih=>
  intro a ha
  rw[iG]at ha
  rcases ap.1 ha with ha|ha
  exact ih a ha
  unfold pI at ha
  obtain⟨j,hj,ha⟩:=List.mem_flatMap.1 ha
  have hj:=List.mem_range.1 hj
  simp only[av,bd,or_false]at ha
  rcases ha with rfl|rfl
  exact(Ip hp hj hr).1
  exact(Ip hp hj hr).2
theorem D6 {nr k m i:Nat} (n1:1<=nr) (n5:nr<=5) (hk:k<=14) (m1:1<=m) (m4:m<=4): ∀ a∈[bT 0,dy (eH 0),dx (eH 2)]++dB (eH 0) dX k++iG nr 18++jt k m i++[oy m],nv 1 nr a:=fun a ha=>by
 rcases ap.1 ha with ha|ha
 rcases ap.1 ha with ha|ha
 rcases ap.1 ha with ha|ha
 rcases ap.1 ha with ha|ha
 simp only[av,bd,or_false]at ha
 rcases ha with rfl|rfl|rfl
 exact Gl (ao 1) n1
 exact IR (ao 1) (AC _)
 exact IM (ao 1) n1
 unfold dB at ha
 obtain⟨j,-,rfl⟩:=bD.1 ha
 exact Iu (ao 1) (by decide) (Dl _) (AC _)
 exact Pt (ao 1) n5 18 a ha
 unfold jt at ha
 obtain⟨j,-,rfl⟩:=bD.1 ha
 exact(wm (hard:=true) (k:=20) (pt:=0) (n:=1) (m:=(min k (m*(j+1)):Nat)) (lo:=0) (nm:=eH 2) (t:=⟨#[]⟩) (by omega) (by simp) (fun _=>AC _) (.inl rfl)).g
 rw[ar.1 ha]
 exact(wm (hard:=true) (k:=19) (pt:=0) (n:=m) (m:=0) (lo:=0) (nm:=eH 2) (t:=⟨#[]⟩) (by omega) (by simp) (fun _=>AC _) (.inl rfl)).g
def pB (k m i:Nat):List ByteArray:=((gy k).map dX).take (min k (m*i))
theorem MD (k m i:Nat):(pB k m i).length=min k (m*i):=by unfold pB;rw[aD,bc,jE];omega
theorem MC (k m i:Nat):pB k m i++(((gy k).map dX).drop (min k (m*i))).take m=pB k m (i+1):=by
 have:=MB ((gy k).map dX) (m*i) m
 rw[bc,jE,<-Nat.mul_succ]at this
 exact this
theorem OA {k m:Nat} (hk:k<=14) (m1:1<=m):pB k m 18=(gy k).map dX:=by
 unfold pB
 rw[eo]
 rw[bc,jE];omega
theorem Mr {xs:List Aq} {ys:List An} {z:An} (h:xs.map Aq.x=ys++[z]): ∃ (x:Aq) (xl:Nat),xs[xl]? =some x/\x.x=z/\((xs.length:Nat):Int)-1=((xl:Nat):Int):=by
 have hl:xs.length=ys.length+1:=by have:=congrArg da h;simpa using this
 have h1:(xs.map Aq.x)[ys.length]? =some z:=by rw[h];simp
 rw[aI]at h1
 cases hx:xs[ys.length]? with
 |none=>rw[hx]at h1;cases h1
 |some x=>rw[hx]at h1;exact⟨x,ys.length,hx,aY h1,by omega⟩
theorem DU (n0 a b mo:Int) (w:World) (h0:i64 n0) (ha:i64 a) (hb:i64 b) (hm0:i64 mo):dt aa sI [.int .i64 n0,.int .i64 a,.int .i64 b,.int .i64 mo] w fun v w2=>v=.bool true/\Below w.heap.size w w2:=by
 refine aG rV rfl rfl ?_
 have H:=Hp.start w
 obtain⟨np,nr,few,wt,q1,q4,n1,n5,f1,f2,t1,t2,hset⟩:=Ju ha hb
 obtain⟨k,hk⟩: ∃ k,pk n0 15=k:=⟨_,rfl⟩
 have hk14:=ut n0 (show 0<15 by omega)
 obtain⟨m,hm⟩: ∃ m,1+pk mo 4=m:=⟨_,rfl⟩
 have hm4:=ut mo (show 0<4 by omega)
 have k14:k<=14:=by omega
 have m1:1<=m:=by omega
 have m4:m<=4:=by omega
 have h18:18*(2*nr)<=180:=by omega
 refine cE ?_
 refine bK ?_
 refine l1 (DD rfl) rfl rfl rfl ?_
 refine bP ?_
 refine cE ?_
 refine bK ?_
 refine l1 (gg rfl) rfl rfl rfl ?_
 refine l1 (gg rfl) rfl rfl rfl ?_
 refine cu uf (hset _) rfl rfl ?_
 rintro _ w1 ⟨rfl,hb⟩;replace H:=H.later hb;clear hb
 refine fc H DM rfl ?_;intro w2 b9 H
 refine bA H 0 (#[.int .i64 (((np:Nat):Int)),.int .i64 (((nr:Nat):Int)),.int .i64 (((few:Nat):Int)),.int .i64 (wt)]) C9 rfl rfl rfl rfl rfl (by kernel_rfl) (by kernel_rfl) ?_;intro w3 H
 refine bP ?_
 refine cE ?_
 refine bK ?_
 refine l1 (zf tz rfl) rfl rfl rfl ?_
 refine bA H 0 (#[.int .i64 (1),.int .i64 (((nr:Nat):Int)),.int .i64 (((few:Nat):Int)),.int .i64 (wt)]) bQ rfl rfl rfl rfl rfl (by kernel_rfl) (by kernel_rfl) ?_;intro w4 H
 refine l1 (zf BA rfl) rfl rfl rfl ?_
 refine bA H 0 (#[.int .i64 (1),.int .i64 (((nr:Nat):Int)),.int .i64 (1),.int .i64 (wt)]) bQ rfl rfl rfl rfl rfl (by kernel_rfl) (by kernel_rfl) ?_;intro w5 H
 refine l1 (zf wC rfl) rfl rfl rfl ?_
 refine bA H 0 (#[.int .i64 (1),.int .i64 (((nr:Nat):Int)),.int .i64 (1),.int .i64 (1000)]) bQ rfl rfl rfl rfl rfl (by kernel_rfl) (by kernel_rfl) ?_;intro w6 H
 refine bP ?_
 refine cE ?_
 refine bK ?_
 refine l1 (gg rfl) rfl rfl rfl ?_
 refine cu m3 ((by have hA:=Av n0 15 w6 h0.1 h0.2 (by decide) (by decide);rw[hk]at hA;exact hA)) rfl rfl ?_
 rintro _ w7 ⟨rfl,hb⟩;replace H:=H.later hb;clear hb
 refine l1 (BN rfl) rfl rfl rfl ?_
 refine bP ?_
 refine cE ?_
 refine bK ?_
 refine l1 (gg rfl) rfl rfl rfl ?_
 refine cu m3 (Av mo 4 _ hm0.1 hm0.2 (by decide) (by decide)) rfl rfl ?_
 rintro _ w8 ⟨rfl,hb⟩;replace H:=H.later hb;clear hb
 refine l1 (bp rfl rfl (by omega) (by omega)) rfl rfl rfl ?_
 rw[show(1:Int)+((pk mo 4:Nat):Int)=((m:Nat):Int)from by omega]
 refine l1 (BN rfl) rfl rfl rfl ?_
 refine bP ?_
 refine cE ?_
 refine bK ?_
 refine l1 (bC (cs:= #[.int .i64 (13),.string (⟨#[]⟩),.int .i64 (0),.int .i64 (0),.int .i64 (0),.string (⟨#[]⟩),.int .i64 (0)]) um qj (by kernel_rfl)) rfl rfl rfl ?_
 refine l1 (bC (cs:= #[.int .i64 (1),.string (⟨#[97,110,110]⟩),.int .i64 (0),.int .i64 (0),.int .i64 (0),.string (⟨#[]⟩),.int .i64 (0)]) um qj (by kernel_rfl)) rfl rfl rfl ?_
 refine l1 (bC (cs:= #[.int .i64 (16),.string (⟨#[99,121]⟩),.int .i64 (0),.int .i64 (0),.int .i64 (0),.string (⟨#[]⟩),.int .i64 (0)]) um qj (by kernel_rfl)) rfl rfl rfl ?_
 refine uO (vs:=[.agg (Act.c (bT 0)).toArray,.agg (Act.c (dy (eH 0))).toArray,.agg (Act.c (dx (eH 2))).toArray]) H rg qj rfl rfl rfl rfl rfl rfl ?_;intro w9 b36 H
 replace H:=H.freeze (vp [bT 0,dy (eH 0),dx (eH 2)] (by simp))
 refine l1 (vV rfl) rfl rfl rfl ?_
 refine bP ?_
 refine cE ?_
 refine cE ?_
 refine bK ?_
 refine l1 (gg rfl) rfl rfl rfl ?_
 refine l1 (gg rfl) rfl rfl rfl ?_
 refine bP ?_
 refine lB ?_
 refine cf (τ:=Nat×Option Addr×Nat×Nat×Nat) [12,13,38,39,40,41,42,43,44,45,46,47] (fun(j,A2,c2,lo2,hi2)=>[(12,.slice A2 ([bT 0,dy (eH 0),dx (eH 2)]++dB (eH 0) dX j).length c2),(38,.int .i64 (j:Nat))]) (fun(j,A2,c2,lo2,hi2) w'=>j<=k/\Hp w w' [(b9,.cells #[.int .i64 (1),.int .i64 (((nr:Nat):Int)),.int .i64 (1),.int .i64 (1000)] lL (0,0))] (ey ra lo2 hi2 A2 ([bT 0,dy (eH 0),dx (eH 2)]++dB (eH 0) dX j)::[])) (fun(j,_)=>k-j) (0,some ⟨b36,0,none⟩,3,b36,b36+1) ⟨bN _,H⟩ (mK rfl rfl) ?_
 rintro⟨j,A2,c2,lo2,hi2⟩ ρ1 w10 ⟨hjk,H⟩
 show CW _ _ _ _ (dK (ia _ _ ρ1) [(12,.slice A2 ([bT 0,dy (eH 0),dx (eH 2)]++dB (eH 0) dX j).length c2),(38,.int .i64 (j:Nat))]) w10
 refine cE ?_
 refine bK ?_
 refine du (cO rfl rfl) rfl rfl rfl (fun h39=> ?_) (fun h39=> ?_)
 ·
  refine bP ?_
  refine cE ?_
  refine jc rfl ?_
  refine og ?_
  refine cE ?_
  refine lB ?_
  refine cE ?_
  refine bK ?_
  refine l1 (gg rfl) rfl rfl rfl ?_
  refine l1 (BN rfl) rfl rfl rfl ?_
  refine bP ?_
  refine bK ?_
  refine l1 (sE rfl) rfl rfl rfl ?_
  refine l1 (gg rfl) rfl rfl rfl ?_
  refine cu tU (IN j _ (by omega)) rfl rfl ?_
  rintro _ w11 ⟨rfl,hb⟩;replace H:=H.later hb;clear hb
  refine l1 (bC (cs:= #[.int .i64 (3),.string (⟨#[97,110,110]⟩),.int .i64 (0),.int .i64 (0),.int .i64 (0),.string (dX j),.int .i64 (0)]) um qj (by kernel_rfl)) rfl rfl rfl ?_
  refine uO (vs:=[.agg (Act.c (qo (eH 0) (dX j) 0)).toArray]) H rg qj rfl rfl rfl rfl rfl rfl ?_;intro w12 b45 H
  replace H:=H.freeze (vp [qo (eH 0) (dX j) 0] (by simp))
  refine cu gd (uY (l:=([bT 0,dy (eH 0),dx (eH 2)]++dB (eH 0) dX j)) (m:=[qo (eH 0) (dX j) 0]) _ (H.rd0 1 rfl) (H.rd0 0 rfl) (by simp only[ay,iF,kj,ju,js,bf,ei];omega) (by simp)) rfl rfl ?_
  rintro _ w13 ⟨Aw,cw,Lw,rfl,how,hjw⟩;replace H:=H.learnOwn hjw how
  rw[show([bT 0,dy (eH 0),dx (eH 2)]++dB (eH 0) dX j)++[qo (eH 0) (dX j) 0]=([bT 0,dy (eH 0),dx (eH 2)]++dB (eH 0) dX (j+1))from by rw[aB,<-yZ]]at H⊢
  refine l1 (vV rfl) rfl rfl rfl ?_
  refine bP ?_
  refine bK ?_
  refine l1 (bp rfl rfl (by omega) (by omega)) rfl rfl rfl ?_
  refine l1 (gg rfl) rfl rfl rfl ?_
  refine bP ?_
  exact⟨(j+1,Aw,cw,w12.heap.size,w13.heap.size),⟨by omega,H.forget (by repeat (first|exact au _|refine .cons _ ?_)) (fun f hf=>by simp only[av,bd,or_false]at hf⊢;grind)⟩,mK rfl rfl,by repeat (first|exact yU.refl _ _|exact io|refine gZ rfl ?_|refine fJ _ rfl ?_|refine m8 rfl ?_),by show k- (j+1)<k-j;omega⟩
 ·
  refine bP ?_
  refine cE ?_
  refine gQ rfl ?_
  refine xC ?_
  refine cE ?_
  refine cE ?_
  refine bK ?_
  refine l1 (gg rfl) rfl rfl rfl ?_
  refine bP ?_
  refine lB ?_
  have hjk2:k=j:=by omega
  subst hjk2
  rw[show([bT 0,dy (eH 0),dx (eH 2)]++dB (eH 0) dX k)=([bT 0,dy (eH 0),dx (eH 2)]++dB (eH 0) dX k)++iG nr 0 from(aZ _).symm]at H⊢
  refine cf (τ:=Nat×Option Addr×Nat×Nat×Nat) [12,14,48,49,50,51,52,53,54,55,56,57,58,59,60,61,62,63] (fun(t,A2,c2,lo2,hi2)=>[(12,.slice A2 (([bT 0,dy (eH 0),dx (eH 2)]++dB (eH 0) dX k)++iG nr t).length c2),(48,.int .i64 (t:Nat))]) (fun(t,A2,c2,lo2,hi2) w'=>t<=18/\Hp w w' [(b9,.cells #[.int .i64 (1),.int .i64 (((nr:Nat):Int)),.int .i64 (1),.int .i64 (1000)] lL (0,0))] (ey ra lo2 hi2 A2 (([bT 0,dy (eH 0),dx (eH 2)]++dB (eH 0) dX k)++iG nr t)::[])) (fun(t,_)=>18-t) (0,A2,c2,lo2,hi2) ⟨by omega,H⟩ (mK rfl rfl) ?_
  rintro⟨t,A2,c2,lo2,hi2⟩ ρ1 w14 ⟨ht18,H⟩
  show CW _ _ _ _ (dK (ia _ _ ρ1) [(12,.slice A2 (([bT 0,dy (eH 0),dx (eH 2)]++dB (eH 0) dX k)++iG nr t).length c2),(48,.int .i64 (t:Nat))]) w14
  refine cE ?_
  refine bK ?_
  refine du (cO rfl rfl) rfl rfl rfl (fun h49=> ?_) (fun h49=> ?_)
  ·
   refine bP ?_
   refine cE ?_
   refine jc rfl ?_
   refine og ?_
   refine cE ?_
   refine lB ?_
   refine cE ?_
   refine bK ?_
   refine l1 (zf BB rfl) rfl rfl rfl ?_
   refine l1 (bi am rfl (aJ (H.ent (i:=0) rfl) rfl)) rfl rfl rfl ?_
   refine l1 (gg rfl) rfl rfl rfl ?_
   refine bP ?_
   refine lB ?_
   rw[show([bT 0,dy (eH 0),dx (eH 2)]++dB (eH 0) dX k)++iG nr t=([bT 0,dy (eH 0),dx (eH 2)]++dB (eH 0) dX k)++iG nr t++pI 0 from(aZ _).symm]at H⊢
   refine cf (τ:=Nat×Option Addr×Nat×Nat×Nat) [12,14,52,53,54,55,56,57,58,59,60,61,62] (fun(r,A2,c2,lo2,hi2)=>[(12,.slice A2 (([bT 0,dy (eH 0),dx (eH 2)]++dB (eH 0) dX k)++iG nr t++pI r).length c2),(52,.int .i64 (r:Nat))]) (fun(r,A2,c2,lo2,hi2) w'=>r<=nr/\Hp w w' [(b9,.cells #[.int .i64 (1),.int .i64 (((nr:Nat):Int)),.int .i64 (1),.int .i64 (1000)] lL (0,0))] (ey ra lo2 hi2 A2 (([bT 0,dy (eH 0),dx (eH 2)]++dB (eH 0) dX k)++iG nr t++pI r)::[])) (fun(r,_)=>nr-r) (0,A2,c2,lo2,hi2) ⟨by omega,H⟩ (mK rfl rfl) ?_
   rintro⟨r,A2,c2,lo2,hi2⟩ ρ1 w15 ⟨hrn,H⟩
   show CW _ _ _ _ (dK (ia _ _ ρ1) [(12,.slice A2 (([bT 0,dy (eH 0),dx (eH 2)]++dB (eH 0) dX k)++iG nr t++pI r).length c2),(52,.int .i64 (r:Nat))]) w15
   refine cE ?_
   refine bK ?_
   refine du (cO rfl rfl) rfl rfl rfl (fun h53=> ?_) (fun h53=> ?_)
   ·
    refine bP ?_
    refine cE ?_
    refine jc rfl ?_
    refine og ?_
    refine cE ?_
    refine lB ?_
    refine cE ?_
    refine bK ?_
    refine l1 (gg rfl) rfl rfl rfl ?_
    refine l1 (BN rfl) rfl rfl rfl ?_
    refine bP ?_
    refine bK ?_
    refine l1 (sE rfl) rfl rfl rfl ?_
    refine l1 (gg rfl) rfl rfl rfl ?_
    refine l1 (bC (cs:= #[.int .i64 (9),.string (⟨#[]⟩),.int .i64 (0),.int .i64 (((r:Nat):Int)),.int .i64 (0),.string (⟨#[]⟩),.int .i64 (0)]) um qj (by kernel_rfl)) rfl rfl rfl ?_
    refine l1 (gg rfl) rfl rfl rfl ?_
    refine l1 (bC (cs:= #[.int .i64 (8),.string (⟨#[]⟩),.int .i64 (0),.int .i64 (((r:Nat):Int)),.int .i64 (0),.string (⟨#[]⟩),.int .i64 (0)]) um qj (by kernel_rfl)) rfl rfl rfl ?_
    refine uO (vs:=[.agg (Act.c (rf r)).toArray,.agg (Act.c (mY r)).toArray]) H rg qj rfl rfl rfl rfl rfl rfl ?_;intro w16 b60 H
    replace H:=H.freeze (vp [rf r,mY r] (by simp))
    refine cu gd (uY (l:=(([bT 0,dy (eH 0),dx (eH 2)]++dB (eH 0) dX k)++iG nr t++pI r)) (m:=[rf r,mY r]) _ (H.rd0 1 rfl) (H.rd0 0 rfl) (by have h440:t*(2*nr)<=18*10:=Nat.mul_le_mul (by omega) (by omega);simp only[ay,iF,kj,ju,js,bf,ei];omega) (by simp)) rfl rfl ?_
    rintro _ w17 ⟨Aw,cw,Lw,rfl,how,hjw⟩;replace H:=H.learnOwn hjw how
    rw[show(([bT 0,dy (eH 0),dx (eH 2)]++dB (eH 0) dX k)++iG nr t++pI r)++[rf r,mY r]=(([bT 0,dy (eH 0),dx (eH 2)]++dB (eH 0) dX k)++iG nr t++pI (r+1))from by rw[aB,<-wy]]at H⊢
    refine l1 (vV rfl) rfl rfl rfl ?_
    refine bP ?_
    refine bK ?_
    refine l1 (bp rfl rfl (by omega) (by omega)) rfl rfl rfl ?_
    refine l1 (gg rfl) rfl rfl rfl ?_
    refine bP ?_
    exact⟨(r+1,Aw,cw,w16.heap.size,w17.heap.size),⟨by omega,H.forget (by repeat (first|exact au _|refine .cons _ ?_)) (fun f hf=>by simp only[av,bd,or_false]at hf⊢;grind)⟩,mK rfl rfl,by repeat (first|exact yU.refl _ _|exact io|refine gZ rfl ?_|refine fJ _ rfl ?_|refine m8 rfl ?_),by show nr- (r+1)<nr-r;omega⟩
   ·
    refine bP ?_
    refine cE ?_
    refine gQ rfl ?_
    refine xC ?_
    refine bK ?_
    refine l1 (bp rfl rfl (by omega) (by omega)) rfl rfl rfl ?_
    refine l1 (gg rfl) rfl rfl rfl ?_
    refine bP ?_
    have hrn:nr=r:=by omega
    subst hrn
    rw[show([bT 0,dy (eH 0),dx (eH 2)]++dB (eH 0) dX k)++iG nr t++pI nr=([bT 0,dy (eH 0),dx (eH 2)]++dB (eH 0) dX k)++iG nr (t+1)from by rw[aB];rfl]at H⊢
    exact⟨(t+1,A2,c2,lo2,hi2),⟨by omega,H.forget (by repeat (first|exact au _|refine .cons _ ?_)) (fun f hf=>by simp only[av,bd,or_false]at hf⊢;grind)⟩,mK rfl rfl,by repeat (first|exact yU.refl _ _|exact io|refine gZ rfl ?_|refine fJ _ rfl ?_|refine m8 rfl ?_),by show 18- (t+1)<18-t;omega⟩
  ·
   refine bP ?_
   refine cE ?_
   refine gQ rfl ?_
   refine xC ?_
   refine cE ?_
   have ht2:t=18:=by omega
   subst ht2
   refine bK ?_
   refine l1 (vV rfl) rfl rfl rfl ?_
   refine bP ?_
   refine cE ?_
   refine cE ?_
   refine bK ?_
   refine l1 (gg rfl) rfl rfl rfl ?_
   refine bP ?_
   refine lB ?_
   rw[show([bT 0,dy (eH 0),dx (eH 2)]++dB (eH 0) dX k)++iG nr 18=(([bT 0,dy (eH 0),dx (eH 2)]++dB (eH 0) dX k)++iG nr 18++jt k m 0)from(aZ _).symm]at H⊢
   refine cf (τ:=Nat×Option Addr×Nat×Nat×Nat×Option Addr×Nat×List (Nat×Obj)) [8,12,15,16,17,18,19,64,65,66,67,68,69,70,71,72,73,74,75,76,77,78,79,80,81,82,83,84,85,86,87,88,89,90,91,92,93,94,95,96,97,98,99,100,101,102,103,104,105,106,107,108,109,110,111,112,113,114,115,116,117] (fun(i,A2,c2,lo2,hi2,gA,gC,_)=>[(12,.slice A2 (([bT 0,dy (eH 0),dx (eH 2)]++dB (eH 0) dX k)++iG nr 18++jt k m i).length c2),(15,.slice gA (pB k m i).length gC),(64,.int .i64 (i:Nat))]) (fun(i,A2,c2,lo2,hi2,gA,gC,gL) w'=>i<=18/\gG mq (.slice gA (pB k m i).length gC) pd (pB k m i) gL/\Hp w w' ((b9,.cells #[.int .i64 (1),.int .i64 (((nr:Nat):Int)),.int .i64 (1),.int .i64 (1000)] lL (0,0))::(gL++[])) (ey ra lo2 hi2 A2 (([bT 0,dy (eH 0),dx (eH 2)]++dB (eH 0) dX k)++iG nr 18++jt k m i)::[])) (fun(i,_)=>18-i) (0,A2,c2,lo2,hi2,none,0,[]) ⟨bN _,(by rw[show pB k m 0=[] by unfold pB;rw[Nat.mul_zero,Nat.min_zero];rfl];exact gG.nil),H⟩ (Ly rfl (by rw[show pB k m 0=[] by unfold pB;rw[Nat.mul_zero,Nat.min_zero];rfl];rfl) rfl) ?_
   rintro⟨i,A2,c2,lo2,hi2,gA,gC,gL⟩ ρ1 w18 ⟨hii,ho,H⟩
   show CW _ _ _ _ (dK (ia _ _ ρ1) [(12,.slice A2 (([bT 0,dy (eH 0),dx (eH 2)]++dB (eH 0) dX k)++iG nr 18++jt k m i).length c2),(15,.slice gA (pB k m i).length gC),(64,.int .i64 (i:Nat))]) w18
   refine cE ?_
   refine bK ?_
   refine du (cO rfl rfl) rfl rfl rfl (fun h65=> ?_) (fun h65=> ?_)
   ·
    refine bP ?_
    refine cE ?_
    refine jc rfl ?_
    refine og ?_
    refine cE ?_
    refine lB ?_
    refine cE ?_
    refine ft (τ:=Rn×Nat×Nat×Nat) [16,17,18,66,67,68,69,70,71,72,73,74,75,76] (fun(r,b17,_,_)=>[(16,.slice r.oA r.xs.length r.oC),(17,.pointer (some ⟨b17,0,none⟩)),(18,.bool true)]) (fun(r,b17,lo,hi) w'=>kN (mP 1 nr 1 1000) ((([bT 0,dy (eH 0),dx (eH 2)]++dB (eH 0) dX k)++iG nr 18++jt k m i)++[oy m]) (r.xs.map Aq.x) r.b.a/\Hp w w' ((b17,.cells r.b.c.toArray oo (0,0))::((b9,.cells #[.int .i64 (1),.int .i64 (((nr:Nat):Int)),.int .i64 (1),.int .i64 (1000)] lL (0,0))::(gL++[]))) (OP lo hi r::[ey ra lo2 hi2 A2 (([bT 0,dy (eH 0),dx (eH 2)]++dB (eH 0) dX k)++iG nr 18++jt k m i)])) ?_ ?_
    ·skip
     refine tC cD (fun w'=>w'.heap[b9]? =some (.cells #[.int .i64 (1),.int .i64 (((nr:Nat):Int)),.int .i64 (1),.int .i64 (1000)] lL (0,0))) ?_
     intro w19 hw';replace H:=H.later hw';clear hw'
     refine bn 0 (by kernel_rfl) (by kernel_rfl) (by kernel_rfl) rfl rfl rfl rfl (fun _ _ _ h=>h) (H.ent (i:=0) rfl) (fun _ hS=>jR vo rfl hS rfl) ?_
     refine bn 1 (by kernel_rfl) (by kernel_rfl) (by kernel_rfl) rfl rfl rfl rfl (fun _ _ _ h=>h) (H.ent (i:=0) rfl) (fun _ hS=>sE rfl) ?_
     refine bn 2 (by kernel_rfl) (by kernel_rfl) (by kernel_rfl) rfl rfl rfl rfl (fun _ _ _ h=>h) (H.ent (i:=0) rfl) (fun _ hS=>gg rfl) ?_
     refine bn 3 (by kernel_rfl) (by kernel_rfl) (by kernel_rfl) rfl rfl rfl rfl (fun _ _ _ h=>h) (H.ent (i:=0) rfl) (fun _ hS=>bC (cs:= #[.int .i64 (19),.string (⟨#[99,121]⟩),.int .i64 (0),.int .i64 (((m:Nat):Int)),.int .i64 (0),.string (⟨#[]⟩),.int .i64 (0)]) um qj (by kernel_rfl)) ?_
     refine QX 4 11 (by kernel_rfl) rfl rfl ?_ ?_
     ·
      refine uO (vs:=[.agg (Act.c (oy m)).toArray]) H rg qj rfl rfl rfl rfl rfl rfl ?_;intro w20 b71 H
      replace H:=H.freeze (vp [oy m] (by simp))
      refine bP ?_
      refine⟨(H.ent (i:=0) rfl),?_⟩
      refine QX 5 11 (by kernel_rfl) rfl rfl ?_ ?_
      ·
       refine cu gd (uY (l:=(([bT 0,dy (eH 0),dx (eH 2)]++dB (eH 0) dX k)++iG nr 18++jt k m i)) (m:=[oy m]) _ (H.rd0 1 rfl) (H.rd0 0 rfl) (by simp only[ay,iF,kj,ju,js,bf,ei];omega) (by simp)) rfl rfl ?_
       rintro _ w21 ⟨Aw,cw,Lw,rfl,how,hjw⟩;replace H:=H.learnOwn hjw how
       refine bP ?_
       refine⟨(H.ent (i:=0) rfl),?_⟩
       refine QX 6 11 (by kernel_rfl) rfl rfl ?_ ?_
       ·
        refine cu jO (zM (np:=1) (nr:=nr) (few:=1) (wt:=1000) (acts:=((([bT 0,dy (eH 0),dx (eH 2)]++dB (eH 0) dX k)++iG nr 18++jt k m i)++[oy m])) _ (ao 1) (by omega) n1 n5 (ao 1) n1 (by omega) (by omega) (H.rd0 0 rfl) (by simp only[ay,iF,kj,ju,js,bf,ei];omega) (D6 n1 n5 k14 m1 m4)) rfl rfl ?_
        rintro _ w22 ⟨xs,oA,oC,⟨ps,pA,pC,co,clo,chi,gr,glo,ghi,sns,snA,snC⟩,rfl,hrun,hrd,hrb⟩;replace H:=H.learn hrb (OP w21.heap.size w22.heap.size ⟨xs,oA,oC,⟨ps,pA,pC,co,clo,chi,gr,glo,ghi,sns,snA,snC⟩⟩) hrd (ao _) (ao _);clear hrd hrb
        refine bP ?_
        refine⟨(H.ent (i:=0) rfl),?_⟩
        refine bn 7 (by kernel_rfl) (by kernel_rfl) (by kernel_rfl) rfl rfl rfl rfl (fun _ _ _ h=>h) (H.ent (i:=0) rfl) (fun _ hS=>IG rfl) ?_
        refine bn 8 (by kernel_rfl) (by kernel_rfl) (by kernel_rfl) rfl rfl rfl rfl (fun _ _ _ h=>h) (H.ent (i:=0) rfl) (fun _ hS=>IY rfl rfl) ?_
        refine bn 9 (by kernel_rfl) (by kernel_rfl) (by kernel_rfl) rfl rfl rfl rfl (fun _ _ _ h=>h) (H.ent (i:=0) rfl) (fun _ hS=>I0 rfl rfl) ?_
        refine bn 10 (by kernel_rfl) (by kernel_rfl) (by kernel_rfl) rfl rfl rfl rfl (fun _ _ _ h=>h) (H.ent (i:=0) rfl) (fun _ hS=>IZ rfl rfl) ?_
        refine z6 11 (by kernel_rfl) rfl ?_
        refine fc H mG rfl ?_;intro w23 b17 H
        refine bP ?_
        refine⟨(H.ent (i:=1) rfl),?_⟩
        refine bn 12 (by kernel_rfl) (by kernel_rfl) (by kernel_rfl) rfl rfl rfl rfl (fun _ _ _ h=>h) (H.ent (i:=1) rfl) (fun _ hS=>vV rfl) ?_
        refine z6 13 (by kernel_rfl) rfl ?_
        refine bA H 0 (#[.slice pA ps.length pC,.int .i64 (co.clock),.int .i64 (co.next),.int .i64 (co.wait),.slice co.A co.txs.length co.cap,.int .i64 (gr.clock),.int .i64 (gr.wait),.int .i64 (gr.gen),.slice gr.mA gr.ms.length gr.mC,.slice gr.oA gr.os.length gr.oC,.slice snA sns.length snC]) jT rfl rfl rfl rfl rfl (by kernel_rfl) (by kernel_rfl) ?_;intro w24 H
        refine bP ?_
        refine⟨(H.ent (i:=1) rfl),?_⟩
        refine bn 14 (by kernel_rfl) (by kernel_rfl) (by kernel_rfl) rfl rfl rfl rfl (fun _ _ _ h=>h) (H.ent (i:=1) rfl) (fun _ hS=>DD rfl) ?_
        refine rI (by kernel_rfl) ?_
        exact⟨(⟨xs,oA,oC,⟨ps,pA,pC,co,clo,chi,gr,glo,ghi,sns,snA,snC⟩⟩,b17,w21.heap.size,w22.heap.size),⟨hrun,H.forget (by repeat (first|exact au _|refine .cons_cons _ ?_|refine .cons _ ?_)) (fun f hf=>by simp only[av,bd,or_false]at hf⊢;grind)⟩,Ly rfl rfl rfl,by repeat (first|exact yU.refl _ _|exact io|refine gZ rfl ?_|refine fJ _ rfl ?_|refine m8 rfl ?_)⟩
       ·
        refine fc H mG rfl ?_;intro w25 b17 H
        refine bP ?_
        refine⟨(H.ent (i:=1) rfl),?_⟩
        refine z6 6 (by kernel_rfl) rfl ?_
        refine cu jO (zM (np:=1) (nr:=nr) (few:=1) (wt:=1000) (acts:=((([bT 0,dy (eH 0),dx (eH 2)]++dB (eH 0) dX k)++iG nr 18++jt k m i)++[oy m])) _ (ao 1) (by omega) n1 n5 (ao 1) n1 (by omega) (by omega) (H.rd0 0 rfl) (by simp only[ay,iF,kj,ju,js,bf,ei];omega) (D6 n1 n5 k14 m1 m4)) rfl rfl ?_
        rintro _ w26 ⟨xs,oA,oC,⟨ps,pA,pC,co,clo,chi,gr,glo,ghi,sns,snA,snC⟩,rfl,hrun,hrd,hrb⟩;replace H:=H.learn hrb (OP w25.heap.size w26.heap.size ⟨xs,oA,oC,⟨ps,pA,pC,co,clo,chi,gr,glo,ghi,sns,snA,snC⟩⟩) hrd (ao _) (ao _);clear hrd hrb
        refine bP ?_
        refine⟨(H.ent (i:=1) rfl),?_⟩
        refine bn 7 (by kernel_rfl) (by kernel_rfl) (by kernel_rfl) rfl rfl rfl rfl (fun _ _ _ h=>h) (H.ent (i:=1) rfl) (fun _ hS=>IG rfl) ?_
        refine bn 8 (by kernel_rfl) (by kernel_rfl) (by kernel_rfl) rfl rfl rfl rfl (fun _ _ _ h=>h) (H.ent (i:=1) rfl) (fun _ hS=>IY rfl rfl) ?_
        refine bn 9 (by kernel_rfl) (by kernel_rfl) (by kernel_rfl) rfl rfl rfl rfl (fun _ _ _ h=>h) (H.ent (i:=1) rfl) (fun _ hS=>I0 rfl rfl) ?_
        refine bn 10 (by kernel_rfl) (by kernel_rfl) (by kernel_rfl) rfl rfl rfl rfl (fun _ _ _ h=>h) (H.ent (i:=1) rfl) (fun _ hS=>IZ rfl rfl) ?_
        refine bn 12 (by kernel_rfl) (by kernel_rfl) (by kernel_rfl) rfl rfl rfl rfl (fun _ _ _ h=>h) (H.ent (i:=1) rfl) (fun _ hS=>vV rfl) ?_
        refine z6 13 (by kernel_rfl) rfl ?_
        refine bA H 0 (#[.slice pA ps.length pC,.int .i64 (co.clock),.int .i64 (co.next),.int .i64 (co.wait),.slice co.A co.txs.length co.cap,.int .i64 (gr.clock),.int .i64 (gr.wait),.int .i64 (gr.gen),.slice gr.mA gr.ms.length gr.mC,.slice gr.oA gr.os.length gr.oC,.slice snA sns.length snC]) jT rfl rfl rfl rfl rfl (by kernel_rfl) (by kernel_rfl) ?_;intro w27 H
        refine bP ?_
        refine⟨(H.ent (i:=1) rfl),?_⟩
        refine bn 14 (by kernel_rfl) (by kernel_rfl) (by kernel_rfl) rfl rfl rfl rfl (fun _ _ _ h=>h) (H.ent (i:=1) rfl) (fun _ hS=>DD rfl) ?_
        refine rI (by kernel_rfl) ?_
        exact⟨(⟨xs,oA,oC,⟨ps,pA,pC,co,clo,chi,gr,glo,ghi,sns,snA,snC⟩⟩,b17,w25.heap.size,w26.heap.size),⟨hrun,H.forget (by repeat (first|exact au _|refine .cons_cons _ ?_|refine .cons _ ?_)) (fun f hf=>by simp only[av,bd,or_false]at hf⊢;grind)⟩,Ly rfl rfl rfl,by repeat (first|exact yU.refl _ _|exact io|refine gZ rfl ?_|refine fJ _ rfl ?_|refine m8 rfl ?_)⟩
      ·
       refine fc H mG rfl ?_;intro w28 b17 H
       refine bP ?_
       refine⟨(H.ent (i:=1) rfl),?_⟩
       refine z6 5 (by kernel_rfl) rfl ?_
       refine cu gd (uY (l:=(([bT 0,dy (eH 0),dx (eH 2)]++dB (eH 0) dX k)++iG nr 18++jt k m i)) (m:=[oy m]) _ (H.rd0 1 rfl) (H.rd0 0 rfl) (by simp only[ay,iF,kj,ju,js,bf,ei];omega) (by simp)) rfl rfl ?_
       rintro _ w29 ⟨Aw,cw,Lw,rfl,how,hjw⟩;replace H:=H.learnOwn hjw how
       refine bP ?_
       refine⟨(H.ent (i:=1) rfl),?_⟩
       refine z6 6 (by kernel_rfl) rfl ?_
       refine cu jO (zM (np:=1) (nr:=nr) (few:=1) (wt:=1000) (acts:=((([bT 0,dy (eH 0),dx (eH 2)]++dB (eH 0) dX k)++iG nr 18++jt k m i)++[oy m])) _ (ao 1) (by omega) n1 n5 (ao 1) n1 (by omega) (by omega) (H.rd0 0 rfl) (by simp only[ay,iF,kj,ju,js,bf,ei];omega) (D6 n1 n5 k14 m1 m4)) rfl rfl ?_
       rintro _ w30 ⟨xs,oA,oC,⟨ps,pA,pC,co,clo,chi,gr,glo,ghi,sns,snA,snC⟩,rfl,hrun,hrd,hrb⟩;replace H:=H.learn hrb (OP w29.heap.size w30.heap.size ⟨xs,oA,oC,⟨ps,pA,pC,co,clo,chi,gr,glo,ghi,sns,snA,snC⟩⟩) hrd (ao _) (ao _);clear hrd hrb
       refine bP ?_
       refine⟨(H.ent (i:=1) rfl),?_⟩
       refine bn 7 (by kernel_rfl) (by kernel_rfl) (by kernel_rfl) rfl rfl rfl rfl (fun _ _ _ h=>h) (H.ent (i:=1) rfl) (fun _ hS=>IG rfl) ?_
       refine bn 8 (by kernel_rfl) (by kernel_rfl) (by kernel_rfl) rfl rfl rfl rfl (fun _ _ _ h=>h) (H.ent (i:=1) rfl) (fun _ hS=>IY rfl rfl) ?_
       refine bn 9 (by kernel_rfl) (by kernel_rfl) (by kernel_rfl) rfl rfl rfl rfl (fun _ _ _ h=>h) (H.ent (i:=1) rfl) (fun _ hS=>I0 rfl rfl) ?_
       refine bn 10 (by kernel_rfl) (by kernel_rfl) (by kernel_rfl) rfl rfl rfl rfl (fun _ _ _ h=>h) (H.ent (i:=1) rfl) (fun _ hS=>IZ rfl rfl) ?_
       refine bn 12 (by kernel_rfl) (by kernel_rfl) (by kernel_rfl) rfl rfl rfl rfl (fun _ _ _ h=>h) (H.ent (i:=1) rfl) (fun _ hS=>vV rfl) ?_
       refine z6 13 (by kernel_rfl) rfl ?_
       refine bA H 0 (#[.slice pA ps.length pC,.int .i64 (co.clock),.int .i64 (co.next),.int .i64 (co.wait),.slice co.A co.txs.length co.cap,.int .i64 (gr.clock),.int .i64 (gr.wait),.int .i64 (gr.gen),.slice gr.mA gr.ms.length gr.mC,.slice gr.oA gr.os.length gr.oC,.slice snA sns.length snC]) jT rfl rfl rfl rfl rfl (by kernel_rfl) (by kernel_rfl) ?_;intro w31 H
       refine bP ?_
       refine⟨(H.ent (i:=1) rfl),?_⟩
       refine bn 14 (by kernel_rfl) (by kernel_rfl) (by kernel_rfl) rfl rfl rfl rfl (fun _ _ _ h=>h) (H.ent (i:=1) rfl) (fun _ hS=>DD rfl) ?_
       refine rI (by kernel_rfl) ?_
       exact⟨(⟨xs,oA,oC,⟨ps,pA,pC,co,clo,chi,gr,glo,ghi,sns,snA,snC⟩⟩,b17,w29.heap.size,w30.heap.size),⟨hrun,H.forget (by repeat (first|exact au _|refine .cons_cons _ ?_|refine .cons _ ?_)) (fun f hf=>by simp only[av,bd,or_false]at hf⊢;grind)⟩,Ly rfl rfl rfl,by repeat (first|exact yU.refl _ _|exact io|refine gZ rfl ?_|refine fJ _ rfl ?_|refine m8 rfl ?_)⟩
     ·
      refine fc H mG rfl ?_;intro w32 b17 H
      refine bP ?_
      refine⟨(H.ent (i:=1) rfl),?_⟩
      refine z6 4 (by kernel_rfl) rfl ?_
      refine uO (vs:=[.agg (Act.c (oy m)).toArray]) H rg qj rfl rfl rfl rfl rfl rfl ?_;intro w33 b71 H
      replace H:=H.freeze (vp [oy m] (by simp))
      refine bP ?_
      refine⟨(H.ent (i:=1) rfl),?_⟩
      refine z6 5 (by kernel_rfl) rfl ?_
      refine cu gd (uY (l:=(([bT 0,dy (eH 0),dx (eH 2)]++dB (eH 0) dX k)++iG nr 18++jt k m i)) (m:=[oy m]) _ (H.rd0 1 rfl) (H.rd0 0 rfl) (by simp only[ay,iF,kj,ju,js,bf,ei];omega) (by simp)) rfl rfl ?_
      rintro _ w34 ⟨Aw,cw,Lw,rfl,how,hjw⟩;replace H:=H.learnOwn hjw how
      refine bP ?_
      refine⟨(H.ent (i:=1) rfl),?_⟩
      refine z6 6 (by kernel_rfl) rfl ?_
      refine cu jO (zM (np:=1) (nr:=nr) (few:=1) (wt:=1000) (acts:=((([bT 0,dy (eH 0),dx (eH 2)]++dB (eH 0) dX k)++iG nr 18++jt k m i)++[oy m])) _ (ao 1) (by omega) n1 n5 (ao 1) n1 (by omega) (by omega) (H.rd0 0 rfl) (by simp only[ay,iF,kj,ju,js,bf,ei];omega) (D6 n1 n5 k14 m1 m4)) rfl rfl ?_
      rintro _ w35 ⟨xs,oA,oC,⟨ps,pA,pC,co,clo,chi,gr,glo,ghi,sns,snA,snC⟩,rfl,hrun,hrd,hrb⟩;replace H:=H.learn hrb (OP w34.heap.size w35.heap.size ⟨xs,oA,oC,⟨ps,pA,pC,co,clo,chi,gr,glo,ghi,sns,snA,snC⟩⟩) hrd (ao _) (ao _);clear hrd hrb
      refine bP ?_
      refine⟨(H.ent (i:=1) rfl),?_⟩
      refine bn 7 (by kernel_rfl) (by kernel_rfl) (by kernel_rfl) rfl rfl rfl rfl (fun _ _ _ h=>h) (H.ent (i:=1) rfl) (fun _ hS=>IG rfl) ?_
      refine bn 8 (by kernel_rfl) (by kernel_rfl) (by kernel_rfl) rfl rfl rfl rfl (fun _ _ _ h=>h) (H.ent (i:=1) rfl) (fun _ hS=>IY rfl rfl) ?_
      refine bn 9 (by kernel_rfl) (by kernel_rfl) (by kernel_rfl) rfl rfl rfl rfl (fun _ _ _ h=>h) (H.ent (i:=1) rfl) (fun _ hS=>I0 rfl rfl) ?_
      refine bn 10 (by kernel_rfl) (by kernel_rfl) (by kernel_rfl) rfl rfl rfl rfl (fun _ _ _ h=>h) (H.ent (i:=1) rfl) (fun _ hS=>IZ rfl rfl) ?_
      refine bn 12 (by kernel_rfl) (by kernel_rfl) (by kernel_rfl) rfl rfl rfl rfl (fun _ _ _ h=>h) (H.ent (i:=1) rfl) (fun _ hS=>vV rfl) ?_
      refine z6 13 (by kernel_rfl) rfl ?_
      refine bA H 0 (#[.slice pA ps.length pC,.int .i64 (co.clock),.int .i64 (co.next),.int .i64 (co.wait),.slice co.A co.txs.length co.cap,.int .i64 (gr.clock),.int .i64 (gr.wait),.int .i64 (gr.gen),.slice gr.mA gr.ms.length gr.mC,.slice gr.oA gr.os.length gr.oC,.slice snA sns.length snC]) jT rfl rfl rfl rfl rfl (by kernel_rfl) (by kernel_rfl) ?_;intro w36 H
      refine bP ?_
      refine⟨(H.ent (i:=1) rfl),?_⟩
      refine bn 14 (by kernel_rfl) (by kernel_rfl) (by kernel_rfl) rfl rfl rfl rfl (fun _ _ _ h=>h) (H.ent (i:=1) rfl) (fun _ hS=>DD rfl) ?_
      refine rI (by kernel_rfl) ?_
      exact⟨(⟨xs,oA,oC,⟨ps,pA,pC,co,clo,chi,gr,glo,ghi,sns,snA,snC⟩⟩,b17,w34.heap.size,w35.heap.size),⟨hrun,H.forget (by repeat (first|exact au _|refine .cons_cons _ ?_|refine .cons _ ?_)) (fun f hf=>by simp only[av,bd,or_false]at hf⊢;grind)⟩,Ly rfl rfl rfl,by repeat (first|exact yU.refl _ _|exact io|refine gZ rfl ?_|refine fJ _ rfl ?_|refine m8 rfl ?_)⟩
    rintro⟨⟨xs,oA,oC,⟨ps,pA,pC,co,clo,chi,gr,glo,ghi,sns,snA,snC⟩⟩,b17,lo,hi⟩ ρ1 w37 ⟨hrun,H⟩
    show CW _ _ _ _ (dK (ia _ _ ρ1) [(16,.slice oA xs.length oC),(17,.pointer (some ⟨b17,0,none⟩)),(18,.bool true)]) w37
    replace H:Hp w w37 ((b17,.cells #[.slice pA ps.length pC,.int .i64 (co.clock),.int .i64 (co.next),.int .i64 (co.wait),.slice co.A co.txs.length co.cap,.int .i64 (gr.clock),.int .i64 (gr.wait),.int .i64 (gr.gen),.slice gr.mA gr.ms.length gr.mC,.slice gr.oA gr.os.length gr.oC,.slice snA sns.length snC] oo (0,0))::((b9,.cells #[.int .i64 (1),.int .i64 (((nr:Nat):Int)),.int .i64 (1),.int .i64 (1000)] lL (0,0))::(gL++[]))) (OP lo hi ⟨xs,oA,oC,⟨ps,pA,pC,co,clo,chi,gr,glo,ghi,sns,snA,snC⟩⟩::[ey ra lo2 hi2 A2 (([bT 0,dy (eH 0),dx (eH 2)]++dB (eH 0) dX k)++iG nr 18++jt k m i)]):=H
    obtain⟨ys,hlast⟩:=LN n1 n5 (by omega) (by omega) (AC 0) (by omega) (fun j _=>Dl j) hrun
    obtain⟨x,xl,hx,hxe,hxl⟩:=Mr hlast
    have hxm:=ab hx
    have hxc:x.x.code=0:=by rw[hxe]
    have hxn:x.x.n=((min k (m*(i+1)):Nat):Int):=by rw[hxe]
    have hxt:x.x.texts.length<=m:=by rw[hxe,aD];omega
    have hgs:pB k m i++x.x.texts=pB k m (i+1):=by rw[hxe];exact MC k m i
    have hgl:=MD k m i
    have hxll:=(cy hx).1
    have hxs:=hrun.len
    simp only[bc,ay,iF,kj,js,bf,ei]at hxs
    replace H:=Hp.rnXs H 0 rfl
    refine cE ?_
    refine cE ?_
    refine bK ?_
    refine l1 (IH rfl) rfl rfl rfl ?_
    refine l1 (ee rfl) rfl rfl rfl ?_
    refine l1 (IH rfl) rfl rfl rfl ?_
    refine nJ rfl ?_
    refine l1 (sE rfl) rfl rfl rfl ?_
    refine nJ rfl ?_
    refine l1 (sE rfl) rfl rfl rfl ?_
    refine nJ rfl ?_
    refine l1 (bh rm rfl) rfl rfl rfl ?_
    refine nJ rfl ?_
    refine l1 (lX rfl rfl (by omega) (by omega)) rfl rfl rfl ?_
    refine nJ rfl ?_
    refine qg (k:=xl) H 0 rfl s9 rfl (congrArg (Value.int .i64) hxl) (by omega) (by omega) rfl ?_;intro bq38 o38 x38 e38
    obtain rfl:x=x38:=by have:=e38.at_;rw[hx]at this;exact aY this
    refine nJ rfl ?_
    refine l1 (zf Gg rfl) rfl rfl rfl ?_
    refine nJ rfl ?_
    refine l1 (bi JQ rfl (e38.cl 0 _ rfl)) rfl rfl rfl ?_
    refine nJ rfl ?_
    refine l1 (cv rfl rfl hxc) rfl rfl rfl ?_
    refine l1 (LQ rfl rfl) rfl rfl rfl ?_
    refine l1 (IH rfl) rfl rfl rfl ?_
    refine nJ rfl ?_
    refine l1 (sE rfl) rfl rfl rfl ?_
    refine nJ rfl ?_
    refine l1 (sE rfl) rfl rfl rfl ?_
    refine nJ rfl ?_
    refine l1 (bh rm rfl) rfl rfl rfl ?_
    refine nJ rfl ?_
    refine l1 (lX rfl rfl (by omega) (by omega)) rfl rfl rfl ?_
    refine nJ rfl ?_
    refine qg (k:=xl) H 0 rfl s9 rfl (congrArg (Value.int .i64) hxl) (by omega) (by omega) rfl ?_;intro bq39 o39 x39 e39
    obtain rfl:x=x39:=by have:=e39.at_;rw[hx]at this;exact aY this
    refine nJ rfl ?_
    refine l1 (zf rv rfl) rfl rfl rfl ?_
    refine nJ rfl ?_
    refine l1 (bi ir rfl (e39.cl 2 _ rfl)) rfl rfl rfl ?_
    refine nJ rfl ?_
    refine l1 (bh jA rfl) rfl rfl rfl ?_
    refine nJ rfl ?_
    refine l1 (gg rfl) rfl rfl rfl ?_
    refine nJ rfl ?_
    refine l1 (eB rfl rfl (by omega)) rfl rfl rfl ?_
    refine l1 (LQ rfl rfl) rfl rfl rfl ?_
    refine bP ?_
    refine gQ rfl ?_
    refine og ?_
    refine cE ?_
    refine bK ?_
    refine l1 (sE rfl) rfl rfl rfl ?_
    refine l1 (sE rfl) rfl rfl rfl ?_
    refine l1 (bh rm rfl) rfl rfl rfl ?_
    refine l1 (lX rfl rfl (by omega) (by omega)) rfl rfl rfl ?_
    refine qg (k:=xl) H 0 rfl s9 rfl (congrArg (Value.int .i64) hxl) (by omega) (by omega) rfl ?_;intro bq40 o40 x40 e40
    obtain rfl:x=x40:=by have:=e40.at_;rw[hx]at this;exact aY this
    refine l1 (ka (xs:=Qj.f x) aK rfl rfl e40.cl) rfl rfl rfl ?_
    refine fc H dn rfl ?_;intro w41 b19 H
    refine bA H 0 (#[.int .i64 (x.x.code),.int .i64 (x.x.n),.slice x.A x.x.texts.length x.c]) aL rfl rfl rfl rfl rfl (by kernel_rfl) (by kernel_rfl) ?_;intro w42 H
    refine bP ?_
    refine cE ?_
    refine bK ?_
    refine l1 (sE rfl) rfl rfl rfl ?_
    refine l1 (zf rv rfl) rfl rfl rfl ?_
    refine l1 (bi ir rfl (aJ (H.ent (i:=0) rfl) rfl)) rfl rfl rfl ?_
    refine wN (Y:=mq) tL (K:=[(b19,_),(b17,_),(b9,_)]) (L:=gL) (M:=[]) H ho (es:=pB k m i) (news:=x.x.texts) rfl rfl rfl (Rd.src ((Hp.rn0 H 1 rfl).tx x hxm).1) (by rw[hgl];omega) rfl ?_
    intro A5 c5 w43 L5 h5 h5m ho5 H
    rw[hgs]at ho5 h5⊢
    refine l1 (vV rfl) rfl rfl rfl ?_
    refine bP ?_
    refine bK ?_
    refine l1 (sE rfl) rfl rfl rfl ?_
    refine l1 (zf Gf rfl) rfl rfl rfl ?_
    refine l1 (bi am rfl (aJ (H.ent (i:=0) rfl) rfl)) rfl rfl rfl ?_
    rw[hxn]
    refine l1 (bC (cs:= #[.int .i64 (20),.string (⟨#[99,121]⟩),.int .i64 (0),.int .i64 (1),.int .i64 (((min k (m*(i+1)):Nat):Int)),.string (⟨#[]⟩),.int .i64 (0)]) um qj (by kernel_rfl)) rfl rfl rfl ?_
    refine uO (vs:=[.agg (Act.c (ym (min k (m*(i+1))))).toArray]) H rg qj rfl rfl rfl rfl rfl rfl ?_;intro w44 b115 H
    replace H:=H.freeze (vp [ym (min k (m*(i+1)))] (by simp))
    refine cu gd (uY (l:=(([bT 0,dy (eH 0),dx (eH 2)]++dB (eH 0) dX k)++iG nr 18++jt k m i)) (m:=[ym (min k (m*(i+1)))]) _ (H.rd0 3 rfl) (H.rd0 0 rfl) (by simp only[ay,iF,kj,ju,js,bf,ei];omega) (by simp)) rfl rfl ?_
    rintro _ w45 ⟨Aw,cw,Lw,rfl,how,hjw⟩;replace H:=H.learnOwn hjw how
    rw[show(([bT 0,dy (eH 0),dx (eH 2)]++dB (eH 0) dX k)++iG nr 18++jt k m i)++[ym (min k (m*(i+1)))]=(([bT 0,dy (eH 0),dx (eH 2)]++dB (eH 0) dX k)++iG nr 18++jt k m (i+1))from by rw[aB,<-AA]]at H⊢
    refine l1 (vV rfl) rfl rfl rfl ?_
    refine bP ?_
    refine bK ?_
    refine l1 (bp rfl rfl (by omega) (by omega)) rfl rfl rfl ?_
    refine l1 (gg rfl) rfl rfl rfl ?_
    refine bP ?_
    exact⟨(i+1,Aw,cw,w44.heap.size,w45.heap.size,A5,c5,L5),⟨by omega,ho5,H.forget (by repeat (first|exact au _|refine .cons _ ?_)) (fun f hf=>by simp only[av,bd,or_false]at hf⊢;grind)⟩,Ly rfl rfl rfl,by repeat (first|exact yU.refl _ _|exact io|refine gZ rfl ?_|refine fJ _ rfl ?_|refine m8 rfl ?_),by show 18- (i+1)<18-i;omega⟩
   ·
    refine bP ?_
    refine cE ?_
    refine gQ rfl ?_
    refine xC ?_
    refine cE ?_
    refine cE ?_
    have hi18:i=18:=by omega
    have hga:pB k m i=(gy k).map dX:=by rw[hi18];exact OA k14 m1
    have hgl:(pB k m i).length=k:=by rw[hga];simp
    obtain⟨loG,hiG,H⟩:=Hp.sealO (K:=[(b9,_)]) (M:=[]) H ho
    rw[aZ]at H
    refine bK ?_
    refine l1 (sE rfl) rfl rfl rfl ?_
    refine l1 (bh jA rfl) rfl rfl rfl ?_
    refine l1 (gg rfl) rfl rfl rfl ?_
    refine l1 (cv rfl rfl (by omega)) rfl rfl rfl ?_
    refine bP ?_
    refine gQ rfl ?_
    refine og ?_
    refine cE ?_
    refine cE ?_
    refine bK ?_
    refine l1 (sE rfl) rfl rfl rfl ?_
    refine l1 (bh jA rfl) rfl rfl rfl ?_
    refine l1 (gg rfl) rfl rfl rfl ?_
    refine bP ?_
    refine lB ?_
    refine cf (τ:=Nat) [8,20,21,124,125,126,127,128,129,130,131,132,133] (fun u=>[(124,.int .i64 (u:Nat))]) (fun u w'=>u<=(pB k m i).length/\Hp w w' [(b9,.cells #[.int .i64 (1),.int .i64 (((nr:Nat):Int)),.int .i64 (1),.int .i64 (1000)] lL (0,0))] ([ey mq loG hiG gA (pB k m i),ey ra lo2 hi2 A2 (([bT 0,dy (eH 0),dx (eH 2)]++dB (eH 0) dX k)++iG nr 18++jt k m i)])) (fun u=>(pB k m i).length-u) 0 ⟨bN _,H⟩ (dR rfl) ?_
    rintro u ρ1 w46 ⟨hii,H⟩
    show CW _ _ _ _ (dK (ia _ _ ρ1) [(124,.int .i64 (u:Nat))]) w46
    refine cE ?_
    refine bK ?_
    refine du (cO rfl rfl) rfl rfl rfl (fun h125=> ?_) (fun h125=> ?_)
    ·
     refine bP ?_
     refine cE ?_
     refine jc rfl ?_
     refine og ?_
     refine cE ?_
     refine lB ?_
     refine cE ?_
     obtain⟨tx,htx⟩: ∃ tx,(pB k m i)[u]? =some tx:=⟨_,aj (by omega)⟩
     have htx2:tx=dX u:=by rw[hga,aI,sU (by omega)]at htx;exact(aY htx).symm
     refine bK ?_
     refine l1 (gg rfl) rfl rfl rfl ?_
     refine qg H 0 rfl ki rfl rfl (by omega) (by omega) rfl ?_;intro bq47 o47 x47 e47
     obtain rfl:tx=x47:=by have:=e47.at_;rw[htx]at this;exact aY this
     refine l1 (bi ba rfl (e47.cl 0 _ rfl)) rfl rfl rfl ?_
     refine l1 (BN rfl) rfl rfl rfl ?_
     refine l1 (vU rfl) rfl rfl rfl ?_
     refine bP ?_
     refine cE ?_
     refine bK ?_
     refine l1 (Qt rfl) rfl rfl rfl ?_
     refine l1 (gg rfl) rfl rfl rfl ?_
     refine cu tU (IN u _ (by omega)) rfl rfl ?_
     rintro _ w48 ⟨rfl,hb⟩;replace H:=H.later hb;clear hb
     refine l1 (Iq rfl rfl (by rw[htx2])) rfl rfl rfl ?_
     refine bP ?_
     refine gQ rfl ?_
     refine og ?_
     refine bK ?_
     refine l1 (bp rfl rfl (by omega) (by omega)) rfl rfl rfl ?_
     refine l1 (gg rfl) rfl rfl rfl ?_
     refine bP ?_
     exact⟨u+1,⟨by omega,H⟩,dR rfl,by repeat (first|exact yU.refl _ _|exact io|refine gZ rfl ?_|refine fJ _ rfl ?_|refine m8 rfl ?_),by show(pB k m i).length- (u+1)<(pB k m i).length-u;omega⟩
    ·
     refine bP ?_
     refine cE ?_
     refine gQ rfl ?_
     refine xC ?_
     refine cE ?_
     refine bK ?_
     refine l1 (DD rfl) rfl rfl rfl ?_
     refine bP ?_
     refine wG ?_
     exact cn rfl rfl ⟨rfl,H.below⟩
end Go.Proofs.YtclibalpdhhhfaaGreatDoor
