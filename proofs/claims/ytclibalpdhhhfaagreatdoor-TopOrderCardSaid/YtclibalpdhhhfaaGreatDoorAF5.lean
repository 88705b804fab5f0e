/- Part 5 of the proofs over this seat: what its theorems say holds for every input that they name. -/
import Derived.Test.YtclibalpdhhhfaaGreatDoorAF4
namespace Go.Proofs.YtclibalpdhhhfaaGreatDoor
open Go Go.Eng Go.RowKit
open Go.Proofs.Tryz renaming prog→aa
open _root_.List renaming mem_of_getElem?→ab,length_set→ae,getElem?_eq_getElem→ai,getElem?_set_self→am,replicate→ap,mem_append→aq,mem_cons→av,length_append→ax,mem_cons_self→az,append_assoc→aB,length_take→aF,getElem?_map→aH,getElem?_set_ne→aV,append_nil→aW,map_append→bh,length_map→bl,mem_nil_iff→bu,length_cons→bv,length_replicate→bO,mem_map→bS,eq_of_mem_replicate→cS,length_drop→db,getElem?_drop→dk,take_of_length_le→dS,size_toArray→dW,getElem?_replicate→fm,length_nil→ft,drop_zero→ji,replicate_succ→jY,length_range→lw,cons_append→mr,getElem?_range→m3,map_map→pF,replicate_succ'→rg,range→tI
open _root_.Nat renaming le_refl→ao,zero_le→bx,add_assoc→jI,add_zero→pB,mul_le_mul→tG
open _root_.List.Sublist renaming refl→au
open _root_.Option.some renaming inj→aT
set_option maxHeartbeats 4000000
set_option maxRecDepth 20000
set_option linter.unusedSimpArgs false
set_option linter.unusedVariables false
set_option linter.unusedSectionVars false
section
/-! one sender, one part: what is sent stands in order -/
def kU (nm t:ByteArray) (d:Int):Act:=⟨3,nm,0,0,0,t,d⟩
def fW (nm:ByteArray) (d:Int):Act:=⟨4,nm,0,0,0,⟨#[]⟩,d⟩
def Fj (Nn:Int) (τ:Nat->ByteArray) (j:Nat):cv:=⟨0,Nn,0,j,1,false,τ j⟩
def se (ep Nn:Int) (τ:Nat->ByteArray) (k:Nat):List cv:=(tI k).map fun j=>{Fj Nn τ j with epoch:=ep}
theorem xV (ep Nn:Int) (τ:Nat->ByteArray) (k:Nat):se ep Nn τ (k+1)=se ep Nn τ k++[{Fj Nn τ k with epoch:=ep}]:=by simp[se,List.range_succ]
theorem sd (ep Nn:Int) (τ:Nat->ByteArray) (k:Nat):(se ep Nn τ k).length=k:=by simp[se]
theorem Nw {ep Nn:Int} {τ:Nat->ByteArray} (hN:Nn≠0) (k:Nat):fi (se ep Nn τ k) {Fj Nn τ k with epoch:=ep}=(-1,0):=by
 cases k with
 |zero=>exact Hu hN Z Z Z
 |succ k=>
  rw[xV]
  obtain⟨pr,b1,b2,b3⟩:=Lu (es:=se ep Nn τ k) (e:={Fj Nn τ k with epoch:=ep}) hN Z
  exact JA (p:=pr) hN b1 Z b2 (by rw[b3];show((k+1:Nat):Int)=(k:Nat)+1;omega)
theorem Nx {ep Nn:Int} {τ:Nat->ByteArray} (hN:Nn≠0) {k:Nat} (h:tW (se ep Nn τ (k+1))):fi (se ep Nn τ (k+1)) {Fj Nn τ k with epoch:=ep}=(((k:Nat):Int),0):=by
 rw[xV]at h⊢
 have:=JG h (by show Nn≠0;exact hN) Z
 rwa[sd]at this
variable {np nr k m i:Nat} {wt ep Nn:Int} {w w':Wa} {p:fX} {x:RA} {s:Sn} {nm:ByteArray} {τ:Nat->ByteArray}
theorem Cw.next (h:Cw np nr k wt w) (hk:k<400) (h4:np<=4) {a:Act} (g:nc np nr a) (hc:a.kind<=9∨16<=a.kind) {y:An} (hA:rW w a w' y):Cw np nr (k+1) wt w':=by
 obtain⟨K,hw⟩:=h.wi
 obtain⟨K1,-,i1⟩:=EL hw hk h4 g hA
 exact⟨⟨K1,i1⟩,(MW hw h.cm g hc (fun _=>trivial) hA).1⟩
structure Sp (Nn:Int) (k:Nat) (s:Sn):Prop where
 pid:s.pid=Nn
 ver:s.ver=0
 inn:s.inn=false
 seq:s.seqs.getD 0 0=(k:Nat)
 l1:1<=s.seqs.length
 l2:1<=s.last.length
theorem Sp.next (h:Sp Nn k s) (t:ByteArray):Sp Nn (k+1) (eF s 0 t)/\(eF s 0 t).last[0]? =some ⟨0,Nn,0,(k:Nat),1,false,t⟩:=by
 refine⟨⟨h.pid,h.ver,h.inn,?_,?_,?_⟩,?_⟩
 show(s.seqs.set 0 (s.seqs.getD 0 0+1)).getD 0 0=_
 rw[IC (am h.l1),h.seq];omega
 show 1<=(s.seqs.set 0 _).length
 rw[ae];exact h.l1
 show 1<=(s.last.set 0 _).length
 rw[ae];exact h.l2
 show(s.last.set 0 _)[0]? =_
 rw[am h.l2,h.pid,h.ver,h.inn,h.seq]
def PL (p:fX):Prop:= ∀ (r:Nat) (z:RA),1<=r->p.reps[r]? =some z->z.es=[]
theorem PL.set {p:fX} (h:PL p) (y:RA):PL {p with reps:=p.reps.set 0 y}:=fun r z hr hz=>h r z hr (by change (p.reps.set 0 y)[r]? =some z at hz;rwa[aV I]at hz)
structure Ow (np nr m:Nat) (wt ep Nn:Int) (nm:ByteArray) (τ:Nat->ByteArray) (w:Wa) (c:Nat):Prop where
 cw:Cw np nr m wt w
 ex: ∃ (p:fX) (x:RA) (i:Nat) (s:Sn),P0 w p x/\At nm w i s/\p.epoch=ep/\x.es=se ep Nn τ c/\Sp Nn c s/\PL p
structure Mw (np nr m:Nat) (wt ep Nn:Int) (nm:ByteArray) (τ:Nat->ByteArray) (w:Wa) (k:Nat) (b:Bool):Prop where
 cw:Cw np nr m wt w
 ex: ∃ (p:fX) (x:RA) (i:Nat) (s:Sn),P0 w p x/\At nm w i s/\p.epoch=ep/\x.es=se ep Nn τ (if b then k+1 else k)/\Sp Nn (k+1) s/\s.last[0]? =some (Fj Nn τ k)/\PL p
theorem Cw.epo (h:Cw np nr k wt w) (h0:P0 w p x):0<=p.epoch/\p.epoch<=1073741824:=by
 obtain⟨K,hw⟩:=h.wi
 exact⟨(hw.ps.gt 0 p h0.pt).1.ok.ep0,(hw.ps.gt 0 p h0.pt).1.ok.ep1⟩
theorem Cw.sent (h:Cw np nr k wt w) (h0:P0 w p x):tW x.es:=by
 obtain⟨K,hw⟩:=h.wi
 exact(hw.ps.gt 0 p h0.pt).2 0 x h0.rp
theorem Ig (hp:1<=np) {t:ByteArray} {d:Int} (hd:0<=d/\d<=2) (ht:t.size<=40) (hn:bo nm=true):nc np nr (kU nm t d):=by
 refine⟨by show(1:Int)<=3/\(3:Int)<=20/\(3:Int)≠17/\((3:Int)<=9∨(3:Int)=13∨(16:Int)<=3);decide,fun _=>hn,by show(0:Int)<=0/\(0:Int)<np;omega,by show(0:Int)<=0/\(0:Int)<=1000;decide,?_,?_,?_,by show(0:Int)<=0/\(0:Int)<=1000;decide,ht,hd⟩
 show(8:Int)<=3->_;omega
 show(3:Int)=5->_;omega
 show(3:Int)=19->_;omega
theorem BC (hp:1<=np) {d:Int} (hd:0<=d/\d<=2) (hn:bo nm=true):nc np nr (fW nm d):=by
 refine⟨by show(1:Int)<=4/\(4:Int)<=20/\(4:Int)≠17/\((4:Int)<=9∨(4:Int)=13∨(16:Int)<=4);decide,fun _=>hn,by show(0:Int)<=0/\(0:Int)<np;omega,by show(0:Int)<=0/\(0:Int)<=1000;decide,?_,?_,?_,by show(0:Int)<=0/\(0:Int)<=1000;decide,by show(0:Nat)<=40;decide,hd⟩
 show(8:Int)<=4->_;omega
 show(4:Int)=5->_;omega
 show(4:Int)=19->_;omega
theorem Mw.put {a:Act} {y:An} {b b0:Bool} {s1:Sn} (hcw:Cw np nr m wt w) (hcw':Cw np nr (m+1) wt w') (h0:P0 w p x) (hs:At a.name w i s) (ho:PL p) (he:p.epoch=ep) (hx:x.es=se ep Nn τ (if b then k+1 else k)) (hN:0<Nn/\Nn<=1073741824) (hk:k<=1000) (ht:(τ k).size<=40) {again:Bool} (h1:a.part=0) (hl:a.lost≠1) (hag:again=true->(s.last.getD 0 jJ).kind≠0)
  (hl1:(if again then s else eF s 0 a.text).last[0]? =some (Fj Nn τ k)) (hsp:Sp Nn (k+1) (if again then s else eF s 0 a.text)) (hw':w'=(gY w a again).1):Mw np nr (m+1) wt ep Nn a.name τ w' k true:=by
 obtain⟨K,hw⟩:=hcw.wi
 have hep:=hcw.epo h0
 have hg:nW (⟨p.epoch,Nn,0,(k:Nat),1,false,τ k⟩:cv):=Me hep hN (by decide) ⟨by omega,by omega⟩ ht
 cases b with
 |false=>
  obtain⟨w2,e1,g1,g2⟩:=EZ hw hcw.cm h0 hs h1 hl hag hl1 Z hg (by rw[hx,he];exact Nw I k)
  rw[e1]at hw'
  subst hw'
  exact⟨hcw',_,_,i,_,g1,g2,he,by rw[if_pos Z,xV,<-he];show x.es++_=_;rw[hx,he];rfl,hsp,hl1,ho.set _⟩
 |true=>
  have hse:=hcw.sent h0
  rw[hx,if_pos Z]at hse
  obtain⟨w2,e1,g1,g2⟩:=KQ (j:=k) hw hcw.cm h0 hs h1 hl hag hl1 Z hg (by rw[hx,he,if_pos Z];exact Nx I hse)
  rw[e1]at hw'
  subst hw'
  exact⟨hcw',_,_,i,_,g1,g2,he,hx,hsp,hl1,ho⟩
theorem DF (h:s.last[0]? =some (Fj Nn τ k)):(s.last.getD 0 jJ).kind≠0:=by rw[IC h];show(1:Int)≠0;decide
theorem Ow.send {y:An} {d:Int} (h:Ow np nr m wt ep Nn nm τ w k) (hm:m<400) (h4:np<=4) (hp:1<=np) (hN:0<Nn/\Nn<=1073741824) (hk:k<=1000) (ht:(τ k).size<=40) (hn:bo nm=true) (hd:0<=d/\d<=2) (hA:rW w (kU nm (τ k) d) w' y): ∃ b,Mw np nr (m+1) wt ep Nn nm τ w' k b/\(d≠1->b=true):=by
 obtain⟨p,x,i,s,h0,hs,he,hx,hsp,ho⟩:=h.ex
 have cw:=h.cw.next hm h4 (Ig hp hd ht hn) (.inl (by show(3:Int)<=9;decide)) hA
 obtain⟨h1,-⟩:=uE hA (by show¬ (3:Int)=19;decide)
 have e1:j8 w (kU nm (τ k) d)=gY w (kU nm (τ k) d) false:=by simp[j8,kU]
 rw[e1]at h1
 obtain⟨g1,g2⟩:=hsp.next (τ k)
 by_cases hd1:d=1
 refine⟨false,⟨cw,p,x,i,eF s 0 (τ k),?_,?_,he,hx,g1,g2,ho⟩,fun q=>absurd hd1 q⟩
 rw[h1,xR (a:=kU nm (τ k) d) hs Z hd1]
 exact⟨h0.pt,h0.ld,h0.rp⟩
 rw[h1,xR (a:=kU nm (τ k) d) hs Z hd1]
 have hs2:=hs.set (y:=eF s 0 (τ k)) hs.nm
 exact⟨hs2.ix,hs2.sn,hs2.nm⟩
 exact⟨true,Mw.put (a:=kU nm (τ k) d) (b:=false) (again:=false) (b0:=false) (s1:=s) (y:=y) h.cw cw h0 hs ho he hx hN hk ht Z hd1 (fun q=>by cases q) g2 g1 h1,fun _=>rfl⟩
theorem BB {a:Act} {i:Nat} {s:Sn} (h:At a.name w i s) (h0:a.part=0) (hl:a.lost=1) (hag:(s.last.getD 0 jJ).kind≠0):gY w a true=({w with sns:=w.sns.set i s},⟨14,0,[]⟩):=by
 unfold gY
 rw[h.find]
 dsimp only
 rw[h0,show(0:Int).toNat=0 from rfl,if_neg (fun hh=>hag hh.2),if_pos hl]
 rfl
theorem Mw.again {y:An} {d:Int} {b:Bool} (h:Mw np nr m wt ep Nn nm τ w k b) (hm:m<400) (h4:np<=4) (hp:1<=np) (hN:0<Nn/\Nn<=1073741824) (hk:k<=1000) (ht:(τ k).size<=40) (hn:bo nm=true) (hd:0<=d/\d<=2) (hA:rW w (fW nm d) w' y): ∃ b',Mw np nr (m+1) wt ep Nn nm τ w' k b'/\(d≠1->b'=true):=by
 obtain⟨p,x,i,s,h0,hs,he,hx,hsp,hl,ho⟩:=h.ex
 have cw:=h.cw.next hm h4 (BC hp hd hn) (.inl (by show(4:Int)<=9;decide)) hA
 obtain⟨h1,-⟩:=uE hA (by show¬ (4:Int)=19;decide)
 have e1:j8 w (fW nm d)=gY w (fW nm d) true:=by simp[j8,fW]
 rw[e1]at h1
 by_cases hd1:d=1
 refine⟨b,⟨cw,p,x,i,s,?_,?_,he,hx,hsp,hl,ho⟩,fun q=>absurd hd1 q⟩
 rw[h1,BB (a:=fW nm d) hs Z hd1 (DF hl)]
 exact⟨h0.pt,h0.ld,h0.rp⟩
 rw[h1,BB (a:=fW nm d) hs Z hd1 (DF hl)]
 have hs2:=hs.set (y:=s) hs.nm
 exact⟨hs2.ix,hs2.sn,hs2.nm⟩
 exact⟨true,Mw.put (a:=fW nm d) (b:=b) (again:=true) (b0:=false) (s1:=s) (y:=y) h.cw cw h0 hs ho he hx hN hk ht Z hd1 (fun _=>DF hl) hl hsp h1,fun _=>rfl⟩
theorem Mw.done (h:Mw np nr m wt ep Nn nm τ w k true):Ow np nr m wt ep Nn nm τ w (k+1):=by
 obtain⟨p,x,i,s,h0,hs,he,hx,hsp,-,ho⟩:=h.ex
 exact⟨h.cw,p,x,i,s,h0,hs,he,hx,hsp,ho⟩
def s5 (nm t:ByteArray) (d e:Int) (c:Nat):List Act:=kU nm t d::(ap c (fW nm e)++[fW nm 0])
theorem Ht (nm t:ByteArray) (d e:Int) (c:Nat):(s5 nm t d e c).length=c+2:=by simp[s5]
theorem BA {e:Int} (h4:np<=4) (hp:1<=np) (hN:0<Nn/\Nn<=1073741824) (hk:k<=1000) (ht:(τ k).size<=40) (hn:bo nm=true) (he:0<=e/\e<=2): ∀ (c:Nat) {m:Nat} {w w':Wa} {b:Bool} {xs:List An},kT w (ap c (fW nm e)++[fW nm 0]) xs w'->m+c<400->Mw np nr m wt ep Nn nm τ w k b->Ow np nr (m+c+1) wt ep Nn nm τ w' (k+1)
 |0,m,w,w',b,xs,h,hm,hw=>by
  cases h with
  |cons a1 r=>
   cases r
   obtain⟨b',g,gb⟩:=hw.again I h4 hp hN hk ht hn (by decide) a1
   rw[gb (by decide)]at g
   exact g.done
 |c+1,m,w,w',b,xs,h,hm,hw=>by
  rw[jY,mr]at h
  cases h with
  |cons a1 r=>
   obtain⟨b',g,-⟩:=hw.again I h4 hp hN hk ht hn he a1
   have:=BA h4 hp hN hk ht hn he c r I g
   rwa[show m+1+c+1=m+(c+1)+1 by omega]at this
theorem JT {d e:Int} {c:Nat} {xs:List An} (h4:np<=4) (hp:1<=np) (hN:0<Nn/\Nn<=1073741824) (hk:k<=1000) (ht:(τ k).size<=40) (hn:bo nm=true) (hd:0<=d/\d<=2) (he:0<=e/\e<=2) (h:kT w (s5 nm (τ k) d e c) xs w') (hm:m+c+1<400) (hw:Ow np nr m wt ep Nn nm τ w k):Ow np nr (m+c+2) wt ep Nn nm τ w' (k+1):=by
 unfold s5 at h
 cases h with
 |cons a1 r=>
  obtain⟨b,g,-⟩:=hw.send I h4 hp hN hk ht hn hd a1
  have:=BA h4 hp hN hk ht hn he c r I g
  rwa[show m+1+c+1=m+c+2 by omega]at this
inductive M2 (nm:ByteArray) (τ:Nat->ByteArray):Nat->List Act->Prop
 |zero:M2 nm τ 0 []
 |succ {k:Nat} {l:List Act} {d e:Int} {c:Nat}:M2 nm τ k l->0<=d/\d<=2->0<=e/\e<=2->c<=2->M2 nm τ (k+1) (l++s5 nm (τ k) d e c)
theorem M2.len {l:List Act} (h:M2 nm τ k l):l.length<=4*k:=by
 induction h with
 |zero=>simp
 |succ _ _ _ hc ih=>rw[ax,Ht];omega
theorem N1 {l:List Act} (hg:M2 nm τ k l) (h4:np<=4) (hp:1<=np) (hN:0<Nn/\Nn<=1073741824) (hk:k<=18) (ht: ∀ j,j<k->(τ j).size<=40) (hn:bo nm=true): ∀ {m:Nat} {w w':Wa} {xs:List An},kT w l xs w'->m<=10->Ow np nr m wt ep Nn nm τ w 0-> ∃ m',m'<=m+4*k/\Ow np nr m' wt ep Nn nm τ w' k:=by
 induction hg with
 |zero=>
  intro m w w' xs h _ hw
  cases h
  exact⟨m,by omega,hw⟩
 |@succ k l d e c _ hd he hc ih=>
  intro m w w' xs h hm hw
  obtain⟨us,zs,w1,rfl,r1,r2⟩:=h.split
  obtain⟨m1,h1,h2⟩:=ih I (fun j hj=>ht j I) r1 hm hw
  exact⟨_,by omega,JT h4 hp hN I (ht k I) hn hd he r2 I h2⟩
theorem LO {P:ByteArray->Prop}:BH P wt (m6 np nr 1 wt):=by
 refine⟨fun q hq=> ?_,by simp[m6],rfl,by simp[m6]⟩
 obtain rfl:q=mH nr 1:=cS hq
 exact⟨⟨.inl Z,fun b hb=>cS hb,fun y hy=>by rw[cS hy]⟩,fun y hy e he=>by rw[cS hy]at he;cases he⟩
theorem Mz {q:fX} (h0:(fk q 0).2=0): ∀ (i:Nat) (y:RA),(fk q 0).1.reps[i]? =some y-> ∃ z,q.reps[i]? =some z/\y.es=z.es:=by
 unfold fk at h0⊢
 split at h0
 cases h0
 rename_i x hx
 split at h0
 cases h0
 rename_i c1
 split at h0
 cases h0
 rename_i c2
 split at h0
 cases h0
 rename_i c3
 split at h0
 cases h0
 rename_i c4
 rw[if_neg c1,if_neg c2,if_neg c3,if_neg c4]
 intro i y hy
 obtain⟨z,g1,g2,-⟩:=xC hy
 exact⟨z,g1,g2⟩
theorem Km {q:fX} {y:An} (hq:w.ps[0]? =some q) (hA:rW w (bI 0) w' y): ∃ q',w'.ps[0]? =some q'/\ ∀ (i:Nat) (x:RA),q'.reps[i]? =some x-> ∃ z,q.reps[i]? =some z/\x.es=z.es:=by
 obtain⟨h1,-⟩:=uE hA (by show¬ (13:Int)=19;decide)
 have e1:j8 w (bI 0)=mD w (bI 0):=by simp[j8,bI]
 have e3:jd q (bI 0)=((fk q 0).1,0,(fk q 0).2):=by simp[jd,bI]
 rw[h1,e1]
 unfold mD
 rw[show(bI 0).part.toNat=0 from rfl,hq]
 dsimp only
 rw[e3]
 split
 rename_i c
 exact⟨_,am (cu hq).1,Mz c⟩
 exact⟨q,hq,fun i x hx=>⟨x,hx,rfl⟩⟩
theorem F5 (hp:1<=np) (hr:1<=nr):nc np nr (bI 0):=(DY (hard:=true) (k:=13) (pt:=0) (n:=0) (m:=0) (lo:=0) (nm:=⟨#[]⟩) (t:=⟨#[]⟩) I (by simp) I (.inl Z)).g
theorem IA (hp:1<=np) (hn:bo nm=true):nc np nr (cY nm):=(DY (hard:=true) (k:=1) (pt:=0) (n:=0) (m:=0) (lo:=0) (nm:=nm) (t:=⟨#[]⟩) I (by simp) (fun _=>hn) (.inl Z)).g
theorem Jv {xs:List An} (q1:1<=np) (q4:np<=4) (n1:1<=nr) (n5:nr<=5) (t1:1<=wt) (t2:wt<=1000) (hn:bo nm=true) (h:kT (m6 np nr 1 wt) [bI 0,cY nm] xs w'): ∃ (ep Nn:Int),0<Nn/\Nn<=1073741824/\Ow np nr 2 wt ep Nn nm τ w' 0:=by
 cases h with
 |cons a1 h=>cases h with
 |cons a2 h=>
  cases h
  rename_i w1 _ _
  have w00:WI np nr 1 wt 0 (fun _=>[]) (m6 np nr 1 wt):=DU (few:=1) n1 n5 (ao _) n1 t1 t2
  obtain⟨K1,-,i1⟩:=EL w00 I q4 (F5 q1 n1) a1
  obtain⟨c1,-,c3⟩:=MA w00 (LO (P:=fun _=>False)) a1
  have hp0:(m6 np nr 1 wt).ps[0]? =some (mH nr 1):=by
   obtain⟨m,rfl⟩: ∃ m,np=m+1:=⟨np-1,by omega⟩
   simp[m6,jY]
  obtain⟨q,hq,hql⟩:=c3 _ hp0 (by show(0:Int)<1073741824;decide)
  obtain⟨q',hq',hes⟩:=Km hp0 a1
  obtain rfl:q=q':=by rw[hq]at hq';exact aT hq'
  have hes2: ∀ (i:Nat) (x:RA),q.reps[i]? =some x->x.es=[]:=fun i x hx=>by
   obtain⟨z,g1,g2⟩:=hes i x hx
   rw[g2,cS (ab g1)]
  have hok:=(i1.ps.gt 0 q hq).1.ok
  obtain⟨x0,hx⟩: ∃ x,q.reps[0]? =some x:=⟨_,ai hok.n1⟩
  have hf: ∀ t∈w1.co.txs,t.name≠nm:=fun t ht=>(c1.co.2 t ht).elim
  have hl:w1.co.txs.length=0:=by
   cases hc:w1.co.txs with
   |nil=>rfl
   |cons t l=>exact(c1.co.2 t (by rw[hc];exact az ..)).elim
  have hi:bw w1.co nm=(mQ w1.co nm,w1.co.next,0,0):=by
   unfold bw
   rw[N4 hf]
   dsimp only
   rw[if_neg I]
  have hN0:0<w1.co.next:=by have:=(C5 (s:=nm) i1.co (by rw[hi])).2.2;rwa[hi]at this
  have hN1:w1.co.next<=2:=by have:=i1.co.next;omega
  have cw:Cw np nr 1 wt w1:=⟨⟨K1,i1⟩,c1.ps,c1.sns,c1.co.1,fun _ _=>trivial⟩
  have cw2:=cw.next I q4 (IA q1 hn) (.inl (by show(1:Int)<=9;decide)) a2
  obtain⟨h1,-⟩:=uE a2 (by show¬ (1:Int)=19;decide)
  have e1:j8 w1 (cY nm)=mI w1 (cY nm):=by simp[j8,cY]
  rw[e1]at h1
  unfold mI at h1
  have hi2:bw w1.co (cY nm).name=(mQ w1.co nm,w1.co.next,0,0):=hi
  rw[hi2,if_pos Z]at h1
  obtain⟨i,g1,g2⟩:=Ll w1.sns (qT nm w1.co.next 0 w1.ps.length)
  refine⟨q.epoch,w1.co.next,hN0,by omega,cw2,q,x0,i,qT nm w1.co.next 0 w1.ps.length,?_,?_,rfl,?_,?_,fun r z _ hz=>hes2 r z hz⟩
  rw[h1];exact⟨hq,hql,hx⟩
  rw[h1];exact⟨g1,g2,rfl⟩
  rw[hes2 0 x0 hx];rfl
  have hpl:=i1.ps.len
  refine⟨rfl,rfl,rfl,?_,?_,?_⟩
  show(ap w1.ps.length (0:Int)).getD 0 0=((0:Nat):Int)
  simp[List.getD,fm]
  split<;>rfl
  show 1<=(ap w1.ps.length (0:Int)).length
  rw[bO];omega
  show 1<=(ap w1.ps.length jJ).length
  rw[bO];omega
end
section
/-! what is read of a log in order -/
def PE (e:cv):Prop:=e.kind=1/\e.txn=false
theorem JW {es:List cv} (h: ∀ e∈es,PE e) {st:Nat} (hs:ru es st):st=es.length:=by
 rcases hs.2.2 with h1|⟨pid,e,h1,h2,h3,h4⟩
 exact h1
 have:=(h e (ab h1)).2
 rw[h3]at this;cases this
theorem Bc {es:List cv} (h: ∀ e∈es,PE e) (n a:Nat): ∀ b,a+b<=es.length->texts es n a (a+b)=((es.drop a).take b).map cv.text
 |0,_=>by rw[pB,zS];simp
 |b+1,hb=>by
  obtain⟨e,he⟩: ∃ e,es[a+b]? =some e:=⟨_,ai I⟩
  have hp:=h e (ab he)
  have he2:(es.drop a)[b]? =some e:=by rw[dk];exact he
  rw[<-jI,sL I,Bc h n a b I,dY he2,bh]
  congr 1
  unfold Dx
  rw[he]
  dsimp only
  rw[if_pos ⟨hp.1,by unfold wS;rw[hp.2];rfl⟩]
  rfl
variable {np nr k m i:Nat} {wt ep Nn:Int} {w w':Wa} {p:fX} {x:RA} {s:Sn} {nm:ByteArray} {τ:Nat->ByteArray}
theorem CZ: ∀ e∈se ep Nn τ k,PE e:=fun e he=>by
 unfold se at he
 obtain⟨j,-,rfl⟩:=bS.1 he
 exact⟨rfl,rfl⟩
theorem Jx:(se ep Nn τ k).map cv.text=(tI k).map τ:=by
 unfold se
 rw[pF]
 rfl
theorem Fi {y:RA} {a most st b:Nat} {out:List ByteArray} (hy:y.es=se ep Nn τ k) (hh:y.high.toNat=k) (ha:a<=k) (hs:ru (y.es.take y.high.toNat) st) (hr:y4 y.es y.high.toNat st a most out b):b=min k (a+most)/\out=(((tI k).map τ).drop a).take most:=by
 rw[hh,hy,dS (by rw[sd];exact ao _)]at hs
 rw[hh,hy]at hr
 have hst:=JW CZ hs
 rw[sd]at hst
 subst hst
 obtain⟨r1,r2,r3,r4,r5,-⟩:=hr
 have hb:b<=st:=by rcases r2 with r2|r2<;>omega
 obtain⟨c,rfl⟩: ∃ c,b=a+c:=⟨b-a,by omega⟩
 rw[Bc CZ _ a c (by rw[sd];exact hb),List.map_take,List.map_drop,Jx]at r3
 have hlen:out.length=c:=by rw[r3,aF,db,bl,lw];omega
 refine⟨by omega,?_⟩
 rw[r3]
 rcases r5 with h|h
 have e1:c=st-a:=by omega
 rw[dS (by rw[db,bl,lw];omega),dS (by rw[db,bl,lw];omega)]
 rw[show c=most by omega]
theorem Ow.rds (h:Ow np nr m wt ep Nn nm τ w k): ∃ p,w.ps[0]? =some p/\Gx (se ep Nn τ k) 0 0 p/\p.reps.length=nr:=by
 obtain⟨p,x,i,s,h0,hs,he,hx,hsp,ho⟩:=h.ex
 obtain⟨K,hw⟩:=h.cw.wi
 have hg:=(hw.ps.gt 0 p h0.pt).1
 have hok:=hg.ok
 refine⟨p,h0.pt,⟨(h.cw.cm.ps p (ab h0.pt)).1,h0.ld,⟨x,h0.rp,hx,?_,fun h=>by omega,fun h=>by omega⟩,fun r z hr hz=>⟨0,bx _,?_,?_⟩,fun r v hr hv=> ?_,fun h=>by omega,hok.knownl⟩,hg.len⟩
 have:=(hok.at_ h0.rp).high1
 rw[hx]at this
 exact this
 rw[ho r z hr hz];rfl
 rw[if_neg (show¬ r<0 by omega)];omega
 rw[if_neg (show¬ r<0 by omega)]
 have:=hok.known v (ab hv)
 omega
theorem Ju {l:List Act} {xs:List An} (q1:1<=np) (q4:np<=4) (n1:1<=nr) (n5:nr<=5) (t1:1<=wt) (t2:wt<=1000) (hn:bo nm=true) (hg:M2 nm τ k l) (hk:k<=18) (ht: ∀ j,j<k->(τ j).size<=40) (h:kT (m6 np nr 1 wt) ([bI 0,cY nm]++l++i8 nr 22) xs w'):
  ∃ (ep Nn:Int) (p:fX) (y:RA),w'.ps[0]? =some p/\p.leader=0/\p.reps[0]? =some y/\y.es=se ep Nn τ k/\y.high.toNat=k:=by
 obtain⟨us,zs,w1,rfl,r1,r2⟩:=h.split
 obtain⟨us,zs2,w2,rfl,r3,r4⟩:=r1.split
 obtain⟨ep,Nn,hN0,hN1,o1⟩:=Jv (τ:=τ) q1 q4 n1 n5 t1 t2 hn r3
 obtain⟨m',-,o2⟩:=N1 hg q4 q1 ⟨hN0,hN1⟩ hk ht hn r4 I o1
 obtain⟨p,hp,hr,hl⟩:=o2.rds
 obtain⟨p',g1,g2,-⟩:=Ih (by rw[sd];omega) n1 22 r2 hl hp hr
 obtain⟨y,e1,e2,e3,-,e5⟩:=g2.zero
 rw[sd]at e3 e5
 exact⟨ep,Nn,p',y,g1,g2.ld,e1,e2,by have:=e5 I;omega⟩
end

theorem va (es:List Act) (hl:es.length<=1000):d3 qz es es.length (qz.all es).toArray:=⟨by rw[dW,fq.length],by rw[List.toList_toArray];exact dS (by rw[fq.length];exact ao _),ao _,by simp only[maxLen];omega⟩
theorem Ib {np nr j:Nat} (hp:1<=np) (hj:j<nr) (hr:nr<=5):nc np nr (nf j)/\nc np nr (jW j):=
 ⟨(DY (hard:=true) (k:=9) (pt:=0) (n:=j) (m:=0) (lo:=0) (nm:=⟨#[]⟩) (t:=⟨#[]⟩) (by omega) (by simp) (by omega) (.inl rfl)).g,(DY (hard:=true) (k:=8) (pt:=0) (n:=j) (m:=0) (lo:=0) (nm:=⟨#[]⟩) (t:=⟨#[]⟩) (by omega) (by simp) (by omega) (.inl rfl)).g⟩
theorem OZ {np nr:Nat} (hp:1<=np) (hr:nr<=5) (t:Nat): ∀ a∈i8 nr t,nc np nr a:=by
 induction t with
 |zero=>intro a ha;cases ha
 |succ t ih=>
  intro a ha
  rw[i8]at ha
  rcases aq.1 ha with ha|ha
  exact ih a ha
  unfold ki at ha
  obtain⟨j,hj,ha⟩:=List.mem_flatMap.1 ha
  have hj:=List.mem_range.1 hj
  simp only[av,bu,or_false]at ha
  rcases ha with rfl|rfl
  exact(Ib hp hj hr).1
  exact(Ib hp hj hr).2
theorem P1 {np nr k:Nat} {nm:ByteArray} {τ:Nat->ByteArray} {l:List Act} (hp:1<=np) (hn:bo nm=true) (ht: ∀ j,(τ j).size<=40) (h:M2 nm τ k l): ∀ a∈l,nc np nr a:=by
 induction h with
 |zero=>intro a ha;cases ha
 |succ _ hd he _ ih=>
  intro a ha
  rcases aq.1 ha with ha|ha
  exact ih a ha
  unfold s5 at ha
  simp only[av,aq,List.mem_replicate,bu,or_false]at ha
  rcases ha with rfl|⟨-,rfl⟩|rfl
  exact Ig hp hd (ht _) hn
  exact BC hp he hn
  exact BC hp (by decide) hn
theorem DQ {np nr k t:Nat} {l:List Act} (hp:1<=np) (n1:1<=nr) (n5:nr<=5) (h:M2 (iO 0) gZ k l): ∀ a∈[bI 0,cY (iO 0)]++l++i8 nr t,nc np nr a:=fun a ha=>by
 rcases aq.1 ha with ha|ha
 rcases aq.1 ha with ha|ha
 simp only[av,bu,or_false]at ha
 rcases ha with rfl|rfl
 exact F5 hp n1
 exact IA hp (G4 _)
 exact P1 hp (G4 _) C4 h a ha
 exact OZ hp n5 t a ha
theorem Lf (c:Nat) (a:Act):ap c a++[a]=ap (c+1) a:=rg.symm
theorem Fh {np nr k:Nat} {wt:Int} {l:List Act} {xs:List An} {b:Bk} (q1:1<=np) (q4:np<=4) (n1:1<=nr) (n5:nr<=5) (t1:1<=wt) (t2:wt<=1000) (hg:M2 (iO 0) gZ k l) (hk:k<=18) (h:kT (m6 np nr 1 wt) ([bI 0,cY (iO 0)]++l++i8 nr 22) xs b.a):
  ∃ (ep Nn:Int) (q:Pq) (y:f5),b.ps[0]? =some q/\q.p.leader=((0:Nat):Int)/\q.p.reps[0]? =some y/\y.es=se ep Nn gZ k/\y.high.toNat=k/\q.p.a.ok:=by
 obtain⟨ep,Nn,p,y,h1,h2,h3,h4,h5⟩:=Ju q1 q4 n1 n5 t1 t2 (G4 0) hg hk (fun j _=>C4 j) h
 have hw00:WI np nr 1 wt 0 (fun _=>[]) (m6 np nr 1 wt):=DU (few:=1) n1 n5 (ao _) n1 t1 t2
 have hlen:=hg.len
 obtain⟨K,-,hw⟩:=K7 h hw00 (by
    rw[ax,ax,ua];simp only[bv,ft];have:22*(2*nr)<=220:=by omega
    omega) q4 (DQ q1 n1 n5 hg)
 have hok:=(hw.ps.gt 0 p h1).1.ok
 change (b.ps.map fun q=>q.p.a)[0]? =some p at h1
 rw[aH]at h1
 cases hq:b.ps[0]? with
 |none=>rw[hq]at h1;cases h1
 |some q=>
  rw[hq]at h1
  cases h1
  change (q.p.reps.map f5.a)[0]? =some y at h3
  rw[aH]at h3
  cases hy:q.p.reps[0]? with
  |none=>rw[hy]at h3;cases h3
  |some z=>
   rw[hy]at h3
   cases h3
   exact⟨ep,Nn,q,z,rfl,h2,hy,h4,h5,hok⟩
theorem ER (lost:List Int) (A:Option Addr) (c0:Nat) (a b:Int) (w:World) (hr:Rd bN 0 w.heap.size A lost w) (hok: ∀ n∈lost,i64 n) (_:lost.length<=9223372036854775807) (ha:i64 a) (hb:i64 b):dt aa sW [.slice A lost.length c0,.int .i64 a,.int .i64 b] w fun v w2=>v=.bool true/\Below w.heap.size w w2:=by
 refine aG su rfl rfl ?_
 have H:=Hp.startRd hr
 obtain⟨np,nr,few,wt,q1,q4,n1,n5,f1,f2,t1,t2,hset⟩:=Jc ha hb
 refine bD ?_
 refine ba ?_
 refine l1 (Gj rfl) rfl rfl rfl ?_
 refine bL ?_
 refine bD ?_
 refine ba ?_
 refine l1 (eM rfl) rfl rfl rfl ?_
 refine l1 (eM rfl) rfl rfl rfl ?_
 refine cz tU (hset _) rfl rfl ?_
 rintro _ w1 ⟨rfl,hb⟩;replace H:=H.later hb;clear hb
 refine fg H Dt rfl ?_;intro w2 b7 H
 refine bC H 0 (#[.int .i64 (((np:Nat):Int)),.int .i64 (((nr:Nat):Int)),.int .i64 (((few:Nat):Int)),.int .i64 (wt)]) CR rfl rfl rfl rfl rfl (by kernel_rfl) (by kernel_rfl) ?_;intro w3 H
 refine bL ?_
 refine bD ?_
 refine ba ?_
 refine l1 (FY Bh rfl) rfl rfl rfl ?_
 refine bC H 0 (#[.int .i64 (((np:Nat):Int)),.int .i64 (((nr:Nat):Int)),.int .i64 (1),.int .i64 (wt)]) bV rfl rfl rfl rfl rfl (by kernel_rfl) (by kernel_rfl) ?_;intro w4 H
 refine bL ?_
 refine bD ?_
 refine ba ?_
 refine l1 (bE (cs:= #[.int .i64 (13),.string (⟨#[]⟩),.int .i64 (0),.int .i64 (0),.int .i64 (0),.string (⟨#[]⟩),.int .i64 (0)]) sN pp (by kernel_rfl)) rfl rfl rfl ?_
 refine l1 (bE (cs:= #[.int .i64 (1),.string (⟨#[97,110,110]⟩),.int .i64 (0),.int .i64 (0),.int .i64 (0),.string (⟨#[]⟩),.int .i64 (0)]) sN pp (by kernel_rfl)) rfl rfl rfl ?_
 refine uA (vs:=[.agg (Act.c (bI 0)).toArray,.agg (Act.c (cY (iO 0))).toArray]) H qS pp rfl rfl rfl rfl rfl rfl ?_;intro w5 b27 H
 replace H:=H.freeze (va [bI 0,cY (iO 0)] (by simp))
 refine l1 (vI rfl) rfl rfl rfl ?_
 refine bL ?_
 refine bD ?_
 refine ba ?_
 refine l1 (pz rfl) rfl rfl rfl ?_
 refine bL ?_
 refine bD ?_
 refine bD ?_
 refine ba ?_
 refine l1 (pz rfl) rfl rfl rfl ?_
 refine bL ?_
 refine g8 ?_
 refine bW (τ:=Nat×List Act×Option Addr×Nat×Nat×Nat) [8,9,10,11,28,29,30,31,32,33,34,35,36,37,38,39,40,41,42,43,44,45,46,47,48,49,50,51,52,53,54,55,56,57,58,59,60,61,62,63,64,65,66,67,68,69,70,71,72,73,74] (fun(k,G,A2,c2,lo2,hi2)=>[(8,.slice A2 ([bI 0,cY (iO 0)]++G).length c2),(9,.int .i64 (k:Nat)),(10,.int .i64 (k:Nat))]) (fun(k,G,A2,c2,lo2,hi2) w'=>k<=18/\k<=lost.length/\M2 (iO 0) gZ k G/\Hp w w' [(b7,.cells #[.int .i64 (((np:Nat):Int)),.int .i64 (((nr:Nat):Int)),.int .i64 (1),.int .i64 (wt)] lB (0,0))] (d4 qz lo2 hi2 A2 ([bI 0,cY (iO 0)]++G)::[d4 bN 0 w.heap.size A lost])) (fun(k,G,_)=>lost.length-k) (0,[],some ⟨b27,0,none⟩,2,b27,b27+1) ⟨by omega,by omega,.zero,H⟩ (OU rfl rfl rfl) ?_
 rintro⟨k,G,A2,c2,lo2,hi2⟩ ρ1 w6 ⟨hk18,hkl,hG,H⟩
 show CW _ _ _ _ (dH (gT _ _ ρ1) [(8,.slice A2 ([bI 0,cY (iO 0)]++G).length c2),(9,.int .i64 (k:Nat)),(10,.int .i64 (k:Nat))]) w6
 refine bD ?_
 refine bD ?_
 refine ba ?_
 refine l1 (eM rfl) rfl rfl rfl ?_
 refine l1 (qf rfl) rfl rfl rfl ?_
 refine l1 (bj eA rfl) rfl rfl rfl ?_
 refine dq (cL rfl rfl) rfl rfl rfl (fun h31=> ?_) (fun h31=> ?_)
 ·
  refine l1 (Af rfl) rfl rfl rfl ?_
  refine qg rfl ?_
  refine l1 (eM rfl) rfl rfl rfl ?_
  refine qg rfl ?_
  refine dq (cL rfl rfl) rfl rfl rfl (fun h34=> ?_) (fun h34=> ?_)
  ·
   refine l1 (GW rfl rfl) rfl rfl rfl ?_
   refine bL ?_
   refine gL rfl ?_
   refine jl ?_
   refine bD ?_
   refine g8 ?_
   refine bD ?_
   obtain⟨n0,hn0⟩: ∃ n0,lost[k]? =some n0:=⟨_,ai (by omega)⟩
   have hn0k:i64 n0:=hok n0 (ab hn0)
   have hd3:i64 (n0.tdiv 3):=by have:=vS hn0k (show(1:Int)<3 by decide);exact⟨by omega,by omega⟩
   have hd7:i64 (n0.tdiv 7):=by have:=vS hn0k (show(1:Int)<7 by decide);exact⟨by omega,by omega⟩
   have hpd:=tv n0 (show 0<3 by omega)
   have hp3:=tv (n0.tdiv 3) (show 0<3 by omega)
   have hp7:=tv (n0.tdiv 7) (show 0<3 by omega)
   have hGl:=hG.len
   refine bP cD [0,1,3,4,5,6,2,7,8] [9,10,11] [2,7] [0,1,3,4,5,8] (sp [(2,Sp.one (.string (gZ k))),(7,Sp.one (.int .i64 ((pk n0 3:Nat):Int)))]) (by kernel_rfl) (by kernel_rfl) (by kernel_rfl) (by kernel_rfl) (fun _ _ _ h=>h) (cO _) ?_
   refine aw rfl rfl rfl rfl rfl (fun w' hw'=>qf rfl) ?_
   refine aw rfl rfl rfl rfl rfl (fun w' hw'=>eM rfl) ?_
   refine aw rfl rfl rfl rfl rfl (fun w' hw'=>qf rfl) ?_
   refine aw rfl rfl rfl rfl rfl (fun w' hw'=>eM rfl) ?_
   refine py H 1 rfl rfl rfl rfl rfl bd rfl rfl (by omega) (by omega) ?_;intro bq7 o7 x7 e7
   obtain rfl:n0=x7:=by have:=e7.at_;rw[hn0]at this;exact aT this
   refine aw rfl rfl rfl rfl rfl (fun w' hw'=>bf al rfl (e7.later hw' 0 _ rfl)) ?_
   refine nS ph rfl rfl rfl rfl rfl (fun w' hw'=>D1 k w' (by omega)) rfl ?_
   refine nS jG rfl rfl rfl rfl rfl (fun w' hw'=>vX n0 3 w' hn0k.1 hn0k.2 (by decide) (by decide)) rfl ?_
   refine aw rfl rfl rfl rfl rfl (fun w' hw'=>bE (cs:= #[.int .i64 (3),.string (⟨#[97,110,110]⟩),.int .i64 (0),.int .i64 (0),.int .i64 (0),.string (gZ k),.int .i64 (((pk n0 3:Nat):Int))]) sN pp (by kernel_rfl)) ?_
   refine aU ?_
   intro w8 hw' hF
   replace H:=H.later hw';clear hw' hF
   refine uA (vs:=[.agg (Act.c (kU (iO 0) (gZ k) ((pk n0 3:Nat):Int))).toArray]) H qS pp rfl rfl rfl rfl rfl rfl ?_;intro w9 b47 H
   replace H:=H.freeze (va [kU (iO 0) (gZ k) ((pk n0 3:Nat):Int)] (by simp))
   refine cz g9 (wG (l:=([bI 0,cY (iO 0)]++G)) (m:=[kU (iO 0) (gZ k) ((pk n0 3:Nat):Int)]) _ (H.rd0 1 rfl) (H.rd0 0 rfl) (by simp only[ax,bv,ft];omega) (by simp)) rfl rfl ?_
   rintro _ w10 ⟨Aw,cw,Lw,rfl,how,hjw⟩;replace H:=H.learnOwn hjw how
   refine l1 (vI rfl) rfl rfl rfl ?_
   refine bL ?_
   refine bD ?_
   refine bD ?_
   refine ba ?_
   refine l1 (qf rfl) rfl rfl rfl ?_
   refine l1 (eM rfl) rfl rfl rfl ?_
   refine px H 3 rfl bd rfl rfl (by omega) (by omega) rfl ?_;intro bq11 o11 x11 e11
   obtain rfl:n0=x11:=by have:=e11.at_;rw[hn0]at this;exact aT this
   refine l1 (bf al rfl (e11.cl 0 _ rfl)) rfl rfl rfl ?_
   refine l1 (Li rfl rfl hn0k (by decide)) rfl rfl rfl ?_
   refine cz jG (vX (n0.tdiv 3) 3 _ hd3.1 hd3.2 (by decide) (by decide)) rfl rfl ?_
   rintro _ w12 ⟨rfl,hb⟩;replace H:=H.later hb;clear hb
   refine l1 (pz rfl) rfl rfl rfl ?_
   refine bL ?_
   refine g8 ?_
   rw[show(([bI 0,cY (iO 0)]++G)++[kU (iO 0) (gZ k) ((pk n0 3:Nat):Int)])=((([bI 0,cY (iO 0)]++G)++[kU (iO 0) (gZ k) ((pk n0 3:Nat):Int)])++ap 0 (fW (iO 0) ((pk (n0.tdiv 7) 3:Nat):Int)))from(aW _).symm]at H⊢
   refine bW (τ:=Nat×Nat×Option Addr×Nat×Nat×Nat) [8,11,55,56,57,58,59,60,61,62,63,64,65,66,67,68] (fun(j,c,A2,c2,lo2,hi2)=>[(8,.slice A2 ((([bI 0,cY (iO 0)]++G)++[kU (iO 0) (gZ k) ((pk n0 3:Nat):Int)])++ap c (fW (iO 0) ((pk (n0.tdiv 7) 3:Nat):Int))).length c2),(11,.int .i64 (j:Nat))]) (fun(j,c,A2,c2,lo2,hi2) w'=>j+c<=2/\Hp w w' [(b7,.cells #[.int .i64 (((np:Nat):Int)),.int .i64 (((nr:Nat):Int)),.int .i64 (1),.int .i64 (wt)] lB (0,0))] (d4 qz lo2 hi2 A2 ((([bI 0,cY (iO 0)]++G)++[kU (iO 0) (gZ k) ((pk n0 3:Nat):Int)])++ap c (fW (iO 0) ((pk (n0.tdiv 7) 3:Nat):Int)))::[d4 bN 0 w.heap.size A lost])) (fun(j,c,_)=>j) (pk (n0.tdiv 3) 3,0,Aw,cw,w9.heap.size,w10.heap.size) ⟨by omega,H.forget (au _) (fun f hf=>by simp only[av,bu,or_false]at hf⊢;grind)⟩ (lE rfl rfl) ?_
   rintro⟨j,c,A2,c2,lo2,hi2⟩ ρ1 w13 ⟨hjc,H⟩
   show CW _ _ _ _ (dH (gT _ _ ρ1) [(8,.slice A2 ((([bI 0,cY (iO 0)]++G)++[kU (iO 0) (gZ k) ((pk n0 3:Nat):Int)])++ap c (fW (iO 0) ((pk (n0.tdiv 7) 3:Nat):Int))).length c2),(11,.int .i64 (j:Nat))]) w13
   refine bD ?_
   refine bD ?_
   refine ba ?_
   refine l1 (eM rfl) rfl rfl rfl ?_
   refine dq (kj rfl rfl) rfl rfl rfl (fun h56=> ?_) (fun h56=> ?_)
   ·
    refine bL ?_
    refine gL rfl ?_
    refine jl ?_
    refine bD ?_
    refine g8 ?_
    refine ba ?_
    refine l1 (qf rfl) rfl rfl rfl ?_
    refine l1 (qf rfl) rfl rfl rfl ?_
    refine l1 (eM rfl) rfl rfl rfl ?_
    refine px H 1 rfl bd rfl rfl (by omega) (by omega) rfl ?_;intro bq14 o14 x14 e14
    obtain rfl:n0=x14:=by have:=e14.at_;rw[hn0]at this;exact aT this
    refine l1 (bf al rfl (e14.cl 0 _ rfl)) rfl rfl rfl ?_
    refine l1 (Li rfl rfl hn0k (by decide)) rfl rfl rfl ?_
    refine cz jG (vX (n0.tdiv 7) 3 _ hd7.1 hd7.2 (by decide) (by decide)) rfl rfl ?_
    rintro _ w15 ⟨rfl,hb⟩;replace H:=H.later hb;clear hb
    refine l1 (bE (cs:= #[.int .i64 (4),.string (⟨#[97,110,110]⟩),.int .i64 (0),.int .i64 (0),.int .i64 (0),.string (⟨#[]⟩),.int .i64 (((pk (n0.tdiv 7) 3:Nat):Int))]) sN pp (by kernel_rfl)) rfl rfl rfl ?_
    refine uA (vs:=[.agg (Act.c (fW (iO 0) ((pk (n0.tdiv 7) 3:Nat):Int))).toArray]) H qS pp rfl rfl rfl rfl rfl rfl ?_;intro w16 b67 H
    replace H:=H.freeze (va [fW (iO 0) ((pk (n0.tdiv 7) 3:Nat):Int)] (by simp))
    refine cz g9 (wG (l:=((([bI 0,cY (iO 0)]++G)++[kU (iO 0) (gZ k) ((pk n0 3:Nat):Int)])++ap c (fW (iO 0) ((pk (n0.tdiv 7) 3:Nat):Int)))) (m:=[fW (iO 0) ((pk (n0.tdiv 7) 3:Nat):Int)]) _ (H.rd0 1 rfl) (H.rd0 0 rfl) (by simp only[ax,bv,ft,bO];omega) (by simp)) rfl rfl ?_
    rintro _ w17 ⟨Aw,cw,Lw,rfl,how,hjw⟩;replace H:=H.learnOwn hjw how
    rw[show((([bI 0,cY (iO 0)]++G)++[kU (iO 0) (gZ k) ((pk n0 3:Nat):Int)])++ap c (fW (iO 0) ((pk (n0.tdiv 7) 3:Nat):Int)))++[fW (iO 0) ((pk (n0.tdiv 7) 3:Nat):Int)]=((([bI 0,cY (iO 0)]++G)++[kU (iO 0) (gZ k) ((pk n0 3:Nat):Int)])++ap (c+1) (fW (iO 0) ((pk (n0.tdiv 7) 3:Nat):Int)))from by rw[aB,Lf]]at H⊢
    refine l1 (vI rfl) rfl rfl rfl ?_
    refine bL ?_
    refine ba ?_
    refine l1 (eM rfl) rfl rfl rfl ?_
    refine l1 (ng rfl rfl (by omega) (by omega)) rfl rfl rfl ?_
    refine l1 (pz rfl) rfl rfl rfl ?_
    refine bL ?_
    exact⟨(j-1,c+1,Aw,cw,w16.heap.size,w17.heap.size),⟨by omega,H.forget (by repeat (first|exact au _|refine .cons _ ?_)) (fun f hf=>by simp only[av,bu,or_false]at hf⊢;grind)⟩,lE rfl (congrArg (Value.int .i64) (by omega)),by repeat (first|exact y9.refl _ _|exact iE|refine ie rfl ?_|refine fV _ rfl ?_|refine oQ rfl ?_),by show j-1<j;omega⟩
   ·
    refine bL ?_
    refine eS rfl ?_
    refine p5 ?_
    refine bD ?_
    refine ba ?_
    refine l1 (qf rfl) rfl rfl rfl ?_
    refine l1 (bE (cs:= #[.int .i64 (4),.string (⟨#[97,110,110]⟩),.int .i64 (0),.int .i64 (0),.int .i64 (0),.string (⟨#[]⟩),.int .i64 (0)]) sN pp (by kernel_rfl)) rfl rfl rfl ?_
    refine uA (vs:=[.agg (Act.c (fW (iO 0) 0)).toArray]) H qS pp rfl rfl rfl rfl rfl rfl ?_;intro w18 b71 H
    replace H:=H.freeze (va [fW (iO 0) 0] (by simp))
    refine cz g9 (wG (l:=((([bI 0,cY (iO 0)]++G)++[kU (iO 0) (gZ k) ((pk n0 3:Nat):Int)])++ap c (fW (iO 0) ((pk (n0.tdiv 7) 3:Nat):Int)))) (m:=[fW (iO 0) 0]) _ (H.rd0 1 rfl) (H.rd0 0 rfl) (by simp only[ax,bv,ft,bO];omega) (by simp)) rfl rfl ?_
    rintro _ w19 ⟨Aw,cw,Lw,rfl,how,hjw⟩;replace H:=H.learnOwn hjw how
    rw[show((([bI 0,cY (iO 0)]++G)++[kU (iO 0) (gZ k) ((pk n0 3:Nat):Int)])++ap c (fW (iO 0) ((pk (n0.tdiv 7) 3:Nat):Int)))++[fW (iO 0) 0]=([bI 0,cY (iO 0)]++(G++s5 (iO 0) (gZ k) ((pk n0 3:Nat):Int) ((pk (n0.tdiv 7) 3:Nat):Int) c))from by simp[s5]]at H⊢
    refine l1 (vI rfl) rfl rfl rfl ?_
    refine bL ?_
    refine ba ?_
    refine l1 (eM rfl) rfl rfl rfl ?_
    refine l1 (bn rfl rfl (by omega) (by omega)) rfl rfl rfl ?_
    refine l1 (pz rfl) rfl rfl rfl ?_
    refine bL ?_
    refine ba ?_
    refine l1 (eM rfl) rfl rfl rfl ?_
    refine l1 (bn rfl rfl (by omega) (by omega)) rfl rfl rfl ?_
    refine l1 (pz rfl) rfl rfl rfl ?_
    refine bL ?_
    exact⟨(k+1,(G++s5 (iO 0) (gZ k) ((pk n0 3:Nat):Int) ((pk (n0.tdiv 7) 3:Nat):Int) c),Aw,cw,w18.heap.size,w19.heap.size),⟨by omega,by omega,hG.succ ⟨by omega,by omega⟩ ⟨by omega,by omega⟩ (by omega),H.forget (by repeat (first|exact au _|refine .cons _ ?_)) (fun f hf=>by simp only[av,bu,or_false]at hf⊢;grind)⟩,OU rfl rfl rfl,by repeat (first|exact y9.refl _ _|exact iE|refine ie rfl ?_|refine fV _ rfl ?_|refine oQ rfl ?_),by show lost.length- (k+1)<lost.length-k;omega⟩
  ·
   refine l1 (GW rfl rfl) rfl rfl rfl ?_
   refine bL ?_
   refine eS rfl ?_
   refine p5 ?_
   refine bD ?_
   refine bD ?_
   refine ba ?_
   refine l1 (eM rfl) rfl rfl rfl ?_
   refine bL ?_
   refine g8 ?_
   have hGl:=hG.len
   rw[show([bI 0,cY (iO 0)]++G)=([bI 0,cY (iO 0)]++G)++i8 nr 0 from(aW _).symm]at H⊢
   refine bW (τ:=Nat×Option Addr×Nat×Nat×Nat) [8,12,75,76,77,78,79,80,81,82,83,84,85,86,87,88,89,90] (fun(t,A2,c2,lo2,hi2)=>[(8,.slice A2 (([bI 0,cY (iO 0)]++G)++i8 nr t).length c2),(75,.int .i64 (t:Nat))]) (fun(t,A2,c2,lo2,hi2) w'=>t<=22/\Hp w w' [(b7,.cells #[.int .i64 (((np:Nat):Int)),.int .i64 (((nr:Nat):Int)),.int .i64 (1),.int .i64 (wt)] lB (0,0))] (d4 qz lo2 hi2 A2 (([bI 0,cY (iO 0)]++G)++i8 nr t)::[d4 bN 0 w.heap.size A lost])) (fun(t,_)=>22-t) (0,A2,c2,lo2,hi2) ⟨by omega,H⟩ (lE rfl rfl) ?_
   rintro⟨t,A2,c2,lo2,hi2⟩ ρ1 w20 ⟨ht22,H⟩
   show CW _ _ _ _ (dH (gT _ _ ρ1) [(8,.slice A2 (([bI 0,cY (iO 0)]++G)++i8 nr t).length c2),(75,.int .i64 (t:Nat))]) w20
   refine bD ?_
   refine ba ?_
   refine dq (cL rfl rfl) rfl rfl rfl (fun h76=> ?_) (fun h76=> ?_)
   ·
    refine bL ?_
    refine bD ?_
    refine gL rfl ?_
    refine jl ?_
    refine bD ?_
    refine g8 ?_
    refine bD ?_
    refine ba ?_
    refine l1 (FY wl rfl) rfl rfl rfl ?_
    refine l1 (bf al rfl (aJ (H.ent (i:=0) rfl) rfl)) rfl rfl rfl ?_
    refine l1 (eM rfl) rfl rfl rfl ?_
    refine bL ?_
    refine g8 ?_
    rw[show([bI 0,cY (iO 0)]++G)++i8 nr t=([bI 0,cY (iO 0)]++G)++i8 nr t++ki 0 from(aW _).symm]at H⊢
    refine bW (τ:=Nat×Option Addr×Nat×Nat×Nat) [8,12,79,80,81,82,83,84,85,86,87,88,89] (fun(r,A2,c2,lo2,hi2)=>[(8,.slice A2 (([bI 0,cY (iO 0)]++G)++i8 nr t++ki r).length c2),(79,.int .i64 (r:Nat))]) (fun(r,A2,c2,lo2,hi2) w'=>r<=nr/\Hp w w' [(b7,.cells #[.int .i64 (((np:Nat):Int)),.int .i64 (((nr:Nat):Int)),.int .i64 (1),.int .i64 (wt)] lB (0,0))] (d4 qz lo2 hi2 A2 (([bI 0,cY (iO 0)]++G)++i8 nr t++ki r)::[d4 bN 0 w.heap.size A lost])) (fun(r,_)=>nr-r) (0,A2,c2,lo2,hi2) ⟨by omega,H⟩ (lE rfl rfl) ?_
    rintro⟨r,A2,c2,lo2,hi2⟩ ρ1 w21 ⟨hrn,H⟩
    show CW _ _ _ _ (dH (gT _ _ ρ1) [(8,.slice A2 (([bI 0,cY (iO 0)]++G)++i8 nr t++ki r).length c2),(79,.int .i64 (r:Nat))]) w21
    refine bD ?_
    refine ba ?_
    refine dq (cL rfl rfl) rfl rfl rfl (fun h80=> ?_) (fun h80=> ?_)
    ·
     refine bL ?_
     refine bD ?_
     refine gL rfl ?_
     refine jl ?_
     refine bD ?_
     refine g8 ?_
     refine bD ?_
     refine ba ?_
     refine l1 (eM rfl) rfl rfl rfl ?_
     refine l1 (pz rfl) rfl rfl rfl ?_
     refine bL ?_
     refine ba ?_
     refine l1 (qf rfl) rfl rfl rfl ?_
     refine l1 (eM rfl) rfl rfl rfl ?_
     refine l1 (bE (cs:= #[.int .i64 (9),.string (⟨#[]⟩),.int .i64 (0),.int .i64 (((r:Nat):Int)),.int .i64 (0),.string (⟨#[]⟩),.int .i64 (0)]) sN pp (by kernel_rfl)) rfl rfl rfl ?_
     refine l1 (eM rfl) rfl rfl rfl ?_
     refine l1 (bE (cs:= #[.int .i64 (8),.string (⟨#[]⟩),.int .i64 (0),.int .i64 (((r:Nat):Int)),.int .i64 (0),.string (⟨#[]⟩),.int .i64 (0)]) sN pp (by kernel_rfl)) rfl rfl rfl ?_
     refine uA (vs:=[.agg (Act.c (nf r)).toArray,.agg (Act.c (jW r)).toArray]) H qS pp rfl rfl rfl rfl rfl rfl ?_;intro w22 b87 H
     replace H:=H.freeze (va [nf r,jW r] (by simp))
     refine cz g9 (wG (l:=(([bI 0,cY (iO 0)]++G)++i8 nr t++ki r)) (m:=[nf r,jW r]) _ (H.rd0 1 rfl) (H.rd0 0 rfl) (by rw[ax,ax,ua,yg,ax];simp only[bv,ft];have:t*(2*nr)<=22*10:=tG (by omega) (by omega);omega) (by simp)) rfl rfl ?_
     rintro _ w23 ⟨Aw,cw,Lw,rfl,how,hjw⟩;replace H:=H.learnOwn hjw how
     rw[show(([bI 0,cY (iO 0)]++G)++i8 nr t++ki r)++[nf r,jW r]=(([bI 0,cY (iO 0)]++G)++i8 nr t++ki (r+1))from by rw[aB,<-s0]]at H⊢
     refine l1 (vI rfl) rfl rfl rfl ?_
     refine bL ?_
     refine ba ?_
     refine l1 (bn rfl rfl (by omega) (by omega)) rfl rfl rfl ?_
     refine l1 (eM rfl) rfl rfl rfl ?_
     refine bL ?_
     exact⟨(r+1,Aw,cw,w22.heap.size,w23.heap.size),⟨by omega,H.forget (by repeat (first|exact au _|refine .cons _ ?_)) (fun f hf=>by simp only[av,bu,or_false]at hf⊢;grind)⟩,lE rfl rfl,by repeat (first|exact y9.refl _ _|exact iE|refine ie rfl ?_|refine fV _ rfl ?_|refine oQ rfl ?_),by show nr- (r+1)<nr-r;omega⟩
    ·
     refine bL ?_
     refine bD ?_
     refine eS rfl ?_
     refine p5 ?_
     refine ba ?_
     refine l1 (bn rfl rfl (by omega) (by omega)) rfl rfl rfl ?_
     refine l1 (eM rfl) rfl rfl rfl ?_
     refine bL ?_
     have hrn:nr=r:=by omega
     subst hrn
     rw[show([bI 0,cY (iO 0)]++G)++i8 nr t++ki nr=([bI 0,cY (iO 0)]++G)++i8 nr (t+1)from by rw[aB];rfl]at H⊢
     exact⟨(t+1,A2,c2,lo2,hi2),⟨by omega,H.forget (by repeat (first|exact au _|refine .cons _ ?_)) (fun f hf=>by simp only[av,bu,or_false]at hf⊢;grind)⟩,lE rfl rfl,by repeat (first|exact y9.refl _ _|exact iE|refine ie rfl ?_|refine fV _ rfl ?_|refine oQ rfl ?_),by show 22- (t+1)<22-t;omega⟩
   ·
    refine bL ?_
    refine bD ?_
    refine eS rfl ?_
    refine p5 ?_
    refine bD ?_
    have ht2:t=22:=by omega
    refine ba ?_
    refine l1 (js sy rfl (H.ent (i:=0) rfl) rfl) rfl rfl rfl ?_
    refine l1 (qf rfl) rfl rfl rfl ?_
    refine cz qv (Ia (np:=np) (nr:=nr) (few:=1) (wt:=wt) (acts:=(([bI 0,cY (iO 0)]++G)++i8 nr t)) _ q1 q4 n1 n5 (by omega) (by omega) t1 t2 (H.rd0 0 rfl) (by have h440:t*(2*nr)<=22*10:=tG (by omega) (by omega);rw[ax,ua];simp only[ax,bv,ft];omega) (DQ q1 n1 n5 hG)) rfl rfl ?_
    rintro _ w24 ⟨xs,oA,oC,⟨ps,pA,pC,co,clo,chi,gr,glo,ghi,sns,snA,snC⟩,rfl,hrun,hrd,hrb⟩;replace H:=H.learn hrb (PF w20.heap.size w24.heap.size ⟨xs,oA,oC,⟨ps,pA,pC,co,clo,chi,gr,glo,ghi,sns,snA,snC⟩⟩) hrd (ao _) (ao _);clear hrd hrb
    refine l1 (Is rfl) rfl rfl rfl ?_
    refine l1 (IG rfl rfl) rfl rfl rfl ?_
    refine l1 (OF rfl rfl) rfl rfl rfl ?_
    refine l1 (OE rfl rfl) rfl rfl rfl ?_
    refine fg H pM rfl ?_;intro w25 b14 H
    refine l1 (vI rfl) rfl rfl rfl ?_
    refine bC H 0 (#[.slice pA ps.length pC,.int .i64 (co.clock),.int .i64 (co.next),.int .i64 (co.wait),.slice co.A co.txs.length co.cap,.int .i64 (gr.clock),.int .i64 (gr.wait),.int .i64 (gr.gen),.slice gr.mA gr.ms.length gr.mC,.slice gr.oA gr.os.length gr.oC,.slice snA sns.length snC]) lR rfl rfl rfl rfl rfl (by kernel_rfl) (by kernel_rfl) ?_;intro w26 H
    refine l1 (Gj rfl) rfl rfl rfl ?_
    refine bL ?_
    refine bD ?_
    refine bD ?_
    refine ba ?_
    refine l1 (Af rfl) rfl rfl rfl ?_
    refine l1 (d7 rfl) rfl rfl rfl ?_
    refine bL ?_
    refine eS rfl ?_
    refine jl ?_
    refine bD ?_
    obtain⟨ep,Nn,q,y,hq,hql,hqy,hye,hyh,hqok⟩:=Fh (b:=⟨ps,pA,pC,co,clo,chi,gr,glo,ghi,sns,snA,snC⟩) q1 q4 n1 n5 t1 t2 hG hk18 (by rw[ht2]at hrun;exact hrun)
    have hqm:=ab hq
    have hpl0:=(cu hq).1
    replace H:=Hp.rnPs H 0 rfl
    refine ba ?_
    refine l1 (FY dx rfl) rfl rfl rfl ?_
    refine l1 (bf dZ rfl (aJ (H.ent (i:=0) rfl) rfl)) rfl rfl rfl ?_
    refine px (k:=0) H 0 rfl gx rfl rfl (by omega) (by omega) rfl ?_;intro bq27 o27 x27 e27
    obtain rfl:q=x27:=by have:=e27.at_;rw[hq]at this;exact aT this
    refine l1 (jL (xs:=[.int .i64 (q.p.epoch),.int .i64 (q.p.leader),.slice q.p.iA q.p.isr.length q.p.iC,.slice q.p.kA q.p.known.length q.p.kC,.slice q.p.rA q.p.reps.length q.p.rC,.int .i64 (q.p.few),.int .i64 (q.p.base)]) bk rfl rfl (Bp e27.cl 0 rfl)) rfl rfl rfl ?_
    refine cz mT (Ab q.p 0 20 0 y _ ((Hp.rn0 H 1 rfl).pa q hqm) hqok hql hqy (bx _) (by decide) (by decide)) rfl rfl ?_
    rintro _ w28 ⟨st9,out,b9,A9,c9,hs9,hr9,rfl,hrd9,hc9,hb9⟩;have hlo9:=H.size;replace H:=H.learnRd hb9 hrd9
    obtain⟨-,hout⟩:=Fi (y:=y.a) hye hyh (bx _) hs9 hr9
    rw[ji,dS (by rw[bl,lw];omega)]at hout
    have hol:out.length=k:=by rw[hout];simp
    refine l1 (Is rfl) rfl rfl rfl ?_
    refine l1 (IG rfl rfl) rfl rfl rfl ?_
    refine l1 (IH rfl rfl) rfl rfl rfl ?_
    refine l1 (IH rfl rfl) rfl rfl rfl ?_
    refine l1 (vI rfl) rfl rfl rfl ?_
    refine l1 (pz rfl) rfl rfl rfl ?_
    refine l1 (pz rfl) rfl rfl rfl ?_
    refine bL ?_
    refine bD ?_
    refine bD ?_
    refine ba ?_
    refine l1 (eM rfl) rfl rfl rfl ?_
    refine l1 (ch rfl rfl rfl) rfl rfl rfl ?_
    refine l1 (Af rfl) rfl rfl rfl ?_
    refine qg rfl ?_
    refine l1 (qf rfl) rfl rfl rfl ?_
    refine qg rfl ?_
    refine l1 (bj iX rfl) rfl rfl rfl ?_
    refine qg rfl ?_
    refine l1 (eM rfl) rfl rfl rfl ?_
    refine qg rfl ?_
    refine l1 (ch rfl rfl (by omega)) rfl rfl rfl ?_
    refine l1 (GX rfl rfl) rfl rfl rfl ?_
    refine bL ?_
    refine eS rfl ?_
    refine jl ?_
    refine bD ?_
    refine bD ?_
    refine ba ?_
    refine l1 (qf rfl) rfl rfl rfl ?_
    refine l1 (bj iX rfl) rfl rfl rfl ?_
    refine l1 (eM rfl) rfl rfl rfl ?_
    refine bL ?_
    refine g8 ?_
    refine bW (τ:=Nat) [6,19,20,119,120,121,122,123,124,125,126,127,128] (fun i=>[(119,.int .i64 (i:Nat))]) (fun i w'=>i<=out.length/\Hp w w' [(b14,.cells #[.slice pA ps.length pC,.int .i64 (co.clock),.int .i64 (co.next),.int .i64 (co.wait),.slice co.A co.txs.length co.cap,.int .i64 (gr.clock),.int .i64 (gr.wait),.int .i64 (gr.gen),.slice gr.mA gr.ms.length gr.mC,.slice gr.oA gr.os.length gr.oC,.slice snA sns.length snC] n9 (0,0)),(b7,.cells #[.int .i64 (((np:Nat):Int)),.int .i64 (((nr:Nat):Int)),.int .i64 (1),.int .i64 (wt)] lB (0,0))] ([d4 my w26.heap.size w28.heap.size A9 out,d4 CV w20.heap.size w24.heap.size pA ps,PF w20.heap.size w24.heap.size ⟨xs,oA,oC,⟨ps,pA,pC,co,clo,chi,gr,glo,ghi,sns,snA,snC⟩⟩,d4 qz lo2 hi2 A2 (([bI 0,cY (iO 0)]++G)++i8 nr t),d4 bN 0 w.heap.size A lost])) (fun i=>out.length-i) 0 ⟨bx _,H⟩ (dO rfl) ?_
    rintro i ρ1 w29 ⟨hii,H⟩
    show CW _ _ _ _ (dH (gT _ _ ρ1) [(119,.int .i64 (i:Nat))]) w29
    refine bD ?_
    refine ba ?_
    refine dq (cL rfl rfl) rfl rfl rfl (fun h120=> ?_) (fun h120=> ?_)
    ·
     refine bL ?_
     refine bD ?_
     refine gL rfl ?_
     refine jl ?_
     refine bD ?_
     refine g8 ?_
     refine bD ?_
     obtain⟨tx,htx⟩: ∃ tx,out[i]? =some tx:=⟨_,ai (by omega)⟩
     have htx2:tx=gZ i:=by rw[hout,aH,m3 (by omega)]at htx;exact(aT htx).symm
     refine ba ?_
     refine l1 (eM rfl) rfl rfl rfl ?_
     refine px H 0 rfl jw rfl rfl (by omega) (by omega) rfl ?_;intro bq30 o30 x30 e30
     obtain rfl:tx=x30:=by have:=e30.at_;rw[htx]at this;exact aT this
     refine l1 (bf aZ rfl (e30.cl 0 _ rfl)) rfl rfl rfl ?_
     refine l1 (pz rfl) rfl rfl rfl ?_
     refine l1 (uC rfl) rfl rfl rfl ?_
     refine bL ?_
     refine bD ?_
     refine ba ?_
     refine l1 (Ox rfl) rfl rfl rfl ?_
     refine l1 (eM rfl) rfl rfl rfl ?_
     refine cz ph (D1 i _ (by omega)) rfl rfl ?_
     rintro _ w31 ⟨rfl,hb⟩;replace H:=H.later hb;clear hb
     refine l1 (DH rfl rfl (by rw[htx2])) rfl rfl rfl ?_
     refine bL ?_
     refine eS rfl ?_
     refine jl ?_
     refine ba ?_
     refine l1 (bn rfl rfl (by omega) (by omega)) rfl rfl rfl ?_
     refine l1 (eM rfl) rfl rfl rfl ?_
     refine bL ?_
     exact⟨i+1,⟨by omega,H⟩,dO rfl,by repeat (first|exact y9.refl _ _|exact iE|refine ie rfl ?_|refine fV _ rfl ?_|refine oQ rfl ?_),by show out.length- (i+1)<out.length-i;omega⟩
    ·
     refine bL ?_
     refine bD ?_
     refine eS rfl ?_
     refine p5 ?_
     refine bD ?_
     refine ba ?_
     refine l1 (Gj rfl) rfl rfl rfl ?_
     refine bL ?_
     refine ur ?_
     exact cn rfl rfl ⟨rfl,H.below⟩
 ·
  refine l1 (Af rfl) rfl rfl rfl ?_
  refine rt rfl rfl rfl ?_
  refine rt rfl rfl rfl ?_
  refine l1 (GX rfl rfl) rfl rfl rfl ?_
  refine bL ?_
  refine eS rfl ?_
  refine p5 ?_
  refine bD ?_
  refine bD ?_
  refine ba ?_
  refine l1 (eM rfl) rfl rfl rfl ?_
  refine bL ?_
  refine g8 ?_
  have hGl:=hG.len
  rw[show([bI 0,cY (iO 0)]++G)=([bI 0,cY (iO 0)]++G)++i8 nr 0 from(aW _).symm]at H⊢
  refine bW (τ:=Nat×Option Addr×Nat×Nat×Nat) [8,12,75,76,77,78,79,80,81,82,83,84,85,86,87,88,89,90] (fun(t,A2,c2,lo2,hi2)=>[(8,.slice A2 (([bI 0,cY (iO 0)]++G)++i8 nr t).length c2),(75,.int .i64 (t:Nat))]) (fun(t,A2,c2,lo2,hi2) w'=>t<=22/\Hp w w' [(b7,.cells #[.int .i64 (((np:Nat):Int)),.int .i64 (((nr:Nat):Int)),.int .i64 (1),.int .i64 (wt)] lB (0,0))] (d4 qz lo2 hi2 A2 (([bI 0,cY (iO 0)]++G)++i8 nr t)::[d4 bN 0 w.heap.size A lost])) (fun(t,_)=>22-t) (0,A2,c2,lo2,hi2) ⟨by omega,H⟩ (lE rfl rfl) ?_
  rintro⟨t,A2,c2,lo2,hi2⟩ ρ1 w32 ⟨ht22,H⟩
  show CW _ _ _ _ (dH (gT _ _ ρ1) [(8,.slice A2 (([bI 0,cY (iO 0)]++G)++i8 nr t).length c2),(75,.int .i64 (t:Nat))]) w32
  refine bD ?_
  refine ba ?_
  refine dq (cL rfl rfl) rfl rfl rfl (fun h76=> ?_) (fun h76=> ?_)
  ·
   refine bL ?_
   refine bD ?_
   refine gL rfl ?_
   refine jl ?_
   refine bD ?_
   refine g8 ?_
   refine bD ?_
   refine ba ?_
   refine l1 (FY wl rfl) rfl rfl rfl ?_
   refine l1 (bf al rfl (aJ (H.ent (i:=0) rfl) rfl)) rfl rfl rfl ?_
   refine l1 (eM rfl) rfl rfl rfl ?_
   refine bL ?_
   refine g8 ?_
   rw[show([bI 0,cY (iO 0)]++G)++i8 nr t=([bI 0,cY (iO 0)]++G)++i8 nr t++ki 0 from(aW _).symm]at H⊢
   refine bW (τ:=Nat×Option Addr×Nat×Nat×Nat) [8,12,79,80,81,82,83,84,85,86,87,88,89] (fun(r,A2,c2,lo2,hi2)=>[(8,.slice A2 (([bI 0,cY (iO 0)]++G)++i8 nr t++ki r).length c2),(79,.int .i64 (r:Nat))]) (fun(r,A2,c2,lo2,hi2) w'=>r<=nr/\Hp w w' [(b7,.cells #[.int .i64 (((np:Nat):Int)),.int .i64 (((nr:Nat):Int)),.int .i64 (1),.int .i64 (wt)] lB (0,0))] (d4 qz lo2 hi2 A2 (([bI 0,cY (iO 0)]++G)++i8 nr t++ki r)::[d4 bN 0 w.heap.size A lost])) (fun(r,_)=>nr-r) (0,A2,c2,lo2,hi2) ⟨by omega,H⟩ (lE rfl rfl) ?_
   rintro⟨r,A2,c2,lo2,hi2⟩ ρ1 w33 ⟨hrn,H⟩
   show CW _ _ _ _ (dH (gT _ _ ρ1) [(8,.slice A2 (([bI 0,cY (iO 0)]++G)++i8 nr t++ki r).length c2),(79,.int .i64 (r:Nat))]) w33
   refine bD ?_
   refine ba ?_
   refine dq (cL rfl rfl) rfl rfl rfl (fun h80=> ?_) (fun h80=> ?_)
   ·
    refine bL ?_
    refine bD ?_
    refine gL rfl ?_
    refine jl ?_
    refine bD ?_
    refine g8 ?_
    refine bD ?_
    refine ba ?_
    refine l1 (eM rfl) rfl rfl rfl ?_
    refine l1 (pz rfl) rfl rfl rfl ?_
    refine bL ?_
    refine ba ?_
    refine l1 (qf rfl) rfl rfl rfl ?_
    refine l1 (eM rfl) rfl rfl rfl ?_
    refine l1 (bE (cs:= #[.int .i64 (9),.string (⟨#[]⟩),.int .i64 (0),.int .i64 (((r:Nat):Int)),.int .i64 (0),.string (⟨#[]⟩),.int .i64 (0)]) sN pp (by kernel_rfl)) rfl rfl rfl ?_
    refine l1 (eM rfl) rfl rfl rfl ?_
    refine l1 (bE (cs:= #[.int .i64 (8),.string (⟨#[]⟩),.int .i64 (0),.int .i64 (((r:Nat):Int)),.int .i64 (0),.string (⟨#[]⟩),.int .i64 (0)]) sN pp (by kernel_rfl)) rfl rfl rfl ?_
    refine uA (vs:=[.agg (Act.c (nf r)).toArray,.agg (Act.c (jW r)).toArray]) H qS pp rfl rfl rfl rfl rfl rfl ?_;intro w34 b87 H
    replace H:=H.freeze (va [nf r,jW r] (by simp))
    refine cz g9 (wG (l:=(([bI 0,cY (iO 0)]++G)++i8 nr t++ki r)) (m:=[nf r,jW r]) _ (H.rd0 1 rfl) (H.rd0 0 rfl) (by rw[ax,ax,ua,yg,ax];simp only[bv,ft];have:t*(2*nr)<=22*10:=tG (by omega) (by omega);omega) (by simp)) rfl rfl ?_
    rintro _ w35 ⟨Aw,cw,Lw,rfl,how,hjw⟩;replace H:=H.learnOwn hjw how
    rw[show(([bI 0,cY (iO 0)]++G)++i8 nr t++ki r)++[nf r,jW r]=(([bI 0,cY (iO 0)]++G)++i8 nr t++ki (r+1))from by rw[aB,<-s0]]at H⊢
    refine l1 (vI rfl) rfl rfl rfl ?_
    refine bL ?_
    refine ba ?_
    refine l1 (bn rfl rfl (by omega) (by omega)) rfl rfl rfl ?_
    refine l1 (eM rfl) rfl rfl rfl ?_
    refine bL ?_
    exact⟨(r+1,Aw,cw,w34.heap.size,w35.heap.size),⟨by omega,H.forget (by repeat (first|exact au _|refine .cons _ ?_)) (fun f hf=>by simp only[av,bu,or_false]at hf⊢;grind)⟩,lE rfl rfl,by repeat (first|exact y9.refl _ _|exact iE|refine ie rfl ?_|refine fV _ rfl ?_|refine oQ rfl ?_),by show nr- (r+1)<nr-r;omega⟩
   ·
    refine bL ?_
    refine bD ?_
    refine eS rfl ?_
    refine p5 ?_
    refine ba ?_
    refine l1 (bn rfl rfl (by omega) (by omega)) rfl rfl rfl ?_
    refine l1 (eM rfl) rfl rfl rfl ?_
    refine bL ?_
    have hrn:nr=r:=by omega
    subst hrn
    rw[show([bI 0,cY (iO 0)]++G)++i8 nr t++ki nr=([bI 0,cY (iO 0)]++G)++i8 nr (t+1)from by rw[aB];rfl]at H⊢
    exact⟨(t+1,A2,c2,lo2,hi2),⟨by omega,H.forget (by repeat (first|exact au _|refine .cons _ ?_)) (fun f hf=>by simp only[av,bu,or_false]at hf⊢;grind)⟩,lE rfl rfl,by repeat (first|exact y9.refl _ _|exact iE|refine ie rfl ?_|refine fV _ rfl ?_|refine oQ rfl ?_),by show 22- (t+1)<22-t;omega⟩
  ·
   refine bL ?_
   refine bD ?_
   refine eS rfl ?_
   refine p5 ?_
   refine bD ?_
   have ht2:t=22:=by omega
   refine ba ?_
   refine l1 (js sy rfl (H.ent (i:=0) rfl) rfl) rfl rfl rfl ?_
   refine l1 (qf rfl) rfl rfl rfl ?_
   refine cz qv (Ia (np:=np) (nr:=nr) (few:=1) (wt:=wt) (acts:=(([bI 0,cY (iO 0)]++G)++i8 nr t)) _ q1 q4 n1 n5 (by omega) (by omega) t1 t2 (H.rd0 0 rfl) (by have h440:t*(2*nr)<=22*10:=tG (by omega) (by omega);rw[ax,ua];simp only[ax,bv,ft];omega) (DQ q1 n1 n5 hG)) rfl rfl ?_
   rintro _ w36 ⟨xs,oA,oC,⟨ps,pA,pC,co,clo,chi,gr,glo,ghi,sns,snA,snC⟩,rfl,hrun,hrd,hrb⟩;replace H:=H.learn hrb (PF w32.heap.size w36.heap.size ⟨xs,oA,oC,⟨ps,pA,pC,co,clo,chi,gr,glo,ghi,sns,snA,snC⟩⟩) hrd (ao _) (ao _);clear hrd hrb
   refine l1 (Is rfl) rfl rfl rfl ?_
   refine l1 (IG rfl rfl) rfl rfl rfl ?_
   refine l1 (OF rfl rfl) rfl rfl rfl ?_
   refine l1 (OE rfl rfl) rfl rfl rfl ?_
   refine fg H pM rfl ?_;intro w37 b14 H
   refine l1 (vI rfl) rfl rfl rfl ?_
   refine bC H 0 (#[.slice pA ps.length pC,.int .i64 (co.clock),.int .i64 (co.next),.int .i64 (co.wait),.slice co.A co.txs.length co.cap,.int .i64 (gr.clock),.int .i64 (gr.wait),.int .i64 (gr.gen),.slice gr.mA gr.ms.length gr.mC,.slice gr.oA gr.os.length gr.oC,.slice snA sns.length snC]) lR rfl rfl rfl rfl rfl (by kernel_rfl) (by kernel_rfl) ?_;intro w38 H
   refine l1 (Gj rfl) rfl rfl rfl ?_
   refine bL ?_
   refine bD ?_
   refine bD ?_
   refine ba ?_
   refine l1 (Af rfl) rfl rfl rfl ?_
   refine l1 (d7 rfl) rfl rfl rfl ?_
   refine bL ?_
   refine eS rfl ?_
   refine jl ?_
   refine bD ?_
   obtain⟨ep,Nn,q,y,hq,hql,hqy,hye,hyh,hqok⟩:=Fh (b:=⟨ps,pA,pC,co,clo,chi,gr,glo,ghi,sns,snA,snC⟩) q1 q4 n1 n5 t1 t2 hG hk18 (by rw[ht2]at hrun;exact hrun)
   have hqm:=ab hq
   have hpl0:=(cu hq).1
   replace H:=Hp.rnPs H 0 rfl
   refine ba ?_
   refine l1 (FY dx rfl) rfl rfl rfl ?_
   refine l1 (bf dZ rfl (aJ (H.ent (i:=0) rfl) rfl)) rfl rfl rfl ?_
   refine px (k:=0) H 0 rfl gx rfl rfl (by omega) (by omega) rfl ?_;intro bq39 o39 x39 e39
   obtain rfl:q=x39:=by have:=e39.at_;rw[hq]at this;exact aT this
   refine l1 (jL (xs:=[.int .i64 (q.p.epoch),.int .i64 (q.p.leader),.slice q.p.iA q.p.isr.length q.p.iC,.slice q.p.kA q.p.known.length q.p.kC,.slice q.p.rA q.p.reps.length q.p.rC,.int .i64 (q.p.few),.int .i64 (q.p.base)]) bk rfl rfl (Bp e39.cl 0 rfl)) rfl rfl rfl ?_
   refine cz mT (Ab q.p 0 20 0 y _ ((Hp.rn0 H 1 rfl).pa q hqm) hqok hql hqy (bx _) (by decide) (by decide)) rfl rfl ?_
   rintro _ w40 ⟨st9,out,b9,A9,c9,hs9,hr9,rfl,hrd9,hc9,hb9⟩;have hlo9:=H.size;replace H:=H.learnRd hb9 hrd9
   obtain⟨-,hout⟩:=Fi (y:=y.a) hye hyh (bx _) hs9 hr9
   rw[ji,dS (by rw[bl,lw];omega)]at hout
   have hol:out.length=k:=by rw[hout];simp
   refine l1 (Is rfl) rfl rfl rfl ?_
   refine l1 (IG rfl rfl) rfl rfl rfl ?_
   refine l1 (IH rfl rfl) rfl rfl rfl ?_
   refine l1 (IH rfl rfl) rfl rfl rfl ?_
   refine l1 (vI rfl) rfl rfl rfl ?_
   refine l1 (pz rfl) rfl rfl rfl ?_
   refine l1 (pz rfl) rfl rfl rfl ?_
   refine bL ?_
   refine bD ?_
   refine bD ?_
   refine ba ?_
   refine l1 (eM rfl) rfl rfl rfl ?_
   refine l1 (ch rfl rfl rfl) rfl rfl rfl ?_
   refine l1 (Af rfl) rfl rfl rfl ?_
   refine qg rfl ?_
   refine l1 (qf rfl) rfl rfl rfl ?_
   refine qg rfl ?_
   refine l1 (bj iX rfl) rfl rfl rfl ?_
   refine qg rfl ?_
   refine l1 (eM rfl) rfl rfl rfl ?_
   refine qg rfl ?_
   refine l1 (ch rfl rfl (by omega)) rfl rfl rfl ?_
   refine l1 (GX rfl rfl) rfl rfl rfl ?_
   refine bL ?_
   refine eS rfl ?_
   refine jl ?_
   refine bD ?_
   refine bD ?_
   refine ba ?_
   refine l1 (qf rfl) rfl rfl rfl ?_
   refine l1 (bj iX rfl) rfl rfl rfl ?_
   refine l1 (eM rfl) rfl rfl rfl ?_
   refine bL ?_
   refine g8 ?_
   refine bW (τ:=Nat) [6,19,20,119,120,121,122,123,124,125,126,127,128] (fun i=>[(119,.int .i64 (i:Nat))]) (fun i w'=>i<=out.length/\Hp w w' [(b14,.cells #[.slice pA ps.length pC,.int .i64 (co.clock),.int .i64 (co.next),.int .i64 (co.wait),.slice co.A co.txs.length co.cap,.int .i64 (gr.clock),.int .i64 (gr.wait),.int .i64 (gr.gen),.slice gr.mA gr.ms.length gr.mC,.slice gr.oA gr.os.length gr.oC,.slice snA sns.length snC] n9 (0,0)),(b7,.cells #[.int .i64 (((np:Nat):Int)),.int .i64 (((nr:Nat):Int)),.int .i64 (1),.int .i64 (wt)] lB (0,0))] ([d4 my w38.heap.size w40.heap.size A9 out,d4 CV w32.heap.size w36.heap.size pA ps,PF w32.heap.size w36.heap.size ⟨xs,oA,oC,⟨ps,pA,pC,co,clo,chi,gr,glo,ghi,sns,snA,snC⟩⟩,d4 qz lo2 hi2 A2 (([bI 0,cY (iO 0)]++G)++i8 nr t),d4 bN 0 w.heap.size A lost])) (fun i=>out.length-i) 0 ⟨bx _,H⟩ (dO rfl) ?_
   rintro i ρ1 w41 ⟨hii,H⟩
   show CW _ _ _ _ (dH (gT _ _ ρ1) [(119,.int .i64 (i:Nat))]) w41
   refine bD ?_
   refine ba ?_
   refine dq (cL rfl rfl) rfl rfl rfl (fun h120=> ?_) (fun h120=> ?_)
   ·
    refine bL ?_
    refine bD ?_
    refine gL rfl ?_
    refine jl ?_
    refine bD ?_
    refine g8 ?_
    refine bD ?_
    obtain⟨tx,htx⟩: ∃ tx,out[i]? =some tx:=⟨_,ai (by omega)⟩
    have htx2:tx=gZ i:=by rw[hout,aH,m3 (by omega)]at htx;exact(aT htx).symm
    refine ba ?_
    refine l1 (eM rfl) rfl rfl rfl ?_
    refine px H 0 rfl jw rfl rfl (by omega) (by omega) rfl ?_;intro bq42 o42 x42 e42
    obtain rfl:tx=x42:=by have:=e42.at_;rw[htx]at this;exact aT this
    refine l1 (bf aZ rfl (e42.cl 0 _ rfl)) rfl rfl rfl ?_
    refine l1 (pz rfl) rfl rfl rfl ?_
    refine l1 (uC rfl) rfl rfl rfl ?_
    refine bL ?_
    refine bD ?_
    refine ba ?_
    refine l1 (Ox rfl) rfl rfl rfl ?_
    refine l1 (eM rfl) rfl rfl rfl ?_
    refine cz ph (D1 i _ (by omega)) rfl rfl ?_
    rintro _ w43 ⟨rfl,hb⟩;replace H:=H.later hb;clear hb
    refine l1 (DH rfl rfl (by rw[htx2])) rfl rfl rfl ?_
    refine bL ?_
    refine eS rfl ?_
    refine jl ?_
    refine ba ?_
    refine l1 (bn rfl rfl (by omega) (by omega)) rfl rfl rfl ?_
    refine l1 (eM rfl) rfl rfl rfl ?_
    refine bL ?_
    exact⟨i+1,⟨by omega,H⟩,dO rfl,by repeat (first|exact y9.refl _ _|exact iE|refine ie rfl ?_|refine fV _ rfl ?_|refine oQ rfl ?_),by show out.length- (i+1)<out.length-i;omega⟩
   ·
    refine bL ?_
    refine bD ?_
    refine eS rfl ?_
    refine p5 ?_
    refine bD ?_
    refine ba ?_
    refine l1 (Gj rfl) rfl rfl rfl ?_
    refine bL ?_
    refine ur ?_
    exact cn rfl rfl ⟨rfl,H.below⟩
end Go.Proofs.YtclibalpdhhhfaaGreatDoor
