/- Part 4 of the proofs over this seat: what its theorems say holds for every input that they name. -/
import Derived.Test.YtclibalpdhhhfaaGreatFF3
namespace Go.Proofs.YtclibalpdhhhfaaGreat
open Go Go.Eng Go.RowKit
open Go.Eng renaming nG→U, BH→W, KA→Zr, OL→Zk, Rh→Zt, QD→Zb, QW→Zx, Rr→Yi, Rs→Yb, Rp→Ys, Rq→Yp, Ro→Yt, Rm→Yu, RH→Wi, RI→Wb, RF→Ws, RG→Wp, RE→Wt, Rv→Zf, Ry→Xi, RC→Xa, Rx→Xs, Q3→Kt, Q4→N, pV→ZT, oQ→ZF
open Go.Proofs.Tryz renaming prog→aa
open _root_.List renaming mem_of_getElem?→ab,length_set→ae,getElem?_eq_getElem→ah,mem_cons_of_mem→aj,getElem?_set_self→al,mem_append→ap,mem_singleton→aq,replicate→au,mem_cons→ax,length_append→ay,mem_cons_self→az,append_assoc→aD,length_take→aI,getElem?_map→aL,mem_or_eq_of_mem_set→aM,findIdx?_eq_some_iff_getElem→aS,mem_iff_getElem?→aT,append_nil→aZ,map_append→bl,mem_map→bp,length_replicate→bI,length_map→bJ,take_length→bN,length_singleton→bO,getElem?_set_ne→bQ,mem_map_of_mem→bS,eq_nil_of_length_eq_zero→bT,mem_nil_iff→bU,length_cons→bV,getElem?_append_right→bX,getD_eq_getElem?_getD→bY,sublist_append_right→cr,map_set→cE,getElem?_eq_none→cL,findIdx?_eq_none_iff→cV,eq_of_mem_replicate→dg,getElem?_drop→dx,pairwise_cons→dY,mem_singleton_self→d5,ext_getElem?→en,map_cons→ey,set_set→fy,prefix_refl→fz,drop_length→fA,getElem?_replicate→f5,perm_append_comm_assoc→gb,pairwise_map→gm,set_append_right→jk,take_subset→j9,mem_filter→kZ,getElem?_set→lD,pairwise_append→mj,map_nil→mB,pairwise_iff_getElem→m8,drop_eq_getElem_cons→m9,map_map→sw,any_eq_false→uD,getElem_mem→vU,set_cons_zero→B3,findIdx?_map→DK
open _root_.List.Perm renaming cons→ai,swap→am
open _root_.Nat renaming le_refl→ao,le_trans→aU,min_eq_left→bu,le_succ→bC,zero_le→bG,add_assoc→lg,sub_self→my,le_of_lt→mz,add_comm→sv
open _root_.List.Sublist renaming refl→ar
open _root_.Bool renaming and_eq_true→aR,not_eq_true'→pD
open _root_.Option.some renaming inj→ba,injEq→lB
open _root_.Option renaming map_some→eY,bind_some→fx,map_eq_some_iff→iS
open _root_.Int renaming le_refl→fj
set_option maxHeartbeats 4000000
set_option maxRecDepth 20000
set_option linter.unusedSimpArgs false
set_option linter.unusedVariables false
set_option linter.unusedSectionVars false
theorem Co.rd.st {c:Co} {lo hi:Nat} {w w':World} (hk: ∀ k,lo<=k->k<hi->w'.heap[k]? =w.heap[k]?) (h:c.rd lo hi w):c.rd lo hi w':=
 ⟨h.row.st hk,fun t ht=>(h.parts t ht).st hk,h.cap,h.few,h.fewP⟩
theorem Co.rd.mono {c:Co} {lo hi lo' hi':Nat} {w:World} (h:c.rd lo hi w) (hl:lo'<=lo) (hh:hi<=hi'):c.rd lo' hi' w:=
 ⟨h.row.mono hl hh,fun t ht=>(h.parts t ht).mono hl hh,h.cap,h.few,h.fewP⟩
def R8 (lo hi:Nat) (c:Co):cB:=⟨lo,hi,c.rd lo hi,fun _ _ hk h=>h.st hk⟩
theorem Hp.co {w0 w:World} {L:List (Nat×Obj)} {F:List cB} {lo hi:Nat} {c:Co} (H:Hp w0 w L F) (i:Nat) (hF:F[i]? =some (R8 lo hi c)):c.rd 0 w.heap.size w:=
 Co.rd.mono (H.fact hF) (bG _) (H.facts _ (ab hF)).2.1
def uC (w w2:World) (c:Co):Prop:=c.rd w.heap.size w2.heap.size w2/\Below w.heap.size w w2
theorem IH.new {w w2:World} {c:Co} (h:IH w w2 c) (h1:c.txs.length<=8) (h2: ∀ t∈c.txs,t.parts.length<=4):uC w w2 c:=
 ⟨⟨h.row,h.parts,h.cap,by omega,fun t ht=>⟨by have:=h2 t ht;omega,h.caps t ht⟩⟩,h.below⟩
theorem pG {w w2:World} (h:Below w.heap.size w w2):uC w w2 zk:=(Ph h).new (by simp[zk]) (by simp[zk])
theorem FK {l:List Int} (h:cT (-1) l=true):l.length<=4:=by have:=mG h;omega
theorem CZ {ck nx:Int}: ∀ {l pre:List Tx},og ck nx pre l=true↔(∀ t∈l,fN ck nx t=true)/\(∀ t∈l,∀ p∈pre,sI t p=false)/\l.Pairwise (fun p t=>sI t p=false)
 |[],pre=>by simp[og]
 |t::l,pre=>by
  unfold og
  rw[aR,aR,CZ,dY]
  simp only[ax,ap,aq,forall_eq_or_imp,pD,uD]
  constructor
  rintro⟨⟨h1,h2⟩,h3,h4,h5⟩
  exact⟨⟨h1,h3⟩,⟨fun p hp=>by simpa using h2 p hp,fun a ha p hp=>h4 a ha p (.inl hp)⟩,fun a ha=>h4 a ha t (by simp),h5⟩
  rintro⟨⟨h1,h3⟩,⟨h2,h4⟩,h5,h6⟩
  exact⟨⟨h1,fun p hp=>by simpa using h2 p hp⟩,h3,fun a ha p hp=>hp.elim (h4 a ha p) (fun h=>by have:=h5 a ha;simp at h;rwa[h]),h6⟩
def uG (l:List Tx):Prop:=(l.map fun t=>(t.name,t.pid)).Pairwise fun p t=>p.1≠t.1/\p.2≠t.2
theorem KK {l:List Tx}:uG l↔l.Pairwise (fun p t=>sI t p=false):=by
 unfold uG
 rw[gm]
 constructor<;>intro h<;>refine h.imp fun{a b} hab=> ?_
 simpa [sI]using hab
 simpa [sI]using hab
theorem fH {c:Co}:gI c=true↔(iK c.clock=true/\1<=c.next/\c.next<=1073741824/\1<=c.wait/\c.wait<=1000/\(c.txs.length:Int)<=8)/\(∀ t∈c.txs,fN c.clock c.next t=true)/\uG c.txs:=by
 rw[i8,CZ,KK]
 constructor
 rintro⟨h1,h2,h3,h4,h5,h6,h7,h8,h9⟩;exact⟨⟨h1,h2,h3,h4,h5,h6⟩,h7,h9⟩
 rintro⟨⟨h1,h2,h3,h4,h5,h6⟩,h7,h9⟩;exact⟨h1,h2,h3,h4,h5,h6,h7,by simp,h9⟩
theorem Is {c:Co} (h:gI c=true):c.txs.length<=8/\ ∀ t∈c.txs,t.parts.length<=4:=by
 obtain⟨⟨_,_,_,_,_,h6⟩,h7,_⟩:=fH.1 h
 exact⟨by omega,fun t ht=>FK (cv.1 (h7 t ht)).2.2.2.2.2.2.2.2.2.1⟩
theorem qv.new {w w2:World} {ca c':Co} {Lr Lp:List (Nat×Obj)} (h:qv w w2 ca c' Lr Lp) (hok:gI ca=true):uC w w2 c':=by
 have h1:gI c'=true:=by rw[s0,h.1];exact hok
 obtain⟨h2,h3⟩:=Is h1
 exact h.read.new h2 h3
def fS (c:Co) (s:ByteArray):Option (Nat×Tx):=(c.txs.findIdx? fun p=>decide (p.name=s)).bind fun i=>c.txs[i]?.map fun t=>(i,t)
def p8 (c:Co) (i:Nat) (t:Tx):Co:={c with txs:=c.txs.set i t}
theorem u5 {c:Co} {s:ByteArray} (h:fS c s=none):fR c s= -1:=by
 unfold fS at h
 unfold fR
 cases hi:c.txs.findIdx? fun p=>decide (p.name=s)with
 |none=>rfl
 |some i=>
  obtain⟨hl,-⟩:=aS.1 hi
  rw[hi]at h
  simp[ah hl]at h
theorem gg {c:Co} {s:ByteArray} {i:Nat} {t:Tx} (h:fS c s=some (i,t)):fR c s=i/\c.txs[i]? =some t/\t.name=s:=by
 unfold fS at h
 unfold fR
 cases hi:c.txs.findIdx? fun p=>decide (p.name=s)with
 |none=>rw[hi]at h;cases h
 |some j=>
  obtain⟨hl,hn,-⟩:=aS.1 hi
  rw[hi]at h
  simp only[fx,ah hl,eY,lB,Prod.mk.injEq]at h
  obtain⟨rfl,rfl⟩:=h
  exact⟨rfl,ah hl,by simpa using hn⟩
theorem Bv (c:Co) (s:ByteArray):fS c.a s=(fS c s).map fun(i,t)=>(i,t.a):=by
 have e:c.a.txs.findIdx? (fun p=>decide (p.name=s))=c.txs.findIdx? fun p=>decide (p.name=s):=by
  show(c.txs.map Tx.a).findIdx? _=_
  rw[DK]
  rfl
 unfold fS
 rw[e]
 cases c.txs.findIdx? fun p=>decide (p.name=s)with
 |none=>rfl
 |some i=>
  show(c.txs.map Tx.a)[i]?.map _=(c.txs[i]?.map _).map _
  rw[aL]
  cases c.txs[i]? <;>rfl
theorem zG (c:Co) (i:Nat) (t:Tx):(p8 c i t).a=p8 c.a i t.a:=by
 unfold p8 Co.a
 simp only[cE]
theorem KC (c:Co) (s:ByteArray):(lR c s).a=lR c.a s:=by
 unfold lR Co.a
 simp only[bl,ey,mB]
 rfl
def bB (c:Co) (s:ByteArray):Co×Int×Int×Int:=match fS c s with
 |none=>if c.txs.length=8 then(zk,0,0,16)else(lR c s,c.next,0,0)
 |some (i,t)=>if t.state=3∨t.state=4 then(zk,0,0,12)else(p8 c i (ja t),t.pid,t.ver+1,0)
def m3 (c:Co) (s:ByteArray) (ver p:Int):Co×Int:=match fS c s with
 |none=>(zk,5)
 |some (i,t)=>if t.ver≠ver then(zk,10)else if t.state=1∨t.state=2 then(p8 c i (iM c.clock p t),0)else(zk,12)
def js (c:Co) (s:ByteArray) (ver:Int) (b:Bool):Co×Int:=match fS c s with
 |none=>(zk,5)
 |some (i,t)=>if t.ver≠ver then(zk,10)else match eE (vY b) t with
  |none=>(zk,12)
  |some t'=>(p8 c i t',0)
def oO (c:Co) (s:ByteArray) (p:Int):Co×Int:=match fS c s with
 |none=>(zk,5)
 |some (i,t)=>if t.state=3∨t.state=4 then if p∈t.parts then(p8 c i (gH p t),0)else(zk,5)else(zk,12)
def ij (c:Co) (n:Int):Co×Int:=if 1000<n then(zk,2)else(vZ c n,0)
structure oY (k:Nat) (c:Co):Prop where
 ok:gI c=true
 clock:c.clock<=1000*k
 next:c.next<=k+1
 ver: ∀ t∈c.txs,t.ver<=k
theorem oY.more {k m:Nat} {c:Co} (h:oY k c) (hm:k<=m):oY m c:=⟨h.ok,by have:=h.clock;omega,by have:=h.next;omega,fun t ht=>by have:=h.ver t ht;omega⟩
theorem Ej {α:Type} {l:List α} {i:Nat} {a x:α} (h:x∈l.set i a):x∈l∨x=a:=aM h
theorem KJ {l:List Tx} {i:Nat} {t t':Tx} (h:uG l) (hi:l[i]? =some t) (hn:t'.name=t.name) (hp:t'.pid=t.pid):uG (l.set i t'):=by
 unfold uG at h⊢
 rw[cE,hn,hp,iW (by rw[aL,hi];rfl)]
 exact h
theorem oY.set {k:Nat} {c:Co} {i:Nat} {t t':Tx} (h:oY k c) (hi:c.txs[i]? =some t) (hn:t'.name=t.name) (hp:t'.pid=t.pid) (hok:fN c.clock c.next t'=true) (hv:t'.ver<=k+1):oY (k+1) (p8 c i t'):=by
 obtain⟨h1,h2,h3⟩:=fH.1 h.ok
 refine⟨fH.2 ⟨?_,fun x hx=> ?_,KJ h3 hi hn hp⟩,?_,?_,fun x hx=> ?_⟩
 simpa [p8]using h1
 rcases Ej hx with hx|rfl
 exact h2 x hx
 exact hok
 have:=h.clock;show c.clock<=_;omega
 have:=h.next;show c.next<=_;omega
 rcases Ej hx with hx|rfl
 have:=h.ver x hx;omega
 omega
theorem Qy:(1:Int)<=1:=by decide
theorem Ra:(1:Int)<=2:=by decide
theorem Ov:(1:Int)<=4:=by decide
theorem Q9:(2:Int)<=4:=by decide
theorem Qx:(4:Int)<=4:=by decide
theorem Qz:(1:Int)=1↔([]:List Int).length=0:=by decide
theorem jR {n:Int}:iK n=true↔0<=n/\n<=1073741824:=by unfold iK;simp
theorem I4 {k:Nat} {c:Co} {s:ByteArray} (h:oY k c) (hk:k<=1000) (hn:bL s=true) (h0:(bB c s).2.2.2=0):oY (k+1) (bB c s).1:=by
 have hb:=h
 obtain⟨⟨h1,h2,h3,h4,h5,h6⟩,h7,h8⟩:=fH.1 h.ok
 unfold bB at h0⊢
 cases hf:fS c s with
 |none=>
  rw[hf]at h0
  dsimp only at h0⊢
  by_cases hl:c.txs.length=8
  rw[if_pos hl]at h0;cases h0
  rw[if_neg hl]at h0⊢
  have hnx:=h.next
  have hck:=h.clock
  have hni:=u5 hf
  refine⟨fH.2 ⟨⟨h1,?_,?_,h4,h5,?_⟩,fun t ht=> ?_,?_⟩,?_,?_,fun t ht=> ?_⟩
  show 1<=c.next+1;omega
  show c.next+1<=_;omega
  show((c.txs++[_]).length:Int)<=8
  rw[ay,bO];omega
  rcases ap.1 ht with ht|ht
  have:=cv.1 (h7 t ht)
  exact cv.2 ⟨this.1,this.2.1,by show t.pid<c.next+1;have:=this.2.2.1;omega,this.2.2.2⟩
  rw[aq.1 ht]
  exact cv.2 ⟨hn,h2,by show c.next<c.next+1;omega,by kernel_rfl,Qy,Ov,by show(0:Int)<=0;omega,by show(0:Int)<=c.clock;exact(jR.1 h1).1,.inl Z,rfl,Qz⟩
  unfold uG at h8⊢
  show((c.txs++[i4 s c.next]).map _).Pairwise _
  rw[bl,mj]
  refine⟨h8,by simp,fun a ha b hb=> ?_⟩
  obtain⟨t,ht,rfl⟩:=bp.1 ha
  simp only[ey,mB,aq]at hb
  subst hb
  refine⟨fun he=> ?_,fun he=> ?_⟩
  have:(c.txs.findIdx? fun p=>decide (p.name=s))=none:=by
   cases hi:c.txs.findIdx? fun p=>decide (p.name=s)with
   |none=>rfl
   |some j=>unfold fR at hni;rw[hi]at hni;simp[lL]at hni
  rw[cV]at this
  have:=this t ht
  simp[show t.name=s from he]at this
  have:=(cv.1 (h7 t ht)).2.2.1
  have he':t.pid=c.next:=he
  omega
  show c.clock<=_;omega
  show c.next+1<=_;omega
  rcases ap.1 ht with ht|ht
  have:=h.ver t ht;omega
  rw[aq.1 ht];show(0:Int)<=_;omega
 |some x=>
  obtain⟨i,t⟩:=x
  rw[hf]at h0
  dsimp only at h0⊢
  obtain⟨hi,ht,-⟩:=gg hf
  by_cases hs:t.state=3∨t.state=4
  rw[if_pos hs]at h0;cases h0
  rw[if_neg hs]at h0⊢
  have hm:=ab ht
  have hv:=h.ver t hm
  obtain⟨a1,a2,a3,a4,a5,a6,a7,a8,a9,a10,a11⟩:=cv.1 (h7 t hm)
  have hv0:=(jR.1 a4).1
  refine h.set ht ?_ ?_ ?_ ?_
  unfold ja;split<;>rfl
  unfold ja;split<;>rfl
  unfold ja
  split
  rename_i h2'
  exact cv.2 ⟨a1,a2,a3,jR.2 ⟨by show 0<=t.ver+1;omega,by show t.ver+1<=_;omega⟩,Ov,Qx,a7,a8,a9,a10,by constructor;intro h;cases h;intro h;have:=a11.2 h;omega⟩
  exact cv.2 ⟨a1,a2,a3,jR.2 ⟨by show 0<=t.ver+1;omega,by show t.ver+1<=_;omega⟩,a5,a6,a7,a8,a9,a10,a11⟩
  unfold ja;split<;>(show t.ver+1<=_;omega)
theorem G0 {l:List Int} {p:Int} (h:cT (-1) l=true) (h0:0<=p) (h3:p<4):cT (-1) (kK l p)=true/\(kK l p).length≠0:=by
 have key: ∀ (l:List Int) (a:Int),l.Pairwise (· < ·)->(∀ q∈l,a<q/\q<4)->cT a l=true:=by
  intro l
  induction l with
  |nil=>intro a _ _;rfl
  |cons x l ih=>
   intro a hp hq
   obtain⟨h1,h2⟩:=dY.1 hp
   unfold cT
   have:=hq x (az ..)
   rw[ih x h2 fun q hq'=>⟨h1 q hq',(hq q (aj _ hq')).2⟩]
   simp[this.1,this.2]
 obtain⟨hp,hq⟩:=fQ h
 unfold kK
 split
 rename_i hm
 refine⟨h,fun h0=> ?_⟩
 rw[bT h0]at hm;cases hm
 rename_i hm
 refine⟨key _ _ ?_ ?_,by simp⟩
 rw[aD,mj]
 refine⟨hp.filter _,?_,?_⟩
 rw[mj]
 refine⟨by simp,hp.filter _,fun a ha b hb=> ?_⟩
 rw[aq.1 ha]
 simp only[kZ,decide_eq_true_eq]at hb
 have:b≠p:=fun h=>hm (h▸hb.1)
 omega
 intro a ha b hb
 simp only[kZ,decide_eq_true_eq]at ha
 rcases ap.1 hb with hb|hb
 rw[aq.1 hb];exact ha.2
 simp only[kZ,decide_eq_true_eq]at hb;omega
 intro q hq'
 simp only[ap,kZ,aq,decide_eq_true_eq]at hq'
 rcases hq' with(hq'|rfl)|hq'
 exact hq q hq'.1
 omega
 exact hq q hq'.1
theorem No {ck nx p:Int} {t:Tx} (h:fN ck nx t=true) (hc:iK ck=true) (h0:0<=p) (h3:p<4):fN ck nx (iM ck p t)=true:=by
 obtain⟨a1,a2,a3,a4,a5,a6,a7,a8,a9,a10,a11⟩:=cv.1 h
 obtain⟨b1,b2⟩:=G0 a10 h0 h3
 have hc0:=(jR.1 hc).1
 unfold iM
 split
 exact cv.2 ⟨a1,a2,a3,a4,Ra,Q9,hc0,fj _,a9,b1,by constructor;intro h;cases h;intro h;exact absurd h b2⟩
 rename_i h1
 exact cv.2 ⟨a1,a2,a3,a4,a5,a6,a7,a8,a9,b1,by constructor;intro h;exact absurd h h1;intro h;exact absurd h b2⟩
theorem Ji {k:Nat} {c:Co} {s:ByteArray} {ver p:Int} (h:oY k c) (h0:0<=p) (h3:p<4) (he:(m3 c s ver p).2=0):oY (k+1) (m3 c s ver p).1:=by
 obtain⟨⟨h1,-⟩,h7,-⟩:=fH.1 h.ok
 unfold m3 at he⊢
 cases hf:fS c s with
 |none=>rw[hf]at he;cases he
 |some x=>
  obtain⟨i,t⟩:=x
  rw[hf]at he
  dsimp only at he⊢
  obtain⟨-,ht,-⟩:=gg hf
  split at he
  cases he
  rename_i hv
  rw[if_neg hv]
  split at he
  rename_i hs
  rw[if_pos hs]
  have hm:=ab ht
  refine h.set ht ?_ ?_ (No (h7 t hm) h1 h0 h3) ?_
  unfold iM;split<;>rfl
  unfold iM;split<;>rfl
  have:=h.ver t hm
  unfold iM;split<;>(show t.ver<=_;omega)
  cases he
theorem M2 {ck nx w:Int} {t t':Tx} (h:fN ck nx t=true) (hw:w=3∨w=4) (he:eE w t=some t'):fN ck nx t'=true/\t'.name=t.name/\t'.pid=t.pid/\t'.ver=t.ver:=by
 obtain⟨a1,a2,a3,a4,a5,a6,a7,a8,a9,a10,a11⟩:=cv.1 h
 unfold eE at he
 split at he
 injection he with he;subst he
 refine⟨cv.2 ⟨a1,a2,a3,a4,by show 1<=w;omega,by show w<=4;omega,a7,a8,a9,a10,?_⟩,rfl,rfl,rfl⟩
 constructor
 intro h;have h':w=1:=h;omega
 intro h;have:=a11.2 h;omega
 split at he
 injection he with he;subst he
 exact⟨cv.2 ⟨a1,a2,a3,a4,a5,a6,a7,a8,.inr hw,a10,a11⟩,rfl,rfl,rfl⟩
 split at he
 injection he with he;subst he
 exact⟨h,rfl,rfl,rfl⟩
 cases he
theorem Jq (b:Bool):vY b=3∨vY b=4:=by cases b<;>simp[vY]
theorem Ja {k:Nat} {c:Co} {s:ByteArray} {ver:Int} {b:Bool} (h:oY k c) (he:(js c s ver b).2=0):oY (k+1) (js c s ver b).1:=by
 obtain⟨-,h7,-⟩:=fH.1 h.ok
 unfold js at he⊢
 cases hf:fS c s with
 |none=>rw[hf]at he;cases he
 |some x=>
  obtain⟨i,t⟩:=x
  rw[hf]at he
  dsimp only at he⊢
  obtain⟨-,ht,-⟩:=gg hf
  split at he
  cases he
  rename_i hv
  rw[if_neg hv]
  have hm:=ab ht
  cases hx:eE (vY b) t with
  |none=>rw[hx]at he;cases he
  |some t'=>
   obtain⟨b1,b2,b3,b4⟩:=M2 (h7 t hm) (Jq b) hx
   refine h.set ht b2 b3 b1 ?_
   have:=h.ver t hm;omega
theorem Aw {l:List Int} (h:cT (-1) l=true) (f:Int->Bool):cT (-1) (l.filter f)=true:=by
 have key: ∀ (l:List Int) (a:Int),l.Pairwise (· < ·)->(∀ q∈l,a<q/\q<4)->cT a l=true:=by
  intro l
  induction l with
  |nil=>intro a _ _;rfl
  |cons x l ih=>
   intro a hp hq
   obtain⟨h1,h2⟩:=dY.1 hp
   unfold cT
   have:=hq x (az ..)
   rw[ih x h2 fun q hq'=>⟨h1 q hq',(hq q (aj _ hq')).2⟩]
   simp[this.1,this.2]
 obtain⟨hp,hq⟩:=fQ h
 exact key _ _ (hp.filter _) fun q hq'=>hq q ((kZ.1 hq').1)
theorem Kw {ck nx p:Int} {t:Tx} (h:fN ck nx t=true) (hs:t.state=3∨t.state=4):fN ck nx (gH p t)=true/\(gH p t).name=t.name/\(gH p t).pid=t.pid/\(gH p t).ver=t.ver:=by
 obtain⟨a1,a2,a3,a4,a5,a6,a7,a8,a9,a10,a11⟩:=cv.1 h
 unfold gH
 split
 exact⟨cv.2 ⟨a1,a2,a3,a4,Qy,Ov,a7,a8,.inr hs,rfl,Qz⟩,rfl,rfl,rfl⟩
 rename_i hl
 refine⟨cv.2 ⟨a1,a2,a3,a4,a5,a6,a7,a8,a9,Aw a10 _,?_⟩,rfl,rfl,rfl⟩
 constructor
 intro h;have h':t.state=1:=h;omega
 intro h;exact absurd h hl
theorem GN {k:Nat} {c:Co} {s:ByteArray} {p:Int} (h:oY k c) (he:(oO c s p).2=0):oY (k+1) (oO c s p).1:=by
 obtain⟨-,h7,-⟩:=fH.1 h.ok
 unfold oO at he⊢
 cases hf:fS c s with
 |none=>rw[hf]at he;cases he
 |some x=>
  obtain⟨i,t⟩:=x
  rw[hf]at he
  dsimp only at he⊢
  obtain⟨-,ht,-⟩:=gg hf
  split at he
  rename_i hs
  rw[if_pos hs]
  split at he
  rename_i hp
  rw[if_pos hp]
  have hm:=ab ht
  obtain⟨b1,b2,b3,b4⟩:=Kw (p:=p) (h7 t hm) hs
  refine h.set ht b2 b3 b1 ?_
  have:=h.ver t hm;omega
  cases he
  cases he
theorem xU {ck ck2 nx wt:Int} {t:Tx} (h:fN ck nx t=true) (hc:ck<=ck2):fN ck2 nx (ft ck2 wt t)=true/\(ft ck2 wt t).name=t.name/\(ft ck2 wt t).pid=t.pid/\(ft ck2 wt t).ver<=t.ver+1:=by
 obtain⟨a1,a2,a3,a4,a5,a6,a7,a8,a9,a10,a11⟩:=cv.1 h
 have hv:=jR.1 a4
 unfold ft
 split
 rename_i h2
 refine⟨cv.2 ⟨a1,a2,a3,jR.2 ⟨by show 0<=t.ver+1;omega,by show t.ver+1<=_;omega⟩,Ov,Qx,a7,by show t.since<=ck2;omega,a9,a10,?_⟩,rfl,rfl,fj _⟩
 constructor
 intro h;cases h
 intro h;have:=a11.2 h;omega
 exact⟨cv.2 ⟨a1,a2,a3,a4,a5,a6,a7,by omega,a9,a10,a11⟩,rfl,rfl,by omega⟩
theorem Fm {k:Nat} {c:Co} {n:Int} (h:oY k c) (hk:k<=1000) (hn:0<=n) (he:(ij c n).2=0):oY (k+1) (ij c n).1:=by
 obtain⟨⟨h1,h2,h3,h4,h5,h6⟩,h7,h8⟩:=fH.1 h.ok
 have hck:=h.clock
 have hc0:=(jR.1 h1).1
 unfold ij at he⊢
 split at he
 cases he
 rename_i hn1
 rw[if_neg hn1]
 unfold vZ
 refine⟨fH.2 ⟨⟨jR.2 ⟨by show 0<=c.clock+n;omega,by show c.clock+n<=_;omega⟩,h2,h3,h4,h5,by simpa using h6⟩,fun t ht=> ?_,?_⟩,by show c.clock+n<=1000*((k+1:Nat):Int);omega,by have:=h.next;show c.next<=_;omega,fun t ht=> ?_⟩
 obtain⟨x,hx,rfl⟩:=bp.1 ht
 exact(xU (h7 x hx) (show c.clock<=c.clock+n by omega)).1
 unfold uG at h8⊢
 dsimp only
 rw[sw]
 rw[List.map_congr_left (g:=fun t=>(t.name,t.pid)) fun t ht=>by
  obtain⟨-,e1,e2,-⟩:=xU (ck2:=c.clock+n) (wt:=c.wait) (h7 t ht) I
  show((ft _ _ t).name,(ft _ _ t).pid)=_
  rw[e1,e2]]
 exact h8
 obtain⟨x,hx,rfl⟩:=bp.1 ht
 obtain⟨-,-,-,e3⟩:=xU (ck2:=c.clock+n) (wt:=c.wait) (h7 x hx) I
 have:=h.ver x hx
 omega
theorem oY.a {k:Nat} {c:Co} (h:oY k c):oY k c.a:=⟨by rw[<-s0];exact h.ok,h.clock,h.next,fun t ht=>by
 obtain⟨x,hx,rfl⟩:=bp.1 (show t∈c.txs.map Tx.a from ht)
 exact h.ver x hx⟩
theorem oY.of_a {k:Nat} {c:Co} (h:oY k c.a):oY k c:=⟨by rw[s0];exact h.ok,h.clock,h.next,fun t ht=>h.ver t.a (bS (f:=Tx.a) ht)⟩
theorem oY.at_ {k:Nat} {c:Co} (h:oY k c) {i:Nat} {t:Tx} (ht:c.txs[i]? =some t):fN c.clock c.next t=true:=(fH.1 h.ok).2.1 t (ab ht)
theorem DW {c:Co} {s:ByteArray} {i:Nat} {t:Tx} (h:fS c s=some (i,t)):fS c.a s=some (i,t.a):=by rw[Bv,h];rfl
theorem HE {c:Co} {s:ByteArray} (h:fS c s=none):fS c.a s=none:=by rw[Bv,h];rfl
theorem MG (t:Tx):ja t.a=(ja t).a:=by
 unfold ja
 by_cases h:t.state=2
 rw[if_pos (show t.a.state=2 from h),if_pos h];rfl
 rw[if_neg (show¬ t.a.state=2 from h),if_neg h];rfl
theorem xb (c:Co) (s:ByteArray) (k:Nat) (w:World) (h:c.rd 0 w.heap.size w) (hb:oY k c) (hk:k<=1000) (hn:bL s=true):dh aa mQ [c.v,.string s] w fun v w2=> ∃ c':Co,v=.tuple #[c'.v,J (bB c.a s).2.1,J (bB c.a s).2.2.1,J (bB c.a s).2.2.2]/\c'.a=(bB c.a s).1/\uC w w2 c':=by
 have hnx:=hb.next
 have hpost:(bB c s).2.2.2=0->oY (k+1) (bB c s).1:=I4 hb hk hn
 cases hf:fS c s with
 |none=>
  have hi:=u5 hf
  have ha:=HE hf
  unfold bB at hpost⊢
  rw[ha]
  rw[hf]at hpost
  dsimp only at hpost⊢
  by_cases hl:c.txs.length=8
  rw[if_pos (show c.a.txs.length=8 by simpa [Co.a]using hl)]
  exact(GQ c s w h hb.ok hn I hl).mono fun v w2 ⟨h1,h2⟩=>⟨zk,h1,rfl,pG h2⟩
  rw[if_neg (show¬ c.a.txs.length=8 by simpa [Co.a]using hl)]
  rw[if_neg hl]at hpost
  exact(Ke c s w h hb.ok hn I hl I).mono fun v w2 ⟨c',Lr,Lp,h1,h2⟩=>⟨c',h1,h2.1,h2.new (by rw[<-KC,<-s0];exact(hpost Z).ok)⟩
 |some x=>
  obtain⟨i,t⟩:=x
  obtain⟨hi,ht,-⟩:=gg hf
  have ha:=DW hf
  have hm:=ab ht
  have hv0:=jR.1 (cv.1 (hb.at_ ht)).2.2.2.1
  have hv:=hb.ver t hm
  unfold bB at hpost⊢
  rw[ha]
  rw[hf]at hpost
  dsimp only at hpost⊢
  by_cases hs:t.state=3∨t.state=4
  rw[if_pos (show t.a.state=3∨t.a.state=4 from hs)]
  exact(HW c s i t w h hb.ok hn hi ht hs).mono fun v w2 ⟨h1,h2⟩=>⟨zk,h1,rfl,pG h2⟩
  rw[if_neg (show¬ (t.a.state=3∨t.a.state=4)from hs)]
  rw[if_neg hs]at hpost
  exact(HX c s i t w h hb.ok hn hi ht (fun h=>hs (.inl h)) (fun h=>hs (.inr h)) hv0.1 I).mono fun v w2 ⟨c',Lr,Lp,h1,h2⟩=>⟨c',h1,h2.1.trans (by rw[show({c with txs:=c.txs.set i (ja t)}:Co)=p8 c i (ja t)from rfl,zG,MG]),h2.new (by rw[<-s0];exact(hpost Z).ok)⟩
theorem Np (ck p:Int) (t:Tx):iM ck p t.a=(iM ck p t).a:=by
 unfold iM
 by_cases h:t.state=1
 rw[if_pos (show t.a.state=1 from h),if_pos h];rfl
 rw[if_neg (show¬ t.a.state=1 from h),if_neg h];rfl
theorem GZ (c:Co) (s:ByteArray) (ver p:Int) (k:Nat) (w:World) (h:c.rd 0 w.heap.size w) (hb:oY k c) (hn:bL s=true) (h0:0<=p) (h3:p<4):dh aa oE [c.v,.string s,J ver,J p] w fun v w2=> ∃ c':Co,v=.tuple #[c'.v,J (m3 c.a s ver p).2]/\c'.a=(m3 c.a s ver p).1/\uC w w2 c':=by
 have hpost:(m3 c s ver p).2=0->oY (k+1) (m3 c s ver p).1:=Ji hb h0 h3
 cases hf:fS c s with
 |none=>
  have hi:=u5 hf
  have ha:=HE hf
  unfold m3
  rw[ha]
  exact(Nl c s ver p w h hb.ok hn hi).mono fun v w2 ⟨h1,h2⟩=>⟨zk,h1,rfl,pG h2⟩
 |some x=>
  obtain⟨i,t⟩:=x
  obtain⟨hi,ht,-⟩:=gg hf
  have ha:=DW hf
  unfold m3 at hpost⊢
  rw[ha]
  rw[hf]at hpost
  dsimp only at hpost⊢
  by_cases hv:t.ver=ver
  rw[if_neg (show¬ t.a.ver≠ver from fun h=>h hv)]
  rw[if_neg (fun h=>h hv)]at hpost
  by_cases hs:t.state=1∨t.state=2
  rw[if_pos (show t.a.state=1∨t.a.state=2 from hs)]
  rw[if_pos hs]at hpost
  exact(Qa c s ver p i t w h hb.ok hn hi ht hv h0 h3 hs (cv.1 (hb.at_ ht)).2.2.2.2.2.2.2.2.2.1).mono fun v w2 ⟨c',Lr,Lp,h1,h2⟩=>⟨c',h1,h2.1.trans (by rw[show({c with txs:=c.txs.set i (iM c.clock p t)}:Co)=p8 c i (iM c.clock p t)from rfl,zG,Np];rfl),h2.new (by rw[<-s0];exact(hpost Z).ok)⟩
  rw[if_neg (show¬ (t.a.state=1∨t.a.state=2)from hs)]
  exact(KO c s ver p i t w h hb.ok hn hi ht hv h0 h3 (fun h=>hs (.inl h)) (fun h=>hs (.inr h))).mono fun v w2 ⟨h1,h2⟩=>⟨zk,h1,rfl,pG h2⟩
  rw[if_pos (show t.a.ver≠ver from hv)]
  exact(KP c s ver p i t w h hb.ok hn hi ht hv).mono fun v w2 ⟨h1,h2⟩=>⟨zk,h1,rfl,pG h2⟩
theorem OI (w:Int) (t:Tx):eE w t.a=(eE w t).map Tx.a:=by
 unfold eE
 by_cases h1:t.state=2
 rw[if_pos (show t.a.state=2 from h1),if_pos h1];rfl
 rw[if_neg (show¬ t.a.state=2 from h1),if_neg h1]
 by_cases h2:t.state=1/\t.done=0
 rw[if_pos (show t.a.state=1/\t.a.done=0 from h2),if_pos h2];rfl
 rw[if_neg (show¬ (t.a.state=1/\t.a.done=0)from h2),if_neg h2]
 by_cases h3:t.state=w∨(t.state=1/\t.done=w)
 rw[if_pos (show t.a.state=w∨(t.a.state=1/\t.a.done=w)from h3),if_pos h3];rfl
 rw[if_neg (show¬ (t.a.state=w∨(t.a.state=1/\t.a.done=w))from h3),if_neg h3];rfl
theorem GJ (c:Co) (s:ByteArray) (ver:Int) (b:Bool) (k:Nat) (w:World) (h:c.rd 0 w.heap.size w) (hb:oY k c) (hn:bL s=true):dh aa l8 [c.v,.string s,J ver,.bool b] w fun v w2=> ∃ c':Co,v=.tuple #[c'.v,J (js c.a s ver b).2]/\c'.a=(js c.a s ver b).1/\uC w w2 c':=by
 have hpost:(js c s ver b).2=0->oY (k+1) (js c s ver b).1:=Ja hb
 cases hf:fS c s with
 |none=>
  have hi:=u5 hf
  have ha:=HE hf
  unfold js
  rw[ha]
  exact(M1 c s ver b w h hb.ok hn hi).mono fun v w2 ⟨h1,h2⟩=>⟨zk,h1,rfl,pG h2⟩
 |some x=>
  obtain⟨i,t⟩:=x
  obtain⟨hi,ht,-⟩:=gg hf
  have ha:=DW hf
  unfold js at hpost⊢
  rw[ha]
  rw[hf]at hpost
  dsimp only at hpost⊢
  by_cases hv:t.ver=ver
  rw[if_neg (show¬ t.a.ver≠ver from fun h=>h hv),OI]
  rw[if_neg (fun h=>h hv)]at hpost
  have main:dh aa l8 [c.v,.string s,J ver,.bool b] w fun v w2=>match eE (vY b) t with|none=>v=.tuple #[.agg #[J 0,J 0,J 0,.slice none 0 0],J 12]/\Below w.heap.size w w2|some t'=> ∃ (c':Co) (Lr Lp:List (Nat×Obj)),v=.tuple #[c'.v,J 0]/\qv w w2 (Co.a {c with txs:=c.txs.set i t'}) c' Lr Lp:=by
   cases b
   exact Kq c s ver i t w h hb.ok hn hi ht hv
   exact M0 c s ver i t w h hb.ok hn hi ht hv
  cases hx:eE (vY b) t with
  |none=>
   rw[hx]at main
   exact main.mono fun v w2 ⟨h1,h2⟩=>⟨zk,h1,rfl,pG h2⟩
  |some t'=>
   rw[hx]at main hpost
   exact main.mono fun v w2 ⟨c',Lr,Lp,h1,h2⟩=>⟨c',h1,h2.1.trans (by rw[show({c with txs:=c.txs.set i t'}:Co)=p8 c i t' from rfl,zG];rfl),h2.new (by rw[<-s0];exact(hpost Z).ok)⟩
  rw[if_pos (show t.a.ver≠ver from hv)]
  exact(Kp c s ver b i t w h hb.ok hn hi ht hv).mono fun v w2 ⟨h1,h2⟩=>⟨zk,h1,rfl,pG h2⟩
theorem M4 (p:Int) (t:Tx):gH p t.a=(gH p t).a:=by
 unfold gH
 by_cases h:(t.parts.filter fun q=>decide (q≠p)).length=0
 rw[if_pos (show(t.a.parts.filter fun q=>decide (q≠p)).length=0 from h),if_pos h];rfl
 rw[if_neg (show¬ (t.a.parts.filter fun q=>decide (q≠p)).length=0 from h),if_neg h];rfl
theorem Ky (c:Co) (s:ByteArray) (p:Int) (k i:Nat) (t:Tx) (w:World) (h:c.rd 0 w.heap.size w) (hb:oY k c) (hn:bL s=true) (hf:fS c.a s=some (i,t)) (h34:t.state=3∨t.state=4) (hp:p∈t.parts):dh aa xh [c.v,.string s,J p] w fun v w2=> ∃ c':Co,v=.tuple #[c'.v,J 0]/\c'.a=(oO c.a s p).1/\uC w w2 c':=by
 have hpost:(oO c s p).2=0->oY (k+1) (oO c s p).1:=GN hb
 rw[Bv]at hf
 obtain⟨⟨j,x⟩,hg,he⟩:=iS.1 hf
 clear hf
 simp only[Prod.mk.injEq]at he
 obtain⟨rfl,rfl⟩:=he
 obtain⟨hi,ht,-⟩:=gg hg
 have ha:=DW hg
 unfold oO at hpost⊢
 rw[ha]
 rw[hg]at hpost
 dsimp only at hpost⊢
 rw[if_pos h34,if_pos hp]
 rw[if_pos (show x.state=3∨x.state=4 from h34),if_pos (show p∈x.parts from hp)]at hpost
 exact(OJ c s p i x w h hb.ok hn hi ht h34 hp (cv.1 (hb.at_ ht)).2.2.2.2.2.2.2.2.2.1).mono fun v w2 ⟨c',Lr,Lp,h1,h2⟩=>⟨c',h1,h2.1.trans (by rw[show({c with txs:=c.txs.set i (gH p x)}:Co)=p8 c i (gH p x)from rfl,zG,M4]),h2.new (by rw[<-s0];exact(hpost Z).ok)⟩
theorem MZ (t:Tx):gW t.a=gW t:=rfl
theorem Mi (l:List Tx) (n:Nat):ia (l.map Tx.a) n=(ia l n).map Tx.a:=by
 unfold ia
 rw[List.filter_map,show(gW∘Tx.a)=gW from funext MZ,aL]
theorem FX (c:Co) (n:Nat) (w:World) (h:c.rd 0 w.heap.size w) (hok:gI c=true) (hn:n<=1000):dh aa xg [c.v,J (n:Nat)] w fun v w2=>v=yQ (ia c.a.txs n)/\Below w.heap.size w w2:=by
 refine(Of c n w h hok hn).mono fun v w2 ⟨h1,h2⟩=>⟨?_,h2⟩
 rw[h1,show c.a.txs=c.txs.map Tx.a from rfl,Mi]
 cases ia c.txs n<;>rfl
theorem Jv (c:Co) (n:Int):(vZ c n).a=vZ c.a n:=by
 unfold vZ Co.a
 simp only[sw]
 congr 1
 exact List.map_congr_left fun t _=>Lf _ _ t
theorem C1 (c:Co) (n:Int) (k:Nat) (w:World) (h:c.rd 0 w.heap.size w) (hb:oY k c) (hk:k<=1000) (hn:0<=n):dh aa sP [c.v,J n] w fun v w2=> ∃ c':Co,v=.tuple #[c'.v,J (ij c.a n).2]/\c'.a=(ij c.a n).1/\uC w w2 c':=by
 have hpost:(ij c n).2=0->oY (k+1) (ij c n).1:=Fm hb hk hn
 have hck:=hb.clock
 unfold ij at hpost⊢
 by_cases hf:1000<n
 rw[if_pos hf]
 exact(Lc c n w h hb.ok hf).mono fun v w2 ⟨h1,h2⟩=>⟨zk,h1,rfl,pG h2⟩
 rw[if_neg hf]
 rw[if_neg hf]at hpost
 exact(NF c n w h hb.ok hn I I).mono fun v w2 ⟨c',Lr,Lp,h1,h2⟩=>⟨c',h1,h2.1,h2.new (by rw[<-Jv,<-s0];exact(hpost Z).ok)⟩
theorem Hs (es:List cz) (A:Option Addr) (c n a most:Nat) (w:World) (hr:Rd gV 0 w.heap.size A es w) (hc:es.length<=c) (hb:es.length<=1000000) (hn:n<=es.length) (ha:es.length<a):
  dh aa yY [.slice A es.length c,J (n:Nat),J (a:Nat),J (most:Nat)] w fun v w2=>v=.tuple #[.slice none 0 0,J 0,J 2]/\Below w.heap.size w w2:=by
 refine aE xl Z Z ?_
 have H:=Hp.startRd hr
 refine W<|Zr<|G (Ws Z)<|G (Wi Z)<|G (Wi Z)<|U<|W<|Zr<|G (Ys Z)<|G (Yi Z)<|ch ur (C6 es _ _ n _ (H.rd0 0 Z) hc hb hn) Z Z ?_
 rintro _ w1 ⟨st,hst,rfl,hb2⟩;replace H:=H.later hb2;clear hb2
 refine G (Yu Z)<|G (Xi Z Z)<|G (Xi Z Z)<|G (Wi Z)<|G (Wi Z)<|U<|W<|W<|Zr<|G (Yi Z)<|G (bZ Z Z Z)<|U<|ZF Z<|Zk<|W<|W<|Zr<|G (Yi Z)<|G (dd Z Z I)<|G (Yb Z)<|ZG<|G (Yi Z)<|ZG<|G (Ys Z)<|ZG<|G (br eH Z)<|ZG<|G (Ie Z Z I)<|G (N Z Z)<|G (Yb Z)<|ZN<|ZN<|G (Kt Z Z)<|G (Yb Z)<|ZN<|ZN<|G (Kt Z Z)<|U<|ZT Z<|W ?_
 refine Zr<|G (Ws Z)<|G (Wi Z)<|G (Wi Z)<|U<|Zt ?_
 exact Ik Z Z Z Z ⟨rfl,H.below⟩
theorem FN (p:Pa) (a most l:Nat) (r:fk) (w:World) (h:p.rd 0 w.heap.size w) (hok:p.a.ok) (hld:p.leader=l) (hr:p.reps[l]? =some r) (ha:r.es.length<a):dh aa t9 [p.v,J (a:Nat),J (most:Nat)] w fun v w2=>v=.tuple #[.slice none 0 0,J 0,J 2]/\Below w.heap.size w w2:=by
 refine aE sU Z Z ?_
 obtain⟨hn1,hn2,hil,hkl,hf1,hf2,he0,he1,hl0,hl1,hb0,hb1,hsm⟩:=Pa.facts hok
 have hkn:=hok.known
 have hiC:=h.iC
 have hkC:=h.kC
 have hrC:=h.rC
 have hfew:=h.few
 have H:=Hp.startPa h
 obtain⟨ep,ld,isr,iA,iC,kn,kA,kC,reps,rA,rC,fw,bs⟩:=p
 simp only[Pa.a]at hkn
 dsimp only at H hn1 hn2 hil hkl hf1 hf2 he0 he1 hl0 hl1 hb0 hb1 hsm hiC hkC hrC hfew
 dsimp only at hld hr
 have hll:=(cC hr).1
 show CW _ _ _ _ (args [.agg #[J (ep),J (ld),.slice iA isr.length iC,.slice kA kn.length kC,.slice rA reps.length rC,J (fw),J (bs)],J (((a:Nat):Int)),J (((most:Nat):Int))]) w
 refine W<|Zr<|f7 H Z Z fun w1 b3 H=>G (Ws Z)<|G (Wi Z)<|G (Wi Z)<|U<|W<|W<|Zr<|G (Zw aH H 0 Z Z Z)<|ch lx (rU ⟨ep,ld,isr,iA,iC,kn,kA,kC,reps,rA,rC,fw,bs⟩ _ (Hp.pa H 0 Z) hok) Z Z ?_
 rintro _ w2 ⟨rfl,hb⟩;replace H:=H.later hb;clear hb
 refine G (Wi Z)<|U<|W<|Zr<|G (Yi Z)<|G (bZ Z Z Z)<|U<|ZF Z<|Zk<|W<|W<|Zr<|G (Zf dt Z)<|G (Zd ak H 0 Z Z Z)<|G (dd Z Z I)<|U<|ZF Z<|Zk<|W<|Zr<|G (Zf cU Z)<|G (Zd bW H 0 Z Z Z)<|G (Zf dt Z)<|G (Zd ak H 0 Z Z Z)<|qB (k:=l) H 3 Z bx Z (congrArg (Value.int .i64) hld) I I Z fun bq3 o3 x3 e3=> ?_
 obtain rfl:x3=r:=by have:=e3.at_;rw[hr]at this;exact(ba this).symm
 obtain⟨n,hnn⟩: ∃ n:Nat,x3.high=n:=⟨x3.high.toNat,by have:=(Pa.repOk hok (i:=l) hr).2.1;omega⟩
 refine G (j7 (xs:=fk.c x3) oU Z Z e3.cl)<|eP H pZ Z fun w4 b10 H=>bo H 0 (#[.bool (x3.up),.slice x3.A ((bj x3.es).length) x3.cap,J (((fW x3.es x3.s:Nat):Int)),J (x3.high)]) lW Z Z Z Z Z N N fun w5 H=>U<|W<|Zr<|G (Zf dA Z)<|G (j6 1 [.slice x3.A ((bj x3.es).length) x3.cap,J (((fW x3.es x3.s:Nat):Int))] eV Z Z (H.ent (i:=0) Z) Z)<|ch gJ (ik x3.A x3.cap x3.es x3.s _ (Pa.log (Hp.pa H 0 Z) hok (i:=l) hr)) Z Z ?_
 have hloen:=H.size
 rintro _ w6 ⟨Aen,cen,rfl,hren,hcen,hben⟩;replace H:=H.learnRd hben hren;clear hren hben
 refine G (Yu Z)<|G (Xs Z Z)<|G (Xi Z Z)<|G (Xi Z Z)<|G (Ws Z)<|G (Wi Z)<|G (Wi Z)<|U<|W<|Zr<|G (Ys Z)<|G (Zf dZ Z)<|G (Zd ak H 0 Z Z Z)<|G (Yi Z)<|G (Yi Z)<|ch xy ((by have hA:=Hs x3.es Aen cen n a most _ (H.rd0 0 Z) hcen (by have:=(Pa.repOk hok (i:=l) hr).1.len;omega) (by have:=(Pa.repOk hok (i:=l) hr).2.2;omega) ha;rw[<-hnn]at hA;exact hA)) Z Z ?_
 rintro _ w7 ⟨rfl,hb⟩;replace H:=H.later hb;clear hb
 refine G (Xs Z Z)<|G (Xi Z Z)<|G (Xi Z Z)<|G (Ws Z)<|G (Wi Z)<|G (Wi Z)<|U<|Zt ?_
 exact Ik Z Z Z Z ⟨rfl,H.below⟩

/-- an act of a script -/
structure Act where
 kind:Int
 name:ByteArray
 part:Int
 n:Int
 m:Int
 text:ByteArray
 lost:Int
def Act.c (a:Act):List Value:=[J a.kind,.string a.name,J a.part,J a.n,J a.m,.string a.text,J a.lost]
abbrev Act.v (a:Act):Value:=.agg a.c.toArray
def si:fq Act:=⟨Act.c,7,fun _=>rfl,by decide,fun a u hu=>by
 simp only[Act.c,ax,bU,or_false]at hu
 rcases hu with h|h|h|h|h|h|h<;>subst h<;>rfl⟩
structure An where
 code:Int
 n:Int
 texts:List ByteArray
structure Sn where
 name:ByteArray
 pid:Int
 ver:Int
 inn:Bool
 seqs:List Int
 sA:Option Addr
 sC:Nat
 last:List cz
 lA:Option Addr
 lC:Nat
def Sn.c (s:Sn):List Value:=[.string s.name,J s.pid,J s.ver,.bool s.inn,.slice s.sA s.seqs.length s.sC,.slice s.lA s.last.length s.lC]
def Ad:fq Sn:=⟨Sn.c,6,fun _=>rfl,by decide,fun a u hu=>by
 simp only[Sn.c,ax,bU,or_false]at hu
 rcases hu with h|h|h|h|h|h<;>subst h<;>rfl⟩
def Sn.a (s:Sn):Sn:={s with sA:=none,sC:=0,lA:=none,lC:=0}
structure Pq where
 p:Pa
 lo:Nat
 hi:Nat
def FI:fq Pq:=⟨fun q=>q.p.c,7,fun _=>rfl,by decide,fun a u hu=>by
 simp only[Pa.c,ax,bU,or_false]at hu
 rcases hu with h|h|h|h|h|h|h<;>subst h<;>rfl⟩
structure Bk where
 ps:List Pq
 pA:Option Addr
 pC:Nat
 co:Co
 clo:Nat
 chi:Nat
 gr:Gr
 glo:Nat
 ghi:Nat
 sns:List Sn
 snA:Option Addr
 snC:Nat
def Bk.c (b:Bk):List Value:=[.slice b.pA b.ps.length b.pC,J b.co.clock,J b.co.next,J b.co.wait,.slice b.co.A b.co.txs.length b.co.cap,J b.gr.clock,J b.gr.wait,J b.gr.gen,.slice b.gr.mA b.gr.ms.length b.gr.mC,.slice b.gr.oA b.gr.os.length b.gr.oC,.slice b.snA b.sns.length b.snC]
structure Wa where
 ps:List fD
 co:Co
 gr:Gr
 sns:List Sn
def Bk.a (b:Bk):Wa:=⟨b.ps.map fun q=>q.p.a,b.co.a,b.gr.a,b.sns.map Sn.a⟩
def qu:List Sn->List (Nat×Obj)->Prop
 |[],L=>L=[]
 |s::l,L=> ∃ gq uq gl ul L',s.sA=some ⟨gq,0,none⟩/\s.lA=some ⟨gl,0,none⟩/\dX bR s.seqs s.sC uq/\dX gV s.last s.lC ul/\L=(gq,.cells uq db (0,0))::(gl,.cells ul dw (0,0))::L'/\qu l L'
theorem qu.at_: ∀ {l:List Sn} {L:List (Nat×Obj)} {i:Nat} {s:Sn},qu l L->l[i]? =some s-> ∃ gq uq gl ul La Lb,s.sA=some ⟨gq,0,none⟩/\s.lA=some ⟨gl,0,none⟩/\dX bR s.seqs s.sC uq/\dX gV s.last s.lC ul/\L=La++((gq,.cells uq db (0,0))::(gl,.cells ul dw (0,0))::Lb)/\ ∀ (s':Sn) (gq':Nat) (uq':Array Value) (gl':Nat) (ul':Array Value),s'.sA=some ⟨gq',0,none⟩->s'.lA=some ⟨gl',0,none⟩->dX bR s'.seqs s'.sC uq'->dX gV s'.last s'.lC ul'->qu (l.set i s') (La++((gq',.cells uq' db (0,0))::(gl',.cells ul' dw (0,0))::Lb))
 |[],_,_,_,_,h=>by simp at h
 |x::l,L,0,s,h,hi=>by
  obtain⟨gq,uq,gl,ul,L',h1,h2,h3,h4,rfl,h6⟩:=h
  have:x=s:=by simpa using hi
  subst this
  exact⟨gq,uq,gl,ul,[],L',h1,h2,h3,h4,rfl,fun s' gq' uq' gl' ul' a1 a2 a3 a4=>⟨gq',uq',gl',ul',L',a1,a2,a3,a4,rfl,h6⟩⟩
 |x::l,L,i+1,s,h,hi=>by
  obtain⟨gq,uq,gl,ul,L',h1,h2,h3,h4,rfl,h6⟩:=h
  obtain⟨kq,vq,kl,vl,La,Lb,b1,b2,b3,b4,rfl,b6⟩:=qu.at_ (i:=i) h6 (by simpa using hi)
  exact⟨kq,vq,kl,vl,(gq,.cells uq db (0,0))::(gl,.cells ul dw (0,0))::La,Lb,b1,b2,b3,b4,rfl,fun s' gq' uq' gl' ul' a1 a2 a3 a4=>⟨gq,uq,gl,ul,_,h1,h2,h3,h4,rfl,b6 s' gq' uq' gl' ul' a1 a2 a3 a4⟩⟩
theorem qu.snoc: ∀ {l:List Sn} {L:List (Nat×Obj)} {s:Sn} {gq gl:Nat} {uq ul:Array Value},qu l L->s.sA=some ⟨gq,0,none⟩->s.lA=some ⟨gl,0,none⟩->dX bR s.seqs s.sC uq->dX gV s.last s.lC ul->qu (l++[s]) (L++[(gq,.cells uq db (0,0)),(gl,.cells ul dw (0,0))])
 |[],L,s,gq,gl,uq,ul,h,a1,a2,a3,a4=>by
  have:L=[]:=h
  subst this
  exact⟨gq,uq,gl,ul,[],a1,a2,a3,a4,rfl,rfl⟩
 |x::l,L,s,gq,gl,uq,ul,h,a1,a2,a3,a4=>by
  obtain⟨kq,vq,kl,vl,L',h1,h2,h3,h4,rfl,h6⟩:=h
  exact⟨kq,vq,kl,vl,_,h1,h2,h3,h4,rfl,h6.snoc a1 a2 a3 a4⟩
def xM (w0:World) (lo hi:Nat) (c:Co):cB:=⟨lo,hi,fun w=>w0.heap.size<=lo/\c.rd lo hi w,fun _ _ hk h=>⟨h.1,h.2.st hk⟩⟩
def KS (w0:World) (lo hi:Nat) (g:Gr):cB:=⟨lo,hi,fun w=>w0.heap.size<=lo/\g.rd lo hi w,fun _ _ hk h=>⟨h.1,h.2.st hk⟩⟩
def tI (w0:World) (lo hi:Nat) (p:Pa):cB:=⟨lo,hi,fun w=>w0.heap.size<=lo/\p.rd lo hi w,fun _ _ hk h=>⟨h.1,h.2.st hk⟩⟩
structure Bw (w0 w:World) (bb:Nat) (b:Bk) (gP:Nat) (uP:Array Value) (Ls Lo K:List (Nat×Obj)) (F:List cB):Prop where
 pA:b.pA=some ⟨gP,0,none⟩
 row:dX FI b.ps b.pC uP
 sn:gz Ad (.slice b.snA b.sns.length b.snC) fI b.sns Ls
 own:qu b.sns Lo
 co:xM w0 b.clo b.chi b.co∈F
 gr:KS w0 b.glo b.ghi b.gr∈F
 ps: ∀ q∈b.ps,tI w0 q.lo q.hi q.p∈F
 H:Hp w0 w ((bb,.cells b.c.toArray bK (0,0))::(gP,.cells uP bF (0,0))::(Ls++(Lo++K))) F
def xN (w0 w:World) (bb:Nat) (b:Bk) (K:List (Nat×Obj)) (F:List cB):Prop:= ∃ gP uP Ls Lo F',Bw w0 w bb b gP uP Ls Lo K F'/\ ∀ f∈F,f∈F'
theorem Hp.coM {w1 w0 w:World} {L:List (Nat×Obj)} {F:List cB} {lo hi:Nat} {c:Co} (H:Hp w0 w L F) (h:xM w1 lo hi c∈F):c.rd 0 w.heap.size w:=by
 obtain⟨h1,h2,-⟩:=H.facts _ h
 exact Co.rd.mono h1.2 (bG _) h2
theorem Hp.grM {w1 w0 w:World} {L:List (Nat×Obj)} {F:List cB} {lo hi:Nat} {g:Gr} (H:Hp w0 w L F) (h:KS w1 lo hi g∈F):g.rd 0 w.heap.size w:=by
 obtain⟨h1,h2,-⟩:=H.facts _ h
 exact Gr.rd.mono h1.2 (bG _) h2
theorem Hp.paM {w1 w0 w:World} {L:List (Nat×Obj)} {F:List cB} {lo hi:Nat} {p:Pa} (H:Hp w0 w L F) (h:tI w1 lo hi p∈F):p.rd 0 w.heap.size w:=by
 obtain⟨h1,h2,-⟩:=H.facts _ h
 exact Pa.rd.mono h1.2 (bG _) h2
def pb (x:An) (v:Value) (w:World):Prop:= ∃ A c,v=.agg #[J x.code,J x.n,.slice A x.texts.length c]/\x.texts.length<=c/\Rd nz 0 w.heap.size A x.texts w
theorem pb.plain (e n:Int) (w:World):pb ⟨e,n,[]⟩ (.agg #[J e,J n,.slice none 0 0]) w:=⟨none,0,rfl,ao _,Rd.nil⟩
def lJ (w:Wa) (e:Int):Wa×An:=(w,⟨e,0,[]⟩)
def fL (a:Act) (x:An):An:=if a.lost=0 then x else⟨14,0,[]⟩
def eK (l:List Sn) (s:ByteArray):Option Nat:=l.findIdx? fun x=>decide (x.name=s)
def jV:cz:=⟨0,0,0,0,0,false,⟨#[]⟩⟩
def lZ (s:ByteArray) (pid ver:Int) (np:Nat):Sn:=⟨s,pid,ver,false,au np 0,none,0,au np jV,none,0⟩
def tf (l:List Sn) (s:Sn):List Sn:=match eK l s.name with
 |none=>l++[s]
 |some i=>l.set i s
def mN (w:Wa) (a:Act):Wa×An:=if(bB w.co a.name).2.2.2=0 then({w with co:=(bB w.co a.name).1,sns:=tf w.sns (lZ a.name (bB w.co a.name).2.1 (bB w.co a.name).2.2.1 w.ps.length)},⟨0,(bB w.co a.name).2.2.1,[]⟩)else lJ w (bB w.co a.name).2.2.2
def kJ (w:Wa) (a:Act):Wa×An:=match (eK w.sns a.name).bind fun i=>w.sns[i]?.map fun s=>(i,s)with
 |none=>lJ w 5
 |some (i,s)=>if s.inn then lJ w 6 else({w with sns:=w.sns.set i {s with inn:=true}},⟨0,0,[]⟩)
def lK (w:Wa) (n:Nat) (x:cz):Wa×An:=match w.ps[n]? with
 |none=>lJ w 5
 |some p=>if(er p x).2.2=0 then({w with ps:=w.ps.set n (er p x).1},⟨0,(er p x).2.1,[]⟩)else lJ w (er p x).2.2
def n7 (w:Wa) (s:Sn) (n:Nat) (x:cz):Co×Int:=if x.txn then m3 w.co s.name x.ver n else(w.co,0)
def dN (w:Wa) (s:Sn) (n:Nat):Wa×An:=match s.last[n]? with
 |none=>lJ w 5
 |some x=>if(n7 w s n x).2=0 then lK {w with co:=(n7 w s n x).1} n x else lJ w (n7 w s n x).2
def eL (s:Sn) (n:Nat) (t:ByteArray):Sn:={s with last:=s.last.set n ⟨0,s.pid,s.ver,s.seqs.getD n 0,1,s.inn,t⟩,seqs:=s.seqs.set n (s.seqs.getD n 0+1)}
def jg (w:Wa) (a:Act) (again:Bool):Wa×An:=match (eK w.sns a.name).bind fun i=>w.sns[i]?.map fun s=>(i,s)with
 |none=>lJ w 5
 |some (i,s)=>if again=true/\(s.last.getD a.part.toNat jV).kind=0 then lJ w 15 else
  let s1:=if again then s else eL s a.part.toNat a.text
  let w1:={w with sns:=w.sns.set i s1}
  if a.lost=1 then lJ w1 14 else((dN w1 s1 a.part.toNat).1,fL a (dN w1 s1 a.part.toNat).2)
def sX (s:Sn):Sn:={s with inn:=false,last:=s.last.map fun e=>if e.txn then jV else e}
def jE (w:Wa) (a:Act):Wa×An:=match (eK w.sns a.name).bind fun i=>w.sns[i]?.map fun s=>(i,s)with
 |none=>lJ w 5
 |some (i,s)=>if s.inn=false then lJ w 12 else if a.lost=1 then lJ w 14 else
  if(js w.co s.name s.ver (decide (a.n=1))).2=0 then({w with co:=(js w.co s.name s.ver (decide (a.n=1))).1,sns:=if a.lost=0 then w.sns.set i (sX s)else w.sns},fL a ⟨0,0,[]⟩)else(w,fL a ⟨(js w.co s.name s.ver (decide (a.n=1))).2,0,[]⟩)
def da (t:Tx):cz:=⟨0,t.pid,t.ver,0,if t.state=4 then 3 else 2,true,⟨#[]⟩⟩
def nj (w:Wa) (a:Act):Wa×An:=match ia w.co.txs a.n.toNat with
 |none=>lJ w 15
 |some t=>if(lK w (t.parts.headD 0).toNat (da t)).2.code=0 then({(lK w (t.parts.headD 0).toNat (da t)).1 with co:=(oO w.co t.name (t.parts.headD 0)).1},(lK w (t.parts.headD 0).toNat (da t)).2)else lK w (t.parts.headD 0).toNat (da t)
def wO (w:Wa) (a:Act):Wa×An:=({w with co:=(ij w.co a.n).1,gr:=p7 w.gr a.n w.ps.length},⟨0,(ij w.co a.n).1.clock,[]⟩)
def jo (p:fD) (a:Act):fD×Int×Int:=
 if a.kind=8 then jc p a.n.toNat else if a.kind=9 then((oh p a.n.toNat).1,0,(oh p a.n.toNat).2)else if a.kind=10 then((kE p a.n.toNat a.m.toNat).1,0,(kE p a.n.toNat a.m.toNat).2)else
 if a.kind=11 then((p9 p a.n.toNat).1,0,(p9 p a.n.toNat).2)else if a.kind=12 then((oe p a.n.toNat).1,0,(oe p a.n.toNat).2)else if a.kind=13 then((fU p a.n.toNat).1,0,(fU p a.n.toNat).2)else
 if a.kind=14 then((hZ p a.n.toNat).1,0,(hZ p a.n.toNat).2)else((fT p a.n.toNat).1,0,(fT p a.n.toNat).2)
def rT (w:Wa) (a:Act):Wa×An:=match w.ps[a.part.toNat]? with
 |none=>lJ w 5
 |some p=>if(jo p a).2.2=0 then({w with ps:=w.ps.set a.part.toNat (jo p a).1},⟨0,(jo p a).2.1,[]⟩)else lJ w (jo p a).2.2
inductive DH (p:fD) (a most:Nat):An->Prop
 |none:p.leader<0->DH p a most ⟨8,0,[]⟩
 |range (l:Nat) (r:RA):p.leader=l->p.reps[l]? =some r->r.es.length<a->DH p a most ⟨2,0,[]⟩
 |ok (l:Nat) (r:RA) (st:Nat) (out:List ByteArray) (b:Nat):p.leader=l->p.reps[l]? =some r->a<=r.es.length->t6 (r.es.take r.high.toNat) st->BX r.es r.high.toNat st a most out b->DH p a most ⟨0,(b:Nat),out⟩
inductive rb (w:Wa) (a:Act):An->Prop
 |no:(eR w.gr a.name a.part).2≠0->rb w a ⟨(eR w.gr a.name a.part).2,0,[]⟩
 |yes (p:fD) (x:An):(eR w.gr a.name a.part).2=0->w.ps[a.part.toNat]? =some p->DH p (eR w.gr a.name a.part).1.toNat a.n.toNat x->rb w a x
def HH (w:Wa) (a:Act):Gr×Int:=if a.kind=16 then tj w.gr a.name w.ps.length else if a.kind=18 then xF w.gr a.name a.n else sE w.gr a.name a.n a.part a.m
def AI (w:Wa) (a:Act):Wa×An:=if(HH w a).2=0 then({w with gr:=(HH w a).1},⟨0,(HH w a).1.gen,[]⟩)else lJ w (HH w a).2
section
/-- an act that the laws play -/
structure qy (np nr:Nat) (a:Act):Prop where
 kind:1<=a.kind/\a.kind<=20/\a.kind≠17
 name:a.kind=1∨a.kind=16∨a.kind=18∨a.kind=19∨a.kind=20->bL a.name=true
 part:0<=a.part/\a.part<np
 n:0<=a.n/\a.n<=1000
 rep:8<=a.kind->a.kind<=15->a.n<nr
 fin:a.kind=5->a.n<=1
 poll:a.kind=19->1<=a.n/\a.n<=20
 m:0<=a.m/\a.m<=1000
 text:a.text.size<=40
 lost:0<=a.lost/\a.lost<=2
def oV (w:Wa) (a:Act):Wa×An:=
 if a.kind=1 then mN w a else if a.kind=2 then kJ w a else if a.kind=3∨a.kind=4 then jg w a (decide (a.kind=4))else if a.kind=5 then jE w a else
 if a.kind=6 then nj w a else if a.kind=7 then wO w a else if a.kind<=15 then rT w a else AI w a
inductive tG (w:Wa) (a:Act):Wa->An->Prop
 |poll (x:An):a.kind=19->rb w a x->tG w a w x
 |other:a.kind≠19->tG w a (oV w a).1 (oV w a).2
def KW (p:fD):Prop:= ∀ (i:Nat) (x:RA),p.reps[i]? =some x->vr x.es
theorem KW.set {p:fD} (h:KW p) {r:Nat} {x':RA} (hx:vr x'.es):KW {p with reps:=p.reps.set r x'}:=fun i y hy=>by
 rcases eZ hy with⟨_,rfl⟩|⟨_,hy⟩
 exact hx
 exact h i y hy
theorem KW.adv {p:fD} (h:KW p):KW (lU p):=fun i y hy=>by
 obtain⟨z,hz,he,-,-⟩:=zR hy
 rw[he];exact h i z hz
def Gt (K:List cz) (m n:Nat) (few:Int) (p:fD):Prop:=Gd (fun _=>True) K m n few p/\KW p
theorem HK {K:List cz} {p:fD} (h:zE K p) {i j:Nat} {x y:RA} (hx:p.reps[i]? =some x) (hy:p.reps[j]? =some y):x.es.take (ei x.es y.es)=y.es.take (ei x.es y.es):=by
 cases hc:ei x.es y.es with
 |zero=>simp
 |succ c=>
  obtain⟨e,f,h1,h2,h3⟩:=wd (a:=x.es) (b:=y.es) (k:=c) I
  exact h.lm i j x y c e f hx hy h1 h2 h3
theorem Km {K:List cz} {p:fD} {r:Nat} (hp:p.ok) (hi:zE K p) (h:KW p) (he:(jc p r).2.2=0):KW (jc p r).1:=by
 obtain⟨x,y,l,hx,hl,hne,hu,hy⟩:=yu hp he
 rw[r8 hx hl hne hu hy]
 have hm:=HK hi hx hy
 intro i z hz
 rcases eZ hz with⟨_,rfl⟩|⟨_,hz⟩
 unfold jn
 split
 rename_i z hz
 dsimp only
 rw[hm,<-eu hz];exact(h l y hy).take _
 dsimp only
 exact(h r x hx).take _
 rcases eZ hz with⟨_,rfl⟩|⟨_,hz⟩
 exact h l y hy
 exact h i z hz
variable {K:List cz} {m n:Nat} {few:Int} {p:fD} {r:Nat}
theorem Pz {e:cz} (h:Gt K m n few p) (hm:m<400) (he:(er p e).2.2=0): ∃ K',K<+:K'/\Gt K' (m+1) n few (er p e).1:=by
 obtain⟨K',h1,h2⟩:=PA h.1 trivial hm he
 refine⟨K',h1,h2,?_⟩
 obtain⟨x,l,hl,hx,hg,hv,hS⟩:=Ea he
 rcases hS with⟨-,hS,-⟩|⟨hv1,-,hS,-⟩
 rw[hS];exact h.2
 rw[hS];exact h.2.set (.snoc (h.2 l x hx) hv hv1)
theorem NS {a:Act} (h:Gt K m n few p) (he:(jo p a).2.2=0): ∃ K',K<+:K'/\Gt K' m n few (jo p a).1:=by
 unfold jo at he⊢
 split at he
 rename_i c;rw[if_pos c]
 obtain⟨K',h1,h2⟩:=MS h.1 he
 exact⟨K',h1,h2,Km h.1.ok h.1.inv h.2 he⟩
 rename_i c;rw[if_neg c];clear c
 split at he
 rename_i c;rw[if_pos c]
 obtain⟨K',h1,h2⟩:=NG h.1 he
 refine⟨K',h1,h2,?_⟩
 obtain⟨x,hx,hu,hS⟩:=Ac he
 dsimp only at hS⊢
 rw[hS]
 have:=h.2 _ x hx
 split
 exact KW.adv (fun i y hy=>by
  rcases eZ hy with⟨_,rfl⟩|⟨_,hy⟩
  exact this
  exact h.2 i y hy)
 exact h.2.set this
 rename_i c;rw[if_neg c];clear c
 split at he
 rename_i c;rw[if_pos c]
 obtain⟨K',h1,h2⟩:=M8 h.1 he
 refine⟨K',h1,h2,?_⟩
 obtain⟨x,hx,hu,hS⟩:=Dy he
 dsimp only at hS⊢
 rw[hS]
 intro i y hy
 rcases eZ hy with⟨_,rfl⟩|⟨_,hy⟩
 exact(h.2 _ x hx).take _
 exact h.2 i y hy
 rename_i c;rw[if_neg c];clear c
 split at he
 rename_i c;rw[if_pos c]
 obtain⟨K',h1,h2⟩:=NQ h.1 he
 refine⟨K',h1,h2,?_⟩
 obtain⟨x,hx,hu,hS⟩:=FF he
 dsimp only at hS⊢
 rw[hS]
 exact h.2.set (h.2 _ x hx)
 rename_i c;rw[if_neg c];clear c
 split at he
 rename_i c;rw[if_pos c]
 obtain⟨K',h1,h2⟩:=NC h.1 he
 refine⟨K',h1,h2,?_⟩
 obtain⟨x,hx,hu,-,hS⟩:=Fd he
 dsimp only at hS⊢
 rw[hS]
 intro i y hy
 rcases eZ hy with⟨_,rfl⟩|⟨_,hy⟩
 exact .nil
 exact h.2 i y hy
 rename_i c;rw[if_neg c];clear c
 split at he
 rename_i c;rw[if_pos c]
 obtain⟨K',h1,h2⟩:=M3 h.1 he
 refine⟨K',h1,h2,?_⟩
 obtain⟨x,hx,-,-,-,-,hS⟩:=Dv h.1.ok.isrl he
 dsimp only at hS⊢
 rw[hS]
 exact KW.adv fun i y hy=>h.2 i y hy
 rename_i c;rw[if_neg c];clear c
 split at he
 rename_i c;rw[if_pos c]
 obtain⟨K',h1,h2⟩:=JC h.1 he
 refine⟨K',h1,h2,?_⟩
 obtain⟨-,-,hS⟩:=Am he
 dsimp only at hS⊢
 rw[hS]
 exact KW.adv fun i y hy=>h.2 i y hy
 rename_i c;rw[if_neg c]
 obtain⟨K',h1,h2⟩:=Kn h.1 he
 refine⟨K',h1,h2,?_⟩
 obtain⟨x,-,-,-,-,-,hS⟩:=BA he
 dsimp only at hS⊢
 rw[hS]
 exact fun i y hy=>h.2 i y hy
structure Nw (np nr:Nat) (few:Int) (k:Nat) (K:Nat->List cz) (ps:List fD):Prop where
 len:ps.length=np
 gt: ∀ (n:Nat) (p:fD),ps[n]? =some p->Gt (K n) k nr few p
theorem Gt.mono (h:Gt K m n few p) {m':Nat} (hm:m<=m'):Gt K m' n few p:=⟨h.1.mono hm,h.2⟩
theorem Nw.more {np nr k k':Nat} {few:Int} {K:Nat->List cz} {ps:List fD} (h:Nw np nr few k K ps) (hk:k<=k'):Nw np nr few k' K ps:=⟨h.len,fun n p hp=>(h.gt n p hp).mono hk⟩
def Up (K K':Nat->List cz):Prop:= ∀ n,K n<+:K' n
theorem Up.refl (K:Nat->List cz):Up K K:=fun _=>fz _
theorem Up.trans {K K' K2:Nat->List cz} (h:Up K K') (h':Up K' K2):Up K K2:=fun n=>(h n).trans (h' n)
theorem Nw.set {np nr k:Nat} {few:Int} {K:Nat->List cz} {ps:List fD} (h:Nw np nr few k K ps) {n:Nat} {p':fD} (hg: ∃ K',K n<+:K'/\Gt K' k nr few p'): ∃ K',Up K K'/\Nw np nr few k K' (ps.set n p'):=by
 obtain⟨K1,h1,h2⟩:=hg
 refine⟨fun i=>if i=n then K1 else K i,fun i=> ?_,by rw[ae];exact h.len,fun i q hq=> ?_⟩
 dsimp only
 split
 rename_i hi;rw[hi];exact h1
 exact fz _
 rcases eZ hq with⟨rfl,rfl⟩|⟨hi,hq⟩
 rw[if_pos Z];exact h2
 rw[if_neg hi];exact h.gt i q hq
structure KX (np k:Nat) (s:Sn):Prop where
 nm:bL s.name=true
 sl:s.seqs.length=np
 ll:s.last.length=np
 sq: ∀ q∈s.seqs,0<=q/\q<=k
structure CR (np k:Nat) (l:List Sn):Prop where
 each: ∀ s∈l,KX np k s
 few:l.length<=k
theorem KX.more {np k k':Nat} {s:Sn} (h:KX np k s) (hk:k<=k'):KX np k' s:=⟨h.nm,h.sl,h.ll,fun q hq=>by have:=h.sq q hq;omega⟩
theorem CR.more {np k k':Nat} {l:List Sn} (h:CR np k l) (hk:k<=k'):CR np k' l:=⟨fun s hs=>(h.each s hs).more hk,aU h.few hk⟩
theorem CR.set {np k i:Nat} {l:List Sn} {s:Sn} (h:CR np k l) (hs:KX np k s):CR np k (l.set i s):=⟨fun x hx=>by
 rcases aM hx with hx|rfl
 exact h.each x hx
 exact hs,by rw[ae];exact h.few⟩
structure WI (np nr:Nat) (few wt:Int) (k:Nat) (K:Nat->List cz) (w:Wa):Prop where
 ps:Nw np nr few k K w.ps
 co:oY k w.co
 gr:rf (fun _=>True) wt np k w.gr
 sns:CR np k w.sns
theorem WI.more {np nr k k':Nat} {few wt:Int} {K:Nat->List cz} {w:Wa} (h:WI np nr few wt k K w) (hk:k<=k'):WI np nr few wt k' K w:=⟨h.ps.more hk,h.co.more hk,h.gr.more hk,h.sns.more hk⟩
theorem uZ {l:List Sn} {s:ByteArray} {i:Nat} {x:Sn} (h:((eK l s).bind fun i=>l[i]?.map fun s=>(i,s))=some (i,x)):l[i]? =some x/\x.name=s:=by
 cases hf:eK l s with
 |none=>rw[hf]at h;cases h
 |some j=>
  rw[hf]at h
  obtain⟨hl,h1,-⟩:=aS.1 hf
  simp only[fx,ah hl,eY,lB,Prod.mk.injEq]at h
  obtain⟨rfl,rfl⟩:=h
  exact⟨ah hl,by simpa using h1⟩
end
def Nz:Deep Co:=⟨fun c=>c.rd,fun _ _ _ _ _ hk h=>h.st hk,fun _ _ _ _ _ _ h h1 h2=>h.mono h1 h2⟩
def ov:Nat->ByteArray
 |0=>⟨#[97,110,110]⟩
 |1=>⟨#[98,111,98]⟩
 |_=>⟨#[99,121]⟩
theorem Oe:bL ⟨#[97,110,110]⟩=true:=by kernel_rfl
theorem Od:bL ⟨#[98,111,98]⟩=true:=by kernel_rfl
theorem zK:bL ⟨#[99,121]⟩=true:=by kernel_rfl
theorem rj: ∀ m:Nat,bL (ov m)=true
 |0=>Oe
 |1=>Od
 |_+2=>zK
theorem Mn {m:Nat} (h:m<3):(qm [.string ⟨#[97,110,110]⟩,.string ⟨#[98,111,98]⟩,.string ⟨#[99,121]⟩]).toArray[0+((m:Nat):Int).toNat*1]? =some (.string (ov m)):=by
 match m,h with
 |0,_=>rfl
 |1,_=>rfl
 |2,_=>rfl
def wB (P:ByteArray->Prop) (wt:Int) (c:Co):Prop:=c.wait=wt/\ ∀ t∈c.txs,P t.name
theorem wB.set {P:ByteArray->Prop} {wt:Int} {c:Co} {i:Nat} {t t':Tx} (h:wB P wt c) (hi:c.txs[i]? =some t) (hn:t'.name=t.name):wB P wt (p8 c i t'):=⟨h.1,fun x hx=>by
 rcases Ej hx with hx|rfl
 exact h.2 x hx
 rw[hn];exact h.2 t (ab hi)⟩
theorem wB.init {P:ByteArray->Prop} {wt:Int} {c:Co} {s:ByteArray} (h:wB P wt c) (hs:P s) (he:(bB c s).2.2.2=0):wB P wt (bB c s).1:=by
 unfold bB at he⊢
 split
 rename_i hf
 rw[hf]at he
 dsimp only at he
 split at he
 cases he
 rename_i hl
 rw[if_neg hl]
 refine⟨h.1,fun t ht=> ?_⟩
 rcases ap.1 ht with ht|ht
 exact h.2 t ht
 rw[aq.1 ht];exact hs
 rename_i i t hf
 rw[hf]at he
 dsimp only at he
 split at he
 cases he
 rename_i hl
 rw[if_neg hl]
 exact h.set (gg hf).2.1 (by unfold ja;split<;>rfl)
theorem wB.add {P:ByteArray->Prop} {wt:Int} {c:Co} {s:ByteArray} {ver p:Int} (h:wB P wt c) (he:(m3 c s ver p).2=0):wB P wt (m3 c s ver p).1:=by
 unfold m3 at he⊢
 split
 rename_i hf;rw[hf]at he;cases he
 rename_i i t hf
 rw[hf]at he
 dsimp only at he
 split at he
 cases he
 rename_i hv
 rw[if_neg hv]
 split at he
 rename_i h1
 rw[if_pos h1]
 exact h.set (gg hf).2.1 (by unfold iM;split<;>rfl)
 cases he
theorem Io {w:Int} {t t':Tx} (h:eE w t=some t'):t'.name=t.name:=by
 unfold eE at h
 split at h
 injection h with h;subst h;rfl
 split at h
 injection h with h;subst h;rfl
 split at h
 injection h with h;subst h;rfl
 cases h
theorem wB.end_ {P:ByteArray->Prop} {wt:Int} {c:Co} {s:ByteArray} {ver:Int} {b:Bool} (h:wB P wt c) (he:(js c s ver b).2=0):wB P wt (js c s ver b).1:=by
 unfold js at he⊢
 split
 rename_i hf;rw[hf]at he;cases he
 rename_i i t hf
 rw[hf]at he
 dsimp only at he
 split at he
 cases he
 rename_i hv
 rw[if_neg hv]
 split at he
 cases he
 rename_i t' hx
 exact h.set (gg hf).2.1 (Io hx)
theorem wB.done {P:ByteArray->Prop} {wt:Int} {c:Co} {s:ByteArray} {p:Int} (h:wB P wt c) (he:(oO c s p).2=0):wB P wt (oO c s p).1:=by
 unfold oO at he⊢
 split
 rename_i hf;rw[hf]at he;cases he
 rename_i i t hf
 rw[hf]at he
 dsimp only at he
 split at he
 rename_i h1
 rw[if_pos h1]
 split at he
 rename_i h2
 rw[if_pos h2]
 exact h.set (gg hf).2.1 (by unfold gH;split<;>rfl)
 cases he
 cases he
theorem wB.tick {P:ByteArray->Prop} {wt:Int} {c:Co} {n:Int} (h:wB P wt c) (he:(ij c n).2=0):wB P wt (ij c n).1:=by
 unfold ij at he⊢
 split at he
 cases he
 rename_i h1
 rw[if_neg h1]
 refine⟨h.1,fun t ht=> ?_⟩
 obtain⟨x,hx,rfl⟩:=bp.1 (show t∈c.txs.map _ from ht)
 have:(ft (c.clock+n) c.wait x).name=x.name:=by unfold ft;split<;>rfl
 rw[this];exact h.2 x hx
theorem wB.a {P:ByteArray->Prop} {wt:Int} {c:Co} (h:wB P wt c):wB P wt c.a:=⟨h.1,fun t ht=>by
 obtain⟨x,hx,rfl⟩:=bp.1 (show t∈c.txs.map Tx.a from ht)
 exact h.2 x hx⟩
theorem wB.of_a {P:ByteArray->Prop} {wt:Int} {c:Co} (h:wB P wt c.a):wB P wt c:=⟨h.1,fun t ht=>h.2 t.a (bS (f:=Tx.a) ht)⟩
def vy (s:ByteArray):Prop:= ∃ m,s=ov m
def RK (k:Nat) (c:Co):Prop:=oY k c/\wB vy 10 c
theorem RK.next {k:Nat} {r:Co×Int} {c':Co} (h1:r.2=0->oY (k+1) r.1) (h2:r.2=0->wB vy 10 r.1) (ha:c'.a=r.1):r.2=0->RK (k+1) c':=fun h=>⟨oY.of_a (ha▸h1 h),wB.of_a (ha▸h2 h)⟩
theorem MB (n:Int) (w:World) (hn:i64 n):dh aa vg [J n] w fun v w2=>v=.string (ov (pk n 3))/\Below w.heap.size w w2:=by
 refine aE uc Z Z ?_
 have H:=Hp.start w
 refine W<|Zr<|G (Wt Z)<|U<|W<|Zr<|s9 (vs:=[.string ⟨#[97,110,110]⟩,.string ⟨#[98,111,98]⟩,.string ⟨#[99,121]⟩]) H iy wH Z Z Z Z Z Z fun w1 b3 H=>G (Yi Z)<|ch aG (di n 3 _ hn.1 hn.2 I I) Z Z ?_
 rintro _ w2 ⟨rfl,hb⟩;replace H:=H.later hb;clear hb
 have hm:=iZ n (show 0<3 by omega)
 refine G (tk iy Z Z I I)<|G (aW bd Z (aB (H.ent (i:=0) Z) (Mn hm)))<|G (Wt Z)<|U<|Zt ?_
 exact cH Z Z ⟨rfl,H.below⟩
theorem MN {c:Co} (h:gI c=true) {t:Tx} (ht:t∈c.txs): ∃ i,fS c t.name=some (i,t):=by
 obtain⟨-,-,h3⟩:=fH.1 h
 obtain⟨i,hi⟩:=aT.1 ht
 obtain⟨hl,he⟩:=cC hi
 have:(c.txs.findIdx? fun p=>decide (p.name=t.name))=some i:=by
  rw[aS]
  refine⟨hl,by rw[he];simp,fun j hj=> ?_⟩
  unfold uG at h3
  rw[gm,m8]at h3
  have:=(h3 j i I hl hj).1
  rw[he]at this
  simpa using this
 exact⟨i,by unfold fS;rw[this];simp[hi]⟩
theorem ye {c:Co} (h:gI c=true) {n:Nat} {t:Tx} (ht:ia c.txs n=some t):(∃ i,fS c t.name=some (i,t))/\(t.state=3∨t.state=4)/\t.parts.headD 0∈t.parts/\0<=t.parts.headD 0/\t.parts.headD 0<4:=by
 unfold ia at ht
 obtain⟨hm,he⟩:=kZ.1 (ab ht)
 have hs:t.state=3∨t.state=4:=by unfold gW at he;simpa using he
 have hx:=cv.1 ((fH.1 h).2.1 t hm)
 have hp:t.parts.headD 0∈t.parts:=by
  cases hp:t.parts with
  |nil=>have:=hx.2.2.2.2.2.2.2.2.2.2.2 (by rw[hp];rfl);omega
  |cons a l=>simp
 exact⟨MN h hm,hs,hp,by have:=(fQ hx.2.2.2.2.2.2.2.2.2.1).2 _ hp;omega⟩
theorem BF {c:Co} {s:ByteArray} {p:Int} {i:Nat} {t:Tx} (hf:fS c s=some (i,t)) (h34:t.state=3∨t.state=4) (hp:p∈t.parts):(oO c s p).2=0:=by
 unfold oO
 rw[hf]
 dsimp only
 rw[if_pos h34,if_pos hp]
theorem FW {α:Type} [DecidableEq α]: ∀ {l m:List α},l.Pairwise (· ≠ ·)->(∀ x∈l,x∈m)->l.length<=m.length
 |[],_,_,_=>bG _
 |x::l,m,hp,hs=>by
  obtain⟨h1,h2⟩:=dY.1 hp
  have hx:=hs x (az ..)
  have:=FW (l:=l) (m:=m.erase x) h2 fun y hy=>(List.mem_erase_of_ne fun h=>h1 y hy h.symm).2 (hs y (aj _ hy))
  rw[List.length_erase_of_mem hx]at this
  have:=List.length_pos_of_mem hx
  simp only[bV]
  omega
theorem Fo {s:ByteArray} (h:vy s):s∈[ov 0,ov 1,ov 2]:=by
 obtain⟨m,rfl⟩:=h
 match m with
 |0=>exact az ..
 |1=>exact aj _ (az ..)
 |m+2=>exact aj _ (aj _ (az ..))
theorem OH {c:Co} {s:ByteArray} (h: ∀ t∈c.txs,t.name≠s):fS c s=none:=by
 unfold fS
 rw[cV.2 fun t ht=>decide_eq_false (h t ht)]
 rfl
abbrev za:ByteArray:=⟨#[100,101,101]⟩
abbrev PI:ByteArray:=⟨#[110,111,98,111,100,121]⟩
theorem Jw {s:ByteArray} (h:vy s):s≠za/\s≠PI:=by
 have:=Fo h
 simp only[ax,bU,or_false]at this
 rcases this with rfl|rfl|rfl<;>exact⟨by decide,by decide⟩
def wt2 (k:Nat):Co:=⟨0,2,k,[⟨za,1,0,2,[1],0,0,none,0⟩],none,0⟩
section
variable {np nr k:Nat} {few wt:Int} {K:Nat->List cz} {w:Wa} {a:Act}
theorem Oi {s:ByteArray} (h:bL s=true) (pid ver:Int) (np k:Nat):KX np k (lZ s pid ver np):=⟨h,by simp[lZ],by simp[lZ],fun q hq=>by
 have:q=0:=by
  unfold lZ at hq
  exact dg hq
 omega⟩
theorem N0 {l:List Sn} {s:Sn} (h:CR np k l) (hs:KX np (k+1) s):CR np (k+1) (tf l s):=by
 unfold tf
 split
 refine⟨fun x hx=> ?_,by have:=h.few;simp;omega⟩
 rcases ap.1 hx with hx|hx
 exact(h.each x hx).more (bC k)
 rw[aq.1 hx];exact hs
 exact(h.more (bC k)).set hs
theorem pd (h:WI np nr few wt k K w) (e:Int): ∃ K',Up K K'/\WI np nr few wt (k+1) K' (lJ w e).1:=⟨K,Up.refl K,h.more (bC k)⟩
theorem OA (h:WI np nr few wt k K w) (hk:k<400) (hn:bL a.name=true): ∃ K',Up K K'/\WI np nr few wt (k+1) K' (mN w a).1:=by
 unfold mN
 split
 rename_i h0
 exact⟨K,Up.refl K,h.ps.more (bC k),I4 h.co I hn h0,h.gr.more (bC k),N0 h.sns (by rw[h.ps.len];exact Oi hn ..)⟩
 exact pd h _
theorem Na (h:WI np nr few wt k K w): ∃ K',Up K K'/\WI np nr few wt (k+1) K' (kJ w a).1:=by
 unfold kJ
 split
 exact pd h _
 rename_i i s hf
 split
 exact pd h _
 have hs:=h.sns.each s (ab (uZ hf).1)
 exact⟨K,Up.refl K,h.ps.more (bC k),h.co.more (bC k),h.gr.more (bC k),(h.sns.set (s:={s with inn:=true}) ⟨hs.nm,hs.sl,hs.ll,hs.sq⟩).more (bC k)⟩
theorem LQ (h:Nw np nr few k K w.ps) (hk:k<400) (n:Nat) (x:cz):(∃ K',Up K K'/\Nw np nr few (k+1) K' (lK w n x).1.ps)/\(lK w n x).1.co=w.co/\(lK w n x).1.gr=w.gr/\(lK w n x).1.sns=w.sns:=by
 unfold lK
 split
 exact⟨⟨K,Up.refl K,h.more (bC k)⟩,rfl,rfl,rfl⟩
 rename_i p hp
 split
 rename_i h0
 exact⟨(h.more (bC k)).set (Pz (h.gt n p hp) hk h0),rfl,rfl,rfl⟩
 exact⟨⟨K,Up.refl K,h.more (bC k)⟩,rfl,rfl,rfl⟩
theorem Kz (h:Nw np nr few k K w.ps) (hc:oY k w.co) (hk:k<400) (s:Sn) {n:Nat} (hn:n<4):(∃ K',Up K K'/\Nw np nr few (k+1) K' (dN w s n).1.ps)/\oY (k+1) (dN w s n).1.co/\(dN w s n).1.gr=w.gr/\(dN w s n).1.sns=w.sns:=by
 unfold dN
 split
 exact⟨⟨K,Up.refl K,h.more (bC k)⟩,hc.more (bC k),rfl,rfl⟩
 rename_i x hx
 split
 rename_i h0
 obtain⟨h1,h2,h3,h4⟩:=LQ (w:={w with co:=(n7 w s n x).1}) h hk n x
 refine⟨h1,?_,h3,h4⟩
 rw[h2]
 show oY (k+1) (n7 w s n x).1
 unfold n7 at h0⊢
 split
 rename_i ht
 rw[if_pos ht]at h0
 exact Ji hc I I h0
 exact hc.more (bC k)
 exact⟨⟨K,Up.refl K,h.more (bC k)⟩,hc.more (bC k),rfl,rfl⟩
theorem Mr {s:Sn} (h:KX np k s) (n:Nat) (t:ByteArray):KX np (k+1) (eL s n t):=⟨h.nm,by unfold eL;simp[h.sl],by unfold eL;simp[h.ll],fun q hq=>by
 rcases aM hq with hq|rfl
 have:=h.sq q hq;omega
 by_cases hn:n<s.seqs.length
 have:=h.sq (s.seqs.getD n 0) (by rw[bY,ah hn];exact vU hn);omega
 have:s.seqs.getD n 0=0:=by rw[bY,cL I];rfl
 omega⟩
theorem NO (h:WI np nr few wt k K w) (hk:k<400) (hp:0<=a.part/\a.part<np) (h4:np<=4) (again:Bool): ∃ K',Up K K'/\WI np nr few wt (k+1) K' (jg w a again).1:=by
 unfold jg
 split
 exact pd h _
 rename_i i s hf
 split
 exact pd h _
 have hs:=h.sns.each s (ab (uZ hf).1)
 have hs1:KX np (k+1) (if again then s else eL s a.part.toNat a.text):=by
  split
  exact hs.more (bC k)
  exact Mr hs _ _
 generalize (if again then s else eL s a.part.toNat a.text)=s1 at hs1
 have hl:CR np (k+1) (w.sns.set i s1):=(h.sns.more (bC k)).set hs1
 dsimp only
 split
 exact⟨K,Up.refl K,h.ps.more (bC k),h.co.more (bC k),h.gr.more (bC k),hl⟩
 obtain⟨⟨K',h1,h2⟩,h3,h5,h6⟩:=Kz (w:={w with sns:=w.sns.set i s1}) h.ps h.co hk s1 (n:=a.part.toNat) I
 exact⟨K',h1,h2,h3,by rw[h5];exact h.gr.more (bC k),by rw[h6];exact hl⟩
theorem M5 {s:Sn} (h:KX np k s):KX np k (sX s):=⟨h.nm,h.sl,by unfold sX;simp[h.ll],h.sq⟩
theorem Kl (h:WI np nr few wt k K w): ∃ K',Up K K'/\WI np nr few wt (k+1) K' (jE w a).1:=by
 unfold jE
 split
 exact pd h _
 rename_i i s hf
 split
 exact pd h _
 split
 exact pd h _
 have hs:=h.sns.each s (ab (uZ hf).1)
 split
 rename_i h0
 refine⟨K,Up.refl K,h.ps.more (bC k),Ja h.co h0,h.gr.more (bC k),?_⟩
 dsimp only
 split
 exact(h.sns.set (M5 hs)).more (bC k)
 exact h.sns.more (bC k)
 exact⟨K,Up.refl K,h.more (bC k)⟩
theorem On (h:WI np nr few wt k K w) (hk:k<400): ∃ K',Up K K'/\WI np nr few wt (k+1) K' (nj w a).1:=by
 unfold nj
 split
 exact pd h _
 rename_i t ht
 obtain⟨⟨i,hf⟩,h34,hp,h0,h4⟩:=ye h.co.ok ht
 obtain⟨⟨K',h1,h2⟩,h3,h5,h6⟩:=LQ h.ps hk (t.parts.headD 0).toNat (da t)
 split
 exact⟨K',h1,h2,GN h.co (BF hf h34 hp),by rw[h5];exact h.gr.more (bC k),by rw[h6];exact h.sns.more (bC k)⟩
 exact⟨K',h1,h2,by rw[h3];exact h.co.more (bC k),by rw[h5];exact h.gr.more (bC k),by rw[h6];exact h.sns.more (bC k)⟩
theorem NE (h:WI np nr few wt k K w) (hk:k<400) (h4:np<=4) (hn:0<=a.n/\a.n<=1000): ∃ K',Up K K'/\WI np nr few wt (k+1) K' (wO w a).1:=by
 unfold wO
 exact⟨K,Up.refl K,h.ps.more (bC k),Fm h.co I hn.1 (by unfold ij;rw[if_neg I]),by dsimp only;rw[h.ps.len];exact h.gr.tick h4 I hn.1 hn.2,h.sns.more (bC k)⟩
theorem NR (h:WI np nr few wt k K w): ∃ K',Up K K'/\WI np nr few wt (k+1) K' (rT w a).1:=by
 unfold rT
 split
 exact pd h _
 rename_i p hp
 split
 rename_i h0
 obtain⟨K',h1,h2⟩:=h.ps.set (NS (h.ps.gt _ p hp) h0)
 exact⟨K',h1,h2.more (bC k),h.co.more (bC k),h.gr.more (bC k),h.sns.more (bC k)⟩
 exact pd h _
theorem PL (h:WI np nr few wt k K w) (hk:k<400) (h4:np<=4) (hn:a.kind=16->bL a.name=true) (hm:0<=a.m): ∃ K',Up K K'/\WI np nr few wt (k+1) K' (AI w a).1:=by
 unfold AI
 split
 rename_i h0
 refine⟨K,Up.refl K,h.ps.more (bC k),h.co.more (bC k),?_,h.sns.more (bC k)⟩
 show rf _ wt np (k+1) (HH w a).1
 unfold HH at h0⊢
 rw[h.ps.len]at h0⊢
 split
 rename_i c
 rw[if_pos c]at h0
 exact h.gr.join h4 I (hn c) trivial h0
 rename_i c;rw[if_neg c]at h0
 split
 rename_i c2
 rw[if_pos c2]at h0
 exact h.gr.beat h0
 rename_i c2
 rw[if_neg c2]at h0
 exact h.gr.store hm h0
 exact pd h _
theorem E9 (h:WI np nr few wt k K w) (hk:k<400) (h4:np<=4) (g:qy np nr a) {w':Wa} {x:An} (hA:tG w a w' x): ∃ K',Up K K'/\WI np nr few wt (k+1) K' w':=by
 cases hA with
 |poll x h19 hp=>exact⟨K,Up.refl K,h.more (bC k)⟩
 |other h19=>
  unfold oV
  split
  rename_i c;exact OA h hk (g.name (.inl c))
  split
  exact Na h
  split
  exact NO h hk g.part h4 _
  split
  exact Kl h
  split
  exact On h hk
  split
  exact NE h hk h4 g.n
  split
  exact NR h
  exact PL h hk h4 (fun c=>g.name (.inr (.inl c))) g.m.1
def ow (np nr:Nat) (few wt:Int):Wa:=⟨au np (mL nr few.toNat),⟨0,1,wt,[],none,0⟩,⟨0,wt,0,[],none,0,[],none,0⟩,[]⟩
theorem IZ {few:Nat} (n1:1<=nr) (n5:nr<=5) (f1:1<=few) (f2:few<=nr) (w1:1<=wt) (w2:wt<=1000):WI np nr few wt 0 (fun _=>[]) (ow np nr few wt):=by
 refine⟨⟨by simp[ow],fun n p hp=> ?_⟩,⟨fH.2 ⟨⟨(by decide:iK 0=true),by simp[ow],by simp[ow],w1,w2,by simp[ow]⟩,by simp[ow],by simp[ow,uG]⟩,by simp[ow],by simp[ow],by simp[ow]⟩,Oj _ np w1 w2,⟨by simp[ow],by simp[ow]⟩⟩
 have hpe:p=mL nr few:=by
  unfold ow at hp
  simp only[f5]at hp
  split at hp
  cases hp;simp
  cases hp
 rw[hpe]
 refine⟨Ef n1 n5 f1 f2,?_⟩
 intro i x hx
 unfold mL at hx
 simp only[f5]at hx
 split at hx
 cases hx;exact .nil
 cases hx
end
section
theorem JL {es:List cz} {n st a most b b':Nat} {out out':List ByteArray} (h:BX es n st a most out b) (h':BX es n st a most out' b'):out=out'/\b=b':=by
 obtain⟨h1,h2,h3,h4,h5,h6⟩:=h
 obtain⟨g1,g2,g3,g4,g5,g6⟩:=h'
 have hb:b=b':=by
  rcases Nat.lt_trichotomy b b' with hlt|he|hlt
  have:=g6 b h1 hlt
  rw[<-h3]at this
  omega
  exact he
  have:=h6 b' g1 hlt
  rw[<-g3]at this
  omega
 subst hb
 exact⟨h3.trans g3.symm,rfl⟩
theorem JM {p:fD} {a most:Nat} {x y:An} (h:DH p a most x) (h':DH p a most y):x=y:=by
 cases h with
 |none h1=>
  cases h' with
  |none=>rfl
  |range l r g1=>omega
  |ok l r st out b g1=>omega
 |range l r h1 h2 h3=>
  cases h' with
  |none g1=>omega
  |range=>rfl
  |ok l' r' st out b g1 g2 g3=>
   have:l'=l:=by omega
   subst this
   rw[h2]at g2;cases g2;omega
 |ok l r st out b h1 h2 h3 h4 h5=>
  cases h' with
  |none g1=>omega
  |range l' r' g1 g2 g3=>
   have:l'=l:=by omega
   subst this
   rw[h2]at g2;cases g2;omega
  |ok l' r' st' out' b' g1 g2 g3 g4 g5=>
   have:l'=l:=by omega
   subst this
   rw[h2]at g2;cases g2
   have:=HU h4 g4
   subst this
   obtain⟨rfl,rfl⟩:=JL h5 g5
   rfl
theorem JR {w:Wa} {a:Act} {x y:An} (h:rb w a x) (h':rb w a y):x=y:=by
 cases h with
 |no h1=>
  cases h' with
  |no=>rfl
  |yes p x g1=>exact absurd g1 h1
 |yes p x h1 h2 h3=>
  cases h' with
  |no g1=>exact absurd h1 g1
  |yes p' y g1 g2 g3=>
   rw[h2]at g2;cases g2
   exact JM h3 g3
theorem Nu {w:Wa} {a:Act} {w1 w2:Wa} {x y:An} (h:tG w a w1 x) (h':tG w a w2 y):w1=w2/\x=y:=by
 cases h with
 |poll x h1 h2=>
  cases h' with
  |poll y g1 g2=>exact⟨rfl,JR h2 g2⟩
  |other g1=>exact absurd h1 g1
 |other h1=>
  cases h' with
  |poll y g1 g2=>exact absurd g1 h1
  |other g1=>exact⟨rfl,rfl⟩
inductive m6:Wa->List Act->List An->Wa->Prop
 |nil (w:Wa):m6 w [] [] w
 |cons {w w1 w2:Wa} {a:Act} {x:An} {l:List Act} {xs:List An}:tG w a w1 x->m6 w1 l xs w2->m6 w (a::l) (x::xs) w2
theorem m6.app {w w1 w2:Wa} {l m:List Act} {xs ys:List An} (h:m6 w l xs w1) (h':m6 w1 m ys w2):m6 w (l++m) (xs++ys) w2:=by
 induction h with
 |nil=>exact h'
 |cons h1 _ ih=>exact .cons h1 (ih h')
theorem m6.snoc {w w1 w2:Wa} {l:List Act} {a:Act} {xs:List An} {x:An} (h:m6 w l xs w1) (h':tG w1 a w2 x):m6 w (l++[a]) (xs++[x]) w2:=h.app (.cons h' (.nil _))
theorem m6.len {w w1:Wa} {l:List Act} {xs:List An} (h:m6 w l xs w1):xs.length=l.length:=by
 induction h with
 |nil=>rfl
 |cons _ _ ih=>simp[ih]
theorem m6.det {w w1 w2:Wa} {l:List Act} {xs ys:List An} (h:m6 w l xs w1) (h':m6 w l ys w2):xs=ys/\w1=w2:=by
 induction h generalizing ys w2 with
 |nil=>cases h';exact⟨rfl,rfl⟩
 |cons h1 _ ih=>
  cases h' with
  |cons g1 g2=>
   obtain⟨rfl,rfl⟩:=Nu h1 g1
   obtain⟨rfl,rfl⟩:=ih g2
   exact⟨rfl,rfl⟩
theorem m6.split {w w2:Wa} {l m:List Act} {xs:List An} (h:m6 w (l++m) xs w2): ∃ ys zs w1,xs=ys++zs/\m6 w l ys w1/\m6 w1 m zs w2:=by
 induction l generalizing w xs with
 |nil=>exact⟨[],xs,w,rfl,.nil w,h⟩
 |cons a l ih=>
  cases h with
  |cons h1 h2=>
   obtain⟨ys,zs,w1,rfl,h3,h4⟩:=ih h2
   exact⟨_::ys,zs,w1,rfl,.cons h1 h3,h4⟩
theorem m6.later {w w1 w2:Wa} {l m:List Act} {xs ys:List An} (h:m6 w l xs w1) (h':m6 w (l++m) ys w2): ∃ zs,ys=xs++zs:=by
 obtain⟨us,zs,w3,rfl,h1,h2⟩:=h'.split
 obtain⟨rfl,-⟩:=h.det h1
 exact⟨zs,rfl⟩
variable {np nr k:Nat} {few wt:Int} {K:Nat->List cz} {w:Wa}
theorem LH {w w1:Wa} {l:List Act} {xs:List An} (h:m6 w l xs w1): ∀ {k:Nat} {K:Nat->List cz},WI np nr few wt k K w->k+l.length<=400->np<=4->(∀ a∈l,qy np nr a)-> ∃ K',Up K K'/\WI np nr few wt (k+l.length) K' w1:=by
 induction h with
 |nil=>intro k K hw _ _ _;exact⟨K,Up.refl K,hw⟩
 |@cons w wa wb a x l xs h1 _ ih=>
  intro k K hw hk h4 hg
  simp only[bV]at hk
  obtain⟨K1,u1,i1⟩:=E9 hw I h4 (hg a (az ..)) h1
  obtain⟨K2,u2,i2⟩:=ih i1 I h4 fun b hb=>hg b (aj _ hb)
  exact⟨K2,u1.trans u2,by simpa [lg,sv 1]using i2⟩
end
section
/-! where nothing crashes -/
structure Cm (p:fD):Prop where
 ld:p.leader= -1∨p.leader=0
 isr: ∀ b∈p.isr,b=true
 up: ∀ x∈p.reps,x.up=true
def Pd (Nn:Int) (p:fD):Prop:= ∀ x∈p.reps,∀ e∈x.es,e.pid<Nn
theorem Pd.mono {Nn M:Int} {p:fD} (h:Pd Nn p) (hm:Nn<=M):Pd M p:=fun x hx e he=>by have:=h x hx e he;omega
theorem Jh {p:fD} {x:RA} (h:x∈(lU p).reps): ∃ y∈p.reps,x.es=y.es/\x.s=y.s/\x.up=y.up:=by
 obtain⟨i,hi⟩:=aT.1 h
 obtain⟨y,hy,h1⟩:=zR hi
 exact⟨y,ab hy,h1⟩
theorem Cm.adv {p:fD} (h:Cm p):Cm (lU p):=by
 obtain⟨-,-,-,h4,h5,-⟩:=xJ (p:=p)
 exact⟨by rw[h4];exact h.ld,by rw[h5];exact h.isr,fun x hx=>by
  obtain⟨y,hy,-,-,hu⟩:=Jh hx
  rw[hu];exact h.up y hy⟩
theorem Pd.adv {Nn:Int} {p:fD} (h:Pd Nn p):Pd Nn (lU p):=fun x hx e he=>by
 obtain⟨y,hy,hes,-,-⟩:=Jh hx
 rw[hes]at he
 exact h y hy e he
theorem Cm.set {p:fD} (h:Cm p) {r:Nat} {x:RA} (hx:x.up=true):Cm {p with reps:=p.reps.set r x}:=⟨h.ld,h.isr,fun y hy=>by
 rcases aM hy with hy|rfl
 exact h.up y hy
 exact hx⟩
theorem Pd.set {Nn:Int} {p:fD} (h:Pd Nn p) {r:Nat} {x:RA} (hx: ∀ e∈x.es,e.pid<Nn):Pd Nn {p with reps:=p.reps.set r x}:=fun y hy e he=>by
 rcases aM hy with hy|rfl
 exact h y hy e he
 exact hx e he
theorem PC {Nn:Int} {p:fD} {e:cz} (h:Cm p) (hd:Pd Nn p) (he:e.pid<Nn) (h0:(er p e).2.2=0):Cm (er p e).1/\Pd Nn (er p e).1/\(er p e).1.leader=p.leader:=by
 obtain⟨x,l,hl,hx,-,-,hS⟩:=Ea h0
 have hm:=ab hx
 rcases hS with⟨-,hS,-⟩|⟨-,-,hS,-⟩
 rw[hS];exact⟨h,hd,rfl⟩
 rw[hS]
 exact⟨h.set (h.up x hm),hd.set fun y hy=>by
  rcases ap.1 hy with hy|hy
  exact hd x hm y hy
  rw[aq.1 hy];exact he,rfl⟩
theorem NT {Nn:Int} {p:fD} {a:Act} (hok:p.ok) (h:Cm p) (hd:Pd Nn p) (hk:a.kind=8∨a.kind=9) (h0:(jo p a).2.2=0):Cm (jo p a).1/\Pd Nn (jo p a).1/\(jo p a).1.leader=p.leader:=by
 unfold jo at h0⊢
 rcases hk with hk|hk
 rw[if_pos hk]at h0⊢
 obtain⟨x,y,l,hx,hl,hne,hu,hy⟩:=yu hok h0
 rw[r8 hx hl hne hu hy]
 have hmx:=ab hx
 have hmy:=ab hy
 refine⟨⟨h.ld,h.isr,fun z hz=> ?_⟩,fun z hz e he=> ?_,rfl⟩
 rcases aM hz with hz|rfl
 rcases aM hz with hz|rfl
 exact h.up z hz
 exact h.up y hmy
 unfold jn;split<;>exact hu
 rcases aM hz with hz|rfl
 rcases aM hz with hz|rfl
 exact hd z hz e he
 exact hd y hmy e he
 unfold jn at he
 split at he
 rename_i z hz
 rcases ap.1 he with he|he
 exact hd x hmx e (j9 _ _ he)
 rw[aq.1 he];exact hd y hmy z (ab hz)
 exact hd x hmx e (j9 _ _ he)
 rw[if_neg I,if_pos hk]at h0⊢
 obtain⟨x,hx,hu,hS⟩:=Ac h0
 dsimp only at hS⊢
 rw[hS]
 have hmx:=ab hx
 have c1:Cm {p with reps:=p.reps.set a.n.toNat {x with s:=x.es.length}}:=h.set hu
 have c2:Pd Nn {p with reps:=p.reps.set a.n.toNat {x with s:=x.es.length}}:=hd.set (hd x hmx)
 split
 refine⟨Cm.adv ⟨c1.ld,c1.isr,c1.up⟩,Pd.adv c2,?_⟩
 rw[xJ.2.2.2.1]
 exact⟨c1,c2,rfl⟩
theorem Mp (c:Co) (i:Nat) (t:Tx):(p8 c i t).next=c.next:=rfl
theorem Dk {k:Nat} {c:Co} {s:ByteArray} (h:oY k c) (h0:(bB c s).2.2.2=0):c.next<=(bB c s).1.next/\(bB c s).2.1<(bB c s).1.next/\0<(bB c s).2.1:=by
 have hn:1<=c.next:=(fH.1 h.ok).1.2.1
 unfold bB at h0⊢
 split
 rename_i hf
 rw[hf]at h0
 dsimp only at h0
 split at h0
 cases h0
 rename_i hl
 rw[if_neg hl]
 unfold lR
 dsimp only
 omega
 rename_i i t hf
 rw[hf]at h0
 dsimp only at h0
 split at h0
 cases h0
 rename_i hl
 rw[if_neg hl]
 have:=cv.1 (h.at_ (gg hf).2.1)
 dsimp only
 rw[Mp]
 omega
theorem Nm {c:Co} {s:ByteArray} {ver p:Int} (h0:(m3 c s ver p).2=0):(m3 c s ver p).1.next=c.next:=by
 unfold m3 at h0⊢
 split
 rename_i hf;rw[hf]at h0;cases h0
 rename_i i t hf
 rw[hf]at h0
 dsimp only at h0
 split at h0
 cases h0
 rename_i c1
 rw[if_neg c1]
 split at h0
 rename_i c2;rw[if_pos c2];rfl
 cases h0
theorem GI {c:Co} {s:ByteArray} {ver:Int} {b:Bool} (h0:(js c s ver b).2=0):(js c s ver b).1.next=c.next:=by
 unfold js at h0⊢
 split
 rename_i hf;rw[hf]at h0;cases h0
 rename_i i t hf
 rw[hf]at h0
 dsimp only at h0
 split at h0
 cases h0
 rename_i c1
 rw[if_neg c1]
 split at h0
 cases h0
 rfl
theorem Kv {c:Co} {s:ByteArray} {p:Int} (h0:(oO c s p).2=0):(oO c s p).1.next=c.next:=by
 unfold oO at h0⊢
 split
 rename_i hf;rw[hf]at h0;cases h0
 rename_i i t hf
 rw[hf]at h0
 dsimp only at h0
 split at h0
 rename_i c1
 rw[if_pos c1]
 split at h0
 rename_i c2;rw[if_pos c2];rfl
 cases h0
 cases h0
theorem Ju {c:Co} {n:Int} (h0:(ij c n).2=0):(ij c n).1.next=c.next:=by
 unfold ij at h0⊢
 split at h0
 cases h0
 rename_i c1;rw[if_neg c1];rfl
structure G7 (Nn:Int) (s:Sn):Prop where
 pid:0<=s.pid/\s.pid<Nn
 last: ∀ e∈s.last,e.pid<Nn
theorem G7.mono {Nn M:Int} {s:Sn} (h:G7 Nn s) (hm:Nn<=M):G7 M s:=⟨by have:=h.pid;omega,fun e he=>by have:=h.last e he;omega⟩
structure wG (P:ByteArray->Prop) (wt:Int) (w:Wa):Prop where
 ps: ∀ p∈w.ps,Cm p/\Pd w.co.next p
 sns: ∀ s∈w.sns,G7 w.co.next s
 co:wB P wt w.co
def Ld (w w':Wa):Prop:= ∀ (n:Nat) (p:fD),w.ps[n]? =some p->p.leader=0-> ∃ p',w'.ps[n]? =some p'/\p'.leader=0
theorem Ld.refl (w:Wa):Ld w w:=fun _ p h1 h2=>⟨p,h1,h2⟩
theorem Ld.trans {a b c:Wa} (h:Ld a b) (h':Ld b c):Ld a c:=fun n p h1 h2=>by
 obtain⟨p',h3,h4⟩:=h n p h1 h2
 exact h' n p' h3 h4
theorem Ld.ps {w w':Wa} (h:w'.ps=w.ps):Ld w w':=fun n p h1 h2=>⟨p,by rw[h];exact h1,h2⟩
theorem wG.co' {P:ByteArray->Prop} {wt:Int} {w:Wa} (h:wG P wt w) {c:Co} (hn:w.co.next<=c.next) (hc:wB P wt c):wG P wt {w with co:=c}:=⟨fun p hp=>⟨(h.ps p hp).1,(h.ps p hp).2.mono hn⟩,fun s hs=>(h.sns s hs).mono hn,hc⟩
theorem wG.sns' {P:ByteArray->Prop} {wt:Int} {w:Wa} (h:wG P wt w) {l:List Sn} (hl: ∀ s∈l,G7 w.co.next s):wG P wt {w with sns:=l}:=⟨h.ps,hl,h.co⟩
theorem wG.part {P:ByteArray->Prop} {wt:Int} {w:Wa} (h:wG P wt w) {n:Nat} {p:fD} (hc:Cm p/\Pd w.co.next p):wG P wt {w with ps:=w.ps.set n p}:=⟨fun q hq=>by
 rcases aM hq with hq|rfl
 exact h.ps q hq
 exact hc,h.sns,h.co⟩
theorem HQ {w:Wa} {n:Nat} {p p':fD} (hp:w.ps[n]? =some p) (hl:p.leader=0->p'.leader=0):Ld w {w with ps:=w.ps.set n p'}:=fun i q h1 h2=>by
 by_cases hi:n=i
 subst hi
 rw[hp]at h1;cases h1
 exact⟨p',al (cC hp).1,hl h2⟩
 exact⟨q,by show(w.ps.set n p')[i]? =_;rw[bQ hi];exact h1,h2⟩
theorem IS {P:ByteArray->Prop} {wt:Int} {w:Wa} (h:wG P wt w) {n:Nat} {x:cz} (hx:x.pid<w.co.next):wG P wt (lK w n x).1/\Ld w (lK w n x).1/\(lK w n x).1.co=w.co:=by
 unfold lK
 split
 exact⟨h,Ld.refl w,rfl⟩
 rename_i p hp
 split
 rename_i h0
 obtain⟨h1,h2⟩:=h.ps p (ab hp)
 obtain⟨g1,g2,g3⟩:=PC h1 h2 hx h0
 exact⟨h.part ⟨g1,g2⟩,HQ hp (fun hl=>g3.trans hl),rfl⟩
 exact⟨h,Ld.refl w,rfl⟩
theorem Ip {P:ByteArray->Prop} {wt:Int} {w:Wa} (h:wG P wt w) {s:Sn} (hs:G7 w.co.next s) {n:Nat}:wG P wt (dN w s n).1/\Ld w (dN w s n).1:=by
 unfold dN
 split
 exact⟨h,Ld.refl w⟩
 rename_i x hx
 have hxp:=hs.last x (ab hx)
 split
 rename_i h0
 have hn:(n7 w s n x).1.next=w.co.next/\wB P wt (n7 w s n x).1:=by
  unfold n7 at h0⊢
  split
  rename_i ht
  rw[if_pos ht]at h0
  exact⟨Nm h0,h.co.add h0⟩
  exact⟨rfl,h.co⟩
 have h1:=h.co' (c:=(n7 w s n x).1) I hn.2
 obtain⟨g1,g2,-⟩:=IS h1 (n:=n) (x:=x) (by show x.pid<(n7 w s n x).1.next;omega)
 exact⟨g1,(Ld.ps Z).trans g2⟩
 exact⟨h,Ld.refl w⟩
theorem Mq {Nn:Int} {s:Sn} (h:G7 Nn s) (n:Nat) (t:ByteArray):G7 Nn (eL s n t):=⟨h.pid,fun e he=>by
 rcases aM he with he|rfl
 exact h.last e he
 exact h.pid.2⟩
theorem IQ {Nn:Int} {l:List Sn} {i:Nat} {s:Sn} (h: ∀ x∈l,G7 Nn x) (hs:G7 Nn s): ∀ x∈l.set i s,G7 Nn x:=fun x hx=>by
 rcases aM hx with hx|rfl
 exact h x hx
 exact hs
theorem NZ {Nn:Int} {l:List Sn} {s:Sn} (h: ∀ x∈l,G7 Nn x) (hs:G7 Nn s): ∀ x∈tf l s,G7 Nn x:=by
 unfold tf
 split
 intro x hx
 rcases ap.1 hx with hx|hx
 exact h x hx
 rw[aq.1 hx];exact hs
 exact IQ h hs
theorem NV {n:Nat} {e:cz} (h:e∈au n jV):e=jV:=dg h
variable {np nr k:Nat} {few wt wt':Int} {K:Nat->List cz} {P:ByteArray->Prop} {w:Wa} {a:Act}
theorem Nt (hw:WI np nr few wt k K w) (h:wG P wt' w) (g:qy np nr a) (hk:a.kind<=9∨16<=a.kind) (hP:a.kind=1->P a.name) {w':Wa} {x:An} (hA:tG w a w' x):wG P wt' w'/\Ld w w':=by
 cases hA with
 |poll x h19 hp=>exact⟨h,Ld.refl w⟩
 |other h19=>
  unfold oV
  split
  rename_i c
  unfold mN
  split
  rename_i h0
  obtain⟨n1,n2,n3⟩:=Dk hw.co h0
  have h1:=h.co' n1 (h.co.init (hP c) h0)
  refine⟨h1.sns' (NZ h1.sns ⟨⟨?_,n2⟩,fun e he=> ?_⟩),Ld.ps Z⟩
  show 0<=(bB w.co a.name).2.1;omega
  rw[NV he]
  show(0:Int)<(bB w.co a.name).1.next
  omega
  exact⟨h,Ld.refl w⟩
  split
  unfold kJ
  split
  exact⟨h,Ld.refl w⟩
  rename_i i s hf
  split
  exact⟨h,Ld.refl w⟩
  have hs:=h.sns s (ab (uZ hf).1)
  exact⟨h.sns' (IQ h.sns (s:={s with inn:=true}) ⟨hs.pid,hs.last⟩),Ld.ps Z⟩
  split
  unfold jg
  split
  exact⟨h,Ld.refl w⟩
  rename_i i s hf
  split
  exact⟨h,Ld.refl w⟩
  have hs:=h.sns s (ab (uZ hf).1)
  have hs1:G7 w.co.next (if(decide (a.kind=4))=true then s else eL s a.part.toNat a.text):=by
   split
   exact hs
   exact Mq hs _ _
  generalize (if(decide (a.kind=4))=true then s else eL s a.part.toNat a.text)=s1 at hs1
  have h1:=h.sns' (IQ (i:=i) h.sns hs1)
  dsimp only
  split
  exact⟨h1,Ld.ps Z⟩
  obtain⟨g1,g2⟩:=Ip h1 hs1 (n:=a.part.toNat)
  exact⟨g1,(Ld.ps Z).trans g2⟩
  split
  unfold jE
  split
  exact⟨h,Ld.refl w⟩
  rename_i i s hf
  split
  exact⟨h,Ld.refl w⟩
  split
  exact⟨h,Ld.refl w⟩
  split
  rename_i h0
  have hs:=h.sns s (ab (uZ hf).1)
  have h1:=h.co' (by rw[GI h0];exact fj _) (h.co.end_ h0)
  have hN:(1:Int)<=w.co.next:=(fH.1 hw.co.ok).1.2.1
  refine⟨h1.sns' ?_,Ld.ps Z⟩
  split
  refine IQ h1.sns ?_
  show G7 (js w.co s.name s.ver (decide (a.n=1))).1.next (sX s)
  rw[GI h0]
  refine⟨hs.pid,fun e he=> ?_⟩
  unfold sX at he
  obtain⟨y,hy,rfl⟩:=bp.1 he
  split
  show(0:Int)<w.co.next;omega
  exact hs.last y hy
  exact h1.sns
  exact⟨h,Ld.refl w⟩
  split
  unfold nj
  split
  exact⟨h,Ld.refl w⟩
  rename_i t ht
  obtain⟨⟨i,hf⟩,h34,hp,h0,h4⟩:=ye hw.co.ok ht
  have htp:=(cv.1 (hw.co.at_ (gg hf).2.1)).2.2.1
  obtain⟨g1,g2,g3⟩:=IS h (n:=(t.parts.headD 0).toNat) (x:=da t) htp
  split
  have hz:=BF hf h34 hp
  exact⟨g1.co' (by rw[Kv hz,g3];exact fj _) (h.co.done hz),g2.trans (Ld.ps Z)⟩
  exact⟨g1,g2⟩
  split
  unfold wO
  have hz:(ij w.co a.n).2=0:=by unfold ij;rw[if_neg (by have:=g.n;omega)]
  have h1:=h.co' (by rw[Ju hz];exact fj _) (h.co.tick hz)
  exact⟨⟨h1.ps,h1.sns,h1.co⟩,Ld.ps Z⟩
  split
  rename_i c1 c2 c3 c4 c5 c6 c7
  unfold rT
  split
  exact⟨h,Ld.refl w⟩
  rename_i p hp
  split
  rename_i h0
  obtain⟨h1,h2⟩:=h.ps p (ab hp)
  have:=g.kind
  obtain⟨g1,g2,g3⟩:=NT (hw.ps.gt _ p hp).1.ok h1 h2 I h0
  exact⟨h.part ⟨g1,g2⟩,HQ hp (fun hl=>g3.trans hl)⟩
  exact⟨h,Ld.refl w⟩
  unfold AI
  split
  exact⟨⟨h.ps,h.sns,h.co⟩,Ld.ps Z⟩
  exact⟨h,Ld.refl w⟩
end
section
theorem OY: ∀ (bs:List Bool) (ys:List RA) (n:Int),n<=G6 bs ys n
 |[],_,n=>by unfold G6;exact fj _
 |_::_,[],n=>by unfold G6;exact fj _
 |b::bs,y::ys,n=>by
  unfold G6
  have:=OY bs ys (if(b&&y.up)=true then n+1 else n)
  split at this<;>split<;>first|omega|contradiction
theorem Pm {p:fD} (hok:p.ok) (h:Cm p):1<=G6 p.isr p.reps 0:=by
 have h1:=hok.n1
 have h2:=hok.isrl
 cases hi:p.isr with
 |nil=>rw[hi]at h2;simp at h2;omega
 |cons b bs=>
  cases hr:p.reps with
  |nil=>rw[hr]at h1;simp at h1
  |cons y ys=>
   have hb:=h.isr b (by rw[hi];exact az ..)
   have hy:=h.up y (by rw[hr];exact az ..)
   unfold G6
   rw[hb,hy]
   exact OY bs ys 1
theorem LP {p:fD} {x:RA} {e:cz} (hok:p.ok) (hc:Cm p) (hl:p.leader=0) (hf:p.few=1) (hx:p.reps[0]? =some x) (hg:kT {e with epoch:=p.epoch}) (hv:(fc x.es {e with epoch:=p.epoch}).2=0):er p e=if 0<=(fc x.es {e with epoch:=p.epoch}).1 then(p,(fc x.es {e with epoch:=p.epoch}).1,0)else({p with reps:=p.reps.set 0 {x with es:=x.es++[{e with epoch:=p.epoch}]}},(x.es.length:Nat),0):=by
 unfold er
 rw[if_neg I,show p.leader.toNat=0 by omega,hx]
 dsimp only
 rw[if_neg (fun h=>h hg),if_neg (fun h=>h hv)]
 have:=Pm hok hc
 rw[if_neg (show¬ G6 p.isr p.reps 0<p.few by omega)]
theorem C8 {l:List Sn} {s:ByteArray} {i:Nat} {x:Sn} (h:eK l s=some i) (hn:x.name=s):eK (l.set i x) s=some i:=by
 obtain⟨hl,h1,h2⟩:=aS.1 h
 unfold eK
 rw[aS]
 refine⟨by simpa using hl,by simp[hn],fun j hj=> ?_⟩
 rw[List.getElem_set_ne I]
 exact h2 j hj
theorem LR (l:List Sn) (s:Sn): ∃ i,eK (tf l s) s.name=some i/\(tf l s)[i]? =some s:=by
 unfold tf
 split
 rename_i hf
 refine⟨l.length,?_,by simp⟩
 unfold eK at hf⊢
 rw[List.findIdx?_append,hf]
 simp[List.findIdx?_cons]
 rename_i i hf
 obtain⟨hl,h1,h2⟩:=aS.1 hf
 exact⟨i,C8 hf Z,al hl⟩
theorem If {es:List cz} {e:cz} (h0:e.pid≠0) (hf:fC es e.pid=none) (hk:e.kind=1) (hs:e.seq=0):fc es e=(-1,0):=by
 unfold fc mD
 rw[if_neg h0,hf]
 simp[hk,hs]
theorem J1 {es:List cz} {e:cz} {p:Prod} (h0:e.pid≠0) (hf:fC es e.pid=some p) (hk:e.kind=1) (hv:p.ver=e.ver) (hs:e.seq=p.seq+1):fc es e=(-1,0):=by
 unfold fc mD
 rw[if_neg h0,hf]
 simp[hk,hs,hv]
theorem LS {es:List cz} {e:cz} (h0:e.pid≠0) (hk:e.kind=1): ∃ p,fC (es++[e]) e.pid=some p/\p.ver=e.ver/\p.seq=e.seq:=by
 refine⟨_,by rw[qa,if_pos ⟨h0,rfl⟩],?_⟩
 unfold fm
 rw[if_neg (fun h=>h hk)]
 have:(pv e ((fC es e.pid).getD p0)).ver=e.ver:=by
  unfold pv
  split
  rfl
  rename_i h;exact(Classical.not_not.1 h).symm
 split<;>exact⟨this,rfl⟩
theorem yi {es:List cz} {e:cz} (h:vr (es++[e])) (h0:e.pid≠0) (hk:e.kind=1):fc (es++[e]) e=(((es.length:Nat):Int),0):=by
 refine Hc h (by simp) h0 ?_ hk
 unfold later
 rw[show(es++[e]).drop es.length=[e] by simp]
 simp
theorem PJ {es:List cz} {Nn:Int} (h: ∀ e∈es,e.pid<Nn):fC es Nn=none:=by
 cases hp:fC es Nn with
 |none=>rfl
 |some p=>
  obtain⟨e,he,hpe,-⟩:=((jp es Nn).1 p hp).ver
  have:=h e he
  omega
structure At (s:ByteArray) (w:Wa) (i:Nat) (x:Sn):Prop where
 ix:eK w.sns s=some i
 sn:w.sns[i]? =some x
 nm:x.name=s
theorem At.find {s:ByteArray} {w:Wa} {i:Nat} {x:Sn} (h:At s w i x):((eK w.sns s).bind fun i=>w.sns[i]?.map fun s=>(i,s))=some (i,x):=by
 rw[h.ix,fx,h.sn];rfl
theorem At.set {s:ByteArray} {w:Wa} {i:Nat} {x y:Sn} (h:At s w i x) (hn:y.name=s):At s {w with sns:=w.sns.set i y} i y:=⟨C8 h.ix hn,al (cC h.sn).1,hn⟩
theorem At.of {s:ByteArray} {w w':Wa} {i:Nat} {x:Sn} (h:At s w i x) (hs:w'.sns=w.sns):At s w' i x:=⟨by rw[hs];exact h.ix,by rw[hs];exact h.sn,h.nm⟩
structure P0 (w:Wa) (p:fD) (x:RA):Prop where
 pt:w.ps[0]? =some p
 ld:p.leader=0
 rp:p.reps[0]? =some x
variable {np nr k:Nat} {wt:Int} {K:Nat->List cz} {P:ByteArray->Prop} {w:Wa} {p:fD} {x:RA} {e:cz}
theorem NX (hw:WI np nr 1 wt k K w) (hc:wG P wt w) (h:P0 w p x) (hg:kT {e with epoch:=p.epoch}) (hv:fc x.es {e with epoch:=p.epoch}=(-1,0)):lK w 0 e=({w with ps:=w.ps.set 0 {p with reps:=p.reps.set 0 {x with es:=x.es++[{e with epoch:=p.epoch}]}}},⟨0,(x.es.length:Nat),[]⟩):=by
 have hgt:=hw.ps.gt 0 p h.pt
 have hp:=LP (e:=e) hgt.1.ok (hc.ps p (ab h.pt)).1 h.ld hgt.1.few h.rp hg (by rw[hv])
 rw[hv,if_neg (by decide)]at hp
 unfold lK
 rw[h.pt]
 dsimp only
 rw[hp,if_pos Z]
theorem NY (hw:WI np nr 1 wt k K w) (hc:wG P wt w) (h:P0 w p x) (hg:kT {e with epoch:=p.epoch}) {j:Nat} (hv:fc x.es {e with epoch:=p.epoch}=(((j:Nat):Int),0)):lK w 0 e=(w,⟨0,(j:Nat),[]⟩):=by
 have hgt:=hw.ps.gt 0 p h.pt
 have hp:=LP (e:=e) hgt.1.ok (hc.ps p (ab h.pt)).1 h.ld hgt.1.few h.rp hg (by rw[hv])
 rw[hv,if_pos (by simp)]at hp
 unfold lK
 rw[h.pt]
 dsimp only
 rw[hp,if_pos Z]
 have:w.ps.set 0 p=w.ps:=by
  apply en
  intro i
  by_cases hi:0=i
  subst hi
  rw[al (cC h.pt).1];exact h.pt.symm
  rw[bQ hi]
 rw[this]
theorem P0.put (h:P0 w p x) (y:RA):P0 {w with ps:=w.ps.set 0 {p with reps:=p.reps.set 0 y}} {p with reps:=p.reps.set 0 y} y:=⟨al (cC h.pt).1,h.ld,al (cC h.rp).1⟩
theorem CF {s:Sn} (hl:s.last[0]? =some e) (ht:e.txn=false):dN w s 0=lK w 0 e:=by
 unfold dN
 rw[hl]
 dsimp only
 have:n7 w s 0 e=(w.co,0):=by unfold n7;rw[if_neg (by rw[ht];decide)]
 rw[this,if_pos Z]
theorem Ao {a:Act} {i:Nat} {s:Sn} (h:At a.name w i s) (h0:a.part=0) (hl:a.lost≠1) {again:Bool} (hag:again=true->(s.last.getD 0 jV).kind≠0) (he:(if again then s else eL s 0 a.text).last[0]? =some e) (ht:e.txn=false):
  jg w a again=((lK {w with sns:=w.sns.set i (if again then s else eL s 0 a.text)} 0 e).1,fL a (lK {w with sns:=w.sns.set i (if again then s else eL s 0 a.text)} 0 e).2):=by
 unfold jg
 rw[h.find]
 dsimp only
 rw[h0,show(0:Int).toNat=0 from rfl,if_neg (fun hh=>hag hh.1 hh.2),if_neg hl]
 generalize (if again=true then s else eL s 0 a.text)=s1 at he⊢
 rw[CF he ht]
end
theorem Hk {l:List Sn} {s:ByteArray} {i:Nat} (h:eK l s=some i): ∃ x,l[i]? =some x/\x.name=s:=by
 obtain⟨hl,h1,-⟩:=aS.1 h
 exact⟨_,ah hl,by simpa using h1⟩
theorem LB {l:List Sn} {s:ByteArray} {i:Nat} {x:Sn} (hx:l[i]? =some x) (hn:x.name=s) (hno: ∀ y∈l.take i,y.name≠s):eK l s=some i:=by
 unfold eK
 obtain⟨hl,rfl⟩:=cC hx
 rw[aS]
 refine⟨hl,by simpa using hn,fun j hj=> ?_⟩
 have:=hno l[j] (List.mem_take_iff_getElem.2 ⟨j,by omega,rfl⟩)
 simpa using this
theorem Hl {l:List Sn} {s:ByteArray} (hno: ∀ y∈l,y.name≠s):eK l s=none:=by
 unfold eK
 rw[cV]
 intro x hx
 simpa using hno x hx
def Qp (g:Nat):Option Nat->Value
 |none=> .pointer none
 |some i=> .pointer (some ⟨g,i*Ad.sz,none⟩)
theorem dR (e:Int) (w:World):dh aa yl [J e] w fun v w2=>v=.agg #[J e,J 0,.slice none 0 0]/\Below w.heap.size w w2:=by
 refine aE xp Z Z ?_
 have H:=Hp.start w
 refine W<|Zr<|eP H dr Z fun w1 b2 H=>U<|W<|Zr<|G (Yi Z)<|G (bg (cs:= #[J (e),J (0),.slice none 0 0]) iQ dr N)<|bo H 0 (#[J (e),J (0),.slice none 0 0]) aP Z Z Z Z Z N N fun w2 H=>U<|Zt ?_
 exact eS (cs0:= #[J e,J 0,.slice none 0 0]) Z aN Z (H.ent (i:=0) Z) Z ⟨rfl,H.below⟩
theorem DT (a:Act) (c n:Int) (A:Option Addr) (l k:Nat) (w:World):dh aa vD [a.v,.agg #[J c,J n,.slice A l k]] w fun v w2=>v=(if a.lost=0 then .agg #[J c,J n,.slice A l k]else .agg #[J 14,J 0,.slice none 0 0])/\Below w.heap.size w w2:=by
 refine aE Bs Z Z ?_
 have H:=Hp.start w
 show CW _ _ _ _ (args [.agg #[J (a.kind),.string (a.name),J (a.part),J (a.n),J (a.m),.string (a.text),J (a.lost)],.agg #[J c,J n,.slice A l k]]) w
 refine W<|Zr<|f7 H Z Z fun w1 b2 H=>f7 H Z Z fun w2 b3 H=>eP H dr Z fun w3 b4 H=>U<|W<|W<|Zr<|G (Zf jN Z)<|G (Zd ak H 2 Z Z Z) ?_
 refine ro (jh Z Z) Z Z Z (fun h7=> ?_) (fun h7=> ?_)
 refine U<|ZT Z<|W<|Zr<|ch bM (dR 14 _) Z Z ?_
 rintro _ w4 ⟨rfl,hb⟩;replace H:=H.later hb;clear hb
 refine bo H 0 (#[J (14),J (0),.slice none 0 0]) aP Z Z Z Z Z N N fun w5 H=>U<|Zt ?_
 exact eS (cs0:= #[J 14,J 0,.slice none 0 0]) Z aN Z (H.ent (i:=0) Z) Z ⟨(if_neg h7).symm,H.below⟩
 refine U<|ZF Z<|Zk<|W<|Zr<|G (Zw aN H 1 Z Z Z)<|bo H 0 (#[J (c),J (n),.slice A l k]) aP Z Z Z Z Z N N fun w6 H=>U<|Zt ?_
 exact eS (cs0:= #[J c,J n,.slice A l k]) Z aN Z (H.ent (i:=0) Z) Z ⟨(if_pos (by simpa using h7)).symm,H.below⟩
theorem ot (bb:Nat) (b:Bk) (n:Int) (w:World) (hb:w.heap[bb]? =some (.cells b.c.toArray bK (0,0))):dh aa tA [.pointer (Qd bb),J n] w fun v w2=>v=.bool (decide (0<=n/\n<(b.ps.length:Int)))/\Below w.heap.size w w2:=by
 refine aE sV Z Z ?_
 have H:=Hp.start w
 have hbl:=ce hb
 refine W<|Zr<|G (Wb Z)<|U<|W<|Zr<|G (Yi Z) ?_
 refine cW (ko Z Z) Z Z Z (fun h6=> ?_) (fun h6=> ?_)
 refine G (Yb Z)<|ZG<|G (Yi Z)<|ZG<|G (Yp Z)<|ZG<|G (aJ Z)<|ZG<|G (Zf aX Z)<|ZG<|G (Zf dJ Z)<|ZG<|G (aW ex Z ((H.below.cell (p:=⟨bb,_,none⟩) hbl).trans (aB (j:=0) hb Z)))<|ZG<|G (br l6 Z)<|ZG ?_
 refine cW (cK Z Z) Z Z Z (fun h15=> ?_) (fun h15=> ?_)
 refine G (Kt Z Z)<|G (Wb Z)<|U<|Zt ?_
 exact cH (v:=.bool true) Z Z ⟨by congr 1;simp only[Bool.true_eq,Bool.false_eq,decide_eq_true_eq,decide_eq_false_iff_not];omega,H.below⟩
 refine G (Kt Z Z)<|G (Wb Z)<|U<|Zt ?_
 exact cH (v:=.bool false) Z Z ⟨by congr 1;simp only[Bool.true_eq,Bool.false_eq,decide_eq_true_eq,decide_eq_false_iff_not];omega,H.below⟩
 refine G (Yb Z)<|ZN<|ZN<|ZN<|ZN<|ZN<|ZN<|ZN<|ZN<|G (N Z Z)<|G (Wb Z)<|U<|Zt ?_
 exact cH (v:=.bool false) Z Z ⟨by congr 1;simp only[Bool.true_eq,Bool.false_eq,decide_eq_true_eq,decide_eq_false_iff_not];omega,H.below⟩
theorem Hm (bb:Nat) (b:Bk) (s:ByteArray) (w:World) (hb:w.heap[bb]? =some (.cells b.c.toArray bK (0,0))) (h0:b.sns=[]):dh aa jC [.pointer (Qd bb),.string s] w fun v w2=>v=.pointer none/\Below w.heap.size w w2:=by
 refine aE ma Z Z ?_
 have H:=Hp.start w
 have hbl:=ce hb
 have hl0:b.sns.length=0:=by rw[h0];rfl
 refine W<|Zr<|G (Wp Z)<|U<|W<|W<|Zr<|G (Yp Z)<|G (aJ Z)<|G (Zf aX Z)<|G (Zf ku Z)<|G (aW kg Z ((H.below.cell (p:=⟨bb,_,none⟩) hbl).trans (aB (j:=10) hb Z)))<|G (br tV Z)<|G (Yi Z)<|U<|Zb ?_
 refine cD (τ:=Unit) [4,5,12,13,14,15,16,17,18,19,20,21,22,23,24,25,26,27,28,29,30,31,32,33] (fun _=>[(12,J 0)]) (fun _ w'=>Hp w w' [] []) (fun _=>0) () H (dP Z) ?_
 rintro _ ρ1 w1 H
 show CW _ _ _ _ (dH (gZ _ _ ρ1) [(12,J 0)]) w1
 refine W<|Zr<|G (dd Z Z I)<|U<|W<|ZF Z<|Zx<|W<|Zr<|G (Wp Z)<|U<|Zt ?_
 exact cH (v:=.pointer none) Z Z ⟨rfl,H.below⟩
theorem JF (bb:Nat) (b:Bk) (s:ByteArray) (g:Nat) (u:Array Value) (w:World) (hb:w.heap[bb]? =some (.cells b.c.toArray bK (0,0))) (hA:b.snA=some ⟨g,0,none⟩) (row:dX Ad b.sns b.snC u) (hg:w.heap[g]? =some (.cells u fI (0,0))) (hl:b.sns.length<=1000000):dh aa jC [.pointer (Qd bb),.string s] w fun v w2=>v=Qp g (eK b.sns s)/\Below w.heap.size w w2:=by
 refine aE ma Z Z ?_
 have H:=Hp.start w
 have hbl:=ce hb
 have hgl:=ce hg
 obtain⟨ps,pA,pC,co,clo,chi,gr,glo,ghi,sns,snA,snC⟩:=b
 dsimp only at hA row hl
 subst hA
 replace hb:w.heap[bb]? =some (.cells #[.slice pA ps.length pC,J (co.clock),J (co.next),J (co.wait),.slice co.A co.txs.length co.cap,J (gr.clock),J (gr.wait),J (gr.gen),.slice gr.mA gr.ms.length gr.mC,.slice gr.oA gr.os.length gr.oC,.slice (Qd g) sns.length snC] bK (0,0)):=hb
 refine W<|Zr<|G (Wp Z)<|U<|W<|W<|Zr<|G (Yp Z)<|G (aJ Z)<|G (Zf aX Z)<|G (Zf ku Z)<|G (aW kg Z ((H.below.cell (p:=⟨bb,_,none⟩) hbl).trans (aB (j:=10) hb Z)))<|G (br tV Z)<|G (Yi Z)<|U<|Zb ?_
 refine cD (τ:=Nat) [4,5,12,13,14,15,16,17,18,19,20,21,22,23,24,25,26,27,28,29,30,31,32,33] (fun i=>[(12,J (i:Nat))]) (fun i w'=>i<=sns.length/\(∀ y∈sns.take i,y.name≠s)/\Hp w w' [] []) (fun i=>sns.length-i) 0 ⟨by omega,by simp,H⟩ (dP Z) ?_
 rintro i ρ1 w1 ⟨hi,hno,H⟩
 show CW _ _ _ _ (dH (gZ _ _ ρ1) [(12,J (i:Nat))]) w1
 refine W<|Zr ?_
 refine cW (cK Z Z) Z Z Z (fun h13=> ?_) (fun h13=> ?_)
 refine U<|W<|ZT Z<|Zk<|W<|Zb<|W ?_
 obtain⟨x,hx⟩: ∃ x,sns[i]? =some x:=⟨_,ah I⟩
 refine Zr<|G (Yi Z)<|G (Wi Z)<|U<|W<|Zr<|G (Yp Z)<|G (aJ Z)<|G (Zf aX Z)<|G (Zf ku Z)<|G (aW kg Z ((H.below.cell (p:=⟨bb,_,none⟩) hbl).trans (aB (j:=10) hb Z)))<|G (Yi Z)<|G (cG sG Z Z I)<|G (Zf oK Z)<|G (bP bd row hx 0 Z ((H.below.block _ hgl).trans hg) Z)<|G (Yt Z) ?_
 refine cW (v7 Z Z) Z Z Z (fun h25=> ?_) (fun h25=> ?_)
 refine U<|ZT Z<|W<|Zr<|G (Yp Z)<|G (aJ Z)<|G (Zf aX Z)<|G (Zf ku Z)<|G (aW kg Z ((H.below.cell (p:=⟨bb,_,none⟩) hbl).trans (aB (j:=10) hb Z)))<|G (Yi Z)<|G (cG sG Z Z I)<|G (Wp Z)<|U<|Zt ?_
 exact cH (v:=.pointer (some ⟨g,i*Ad.sz,none⟩)) Z Z ⟨by dsimp only;rw[LB hx h25 hno];rfl,H.below⟩
 refine U<|ZF Z<|Zk<|Zr<|G (bw Z Z I I)<|G (Yi Z)<|U ?_
 refine⟨i+1,⟨by omega,fun y hy=> ?_,H⟩,dP Z,Qg,by show sns.length- (i+1)<sns.length-i;omega⟩
 rw[eu hx]at hy
 rcases ap.1 hy with hy|hy
 exact hno y hy
 rw[aq.1 hy];exact h25
 refine U<|W<|ZF Z<|Zx<|W<|Zr<|G (Wp Z)<|U<|Zt ?_
 obtain rfl:i=sns.length:=by omega
 rw[bN]at hno
 exact cH (v:=.pointer none) Z Z ⟨by dsimp only;rw[Hl hno];rfl,H.below⟩
def QJ:Option Addr->Nat
 |some A=>A.block
 |none=>0
theorem jz (bb:Nat) (b:Bk) (s:ByteArray) (Ls:List (Nat×Obj)) (w:World) (hb:w.heap[bb]? =some (.cells b.c.toArray bK (0,0))) (hsn:gz Ad (.slice b.snA b.sns.length b.snC) fI b.sns Ls) (hLs: ∀ q∈Ls,w.heap[q.1]? =some q.2) (hl:b.sns.length<=1000000):dh aa jC [.pointer (Qd bb),.string s] w fun v w2=>v=Qp (QJ b.snA) (eK b.sns s)/\Below w.heap.size w w2:=by
 by_cases h0:b.sns=[]
 refine(Hm bb b s w hb h0).mono fun v w2 ⟨h1,h2⟩=>⟨?_,h2⟩
 rw[h1,h0];rfl
 obtain⟨g,u,hA,hL,row⟩:=hsn.row (List.length_pos_iff.2 h0)
 subst hL
 refine(JF bb b s g u w hb hA row (hLs _ (aq.2 Z)) hl).mono fun v w2 ⟨h1,h2⟩=>⟨?_,h2⟩
 rw[h1,hA];rfl
theorem Do (X:List (Nat×Obj)) (a b:Nat×Obj) (La Lb K:List (Nat×Obj)):(X++(a::b::(La++(Lb++K)))).Perm (X++((La++(a::b::Lb))++K)):=by
 refine List.Perm.append_left _ ?_
 rw[show(La++(a::b::Lb))++K=La++([a,b]++(Lb++K)) by simp]
 exact gb [a,b] La (Lb++K)
theorem Bw.close {w0 w':World} {bb gP gS gq gl pC snC clo chi glo ghi i:Nat} {uP uS uq ul:Array Value} {La Lb K X:List (Nat×Obj)} {F0 F':List cB} {ps:List Pq} {co:Co} {gr:Gr} {sns:List Sn} {s:Sn} {C:Array Value} (row:dX FI ps pC uP) (rowS:dX Ad (sns.set i s) snC uS) (hset: ∀ (s':Sn) (gq':Nat) (uq':Array Value) (gl':Nat) (ul':Array Value),s'.sA=some ⟨gq',0,none⟩->s'.lA=some ⟨gl',0,none⟩->dX bR s'.seqs s'.sC uq'->dX gV s'.last s'.lC ul'->qu (sns.set i s') (La++((gq',.cells uq' db (0,0))::(gl',.cells ul' dw (0,0))::Lb)))
  (hsA:s.sA=some ⟨gq,0,none⟩) (hlA:s.lA=some ⟨gl,0,none⟩) (rowq:dX bR s.seqs s.sC uq) (rowl:dX gV s.last s.lC ul) (hco:xM w0 clo chi co∈F') (hgr:KS w0 glo ghi gr∈F') (hps: ∀ q∈ps,tI w0 q.lo q.hi q.p∈F') (hF: ∀ f∈F0,f∈F')
  (H:Hp w0 w' (X++((bb,.cells C bK (0,0))::(gP,.cells uP bF (0,0))::(gS,.cells uS fI (0,0))::(gq,.cells uq db (0,0))::(gl,.cells ul dw (0,0))::(La++(Lb++K)))) F') (hC:C=(Bk.mk ps (Qd gP) pC co clo chi gr glo ghi (sns.set i s) (Qd gS) snC).c.toArray):xN w0 w' bb ⟨ps,some ⟨gP,0,none⟩,pC,co,clo,chi,gr,glo,ghi,sns.set i s,some ⟨gS,0,none⟩,snC⟩ K F0:=by
 subst hC
 refine⟨gP,uP,_,_,F',⟨rfl,row,dX.own rowS,hset s gq uq gl ul hsA hlA rowq rowl,hco,hgr,hps,?_⟩,hF⟩
 have H1:=H.forget (cr X _) (fun _ h=>h)
 exact H1.perm (Do [(bb,_),(gP,_),(gS,_)] _ _ La Lb K).symm
theorem zF (l:List Sn) (s:ByteArray):eK (l.map Sn.a) s=eK l s:=by
 unfold eK
 rw[DK]
 rfl
theorem wQ {l:List Sn} {s:ByteArray} {i:Nat} {x:Sn} (hix:eK l s=some i) (hx:l[i]? =some x):((eK (l.map Sn.a) s).bind fun i=>(l.map Sn.a)[i]?.map fun s=>(i,s))=some (i,x.a):=by
 rw[zF,hix]
 simp[hx]
theorem DX {l:List Sn} {s:ByteArray} (hix:eK l s=none):((eK (l.map Sn.a) s).bind fun i=>(l.map Sn.a)[i]?.map fun s=>(i,s))=none:=by
 rw[zF,hix]
 rfl
theorem Bw.shut {w0 w':World} {bb gP pC snC clo chi glo ghi:Nat} {uP:Array Value} {Ls Lo K X:List (Nat×Obj)} {F0 F':List cB} {ps:List Pq} {co:Co} {gr:Gr} {sns:List Sn} {snA:Option Addr} {C:Array Value} (row:dX FI ps pC uP) (hsn:gz Ad (.slice snA sns.length snC) fI sns Ls) (hown:qu sns Lo) (hco:xM w0 clo chi co∈F') (hgr:KS w0 glo ghi gr∈F') (hps: ∀ q∈ps,tI w0 q.lo q.hi q.p∈F') (hF: ∀ f∈F0,f∈F')
  (H:Hp w0 w' (X++((bb,.cells C bK (0,0))::(gP,.cells uP bF (0,0))::(Ls++(Lo++K)))) F') (hC:C=(Bk.mk ps (Qd gP) pC co clo chi gr glo ghi sns snA snC).c.toArray):xN w0 w' bb ⟨ps,some ⟨gP,0,none⟩,pC,co,clo,chi,gr,glo,ghi,sns,snA,snC⟩ K F0:=by
 subst hC
 exact⟨gP,uP,_,_,F',⟨rfl,row,hsn,hown,hco,hgr,hps,H.forget (cr X _) (fun _ h=>h)⟩,hF⟩
theorem xD {b:Bk} {a:Act} {i:Nat} {x:Sn} (hix:eK b.sns a.name=some i) (hx:b.sns[i]? =some x) (h:x.inn=true):kJ b.a a=(b.a,⟨6,0,[]⟩):=by
 unfold kJ
 rw[show b.a.sns=b.sns.map Sn.a from rfl,wQ hix hx]
 dsimp only
 rw[if_pos (show x.a.inn=true from h)]
 rfl
theorem DB {b:Bk} {a:Act} {i:Nat} {x:Sn} (hix:eK b.sns a.name=some i) (hx:b.sns[i]? =some x) (h:x.inn=false):kJ b.a a=({b.a with sns:=(b.sns.set i {x with inn:=true}).map Sn.a},⟨0,0,[]⟩):=by
 unfold kJ
 rw[show b.a.sns=b.sns.map Sn.a from rfl,wQ hix hx]
 dsimp only
 rw[if_neg (show¬ x.a.inn=true by show¬ x.inn=true;rw[h];decide),cE]
 rfl
theorem zc {b:Bk} {a:Act} (hix:eK b.sns a.name=none):kJ b.a a=(b.a,⟨5,0,[]⟩):=by
 unfold kJ
 rw[show b.a.sns=b.sns.map Sn.a from rfl,DX hix]
 rfl
theorem fe {α:Type} {l:List α} {k:Nat} {a:α} (h:l[k]? =some a):l.set k a=l:=by
 apply en
 intro j
 rw[lD]
 split
 rename_i hj
 subst hj
 split
 exact h.symm
 rename_i hl
 rw[cL I]at h;cases h
 rfl
theorem Ix {w0 w:World} {bb:Nat} {b:Bk} {gP:Nat} {uP:Array Value} {Ls Lo K:List (Nat×Obj)} {F:List cB} (a:Act) (B:Bw w0 w bb b gP uP Ls Lo K F) (hsl:b.sns.length<=1000000) (hix:eK b.sns a.name=none):dh aa jX [.pointer (Qd bb),a.v] w fun v w2=> ∃ b':Bk,pb (kJ b.a a).2 v w2/\b'.a=(kJ b.a a).1/\xN w0 w2 bb b' K F:=by
 refine aE mT Z Z ?_
 obtain⟨ps,pA,pC,co,clo,chi,gr,glo,ghi,sns,snA,snC⟩:=b
 obtain⟨hpA,row,hsn,hown,hco,hgr,hps,H⟩:=B
 dsimp only at hpA row hsn hown hco hgr hps
 subst hpA
 replace H:Hp w0 w ((bb,.cells #[.slice (Qd gP) ps.length pC,J (co.clock),J (co.next),J (co.wait),.slice co.A co.txs.length co.cap,J (gr.clock),J (gr.wait),J (gr.gen),.slice gr.mA gr.ms.length gr.mC,.slice gr.oA gr.os.length gr.oC,.slice snA sns.length snC] bK (0,0))::(gP,.cells uP bF (0,0))::(Ls++(Lo++K))) F:=H
 dsimp only at hix hsl
 show CW _ _ _ _ (args [.pointer (Qd bb),.agg #[J (a.kind),.string (a.name),J (a.part),J (a.n),J (a.m),.string (a.text),J (a.lost)]]) w
 refine W<|Zr<|f7 H Z Z fun w1 b3 H=>eP H dr Z fun w2 b4 H=>U<|W<|Zr<|G (Yp Z)<|G (Zf fh Z)<|G (Zd bd H 1 Z Z Z)<|ch dB (jz bb ⟨ps,some ⟨gP,0,none⟩,pC,co,clo,chi,gr,glo,ghi,sns,snA,snC⟩ (a.name) Ls _ (H.ent (i:=2) Z) hsn (fun q hq=>(H.ents q (by simp only[ax,ap];grind)).1) hsl) Z Z ?_
 rintro _ w3 ⟨rfl,hb⟩;replace H:=H.later hb;clear hb
 rw[hix]
 refine G (Wp Z)<|U<|W<|Zb<|W<|Zr<|G (Yp Z)<|G (xY iY Z)<|G (Wb Z)<|U<|ZT Z<|W<|Zr<|ch bM (dR 5 _) Z Z ?_
 rintro _ w4 ⟨rfl,hb⟩;replace H:=H.later hb;clear hb
 refine bo H 0 (#[J (5),J (0),.slice none 0 0]) aP Z Z Z Z Z N N fun w5 H=>U<|Zt ?_
 exact eS (cs0:= #[J (5),J (0),.slice none 0 0]) Z aN Z (H.ent (i:=0) Z) Z ⟨⟨ps,some ⟨gP,0,none⟩,pC,co,clo,chi,gr,glo,ghi,sns,snA,snC⟩,by rw[zc hix];exact pb.plain _ _ _,by rw[zc hix],Bw.shut (X:=[(b4,_),(b3,_)]) row hsn hown hco hgr hps (fun _ h=>h) H Z⟩
theorem Iw {w0 w:World} {bb:Nat} {b:Bk} {gP:Nat} {uP:Array Value} {Ls Lo K:List (Nat×Obj)} {F:List cB} (a:Act) (B:Bw w0 w bb b gP uP Ls Lo K F) (hsl:b.sns.length<=1000000) {i:Nat} {x:Sn} (hix:eK b.sns a.name=some i) (hx:b.sns[i]? =some x):dh aa jX [.pointer (Qd bb),a.v] w fun v w2=> ∃ b':Bk,pb (kJ b.a a).2 v w2/\b'.a=(kJ b.a a).1/\xN w0 w2 bb b' K F:=by
 refine aE mT Z Z ?_
 obtain⟨ps,pA,pC,co,clo,chi,gr,glo,ghi,sns,snA,snC⟩:=b
 obtain⟨hpA,row,hsn,hown,hco,hgr,hps,H⟩:=B
 dsimp only at hpA row hsn hown hco hgr hps
 subst hpA
 dsimp only at hix hx
 obtain⟨gS,uS,hgS,hLs,rowS⟩:=hsn.row (by have:=(cC hx).1;omega)
 subst hgS;subst hLs
 obtain⟨gq,uq,gl,ul,La,Lb,hsA,hlA,rowq,rowl,hLo,hset⟩:=hown.at_ hx
 subst hLo
 replace H:Hp w0 w ((bb,.cells #[.slice (Qd gP) ps.length pC,J (co.clock),J (co.next),J (co.wait),.slice co.A co.txs.length co.cap,J (gr.clock),J (gr.wait),J (gr.gen),.slice gr.mA gr.ms.length gr.mC,.slice gr.oA gr.os.length gr.oC,.slice (Qd gS) sns.length snC] bK (0,0))::(gP,.cells uP bF (0,0))::(gS,.cells uS fI (0,0))::(gq,.cells uq db (0,0))::(gl,.cells ul dw (0,0))::(La++(Lb++K))) F:=H.perm (Do [(bb,_),(gP,_),(gS,_)] _ _ La Lb K)
 dsimp only at hsl
 show CW _ _ _ _ (args [.pointer (Qd bb),.agg #[J (a.kind),.string (a.name),J (a.part),J (a.n),J (a.m),.string (a.text),J (a.lost)]]) w
 refine W<|Zr<|f7 H Z Z fun w1 b3 H=>eP H dr Z fun w2 b4 H=>U<|W<|Zr<|G (Yp Z)<|G (Zf fh Z)<|G (Zd bd H 1 Z Z Z)<|ch dB (jz bb ⟨ps,some ⟨gP,0,none⟩,pC,co,clo,chi,gr,glo,ghi,sns,some ⟨gS,0,none⟩,snC⟩ (a.name) _ _ (H.ent (i:=2) Z) (dX.own rowS) (fun q hq=>by rw[aq.1 hq];exact(H.ent (i:=4) Z)) hsl) Z Z ?_
 rintro _ w3 ⟨rfl,hb⟩;replace H:=H.later hb;clear hb
 rw[hix]
 refine G (Wp Z)<|U<|W<|Zb<|W<|Zr<|G (Yp Z)<|G (v9 iY Z)<|G (Wb Z)<|U<|ZF Z<|W<|Zr<|G (Yp Z)<|G (aJ Z)<|G (Zf oJ Z) ?_
 refine wW (bP dS rowS hx 3 Z (H.ent (i:=4) Z) Z) Z Z Z (fun h18=> ?_) (fun h18=> ?_)
 refine G (Wb Z)<|U<|ZT Z<|W<|Zr<|ch bM (dR 6 _) Z Z ?_
 rintro _ w4 ⟨rfl,hb⟩;replace H:=H.later hb;clear hb
 refine bo H 0 (#[J (6),J (0),.slice none 0 0]) aP Z Z Z Z Z N N fun w5 H=>U<|Zt ?_
 exact eS (cs0:= #[J (6),J (0),.slice none 0 0]) Z aN Z (H.ent (i:=0) Z) Z ⟨⟨ps,some ⟨gP,0,none⟩,pC,co,clo,chi,gr,glo,ghi,sns.set i x,some ⟨gS,0,none⟩,snC⟩,by rw[xD hix hx h18];exact pb.plain _ _ _,by rw[xD hix hx h18,fe hx],Bw.close (X:=[(b4,_),(b3,_)]) row (by rw[fe hx];exact rowS) hset hsA hlA rowq rowl hco hgr hps (fun _ h=>h) H (by rw[fe hx];rfl)⟩
 refine G (Wb Z)<|U<|ZF Z<|Zk<|W<|Zr<|G (Yp Z)<|G (aJ Z)<|G (Zf oJ Z)<|k9 H 4 ({x with inn:=true}) iU rowS hx 3 Z Z Z Z Z Z N fun w7 cur6 row6 H=> ?_
 have hs8:(sns.set i ({x with inn:=true}))[i]? =some ({x with inn:=true}):=al (cC hx).1
 refine U<|W<|Zr<|G (bg (cs:= #[J (0),J (0),.slice none 0 0]) iQ dr N)<|bo H 0 (#[J (0),J (0),.slice none 0 0]) aP Z Z Z Z Z N N fun w9 H=>U<|Zt ?_
 exact eS (cs0:= #[J (0),J (0),.slice none 0 0]) Z aN Z (H.ent (i:=0) Z) Z ⟨⟨ps,some ⟨gP,0,none⟩,pC,co,clo,chi,gr,glo,ghi,sns.set i {x with inn:=true},some ⟨gS,0,none⟩,snC⟩,by rw[DB hix hx h18];exact pb.plain _ _ _,by rw[DB hix hx h18];rfl,Bw.close (X:=[(b4,_),(b3,_)]) row row6 hset hsA hlA rowq rowl hco hgr hps (fun _ h=>h) H (by simp only[Bk.c,ae])⟩
theorem IT {w:Wa} {n:Nat} {x:cz} {p:fD} (h:w.ps[n]? =some p):lK w n x=if(er p x).2.2=0 then({w with ps:=w.ps.set n (er p x).1},⟨0,(er p x).2.1,[]⟩)else lJ w (er p x).2.2:=by
 unfold lK
 rw[h]
theorem AD {ps:List Pq} {n:Nat} {q y:Pq} (h:y∈ps.set n q):y∈ps∨y=q:=aM h
theorem BG {w0 w:World} {bb gP gS gq gl pC snC clo chi k i n:Nat} {uP uS uq ul:Array Value} {R:List (Nat×Obj)} {F:List cB} {ps:List Pq} {co:Co} {gr:Gr} {sns:List Sn} {x:Sn} (H:Hp w0 w ((bb,.cells #[.slice (Qd gP) ps.length pC,J (co.clock),J (co.next),J (co.wait),.slice co.A co.txs.length co.cap,J (gr.clock),J (gr.wait),J (gr.gen),.slice gr.mA gr.ms.length gr.mC,.slice gr.oA gr.os.length gr.oC,.slice (Qd gS) sns.length snC] bK (0,0))::(gP,.cells uP bF (0,0))::(gS,.cells uS fI (0,0))::(gq,.cells uq db (0,0))::(gl,.cells ul dw (0,0))::R) F) (row:dX FI ps pC uP) (rowS:dX Ad sns snC uS) (rowl:dX gV x.last x.lC ul) (hx:sns[i]? =some x) (hlA:x.lA=some ⟨gl,0,none⟩) (hco:xM w0 clo chi co∈F) (hps: ∀ q∈ps,tI w0 q.lo q.hi q.p∈F) (hn:n<x.last.length) (hnp:n<ps.length) (hn4:n<4) (hnm:bL x.name=true) (hcb:oY k co) (hpk: ∀ q∈ps,q.p.a.ok/\ ∀ (l:Nat) (y:fk),q.p.leader=l->q.p.reps[l]? =some y->y.es.length<400):dh aa r7 [.pointer (Qd bb),.pointer (some ⟨gS,i*Ad.sz,none⟩),J (n:Nat)] w fun v w2=> ∃ (ps':List Pq) (uP':Array Value) (co':Co) (clo' chi':Nat) (F':List cB),pb (dN (Wa.mk (ps.map fun q=>q.p.a) co.a gr.a (sns.map Sn.a)) x.a n).2 v w2/\(dN (Wa.mk (ps.map fun q=>q.p.a) co.a gr.a (sns.map Sn.a)) x.a n).1=Wa.mk (ps'.map fun q=>q.p.a) co'.a gr.a (sns.map Sn.a)/\dX FI ps' pC uP'/\ps'.length=ps.length/\xM w0 clo' chi' co'∈F'/\(∀ q∈ps',tI w0 q.lo q.hi q.p∈F')/\(∀ f∈F,f∈F')/\Hp w0 w2 ((bb,.cells #[.slice (Qd gP) ps'.length pC,J (co'.clock),J (co'.next),J (co'.wait),.slice co'.A co'.txs.length co'.cap,J (gr.clock),J (gr.wait),J (gr.gen),.slice gr.mA gr.ms.length gr.mC,.slice gr.oA gr.os.length gr.oC,.slice (Qd gS) sns.length snC] bK (0,0))::(gP,.cells uP' bF (0,0))::(gS,.cells uS fI (0,0))::(gq,.cells uq db (0,0))::(gl,.cells ul dw (0,0))::R) F':=by
 refine aE rL Z Z ?_
 obtain⟨e,he⟩: ∃ e,x.last[n]? =some e:=⟨_,ah hn⟩
 have hl5:(Ad.f x)[5]? =some (.slice (some ⟨gl,0,none⟩) x.last.length x.lC):=by rw[<-hlA];rfl
 obtain⟨q,hq⟩: ∃ q,ps[n]? =some q:=⟨_,ah hnp⟩
 have hqm:=ab hq
 have hpC:=row.le
 have hD:dN (Wa.mk (ps.map fun q=>q.p.a) co.a gr.a (sns.map Sn.a)) x.a n=if(n7 (Wa.mk (ps.map fun q=>q.p.a) co.a gr.a (sns.map Sn.a)) x.a n e).2=0 then lK (Wa.mk (ps.map fun q=>q.p.a) (n7 (Wa.mk (ps.map fun q=>q.p.a) co.a gr.a (sns.map Sn.a)) x.a n e).1 gr.a (sns.map Sn.a)) n e else lJ (Wa.mk (ps.map fun q=>q.p.a) co.a gr.a (sns.map Sn.a)) (n7 (Wa.mk (ps.map fun q=>q.p.a) co.a gr.a (sns.map Sn.a)) x.a n e).2:=by unfold dN;rw[show x.a.last[n]? =some e from he]
 rw[hD]
 have hP:=IT (w:=Wa.mk (ps.map fun q=>q.p.a) (n7 (Wa.mk (ps.map fun q=>q.p.a) co.a gr.a (sns.map Sn.a)) x.a n e).1 gr.a (sns.map Sn.a)) (n:=n) (x:=e) (p:=q.p.a) (by rw[aL,hq];rfl)
 refine W<|Zr<|eP H dr Z fun w1 b6 H=>U<|W<|Zr<|G (Yp Z)<|G (aJ Z)<|G (Zf me Z)<|G (bP nD rowS hx 5 Z (H.ent (i:=3) Z) hl5)<|G (Yi Z)<|G (cG dV Z Z (by first|omega|(simp only[ae];omega)))<|G (pe dG rowl he Z Z (H.ent (i:=5) Z))<|eP H gu Z fun w2 b7 H=>bo H 0 (#[J (e.epoch),J (e.pid),J (e.ver),J (e.seq),J (e.kind),.bool (e.txn),.string (e.text)]) eW Z Z Z Z Z N N fun w3 H=>U<|W<|W<|Zr<|G (Zf jd Z)<|G (Zd dS H 0 Z Z Z)<|U ?_
 refine eN (τ:=Co×Nat×Nat×List cB) [8,9,22,23,24,25,26,27,28,29,30,31,32,33,34,35,36,37,38,39,40,41,42,43,44,45,46] (fun _=>[]) (fun(c2,l2,h2,F2) w'=>c2.a=(n7 (Wa.mk (ps.map fun q=>q.p.a) co.a gr.a (sns.map Sn.a)) x.a n e).1/\(n7 (Wa.mk (ps.map fun q=>q.p.a) co.a gr.a (sns.map Sn.a)) x.a n e).2=0/\xM w0 l2 h2 c2∈F2/\(∀ f∈F,f∈F2)/\Hp w0 w' ((b7,.cells #[J (e.epoch),J (e.pid),J (e.ver),J (e.seq),J (e.kind),.bool (e.txn),.string (e.text)] dw (0,0))::(b6,.cells #[J (0),J (0),.slice none 0 0] eg (0,0))::(bb,.cells #[.slice (Qd gP) ps.length pC,J (c2.clock),J (c2.next),J (c2.wait),.slice c2.A c2.txs.length c2.cap,J (gr.clock),J (gr.wait),J (gr.gen),.slice gr.mA gr.ms.length gr.mC,.slice gr.oA gr.os.length gr.oC,.slice (Qd gS) sns.length snC] bK (0,0))::(gP,.cells uP bF (0,0))::(gS,.cells uS fI (0,0))::(gq,.cells uq db (0,0))::(gl,.cells ul dw (0,0))::R) F2) ?_ ?_
 refine jw Z (fun hc21=> ?_) (fun hc21=> ?_)
 refine W ?_
 refine eN (τ:=Co×Nat×Nat×Nat) [8,9,22,23,24,25,26,27,28,29,30,31,32,33,34,35,36,37] (fun(_,b8,_,_)=>[(8,.pointer (Qd b8)),(9,J (m3 co.a x.name e.ver n).2)]) (fun(c3,b8,lo,hi) w'=>c3.a=(m3 co.a x.name e.ver n).1/\Hp w0 w' ((b8,.cells #[J (c3.clock),J (c3.next),J (c3.wait),.slice c3.A c3.txs.length c3.cap] bi (0,0))::(b7,.cells #[J (e.epoch),J (e.pid),J (e.ver),J (e.seq),J (e.kind),.bool (e.txn),.string (e.text)] dw (0,0))::(b6,.cells #[J (0),J (0),.slice none 0 0] eg (0,0))::(bb,.cells #[.slice (Qd gP) ps.length pC,J (co.clock),J (co.next),J (co.wait),.slice co.A co.txs.length co.cap,J (gr.clock),J (gr.wait),J (gr.gen),.slice gr.mA gr.ms.length gr.mC,.slice gr.oA gr.os.length gr.oC,.slice (Qd gS) sns.length snC] bK (0,0))::(gP,.cells uP bF (0,0))::(gS,.cells uS fI (0,0))::(gq,.cells uq db (0,0))::(gl,.cells ul dw (0,0))::R) (xM w0 lo hi c3::F)) ?_ ?_
 refine oP cd 16 12 [12,13,14,15,17,18] [16] [0,1,2,3,5,6,7,9,11] [16,17,18] [12] [0,1,2,3,5,6,7,9,11,13,14,15] (sp [(16,Sp.blk w3.heap.size (.agg #[J 0,J 0,J 0,.slice none 0 0]) bi)]) (sp [(12,Sp.deep w3.heap.size Nz (fun c:Co=>c.c.toArray) (fun cs=> .tuple #[.agg cs,J (m3 co.a x.name e.ver n).2]) (fun cq:Co=>cq.a=(m3 co.a x.name e.ver n).1))]) N N N N (cI _) (cI _) ?_ ?_
 refine jH [0,1,2,3,4,5,6,7,8,9,10,11,16] [12,13,14,15,17,18] [16] [0,1,2,3,5,6,7,9,11] 5 (sp [(16,Sp.blk w3.heap.size (.agg #[J 0,J 0,J 0,.slice none 0 0]) bi)]) N N N Nq<|aw Z Z Z Z Z (fun w' hw'=>Yp Z)<|aw Z Z Z Z Z (fun w' hw'=>aJ Z)<|aw Z Z Z Z Z (fun w' hw'=>Zf aX Z)<|aw Z Z Z Z Z (fun w' hw'=>Zf eI Z)<|aw Z Z Z Z Z (fun w' hw'=>j6 1 [J (co.clock),J (co.next),J (co.wait),.slice co.A co.txs.length co.cap] av Z Z ((H.later hw').ent (i:=2) Z) Z)<|aw Z Z Z Z Z (fun w' hw'=>Yp Z)<|aw Z Z Z Z Z (fun w' hw'=>aJ Z)<|aw Z Z Z Z Z (fun w' hw'=>Zf oK Z)<|aw Z Z Z Z Z (fun w' hw'=>bP bd rowS hx 0 Z ((H.later hw').ent (i:=4) Z) Z)<|aw Z Z Z Z Z (fun w' hw'=>Zf eJ Z)<|aw Z Z Z Z Z (fun w' hw'=>aW ak Z (aB ((H.later hw').ent (i:=0) Z) Z))<|aw Z Z Z Z Z (fun w' hw'=>Yi Z)<|xG cM Z Z Z Z Z (fun w' hw'=>hw'.size) fun b8=>aV ?_
 intro w4 hw' hF
 obtain⟨hF,bq,eq,hge8,hbl8⟩:=hF;cases eq
 replace H:=H.adoptNew hw' hbl8 hge8
 clear hw' hF
 refine de 12 N Z<|ch xC (GZ co x.name e.ver n k _ (Hp.coM H hco) hcb hnm I I) Z Z ?_
 rintro _ w5 ⟨c3,rfl,hac3,hnc3⟩;replace H:=H.learn hnc3.2 (xM w0 w4.heap.size w5.heap.size c3) ⟨H.size,hnc3.1⟩ (ao _) (ao _);clear hnc3
 refine U<|bz 13 N N N Z Z Z Z Nq (fun _=>Yu Z)<|bz 14 N N N Z Z Z Z Nq (fun _=>Xa Z Z)<|bz 15 N N N Z Z Z Z Nq (fun _=>Xi Z Z)<|de 17 N Z<|bo H 0 (#[J (c3.clock),J (c3.next),J (c3.wait),.slice c3.A c3.txs.length c3.cap]) aF Z Z Z Z Z N N fun w6 H=>U<|bz 18 N N N Z Z Z Z Nq (fun _=>Wi Z)<|cF N ?_
 exact⟨(c3,b8,_,_),⟨hac3,H⟩,li Z Z,Qg⟩
 refine jH [0,1,2,3,4,5,6,7,8,9,10,11,12,13,14,15] [16,17,18] [12] [0,1,2,3,5,6,7,9,11,13,14,15] 2 (sp [(12,Sp.deep w3.heap.size Nz (fun c:Co=>c.c.toArray) (fun cs=> .tuple #[.agg cs,J (m3 co.a x.name e.ver n).2]) (fun cq:Co=>cq.a=(m3 co.a x.name e.ver n).1))]) N N N Nq<|aw Z Z Z Z Z (fun w' hw'=>Yp Z)<|aw Z Z Z Z Z (fun w' hw'=>aJ Z)<|aw Z Z Z Z Z (fun w' hw'=>Zf aX Z)<|aw Z Z Z Z Z (fun w' hw'=>Zf eI Z)<|aw Z Z Z Z Z (fun w' hw'=>j6 1 [J (co.clock),J (co.next),J (co.wait),.slice co.A co.txs.length co.cap] av Z Z ((H.later hw').ent (i:=2) Z) Z)<|aw Z Z Z Z Z (fun w' hw'=>Yp Z)<|aw Z Z Z Z Z (fun w' hw'=>aJ Z)<|aw Z Z Z Z Z (fun w' hw'=>Zf oK Z)<|aw Z Z Z Z Z (fun w' hw'=>bP bd rowS hx 0 Z ((H.later hw').ent (i:=4) Z) Z)<|aw Z Z Z Z Z (fun w' hw'=>Zf eJ Z)<|aw Z Z Z Z Z (fun w' hw'=>aW ak Z (aB ((H.later hw').ent (i:=0) Z) Z))<|aw Z Z Z Z Z (fun w' hw'=>Yi Z)<|ta (gv:=(fun cs=> .tuple #[.agg cs,J (m3 co.a x.name e.ver n).2])) xC Z Z Z Z Z (fun w' hw'=>hw'.size) (fun w' hw'=>GZ co x.name e.ver n k w' (Hp.coM (H.later hw') hco) hcb hnm I I) Z fun cs35=>aw Z Z Z Z Z (fun w' hw'=>Yu Z)<|aw Z Z Z Z Z (fun w' hw'=>Xa Z Z)<|aw Z Z Z Z Z (fun w' hw'=>Xi Z Z)<|aV ?_
 intro w7 hw' hF
 obtain⟨hF,c3,eq,hac3,hrd35⟩:=hF;cases eq
 replace H:=H.learn hw' (xM w0 w3.heap.size w7.heap.size c3) ⟨H.size,hrd35⟩ (ao _) (ao _)
 clear hw' hF
 refine de 16 N Z<|eP H cM Z fun w8 b8 H=>U<|de 17 N Z<|bo H 0 (#[J (c3.clock),J (c3.next),J (c3.wait),.slice c3.A c3.txs.length c3.cap]) aF Z Z Z Z Z N N fun w9 H=>U<|bz 18 N N N Z Z Z Z Nq (fun _=>Wi Z)<|cF N ?_
 exact⟨(c3,b8,_,_),⟨hac3,H⟩,li Z Z,Qg⟩
 rintro⟨c3,b8,lo,hi⟩ ρ1 w10 ⟨hac3,H⟩
 show CW _ _ _ _ (dH (gZ _ _ ρ1) [(8,.pointer (Qd b8)),(9,J (m3 co.a x.name e.ver n).2)]) w10
 refine W<|W<|Zr<|G (Yi Z) ?_
 refine ro (jh Z Z) Z Z Z (fun h39=> ?_) (fun h39=> ?_)
 have hadd: ¬ (n7 (Wa.mk (ps.map fun q=>q.p.a) co.a gr.a (sns.map Sn.a)) x.a n e).2=0:=by unfold n7;rw[if_pos hc21];exact h39
 have hadd2:(n7 (Wa.mk (ps.map fun q=>q.p.a) co.a gr.a (sns.map Sn.a)) x.a n e).2=(m3 co.a x.name e.ver n).2:=by unfold n7;rw[if_pos hc21];rfl
 refine U<|ZT Z<|W<|Zr<|G (Yi Z)<|ch bM (dR (m3 co.a x.name e.ver n).2 _) Z Z ?_
 rintro _ w11 ⟨rfl,hb⟩;replace H:=H.later hb;clear hb
 refine bo H 2 (#[J ((m3 co.a x.name e.ver n).2),J (0),.slice none 0 0]) aP Z Z Z Z Z N N fun w12 H=>U<|Zt ?_
 exact eS (cs0:= #[J ((m3 co.a x.name e.ver n).2),J (0),.slice none 0 0]) Z aN Z (H.ent (i:=2) Z) Z ⟨ps,uP,co,clo,chi,xM w0 lo hi c3::F,by rw[if_neg hadd,hadd2];exact pb.plain _ _ _,by rw[if_neg hadd];rfl,row,rfl,aj _ hco,fun q hq=>aj _ (hps q hq),fun f hf=>aj _ hf,H.forget (cr [(b8,_),(b7,_),(b6,_)] _) (fun _ h=>h)⟩
 refine U<|ZF Z<|Zk<|Zr<|G (Yp Z)<|G (Zw av H 0 Z Z Z)<|G (aJ Z)<|G (Zf aX Z)<|G (Zf eI Z)<|bo H 3 (#[.slice (Qd gP) ps.length pC,J (c3.clock),J (c3.next),J (c3.wait),.slice c3.A c3.txs.length c3.cap,J (gr.clock),J (gr.wait),J (gr.gen),.slice gr.mA gr.ms.length gr.mC,.slice gr.oA gr.os.length gr.oC,.slice (Qd gS) sns.length snC]) aF Z Z Z Z Z N N fun w13 H=>U ?_
 exact⟨(c3,_,_,_),⟨by rw[hac3];unfold n7;rw[if_pos hc21];rfl,by unfold n7;rw[if_pos hc21];exact(by simpa using h39:(m3 co.a x.name e.ver n).2=0),az ..,fun f hf=>aj _ hf,H.forget (.cons _ (ar _)) (fun _ h=>h)⟩,wC,Qg⟩
 refine Zk ?_
 exact⟨(co,clo,chi,F),⟨by unfold n7;rw[if_neg (by rw[hc21];decide)],by unfold n7;rw[if_neg (by rw[hc21];decide)],hco,fun _ h=>h,H⟩,wC,Qg⟩
 rintro⟨c2,l2,h2,F2⟩ ρ1 w14 ⟨hc2,hok2,hco2,hF2,H⟩
 show CW _ _ _ _ (dH (gZ _ _ ρ1) []) w14
 refine W ?_
 refine eN (τ:=Pa×Nat×Nat×Nat) [10,11,12,47,48,49,50,51,52,53,54,55,56,57,58,59,60] (fun(_,b10,_,_)=>[(10,.pointer (Qd b10)),(11,J (er q.p.a e).2.1),(12,J (er q.p.a e).2.2)]) (fun(p2,b10,lo,hi) w'=>p2.a=(er q.p.a e).1/\Hp w0 w' ((b10,.cells #[J (p2.epoch),J (p2.leader),.slice p2.iA p2.isr.length p2.iC,.slice p2.kA p2.known.length p2.kC,.slice p2.rA p2.reps.length p2.rC,J (p2.few),J (p2.base)] bF (0,0))::(b7,.cells #[J (e.epoch),J (e.pid),J (e.ver),J (e.seq),J (e.kind),.bool (e.txn),.string (e.text)] dw (0,0))::(b6,.cells #[J (0),J (0),.slice none 0 0] eg (0,0))::(bb,.cells #[.slice (Qd gP) ps.length pC,J (c2.clock),J (c2.next),J (c2.wait),.slice c2.A c2.txs.length c2.cap,J (gr.clock),J (gr.wait),J (gr.gen),.slice gr.mA gr.ms.length gr.mC,.slice gr.oA gr.os.length gr.oC,.slice (Qd gS) sns.length snC] bK (0,0))::(gP,.cells uP bF (0,0))::(gS,.cells uS fI (0,0))::(gq,.cells uq db (0,0))::(gl,.cells ul dw (0,0))::R) (tI w0 lo hi p2::F2)) ?_ ?_
 refine oP cd 14 9 [9,10,11,12,13,15,16,17] [14] [0,1,2,3,5,6] [14,15,16,17] [9] [0,1,2,3,5,6,10,11,12,13] (sp [(14,Sp.blk w14.heap.size (.agg #[J 0,J 0,.slice none 0 0,.slice none 0 0,.slice none 0 0,J 0,J 0]) bF)]) (sp [(9,Sp.deep w14.heap.size QV (fun p:Pa=>p.c.toArray) (fun cs=> .tuple #[.agg cs,J (er q.p.a e).2.1,J (er q.p.a e).2.2]) (fun cq:Pa=>cq.a=(er q.p.a e).1))]) N N N N (cI _) (cI _) ?_ ?_
 refine jH [0,1,2,3,4,5,6,7,8,14] [9,10,11,12,13,15,16,17] [14] [0,1,2,3,5,6] 7 (sp [(14,Sp.blk w14.heap.size (.agg #[J 0,J 0,.slice none 0 0,.slice none 0 0,.slice none 0 0,J 0,J 0]) bF)]) N N N Nq<|aw Z Z Z Z Z (fun w' hw'=>Yp Z)<|aw Z Z Z Z Z (fun w' hw'=>aJ Z)<|aw Z Z Z Z Z (fun w' hw'=>Zf aX Z)<|aw Z Z Z Z Z (fun w' hw'=>Zf dJ Z)<|aw Z Z Z Z Z (fun w' hw'=>aW ex Z (aB ((H.later hw').ent (i:=2) Z) Z))<|aw Z Z Z Z Z (fun w' hw'=>Yi Z)<|aw Z Z Z Z Z (fun w' hw'=>cG iz Z Z (by first|omega|(simp only[ae];omega)))<|aw Z Z Z Z Z (fun w' hw'=>pe aH row hq Z Z ((H.later hw').ent (i:=3) Z))<|aw Z Z Z Z Z (fun w' hw'=>jL dG Z ((H.later hw').ent (i:=0) Z) Z)<|xG bv Z Z Z Z Z (fun w' hw'=>hw'.size) fun b10=>aV ?_
 intro w15 hw' hF
 obtain⟨hF,bq,eq,hge10,hbl10⟩:=hF;cases eq
 replace H:=H.adoptNew hw' hbl10 hge10
 clear hw' hF
 refine de 9 N Z<|ch qY (zI q.p e _ (Hp.paM H (hF2 _ (hps q hqm))) (hpk q hqm).1 (hpk q hqm).2) Z Z ?_
 rintro _ w16 ⟨p2,rfl,hap2,hnp2⟩;replace H:=H.learn hnp2.2 (tI w0 w15.heap.size w16.heap.size p2) ⟨H.size,hnp2.1⟩ (ao _) (ao _);clear hnp2
 refine U<|bz 10 N N N Z Z Z Z Nq (fun _=>Yu Z)<|bz 11 N N N Z Z Z Z Nq (fun _=>Xa Z Z)<|bz 12 N N N Z Z Z Z Nq (fun _=>Xi Z Z)<|bz 13 N N N Z Z Z Z Nq (fun _=>Xi Z Z)<|de 15 N Z<|bo H 0 (#[J (p2.epoch),J (p2.leader),.slice p2.iA p2.isr.length p2.iC,.slice p2.kA p2.known.length p2.kC,.slice p2.rA p2.reps.length p2.rC,J (p2.few),J (p2.base)]) aK Z Z Z Z Z N N fun w17 H=>U<|bz 16 N N N Z Z Z Z Nq (fun _=>Wi Z)<|bz 17 N N N Z Z Z Z Nq (fun _=>Wi Z)<|cF N ?_
 exact⟨(p2,b10,_,_),⟨hap2,H⟩,Qq Z Z Z,Qg⟩
 refine jH [0,1,2,3,4,5,6,7,8,9,10,11,12,13] [14,15,16,17] [9] [0,1,2,3,5,6,10,11,12,13] 3 (sp [(9,Sp.deep w14.heap.size QV (fun p:Pa=>p.c.toArray) (fun cs=> .tuple #[.agg cs,J (er q.p.a e).2.1,J (er q.p.a e).2.2]) (fun cq:Pa=>cq.a=(er q.p.a e).1))]) N N N Nq<|aw Z Z Z Z Z (fun w' hw'=>Yp Z)<|aw Z Z Z Z Z (fun w' hw'=>aJ Z)<|aw Z Z Z Z Z (fun w' hw'=>Zf aX Z)<|aw Z Z Z Z Z (fun w' hw'=>Zf dJ Z)<|aw Z Z Z Z Z (fun w' hw'=>aW ex Z (aB ((H.later hw').ent (i:=2) Z) Z))<|aw Z Z Z Z Z (fun w' hw'=>Yi Z)<|aw Z Z Z Z Z (fun w' hw'=>cG iz Z Z (by first|omega|(simp only[ae];omega)))<|aw Z Z Z Z Z (fun w' hw'=>pe aH row hq Z Z ((H.later hw').ent (i:=3) Z))<|aw Z Z Z Z Z (fun w' hw'=>jL dG Z ((H.later hw').ent (i:=0) Z) Z)<|ta (gv:=(fun cs=> .tuple #[.agg cs,J (er q.p.a e).2.1,J (er q.p.a e).2.2])) qY Z Z Z Z Z (fun w' hw'=>hw'.size) (fun w' hw'=>zI q.p e w' (Hp.paM (H.later hw') (hF2 _ (hps q hqm))) (hpk q hqm).1 (hpk q hqm).2) Z fun cs57=>aw Z Z Z Z Z (fun w' hw'=>Yu Z)<|aw Z Z Z Z Z (fun w' hw'=>Xa Z Z)<|aw Z Z Z Z Z (fun w' hw'=>Xi Z Z)<|aw Z Z Z Z Z (fun w' hw'=>Xi Z Z)<|aV ?_
 intro w18 hw' hF
 obtain⟨hF,p2,eq,hap2,hrd57⟩:=hF;cases eq
 replace H:=H.learn hw' (tI w0 w14.heap.size w18.heap.size p2) ⟨H.size,hrd57⟩ (ao _) (ao _)
 clear hw' hF
 refine de 14 N Z<|eP H bv Z fun w19 b10 H=>U<|de 15 N Z<|bo H 0 (#[J (p2.epoch),J (p2.leader),.slice p2.iA p2.isr.length p2.iC,.slice p2.kA p2.known.length p2.kC,.slice p2.rA p2.reps.length p2.rC,J (p2.few),J (p2.base)]) aK Z Z Z Z Z N N fun w20 H=>U<|bz 16 N N N Z Z Z Z Nq (fun _=>Wi Z)<|bz 17 N N N Z Z Z Z Nq (fun _=>Wi Z)<|cF N ?_
 exact⟨(p2,b10,_,_),⟨hap2,H⟩,Qq Z Z Z,Qg⟩
 rintro⟨p2,b10,lo,hi⟩ ρ1 w21 ⟨hap2,H⟩
 show CW _ _ _ _ (dH (gZ _ _ ρ1) [(10,.pointer (Qd b10)),(11,J (er q.p.a e).2.1),(12,J (er q.p.a e).2.2)]) w21
 refine W<|W<|Zr<|G (Yi Z) ?_
 refine ro (jh Z Z) Z Z Z (fun h62=> ?_) (fun h62=> ?_)
 refine U<|ZT Z<|W<|Zr<|G (Yi Z)<|ch bM (dR (er q.p.a e).2.2 _) Z Z ?_
 rintro _ w22 ⟨rfl,hb⟩;replace H:=H.later hb;clear hb
 refine bo H 2 (#[J ((er q.p.a e).2.2),J (0),.slice none 0 0]) aP Z Z Z Z Z N N fun w23 H=>U<|Zt ?_
 exact eS (cs0:= #[J ((er q.p.a e).2.2),J (0),.slice none 0 0]) Z aN Z (H.ent (i:=2) Z) Z ⟨ps,uP,c2,l2,h2,tI w0 lo hi p2::F2,by rw[if_pos hok2,hP,if_neg h62];exact pb.plain _ _ _,by rw[if_pos hok2,hP,if_neg h62,<-hc2];rfl,row,rfl,aj _ hco2,fun q hq=>aj _ (hF2 _ (hps q hq)),fun f hf=>aj _ (hF2 f hf),H.forget (cr [(b10,_),(b7,_),(b6,_)] _) (fun _ h=>h)⟩
 refine U<|ZF Z<|Zk<|W ?_
 refine bA cd [0,1,2,3,4,5,6,7] [8] [] [0,1,2,3,5,7] (sp []) N N N N Nq (cI _) ?_
 refine aw Z Z Z Z Z (fun w' hw'=>Yp Z)<|aw Z Z Z Z Z (fun w' hw'=>aJ Z)<|aw Z Z Z Z Z (fun w' hw'=>Zf aX Z)<|aw Z Z Z Z Z (fun w' hw'=>Zf dJ Z)<|aw Z Z Z Z Z (fun w' hw'=>aW ex Z (aB ((H.later hw').ent (i:=3) Z) Z))<|aw Z Z Z Z Z (fun w' hw'=>Yi Z)<|aw Z Z Z Z Z (fun w' hw'=>jL aH Z ((H.later hw').ent (i:=0) Z) Z)<|aw Z Z Z Z Z (fun w' hw'=>cG iz Z Z (by first|omega|(simp only[ae];omega)))<|aV ?_
 intro w24 hw' hF
 replace H:=H.later hw';clear hw' hF
 refine k9 H 4 (⟨p2,lo,hi⟩) aK row hq 0 Z Z Z Z Z Z N fun w26 cur25 row25 H=> ?_
 have hs27:(ps.set n (⟨p2,lo,hi⟩))[n]? =some (⟨p2,lo,hi⟩):=al (cC hq).1
 refine U<|W<|Zr<|G (Yi Z)<|G (bg (cs:= #[J (0),J ((er q.p.a e).2.1),.slice none 0 0]) iQ dr N)<|bo H 2 (#[J (0),J ((er q.p.a e).2.1),.slice none 0 0]) aP Z Z Z Z Z N N fun w28 H=>U<|Zt ?_
 have hz:(er q.p.a e).2.2=0:=by simpa using h62
 have hz2:=hz
 exact eS (cs0:= #[J (0),J ((er q.p.a e).2.1),.slice none 0 0]) Z aN Z (H.ent (i:=2) Z) Z ⟨ps.set n ⟨p2,lo,hi⟩,_,c2,l2,h2,tI w0 lo hi p2::F2,by rw[if_pos hok2,hP,if_pos hz];exact pb.plain _ _ _,by rw[if_pos hok2,hP,if_pos hz,<-hc2];simp only[cE,hap2],row25,ae ..,aj _ hco2,fun y hy=>by rcases AD hy with hy|hy;exact aj _ (hF2 _ (hps y hy));rw[hy];exact az ..,fun f hf=>aj _ (hF2 f hf),by rw[ae];exact H.forget (cr [(b10,_),(b7,_),(b6,_)] _) (fun _ h=>h)⟩
/-- an answer without texts -/
def QN (x:An) (v:Value):Prop:=x.texts=[]/\v=.agg #[J x.code,J x.n,.slice none 0 0]
theorem QN.r {x:An} {v:Value} (h:QN x v) (w:World):pb x v w:=by
 obtain⟨c,n,t⟩:=x
 obtain⟨h1,rfl⟩:=h
 dsimp only at h1
 subst h1
 exact pb.plain c n w
theorem Hd (a:Act) (x:An) (w:World):dh aa vD [a.v,.agg #[J x.code,J x.n,.slice none 0 0]] w fun v w2=>v=.agg #[J (fL a x).code,J (fL a x).n,.slice none 0 0]/\Below w.heap.size w w2:=
 (DT a x.code x.n none 0 0 w).mono fun v w2 ⟨h1,h2⟩=>⟨by rw[h1];unfold fL;split<;>rfl,h2⟩
theorem lI (a:Act) {x:An} (hx:x.texts=[]):(fL a x).texts=[]:=by
 unfold fL
 split
 exact hx
 rfl
theorem Au (w:Wa) (n:Nat) (x:cz):(lK w n x).2.texts=[]:=by
 unfold lK
 split
 rfl
 split<;>rfl
theorem kD (w:Wa) (s:Sn) (n:Nat):(dN w s n).2.texts=[]:=by
 unfold dN
 split
 rfl
 split
 exact Au ..
 rfl
theorem pb.p {x:An} {v:Value} {w:World} (h:pb x v w) (hx:x.texts=[]): ∃ A c,v=.agg #[J x.code,J x.n,.slice A 0 c]:=by
 obtain⟨A,c,h1,-,-⟩:=h
 rw[hx]at h1
 exact⟨A,c,h1⟩
theorem Ap {b:Bk} {a:Act} {ag:Bool} (hix:eK b.sns a.name=none):jg b.a a ag=(b.a,⟨5,0,[]⟩):=by
 unfold jg
 rw[show b.a.sns=b.sns.map Sn.a from rfl,DX hix]
 rfl
theorem Ar {b:Bk} {a:Act} {i:Nat} {x:Sn} {e:cz} (hix:eK b.sns a.name=some i) (hx:b.sns[i]? =some x) (he:x.last[a.part.toNat]? =some e) (hk:e.kind=0):jg b.a a true=(b.a,⟨15,0,[]⟩):=by
 unfold jg
 rw[show b.a.sns=b.sns.map Sn.a from rfl,wQ hix hx]
 dsimp only
 rw[if_pos ⟨rfl,by rw[bY,show x.a.last=x.last from rfl,he];exact hk⟩]
 rfl
theorem oo {b:Bk} {a:Act} {i:Nat} {x:Sn} {ag:Bool} (hix:eK b.sns a.name=some i) (hx:b.sns[i]? =some x) (hk:ag=true-> ∃ e,x.last[a.part.toNat]? =some e/\e.kind≠0) (s1:Sn) (hs:(if ag then x else eL x a.part.toNat a.text)=s1):jg b.a a ag=if a.lost=1 then({b.a with sns:=(b.sns.set i s1).map Sn.a},⟨14,0,[]⟩)else((dN {b.a with sns:=(b.sns.set i s1).map Sn.a} s1.a a.part.toNat).1,fL a (dN {b.a with sns:=(b.sns.set i s1).map Sn.a} s1.a a.part.toNat).2):=by
 subst hs
 unfold jg
 rw[show b.a.sns=b.sns.map Sn.a from rfl,wQ hix hx]
 dsimp only
 rw[if_neg (fun h=>by
  obtain⟨e,he,hne⟩:=hk h.1
  have h2:=h.2
  rw[bY,show x.a.last=x.last from rfl,he]at h2
  exact hne h2)]
 have:(if ag=true then x.a else eL x.a a.part.toNat a.text)=(if ag=true then x else eL x a.part.toNat a.text).a:=by split<;>rfl
 rw[this,cE]
 rfl
theorem uR {x:Sn} {n:Nat} {q:Int} (h:x.seqs[n]? =some q) (t:ByteArray):eL x n t={x with last:=x.last.set n ⟨0,x.pid,x.ver,q,1,x.inn,t⟩,seqs:=x.seqs.set n (q+1)}:=by
 unfold eL
 rw[bY,h]
 rfl
theorem dX.same {α:Type} {Y:fq α} {es:List α} {c k:Nat} {cur:Array Value} {e e':α} (h:dX Y es c cur) (hk:es[k]? =some e) (he:Y.f e'=Y.f e):dX Y (es.set k e') c cur:=by
 refine⟨h.size,?_,by rw[ae];exact h.le,h.max⟩
 rw[ae,h.all]
 unfold fq.all
 have:(es.set k e').map Y.f=es.map Y.f:=by rw[cE,he];exact fe (by rw[aL,hk];rfl)
 simp only[List.flatMap_def,this]
theorem JG {w0 w:World} {bb:Nat} {b:Bk} {gP:Nat} {uP:Array Value} {Ls Lo K:List (Nat×Obj)} {F:List cB} (a:Act) (B:Bw w0 w bb b gP uP Ls Lo K F) (hsl:b.sns.length<=1000000) (ag:Bool) (hix:eK b.sns a.name=none):dh aa i5 [.pointer (Qd bb),a.v,.bool ag] w fun v w2=> ∃ b':Bk,pb (jg b.a a ag).2 v w2/\b'.a=(jg b.a a ag).1/\xN w0 w2 bb b' K F:=by
 refine aE jY Z Z ?_
 obtain⟨ps,pA,pC,co,clo,chi,gr,glo,ghi,sns,snA,snC⟩:=b
 obtain⟨hpA,row,hsn,hown,hco,hgr,hps,H⟩:=B
 dsimp only at hpA row hsn hown hco hgr hps
 subst hpA
 replace H:Hp w0 w ((bb,.cells #[.slice (Qd gP) ps.length pC,J (co.clock),J (co.next),J (co.wait),.slice co.A co.txs.length co.cap,J (gr.clock),J (gr.wait),J (gr.gen),.slice gr.mA gr.ms.length gr.mC,.slice gr.oA gr.os.length gr.oC,.slice snA sns.length snC] bK (0,0))::(gP,.cells uP bF (0,0))::(Ls++(Lo++K))) F:=H
 dsimp only at hix hsl
 show CW _ _ _ _ (args [.pointer (Qd bb),.agg #[J (a.kind),.string (a.name),J (a.part),J (a.n),J (a.m),.string (a.text),J (a.lost)],.bool ag]) w
 refine W<|Zr<|f7 H Z Z fun w1 b4 H=>eP H dr Z fun w2 b6 H=>U<|W<|Zr<|G (Yp Z)<|G (Zf fh Z)<|G (Zd bd H 1 Z Z Z)<|ch dB (jz bb ⟨ps,some ⟨gP,0,none⟩,pC,co,clo,chi,gr,glo,ghi,sns,snA,snC⟩ (a.name) Ls _ (H.ent (i:=2) Z) hsn (fun q hq=>(H.ents q (by simp only[ax,ap];grind)).1) hsl) Z Z ?_
 rintro _ w3 ⟨rfl,hb⟩;replace H:=H.later hb;clear hb
 rw[hix]
 refine G (Wp Z)<|U<|W<|Zb<|W<|Zr<|G (Yp Z)<|G (xY iY Z)<|G (Yb Z)<|ZN<|ZN<|ZN<|ZN<|ZN<|G (Kt Z Z)<|G (Wb Z)<|U<|ZT Z<|W<|Zr<|ch bM (dR 5 _) Z Z ?_
 rintro _ w4 ⟨rfl,hb⟩;replace H:=H.later hb;clear hb
 refine bo H 0 (#[J (5),J (0),.slice none 0 0]) aP Z Z Z Z Z N N fun w5 H=>U<|Zt ?_
 exact eS (cs0:= #[J (5),J (0),.slice none 0 0]) Z aN Z (H.ent (i:=0) Z) Z ⟨⟨ps,some ⟨gP,0,none⟩,pC,co,clo,chi,gr,glo,ghi,sns,snA,snC⟩,by rw[Ap hix];exact pb.plain _ _ _,by rw[Ap hix],Bw.shut (X:=[(b6,_),(b4,_)]) row hsn hown hco hgr hps (fun _ h=>h) H Z⟩
theorem K9 {a:Act} {x:An} {A:Option Addr} {c:Nat} {v:Value} (h:v=if a.lost=0 then .agg #[J x.code,J x.n,.slice A 0 c]else .agg #[J 14,J 0,.slice none 0 0]): ∃ A2 c2,v=.agg #[J (fL a x).code,J (fL a x).n,.slice A2 0 c2]:=by
 unfold fL
 split at h
 rename_i h0;rw[if_pos h0];exact⟨_,_,h⟩
 rename_i h0;rw[if_neg h0];exact⟨_,_,h⟩
theorem pb.of {x:An} {A:Option Addr} {c:Nat} {w:World} (hx:x.texts=[]):pb x (.agg #[J x.code,J x.n,.slice A 0 c]) w:=⟨A,c,by rw[hx];rfl,by rw[hx];exact bG _,by rw[hx];exact Rd.nil⟩
theorem Hn {w0 w:World} {bb:Nat} {b:Bk} {gP:Nat} {uP:Array Value} {Ls Lo K:List (Nat×Obj)} {F:List cB} (a:Act) (B:Bw w0 w bb b gP uP Ls Lo K F) (hsl:b.sns.length<=1000000) {k i:Nat} {x:Sn} (hix:eK b.sns a.name=some i) (hx:b.sns[i]? =some x) (hpn:0<=a.part/\a.part<b.ps.length) (hlo:0<=a.lost/\a.lost<=2) (hll:x.last.length=b.ps.length) (hsq:x.seqs.length=b.ps.length) (h4:b.ps.length<=4) (hnm:bL x.name=true) (hcb:oY k b.co) (hpk: ∀ q∈b.ps,q.p.a.ok/\ ∀ (l:Nat) (y:fk),q.p.leader=l->q.p.reps[l]? =some y->y.es.length<400):dh aa i5 [.pointer (Qd bb),a.v,.bool true] w fun v w2=> ∃ b':Bk,pb (jg b.a a true).2 v w2/\b'.a=(jg b.a a true).1/\xN w0 w2 bb b' K F:=by
 refine aE jY Z Z ?_
 obtain⟨ps,pA,pC,co,clo,chi,gr,glo,ghi,sns,snA,snC⟩:=b
 obtain⟨hpA,row,hsn,hown,hco,hgr,hps,H⟩:=B
 dsimp only at hpA row hsn hown hco hgr hps
 subst hpA
 dsimp only at hix hx
 obtain⟨gS,uS,hgS,hLs,rowS⟩:=hsn.row (by have:=(cC hx).1;omega)
 subst hgS;subst hLs
 obtain⟨gq,uq,gl,ul,La,Lb,hsA,hlA,rowq,rowl,hLo,hset⟩:=hown.at_ hx
 subst hLo
 replace H:Hp w0 w ((bb,.cells #[.slice (Qd gP) ps.length pC,J (co.clock),J (co.next),J (co.wait),.slice co.A co.txs.length co.cap,J (gr.clock),J (gr.wait),J (gr.gen),.slice gr.mA gr.ms.length gr.mC,.slice gr.oA gr.os.length gr.oC,.slice (Qd gS) sns.length snC] bK (0,0))::(gP,.cells uP bF (0,0))::(gS,.cells uS fI (0,0))::(gq,.cells uq db (0,0))::(gl,.cells ul dw (0,0))::(La++(Lb++K))) F:=H.perm (Do [(bb,_),(gP,_),(gS,_)] _ _ La Lb K)
 dsimp only at hsl hpn hll hsq h4 hcb hpk
 obtain⟨n,hna⟩: ∃ n:Nat,a.part=(n:Int):=⟨a.part.toNat,by omega⟩
 have htn:a.part.toNat=n:=by omega
 have hl5:(Ad.f x)[5]? =some (.slice (some ⟨gl,0,none⟩) x.last.length x.lC):=by rw[<-hlA];rfl
 have hl4:(Ad.f x)[4]? =some (.slice (some ⟨gq,0,none⟩) x.seqs.length x.sC):=by rw[<-hsA];rfl
 obtain⟨e,he⟩: ∃ e,x.last[n]? =some e:=⟨_,ah I⟩
 have rS2:dX Ad (sns.set i x) snC uS:=by rw[fe hx];exact rowS
 show CW _ _ _ _ (args [.pointer (Qd bb),.agg #[J (a.kind),.string (a.name),J (a.part),J (a.n),J (a.m),.string (a.text),J (a.lost)],.bool true]) w
 refine W<|Zr<|f7 H Z Z fun w1 b4 H=>eP H dr Z fun w2 b6 H=>U<|W<|Zr<|G (Yp Z)<|G (Zf fh Z)<|G (Zd bd H 1 Z Z Z)<|ch dB (jz bb ⟨ps,some ⟨gP,0,none⟩,pC,co,clo,chi,gr,glo,ghi,sns,some ⟨gS,0,none⟩,snC⟩ (a.name) _ _ (H.ent (i:=2) Z) (dX.own rowS) (fun q hq=>by rw[aq.1 hq];exact(H.ent (i:=4) Z)) hsl) Z Z ?_
 rintro _ w3 ⟨rfl,hb⟩;replace H:=H.later hb;clear hb
 rw[hix]
 refine G (Wp Z)<|U<|W<|Zb<|W<|Zr<|G (Yp Z)<|G (v9 iY Z)<|G (Yb Z)<|ZG<|G (Yp Z)<|ZG<|G (Zf dT Z)<|ZG<|G (Zd ak H 1 Z Z Z)<|ZG<|ch d4 (ot bb ⟨ps,some ⟨gP,0,none⟩,pC,co,clo,chi,gr,glo,ghi,sns,some ⟨gS,0,none⟩,snC⟩ a.part _ (H.ent (i:=2) Z)) Z Z ?_
 rintro _ w4 ⟨rfl,hb⟩;replace H:=H.later hb;clear hb
 rw[decide_eq_true hpn]
 refine ZG<|G (dM Z)<|G (N Z Z)<|G (Wb Z)<|U<|ZF Z<|W<|Zr<|G (Zf jN Z)<|G (Zd ak H 1 Z Z Z)<|G (dd Z Z I)<|G (Yb Z)<|ZG<|G (Zf jN Z)<|ZG<|G (Zd ak H 1 Z Z Z)<|ZG<|G (eB Z Z I)<|G (N Z Z)<|G (Wb Z)<|U<|ZF Z<|W ?_
 refine bA cd [0,1,2,3,4,5,6,7,8,9,10,11,12,13] [] [] [0,1,2,3,4,6,8,9,11,12,13] (sp []) N N N N Nq (cI _) ?_
 refine aw Z Z Z Z Z (fun w' hw'=>Yb Z)<|aw Z Z Z Z Z (fun w' hw'=>Yb Z)<|aw Z Z Z Z Z (fun w' hw'=>Yp Z)<|aw Z Z Z Z Z (fun w' hw'=>aJ Z)<|aw Z Z Z Z Z (fun w' hw'=>Zf me Z)<|aw Z Z Z Z Z (fun w' hw'=>bP nD rowS hx 5 Z ((H.later hw').ent (i:=4) Z) hl5)<|aw Z Z Z Z Z (fun w' hw'=>Zf dT Z)<|aw Z Z Z Z Z (fun w' hw'=>aW ak Z (aB ((H.later hw').ent (i:=1) Z) Z))<|aw Z Z Z Z Z (fun w' hw'=>cG (k:=n) dV Z (congrArg (Value.int .i64) hna) (by first|omega|(simp only[ae];omega)))<|aw Z Z Z Z Z (fun w' hw'=>Zf ff Z)<|aw Z Z Z Z Z (fun w' hw'=>bP ak rowl he 4 Z ((H.later hw').ent (i:=6) Z) Z) ?_
 refine B2 Z Z Z Z Z (fun w' hw'=>bn Z Z) (fun h45=> ?_) (fun h45=> ?_)
 ·
  refine aw Z Z Z Z Z (fun w' hw'=>Kt Z Z)<|aw Z Z Z Z Z (fun w' hw'=>Wb Z)<|aV ?_
  intro w5 hw' hF
  replace H:=H.later hw';clear hw' hF
  refine U<|ZT Z<|W<|Zr<|ch bM (dR 15 _) Z Z ?_
  rintro _ w6 ⟨rfl,hb⟩;replace H:=H.later hb;clear hb
  refine bo H 0 (#[J (15),J (0),.slice none 0 0]) aP Z Z Z Z Z N N fun w7 H=>U<|Zt ?_
  rw[<-htn]at he
  exact eS (cs0:= #[J (15),J (0),.slice none 0 0]) Z aN Z (H.ent (i:=0) Z) Z ⟨⟨ps,some ⟨gP,0,none⟩,pC,co,clo,chi,gr,glo,ghi,sns.set i x,some ⟨gS,0,none⟩,snC⟩,by rw[Ar hix hx he h45];exact pb.plain _ _ _,by rw[Ar hix hx he h45,fe hx],Bw.close (X:=[(b6,_),(b4,_)]) row (by rw[fe hx];exact rowS) hset hsA hlA rowq rowl hco hgr hps (fun _ h=>h) H (by rw[fe hx];rfl)⟩
 ·
  refine aw Z Z Z Z Z (fun w' hw'=>Kt Z Z)<|aw Z Z Z Z Z (fun w' hw'=>Wb Z)<|aV ?_
  intro w8 hw' hF
  replace H:=H.later hw';clear hw' hF
  refine U<|ZF Z<|W<|Zr<|G (Yb Z)<|G (dM Z)<|G (Yb Z)<|ZN<|ZN<|ZN<|ZN<|G (N Z Z)<|G (Wb Z)<|U<|ZF Z<|Zk<|W<|W<|Zr<|G (Yb Z)<|G (dM Z)<|U<|ZF Z<|Zk<|W<|W<|Zr<|G (Zf jN Z)<|G (Zd ak H 1 Z Z Z) ?_
  refine cW (bn Z Z) Z Z Z (fun h102=> ?_) (fun h102=> ?_)
  ·
   refine U<|ZT Z<|W<|Zr<|ch bM (dR 14 _) Z Z ?_
   rintro _ w9 ⟨rfl,hb⟩;replace H:=H.later hb;clear hb
   refine bo H 0 (#[J (14),J (0),.slice none 0 0]) aP Z Z Z Z Z N N fun w10 H=>U<|Zt ?_
   exact eS (cs0:= #[J (14),J (0),.slice none 0 0]) Z aN Z (H.ent (i:=0) Z) Z ⟨⟨ps,some ⟨gP,0,none⟩,pC,co,clo,chi,gr,glo,ghi,sns.set i x,some ⟨gS,0,none⟩,snC⟩,by rw[oo hix hx (fun _=>⟨e,by rw[htn];exact he,h45⟩) x Z,if_pos h102];exact pb.plain _ _ _,by rw[oo hix hx (fun _=>⟨e,by rw[htn];exact he,h45⟩) x Z,if_pos h102];rfl,Bw.close (X:=[(b6,_),(b4,_)]) row rS2 hset hsA hlA rowq rowl hco hgr hps (fun _ h=>h) H (by simp only[Bk.c,ae])⟩
  ·
   refine U<|ZF Z<|Zk<|W ?_
   refine pW cd (fun w'=>w'.heap[b4]? =some (.cells #[J (a.kind),.string (a.name),J (a.part),J (a.n),J (a.m),.string (a.text),J (a.lost)] gj (0,0))) ?_
   intro w11 hw';replace H:=H.later hw';clear hw'
   refine bh 0 N N N Z Z Z Z Nq (H.ent (i:=1) Z) (fun _ hS=>jL dQ Z hS Z)<|bh 1 N N N Z Z Z Z Nq (H.ent (i:=1) Z) (fun _ hS=>Yp Z)<|bh 2 N N N Z Z Z Z Nq (H.ent (i:=1) Z) (fun _ hS=>Yp Z)<|bh 3 N N N Z Z Z Z Nq (H.ent (i:=1) Z) (fun _ hS=>Zf dT Z)<|bh 4 N N N Z Z Z Z Nq (H.ent (i:=1) Z) (fun _ hS=>aW ak Z (aB hS Z))<|wK 5 N Z ?_
   refine ch ly ((by have hA:=BG (i:=i) (n:=n) (k:=k) (sns:=sns.set i x) (x:=x) (by simp only[ae];exact H.perm ((ai _ (ai _ (ai _ (ai _ (am _ _ _))))).trans ((ai _ (ai _ (ai _ (am _ _ _)))).trans ((ai _ (ai _ (am _ _ _))).trans ((ai _ (am _ _ _)).trans ((am _ _ _).trans ((ai _ (ai _ (ai _ (ai _ (ai _ (am _ _ _)))))).trans ((ai _ (ai _ (ai _ (ai _ (am _ _ _))))).trans ((ai _ (ai _ (ai _ (am _ _ _)))).trans ((ai _ (ai _ (am _ _ _))).trans (ai _ (am _ _ _)))))))))))) row rS2 rowl (al (cC hx).1) hlA hco hps I I I hnm hcb hpk;rw[<-hna]at hA;exact hA)) Z Z ?_
   rintro _ w12 ⟨ps',uP',co',clo',chi',F',hAn,hW,row',hlen',hco',hps',hF',H⟩
   replace H:=H.perm ((ai _ (am _ _ _)).trans ((am _ _ _).trans ((ai _ (ai _ (am _ _ _))).trans ((ai _ (am _ _ _)).trans ((ai _ (ai _ (ai _ (am _ _ _)))).trans ((ai _ (ai _ (am _ _ _))).trans ((ai _ (ai _ (ai _ (ai _ (am _ _ _))))).trans ((ai _ (ai _ (ai _ (am _ _ _)))).trans ((ai _ (ai _ (ai _ (ai _ (ai _ (am _ _ _)))))).trans (ai _ (ai _ (ai _ (ai _ (am _ _ _))))))))))))))
   obtain⟨A1,c1,rfl⟩:=hAn.p (kD ..)
   refine U ?_
   refine⟨(H.ent (i:=1) Z),?_⟩
   refine wK 6 N Z<|ch kI (DT a (dN (Wa.mk (ps.map fun q=>q.p.a) co.a gr.a ((sns.set i x).map Sn.a)) x.a n).2.code (dN (Wa.mk (ps.map fun q=>q.p.a) co.a gr.a ((sns.set i x).map Sn.a)) x.a n).2.n A1 0 c1 _) Z Z ?_
   rintro _ w13 ⟨ht,hb⟩;replace H:=H.later hb;clear hb
   obtain⟨A2,c2,rfl⟩:=K9 ht
   refine U ?_
   refine⟨(H.ent (i:=1) Z),?_⟩
   refine wK 7 N Z<|bo H 0 (#[J ((fL a (dN (Wa.mk (ps.map fun q=>q.p.a) co.a gr.a ((sns.set i x).map Sn.a)) x.a n).2).code),J ((fL a (dN (Wa.mk (ps.map fun q=>q.p.a) co.a gr.a ((sns.set i x).map Sn.a)) x.a n).2).n),.slice A2 0 c2]) aP Z Z Z Z Z N N fun w14 H=>U ?_
   refine⟨(H.ent (i:=1) Z),?_⟩
   refine ny N<|Zt ?_
   exact eS (cs0:= #[J ((fL a (dN (Wa.mk (ps.map fun q=>q.p.a) co.a gr.a ((sns.set i x).map Sn.a)) x.a n).2).code),J ((fL a (dN (Wa.mk (ps.map fun q=>q.p.a) co.a gr.a ((sns.set i x).map Sn.a)) x.a n).2).n),.slice A2 0 c2]) Z aN Z (H.ent (i:=0) Z) Z ⟨⟨ps',some ⟨gP,0,none⟩,pC,co',clo',chi',gr,glo,ghi,sns.set i x,some ⟨gS,0,none⟩,snC⟩,by rw[oo hix hx (fun _=>⟨e,by rw[htn];exact he,h45⟩) x Z,if_neg h102,htn];exact pb.of (lI _ (kD ..)),by rw[oo hix hx (fun _=>⟨e,by rw[htn];exact he,h45⟩) x Z,if_neg h102,htn];exact hW.symm,Bw.close (X:=[(b6,_),(b4,_)]) row' rS2 hset hsA hlA rowq rowl hco' (hF' _ hgr) hps' hF' H (by simp only[Bk.c,ae])⟩
theorem LG {w0 w:World} {bb:Nat} {b:Bk} {gP:Nat} {uP:Array Value} {Ls Lo K:List (Nat×Obj)} {F:List cB} (a:Act) (B:Bw w0 w bb b gP uP Ls Lo K F) (hsl:b.sns.length<=1000000) {k i:Nat} {x:Sn} (hix:eK b.sns a.name=some i) (hx:b.sns[i]? =some x) (hpn:0<=a.part/\a.part<b.ps.length) (hlo:0<=a.lost/\a.lost<=2) (hll:x.last.length=b.ps.length) (hsq:x.seqs.length=b.ps.length) (h4:b.ps.length<=4) (hnm:bL x.name=true) (hcb:oY k b.co) (hpk: ∀ q∈b.ps,q.p.a.ok/\ ∀ (l:Nat) (y:fk),q.p.leader=l->q.p.reps[l]? =some y->y.es.length<400) (htx:a.text.size<=40) (hsb: ∀ q∈x.seqs,0<=q/\q<=400):dh aa i5 [.pointer (Qd bb),a.v,.bool false] w fun v w2=> ∃ b':Bk,pb (jg b.a a false).2 v w2/\b'.a=(jg b.a a false).1/\xN w0 w2 bb b' K F:=by
 refine aE jY Z Z ?_
 obtain⟨ps,pA,pC,co,clo,chi,gr,glo,ghi,sns,snA,snC⟩:=b
 obtain⟨hpA,row,hsn,hown,hco,hgr,hps,H⟩:=B
 dsimp only at hpA row hsn hown hco hgr hps
 subst hpA
 dsimp only at hix hx
 obtain⟨gS,uS,hgS,hLs,rowS⟩:=hsn.row (by have:=(cC hx).1;omega)
 subst hgS;subst hLs
 obtain⟨gq,uq,gl,ul,La,Lb,hsA,hlA,rowq,rowl,hLo,hset⟩:=hown.at_ hx
 subst hLo
 replace H:Hp w0 w ((bb,.cells #[.slice (Qd gP) ps.length pC,J (co.clock),J (co.next),J (co.wait),.slice co.A co.txs.length co.cap,J (gr.clock),J (gr.wait),J (gr.gen),.slice gr.mA gr.ms.length gr.mC,.slice gr.oA gr.os.length gr.oC,.slice (Qd gS) sns.length snC] bK (0,0))::(gP,.cells uP bF (0,0))::(gS,.cells uS fI (0,0))::(gq,.cells uq db (0,0))::(gl,.cells ul dw (0,0))::(La++(Lb++K))) F:=H.perm (Do [(bb,_),(gP,_),(gS,_)] _ _ La Lb K)
 dsimp only at hsl hpn hll hsq h4 hcb hpk
 obtain⟨n,hna⟩: ∃ n:Nat,a.part=(n:Int):=⟨a.part.toNat,by omega⟩
 have htn:a.part.toNat=n:=by omega
 have hl5:(Ad.f x)[5]? =some (.slice (some ⟨gl,0,none⟩) x.last.length x.lC):=by rw[<-hlA];rfl
 have hl4:(Ad.f x)[4]? =some (.slice (some ⟨gq,0,none⟩) x.seqs.length x.sC):=by rw[<-hsA];rfl
 obtain⟨e,he⟩: ∃ e,x.last[n]? =some e:=⟨_,ah I⟩
 obtain⟨q,hq0⟩: ∃ q,x.seqs[n]? =some q:=⟨_,ah I⟩
 have hqb:=hsb q (ab hq0)
 show CW _ _ _ _ (args [.pointer (Qd bb),.agg #[J (a.kind),.string (a.name),J (a.part),J (a.n),J (a.m),.string (a.text),J (a.lost)],.bool false]) w
 refine W<|Zr<|f7 H Z Z fun w1 b4 H=>eP H dr Z fun w2 b6 H=>U<|W<|Zr<|G (Yp Z)<|G (Zf fh Z)<|G (Zd bd H 1 Z Z Z)<|ch dB (jz bb ⟨ps,some ⟨gP,0,none⟩,pC,co,clo,chi,gr,glo,ghi,sns,some ⟨gS,0,none⟩,snC⟩ (a.name) _ _ (H.ent (i:=2) Z) (dX.own rowS) (fun q hq=>by rw[aq.1 hq];exact(H.ent (i:=4) Z)) hsl) Z Z ?_
 rintro _ w3 ⟨rfl,hb⟩;replace H:=H.later hb;clear hb
 rw[hix]
 refine G (Wp Z)<|U<|W<|Zb<|W<|Zr<|G (Yp Z)<|G (v9 iY Z)<|G (Yb Z)<|ZG<|G (Yp Z)<|ZG<|G (Zf dT Z)<|ZG<|G (Zd ak H 1 Z Z Z)<|ZG<|ch d4 (ot bb ⟨ps,some ⟨gP,0,none⟩,pC,co,clo,chi,gr,glo,ghi,sns,some ⟨gS,0,none⟩,snC⟩ a.part _ (H.ent (i:=2) Z)) Z Z ?_
 rintro _ w4 ⟨rfl,hb⟩;replace H:=H.later hb;clear hb
 rw[decide_eq_true hpn]
 refine ZG<|G (dM Z)<|G (N Z Z)<|G (Wb Z)<|U<|ZF Z<|W<|Zr<|G (Zf jN Z)<|G (Zd ak H 1 Z Z Z)<|G (dd Z Z I)<|G (Yb Z)<|ZG<|G (Zf jN Z)<|ZG<|G (Zd ak H 1 Z Z Z)<|ZG<|G (eB Z Z I)<|G (N Z Z)<|G (Wb Z)<|U<|ZF Z<|W ?_
 refine bA cd [0,1,2,3,4,5,6,7,8,9,10,11,12,13] [] [] [0,1,2,3,4,6,8,9,11,12,13] (sp []) N N N N Nq (cI _) ?_
 refine aw Z Z Z Z Z (fun w' hw'=>Yb Z)<|aw Z Z Z Z Z (fun w' hw'=>Yb Z)<|eU Z Z Z Z<|eU Z Z Z Z<|eU Z Z Z Z<|eU Z Z Z Z<|eU Z Z Z Z<|eU Z Z Z Z<|eU Z Z Z Z<|eU Z Z Z Z<|eU Z Z Z Z<|eU Z Z Z Z<|aw Z Z Z Z Z (fun w' hw'=>N Z Z)<|aw Z Z Z Z Z (fun w' hw'=>Wb Z)<|aV ?_
 intro w5 hw' hF
 replace H:=H.later hw';clear hw' hF
 refine U<|ZF Z<|W<|Zr<|G (Yb Z)<|G (dM Z)<|G (Yb Z)<|ZG<|G (Zf Bz Z)<|ZG<|G (Zd bd H 1 Z Z Z)<|ZG<|G (HP jy Z)<|ZG<|G (eB Z Z I)<|G (Kt Z Z)<|G (Wb Z)<|U<|ZF Z<|Zk<|W<|W<|Zr<|G (Yb Z)<|G (dM Z)<|U<|ZT Z<|W ?_
 refine bA cd [0,1,2,3,4,5,6,7,8,9,10,11,12,13,14,15,16,17,18,19,20,21,22,23,24,25,26,27,28,29] [30] [] [0,1,2,4,6,7,8,10,11,12,14,15,16,18,20,22,23,24,26,28,29] (sp []) N N N N Nq (cI _) ?_
 refine aw Z Z Z Z Z (fun w' hw'=>Yp Z)<|aw Z Z Z Z Z (fun w' hw'=>aJ Z)<|aw Z Z Z Z Z (fun w' hw'=>Zf me Z)<|aw Z Z Z Z Z (fun w' hw'=>bP nD rowS hx 5 Z ((H.later hw').ent (i:=4) Z) hl5)<|aw Z Z Z Z Z (fun w' hw'=>Zf dT Z)<|aw Z Z Z Z Z (fun w' hw'=>aW ak Z (aB ((H.later hw').ent (i:=1) Z) Z))<|aw Z Z Z Z Z (fun w' hw'=>Yp Z)<|aw Z Z Z Z Z (fun w' hw'=>aJ Z)<|aw Z Z Z Z Z (fun w' hw'=>Zf GG Z)<|aw Z Z Z Z Z (fun w' hw'=>bP ak rowS hx 1 Z ((H.later hw').ent (i:=4) Z) Z)<|aw Z Z Z Z Z (fun w' hw'=>Yp Z)<|aw Z Z Z Z Z (fun w' hw'=>aJ Z)<|aw Z Z Z Z Z (fun w' hw'=>Zf uj Z)<|aw Z Z Z Z Z (fun w' hw'=>bP ak rowS hx 2 Z ((H.later hw').ent (i:=4) Z) Z)<|aw Z Z Z Z Z (fun w' hw'=>Yp Z)<|aw Z Z Z Z Z (fun w' hw'=>aJ Z)<|aw Z Z Z Z Z (fun w' hw'=>Zf y8 Z)<|aw Z Z Z Z Z (fun w' hw'=>bP cy rowS hx 4 Z ((H.later hw').ent (i:=4) Z) hl4)<|aw Z Z Z Z Z (fun w' hw'=>Zf dT Z)<|aw Z Z Z Z Z (fun w' hw'=>aW ak Z (aB ((H.later hw').ent (i:=1) Z) Z))<|aw Z Z Z Z Z (fun w' hw'=>cG (k:=n) bc Z (congrArg (Value.int .i64) hna) (by first|omega|(simp only[ae];omega)))<|aw Z Z Z Z Z (fun w' hw'=>bP ak rowq hq0 0 Z ((H.later hw').ent (i:=5) Z) Z)<|aw Z Z Z Z Z (fun w' hw'=>Yp Z)<|aw Z Z Z Z Z (fun w' hw'=>aJ Z)<|aw Z Z Z Z Z (fun w' hw'=>Zf oJ Z)<|aw Z Z Z Z Z (fun w' hw'=>bP dS rowS hx 3 Z ((H.later hw').ent (i:=4) Z) Z)<|aw Z Z Z Z Z (fun w' hw'=>Zf Bz Z)<|aw Z Z Z Z Z (fun w' hw'=>aW bd Z (aB ((H.later hw').ent (i:=1) Z) Z))<|aw Z Z Z Z Z (fun w' hw'=>bg (cs:= #[J (0),J (x.pid),J (x.ver),J (q),J (1),.bool (x.inn),.string (a.text)]) ol gu N)<|aw Z Z Z Z Z (fun w' hw'=>cG (k:=n) dV Z (congrArg (Value.int .i64) hna) (by first|omega|(simp only[ae];omega)))<|aV ?_
 intro w6 hw' hF
 replace H:=H.later hw';clear hw' hF
 refine k9 H 6 (⟨0,x.pid,x.ver,q,1,x.inn,a.text⟩) eW rowl he 0 Z Z Z Z Z Z N fun w8 cur7 row7 H=> ?_
 have hs9:(x.last.set n (⟨0,x.pid,x.ver,q,1,x.inn,a.text⟩))[n]? =some (⟨0,x.pid,x.ver,q,1,x.inn,a.text⟩):=al (cC he).1
 refine U ?_
 refine bA cd [0,1,2,3,4,5,6,7,8,9] [10] [] [0,1,2,4,6,8,9] (sp []) N N N N Nq (cI _) ?_
 refine aw Z Z Z Z Z (fun w' hw'=>Yp Z)<|aw Z Z Z Z Z (fun w' hw'=>aJ Z)<|aw Z Z Z Z Z (fun w' hw'=>Zf y8 Z)<|aw Z Z Z Z Z (fun w' hw'=>bP cy rowS hx 4 Z ((H.later hw').ent (i:=4) Z) hl4)<|aw Z Z Z Z Z (fun w' hw'=>Zf dT Z)<|aw Z Z Z Z Z (fun w' hw'=>aW ak Z (aB ((H.later hw').ent (i:=1) Z) Z))<|aw Z Z Z Z Z (fun w' hw'=>cG (k:=n) bc Z (congrArg (Value.int .i64) hna) (by first|omega|(simp only[ae];omega)))<|aw Z Z Z Z Z (fun w' hw'=>bP ak rowq hq0 0 Z ((H.later hw').ent (i:=5) Z) Z)<|aw Z Z Z Z Z (fun w' hw'=>bw Z Z I I)<|aw Z Z Z Z Z (fun w' hw'=>cG (k:=n) bc Z (congrArg (Value.int .i64) hna) (by first|omega|(simp only[ae];omega)))<|aV ?_
 intro w10 hw' hF
 replace H:=H.later hw';clear hw' hF
 refine k9 H 5 ((q+1)) bH rowq hq0 0 Z Z Z Z Z Z N fun w12 cur11 row11 H=> ?_
 have hs13:(x.seqs.set n ((q+1)))[n]? =some ((q+1)):=al (cC hq0).1
 refine U<|W<|W ?_
 obtain⟨x1,hx1⟩: ∃ x1:Sn,{x with last:=x.last.set n ⟨0,x.pid,x.ver,q,1,x.inn,a.text⟩,seqs:=x.seqs.set n (q+1)}=x1:=⟨_,rfl⟩
 have hsA1:x1.sA=some ⟨gq,0,none⟩:=by rw[<-hx1];exact hsA
 have hlA1:x1.lA=some ⟨gl,0,none⟩:=by rw[<-hx1];exact hlA
 have rowq1:dX bR x1.seqs x1.sC cur11:=by rw[<-hx1];exact row11
 have rowl1:dX gV x1.last x1.lC cur7:=by rw[<-hx1];exact row7
 have rowS1:dX Ad (sns.set i x1) snC uS:=dX.same rowS hx (by rw[<-hx1];simp only[Ad,Sn.c,ae])
 have hll1:x1.last.length=ps.length:=by rw[<-hx1];simp only[ae];exact hll
 have hnm1:bL x1.name=true:=by rw[<-hx1];exact hnm
 refine Zr<|G (Zf jN Z)<|G (Zd ak H 1 Z Z Z) ?_
 refine cW (bn Z Z) Z Z Z (fun h102=> ?_) (fun h102=> ?_)
 ·
  refine U<|ZT Z<|W<|Zr<|ch bM (dR 14 _) Z Z ?_
  rintro _ w14 ⟨rfl,hb⟩;replace H:=H.later hb;clear hb
  refine bo H 0 (#[J (14),J (0),.slice none 0 0]) aP Z Z Z Z Z N N fun w15 H=>U<|Zt ?_
  exact eS (cs0:= #[J (14),J (0),.slice none 0 0]) Z aN Z (H.ent (i:=0) Z) Z ⟨⟨ps,some ⟨gP,0,none⟩,pC,co,clo,chi,gr,glo,ghi,sns.set i x1,some ⟨gS,0,none⟩,snC⟩,by rw[oo hix hx (fun h=>by cases h) x1 (by rw[htn];exact(uR hq0 _).trans hx1),if_pos h102];exact pb.plain _ _ _,by rw[oo hix hx (fun h=>by cases h) x1 (by rw[htn];exact(uR hq0 _).trans hx1),if_pos h102];rfl,Bw.close (X:=[(b6,_),(b4,_)]) row rowS1 hset hsA1 hlA1 rowq1 rowl1 hco hgr hps (fun _ h=>h) H (by simp only[Bk.c,ae])⟩
 ·
  refine U<|ZF Z<|Zk<|W ?_
  refine pW cd (fun w'=>w'.heap[b4]? =some (.cells #[J (a.kind),.string (a.name),J (a.part),J (a.n),J (a.m),.string (a.text),J (a.lost)] gj (0,0))) ?_
  intro w16 hw';replace H:=H.later hw';clear hw'
  refine bh 0 N N N Z Z Z Z Nq (H.ent (i:=1) Z) (fun _ hS=>jL dQ Z hS Z)<|bh 1 N N N Z Z Z Z Nq (H.ent (i:=1) Z) (fun _ hS=>Yp Z)<|bh 2 N N N Z Z Z Z Nq (H.ent (i:=1) Z) (fun _ hS=>Yp Z)<|bh 3 N N N Z Z Z Z Nq (H.ent (i:=1) Z) (fun _ hS=>Zf dT Z)<|bh 4 N N N Z Z Z Z Nq (H.ent (i:=1) Z) (fun _ hS=>aW ak Z (aB hS Z))<|wK 5 N Z ?_
  refine ch ly ((by have hA:=BG (i:=i) (n:=n) (k:=k) (sns:=sns.set i x1) (x:=x1) (by simp only[ae];exact H.perm ((ai _ (ai _ (ai _ (ai _ (am _ _ _))))).trans ((ai _ (ai _ (ai _ (am _ _ _)))).trans ((ai _ (ai _ (am _ _ _))).trans ((ai _ (am _ _ _)).trans ((am _ _ _).trans ((ai _ (ai _ (ai _ (ai _ (ai _ (am _ _ _)))))).trans ((ai _ (ai _ (ai _ (ai _ (am _ _ _))))).trans ((ai _ (ai _ (ai _ (am _ _ _)))).trans ((ai _ (ai _ (am _ _ _))).trans (ai _ (am _ _ _)))))))))))) row rowS1 rowl1 (al (cC hx).1) hlA1 hco hps I I I hnm1 hcb hpk;rw[<-hna]at hA;exact hA)) Z Z ?_
  rintro _ w17 ⟨ps',uP',co',clo',chi',F',hAn,hW,row',hlen',hco',hps',hF',H⟩
  replace H:=H.perm ((ai _ (am _ _ _)).trans ((am _ _ _).trans ((ai _ (ai _ (am _ _ _))).trans ((ai _ (am _ _ _)).trans ((ai _ (ai _ (ai _ (am _ _ _)))).trans ((ai _ (ai _ (am _ _ _))).trans ((ai _ (ai _ (ai _ (ai _ (am _ _ _))))).trans ((ai _ (ai _ (ai _ (am _ _ _)))).trans ((ai _ (ai _ (ai _ (ai _ (ai _ (am _ _ _)))))).trans (ai _ (ai _ (ai _ (ai _ (am _ _ _))))))))))))))
  obtain⟨A1,c1,rfl⟩:=hAn.p (kD ..)
  refine U ?_
  refine⟨(H.ent (i:=1) Z),?_⟩
  refine wK 6 N Z<|ch kI (DT a (dN (Wa.mk (ps.map fun q=>q.p.a) co.a gr.a ((sns.set i x1).map Sn.a)) x1.a n).2.code (dN (Wa.mk (ps.map fun q=>q.p.a) co.a gr.a ((sns.set i x1).map Sn.a)) x1.a n).2.n A1 0 c1 _) Z Z ?_
  rintro _ w18 ⟨ht,hb⟩;replace H:=H.later hb;clear hb
  obtain⟨A2,c2,rfl⟩:=K9 ht
  refine U ?_
  refine⟨(H.ent (i:=1) Z),?_⟩
  refine wK 7 N Z<|bo H 0 (#[J ((fL a (dN (Wa.mk (ps.map fun q=>q.p.a) co.a gr.a ((sns.set i x1).map Sn.a)) x1.a n).2).code),J ((fL a (dN (Wa.mk (ps.map fun q=>q.p.a) co.a gr.a ((sns.set i x1).map Sn.a)) x1.a n).2).n),.slice A2 0 c2]) aP Z Z Z Z Z N N fun w19 H=>U ?_
  refine⟨(H.ent (i:=1) Z),?_⟩
  refine ny N<|Zt ?_
  exact eS (cs0:= #[J ((fL a (dN (Wa.mk (ps.map fun q=>q.p.a) co.a gr.a ((sns.set i x1).map Sn.a)) x1.a n).2).code),J ((fL a (dN (Wa.mk (ps.map fun q=>q.p.a) co.a gr.a ((sns.set i x1).map Sn.a)) x1.a n).2).n),.slice A2 0 c2]) Z aN Z (H.ent (i:=0) Z) Z ⟨⟨ps',some ⟨gP,0,none⟩,pC,co',clo',chi',gr,glo,ghi,sns.set i x1,some ⟨gS,0,none⟩,snC⟩,by rw[oo hix hx (fun h=>by cases h) x1 (by rw[htn];exact(uR hq0 _).trans hx1),if_neg h102,htn];exact pb.of (lI _ (kD ..)),by rw[oo hix hx (fun h=>by cases h) x1 (by rw[htn];exact(uR hq0 _).trans hx1),if_neg h102,htn];exact hW.symm,Bw.close (X:=[(b6,_),(b4,_)]) row' rowS1 hset hsA1 hlA1 rowq1 rowl1 hco' (hF' _ hgr) hps' hF' H (by simp only[Bk.c,ae])⟩
theorem xq {b:Bk} {a:Act} (hix:eK b.sns a.name=none):jE b.a a=(b.a,⟨5,0,[]⟩):=by
 unfold jE
 rw[show b.a.sns=b.sns.map Sn.a from rfl,DX hix]
 rfl
theorem jb {b:Bk} {a:Act} {i:Nat} {x:Sn} (hix:eK b.sns a.name=some i) (hx:b.sns[i]? =some x):jE b.a a=if x.inn=false then lJ b.a 12 else if a.lost=1 then lJ b.a 14 else
  if(js b.co.a x.name x.ver (decide (a.n=1))).2=0 then({b.a with co:=(js b.co.a x.name x.ver (decide (a.n=1))).1,sns:=if a.lost=0 then(b.sns.set i (sX x)).map Sn.a else b.sns.map Sn.a},fL a ⟨0,0,[]⟩)else(b.a,fL a ⟨(js b.co.a x.name x.ver (decide (a.n=1))).2,0,[]⟩):=by
 unfold jE
 rw[show b.a.sns=b.sns.map Sn.a from rfl,wQ hix hx,cE]
 rfl
def zT (e:cz):cz:=if e.txn then jV else e
theorem Kx (x:Sn):sX x={x with inn:=false,last:=x.last.map zT}:=rfl
theorem K0 {l:List cz} {i:Nat} {e:cz} (he:l[i]? =some e):((l.take i).map zT++l.drop i).set i (zT e)=(l.take (i+1)).map zT++l.drop (i+1):=by
 have hi:=(cC he).1
 have h1:((l.take i).map zT).length=i:=by simp;omega
 rw[jk _ _ I,h1,my,eu he,bl,aD]
 congr 1
 rw[m9 hi]
 rfl
theorem DP {l:List cz} {i:Nat} {e:cz} (he:l[i]? =some e):((l.take i).map zT++l.drop i)[i]? =some e:=by
 have hi:=(cC he).1
 rw[bX (by simp;omega)]
 simp only[bJ,aI,bu (mz hi),my]
 rw[dx]
 exact he
theorem GD {w0 w:World} {bb:Nat} {b:Bk} {gP:Nat} {uP:Array Value} {Ls Lo K:List (Nat×Obj)} {F:List cB} (a:Act) (B:Bw w0 w bb b gP uP Ls Lo K F) (hsl:b.sns.length<=1000000) (hix:eK b.sns a.name=none):dh aa jD [.pointer (Qd bb),a.v] w fun v w2=> ∃ b':Bk,pb (jE b.a a).2 v w2/\b'.a=(jE b.a a).1/\xN w0 w2 bb b' K F:=by
 refine aE mb Z Z ?_
 obtain⟨ps,pA,pC,co,clo,chi,gr,glo,ghi,sns,snA,snC⟩:=b
 obtain⟨hpA,row,hsn,hown,hco,hgr,hps,H⟩:=B
 dsimp only at hpA row hsn hown hco hgr hps
 subst hpA
 replace H:Hp w0 w ((bb,.cells #[.slice (Qd gP) ps.length pC,J (co.clock),J (co.next),J (co.wait),.slice co.A co.txs.length co.cap,J (gr.clock),J (gr.wait),J (gr.gen),.slice gr.mA gr.ms.length gr.mC,.slice gr.oA gr.os.length gr.oC,.slice snA sns.length snC] bK (0,0))::(gP,.cells uP bF (0,0))::(Ls++(Lo++K))) F:=H
 dsimp only at hix hsl
 show CW _ _ _ _ (args [.pointer (Qd bb),.agg #[J (a.kind),.string (a.name),J (a.part),J (a.n),J (a.m),.string (a.text),J (a.lost)]]) w
 refine W<|Zr<|f7 H Z Z fun w1 b3 H=>eP H dr Z fun w2 b4 H=>U<|W<|Zr<|G (Yp Z)<|G (Zf fh Z)<|G (Zd bd H 1 Z Z Z)<|ch dB (jz bb ⟨ps,some ⟨gP,0,none⟩,pC,co,clo,chi,gr,glo,ghi,sns,snA,snC⟩ (a.name) Ls _ (H.ent (i:=2) Z) hsn (fun q hq=>(H.ents q (by simp only[ax,ap];grind)).1) hsl) Z Z ?_
 rintro _ w3 ⟨rfl,hb⟩;replace H:=H.later hb;clear hb
 rw[hix]
 refine G (Wp Z)<|U<|W<|Zb<|W<|Zr<|G (Yp Z)<|G (xY iY Z)<|G (Wb Z)<|U<|ZT Z<|W<|Zr<|ch bM (dR 5 _) Z Z ?_
 rintro _ w4 ⟨rfl,hb⟩;replace H:=H.later hb;clear hb
 refine bo H 0 (#[J (5),J (0),.slice none 0 0]) aP Z Z Z Z Z N N fun w5 H=>U<|Zt ?_
 exact eS (cs0:= #[J (5),J (0),.slice none 0 0]) Z aN Z (H.ent (i:=0) Z) Z ⟨⟨ps,some ⟨gP,0,none⟩,pC,co,clo,chi,gr,glo,ghi,sns,snA,snC⟩,by rw[xq hix];exact pb.plain _ _ _,by rw[xq hix],Bw.shut (X:=[(b4,_),(b3,_)]) row hsn hown hco hgr hps (fun _ h=>h) H Z⟩
theorem GC {w0 w:World} {bb:Nat} {b:Bk} {gP:Nat} {uP:Array Value} {Ls Lo K:List (Nat×Obj)} {F:List cB} (a:Act) (B:Bw w0 w bb b gP uP Ls Lo K F) (hsl:b.sns.length<=1000000) {k i:Nat} {x:Sn} (hix:eK b.sns a.name=some i) (hx:b.sns[i]? =some x) (hlo:0<=a.lost/\a.lost<=2) (hn1:0<=a.n/\a.n<=1) (hll:x.last.length<=4) (hnm:bL x.name=true) (hcb:oY k b.co):dh aa jD [.pointer (Qd bb),a.v] w fun v w2=> ∃ b':Bk,pb (jE b.a a).2 v w2/\b'.a=(jE b.a a).1/\xN w0 w2 bb b' K F:=by
 refine aE mb Z Z ?_
 obtain⟨ps,pA,pC,co,clo,chi,gr,glo,ghi,sns,snA,snC⟩:=b
 obtain⟨hpA,row,hsn,hown,hco,hgr,hps,H⟩:=B
 dsimp only at hpA row hsn hown hco hgr hps
 subst hpA
 dsimp only at hix hx
 obtain⟨gS,uS,hgS,hLs,rowS⟩:=hsn.row (by have:=(cC hx).1;omega)
 subst hgS;subst hLs
 obtain⟨gq,uq,gl,ul,La,Lb,hsA,hlA,rowq,rowl,hLo,hset⟩:=hown.at_ hx
 subst hLo
 replace H:Hp w0 w ((bb,.cells #[.slice (Qd gP) ps.length pC,J (co.clock),J (co.next),J (co.wait),.slice co.A co.txs.length co.cap,J (gr.clock),J (gr.wait),J (gr.gen),.slice gr.mA gr.ms.length gr.mC,.slice gr.oA gr.os.length gr.oC,.slice (Qd gS) sns.length snC] bK (0,0))::(gP,.cells uP bF (0,0))::(gS,.cells uS fI (0,0))::(gq,.cells uq db (0,0))::(gl,.cells ul dw (0,0))::(La++(Lb++K))) F:=H.perm (Do [(bb,_),(gP,_),(gS,_)] _ _ La Lb K)
 dsimp only at hsl hcb
 have hl5:(Ad.f x)[5]? =some (.slice (some ⟨gl,0,none⟩) x.last.length x.lC):=by rw[<-hlA];rfl
 show CW _ _ _ _ (args [.pointer (Qd bb),.agg #[J (a.kind),.string (a.name),J (a.part),J (a.n),J (a.m),.string (a.text),J (a.lost)]]) w
 refine W<|Zr<|f7 H Z Z fun w1 b3 H=>eP H dr Z fun w2 b4 H=>U<|W<|Zr<|G (Yp Z)<|G (Zf fh Z)<|G (Zd bd H 1 Z Z Z)<|ch dB (jz bb ⟨ps,some ⟨gP,0,none⟩,pC,co,clo,chi,gr,glo,ghi,sns,some ⟨gS,0,none⟩,snC⟩ (a.name) _ _ (H.ent (i:=2) Z) (dX.own rowS) (fun q hq=>by rw[aq.1 hq];exact(H.ent (i:=4) Z)) hsl) Z Z ?_
 rintro _ w3 ⟨rfl,hb⟩;replace H:=H.later hb;clear hb
 rw[hix]
 refine G (Wp Z)<|U<|W<|Zb<|W<|Zr<|G (Yp Z)<|G (v9 iY Z)<|G (Wb Z)<|U<|ZF Z<|W<|Zr<|G (Zf jN Z)<|G (Zd ak H 1 Z Z Z)<|G (dd Z Z I)<|G (Yb Z)<|ZG<|G (Zf jN Z)<|ZG<|G (Zd ak H 1 Z Z Z)<|ZG<|G (eB Z Z I)<|G (N Z Z)<|G (Yb Z)<|ZG<|G (Zf eT Z)<|ZG<|G (Zd ak H 1 Z Z Z)<|ZG<|G (dd Z Z I)<|G (N Z Z)<|G (Yb Z)<|ZG<|G (Zf eT Z)<|ZG<|G (Zd ak H 1 Z Z Z)<|ZG<|G (eB Z Z I)<|G (N Z Z) ?_
 refine G (Wb Z)<|U<|ZF Z<|W<|Zr<|G (Yp Z)<|G (aJ Z)<|G (Zf oJ Z) ?_
 refine wW (bP dS rowS hx 3 Z (H.ent (i:=4) Z) Z) Z Z Z (fun h41=> ?_) (fun h41=> ?_)
 refine G (dM Z)<|G (Wb Z)<|U<|ZF Z<|W<|Zr<|G (Zf jN Z)<|G (Zd ak H 1 Z Z Z) ?_
 refine cW (bn Z Z) Z Z Z (fun h47=> ?_) (fun h47=> ?_)
 refine G (Wb Z)<|U<|ZT Z<|W<|Zr<|ch bM (dR 14 _) Z Z ?_
 rintro _ w4 ⟨rfl,hb⟩;replace H:=H.later hb;clear hb
 refine bo H 0 (#[J (14),J (0),.slice none 0 0]) aP Z Z Z Z Z N N fun w5 H=>U<|Zt ?_
 exact eS (cs0:= #[J (14),J (0),.slice none 0 0]) Z aN Z (H.ent (i:=0) Z) Z ⟨⟨ps,some ⟨gP,0,none⟩,pC,co,clo,chi,gr,glo,ghi,sns.set i x,some ⟨gS,0,none⟩,snC⟩,by rw[jb hix hx,if_neg (by rw[h41];decide),if_pos h47];exact pb.plain _ _ _,by rw[jb hix hx,if_neg (by rw[h41];decide),if_pos h47,fe hx];rfl,Bw.close (X:=[(b4,_),(b3,_)]) row (by rw[fe hx];exact rowS) hset hsA hlA rowq rowl hco hgr hps (fun _ h=>h) H (by rw[fe hx];rfl)⟩
 refine G (Wb Z)<|U<|ZF Z<|Zk<|W ?_
 refine eN (τ:=Co×Nat×Nat×Nat) [6,7,49,50,51,52,53,54,55,56,57,58,59,60,61,62,63,64,65,66,67,68] (fun(_,b6,_,_)=>[(6,.pointer (Qd b6)),(7,J (js co.a x.name x.ver (decide (a.n=1))).2)]) (fun(c3,b6,lo,hi) w'=>c3.a=(js co.a x.name x.ver (decide (a.n=1))).1/\Hp w0 w' ((b6,.cells #[J (c3.clock),J (c3.next),J (c3.wait),.slice c3.A c3.txs.length c3.cap] bi (0,0))::(b4,.cells #[J (0),J (0),.slice none 0 0] eg (0,0))::(b3,.cells #[J (a.kind),.string (a.name),J (a.part),J (a.n),J (a.m),.string (a.text),J (a.lost)] gj (0,0))::(bb,.cells #[.slice (Qd gP) ps.length pC,J (co.clock),J (co.next),J (co.wait),.slice co.A co.txs.length co.cap,J (gr.clock),J (gr.wait),J (gr.gen),.slice gr.mA gr.ms.length gr.mC,.slice gr.oA gr.os.length gr.oC,.slice (Qd gS) sns.length snC] bK (0,0))::(gP,.cells uP bF (0,0))::(gS,.cells uS fI (0,0))::(gq,.cells uq db (0,0))::(gl,.cells ul dw (0,0))::La++(Lb++K)) (xM w0 lo hi c3::F)) ?_ ?_
 refine oP cd 20 16 [16,17,18,19,21,22] [20] [0,1,2,3,5,6,7,9,10,11,13,15] [20,21,22] [16] [0,1,2,3,5,6,7,9,10,11,13,15,17,18,19] (sp [(20,Sp.blk w3.heap.size (.agg #[J 0,J 0,J 0,.slice none 0 0]) bi)]) (sp [(16,Sp.deep w3.heap.size Nz (fun c:Co=>c.c.toArray) (fun cs=> .tuple #[.agg cs,J (js co.a x.name x.ver (decide (a.n=1))).2]) (fun cq:Co=>cq.a=(js co.a x.name x.ver (decide (a.n=1))).1))]) N N N N (cI _) (cI _) ?_ ?_
 refine jH [0,1,2,3,4,5,6,7,8,9,10,11,12,13,14,15,20] [16,17,18,19,21,22] [20] [0,1,2,3,5,6,7,9,10,11,13,15] 5 (sp [(20,Sp.blk w3.heap.size (.agg #[J 0,J 0,J 0,.slice none 0 0]) bi)]) N N N Nq<|aw Z Z Z Z Z (fun w' hw'=>Yp Z)<|aw Z Z Z Z Z (fun w' hw'=>aJ Z)<|aw Z Z Z Z Z (fun w' hw'=>Zf aX Z)<|aw Z Z Z Z Z (fun w' hw'=>Zf eI Z)<|aw Z Z Z Z Z (fun w' hw'=>j6 1 [J (co.clock),J (co.next),J (co.wait),.slice co.A co.txs.length co.cap] av Z Z ((H.later hw').ent (i:=2) Z) Z)<|aw Z Z Z Z Z (fun w' hw'=>Yp Z)<|aw Z Z Z Z Z (fun w' hw'=>aJ Z)<|aw Z Z Z Z Z (fun w' hw'=>Zf oK Z)<|aw Z Z Z Z Z (fun w' hw'=>bP bd rowS hx 0 Z ((H.later hw').ent (i:=4) Z) Z)<|aw Z Z Z Z Z (fun w' hw'=>Yp Z)<|aw Z Z Z Z Z (fun w' hw'=>aJ Z)<|aw Z Z Z Z Z (fun w' hw'=>Zf uj Z)<|aw Z Z Z Z Z (fun w' hw'=>bP ak rowS hx 2 Z ((H.later hw').ent (i:=4) Z) Z)<|aw Z Z Z Z Z (fun w' hw'=>Zf eT Z)<|aw Z Z Z Z Z (fun w' hw'=>aW ak Z (aB ((H.later hw').ent (i:=1) Z) Z))<|aw Z Z Z Z Z (fun w' hw'=>bn Z Z)<|xG cM Z Z Z Z Z (fun w' hw'=>hw'.size) fun b6=>aV ?_
 intro w6 hw' hF
 obtain⟨hF,bq,eq,hge6,hbl6⟩:=hF;cases eq
 replace H:=H.adoptNew hw' hbl6 hge6
 clear hw' hF
 refine de 16 N Z<|ch xA (GJ co x.name x.ver (decide (a.n=1)) k _ (Hp.coM H hco) hcb hnm) Z Z ?_
 rintro _ w7 ⟨c3,rfl,hac3,hnc3⟩;replace H:=H.learn hnc3.2 (xM w0 w6.heap.size w7.heap.size c3) ⟨H.size,hnc3.1⟩ (ao _) (ao _);clear hnc3
 refine U<|bz 17 N N N Z Z Z Z Nq (fun _=>Yu Z)<|bz 18 N N N Z Z Z Z Nq (fun _=>Xa Z Z)<|bz 19 N N N Z Z Z Z Nq (fun _=>Xi Z Z)<|de 21 N Z<|bo H 0 (#[J (c3.clock),J (c3.next),J (c3.wait),.slice c3.A c3.txs.length c3.cap]) aF Z Z Z Z Z N N fun w8 H=>U<|bz 22 N N N Z Z Z Z Nq (fun _=>Wi Z)<|cF N ?_
 exact⟨(c3,b6,_,_),⟨hac3,H⟩,li Z Z,Qg⟩
 refine jH [0,1,2,3,4,5,6,7,8,9,10,11,12,13,14,15,16,17,18,19] [20,21,22] [16] [0,1,2,3,5,6,7,9,10,11,13,15,17,18,19] 2 (sp [(16,Sp.deep w3.heap.size Nz (fun c:Co=>c.c.toArray) (fun cs=> .tuple #[.agg cs,J (js co.a x.name x.ver (decide (a.n=1))).2]) (fun cq:Co=>cq.a=(js co.a x.name x.ver (decide (a.n=1))).1))]) N N N Nq<|aw Z Z Z Z Z (fun w' hw'=>Yp Z)<|aw Z Z Z Z Z (fun w' hw'=>aJ Z)<|aw Z Z Z Z Z (fun w' hw'=>Zf aX Z)<|aw Z Z Z Z Z (fun w' hw'=>Zf eI Z)<|aw Z Z Z Z Z (fun w' hw'=>j6 1 [J (co.clock),J (co.next),J (co.wait),.slice co.A co.txs.length co.cap] av Z Z ((H.later hw').ent (i:=2) Z) Z)<|aw Z Z Z Z Z (fun w' hw'=>Yp Z)<|aw Z Z Z Z Z (fun w' hw'=>aJ Z)<|aw Z Z Z Z Z (fun w' hw'=>Zf oK Z)<|aw Z Z Z Z Z (fun w' hw'=>bP bd rowS hx 0 Z ((H.later hw').ent (i:=4) Z) Z)<|aw Z Z Z Z Z (fun w' hw'=>Yp Z)<|aw Z Z Z Z Z (fun w' hw'=>aJ Z)<|aw Z Z Z Z Z (fun w' hw'=>Zf uj Z)<|aw Z Z Z Z Z (fun w' hw'=>bP ak rowS hx 2 Z ((H.later hw').ent (i:=4) Z) Z)<|aw Z Z Z Z Z (fun w' hw'=>Zf eT Z)<|aw Z Z Z Z Z (fun w' hw'=>aW ak Z (aB ((H.later hw').ent (i:=1) Z) Z))<|aw Z Z Z Z Z (fun w' hw'=>bn Z Z)<|ta (gv:=(fun cs=> .tuple #[.agg cs,J (js co.a x.name x.ver (decide (a.n=1))).2])) xA Z Z Z Z Z (fun w' hw'=>hw'.size) (fun w' hw'=>GJ co x.name x.ver (decide (a.n=1)) k w' (Hp.coM (H.later hw') hco) hcb hnm) Z fun cs66=>aw Z Z Z Z Z (fun w' hw'=>Yu Z)<|aw Z Z Z Z Z (fun w' hw'=>Xa Z Z)<|aw Z Z Z Z Z (fun w' hw'=>Xi Z Z)<|aV ?_
 intro w9 hw' hF
 obtain⟨hF,c3,eq,hac3,hrd66⟩:=hF;cases eq
 replace H:=H.learn hw' (xM w0 w3.heap.size w9.heap.size c3) ⟨H.size,hrd66⟩ (ao _) (ao _)
 clear hw' hF
 refine de 20 N Z<|eP H cM Z fun w10 b6 H=>U<|de 21 N Z<|bo H 0 (#[J (c3.clock),J (c3.next),J (c3.wait),.slice c3.A c3.txs.length c3.cap]) aF Z Z Z Z Z N N fun w11 H=>U<|bz 22 N N N Z Z Z Z Nq (fun _=>Wi Z)<|cF N ?_
 exact⟨(c3,b6,_,_),⟨hac3,H⟩,li Z Z,Qg⟩
 rintro⟨c3,b6,lo,hi⟩ ρ1 w12 ⟨hac3,H⟩
 show CW _ _ _ _ (dH (gZ _ _ ρ1) [(6,.pointer (Qd b6)),(7,J (js co.a x.name x.ver (decide (a.n=1))).2)]) w12
 refine W<|W<|Zr<|G (Yi Z) ?_
 refine ro (jh Z Z) Z Z Z (fun h70=> ?_) (fun h70=> ?_)
 refine U<|ZT Z<|W ?_
 refine bA cd [0,1,2,3] [4] [2,3] [1] (sp [(2,Sp.one (.agg #[J (js co.a x.name x.ver (decide (a.n=1))).2,J 0,.slice none 0 0])),(3,Sp.one (.agg #[J (fL a ⟨(js co.a x.name x.ver (decide (a.n=1))).2,0,[]⟩).code,J (fL a ⟨(js co.a x.name x.ver (decide (a.n=1))).2,0,[]⟩).n,.slice none 0 0]))]) N N N N Nq (cI _) ?_
 refine aw Z Z Z Z Z (fun w' hw'=>jL dQ Z ((H.later hw').ent (i:=2) Z) Z)<|aw Z Z Z Z Z (fun w' hw'=>Yi Z)<|ic bM Z Z Z Z Z (fun w' hw'=>dR (js co.a x.name x.ver (decide (a.n=1))).2 w') Z<|ic kI Z Z Z Z Z (fun w' hw'=>Hd a ⟨(js co.a x.name x.ver (decide (a.n=1))).2,0,[]⟩ w') Z<|aV ?_
 intro w13 hw' hF
 replace H:=H.later hw';clear hw' hF
 refine bo H 1 (#[J ((fL a ⟨(js co.a x.name x.ver (decide (a.n=1))).2,0,[]⟩).code),J ((fL a ⟨(js co.a x.name x.ver (decide (a.n=1))).2,0,[]⟩).n),.slice none 0 0]) aP Z Z Z Z Z N N fun w14 H=>U<|Zt ?_
 exact eS (cs0:= #[J ((fL a ⟨(js co.a x.name x.ver (decide (a.n=1))).2,0,[]⟩).code),J ((fL a ⟨(js co.a x.name x.ver (decide (a.n=1))).2,0,[]⟩).n),.slice none 0 0]) Z aN Z (H.ent (i:=1) Z) Z ⟨⟨ps,some ⟨gP,0,none⟩,pC,co,clo,chi,gr,glo,ghi,sns.set i x,some ⟨gS,0,none⟩,snC⟩,by rw[jb hix hx,if_neg (by rw[h41];decide),if_neg h47,if_neg h70];exact QN.r ⟨lI _ Z,rfl⟩ _,by rw[jb hix hx,if_neg (by rw[h41];decide),if_neg h47,if_neg h70,fe hx],Bw.close (X:=[(b6,_),(b4,_),(b3,_)]) row (by rw[fe hx];exact rowS) hset hsA hlA rowq rowl (aj _ hco) (aj _ hgr) (fun q hq=>aj _ (hps q hq)) (fun f hf=>aj _ hf) H (by rw[fe hx];rfl)⟩
 refine U<|ZF Z<|Zk<|W ?_
 have hok3:(js co.a x.name x.ver (decide (a.n=1))).2=0:=by simpa using h70
 refine Zr<|G (Yp Z)<|G (Zw av H 0 Z Z Z)<|G (aJ Z)<|G (Zf aX Z)<|G (Zf eI Z)<|bo H 3 (#[.slice (Qd gP) ps.length pC,J (c3.clock),J (c3.next),J (c3.wait),.slice c3.A c3.txs.length c3.cap,J (gr.clock),J (gr.wait),J (gr.gen),.slice gr.mA gr.ms.length gr.mC,.slice gr.oA gr.os.length gr.oC,.slice (Qd gS) sns.length snC]) aF Z Z Z Z Z N N fun w15 H=>U<|W<|W<|Zr<|G (Zf jN Z)<|G (Zd ak H 2 Z Z Z) ?_
 refine cW (bn Z Z) Z Z Z (fun h82=> ?_) (fun h82=> ?_)
 refine U<|ZT Z<|W<|Zr<|G (Yp Z)<|G (aJ Z)<|G (Zf oJ Z)<|k9 H 5 ({x with inn:=false}) iU rowS hx 3 Z Z Z Z Z Z N fun w17 cur16 row16 H=> ?_
 have hs18:(sns.set i ({x with inn:=false}))[i]? =some ({x with inn:=false}):=al (cC hx).1
 refine U<|W<|Zr<|G (Yp Z)<|G (aJ Z)<|G (Zf me Z)<|G (bP nD row16 hs18 5 Z (H.ent (i:=5) Z) hl5)<|G (br eH Z)<|G (Yi Z)<|U<|Zb ?_
 refine cD (τ:=Nat×Array Value) [8,91,92,93,94,95,96,97,98,99,100,101,102,103,104,105,106,107,108,109] (fun(j,_)=>[(91,J (j:Nat))]) (fun(j,u) w'=>j<=x.last.length/\dX gV ((x.last.take j).map zT++x.last.drop j) x.lC u/\Hp w0 w' ((b6,.cells #[J (c3.clock),J (c3.next),J (c3.wait),.slice c3.A c3.txs.length c3.cap] bi (0,0))::(b4,.cells #[J (0),J (0),.slice none 0 0] eg (0,0))::(b3,.cells #[J (a.kind),.string (a.name),J (a.part),J (a.n),J (a.m),.string (a.text),J (a.lost)] gj (0,0))::(bb,.cells #[.slice (Qd gP) ps.length pC,J (c3.clock),J (c3.next),J (c3.wait),.slice c3.A c3.txs.length c3.cap,J (gr.clock),J (gr.wait),J (gr.gen),.slice gr.mA gr.ms.length gr.mC,.slice gr.oA gr.os.length gr.oC,.slice (Qd gS) sns.length snC] bK (0,0))::(gP,.cells uP bF (0,0))::(gS,.cells cur16 fI (0,0))::(gq,.cells uq db (0,0))::(gl,.cells u dw (0,0))::La++(Lb++K)) (xM w0 lo hi c3::F)) (fun(j,_)=>x.last.length-j) (0,_) ⟨bG _,(by simpa using rowl),H⟩ (dP Z) ?_
 rintro⟨j,u⟩ ρ1 w19 ⟨hj,rowu,H⟩
 show CW _ _ _ _ (dH (gZ _ _ ρ1) [(91,J (j:Nat))]) w19
 refine W<|Zr ?_
 refine cW (cK Z Z) Z Z Z (fun h92=> ?_) (fun h92=> ?_)
 refine U<|W<|ZT Z<|Zk<|W<|Zb<|W<|Zr<|G (Yi Z)<|G (Wi Z)<|U<|W ?_
 obtain⟨e,he⟩: ∃ e,x.last[j]? =some e:=⟨_,ah I⟩
 refine Zr<|G (Yp Z)<|G (aJ Z)<|G (Zf me Z)<|G (bP nD row16 hs18 5 Z (H.ent (i:=5) Z) hl5)<|G (Yi Z)<|G (cG dV Z Z (by first|omega|(simp only[ae];omega)))<|G (Zf jd Z) ?_
 refine wW (bP dS rowu (DP he) 5 Z (H.ent (i:=7) Z) Z) Z Z Z (fun h101=> ?_) (fun h101=> ?_)
 refine U<|ZT Z<|Zr<|G (Yp Z)<|G (aJ Z)<|G (Zf me Z)<|G (bP nD row16 hs18 5 Z (H.ent (i:=5) Z) hl5)<|G (Yi Z)<|G (bg (cs:= #[J (0),J (0),J (0),J (0),J (0),.bool (false),.string (⟨#[]⟩)]) ol gu N)<|G (cG dV Z Z (by first|omega|(simp only[ae];omega)))<|k9 H 7 (jV) eW rowu (DP he) 0 Z Z Z Z Z Z N fun w21 cur20 row20 H=> ?_
 have hs22:((((x.last.take j).map zT++x.last.drop j)).set j (jV))[j]? =some (jV):=al (cC (DP he)).1
 refine U<|Zr<|G (bw Z Z I I)<|G (Yi Z)<|U ?_
 refine⟨(j+1,_),⟨by omega,?_,H⟩,dP Z,Qg,by show x.last.length- (j+1)<x.last.length-j;omega⟩
 rw[<-K0 he]
 have hz:zT e=jV:=by unfold zT;rw[if_pos h101]
 rw[hz]
 exact row20
 refine U<|ZF Z<|Zk<|Zr<|G (bw Z Z I I)<|G (Yi Z)<|U ?_
 refine⟨(j+1,_),⟨by omega,?_,H⟩,dP Z,Qg,by show x.last.length- (j+1)<x.last.length-j;omega⟩
 rw[<-K0 he]
 have hz:zT e=e:=by unfold zT;rw[if_neg (by rw[h101];decide)]
 rw[hz,fe (DP he)]
 exact rowu
 refine U<|W<|ZF Z<|Zx<|W ?_
 obtain rfl:j=x.last.length:=by omega
 rw[bN,fA,aZ]at rowu
 obtain⟨x1,hx1⟩: ∃ x1:Sn,{x with inn:=false,last:=x.last.map zT}=x1:=⟨_,rfl⟩
 have hsA1:x1.sA=some ⟨gq,0,none⟩:=by rw[<-hx1];exact hsA
 have hlA1:x1.lA=some ⟨gl,0,none⟩:=by rw[<-hx1];exact hlA
 have rowq1:dX bR x1.seqs x1.sC uq:=by rw[<-hx1];exact rowq
 have rowl1:dX gV x1.last x1.lC u:=by rw[<-hx1];exact rowu
 have rowS1:dX Ad (sns.set i x1) snC cur16:=by have:=dX.same (e':=x1) row16 hs18 (by rw[<-hx1];simp only[Ad,Sn.c,bJ]);rwa[fy]at this
 have hsn1:(if a.lost=0 then(sns.set i (sX x)).map Sn.a else sns.map Sn.a)=(sns.set i x1).map Sn.a:=by rw[if_pos h82,<-hx1,Kx]
 refine Zr<|G (Zw dQ H 2 Z Z Z)<|G (bg (cs:= #[J (0),J (0),.slice none 0 0]) iQ dr N)<|ch kI (Hd a ⟨0,0,[]⟩ _) Z Z ?_
 rintro _ w23 ⟨rfl,hb⟩;replace H:=H.later hb;clear hb
 refine bo H 1 (#[J ((fL a ⟨0,0,[]⟩).code),J ((fL a ⟨0,0,[]⟩).n),.slice none 0 0]) aP Z Z Z Z Z N N fun w24 H=>U<|Zt ?_
 exact eS (cs0:= #[J ((fL a ⟨0,0,[]⟩).code),J ((fL a ⟨0,0,[]⟩).n),.slice none 0 0]) Z aN Z (H.ent (i:=1) Z) Z ⟨⟨ps,some ⟨gP,0,none⟩,pC,c3,lo,hi,gr,glo,ghi,sns.set i x1,some ⟨gS,0,none⟩,snC⟩,by rw[jb hix hx,if_neg (by rw[h41];decide),if_neg h47,if_pos hok3];exact QN.r ⟨lI _ Z,rfl⟩ _,by rw[jb hix hx,if_neg (by rw[h41];decide),if_neg h47,if_pos hok3,<-hac3];show _=Wa.mk _ _ _ (if a.lost=0 then _ else _);rw[hsn1];rfl,Bw.close (X:=[(b6,_),(b4,_),(b3,_)]) row rowS1 hset hsA1 hlA1 rowq1 rowl1 (az ..) (aj _ hgr) (fun q hq=>aj _ (hps q hq)) (fun f hf=>aj _ hf) H (by simp only[Bk.c,ae])⟩
 refine U<|ZF Z<|Zk<|W ?_
 obtain⟨x1,hx1⟩: ∃ x1:Sn,x=x1:=⟨_,rfl⟩
 have hsA1:x1.sA=some ⟨gq,0,none⟩:=by rw[<-hx1];exact hsA
 have hlA1:x1.lA=some ⟨gl,0,none⟩:=by rw[<-hx1];exact hlA
 have rowq1:dX bR x1.seqs x1.sC uq:=by rw[<-hx1];exact rowq
 have rowl1:dX gV x1.last x1.lC ul:=by rw[<-hx1];exact rowl
 have rowS1:dX Ad (sns.set i x1) snC uS:=by rw[<-hx1,fe hx];exact rowS
 have hsn1:(if a.lost=0 then(sns.set i (sX x)).map Sn.a else sns.map Sn.a)=(sns.set i x1).map Sn.a:=by rw[if_neg h82,<-hx1,fe hx]
 refine Zr<|G (Zw dQ H 2 Z Z Z)<|G (bg (cs:= #[J (0),J (0),.slice none 0 0]) iQ dr N)<|ch kI (Hd a ⟨0,0,[]⟩ _) Z Z ?_
 rintro _ w25 ⟨rfl,hb⟩;replace H:=H.later hb;clear hb
 refine bo H 1 (#[J ((fL a ⟨0,0,[]⟩).code),J ((fL a ⟨0,0,[]⟩).n),.slice none 0 0]) aP Z Z Z Z Z N N fun w26 H=>U<|Zt ?_
 exact eS (cs0:= #[J ((fL a ⟨0,0,[]⟩).code),J ((fL a ⟨0,0,[]⟩).n),.slice none 0 0]) Z aN Z (H.ent (i:=1) Z) Z ⟨⟨ps,some ⟨gP,0,none⟩,pC,c3,lo,hi,gr,glo,ghi,sns.set i x1,some ⟨gS,0,none⟩,snC⟩,by rw[jb hix hx,if_neg (by rw[h41];decide),if_neg h47,if_pos hok3];exact QN.r ⟨lI _ Z,rfl⟩ _,by rw[jb hix hx,if_neg (by rw[h41];decide),if_neg h47,if_pos hok3,<-hac3];show _=Wa.mk _ _ _ (if a.lost=0 then _ else _);rw[hsn1];rfl,Bw.close (X:=[(b6,_),(b4,_),(b3,_)]) row rowS1 hset hsA1 hlA1 rowq1 rowl1 (az ..) (aj _ hgr) (fun q hq=>aj _ (hps q hq)) (fun f hf=>aj _ hf) H (by simp only[Bk.c,ae])⟩
 refine G (dM Z)<|G (Wb Z)<|U<|ZT Z<|W<|Zr<|ch bM (dR 12 _) Z Z ?_
 rintro _ w27 ⟨rfl,hb⟩;replace H:=H.later hb;clear hb
 refine bo H 0 (#[J (12),J (0),.slice none 0 0]) aP Z Z Z Z Z N N fun w28 H=>U<|Zt ?_
 exact eS (cs0:= #[J (12),J (0),.slice none 0 0]) Z aN Z (H.ent (i:=0) Z) Z ⟨⟨ps,some ⟨gP,0,none⟩,pC,co,clo,chi,gr,glo,ghi,sns.set i x,some ⟨gS,0,none⟩,snC⟩,by rw[jb hix hx,if_pos h41];exact pb.plain _ _ _,by rw[jb hix hx,if_pos h41,fe hx];rfl,Bw.close (X:=[(b4,_),(b3,_)]) row (by rw[fe hx];exact rowS) hset hsA hlA rowq rowl hco hgr hps (fun _ h=>h) H (by rw[fe hx];rfl)⟩
theorem uW {w:Wa} {a:Act} (h:(bB w.co a.name).2.2.2≠0):mN w a=lJ w (bB w.co a.name).2.2.2:=by
 unfold mN
 rw[if_neg h]
theorem Dm {b:Bk} {a:Act} (hix:eK b.sns a.name=none) (h:(bB b.co.a a.name).2.2.2=0):mN b.a a=({b.a with co:=(bB b.co.a a.name).1,sns:=b.sns.map Sn.a++[lZ a.name (bB b.co.a a.name).2.1 (bB b.co.a a.name).2.2.1 b.ps.length]},⟨0,(bB b.co.a a.name).2.2.1,[]⟩):=by
 unfold mN tf
 rw[if_pos (show(bB b.a.co a.name).2.2.2=0 from h),show b.a.sns=b.sns.map Sn.a from rfl]
 dsimp only[lZ]
 rw[zF,hix,show b.a.ps.length=b.ps.length by show(b.ps.map _).length=_;rw[bJ]]
 rfl
theorem Dl {b:Bk} {a:Act} {i:Nat} (hix:eK b.sns a.name=some i) (h:(bB b.co.a a.name).2.2.2=0):mN b.a a=({b.a with co:=(bB b.co.a a.name).1,sns:=(b.sns.map Sn.a).set i (lZ a.name (bB b.co.a a.name).2.1 (bB b.co.a a.name).2.2.1 b.ps.length)},⟨0,(bB b.co.a a.name).2.2.1,[]⟩):=by
 unfold mN tf
 rw[if_pos (show(bB b.a.co a.name).2.2.2=0 from h),show b.a.sns=b.sns.map Sn.a from rfl]
 dsimp only[lZ]
 rw[zF,hix,show b.a.ps.length=b.ps.length by show(b.ps.map _).length=_;rw[bJ]]
 rfl
theorem OC (A Q Lo K:List (Nat×Obj)):(A++((Lo++Q)++K)).Perm (Q++(A++(Lo++K))):=by
 rw[show A++((Lo++Q)++K)=(A++Lo)++(Q++K) by simp,show A++(Lo++K)=(A++Lo)++K by simp]
 exact gb (A++Lo) Q K
def QY:Sn:=⟨⟨#[]⟩,0,0,false,[],none,0,[],none,0⟩
theorem I0:(aa.info? 3).map (fun i=>(i.zero,i.size,i.bytes))=some (some (J 0),bR.sz,8):=by kernel_rfl
theorem Df:(aa.info? 59).map (fun i=>(i.zero,i.size,i.bytes))=some (some (.agg #[J 0,J 0,J 0,J 0,J 0,.bool false,.string ⟨#[]⟩]),gV.sz,64):=by kernel_rfl
theorem Kd {w0 w:World} {bb:Nat} {b:Bk} {gP:Nat} {uP:Array Value} {Ls Lo K:List (Nat×Obj)} {F:List cB} (a:Act) (B:Bw w0 w bb b gP uP Ls Lo K F) (hsl:b.sns.length<=1000000) {k:Nat} (hnm:bL a.name=true) (hcb:oY k b.co) (hk:k<=1000) (hnp:0<b.ps.length) (hp4:b.ps.length<=4) (hix:eK b.sns a.name=none):dh aa kk [.pointer (Qd bb),a.v] w fun v w2=> ∃ b':Bk,pb (mN b.a a).2 v w2/\b'.a=(mN b.a a).1/\xN w0 w2 bb b' K F:=by
 refine aE nn Z Z ?_
 obtain⟨ps,pA,pC,co,clo,chi,gr,glo,ghi,sns,snA,snC⟩:=b
 obtain⟨hpA,row,hsn,hown,hco,hgr,hps,H⟩:=B
 dsimp only at hpA row hsn hown hco hgr hps
 subst hpA
 replace H:Hp w0 w ((bb,.cells #[.slice (Qd gP) ps.length pC,J (co.clock),J (co.next),J (co.wait),.slice co.A co.txs.length co.cap,J (gr.clock),J (gr.wait),J (gr.gen),.slice gr.mA gr.ms.length gr.mC,.slice gr.oA gr.os.length gr.oC,.slice snA sns.length snC] bK (0,0))::(gP,.cells uP bF (0,0))::(Ls++(Lo++K))) F:=H
 dsimp only at hix hsl hcb hnp hp4
 show CW _ _ _ _ (args [.pointer (Qd bb),.agg #[J (a.kind),.string (a.name),J (a.part),J (a.n),J (a.m),.string (a.text),J (a.lost)]]) w
 refine W<|Zr<|f7 H Z Z fun w1 b3 H=>eP H dr Z fun w2 b4 H=>U<|W ?_
 refine eN (τ:=Co×Nat×Nat×Nat) [5,6,7,8,10,11,12,13,14,15,16,17,18,19,20,21,22] (fun(_,b5,_,_)=>[(5,.pointer (Qd b5)),(6,J (bB co.a a.name).2.1),(7,J (bB co.a a.name).2.2.1),(8,J (bB co.a a.name).2.2.2)]) (fun(c3,b5,lo,hi) w'=>c3.a=(bB co.a a.name).1/\Hp w0 w' ((b5,.cells #[J (c3.clock),J (c3.next),J (c3.wait),.slice c3.A c3.txs.length c3.cap] bi (0,0))::(b4,.cells #[J (0),J (0),.slice none 0 0] eg (0,0))::(b3,.cells #[J (a.kind),.string (a.name),J (a.part),J (a.n),J (a.m),.string (a.text),J (a.lost)] gj (0,0))::(bb,.cells #[.slice (Qd gP) ps.length pC,J (co.clock),J (co.next),J (co.wait),.slice co.A co.txs.length co.cap,J (gr.clock),J (gr.wait),J (gr.gen),.slice gr.mA gr.ms.length gr.mC,.slice gr.oA gr.os.length gr.oC,.slice snA sns.length snC] bK (0,0))::(gP,.cells uP bF (0,0))::(Ls++(Lo++K))) (xM w0 lo hi c3::F)) ?_ ?_
 refine oP cd 13 7 [7,8,9,10,11,12,14,15,16,17] [13] [0,1,2,3,5] [13,14,15,16,17] [7] [0,1,2,3,5,8,9,10,11,12] (sp [(13,Sp.blk w2.heap.size (.agg #[J 0,J 0,J 0,.slice none 0 0]) bi)]) (sp [(7,Sp.deep w2.heap.size Nz (fun c:Co=>c.c.toArray) (fun cs=> .tuple #[.agg cs,J (bB co.a a.name).2.1,J (bB co.a a.name).2.2.1,J (bB co.a a.name).2.2.2]) (fun cq:Co=>cq.a=(bB co.a a.name).1))]) N N N N (cI _) (cI _) ?_ ?_
 refine jH [0,1,2,3,4,5,6,13] [7,8,9,10,11,12,14,15,16,17] [13] [0,1,2,3,5] 9 (sp [(13,Sp.blk w2.heap.size (.agg #[J 0,J 0,J 0,.slice none 0 0]) bi)]) N N N Nq<|aw Z Z Z Z Z (fun w' hw'=>Yp Z)<|aw Z Z Z Z Z (fun w' hw'=>aJ Z)<|aw Z Z Z Z Z (fun w' hw'=>Zf aX Z)<|aw Z Z Z Z Z (fun w' hw'=>Zf eI Z)<|aw Z Z Z Z Z (fun w' hw'=>j6 1 [J (co.clock),J (co.next),J (co.wait),.slice co.A co.txs.length co.cap] av Z Z ((H.later hw').ent (i:=2) Z) Z)<|aw Z Z Z Z Z (fun w' hw'=>Zf fh Z)<|aw Z Z Z Z Z (fun w' hw'=>aW bd Z (aB ((H.later hw').ent (i:=1) Z) Z))<|xG cM Z Z Z Z Z (fun w' hw'=>hw'.size) fun b5=>aV ?_
 intro w3 hw' hF
 obtain⟨hF,bq,eq,hge5,hbl5⟩:=hF;cases eq
 replace H:=H.adoptNew hw' hbl5 hge5
 clear hw' hF
 refine de 7 N Z<|ch od (xb co a.name k _ (Hp.coM H hco) hcb hk hnm) Z Z ?_
 rintro _ w4 ⟨c3,rfl,hac3,hnc3⟩;replace H:=H.learn hnc3.2 (xM w0 w3.heap.size w4.heap.size c3) ⟨H.size,hnc3.1⟩ (ao _) (ao _);clear hnc3
 refine U<|bz 8 N N N Z Z Z Z Nq (fun _=>Yu Z)<|bz 9 N N N Z Z Z Z Nq (fun _=>Xa Z Z)<|bz 10 N N N Z Z Z Z Nq (fun _=>Xi Z Z)<|bz 11 N N N Z Z Z Z Nq (fun _=>Xi Z Z)<|bz 12 N N N Z Z Z Z Nq (fun _=>Xi Z Z)<|de 14 N Z<|bo H 0 (#[J (c3.clock),J (c3.next),J (c3.wait),.slice c3.A c3.txs.length c3.cap]) aF Z Z Z Z Z N N fun w5 H=>U<|bz 15 N N N Z Z Z Z Nq (fun _=>Wi Z)<|bz 16 N N N Z Z Z Z Nq (fun _=>Wi Z)<|bz 17 N N N Z Z Z Z Nq (fun _=>Wi Z)<|cF N ?_
 exact⟨(c3,b5,_,_),⟨hac3,H⟩,QU Z Z Z Z,Qg⟩
 refine jH [0,1,2,3,4,5,6,7,8,9,10,11,12] [13,14,15,16,17] [7] [0,1,2,3,5,8,9,10,11,12] 4 (sp [(7,Sp.deep w2.heap.size Nz (fun c:Co=>c.c.toArray) (fun cs=> .tuple #[.agg cs,J (bB co.a a.name).2.1,J (bB co.a a.name).2.2.1,J (bB co.a a.name).2.2.2]) (fun cq:Co=>cq.a=(bB co.a a.name).1))]) N N N Nq<|aw Z Z Z Z Z (fun w' hw'=>Yp Z)<|aw Z Z Z Z Z (fun w' hw'=>aJ Z)<|aw Z Z Z Z Z (fun w' hw'=>Zf aX Z)<|aw Z Z Z Z Z (fun w' hw'=>Zf eI Z)<|aw Z Z Z Z Z (fun w' hw'=>j6 1 [J (co.clock),J (co.next),J (co.wait),.slice co.A co.txs.length co.cap] av Z Z ((H.later hw').ent (i:=2) Z) Z)<|aw Z Z Z Z Z (fun w' hw'=>Zf fh Z)<|aw Z Z Z Z Z (fun w' hw'=>aW bd Z (aB ((H.later hw').ent (i:=1) Z) Z))<|ta (gv:=(fun cs=> .tuple #[.agg cs,J (bB co.a a.name).2.1,J (bB co.a a.name).2.2.1,J (bB co.a a.name).2.2.2])) od Z Z Z Z Z (fun w' hw'=>hw'.size) (fun w' hw'=>xb co a.name k w' (Hp.coM (H.later hw') hco) hcb hk hnm) Z fun cs18=>aw Z Z Z Z Z (fun w' hw'=>Yu Z)<|aw Z Z Z Z Z (fun w' hw'=>Xa Z Z)<|aw Z Z Z Z Z (fun w' hw'=>Xi Z Z)<|aw Z Z Z Z Z (fun w' hw'=>Xi Z Z)<|aw Z Z Z Z Z (fun w' hw'=>Xi Z Z)<|aV ?_
 intro w6 hw' hF
 obtain⟨hF,c3,eq,hac3,hrd18⟩:=hF;cases eq
 replace H:=H.learn hw' (xM w0 w2.heap.size w6.heap.size c3) ⟨H.size,hrd18⟩ (ao _) (ao _)
 clear hw' hF
 refine de 13 N Z<|eP H cM Z fun w7 b5 H=>U<|de 14 N Z<|bo H 0 (#[J (c3.clock),J (c3.next),J (c3.wait),.slice c3.A c3.txs.length c3.cap]) aF Z Z Z Z Z N N fun w8 H=>U<|bz 15 N N N Z Z Z Z Nq (fun _=>Wi Z)<|bz 16 N N N Z Z Z Z Nq (fun _=>Wi Z)<|bz 17 N N N Z Z Z Z Nq (fun _=>Wi Z)<|cF N ?_
 exact⟨(c3,b5,_,_),⟨hac3,H⟩,QU Z Z Z Z,Qg⟩
 rintro⟨c3,b5,lo,hi⟩ ρ1 w9 ⟨hac3,H⟩
 show CW _ _ _ _ (dH (gZ _ _ ρ1) [(5,.pointer (Qd b5)),(6,J (bB co.a a.name).2.1),(7,J (bB co.a a.name).2.2.1),(8,J (bB co.a a.name).2.2.2)]) w9
 refine W<|W<|Zr<|G (Yi Z) ?_
 refine ro (jh Z Z) Z Z Z (fun h24=> ?_) (fun h24=> ?_)
 refine U<|ZT Z<|W<|Zr<|G (Yi Z)<|ch bM (dR (bB co.a a.name).2.2.2 _) Z Z ?_
 rintro _ w10 ⟨rfl,hb⟩;replace H:=H.later hb;clear hb
 refine bo H 1 (#[J ((bB co.a a.name).2.2.2),J (0),.slice none 0 0]) aP Z Z Z Z Z N N fun w11 H=>U<|Zt ?_
 exact eS (cs0:= #[J ((bB co.a a.name).2.2.2),J (0),.slice none 0 0]) Z aN Z (H.ent (i:=1) Z) Z ⟨⟨ps,some ⟨gP,0,none⟩,pC,co,clo,chi,gr,glo,ghi,sns,snA,snC⟩,by rw[uW h24];exact pb.plain _ _ _,by rw[uW h24];rfl,Bw.shut (X:=[(b5,_),(b4,_),(b3,_)]) row hsn hown (aj _ hco) (aj _ hgr) (fun q hq=>aj _ (hps q hq)) (fun f hf=>aj _ hf) H Z⟩
 refine U<|ZF Z<|Zk<|W ?_
 have hok3:(bB co.a a.name).2.2.2=0:=by simpa using h24
 refine Zr<|G (Yp Z)<|G (Zw av H 0 Z Z Z)<|G (aJ Z)<|G (Zf aX Z)<|G (Zf eI Z)<|bo H 3 (#[.slice (Qd gP) ps.length pC,J (c3.clock),J (c3.next),J (c3.wait),.slice c3.A c3.txs.length c3.cap,J (gr.clock),J (gr.wait),J (gr.gen),.slice gr.mA gr.ms.length gr.mC,.slice gr.oA gr.os.length gr.oC,.slice snA sns.length snC]) aF Z Z Z Z Z N N fun w12 H=>U<|W<|Zr<|G (Yp Z)<|G (Zf fh Z)<|G (Zd bd H 2 Z Z Z)<|ch dB (jz bb ⟨ps,some ⟨gP,0,none⟩,pC,c3,lo,hi,gr,glo,ghi,sns,snA,snC⟩ a.name Ls _ (H.ent (i:=3) Z) hsn (fun q hq=>(H.ents q (by simp only[List.set_cons_succ,B3,ax,ap];grind)).1) hsl) Z Z ?_
 rintro _ w13 ⟨rfl,hb⟩;replace H:=H.later hb;clear hb
 rw[hix]
 refine G (Wp Z)<|U<|W<|W<|Zr<|G (Yp Z)<|G (xY iY Z)<|U<|ZT Z<|W<|Zr<|G (Yp Z)<|G (Yp Z)<|G (aJ Z)<|G (Zf aX Z)<|G (Zf ku Z)<|G (Zd kg H 3 Z Z Z)<|G (bg (cs:= #[.string (⟨#[]⟩),J (0),J (0),.bool (false),.slice none 0 0,.slice none 0 0]) xW wJ N)<|s9 (vs:=[.agg #[.string (⟨#[]⟩),J (0),J (0),.bool (false),.slice none 0 0,.slice none 0 0]]) H sG wJ Z Z Z Z Z Z fun w14 b45 H=>vP (Y:=Ad) ID (K:=[(b45,_),(b5,_),(b4,_),(b3,_),(bb,_),(gP,_)]) (L:=Ls) (M:=Lo++K) H hsn (es:=sns) (news:=[QY]) Z Z Z (wz.row (m:=1) (sz:=Ad.sz) (H.ent (i:=0) Z) Z) (by simp only[bO];omega) Z ?_
 intro A46 c46 w15 L46 h46 _ ho46 H
 obtain⟨sn2,hsn2⟩: ∃ l,sns++[QY]=l:=⟨_,rfl⟩
 rw[hsn2]at ho46 h46⊢
 have hl2:sn2.length=sns.length+1:=by rw[<-hsn2];simp
 have hx2:sn2[sns.length]? =some QY:=by rw[<-hsn2];simp
 have hlen2:((sn2.length:Nat):Int)-1=((sns.length:Nat):Int):=by omega
 obtain⟨gS,uS,rfl,rfl,rowS⟩:=ho46.row I
 replace H:Hp w0 w15 ((b45,.cells #[.string (⟨#[]⟩),J (0),J (0),.bool (false),.slice none 0 0,.slice none 0 0] fI (0,0))::(b5,.cells #[J (c3.clock),J (c3.next),J (c3.wait),.slice c3.A c3.txs.length c3.cap] bi (0,0))::(b4,.cells #[J (0),J (0),.slice none 0 0] eg (0,0))::(b3,.cells #[J (a.kind),.string (a.name),J (a.part),J (a.n),J (a.m),.string (a.text),J (a.lost)] gj (0,0))::(bb,.cells #[.slice (Qd gP) ps.length pC,J (c3.clock),J (c3.next),J (c3.wait),.slice c3.A c3.txs.length c3.cap,J (gr.clock),J (gr.wait),J (gr.gen),.slice gr.mA gr.ms.length gr.mC,.slice gr.oA gr.os.length gr.oC,.slice snA sns.length snC] bK (0,0))::(gP,.cells uP bF (0,0))::(gS,.cells uS fI (0,0))::(Lo++K)) (xM w0 lo hi c3::F):=H
 refine G (aJ Z)<|G (Zf aX Z)<|G (Zf ku Z)<|bo H 4 (#[.slice (Qd gP) ps.length pC,J (c3.clock),J (c3.next),J (c3.wait),.slice c3.A c3.txs.length c3.cap,J (gr.clock),J (gr.wait),J (gr.gen),.slice gr.mA gr.ms.length gr.mC,.slice gr.oA gr.os.length gr.oC,.slice (Qd gS) sn2.length c46]) Fw Z Z Z Z Z N N fun w16 H=>U ?_
 refine bA cd [0,1,2,3,4,5,6,7,8,9,10,11,12,13] [] [] [0,1,2,3,5,6,7,8,10,11,12,13] (sp []) N N N N Nq (cI _) ?_
 refine aw Z Z Z Z Z (fun w' hw'=>Yp Z)<|aw Z Z Z Z Z (fun w' hw'=>aJ Z)<|aw Z Z Z Z Z (fun w' hw'=>Zf aX Z)<|aw Z Z Z Z Z (fun w' hw'=>Zf ku Z)<|aw Z Z Z Z Z (fun w' hw'=>aW kg Z (aB ((H.later hw').ent (i:=4) Z) Z))<|aw Z Z Z Z Z (fun w' hw'=>Yp Z)<|aw Z Z Z Z Z (fun w' hw'=>aJ Z)<|aw Z Z Z Z Z (fun w' hw'=>Zf aX Z)<|aw Z Z Z Z Z (fun w' hw'=>Zf ku Z)<|aw Z Z Z Z Z (fun w' hw'=>aW kg Z (aB ((H.later hw').ent (i:=4) Z) Z))<|aw Z Z Z Z Z (fun w' hw'=>br tV Z)<|aw Z Z Z Z Z (fun w' hw'=>jf Z Z I I)<|aw Z Z Z Z Z (fun w' hw'=>cG (k:=sns.length) sG Z (congrArg (Value.int .i64) hlen2) (by first|omega|(simp only[ae];omega)))<|aw Z Z Z Z Z (fun w' hw'=>Wp Z)<|aV ?_
 intro w17 hw' hF
 replace H:=H.later hw';clear hw' hF
 refine U<|W ?_
 refine bA cd [0,1,2,3,4,5,6,7,8,9,10,12,13,14,15,16,17,11,18,19,20] [21] [11,18] [0,1,3,4,5,6,7,8,10,12,13,14,15,17,19,20] (sp [(11,Sp.orow w17.heap.size bR db (au ps.length (0:Int))),(18,Sp.orow w17.heap.size gV dw (au ps.length jV))]) N N N N Nq (cI _) ?_
 refine aw Z Z Z Z Z (fun w' hw'=>Yp Z)<|aw Z Z Z Z Z (fun w' hw'=>Zf fh Z)<|aw Z Z Z Z Z (fun w' hw'=>aW bd Z (aB ((H.later hw').ent (i:=3) Z) Z))<|aw Z Z Z Z Z (fun w' hw'=>Yi Z)<|aw Z Z Z Z Z (fun w' hw'=>Yi Z)<|aw Z Z Z Z Z (fun w' hw'=>Yp Z)<|aw Z Z Z Z Z (fun w' hw'=>aJ Z)<|aw Z Z Z Z Z (fun w' hw'=>Zf aX Z)<|aw Z Z Z Z Z (fun w' hw'=>Zf dJ Z)<|aw Z Z Z Z Z (fun w' hw'=>aW ex Z (aB ((H.later hw').ent (i:=4) Z) Z))<|aw Z Z Z Z Z (fun w' hw'=>br l6 Z)<|aw Z Z Z Z Z (fun w' hw'=>Yp Z)<|aw Z Z Z Z Z (fun w' hw'=>aJ Z)<|aw Z Z Z Z Z (fun w' hw'=>Zf aX Z)<|aw Z Z Z Z Z (fun w' hw'=>Zf dJ Z)<|aw Z Z Z Z Z (fun w' hw'=>aW ex Z (aB ((H.later hw').ent (i:=4) Z) Z))<|aw Z Z Z Z Z (fun w' hw'=>br l6 Z)<|Jd (Y:=bR) ((0:Int)) ps.length bc I0 Z Z Z Z Z Z (fun w' hw'=>hw'.size) Z Z I I fun A74 c74 hc74=>Jd (Y:=gV) (jV) ps.length dV Df Z Z Z Z Z Z (fun w' hw'=>hw'.size) Z Z I I fun A81 c81 hc81=>aw Z Z Z Z Z (fun w' hw'=>bg (cs:= #[.string (a.name),J ((bB co.a a.name).2.1),J ((bB co.a a.name).2.2.1),.bool (false),.slice A74 (((au ps.length (0:Int))).length) c74,.slice A81 ((au ps.length jV).length) c81]) xW wJ N)<|aw Z Z Z Z Z (fun w' hw'=>aJ Z)<|aV ?_
 intro w18 hw' hF
 obtain⟨hF,Aq,cq,L81,eq,hcq,hm81,ho81,he81,hn81⟩:=hF;cases eq;clear hcq
 obtain⟨hF,Aq,cq,L74,eq,hcq,hm74,ho74,he74,hn74⟩:=hF;cases eq;clear hcq
 obtain⟨nq,curq,rfl,rfl,rowq9⟩:=ho74.row (by simp only[bI];exact hnp)
 obtain⟨nl,curl,rfl,rfl,rowl9⟩:=ho81.row (by simp only[bI];exact hnp)
 have e74:=he74 _ (d5 _)
 have e81:=he81 _ (d5 _)
 replace H:=H.adopt2 hw' e74 e81 (se e74.1 e81.1 Z)
 clear hw' hF
 refine k9 H 8 (⟨a.name,(bB co.a a.name).2.1,(bB co.a a.name).2.2.1,false,au ps.length 0,some ⟨nq,0,none⟩,c74,au ps.length jV,some ⟨nl,0,none⟩,c81⟩) Ah rowS hx2 0 Z Z Z Z Z Z N fun w20 cur19 row19 H=> ?_
 have hs21:(sn2.set sns.length (⟨a.name,(bB co.a a.name).2.1,(bB co.a a.name).2.2.1,false,au ps.length 0,some ⟨nq,0,none⟩,c74,au ps.length jV,some ⟨nl,0,none⟩,c81⟩))[sns.length]? =some (⟨a.name,(bB co.a a.name).2.1,(bB co.a a.name).2.2.1,false,au ps.length 0,some ⟨nq,0,none⟩,c74,au ps.length jV,some ⟨nl,0,none⟩,c81⟩):=al (cC hx2).1
 refine U<|W<|Zr<|G (Yi Z)<|G (bg (cs:= #[J (0),J ((bB co.a a.name).2.2.1),.slice none 0 0]) iQ dr N)<|bo H 4 (#[J (0),J ((bB co.a a.name).2.2.1),.slice none 0 0]) aP Z Z Z Z Z N N fun w22 H=>U<|Zt ?_
 have hn7:=hown.snoc (s:=(⟨a.name,(bB co.a a.name).2.1,(bB co.a a.name).2.2.1,false,au ps.length 0,some ⟨nq,0,none⟩,c74,au ps.length jV,some ⟨nl,0,none⟩,c81⟩:Sn)) Z Z rowq9 rowl9
 have hs7:sn2.set sns.length (⟨a.name,(bB co.a a.name).2.1,(bB co.a a.name).2.2.1,false,au ps.length 0,some ⟨nq,0,none⟩,c74,au ps.length jV,some ⟨nl,0,none⟩,c81⟩:Sn)=sns++[⟨a.name,(bB co.a a.name).2.1,(bB co.a a.name).2.2.1,false,au ps.length 0,some ⟨nq,0,none⟩,c74,au ps.length jV,some ⟨nl,0,none⟩,c81⟩]:=by rw[<-hsn2,jk _ _ (ao _),my];rfl
 have row7:=row19
 rw[hs7]at row7
 refine eS (cs0:= #[J (0),J ((bB co.a a.name).2.2.1),.slice none 0 0]) Z aN Z (H.ent (i:=4) Z) Z ⟨⟨ps,some ⟨gP,0,none⟩,pC,c3,lo,hi,gr,glo,ghi,sns++[⟨a.name,(bB co.a a.name).2.1,(bB co.a a.name).2.2.1,false,au ps.length 0,some ⟨nq,0,none⟩,c74,au ps.length jV,some ⟨nl,0,none⟩,c81⟩],some ⟨gS,0,none⟩,c46⟩,by rw[Dm hix hok3];exact pb.plain _ _ _,by rw[Dm hix hok3,<-hac3];unfold Bk.a;rw[bl];rfl,⟨gP,uP,_,_,_,⟨rfl,row,dX.own row7,hn7,(az ..),(aj _ hgr),(fun q hq=>aj _ (hps q hq)),?_⟩,(fun f hf=>aj _ hf)⟩⟩
 have H7:=H.forget (L':=(nq,_)::(nl,_)::(bb,_)::(gP,_)::(gS,_)::(Lo++K)) (.cons_cons _ (.cons_cons _ (cr [(b45,_),(b5,_),(b4,_),(b3,_)] _))) (fun _ h=>h)
 have hl7:sn2.length=(sns++[(⟨a.name,(bB co.a a.name).2.1,(bB co.a a.name).2.2.1,false,au ps.length 0,some ⟨nq,0,none⟩,c74,au ps.length jV,some ⟨nl,0,none⟩,c81⟩:Sn)]).length:=by rw[hl2,ay];rfl
 rw[hl7]at H7
 exact H7.perm (OC [(bb,_),(gP,_),(gS,_)] [(nq,_),(nl,_)] Lo K)
theorem Kc {w0 w:World} {bb:Nat} {b:Bk} {gP:Nat} {uP:Array Value} {Ls Lo K:List (Nat×Obj)} {F:List cB} (a:Act) (B:Bw w0 w bb b gP uP Ls Lo K F) (hsl:b.sns.length<=1000000) {k:Nat} (hnm:bL a.name=true) (hcb:oY k b.co) (hk:k<=1000) (hnp:0<b.ps.length) (hp4:b.ps.length<=4) {i:Nat} {x:Sn} (hix:eK b.sns a.name=some i) (hx:b.sns[i]? =some x):dh aa kk [.pointer (Qd bb),a.v] w fun v w2=> ∃ b':Bk,pb (mN b.a a).2 v w2/\b'.a=(mN b.a a).1/\xN w0 w2 bb b' K F:=by
 refine aE nn Z Z ?_
 obtain⟨ps,pA,pC,co,clo,chi,gr,glo,ghi,sns,snA,snC⟩:=b
 obtain⟨hpA,row,hsn,hown,hco,hgr,hps,H⟩:=B
 dsimp only at hpA row hsn hown hco hgr hps
 subst hpA
 dsimp only at hix hx
 obtain⟨gS,uS,hgS,hLs,rowS⟩:=hsn.row (by have:=(cC hx).1;omega)
 subst hgS;subst hLs
 obtain⟨gq,uq,gl,ul,La,Lb,hsA,hlA,rowq,rowl,hLo,hset⟩:=hown.at_ hx
 subst hLo
 replace H:Hp w0 w ((bb,.cells #[.slice (Qd gP) ps.length pC,J (co.clock),J (co.next),J (co.wait),.slice co.A co.txs.length co.cap,J (gr.clock),J (gr.wait),J (gr.gen),.slice gr.mA gr.ms.length gr.mC,.slice gr.oA gr.os.length gr.oC,.slice (Qd gS) sns.length snC] bK (0,0))::(gP,.cells uP bF (0,0))::(gS,.cells uS fI (0,0))::(gq,.cells uq db (0,0))::(gl,.cells ul dw (0,0))::(La++(Lb++K))) F:=H.perm (Do [(bb,_),(gP,_),(gS,_)] _ _ La Lb K)
 dsimp only at hsl hcb hnp hp4
 show CW _ _ _ _ (args [.pointer (Qd bb),.agg #[J (a.kind),.string (a.name),J (a.part),J (a.n),J (a.m),.string (a.text),J (a.lost)]]) w
 refine W<|Zr<|f7 H Z Z fun w1 b3 H=>eP H dr Z fun w2 b4 H=>U<|W ?_
 refine eN (τ:=Co×Nat×Nat×Nat) [5,6,7,8,10,11,12,13,14,15,16,17,18,19,20,21,22] (fun(_,b5,_,_)=>[(5,.pointer (Qd b5)),(6,J (bB co.a a.name).2.1),(7,J (bB co.a a.name).2.2.1),(8,J (bB co.a a.name).2.2.2)]) (fun(c3,b5,lo,hi) w'=>c3.a=(bB co.a a.name).1/\Hp w0 w' ((b5,.cells #[J (c3.clock),J (c3.next),J (c3.wait),.slice c3.A c3.txs.length c3.cap] bi (0,0))::(b4,.cells #[J (0),J (0),.slice none 0 0] eg (0,0))::(b3,.cells #[J (a.kind),.string (a.name),J (a.part),J (a.n),J (a.m),.string (a.text),J (a.lost)] gj (0,0))::(bb,.cells #[.slice (Qd gP) ps.length pC,J (co.clock),J (co.next),J (co.wait),.slice co.A co.txs.length co.cap,J (gr.clock),J (gr.wait),J (gr.gen),.slice gr.mA gr.ms.length gr.mC,.slice gr.oA gr.os.length gr.oC,.slice (Qd gS) sns.length snC] bK (0,0))::(gP,.cells uP bF (0,0))::(gS,.cells uS fI (0,0))::(gq,.cells uq db (0,0))::(gl,.cells ul dw (0,0))::La++(Lb++K)) (xM w0 lo hi c3::F)) ?_ ?_
 refine oP cd 13 7 [7,8,9,10,11,12,14,15,16,17] [13] [0,1,2,3,5] [13,14,15,16,17] [7] [0,1,2,3,5,8,9,10,11,12] (sp [(13,Sp.blk w2.heap.size (.agg #[J 0,J 0,J 0,.slice none 0 0]) bi)]) (sp [(7,Sp.deep w2.heap.size Nz (fun c:Co=>c.c.toArray) (fun cs=> .tuple #[.agg cs,J (bB co.a a.name).2.1,J (bB co.a a.name).2.2.1,J (bB co.a a.name).2.2.2]) (fun cq:Co=>cq.a=(bB co.a a.name).1))]) N N N N (cI _) (cI _) ?_ ?_
 refine jH [0,1,2,3,4,5,6,13] [7,8,9,10,11,12,14,15,16,17] [13] [0,1,2,3,5] 9 (sp [(13,Sp.blk w2.heap.size (.agg #[J 0,J 0,J 0,.slice none 0 0]) bi)]) N N N Nq<|aw Z Z Z Z Z (fun w' hw'=>Yp Z)<|aw Z Z Z Z Z (fun w' hw'=>aJ Z)<|aw Z Z Z Z Z (fun w' hw'=>Zf aX Z)<|aw Z Z Z Z Z (fun w' hw'=>Zf eI Z)<|aw Z Z Z Z Z (fun w' hw'=>j6 1 [J (co.clock),J (co.next),J (co.wait),.slice co.A co.txs.length co.cap] av Z Z ((H.later hw').ent (i:=2) Z) Z)<|aw Z Z Z Z Z (fun w' hw'=>Zf fh Z)<|aw Z Z Z Z Z (fun w' hw'=>aW bd Z (aB ((H.later hw').ent (i:=1) Z) Z))<|xG cM Z Z Z Z Z (fun w' hw'=>hw'.size) fun b5=>aV ?_
 intro w3 hw' hF
 obtain⟨hF,bq,eq,hge5,hbl5⟩:=hF;cases eq
 replace H:=H.adoptNew hw' hbl5 hge5
 clear hw' hF
 refine de 7 N Z<|ch od (xb co a.name k _ (Hp.coM H hco) hcb hk hnm) Z Z ?_
 rintro _ w4 ⟨c3,rfl,hac3,hnc3⟩;replace H:=H.learn hnc3.2 (xM w0 w3.heap.size w4.heap.size c3) ⟨H.size,hnc3.1⟩ (ao _) (ao _);clear hnc3
 refine U<|bz 8 N N N Z Z Z Z Nq (fun _=>Yu Z)<|bz 9 N N N Z Z Z Z Nq (fun _=>Xa Z Z)<|bz 10 N N N Z Z Z Z Nq (fun _=>Xi Z Z)<|bz 11 N N N Z Z Z Z Nq (fun _=>Xi Z Z)<|bz 12 N N N Z Z Z Z Nq (fun _=>Xi Z Z)<|de 14 N Z<|bo H 0 (#[J (c3.clock),J (c3.next),J (c3.wait),.slice c3.A c3.txs.length c3.cap]) aF Z Z Z Z Z N N fun w5 H=>U<|bz 15 N N N Z Z Z Z Nq (fun _=>Wi Z)<|bz 16 N N N Z Z Z Z Nq (fun _=>Wi Z)<|bz 17 N N N Z Z Z Z Nq (fun _=>Wi Z)<|cF N ?_
 exact⟨(c3,b5,_,_),⟨hac3,H⟩,QU Z Z Z Z,Qg⟩
 refine jH [0,1,2,3,4,5,6,7,8,9,10,11,12] [13,14,15,16,17] [7] [0,1,2,3,5,8,9,10,11,12] 4 (sp [(7,Sp.deep w2.heap.size Nz (fun c:Co=>c.c.toArray) (fun cs=> .tuple #[.agg cs,J (bB co.a a.name).2.1,J (bB co.a a.name).2.2.1,J (bB co.a a.name).2.2.2]) (fun cq:Co=>cq.a=(bB co.a a.name).1))]) N N N Nq<|aw Z Z Z Z Z (fun w' hw'=>Yp Z)<|aw Z Z Z Z Z (fun w' hw'=>aJ Z)<|aw Z Z Z Z Z (fun w' hw'=>Zf aX Z)<|aw Z Z Z Z Z (fun w' hw'=>Zf eI Z)<|aw Z Z Z Z Z (fun w' hw'=>j6 1 [J (co.clock),J (co.next),J (co.wait),.slice co.A co.txs.length co.cap] av Z Z ((H.later hw').ent (i:=2) Z) Z)<|aw Z Z Z Z Z (fun w' hw'=>Zf fh Z)<|aw Z Z Z Z Z (fun w' hw'=>aW bd Z (aB ((H.later hw').ent (i:=1) Z) Z))<|ta (gv:=(fun cs=> .tuple #[.agg cs,J (bB co.a a.name).2.1,J (bB co.a a.name).2.2.1,J (bB co.a a.name).2.2.2])) od Z Z Z Z Z (fun w' hw'=>hw'.size) (fun w' hw'=>xb co a.name k w' (Hp.coM (H.later hw') hco) hcb hk hnm) Z fun cs18=>aw Z Z Z Z Z (fun w' hw'=>Yu Z)<|aw Z Z Z Z Z (fun w' hw'=>Xa Z Z)<|aw Z Z Z Z Z (fun w' hw'=>Xi Z Z)<|aw Z Z Z Z Z (fun w' hw'=>Xi Z Z)<|aw Z Z Z Z Z (fun w' hw'=>Xi Z Z)<|aV ?_
 intro w6 hw' hF
 obtain⟨hF,c3,eq,hac3,hrd18⟩:=hF;cases eq
 replace H:=H.learn hw' (xM w0 w2.heap.size w6.heap.size c3) ⟨H.size,hrd18⟩ (ao _) (ao _)
 clear hw' hF
 refine de 13 N Z<|eP H cM Z fun w7 b5 H=>U<|de 14 N Z<|bo H 0 (#[J (c3.clock),J (c3.next),J (c3.wait),.slice c3.A c3.txs.length c3.cap]) aF Z Z Z Z Z N N fun w8 H=>U<|bz 15 N N N Z Z Z Z Nq (fun _=>Wi Z)<|bz 16 N N N Z Z Z Z Nq (fun _=>Wi Z)<|bz 17 N N N Z Z Z Z Nq (fun _=>Wi Z)<|cF N ?_
 exact⟨(c3,b5,_,_),⟨hac3,H⟩,QU Z Z Z Z,Qg⟩
 rintro⟨c3,b5,lo,hi⟩ ρ1 w9 ⟨hac3,H⟩
 show CW _ _ _ _ (dH (gZ _ _ ρ1) [(5,.pointer (Qd b5)),(6,J (bB co.a a.name).2.1),(7,J (bB co.a a.name).2.2.1),(8,J (bB co.a a.name).2.2.2)]) w9
 refine W<|W<|Zr<|G (Yi Z) ?_
 refine ro (jh Z Z) Z Z Z (fun h24=> ?_) (fun h24=> ?_)
 refine U<|ZT Z<|W<|Zr<|G (Yi Z)<|ch bM (dR (bB co.a a.name).2.2.2 _) Z Z ?_
 rintro _ w10 ⟨rfl,hb⟩;replace H:=H.later hb;clear hb
 refine bo H 1 (#[J ((bB co.a a.name).2.2.2),J (0),.slice none 0 0]) aP Z Z Z Z Z N N fun w11 H=>U<|Zt ?_
 exact eS (cs0:= #[J ((bB co.a a.name).2.2.2),J (0),.slice none 0 0]) Z aN Z (H.ent (i:=1) Z) Z ⟨⟨ps,some ⟨gP,0,none⟩,pC,co,clo,chi,gr,glo,ghi,sns.set i x,some ⟨gS,0,none⟩,snC⟩,by rw[uW h24];exact pb.plain _ _ _,by rw[uW h24,fe hx];rfl,Bw.close (X:=[(b5,_),(b4,_),(b3,_)]) row (by rw[fe hx];exact rowS) hset hsA hlA rowq rowl (aj _ hco) (aj _ hgr) (fun q hq=>aj _ (hps q hq)) (fun f hf=>aj _ hf) H (by rw[fe hx];rfl)⟩
 refine U<|ZF Z<|Zk<|W ?_
 have hok3:(bB co.a a.name).2.2.2=0:=by simpa using h24
 refine Zr<|G (Yp Z)<|G (Zw av H 0 Z Z Z)<|G (aJ Z)<|G (Zf aX Z)<|G (Zf eI Z)<|bo H 3 (#[.slice (Qd gP) ps.length pC,J (c3.clock),J (c3.next),J (c3.wait),.slice c3.A c3.txs.length c3.cap,J (gr.clock),J (gr.wait),J (gr.gen),.slice gr.mA gr.ms.length gr.mC,.slice gr.oA gr.os.length gr.oC,.slice (Qd gS) sns.length snC]) aF Z Z Z Z Z N N fun w12 H=>U<|W<|Zr<|G (Yp Z)<|G (Zf fh Z)<|G (Zd bd H 2 Z Z Z)<|ch dB (jz bb ⟨ps,some ⟨gP,0,none⟩,pC,c3,lo,hi,gr,glo,ghi,sns,some ⟨gS,0,none⟩,snC⟩ a.name _ _ (H.ent (i:=3) Z) (dX.own rowS) (fun q hq=>by rw[aq.1 hq];exact(H.ent (i:=5) Z)) hsl) Z Z ?_
 rintro _ w13 ⟨rfl,hb⟩;replace H:=H.later hb;clear hb
 rw[hix]
 refine G (Wp Z)<|U<|W<|W<|Zr<|G (Yp Z)<|G (v9 iY Z)<|U<|ZF Z<|Zk<|W ?_
 refine bA cd [0,1,2,3,4,5,6,7,8,9,10,12,13,14,15,16,17,11,18,19,20] [21] [11,18] [0,1,3,4,5,6,7,8,10,12,13,14,15,17,19,20] (sp [(11,Sp.orow w13.heap.size bR db (au ps.length (0:Int))),(18,Sp.orow w13.heap.size gV dw (au ps.length jV))]) N N N N Nq (cI _) ?_
 refine aw Z Z Z Z Z (fun w' hw'=>Yp Z)<|aw Z Z Z Z Z (fun w' hw'=>Zf fh Z)<|aw Z Z Z Z Z (fun w' hw'=>aW bd Z (aB ((H.later hw').ent (i:=2) Z) Z))<|aw Z Z Z Z Z (fun w' hw'=>Yi Z)<|aw Z Z Z Z Z (fun w' hw'=>Yi Z)<|aw Z Z Z Z Z (fun w' hw'=>Yp Z)<|aw Z Z Z Z Z (fun w' hw'=>aJ Z)<|aw Z Z Z Z Z (fun w' hw'=>Zf aX Z)<|aw Z Z Z Z Z (fun w' hw'=>Zf dJ Z)<|aw Z Z Z Z Z (fun w' hw'=>aW ex Z (aB ((H.later hw').ent (i:=3) Z) Z))<|aw Z Z Z Z Z (fun w' hw'=>br l6 Z)<|aw Z Z Z Z Z (fun w' hw'=>Yp Z)<|aw Z Z Z Z Z (fun w' hw'=>aJ Z)<|aw Z Z Z Z Z (fun w' hw'=>Zf aX Z)<|aw Z Z Z Z Z (fun w' hw'=>Zf dJ Z)<|aw Z Z Z Z Z (fun w' hw'=>aW ex Z (aB ((H.later hw').ent (i:=3) Z) Z))<|aw Z Z Z Z Z (fun w' hw'=>br l6 Z)<|Jd (Y:=bR) ((0:Int)) ps.length bc I0 Z Z Z Z Z Z (fun w' hw'=>hw'.size) Z Z I I fun A74 c74 hc74=>Jd (Y:=gV) (jV) ps.length dV Df Z Z Z Z Z Z (fun w' hw'=>hw'.size) Z Z I I fun A81 c81 hc81=>aw Z Z Z Z Z (fun w' hw'=>bg (cs:= #[.string (a.name),J ((bB co.a a.name).2.1),J ((bB co.a a.name).2.2.1),.bool (false),.slice A74 (((au ps.length (0:Int))).length) c74,.slice A81 ((au ps.length jV).length) c81]) xW wJ N)<|aw Z Z Z Z Z (fun w' hw'=>aJ Z)<|aV ?_
 intro w14 hw' hF
 obtain⟨hF,Aq,cq,L81,eq,hcq,hm81,ho81,he81,hn81⟩:=hF;cases eq;clear hcq
 obtain⟨hF,Aq,cq,L74,eq,hcq,hm74,ho74,he74,hn74⟩:=hF;cases eq;clear hcq
 obtain⟨nq,curq,rfl,rfl,rowq9⟩:=ho74.row (by simp only[bI];exact hnp)
 obtain⟨nl,curl,rfl,rfl,rowl9⟩:=ho81.row (by simp only[bI];exact hnp)
 have e74:=he74 _ (d5 _)
 have e81:=he81 _ (d5 _)
 replace H:=H.adopt2 hw' e74 e81 (se e74.1 e81.1 Z)
 clear hw' hF
 refine k9 H 7 (⟨a.name,(bB co.a a.name).2.1,(bB co.a a.name).2.2.1,false,au ps.length 0,some ⟨nq,0,none⟩,c74,au ps.length jV,some ⟨nl,0,none⟩,c81⟩) Ah rowS hx 0 Z Z Z Z Z Z N fun w16 cur15 row15 H=> ?_
 have hs17:(sns.set i (⟨a.name,(bB co.a a.name).2.1,(bB co.a a.name).2.2.1,false,au ps.length 0,some ⟨nq,0,none⟩,c74,au ps.length jV,some ⟨nl,0,none⟩,c81⟩))[i]? =some (⟨a.name,(bB co.a a.name).2.1,(bB co.a a.name).2.2.1,false,au ps.length 0,some ⟨nq,0,none⟩,c74,au ps.length jV,some ⟨nl,0,none⟩,c81⟩):=al (cC hx).1
 refine U<|W<|Zr<|G (Yi Z)<|G (bg (cs:= #[J (0),J ((bB co.a a.name).2.2.1),.slice none 0 0]) iQ dr N)<|bo H 3 (#[J (0),J ((bB co.a a.name).2.2.1),.slice none 0 0]) aP Z Z Z Z Z N N fun w18 H=>U<|Zt ?_
 have H7:=H.forget (L':=(nq,_)::(nl,_)::(bb,_)::(gP,_)::(gS,_)::(La++(Lb++K))) (.cons_cons _ (.cons_cons _ ((ar _).trans (.trans (.cons_cons _ (.cons_cons _ (.cons_cons _ (.cons _ (.cons _ (ar _)))))) (cr [(b5,_),(b4,_),(b3,_)] _))))) (fun _ h=>h)
 have hm7:(sns.set i (⟨a.name,(bB co.a a.name).2.1,(bB co.a a.name).2.2.1,false,au ps.length 0,some ⟨nq,0,none⟩,c74,au ps.length jV,some ⟨nl,0,none⟩,c81⟩:Sn)).map Sn.a=(sns.map Sn.a).set i (lZ a.name (bB co.a a.name).2.1 (bB co.a a.name).2.2.1 ps.length):=by rw[cE];rfl
 replace H7:=H7.perm (gb [(bb,_),(gP,_),(gS,_)] [(nq,_),(nl,_)] _)
 exact eS (cs0:= #[J (0),J ((bB co.a a.name).2.2.1),.slice none 0 0]) Z aN Z (H.ent (i:=3) Z) Z ⟨⟨ps,some ⟨gP,0,none⟩,pC,c3,lo,hi,gr,glo,ghi,sns.set i ⟨a.name,(bB co.a a.name).2.1,(bB co.a a.name).2.2.1,false,au ps.length 0,some ⟨nq,0,none⟩,c74,au ps.length jV,some ⟨nl,0,none⟩,c81⟩,some ⟨gS,0,none⟩,snC⟩,by rw[Dl hix hok3];exact pb.plain _ _ _,by rw[Dl hix hok3,<-hac3];show Wa.mk _ _ _ ((sns.set i ⟨a.name,(bB co.a a.name).2.1,(bB co.a a.name).2.2.1,false,au ps.length 0,some ⟨nq,0,none⟩,c74,au ps.length jV,some ⟨nl,0,none⟩,c81⟩).map Sn.a)=Wa.mk _ _ _ _;rw[hm7];rfl,Bw.close (X:=[]) row row15 hset Z Z rowq9 rowl9 (az ..) (aj _ hgr) (fun q hq=>aj _ (hps q hq)) (fun f hf=>aj _ hf) H7 (by simp only[Bk.c,ae])⟩
theorem HL {w:Wa} {a:Act} (h:ia w.co.txs a.n.toNat=none):nj w a=lJ w 15:=by
 unfold nj
 rw[h]
theorem Mt {w:Wa} {a:Act} {t:Tx} {n:Nat} {p:fD} (h:ia w.co.txs a.n.toNat=some t) (hn:t.parts.headD 0=(n:Nat)) (hp:w.ps[n]? =some p):nj w a=if(er p (da t)).2.2=0 then({w with ps:=w.ps.set n (er p (da t)).1,co:=(oO w.co t.name (t.parts.headD 0)).1},⟨0,(er p (da t)).2.1,[]⟩)else lJ w (er p (da t)).2.2:=by
 unfold nj
 rw[h]
 dsimp only
 rw[show(t.parts.headD 0).toNat=n by omega,IT hp]
 split
 rename_i h0
 rw[if_pos (by rfl)]
 rename_i h0
 rw[if_neg (show¬ (lJ w (er p (da t)).2.2).2.code=0 from h0)]
theorem J5 {w:Wa} {a:Act} {t:Tx} {n:Nat} (h:ia w.co.txs a.n.toNat=some t) (hn:t.parts.headD 0=(n:Nat)) (hp:w.ps[n]? =none):nj w a=lJ w 5:=by
 unfold nj lK
 rw[h]
 dsimp only
 rw[show(t.parts.headD 0).toNat=n by omega,hp]
 dsimp only
 rw[if_neg (by show¬ (5:Int)=0;decide)]
theorem J4 {w0 w:World} {bb:Nat} {b:Bk} {gP:Nat} {uP:Array Value} {Ls Lo K:List (Nat×Obj)} {F:List cB} (a:Act) (B:Bw w0 w bb b gP uP Ls Lo K F) {k:Nat} (hcb:oY k b.co) (hn:0<=a.n/\a.n<=1000) (hne:ia b.co.a.txs a.n.toNat=none):dh aa kj [.pointer (Qd bb),a.v] w fun v w2=> ∃ b':Bk,pb (nj b.a a).2 v w2/\b'.a=(nj b.a a).1/\xN w0 w2 bb b' K F:=by
 refine aE nk Z Z ?_
 have hsp:=HL (w:=b.a) hne
 obtain⟨ps,pA,pC,co,clo,chi,gr,glo,ghi,sns,snA,snC⟩:=b
 obtain⟨hpA,row,hsn,hown,hco,hgr,hps,H⟩:=B
 dsimp only at hpA row hsn hown hco hgr hps
 subst hpA
 replace H:Hp w0 w ((bb,.cells #[.slice (Qd gP) ps.length pC,J (co.clock),J (co.next),J (co.wait),.slice co.A co.txs.length co.cap,J (gr.clock),J (gr.wait),J (gr.gen),.slice gr.mA gr.ms.length gr.mC,.slice gr.oA gr.os.length gr.oC,.slice snA sns.length snC] bK (0,0))::(gP,.cells uP bF (0,0))::(Ls++(Lo++K))) F:=H
 dsimp only at hcb hne
 obtain⟨m,hnm⟩: ∃ m:Nat,a.n=(m:Int):=⟨a.n.toNat,by omega⟩
 have htm:a.n.toNat=m:=by omega
 rw[htm]at hne
 show CW _ _ _ _ (args [.pointer (Qd bb),.agg #[J (a.kind),.string (a.name),J (a.part),J (a.n),J (a.m),.string (a.text),J (a.lost)]]) w
 refine W<|Zr<|f7 H Z Z fun w1 b3 H=>eP H dr Z fun w2 b4 H=>U<|W ?_
 refine bA cd [0,1,2,3,4,5,6,7,8,9,10,11,12,13,14,15] [16,17] [7,13] [0,1,2,3,5,8,9,10,11,12,14,15] (sp [(7,Sp.one (yQ none)),(13,Sp.blk w2.heap.size (.agg #[J 0,J 0,J 0,J 0,J 0,.bool false,.string ⟨#[]⟩]) dw)]) N N N N Nq (cI _) ?_
 refine aw Z Z Z Z Z (fun w' hw'=>Yp Z)<|aw Z Z Z Z Z (fun w' hw'=>aJ Z)<|aw Z Z Z Z Z (fun w' hw'=>Zf aX Z)<|aw Z Z Z Z Z (fun w' hw'=>Zf eI Z)<|aw Z Z Z Z Z (fun w' hw'=>j6 1 [J (co.clock),J (co.next),J (co.wait),.slice co.A co.txs.length co.cap] av Z Z ((H.later hw').ent (i:=2) Z) Z)<|aw Z Z Z Z Z (fun w' hw'=>Zf eT Z)<|aw Z Z Z Z Z (fun w' hw'=>aW ak Z (aB ((H.later hw').ent (i:=1) Z) Z))<|ic vO Z Z Z Z Z (fun w' hw'=>(by have hA:=FX co m w' (Hp.coM (H.later hw') hco) hcb.ok I;rw[show ia co.a.txs m=_ from hne,<-hnm]at hA;exact hA)) Z<|aw Z Z Z Z Z (fun w' hw'=>Yu Z)<|aw Z Z Z Z Z (fun w' hw'=>O9 Z Z)<|aw Z Z Z Z Z (fun w' hw'=>Xi Z Z)<|aw Z Z Z Z Z (fun w' hw'=>Xa Z Z)<|aw Z Z Z Z Z (fun w' hw'=>Xi Z Z)<|xG gu Z Z Z Z Z (fun w' hw'=>hw'.size) fun b7=>aw Z Z Z Z Z (fun w' hw'=>Wt Z)<|aw Z Z Z Z Z (fun w' hw'=>Wi Z)<|aV ?_
 intro w3 hw' hF
 obtain⟨hF,bq,eq,hge7,hbl7⟩:=hF;cases eq
 obtain⟨hF,-⟩:=hF
 have Hb:=H
 replace H:=H.adoptNew hw' hbl7 hge7
 clear hw' hF
 refine bo H 0 (#[J (0),J (0),J (0),J (0),J (0),.bool (false),.string (⟨#[]⟩)]) eW Z Z Z Z Z N N fun w4 H=>G (Wi Z)<|U<|W<|W<|Zr<|G (Yi Z)<|G (kh Z Z (by decide))<|U<|ZT Z<|W<|Zr<|G (Yi Z)<|ch bM (dR 15 _) Z Z ?_
 rintro _ w5 ⟨rfl,hb⟩;replace H:=H.later hb;clear hb
 refine bo H 1 (#[J (15),J (0),.slice none 0 0]) aP Z Z Z Z Z N N fun w6 H=>U<|Zt ?_
 exact eS (cs0:= #[J (15),J (0),.slice none 0 0]) Z aN Z (H.ent (i:=1) Z) Z ⟨⟨ps,some ⟨gP,0,none⟩,pC,co,clo,chi,gr,glo,ghi,sns,snA,snC⟩,by rw[hsp];exact pb.plain _ _ _,by rw[hsp];rfl,Bw.shut (X:=[(b7,_),(b4,_),(b3,_)]) row hsn hown hco hgr hps (fun _ h=>h) H Z⟩
theorem J3 {w0 w:World} {bb:Nat} {b:Bk} {gP:Nat} {uP:Array Value} {Ls Lo K:List (Nat×Obj)} {F:List cB} (a:Act) (B:Bw w0 w bb b gP uP Ls Lo K F) {k:Nat} (hcb:oY k b.co) (hn:0<=a.n/\a.n<=1000) (hpk: ∀ q∈b.ps,q.p.a.ok/\ ∀ (l:Nat) (y:fk),q.p.leader=l->q.p.reps[l]? =some y->y.es.length<400) {t:Tx} (hne:ia b.co.a.txs a.n.toNat=some t):dh aa kj [.pointer (Qd bb),a.v] w fun v w2=> ∃ b':Bk,pb (nj b.a a).2 v w2/\b'.a=(nj b.a a).1/\xN w0 w2 bb b' K F:=by
 refine aE nk Z Z ?_
 have hne0:ia b.a.co.txs a.n.toNat=some t:=hne
 obtain⟨⟨ti,hf⟩,h34,hpt,hp0,hp4⟩:=ye hcb.a.ok hne
 have hnmt:=(cv.1 (hcb.a.at_ (gg hf).2.1)).1
 obtain⟨n,hpn⟩: ∃ n:Nat,t.parts.headD 0=(n:Int):=⟨(t.parts.headD 0).toNat,by omega⟩
 have hn4:n<4:=by omega
 have hout:decide (0<=t.parts.headD 0/\t.parts.headD 0<(b.ps.length:Int))=false->nj b.a a=lJ b.a 5:=fun h=>J5 hne0 hpn (by rw[show b.a.ps=b.ps.map fun q=>q.p.a from rfl,aL,cL (by have:=of_decide_eq_false h;omega)];rfl)
 obtain⟨ps,pA,pC,co,clo,chi,gr,glo,ghi,sns,snA,snC⟩:=b
 obtain⟨hpA,row,hsn,hown,hco,hgr,hps,H⟩:=B
 dsimp only at hpA row hsn hown hco hgr hps
 subst hpA
 replace H:Hp w0 w ((bb,.cells #[.slice (Qd gP) ps.length pC,J (co.clock),J (co.next),J (co.wait),.slice co.A co.txs.length co.cap,J (gr.clock),J (gr.wait),J (gr.gen),.slice gr.mA gr.ms.length gr.mC,.slice gr.oA gr.os.length gr.oC,.slice snA sns.length snC] bK (0,0))::(gP,.cells uP bF (0,0))::(Ls++(Lo++K))) F:=H
 dsimp only at hcb hne hf hpk hout
 obtain⟨m,hnm⟩: ∃ m:Nat,a.n=(m:Int):=⟨a.n.toNat,by omega⟩
 have htm:a.n.toNat=m:=by omega
 rw[htm]at hne
 show CW _ _ _ _ (args [.pointer (Qd bb),.agg #[J (a.kind),.string (a.name),J (a.part),J (a.n),J (a.m),.string (a.text),J (a.lost)]]) w
 refine W<|Zr<|f7 H Z Z fun w1 b3 H=>eP H dr Z fun w2 b4 H=>U<|W ?_
 refine bA cd [0,1,2,3,4,5,6,7,8,9,10,11,12,13,14,15] [16,17] [7,13] [0,1,2,3,5,8,9,10,11,12,14,15] (sp [(7,Sp.one (yQ (some t))),(13,Sp.blk w2.heap.size (.agg #[J 0,J 0,J 0,J 0,J 0,.bool false,.string ⟨#[]⟩]) dw)]) N N N N Nq (cI _) ?_
 refine aw Z Z Z Z Z (fun w' hw'=>Yp Z)<|aw Z Z Z Z Z (fun w' hw'=>aJ Z)<|aw Z Z Z Z Z (fun w' hw'=>Zf aX Z)<|aw Z Z Z Z Z (fun w' hw'=>Zf eI Z)<|aw Z Z Z Z Z (fun w' hw'=>j6 1 [J (co.clock),J (co.next),J (co.wait),.slice co.A co.txs.length co.cap] av Z Z ((H.later hw').ent (i:=2) Z) Z)<|aw Z Z Z Z Z (fun w' hw'=>Zf eT Z)<|aw Z Z Z Z Z (fun w' hw'=>aW ak Z (aB ((H.later hw').ent (i:=1) Z) Z))<|ic vO Z Z Z Z Z (fun w' hw'=>(by have hA:=FX co m w' (Hp.coM (H.later hw') hco) hcb.ok I;rw[show ia co.a.txs m=_ from hne,<-hnm]at hA;exact hA)) Z<|aw Z Z Z Z Z (fun w' hw'=>Yu Z)<|aw Z Z Z Z Z (fun w' hw'=>O9 Z Z)<|aw Z Z Z Z Z (fun w' hw'=>Xi Z Z)<|aw Z Z Z Z Z (fun w' hw'=>Xa Z Z)<|aw Z Z Z Z Z (fun w' hw'=>Xi Z Z)<|xG gu Z Z Z Z Z (fun w' hw'=>hw'.size) fun b7=>aw Z Z Z Z Z (fun w' hw'=>Wt Z)<|aw Z Z Z Z Z (fun w' hw'=>Wi Z)<|aV ?_
 intro w3 hw' hF
 obtain⟨hF,bq,eq,hge7,hbl7⟩:=hF;cases eq
 obtain⟨hF,-⟩:=hF
 have Hb:=H
 replace H:=H.adoptNew hw' hbl7 hge7
 clear hw' hF
 refine bo H 0 (#[J ((da t).epoch),J ((da t).pid),J ((da t).ver),J ((da t).seq),J ((da t).kind),.bool ((da t).txn),.string ((da t).text)]) eW Z Z Z Z Z N N fun w4 H=>G (Wi Z)<|U<|W<|W<|Zr<|G (Yi Z)<|G (bZ Z Z (by decide))<|U<|ZF Z<|Zk<|W<|W<|Zr<|G (Yp Z)<|G (Yi Z)<|ch d4 (ot bb ⟨ps,some ⟨gP,0,none⟩,pC,co,clo,chi,gr,glo,ghi,sns,snA,snC⟩ (t.parts.headD 0) _ (H.ent (i:=3) Z)) Z Z ?_
 rintro _ w5 ⟨rfl,hb⟩;replace H:=H.later hb;clear hb
 refine mM 30 Z (fun h30=> ?_) (fun h30=> ?_)
 have hnp:n<ps.length:=by have:=of_decide_eq_true h30;dsimp only at this;omega
 obtain⟨q,hq⟩: ∃ q,ps[n]? =some q:=⟨_,ah hnp⟩
 have hqm:=ab hq
 have hsp:=Mt hne0 hpn (p:=q.p.a) (by show(ps.map fun q=>q.p.a)[n]? =_;rw[aL,hq];rfl)
 refine G (dM Z)<|U<|ZF Z<|Zk<|W ?_
 refine eN (τ:=Pa×Nat×Nat×Nat) [8,9,10,33,34,35,36,37,38,39,40,41,42,43,44,45,46] (fun(_,b9,_,_)=>[(9,.pointer (Qd b9)),(10,J (er q.p.a (da t)).2.1),(8,J (er q.p.a (da t)).2.2)]) (fun(p2,b9,lo,hi) w'=>p2.a=(er q.p.a (da t)).1/\Hp w0 w' ((b9,.cells #[J (p2.epoch),J (p2.leader),.slice p2.iA p2.isr.length p2.iC,.slice p2.kA p2.known.length p2.kC,.slice p2.rA p2.reps.length p2.rC,J (p2.few),J (p2.base)] bF (0,0))::(b7,.cells #[J ((da t).epoch),J ((da t).pid),J ((da t).ver),J ((da t).seq),J ((da t).kind),.bool ((da t).txn),.string ((da t).text)] dw (0,0))::(b4,.cells #[J (0),J (0),.slice none 0 0] eg (0,0))::(b3,.cells #[J (a.kind),.string (a.name),J (a.part),J (a.n),J (a.m),.string (a.text),J (a.lost)] gj (0,0))::(bb,.cells #[.slice (Qd gP) ps.length pC,J (co.clock),J (co.next),J (co.wait),.slice co.A co.txs.length co.cap,J (gr.clock),J (gr.wait),J (gr.gen),.slice gr.mA gr.ms.length gr.mC,.slice gr.oA gr.os.length gr.oC,.slice snA sns.length snC] bK (0,0))::(gP,.cells uP bF (0,0))::(Ls++(Lo++K))) (tI w0 lo hi p2::F)) ?_ ?_
 refine oP cd 14 9 [9,10,11,12,13,15,16,17] [14] [0,1,2,3,5,6] [14,15,16,17] [9] [0,1,2,3,5,6,10,11,12,13] (sp [(14,Sp.blk w5.heap.size (.agg #[J 0,J 0,.slice none 0 0,.slice none 0 0,.slice none 0 0,J 0,J 0]) bF)]) (sp [(9,Sp.deep w5.heap.size QV (fun p:Pa=>p.c.toArray) (fun cs=> .tuple #[.agg cs,J (er q.p.a (da t)).2.1,J (er q.p.a (da t)).2.2]) (fun cq:Pa=>cq.a=(er q.p.a (da t)).1))]) N N N N (cI _) (cI _) ?_ ?_
 refine jH [0,1,2,3,4,5,6,7,8,14] [9,10,11,12,13,15,16,17] [14] [0,1,2,3,5,6] 7 (sp [(14,Sp.blk w5.heap.size (.agg #[J 0,J 0,.slice none 0 0,.slice none 0 0,.slice none 0 0,J 0,J 0]) bF)]) N N N Nq<|aw Z Z Z Z Z (fun w' hw'=>Yp Z)<|aw Z Z Z Z Z (fun w' hw'=>aJ Z)<|aw Z Z Z Z Z (fun w' hw'=>Zf aX Z)<|aw Z Z Z Z Z (fun w' hw'=>Zf dJ Z)<|aw Z Z Z Z Z (fun w' hw'=>aW ex Z (aB ((H.later hw').ent (i:=3) Z) Z))<|aw Z Z Z Z Z (fun w' hw'=>Yi Z)<|aw Z Z Z Z Z (fun w' hw'=>cG (k:=n) iz Z (congrArg (Value.int .i64) hpn) (by first|omega|(simp only[ae];omega)))<|aw Z Z Z Z Z (fun w' hw'=>pe aH row hq Z Z ((H.later hw').ent (i:=4) Z))<|aw Z Z Z Z Z (fun w' hw'=>jL dG Z ((H.later hw').ent (i:=0) Z) Z)<|xG bv Z Z Z Z Z (fun w' hw'=>hw'.size) fun b9=>aV ?_
 intro w6 hw' hF
 obtain⟨hF,bq,eq,hge9,hbl9⟩:=hF;cases eq
 replace H:=H.adoptNew hw' hbl9 hge9
 clear hw' hF
 refine de 9 N Z<|ch qY (zI q.p (da t) _ (Hp.paM H (hps q hqm)) (hpk q hqm).1 (hpk q hqm).2) Z Z ?_
 rintro _ w7 ⟨p2,rfl,hap2,hnp2⟩;replace H:=H.learn hnp2.2 (tI w0 w6.heap.size w7.heap.size p2) ⟨H.size,hnp2.1⟩ (ao _) (ao _);clear hnp2
 refine U<|bz 10 N N N Z Z Z Z Nq (fun _=>Yu Z)<|bz 11 N N N Z Z Z Z Nq (fun _=>Xa Z Z)<|bz 12 N N N Z Z Z Z Nq (fun _=>Xi Z Z)<|bz 13 N N N Z Z Z Z Nq (fun _=>Xi Z Z)<|de 15 N Z<|bo H 0 (#[J (p2.epoch),J (p2.leader),.slice p2.iA p2.isr.length p2.iC,.slice p2.kA p2.known.length p2.kC,.slice p2.rA p2.reps.length p2.rC,J (p2.few),J (p2.base)]) aK Z Z Z Z Z N N fun w8 H=>U<|bz 16 N N N Z Z Z Z Nq (fun _=>Wi Z)<|bz 17 N N N Z Z Z Z Nq (fun _=>Wi Z)<|cF N ?_
 exact⟨(p2,b9,_,_),⟨hap2,H⟩,Qq Z Z Z,Qg⟩
 refine jH [0,1,2,3,4,5,6,7,8,9,10,11,12,13] [14,15,16,17] [9] [0,1,2,3,5,6,10,11,12,13] 3 (sp [(9,Sp.deep w5.heap.size QV (fun p:Pa=>p.c.toArray) (fun cs=> .tuple #[.agg cs,J (er q.p.a (da t)).2.1,J (er q.p.a (da t)).2.2]) (fun cq:Pa=>cq.a=(er q.p.a (da t)).1))]) N N N Nq<|aw Z Z Z Z Z (fun w' hw'=>Yp Z)<|aw Z Z Z Z Z (fun w' hw'=>aJ Z)<|aw Z Z Z Z Z (fun w' hw'=>Zf aX Z)<|aw Z Z Z Z Z (fun w' hw'=>Zf dJ Z)<|aw Z Z Z Z Z (fun w' hw'=>aW ex Z (aB ((H.later hw').ent (i:=3) Z) Z))<|aw Z Z Z Z Z (fun w' hw'=>Yi Z)<|aw Z Z Z Z Z (fun w' hw'=>cG (k:=n) iz Z (congrArg (Value.int .i64) hpn) (by first|omega|(simp only[ae];omega)))<|aw Z Z Z Z Z (fun w' hw'=>pe aH row hq Z Z ((H.later hw').ent (i:=4) Z))<|aw Z Z Z Z Z (fun w' hw'=>jL dG Z ((H.later hw').ent (i:=0) Z) Z)<|ta (gv:=(fun cs=> .tuple #[.agg cs,J (er q.p.a (da t)).2.1,J (er q.p.a (da t)).2.2])) qY Z Z Z Z Z (fun w' hw'=>hw'.size) (fun w' hw'=>zI q.p (da t) w' (Hp.paM (H.later hw') (hps q hqm)) (hpk q hqm).1 (hpk q hqm).2) Z fun cs43=>aw Z Z Z Z Z (fun w' hw'=>Yu Z)<|aw Z Z Z Z Z (fun w' hw'=>Xa Z Z)<|aw Z Z Z Z Z (fun w' hw'=>Xi Z Z)<|aw Z Z Z Z Z (fun w' hw'=>Xi Z Z)<|aV ?_
 intro w9 hw' hF
 obtain⟨hF,p2,eq,hap2,hrd43⟩:=hF;cases eq
 replace H:=H.learn hw' (tI w0 w5.heap.size w9.heap.size p2) ⟨H.size,hrd43⟩ (ao _) (ao _)
 clear hw' hF
 refine de 14 N Z<|eP H bv Z fun w10 b9 H=>U<|de 15 N Z<|bo H 0 (#[J (p2.epoch),J (p2.leader),.slice p2.iA p2.isr.length p2.iC,.slice p2.kA p2.known.length p2.kC,.slice p2.rA p2.reps.length p2.rC,J (p2.few),J (p2.base)]) aK Z Z Z Z Z N N fun w11 H=>U<|bz 16 N N N Z Z Z Z Nq (fun _=>Wi Z)<|bz 17 N N N Z Z Z Z Nq (fun _=>Wi Z)<|cF N ?_
 exact⟨(p2,b9,_,_),⟨hap2,H⟩,Qq Z Z Z,Qg⟩
 rintro⟨p2,b9,lo,hi⟩ ρ1 w12 ⟨hap2,H⟩
 show CW _ _ _ _ (dH (gZ _ _ ρ1) [(9,.pointer (Qd b9)),(10,J (er q.p.a (da t)).2.1),(8,J (er q.p.a (da t)).2.2)]) w12
 refine W<|W<|Zr<|G (Yi Z) ?_
 refine ro (jh Z Z) Z Z Z (fun h48=> ?_) (fun h48=> ?_)
 refine U<|ZT Z<|W<|Zr<|G (Yi Z)<|ch bM (dR (er q.p.a (da t)).2.2 _) Z Z ?_
 rintro _ w13 ⟨rfl,hb⟩;replace H:=H.later hb;clear hb
 refine bo H 2 (#[J ((er q.p.a (da t)).2.2),J (0),.slice none 0 0]) aP Z Z Z Z Z N N fun w14 H=>U<|Zt ?_
 exact eS (cs0:= #[J ((er q.p.a (da t)).2.2),J (0),.slice none 0 0]) Z aN Z (H.ent (i:=2) Z) Z ⟨⟨ps,some ⟨gP,0,none⟩,pC,co,clo,chi,gr,glo,ghi,sns,snA,snC⟩,by rw[hsp,if_neg h48];exact pb.plain _ _ _,by rw[hsp,if_neg h48];rfl,Bw.shut (X:=[(b9,_),(b7,_),(b4,_),(b3,_)]) row hsn hown (aj _ hco) (aj _ hgr) (fun q hq=>aj _ (hps q hq)) (fun f hf=>aj _ hf) H Z⟩
 refine U<|ZF Z<|Zk<|W ?_
 refine bA cd [0,1,2,3,4,5,6,7] [8] [] [0,1,2,3,5,7] (sp []) N N N N Nq (cI _) ?_
 refine aw Z Z Z Z Z (fun w' hw'=>Yp Z)<|aw Z Z Z Z Z (fun w' hw'=>aJ Z)<|aw Z Z Z Z Z (fun w' hw'=>Zf aX Z)<|aw Z Z Z Z Z (fun w' hw'=>Zf dJ Z)<|aw Z Z Z Z Z (fun w' hw'=>aW ex Z (aB ((H.later hw').ent (i:=4) Z) Z))<|aw Z Z Z Z Z (fun w' hw'=>Yi Z)<|aw Z Z Z Z Z (fun w' hw'=>jL aH Z ((H.later hw').ent (i:=0) Z) Z)<|aw Z Z Z Z Z (fun w' hw'=>cG (k:=n) iz Z (congrArg (Value.int .i64) hpn) (by first|omega|(simp only[ae];omega)))<|aV ?_
 intro w15 hw' hF
 replace H:=H.later hw';clear hw' hF
 refine k9 H 5 (⟨p2,lo,hi⟩) aK row hq 0 Z Z Z Z Z Z N fun w17 cur16 row16 H=> ?_
 have hs18:(ps.set n (⟨p2,lo,hi⟩))[n]? =some (⟨p2,lo,hi⟩):=al (cC hq).1
 refine U<|W<|Zr<|G (Yp Z)<|G (Yp Z)<|G (aJ Z)<|G (Zf aX Z)<|G (Zf eI Z)<|G (j6 1 [J (co.clock),J (co.next),J (co.wait),.slice co.A co.txs.length co.cap] av Z Z (H.ent (i:=4) Z) Z)<|G (Yt Z)<|G (Yi Z)<|ch CO (Ky co t.name (t.parts.headD 0) k ti t _ (Hp.coM H (aj _ hco)) hcb hnmt hf h34 hpt) Z Z ?_
 rintro _ w19 ⟨c4,rfl,hac4,hnc4⟩;replace H:=H.learn hnc4.2 (xM w0 w17.heap.size w19.heap.size c4) ⟨H.size,hnc4.1⟩ (ao _) (ao _);clear hnc4
 refine G (Yu Z)<|G (Xa Z Z)<|G (Xi Z Z)<|G (aJ Z)<|G (Zf aX Z)<|G (Zf eI Z)<|bo H 4 (#[.slice (Qd gP) ps.length pC,J (c4.clock),J (c4.next),J (c4.wait),.slice c4.A c4.txs.length c4.cap,J (gr.clock),J (gr.wait),J (gr.gen),.slice gr.mA gr.ms.length gr.mC,.slice gr.oA gr.os.length gr.oC,.slice snA sns.length snC]) aF Z Z Z Z Z N N fun w20 H=>U<|W<|Zr<|G (Yi Z)<|G (bg (cs:= #[J (0),J ((er q.p.a (da t)).2.1),.slice none 0 0]) iQ dr N)<|bo H 2 (#[J (0),J ((er q.p.a (da t)).2.1),.slice none 0 0]) aP Z Z Z Z Z N N fun w21 H=>U<|Zt ?_
 have hz:(er q.p.a (da t)).2.2=0:=by simpa using h48
 exact eS (cs0:= #[J (0),J ((er q.p.a (da t)).2.1),.slice none 0 0]) Z aN Z (H.ent (i:=2) Z) Z ⟨⟨ps.set n ⟨p2,lo,hi⟩,some ⟨gP,0,none⟩,pC,c4,w17.heap.size,w19.heap.size,gr,glo,ghi,sns,snA,snC⟩,by rw[hsp,if_pos hz];exact pb.plain _ _ _,by rw[hsp,if_pos hz];unfold Bk.a;simp only[cE,hap2,hac4],Bw.shut (X:=[(b9,_),(b7,_),(b4,_),(b3,_)]) row16 hsn hown (az ..) (aj _ (aj _ hgr)) (fun y hy=>by rcases AD hy with hy|hy;exact aj _ (aj _ (hps y hy));rw[hy];exact aj _ (az ..)) (fun f hf=>aj _ (aj _ hf)) H (by simp only[Bk.c,ae])⟩
 refine G (dM Z)<|U<|ZT Z<|W<|Zr<|ch bM (dR 5 _) Z Z ?_
 rintro _ w22 ⟨rfl,hb⟩;replace H:=H.later hb;clear hb
 refine bo H 1 (#[J (5),J (0),.slice none 0 0]) aP Z Z Z Z Z N N fun w23 H=>U<|Zt ?_
 exact eS (cs0:= #[J (5),J (0),.slice none 0 0]) Z aN Z (H.ent (i:=1) Z) Z ⟨⟨ps,some ⟨gP,0,none⟩,pC,co,clo,chi,gr,glo,ghi,sns,snA,snC⟩,by rw[hout h30];exact pb.plain _ _ _,by rw[hout h30];rfl,Bw.shut (X:=[(b7,_),(b4,_),(b3,_)]) row hsn hown hco hgr hps (fun _ h=>h) H Z⟩
theorem Lg (b:Bk) (a:Act):wO b.a a=({b.a with co:=(ij b.co.a a.n).1,gr:=p7 b.gr.a a.n b.ps.length},⟨0,(ij b.co.a a.n).1.clock,[]⟩):=by
 unfold wO
 rw[show b.a.ps.length=b.ps.length by show(b.ps.map _).length=_;rw[bJ]]
 rfl
theorem Le {w0 w:World} {bb:Nat} {b:Bk} {gP:Nat} {uP:Array Value} {Ls Lo K:List (Nat×Obj)} {F:List cB} (a:Act) (B:Bw w0 w bb b gP uP Ls Lo K F) {k np:Nat} {wt:Int} (hcb:oY k b.co) (hk:k<=1000) (hn:0<=a.n/\a.n<=1000) (hgi:rf (fun _=>True) wt np k b.gr) (hp4:b.ps.length<=4):dh aa oF [.pointer (Qd bb),a.v] w fun v w2=> ∃ b':Bk,pb (wO b.a a).2 v w2/\b'.a=(wO b.a a).1/\xN w0 w2 bb b' K F:=by
 refine aE tD Z Z ?_
 have hsp:=Lg b a
 obtain⟨ps,pA,pC,co,clo,chi,gr,glo,ghi,sns,snA,snC⟩:=b
 obtain⟨hpA,row,hsn,hown,hco,hgr,hps,H⟩:=B
 dsimp only at hpA row hsn hown hco hgr hps
 subst hpA
 replace H:Hp w0 w ((bb,.cells #[.slice (Qd gP) ps.length pC,J (co.clock),J (co.next),J (co.wait),.slice co.A co.txs.length co.cap,J (gr.clock),J (gr.wait),J (gr.gen),.slice gr.mA gr.ms.length gr.mC,.slice gr.oA gr.os.length gr.oC,.slice snA sns.length snC] bK (0,0))::(gP,.cells uP bF (0,0))::(Ls++(Lo++K))) F:=H
 dsimp only at hcb hgi hp4 hsp
 have h2z:(ij co.a a.n).2=0:=by unfold ij;rw[if_neg I]
 show CW _ _ _ _ (args [.pointer (Qd bb),.agg #[J (a.kind),.string (a.name),J (a.part),J (a.n),J (a.m),.string (a.text),J (a.lost)]]) w
 refine W<|Zr<|f7 H Z Z fun w1 b3 H=>eP H dr Z fun w2 b4 H=>U<|W ?_
 refine eN (τ:=Co×Nat×Nat×Nat) [5,6,8,9,10,11,12,13,14,15,16,17,18] (fun(_,b5,_,_)=>[(5,.pointer (Qd b5)),(6,J (ij co.a a.n).2)]) (fun(c3,b5,lo,hi) w'=>c3.a=(ij co.a a.n).1/\Hp w0 w' ((b5,.cells #[J (c3.clock),J (c3.next),J (c3.wait),.slice c3.A c3.txs.length c3.cap] bi (0,0))::(b4,.cells #[J (0),J (0),.slice none 0 0] eg (0,0))::(b3,.cells #[J (a.kind),.string (a.name),J (a.part),J (a.n),J (a.m),.string (a.text),J (a.lost)] gj (0,0))::(bb,.cells #[.slice (Qd gP) ps.length pC,J (co.clock),J (co.next),J (co.wait),.slice co.A co.txs.length co.cap,J (gr.clock),J (gr.wait),J (gr.gen),.slice gr.mA gr.ms.length gr.mC,.slice gr.oA gr.os.length gr.oC,.slice snA sns.length snC] bK (0,0))::(gP,.cells uP bF (0,0))::(Ls++(Lo++K))) (xM w0 lo hi c3::F)) ?_ ?_
 refine oP cd 11 7 [7,8,9,10,12,13] [11] [0,1,2,3,5] [11,12,13] [7] [0,1,2,3,5,8,9,10] (sp [(11,Sp.blk w2.heap.size (.agg #[J 0,J 0,J 0,.slice none 0 0]) bi)]) (sp [(7,Sp.deep w2.heap.size Nz (fun c:Co=>c.c.toArray) (fun cs=> .tuple #[.agg cs,J (ij co.a a.n).2]) (fun cq:Co=>cq.a=(ij co.a a.n).1))]) N N N N (cI _) (cI _) ?_ ?_
 refine jH [0,1,2,3,4,5,6,11] [7,8,9,10,12,13] [11] [0,1,2,3,5] 5 (sp [(11,Sp.blk w2.heap.size (.agg #[J 0,J 0,J 0,.slice none 0 0]) bi)]) N N N Nq<|aw Z Z Z Z Z (fun w' hw'=>Yp Z)<|aw Z Z Z Z Z (fun w' hw'=>aJ Z)<|aw Z Z Z Z Z (fun w' hw'=>Zf aX Z)<|aw Z Z Z Z Z (fun w' hw'=>Zf eI Z)<|aw Z Z Z Z Z (fun w' hw'=>j6 1 [J (co.clock),J (co.next),J (co.wait),.slice co.A co.txs.length co.cap] av Z Z ((H.later hw').ent (i:=2) Z) Z)<|aw Z Z Z Z Z (fun w' hw'=>Zf eT Z)<|aw Z Z Z Z Z (fun w' hw'=>aW ak Z (aB ((H.later hw').ent (i:=1) Z) Z))<|xG cM Z Z Z Z Z (fun w' hw'=>hw'.size) fun b5=>aV ?_
 intro w3 hw' hF
 obtain⟨hF,bq,eq,hge5,hbl5⟩:=hF;cases eq
 replace H:=H.adoptNew hw' hbl5 hge5
 clear hw' hF
 refine de 7 N Z<|ch vN (C1 co a.n k _ (Hp.coM H hco) hcb hk hn.1) Z Z ?_
 rintro _ w4 ⟨c3,rfl,hac3,hnc3⟩;replace H:=H.learn hnc3.2 (xM w0 w3.heap.size w4.heap.size c3) ⟨H.size,hnc3.1⟩ (ao _) (ao _);clear hnc3
 refine U<|bz 8 N N N Z Z Z Z Nq (fun _=>Yu Z)<|bz 9 N N N Z Z Z Z Nq (fun _=>Xa Z Z)<|bz 10 N N N Z Z Z Z Nq (fun _=>Xi Z Z)<|de 12 N Z<|bo H 0 (#[J (c3.clock),J (c3.next),J (c3.wait),.slice c3.A c3.txs.length c3.cap]) aF Z Z Z Z Z N N fun w5 H=>U<|bz 13 N N N Z Z Z Z Nq (fun _=>Wi Z)<|cF N ?_
 exact⟨(c3,b5,_,_),⟨hac3,H⟩,li Z Z,Qg⟩
 refine jH [0,1,2,3,4,5,6,7,8,9,10] [11,12,13] [7] [0,1,2,3,5,8,9,10] 2 (sp [(7,Sp.deep w2.heap.size Nz (fun c:Co=>c.c.toArray) (fun cs=> .tuple #[.agg cs,J (ij co.a a.n).2]) (fun cq:Co=>cq.a=(ij co.a a.n).1))]) N N N Nq<|aw Z Z Z Z Z (fun w' hw'=>Yp Z)<|aw Z Z Z Z Z (fun w' hw'=>aJ Z)<|aw Z Z Z Z Z (fun w' hw'=>Zf aX Z)<|aw Z Z Z Z Z (fun w' hw'=>Zf eI Z)<|aw Z Z Z Z Z (fun w' hw'=>j6 1 [J (co.clock),J (co.next),J (co.wait),.slice co.A co.txs.length co.cap] av Z Z ((H.later hw').ent (i:=2) Z) Z)<|aw Z Z Z Z Z (fun w' hw'=>Zf eT Z)<|aw Z Z Z Z Z (fun w' hw'=>aW ak Z (aB ((H.later hw').ent (i:=1) Z) Z))<|ta (gv:=(fun cs=> .tuple #[.agg cs,J (ij co.a a.n).2])) vN Z Z Z Z Z (fun w' hw'=>hw'.size) (fun w' hw'=>C1 co a.n k w' (Hp.coM (H.later hw') hco) hcb hk hn.1) Z fun cs16=>aw Z Z Z Z Z (fun w' hw'=>Yu Z)<|aw Z Z Z Z Z (fun w' hw'=>Xa Z Z)<|aw Z Z Z Z Z (fun w' hw'=>Xi Z Z)<|aV ?_
 intro w6 hw' hF
 obtain⟨hF,c3,eq,hac3,hrd16⟩:=hF;cases eq
 replace H:=H.learn hw' (xM w0 w2.heap.size w6.heap.size c3) ⟨H.size,hrd16⟩ (ao _) (ao _)
 clear hw' hF
 refine de 11 N Z<|eP H cM Z fun w7 b5 H=>U<|de 12 N Z<|bo H 0 (#[J (c3.clock),J (c3.next),J (c3.wait),.slice c3.A c3.txs.length c3.cap]) aF Z Z Z Z Z N N fun w8 H=>U<|bz 13 N N N Z Z Z Z Nq (fun _=>Wi Z)<|cF N ?_
 exact⟨(c3,b5,_,_),⟨hac3,H⟩,li Z Z,Qg⟩
 rintro⟨c3,b5,lo,hi⟩ ρ1 w9 ⟨hac3,H⟩
 show CW _ _ _ _ (dH (gZ _ _ ρ1) [(5,.pointer (Qd b5)),(6,J (ij co.a a.n).2)]) w9
 refine W<|W<|Zr<|G (Yi Z)<|G (bZ Z Z I)<|U<|ZF Z<|Zk<|W ?_
 refine eN (τ:=Gr×Nat×Nat×Nat) [6,7,23,24,25,26,27,28,29,30,31,32,33,34,35,36,37,38,39] (fun(_,b7,_,_)=>[(7,.pointer (Qd b7)),(6,J 0)]) (fun(g3,b7,lo2,hi2) w'=>g3.a=((p7 gr.a a.n ps.length,(0:Int))).1/\Hp w0 w' ((b7,.cells #[J (g3.clock),J (g3.wait),J (g3.gen),.slice g3.mA g3.ms.length g3.mC,.slice g3.oA g3.os.length g3.oC] cO (0,0))::(b5,.cells #[J (c3.clock),J (c3.next),J (c3.wait),.slice c3.A c3.txs.length c3.cap] bi (0,0))::(b4,.cells #[J (0),J (0),.slice none 0 0] eg (0,0))::(b3,.cells #[J (a.kind),.string (a.name),J (a.part),J (a.n),J (a.m),.string (a.text),J (a.lost)] gj (0,0))::(bb,.cells #[.slice (Qd gP) ps.length pC,J (co.clock),J (co.next),J (co.wait),.slice co.A co.txs.length co.cap,J (gr.clock),J (gr.wait),J (gr.gen),.slice gr.mA gr.ms.length gr.mC,.slice gr.oA gr.os.length gr.oC,.slice snA sns.length snC] bK (0,0))::(gP,.cells uP bF (0,0))::(Ls++(Lo++K))) (KS w0 lo2 hi2 g3::xM w0 lo hi c3::F)) ?_ ?_
 refine oP cd 17 13 [13,14,15,16,18,19] [17] [0,1,2,3,5,7,8,9,10,12] [17,18,19] [13] [0,1,2,3,5,7,8,9,10,12,14,15,16] (sp [(17,Sp.blk w9.heap.size (.agg #[J 0,J 0,J 0,.slice none 0 0,.slice none 0 0]) cO)]) (sp [(13,Sp.deep w9.heap.size Rc (fun g:Gr=>g.c.toArray) (fun cs=> .tuple #[.agg cs,J ((p7 gr.a a.n ps.length,(0:Int))).2]) (fun cq:Gr=>cq.a=((p7 gr.a a.n ps.length,(0:Int))).1))]) N N N N (cI _) (cI _) ?_ ?_
 refine jH [0,1,2,3,4,5,6,7,8,9,10,11,12,17] [13,14,15,16,18,19] [17] [0,1,2,3,5,7,8,9,10,12] 5 (sp [(17,Sp.blk w9.heap.size (.agg #[J 0,J 0,J 0,.slice none 0 0,.slice none 0 0]) cO)]) N N N Nq<|aw Z Z Z Z Z (fun w' hw'=>Yp Z)<|aw Z Z Z Z Z (fun w' hw'=>aJ Z)<|aw Z Z Z Z Z (fun w' hw'=>Zf aX Z)<|aw Z Z Z Z Z (fun w' hw'=>Zf jF Z)<|aw Z Z Z Z Z (fun w' hw'=>j6 5 [J (gr.clock),J (gr.wait),J (gr.gen),.slice gr.mA gr.ms.length gr.mC,.slice gr.oA gr.os.length gr.oC] aQ Z Z ((H.later hw').ent (i:=3) Z) Z)<|aw Z Z Z Z Z (fun w' hw'=>Zf eT Z)<|aw Z Z Z Z Z (fun w' hw'=>aW ak Z (aB ((H.later hw').ent (i:=2) Z) Z))<|aw Z Z Z Z Z (fun w' hw'=>Yp Z)<|aw Z Z Z Z Z (fun w' hw'=>aJ Z)<|aw Z Z Z Z Z (fun w' hw'=>Zf aX Z)<|aw Z Z Z Z Z (fun w' hw'=>Zf dJ Z)<|aw Z Z Z Z Z (fun w' hw'=>aW ex Z (aB ((H.later hw').ent (i:=3) Z) Z))<|aw Z Z Z Z Z (fun w' hw'=>br l6 Z)<|xG d8 Z Z Z Z Z (fun w' hw'=>hw'.size) fun b7=>aV ?_
 intro w10 hw' hF
 obtain⟨hF,bq,eq,hge7,hbl7⟩:=hF;cases eq
 replace H:=H.adoptNew hw' hbl7 hge7
 clear hw' hF
 refine de 13 N Z<|ch vM (Gq gr a.n ps.length _ (Hp.grM H (aj _ hgr)) hgi.ok hp4 (by have:=hgi.gen;omega) hn.1 hn.2 (by have:=hgi.clock;omega)) Z Z ?_
 rintro _ w11 ⟨g3,rfl,hag3,hng3⟩;replace H:=H.learn hng3.2 (KS w0 w10.heap.size w11.heap.size g3) ⟨H.size,hng3.1⟩ (ao _) (ao _);clear hng3
 refine U<|bz 14 N N N Z Z Z Z Nq (fun _=>Yu Z)<|bz 15 N N N Z Z Z Z Nq (fun _=>Xa Z Z)<|bz 16 N N N Z Z Z Z Nq (fun _=>Xi Z Z)<|de 18 N Z<|bo H 0 (#[J (g3.clock),J (g3.wait),J (g3.gen),.slice g3.mA g3.ms.length g3.mC,.slice g3.oA g3.os.length g3.oC]) bD Z Z Z Z Z N N fun w12 H=>U<|bz 19 N N N Z Z Z Z Nq (fun _=>Wi Z)<|cF N ?_
 exact⟨(g3,b7,_,_),⟨hag3,H⟩,li Z Z,Qg⟩
 refine jH [0,1,2,3,4,5,6,7,8,9,10,11,12,13,14,15,16] [17,18,19] [13] [0,1,2,3,5,7,8,9,10,12,14,15,16] 2 (sp [(13,Sp.deep w9.heap.size Rc (fun g:Gr=>g.c.toArray) (fun cs=> .tuple #[.agg cs,J ((p7 gr.a a.n ps.length,(0:Int))).2]) (fun cq:Gr=>cq.a=((p7 gr.a a.n ps.length,(0:Int))).1))]) N N N Nq<|aw Z Z Z Z Z (fun w' hw'=>Yp Z)<|aw Z Z Z Z Z (fun w' hw'=>aJ Z)<|aw Z Z Z Z Z (fun w' hw'=>Zf aX Z)<|aw Z Z Z Z Z (fun w' hw'=>Zf jF Z)<|aw Z Z Z Z Z (fun w' hw'=>j6 5 [J (gr.clock),J (gr.wait),J (gr.gen),.slice gr.mA gr.ms.length gr.mC,.slice gr.oA gr.os.length gr.oC] aQ Z Z ((H.later hw').ent (i:=3) Z) Z)<|aw Z Z Z Z Z (fun w' hw'=>Zf eT Z)<|aw Z Z Z Z Z (fun w' hw'=>aW ak Z (aB ((H.later hw').ent (i:=2) Z) Z))<|aw Z Z Z Z Z (fun w' hw'=>Yp Z)<|aw Z Z Z Z Z (fun w' hw'=>aJ Z)<|aw Z Z Z Z Z (fun w' hw'=>Zf aX Z)<|aw Z Z Z Z Z (fun w' hw'=>Zf dJ Z)<|aw Z Z Z Z Z (fun w' hw'=>aW ex Z (aB ((H.later hw').ent (i:=3) Z) Z))<|aw Z Z Z Z Z (fun w' hw'=>br l6 Z)<|ta (gv:=(fun cs=> .tuple #[.agg cs,J ((p7 gr.a a.n ps.length,(0:Int))).2])) vM Z Z Z Z Z (fun w' hw'=>hw'.size) (fun w' hw'=>Gq gr a.n ps.length w' (Hp.grM (H.later hw') (aj _ hgr)) hgi.ok hp4 (by have:=hgi.gen;omega) hn.1 hn.2 (by have:=hgi.clock;omega)) Z fun cs37=>aw Z Z Z Z Z (fun w' hw'=>Yu Z)<|aw Z Z Z Z Z (fun w' hw'=>Xa Z Z)<|aw Z Z Z Z Z (fun w' hw'=>Xi Z Z)<|aV ?_
 intro w13 hw' hF
 obtain⟨hF,g3,eq,hag3,hrd37⟩:=hF;cases eq
 replace H:=H.learn hw' (KS w0 w9.heap.size w13.heap.size g3) ⟨H.size,hrd37⟩ (ao _) (ao _)
 clear hw' hF
 refine de 17 N Z<|eP H d8 Z fun w14 b7 H=>U<|de 18 N Z<|bo H 0 (#[J (g3.clock),J (g3.wait),J (g3.gen),.slice g3.mA g3.ms.length g3.mC,.slice g3.oA g3.os.length g3.oC]) bD Z Z Z Z Z N N fun w15 H=>U<|bz 19 N N N Z Z Z Z Nq (fun _=>Wi Z)<|cF N ?_
 exact⟨(g3,b7,_,_),⟨hag3,H⟩,li Z Z,Qg⟩
 rintro⟨g3,b7,lo2,hi2⟩ ρ1 w16 ⟨hag3,H⟩
 show CW _ _ _ _ (dH (gZ _ _ ρ1) [(7,.pointer (Qd b7)),(6,J 0)]) w16
 refine W<|W<|Zr<|G (Yi Z)<|G (bZ Z Z (by decide))<|U<|ZF Z<|Zk<|W ?_
 refine pW cd (fun w'=>w'.heap[b5]? =some (.cells #[J (c3.clock),J (c3.next),J (c3.wait),.slice c3.A c3.txs.length c3.cap] bi (0,0))/\w'.heap[b7]? =some (.cells #[J (g3.clock),J (g3.wait),J (g3.gen),.slice g3.mA g3.ms.length g3.mC,.slice g3.oA g3.os.length g3.oC] cO (0,0))) ?_
 intro w17 hw';replace H:=H.later hw';clear hw'
 refine bh 0 N N N Z Z Z Z Nq ⟨H.ent (i:=1) Z,H.ent (i:=0) Z⟩ (fun _ hS=>Yp Z)<|bh 1 N N N Z Z Z Z Nq ⟨H.ent (i:=1) Z,H.ent (i:=0) Z⟩ (fun _ hS=>Yp Z)<|bh 2 N N N Z Z Z Z Nq ⟨H.ent (i:=1) Z,H.ent (i:=0) Z⟩ (fun _ hS=>jL av Z hS.1 Z)<|bh 3 N N N Z Z Z Z Nq ⟨H.ent (i:=1) Z,H.ent (i:=0) Z⟩ (fun _ hS=>jL aQ Z hS.2 Z)<|bh 4 N N N Z Z Z Z Nq ⟨H.ent (i:=1) Z,H.ent (i:=0) Z⟩ (fun _ hS=>aJ Z)<|bh 5 N N N Z Z Z Z Nq ⟨H.ent (i:=1) Z,H.ent (i:=0) Z⟩ (fun _ hS=>Zf aX Z)<|bh 6 N N N Z Z Z Z Nq ⟨H.ent (i:=1) Z,H.ent (i:=0) Z⟩ (fun _ hS=>Zf eI Z)<|wK 7 N Z<|bo H 4 (#[.slice (Qd gP) ps.length pC,J (c3.clock),J (c3.next),J (c3.wait),.slice c3.A c3.txs.length c3.cap,J (gr.clock),J (gr.wait),J (gr.gen),.slice gr.mA gr.ms.length gr.mC,.slice gr.oA gr.os.length gr.oC,.slice snA sns.length snC]) aF Z Z Z Z Z N N fun w18 H=>U ?_
 refine⟨⟨H.ent (i:=1) Z,H.ent (i:=0) Z⟩,?_⟩
 refine bh 8 N N N Z Z Z Z Nq ⟨H.ent (i:=1) Z,H.ent (i:=0) Z⟩ (fun _ hS=>aJ Z)<|bh 9 N N N Z Z Z Z Nq ⟨H.ent (i:=1) Z,H.ent (i:=0) Z⟩ (fun _ hS=>Zf aX Z)<|bh 10 N N N Z Z Z Z Nq ⟨H.ent (i:=1) Z,H.ent (i:=0) Z⟩ (fun _ hS=>Zf jF Z)<|wK 11 N Z<|bo H 4 (#[.slice (Qd gP) ps.length pC,J (c3.clock),J (c3.next),J (c3.wait),.slice c3.A c3.txs.length c3.cap,J (g3.clock),J (g3.wait),J (g3.gen),.slice g3.mA g3.ms.length g3.mC,.slice g3.oA g3.os.length g3.oC,.slice snA sns.length snC]) bD Z Z Z Z Z N N fun w19 H=>U ?_
 refine⟨⟨H.ent (i:=1) Z,H.ent (i:=0) Z⟩,?_⟩
 refine ny N<|W<|Zr<|G (Zf kB Z)<|G (Zd ak H 1 Z Z Z)<|G (bg (cs:= #[J (0),J (c3.clock),.slice none 0 0]) iQ dr N)<|bo H 2 (#[J (0),J (c3.clock),.slice none 0 0]) aP Z Z Z Z Z N N fun w20 H=>U<|Zt ?_
 have hck:c3.clock=(ij co.a a.n).1.clock:=by rw[<-hac3];rfl
 exact eS (cs0:= #[J (0),J (c3.clock),.slice none 0 0]) Z aN Z (H.ent (i:=2) Z) Z ⟨⟨ps,some ⟨gP,0,none⟩,pC,c3,lo,hi,g3,lo2,hi2,sns,snA,snC⟩,by rw[hsp,<-hck];exact pb.plain _ _ _,by rw[hsp,<-hac3];unfold Bk.a;rw[hag3],Bw.shut (X:=[(b7,_),(b5,_),(b4,_),(b3,_)]) row hsn hown (aj _ (az ..)) (az ..) (fun q hq=>aj _ (aj _ (hps q hq))) (fun f hf=>aj _ (aj _ hf)) H Z⟩
theorem LL {w:Wa} {a:Act} {p:fD} (hp:w.ps[a.part.toNat]? =some p):rT w a=if(jo p a).2.2=0 then({w with ps:=w.ps.set a.part.toNat (jo p a).1},⟨0,(jo p a).2.1,[]⟩)else lJ w (jo p a).2.2:=by
 unfold rT
 rw[hp]
theorem LK {w0 w:World} {bb:Nat} {b:Bk} {gP:Nat} {uP:Array Value} {Ls Lo K:List (Nat×Obj)} {F:List cB} (a:Act) (B:Bw w0 w bb b gP uP Ls Lo K F) (hpn:0<=a.part/\a.part<b.ps.length) (hn:0<=a.n/\ ∀ q∈b.ps,a.n<q.p.reps.length) (hm:0<=a.m/\a.m<=1000) (hpk: ∀ q∈b.ps,q.p.a.ok):dh aa lp [.pointer (Qd bb),a.v] w fun v w2=> ∃ b':Bk,pb (rT b.a a).2 v w2/\b'.a=(rT b.a a).1/\xN w0 w2 bb b' K F:=by
 refine aE qI Z Z ?_
 obtain⟨n,hna⟩: ∃ n:Nat,a.part=(n:Int):=⟨a.part.toNat,by omega⟩
 have htn:a.part.toNat=n:=by omega
 obtain⟨r,hnr⟩: ∃ r:Nat,a.n=(r:Int):=⟨a.n.toNat,by omega⟩
 have htr:a.n.toNat=r:=by omega
 obtain⟨mm,hmm⟩: ∃ r:Nat,a.m=(r:Int):=⟨a.m.toNat,by omega⟩
 have htm:a.m.toNat=mm:=by omega
 obtain⟨q,hq⟩: ∃ q,b.ps[n]? =some q:=⟨_,ah I⟩
 have hqm:=ab hq
 have hok:=hpk q hqm
 have hr:r<q.p.reps.length:=by have:=hn.2 q hqm;omega
 have hsp:=LL (w:=b.a) (a:=a) (p:=q.p.a) (by rw[htn];show(b.ps.map fun q=>q.p.a)[n]? =_;rw[aL,hq];rfl)
 obtain⟨z,hz⟩: ∃ z,jo q.p.a a=z:=⟨_,rfl⟩
 obtain⟨ps,pA,pC,co,clo,chi,gr,glo,ghi,sns,snA,snC⟩:=b
 obtain⟨hpA,row,hsn,hown,hco,hgr,hps,H⟩:=B
 dsimp only at hpA row hsn hown hco hgr hps
 subst hpA
 replace H:Hp w0 w ((bb,.cells #[.slice (Qd gP) ps.length pC,J (co.clock),J (co.next),J (co.wait),.slice co.A co.txs.length co.cap,J (gr.clock),J (gr.wait),J (gr.gen),.slice gr.mA gr.ms.length gr.mC,.slice gr.oA gr.os.length gr.oC,.slice snA sns.length snC] bK (0,0))::(gP,.cells uP bF (0,0))::(Ls++(Lo++K))) F:=H
 dsimp only at hpn hq hqm
 show CW _ _ _ _ (args [.pointer (Qd bb),.agg #[J (a.kind),.string (a.name),J (a.part),J (a.n),J (a.m),.string (a.text),J (a.lost)]]) w
 refine W<|Zr<|f7 H Z Z fun w1 b3 H=>eP H dr Z fun w2 b4 H=>U<|W<|W<|Zr<|G (Yp Z)<|G (Zf dT Z)<|G (Zd ak H 1 Z Z Z)<|ch d4 (ot bb ⟨ps,some ⟨gP,0,none⟩,pC,co,clo,chi,gr,glo,ghi,sns,snA,snC⟩ a.part _ (H.ent (i:=2) Z)) Z Z ?_
 rintro _ w3 ⟨rfl,hb⟩;replace H:=H.later hb;clear hb
 rw[decide_eq_true hpn]
 refine G (dM Z)<|U<|ZF Z<|Zk<|W ?_
 refine bA cd [0,1,2,3,4,5,6,7,8,9] [10] [9] [0,1,2,3,5,7] (sp [(9,Sp.blk w3.heap.size (.agg #[J 0,J 0,.slice none 0 0,.slice none 0 0,.slice none 0 0,J 0,J 0]) bF)]) N N N N Nq (cI _) ?_
 refine aw Z Z Z Z Z (fun w' hw'=>Yp Z)<|aw Z Z Z Z Z (fun w' hw'=>aJ Z)<|aw Z Z Z Z Z (fun w' hw'=>Zf aX Z)<|aw Z Z Z Z Z (fun w' hw'=>Zf dJ Z)<|aw Z Z Z Z Z (fun w' hw'=>aW ex Z (aB ((H.later hw').ent (i:=2) Z) Z))<|aw Z Z Z Z Z (fun w' hw'=>Zf dT Z)<|aw Z Z Z Z Z (fun w' hw'=>aW ak Z (aB ((H.later hw').ent (i:=1) Z) Z))<|aw Z Z Z Z Z (fun w' hw'=>cG (k:=n) iz Z (congrArg (Value.int .i64) hna) (by first|omega|(simp only[ae];omega)))<|aw Z Z Z Z Z (fun w' hw'=>pe aH row hq Z Z ((H.later hw').ent (i:=3) Z))<|xG bv Z Z Z Z Z (fun w' hw'=>hw'.size) fun b5=>aV ?_
 intro w4 hw' hF
 obtain⟨hF,bq,eq,hge5,hbl5⟩:=hF;cases eq
 have Hb:=H
 replace H:=H.adoptNew hw' hbl5 hge5
 clear hw' hF
 refine bo H 0 (#[J (q.p.epoch),J (q.p.leader),.slice q.p.iA q.p.isr.length q.p.iC,.slice q.p.kA q.p.known.length q.p.kC,.slice q.p.rA q.p.reps.length q.p.rC,J (q.p.few),J (q.p.base)]) aK Z Z Z Z Z N N fun w5 H=>U<|W<|Zr<|G (Wi Z)<|U<|W<|Zr<|G (Wi Z)<|U<|W<|W<|Zr<|G (Zf mW Z)<|G (Zd ak H 2 Z Z Z)<|U ?_
 refine eN (τ:=Pa×Nat×Nat) [6,7,25,26,27,28,29,30,31,32,33,34,35,36,37,38,39,40,41,42,43,44,45,46,47,48,49,50,51,52,53,54,55,56,57,58,59,60,61,62,63,64,65,66,67,68,69,70,71,72,73,74,75,76,77,78,79,80,81,82,83,84,85,86,87,88,89,90,91,92,93,94,95,96,97] (fun _=>[(6,J z.2.1),(7,J z.2.2)]) (fun(p2,lo,hi) w'=>p2.a=z.1/\Hp w0 w' ((b5,.cells #[J (p2.epoch),J (p2.leader),.slice p2.iA p2.isr.length p2.iC,.slice p2.kA p2.known.length p2.kC,.slice p2.rA p2.reps.length p2.rC,J (p2.few),J (p2.base)] bF (0,0))::(b4,.cells #[J (0),J (0),.slice none 0 0] eg (0,0))::(b3,.cells #[J (a.kind),.string (a.name),J (a.part),J (a.n),J (a.m),.string (a.text),J (a.lost)] gj (0,0))::(bb,.cells #[.slice (Qd gP) ps.length pC,J (co.clock),J (co.next),J (co.wait),.slice co.A co.txs.length co.cap,J (gr.clock),J (gr.wait),J (gr.gen),.slice gr.mA gr.ms.length gr.mC,.slice gr.oA gr.os.length gr.oC,.slice snA sns.length snC] bK (0,0))::(gP,.cells uP bF (0,0))::(Ls++(Lo++K))) (tI w0 lo hi p2::F)) ?_ ?_
 refine Zb<|W<|Zr ?_
 refine cW (bn Z Z) Z Z Z (fun h33=> ?_) (fun h33=> ?_)
 refine G (Wb Z)<|U<|ZT Z<|Zr<|G (Zw aH H 0 Z Z Z)<|G (Zf eT Z)<|G (Zd ak H 2 Z Z Z)<|ch CJ ((by have hA:=JU q.p r _ (Hp.paM H (hps q hqm)) hok hr;rw[<-hnr]at hA;exact hA)) Z Z ?_
 rintro _ w6 ⟨p2,rfl,hap2,hnp2⟩;replace H:=H.learn hnp2.2 (tI w0 w5.heap.size w6.heap.size p2) ⟨H.size,hnp2.1⟩ (ao _) (ao _);clear hnp2
 refine G (Yu Z)<|G (Xa Z Z)<|G (Xi Z Z)<|G (Xi Z Z)<|bo H 0 (#[J (p2.epoch),J (p2.leader),.slice p2.iA p2.isr.length p2.iC,.slice p2.kA p2.known.length p2.kC,.slice p2.rA p2.reps.length p2.rC,J (p2.few),J (p2.base)]) aK Z Z Z Z Z N N fun w7 H=>G (Wi Z)<|G (Wi Z)<|U ?_
 obtain rfl:z=jc q.p.a r:=by rw[<-hz];unfold jo;rw[if_pos h33,htr]
 exact⟨(p2,_,_),⟨hap2,H⟩,li Z Z,Qg⟩
 refine G (Wb Z)<|U<|ZF Z<|W<|Zr ?_
 refine cW (bn Z Z) Z Z Z (fun h43=> ?_) (fun h43=> ?_)
 refine G (Wb Z)<|U<|ZT Z<|Zr<|G (Zw aH H 0 Z Z Z)<|G (Zf eT Z)<|G (Zd ak H 2 Z Z Z)<|ch EW ((by have hA:=L0 q.p r _ (Hp.paM H (hps q hqm)) hok hr;rw[<-hnr]at hA;exact hA)) Z Z ?_
 rintro _ w8 ⟨p2,rfl,hap2,hnp2⟩;replace H:=H.learn hnp2.2 (tI w0 w5.heap.size w8.heap.size p2) ⟨H.size,hnp2.1⟩ (ao _) (ao _);clear hnp2
 refine G (Yu Z)<|G (Xa Z Z)<|G (Xi Z Z)<|bo H 0 (#[J (p2.epoch),J (p2.leader),.slice p2.iA p2.isr.length p2.iC,.slice p2.kA p2.known.length p2.kC,.slice p2.rA p2.reps.length p2.rC,J (p2.few),J (p2.base)]) aK Z Z Z Z Z N N fun w9 H=>G (Wi Z)<|U ?_
 obtain rfl:z=((oh q.p.a r).1,0,(oh q.p.a r).2):=by rw[<-hz];unfold jo;rw[if_neg h33,if_pos h43,htr]
 exact⟨(p2,_,_),⟨hap2,H⟩,li Z Z,Qg⟩
 refine G (Wb Z)<|U<|ZF Z<|W<|Zr ?_
 refine cW (bn Z Z) Z Z Z (fun h52=> ?_) (fun h52=> ?_)
 refine G (Wb Z)<|U<|ZT Z<|Zr<|G (Zw aH H 0 Z Z Z)<|G (Zf eT Z)<|G (Zd ak H 2 Z Z Z)<|G (Zf GH Z)<|G (Zd ak H 2 Z Z Z)<|ch CL ((by have hA:=JW q.p r mm _ (Hp.paM H (hps q hqm)) hok hr I;rw[<-hnr,<-hmm]at hA;exact hA)) Z Z ?_
 rintro _ w10 ⟨p2,rfl,hap2,hnp2⟩;replace H:=H.learn hnp2.2 (tI w0 w5.heap.size w10.heap.size p2) ⟨H.size,hnp2.1⟩ (ao _) (ao _);clear hnp2
 refine G (Yu Z)<|G (Xa Z Z)<|G (Xi Z Z)<|bo H 0 (#[J (p2.epoch),J (p2.leader),.slice p2.iA p2.isr.length p2.iC,.slice p2.kA p2.known.length p2.kC,.slice p2.rA p2.reps.length p2.rC,J (p2.few),J (p2.base)]) aK Z Z Z Z Z N N fun w11 H=>G (Wi Z)<|U ?_
 obtain rfl:z=((kE q.p.a r mm).1,0,(kE q.p.a r mm).2):=by rw[<-hz];unfold jo;rw[if_neg h33,if_neg h43,if_pos h52,htr,htm]
 exact⟨(p2,_,_),⟨hap2,H⟩,li Z Z,Qg⟩
 refine G (Wb Z)<|U<|ZF Z<|W<|Zr ?_
 refine cW (bn Z Z) Z Z Z (fun h63=> ?_) (fun h63=> ?_)
 refine G (Wb Z)<|U<|ZT Z<|Zr<|G (Zw aH H 0 Z Z Z)<|G (Zf eT Z)<|G (Zd ak H 2 Z Z Z)<|ch EX ((by have hA:=L7 q.p r _ (Hp.paM H (hps q hqm)) hok hr;rw[<-hnr]at hA;exact hA)) Z Z ?_
 rintro _ w12 ⟨p2,rfl,hap2,hnp2⟩;replace H:=H.learn hnp2.2 (tI w0 w5.heap.size w12.heap.size p2) ⟨H.size,hnp2.1⟩ (ao _) (ao _);clear hnp2
 refine G (Yu Z)<|G (Xa Z Z)<|G (Xi Z Z)<|bo H 0 (#[J (p2.epoch),J (p2.leader),.slice p2.iA p2.isr.length p2.iC,.slice p2.kA p2.known.length p2.kC,.slice p2.rA p2.reps.length p2.rC,J (p2.few),J (p2.base)]) aK Z Z Z Z Z N N fun w13 H=>G (Wi Z)<|U ?_
 obtain rfl:z=((p9 q.p.a r).1,0,(p9 q.p.a r).2):=by rw[<-hz];unfold jo;rw[if_neg h33,if_neg h43,if_neg h52,if_pos h63,htr]
 exact⟨(p2,_,_),⟨hap2,H⟩,li Z Z,Qg⟩
 refine G (Wb Z)<|U<|ZF Z<|W<|Zr ?_
 refine cW (bn Z Z) Z Z Z (fun h72=> ?_) (fun h72=> ?_)
 refine G (Wb Z)<|U<|ZT Z<|Zr<|G (Zw aH H 0 Z Z Z)<|G (Zf eT Z)<|G (Zd ak H 2 Z Z Z)<|ch EV ((by have hA:=LZ q.p r _ (Hp.paM H (hps q hqm)) hok hr;rw[<-hnr]at hA;exact hA)) Z Z ?_
 rintro _ w14 ⟨p2,rfl,hap2,hnp2⟩;replace H:=H.learn hnp2.2 (tI w0 w5.heap.size w14.heap.size p2) ⟨H.size,hnp2.1⟩ (ao _) (ao _);clear hnp2
 refine G (Yu Z)<|G (Xa Z Z)<|G (Xi Z Z)<|bo H 0 (#[J (p2.epoch),J (p2.leader),.slice p2.iA p2.isr.length p2.iC,.slice p2.kA p2.known.length p2.kC,.slice p2.rA p2.reps.length p2.rC,J (p2.few),J (p2.base)]) aK Z Z Z Z Z N N fun w15 H=>G (Wi Z)<|U ?_
 obtain rfl:z=((oe q.p.a r).1,0,(oe q.p.a r).2):=by rw[<-hz];unfold jo;rw[if_neg h33,if_neg h43,if_neg h52,if_neg h63,if_pos h72,htr]
 exact⟨(p2,_,_),⟨hap2,H⟩,li Z Z,Qg⟩
 refine G (Wb Z)<|U<|ZF Z<|W<|Zr ?_
 refine cW (bn Z Z) Z Z Z (fun h81=> ?_) (fun h81=> ?_)
 refine G (Wb Z)<|U<|ZT Z<|Zr<|G (Zw aH H 0 Z Z Z)<|G (Zf eT Z)<|G (Zd ak H 2 Z Z Z)<|ch CK ((by have hA:=JV q.p r _ (Hp.paM H (hps q hqm)) hok hr;rw[<-hnr]at hA;exact hA)) Z Z ?_
 rintro _ w16 ⟨p2,rfl,hap2,hnp2⟩;replace H:=H.learn hnp2.2 (tI w0 w5.heap.size w16.heap.size p2) ⟨H.size,hnp2.1⟩ (ao _) (ao _);clear hnp2
 refine G (Yu Z)<|G (Xa Z Z)<|G (Xi Z Z)<|bo H 0 (#[J (p2.epoch),J (p2.leader),.slice p2.iA p2.isr.length p2.iC,.slice p2.kA p2.known.length p2.kC,.slice p2.rA p2.reps.length p2.rC,J (p2.few),J (p2.base)]) aK Z Z Z Z Z N N fun w17 H=>G (Wi Z)<|U ?_
 obtain rfl:z=((fU q.p.a r).1,0,(fU q.p.a r).2):=by rw[<-hz];unfold jo;rw[if_neg h33,if_neg h43,if_neg h52,if_neg h63,if_neg h72,if_pos h81,htr]
 exact⟨(p2,_,_),⟨hap2,H⟩,li Z Z,Qg⟩
 refine G (Wb Z)<|U<|ZF Z<|W<|Zr ?_
 refine cW (bn Z Z) Z Z Z (fun h90=> ?_) (fun h90=> ?_)
 refine G (Wb Z)<|U<|ZT Z<|Zr<|G (Zw aH H 0 Z Z Z)<|G (Zf eT Z)<|G (Zd ak H 2 Z Z Z)<|ch BL ((by have hA:=Hy q.p r _ (Hp.paM H (hps q hqm)) hok hr;rw[<-hnr]at hA;exact hA)) Z Z ?_
 rintro _ w18 ⟨p2,rfl,hap2,hnp2⟩;replace H:=H.learn hnp2.2 (tI w0 w5.heap.size w18.heap.size p2) ⟨H.size,hnp2.1⟩ (ao _) (ao _);clear hnp2
 refine G (Yu Z)<|G (Xa Z Z)<|G (Xi Z Z)<|bo H 0 (#[J (p2.epoch),J (p2.leader),.slice p2.iA p2.isr.length p2.iC,.slice p2.kA p2.known.length p2.kC,.slice p2.rA p2.reps.length p2.rC,J (p2.few),J (p2.base)]) aK Z Z Z Z Z N N fun w19 H=>G (Wi Z)<|U ?_
 obtain rfl:z=((hZ q.p.a r).1,0,(hZ q.p.a r).2):=by rw[<-hz];unfold jo;rw[if_neg h33,if_neg h43,if_neg h52,if_neg h63,if_neg h72,if_neg h81,if_pos h90,htr]
 exact⟨(p2,_,_),⟨hap2,H⟩,li Z Z,Qg⟩
 refine G (Wb Z)<|U<|ZF Z<|Zr<|G (Zw aH H 0 Z Z Z)<|G (Zf eT Z)<|G (Zd ak H 2 Z Z Z)<|ch BM ((by have hA:=HA q.p r _ (Hp.paM H (hps q hqm)) hok hr;rw[<-hnr]at hA;exact hA)) Z Z ?_
 rintro _ w20 ⟨p2,rfl,hap2,hnp2⟩;replace H:=H.learn hnp2.2 (tI w0 w5.heap.size w20.heap.size p2) ⟨H.size,hnp2.1⟩ (ao _) (ao _);clear hnp2
 refine G (Yu Z)<|G (Xa Z Z)<|G (Xi Z Z)<|bo H 0 (#[J (p2.epoch),J (p2.leader),.slice p2.iA p2.isr.length p2.iC,.slice p2.kA p2.known.length p2.kC,.slice p2.rA p2.reps.length p2.rC,J (p2.few),J (p2.base)]) aK Z Z Z Z Z N N fun w21 H=>G (Wi Z)<|U ?_
 obtain rfl:z=((fT q.p.a r).1,0,(fT q.p.a r).2):=by rw[<-hz];unfold jo;rw[if_neg h33,if_neg h43,if_neg h52,if_neg h63,if_neg h72,if_neg h81,if_neg h90,htr]
 exact⟨(p2,_,_),⟨hap2,H⟩,li Z Z,Qg⟩
 rintro⟨p2,lo,hi⟩ ρ1 w22 ⟨hap2,H⟩
 show CW _ _ _ _ (dH (gZ _ _ ρ1) [(6,J z.2.1),(7,J z.2.2)]) w22
 refine W<|W<|Zr<|G (Yi Z) ?_
 refine ro (jh Z Z) Z Z Z (fun h99=> ?_) (fun h99=> ?_)
 refine U<|ZT Z<|W<|Zr<|G (Yi Z)<|ch bM (dR z.2.2 _) Z Z ?_
 rintro _ w23 ⟨rfl,hb⟩;replace H:=H.later hb;clear hb
 refine bo H 1 (#[J (z.2.2),J (0),.slice none 0 0]) aP Z Z Z Z Z N N fun w24 H=>U<|Zt ?_
 exact eS (cs0:= #[J (z.2.2),J (0),.slice none 0 0]) Z aN Z (H.ent (i:=1) Z) Z ⟨⟨ps,some ⟨gP,0,none⟩,pC,co,clo,chi,gr,glo,ghi,sns,snA,snC⟩,by rw[hsp,hz,if_neg h99];exact pb.plain _ _ _,by rw[hsp,hz,if_neg h99];rfl,Bw.shut (X:=[(b5,_),(b4,_),(b3,_)]) row hsn hown (aj _ hco) (aj _ hgr) (fun q hq=>aj _ (hps q hq)) (fun f hf=>aj _ hf) H Z⟩
 refine U<|ZF Z<|Zk<|W ?_
 refine bA cd [0,1,2,3,4,5,6,7,8] [9] [] [0,1,2,3,5,8] (sp []) N N N N Nq (cI _) ?_
 refine aw Z Z Z Z Z (fun w' hw'=>Yp Z)<|aw Z Z Z Z Z (fun w' hw'=>aJ Z)<|aw Z Z Z Z Z (fun w' hw'=>Zf aX Z)<|aw Z Z Z Z Z (fun w' hw'=>Zf dJ Z)<|aw Z Z Z Z Z (fun w' hw'=>aW ex Z (aB ((H.later hw').ent (i:=3) Z) Z))<|aw Z Z Z Z Z (fun w' hw'=>Zf dT Z)<|aw Z Z Z Z Z (fun w' hw'=>aW ak Z (aB ((H.later hw').ent (i:=2) Z) Z))<|aw Z Z Z Z Z (fun w' hw'=>jL aH Z ((H.later hw').ent (i:=0) Z) Z)<|aw Z Z Z Z Z (fun w' hw'=>cG (k:=n) iz Z (congrArg (Value.int .i64) hna) (by first|omega|(simp only[ae];omega)))<|aV ?_
 intro w25 hw' hF
 replace H:=H.later hw';clear hw' hF
 refine k9 H 4 (⟨p2,lo,hi⟩) aK row hq 0 Z Z Z Z Z Z N fun w27 cur26 row26 H=> ?_
 have hs28:(ps.set n (⟨p2,lo,hi⟩))[n]? =some (⟨p2,lo,hi⟩):=al (cC hq).1
 refine U<|W<|Zr<|G (Yi Z)<|G (bg (cs:= #[J (0),J (z.2.1),.slice none 0 0]) iQ dr N)<|bo H 1 (#[J (0),J (z.2.1),.slice none 0 0]) aP Z Z Z Z Z N N fun w29 H=>U<|Zt ?_
 have hz0:z.2.2=0:=by simpa using h99
 exact eS (cs0:= #[J (0),J (z.2.1),.slice none 0 0]) Z aN Z (H.ent (i:=1) Z) Z ⟨⟨ps.set n ⟨p2,lo,hi⟩,some ⟨gP,0,none⟩,pC,co,clo,chi,gr,glo,ghi,sns,snA,snC⟩,by rw[hsp,hz,if_pos hz0];exact pb.plain _ _ _,by rw[hsp,hz,if_pos hz0,htn];unfold Bk.a;simp only[cE,hap2],Bw.shut (X:=[(b5,_),(b4,_),(b3,_)]) row26 hsn hown (aj _ hco) (aj _ hgr) (fun y hy=>by rcases AD hy with hy|hy;exact aj _ (hps y hy);rw[hy];exact az ..) (fun f hf=>aj _ hf) H (by simp only[Bk.c,ae])⟩
theorem Ol {b:Bk} {a:Act} {z:Gr×Int} (hz:(if a.kind=16 then tj b.gr.a a.name b.ps.length else if a.kind=18 then xF b.gr.a a.name a.n else sE b.gr.a a.name a.n a.part a.m)=z):AI b.a a=if z.2=0 then({b.a with gr:=z.1},⟨0,z.1.gen,[]⟩)else lJ b.a z.2:=by
 subst hz
 unfold AI HH
 rw[show b.a.ps.length=b.ps.length by show(b.ps.map _).length=_;rw[bJ]]
 rfl
theorem Ok {w0 w:World} {bb:Nat} {b:Bk} {gP:Nat} {uP:Array Value} {Ls Lo K:List (Nat×Obj)} {F:List cB} (a:Act) (B:Bw w0 w bb b gP uP Ls Lo K F) {k np:Nat} {wt:Int} (hk:k<=1000) (h17:a.kind≠17) (hnm:bL a.name=true) (hm:0<=a.m/\a.m<=1000) (hgi:rf (fun _=>True) wt np k b.gr) (hp4:b.ps.length<=4):dh aa l9 [.pointer (Qd bb),a.v] w fun v w2=> ∃ b':Bk,pb (AI b.a a).2 v w2/\b'.a=(AI b.a a).1/\xN w0 w2 bb b' K F:=by
 refine aE rK Z Z ?_
 obtain⟨z,hz⟩: ∃ z,(if a.kind=16 then tj b.gr.a a.name b.ps.length else if a.kind=18 then xF b.gr.a a.name a.n else sE b.gr.a a.name a.n a.part a.m)=z:=⟨_,rfl⟩
 have hsp:=Ol hz
 obtain⟨ps,pA,pC,co,clo,chi,gr,glo,ghi,sns,snA,snC⟩:=b
 obtain⟨hpA,row,hsn,hown,hco,hgr,hps,H⟩:=B
 dsimp only at hpA row hsn hown hco hgr hps
 subst hpA
 replace H:Hp w0 w ((bb,.cells #[.slice (Qd gP) ps.length pC,J (co.clock),J (co.next),J (co.wait),.slice co.A co.txs.length co.cap,J (gr.clock),J (gr.wait),J (gr.gen),.slice gr.mA gr.ms.length gr.mC,.slice gr.oA gr.os.length gr.oC,.slice snA sns.length snC] bK (0,0))::(gP,.cells uP bF (0,0))::(Ls++(Lo++K))) F:=H
 dsimp only at hgi hp4 hz
 show CW _ _ _ _ (args [.pointer (Qd bb),.agg #[J (a.kind),.string (a.name),J (a.part),J (a.n),J (a.m),.string (a.text),J (a.lost)]]) w
 refine W<|Zr<|f7 H Z Z fun w1 b3 H=>eP H dr Z fun w2 b4 H=>U<|W<|Zr<|G (Yp Z)<|G (aJ Z)<|G (Zf aX Z)<|G (Zf jF Z)<|G (j6 5 [J (gr.clock),J (gr.wait),J (gr.gen),.slice gr.mA gr.ms.length gr.mC,.slice gr.oA gr.os.length gr.oC] aQ Z Z (H.ent (i:=2) Z) Z)<|eP H d8 Z fun w3 b5 H=>bo H 0 (#[J (gr.clock),J (gr.wait),J (gr.gen),.slice gr.mA gr.ms.length gr.mC,.slice gr.oA gr.os.length gr.oC]) bD Z Z Z Z Z N N fun w4 H=>U<|W<|Zr<|G (Wi Z)<|U<|W<|W<|Zr<|G (Zf mW Z)<|G (Zd ak H 2 Z Z Z)<|U ?_
 refine eN (τ:=Gr×Nat×Nat) [6,14,15,16,17,18,19,20,21,22,23,24,25,26,27,28,29,30,31,32,33,34,35,36,37,38,39,40,41,42,43,44,45,46,47,48,49,50,51,52,53,54,55,56,57,58,59,60,61,62,63,64,65,66,67] (fun _=>[(6,J z.2)]) (fun(g3,lo,hi) w'=>g3.a=z.1/\Hp w0 w' ((b5,.cells #[J (g3.clock),J (g3.wait),J (g3.gen),.slice g3.mA g3.ms.length g3.mC,.slice g3.oA g3.os.length g3.oC] cO (0,0))::(b4,.cells #[J (0),J (0),.slice none 0 0] eg (0,0))::(b3,.cells #[J (a.kind),.string (a.name),J (a.part),J (a.n),J (a.m),.string (a.text),J (a.lost)] gj (0,0))::(bb,.cells #[.slice (Qd gP) ps.length pC,J (co.clock),J (co.next),J (co.wait),.slice co.A co.txs.length co.cap,J (gr.clock),J (gr.wait),J (gr.gen),.slice gr.mA gr.ms.length gr.mC,.slice gr.oA gr.os.length gr.oC,.slice snA sns.length snC] bK (0,0))::(gP,.cells uP bF (0,0))::(Ls++(Lo++K))) (KS w0 lo hi g3::F)) ?_ ?_
 refine Zb<|W<|Zr ?_
 refine cW (bn Z Z) Z Z Z (fun h28=> ?_) (fun h28=> ?_)
 refine G (Wb Z)<|U<|ZT Z ?_
 refine bA cd [0,1,2,3,4,5,6,7,8,9,10,11,12] [13,14] [9] [1,3,4,5,6,8,10,11,12] (sp [(9,Sp.deep w4.heap.size Rc (fun g:Gr=>g.c.toArray) (fun cs=> .tuple #[.agg cs,J (tj gr.a a.name ps.length).2]) (fun cq:Gr=>cq.a=(tj gr.a a.name ps.length).1))]) N N N N Nq (cI _) ?_
 refine aw Z Z Z Z Z (fun w' hw'=>jL aQ Z ((H.later hw').ent (i:=0) Z) Z)<|aw Z Z Z Z Z (fun w' hw'=>Zf fh Z)<|aw Z Z Z Z Z (fun w' hw'=>aW bd Z (aB ((H.later hw').ent (i:=2) Z) Z))<|aw Z Z Z Z Z (fun w' hw'=>Yp Z)<|aw Z Z Z Z Z (fun w' hw'=>aJ Z)<|aw Z Z Z Z Z (fun w' hw'=>Zf aX Z)<|aw Z Z Z Z Z (fun w' hw'=>Zf dJ Z)<|aw Z Z Z Z Z (fun w' hw'=>aW ex Z (aB ((H.later hw').ent (i:=3) Z) Z))<|aw Z Z Z Z Z (fun w' hw'=>br l6 Z)<|ta (gv:=(fun cs=> .tuple #[.agg cs,J (tj gr.a a.name ps.length).2])) CM Z Z Z Z Z (fun w' hw'=>hw'.size) (fun w' hw'=>J9 gr a.name ps.length w' (Hp.grM (H.later hw') hgr) hgi.ok hnm hp4 (by have:=hgi.gen;omega)) Z fun cs39=>aw Z Z Z Z Z (fun w' hw'=>Yu Z)<|aw Z Z Z Z Z (fun w' hw'=>Xa Z Z)<|aw Z Z Z Z Z (fun w' hw'=>Xi Z Z)<|aV ?_
 intro w5 hw' hF
 obtain⟨hF,g3,eq,hag3,hrd39⟩:=hF;cases eq
 replace H:=H.learn hw' (KS w0 w4.heap.size w5.heap.size g3) ⟨H.size,hrd39⟩ (ao _) (ao _)
 clear hw' hF
 refine bo H 0 (#[J (g3.clock),J (g3.wait),J (g3.gen),.slice g3.mA g3.ms.length g3.mC,.slice g3.oA g3.os.length g3.oC]) bD Z Z Z Z Z N N fun w6 H=>G (Wi Z)<|U ?_
 obtain rfl:z=tj gr.a a.name ps.length:=by rw[<-hz,if_pos h28]
 exact⟨(g3,_,_),⟨hag3,H⟩,dP Z,Qg⟩
 refine G (Wb Z)<|U<|ZF Z<|W<|Zr<|G (nS Z Z h17)<|G (Wb Z)<|U<|ZF Z<|W<|Zr ?_
 refine cW (bn Z Z) Z Z Z (fun h58=> ?_) (fun h58=> ?_)
 refine G (Wb Z)<|U<|ZT Z<|Zr<|G (Zw aQ H 0 Z Z Z)<|G (Zf fh Z)<|G (Zd bd H 2 Z Z Z)<|G (Zf eT Z)<|G (Zd ak H 2 Z Z Z)<|ch CN (KG gr a.name a.n _ (Hp.grM H hgr) hgi.ok hnm) Z Z ?_
 rintro _ w7 ⟨g3,rfl,hag3,hng3⟩;replace H:=H.learn hng3.2 (KS w0 w4.heap.size w7.heap.size g3) ⟨H.size,hng3.1⟩ (ao _) (ao _);clear hng3
 refine G (Yu Z)<|G (Xa Z Z)<|G (Xi Z Z)<|bo H 0 (#[J (g3.clock),J (g3.wait),J (g3.gen),.slice g3.mA g3.ms.length g3.mC,.slice g3.oA g3.os.length g3.oC]) bD Z Z Z Z Z N N fun w8 H=>G (Wi Z)<|U ?_
 obtain rfl:z=xF gr.a a.name a.n:=by rw[<-hz,if_neg h28,if_pos h58]
 exact⟨(g3,_,_),⟨hag3,H⟩,dP Z,Qg⟩
 refine G (Wb Z)<|U<|ZF Z<|Zr<|G (Zw aQ H 0 Z Z Z)<|G (Zf fh Z)<|G (Zd bd H 2 Z Z Z)<|G (Zf eT Z)<|G (Zd ak H 2 Z Z Z)<|G (Zf dT Z)<|G (Zd ak H 2 Z Z Z)<|G (Zf GH Z)<|G (Zd ak H 2 Z Z Z)<|ch BN (Hi gr a.name a.n a.part a.m _ (Hp.grM H hgr) hgi.ok hnm hm.1) Z Z ?_
 rintro _ w9 ⟨g3,rfl,hag3,hng3⟩;replace H:=H.learn hng3.2 (KS w0 w4.heap.size w9.heap.size g3) ⟨H.size,hng3.1⟩ (ao _) (ao _);clear hng3
 refine G (Yu Z)<|G (Xa Z Z)<|G (Xi Z Z)<|bo H 0 (#[J (g3.clock),J (g3.wait),J (g3.gen),.slice g3.mA g3.ms.length g3.mC,.slice g3.oA g3.os.length g3.oC]) bD Z Z Z Z Z N N fun w10 H=>G (Wi Z)<|U ?_
 obtain rfl:z=sE gr.a a.name a.n a.part a.m:=by rw[<-hz,if_neg h28,if_neg h58]
 exact⟨(g3,_,_),⟨hag3,H⟩,dP Z,Qg⟩
 rintro⟨g3,lo,hi⟩ ρ1 w11 ⟨hag3,H⟩
 show CW _ _ _ _ (dH (gZ _ _ ρ1) [(6,J z.2)]) w11
 refine W<|W<|Zr<|G (Yi Z) ?_
 refine ro (jh Z Z) Z Z Z (fun h69=> ?_) (fun h69=> ?_)
 refine U<|ZT Z<|W<|Zr<|G (Yi Z)<|ch bM (dR z.2 _) Z Z ?_
 rintro _ w12 ⟨rfl,hb⟩;replace H:=H.later hb;clear hb
 refine bo H 1 (#[J (z.2),J (0),.slice none 0 0]) aP Z Z Z Z Z N N fun w13 H=>U<|Zt ?_
 exact eS (cs0:= #[J (z.2),J (0),.slice none 0 0]) Z aN Z (H.ent (i:=1) Z) Z ⟨⟨ps,some ⟨gP,0,none⟩,pC,co,clo,chi,gr,glo,ghi,sns,snA,snC⟩,by rw[hsp,if_neg h69];exact pb.plain _ _ _,by rw[hsp,if_neg h69];rfl,Bw.shut (X:=[(b5,_),(b4,_),(b3,_)]) row hsn hown (aj _ hco) (aj _ hgr) (fun q hq=>aj _ (hps q hq)) (fun f hf=>aj _ hf) H Z⟩
 refine U<|ZF Z<|Zk<|W<|Zr<|G (Yp Z)<|G (Zw aQ H 0 Z Z Z)<|G (aJ Z)<|G (Zf aX Z)<|G (Zf jF Z)<|bo H 3 (#[.slice (Qd gP) ps.length pC,J (co.clock),J (co.next),J (co.wait),.slice co.A co.txs.length co.cap,J (g3.clock),J (g3.wait),J (g3.gen),.slice g3.mA g3.ms.length g3.mC,.slice g3.oA g3.os.length g3.oC,.slice snA sns.length snC]) bD Z Z Z Z Z N N fun w14 H=>U<|W<|Zr<|G (Zf kw Z)<|G (Zd ak H 0 Z Z Z)<|G (bg (cs:= #[J (0),J (g3.gen),.slice none 0 0]) iQ dr N)<|bo H 1 (#[J (0),J (g3.gen),.slice none 0 0]) aP Z Z Z Z Z N N fun w15 H=>U<|Zt ?_
 have hz0:z.2=0:=by simpa using h69
 have hgn:z.1.gen=g3.gen:=by rw[<-hag3];rfl
 exact eS (cs0:= #[J (0),J (g3.gen),.slice none 0 0]) Z aN Z (H.ent (i:=1) Z) Z ⟨⟨ps,some ⟨gP,0,none⟩,pC,co,clo,chi,g3,lo,hi,sns,snA,snC⟩,by rw[hsp,if_pos hz0,hgn];exact pb.plain _ _ _,by rw[hsp,if_pos hz0,<-hag3];rfl,Bw.shut (X:=[(b5,_),(b4,_),(b3,_)]) row hsn hown (aj _ hco) (az ..) (fun q hq=>aj _ (hps q hq)) (fun f hf=>aj _ hf) H Z⟩
theorem xN.nil {w0 w:World} {bb:Nat} {b:Bk} {K:List (Nat×Obj)} {F:List cB} (h:xN w0 w bb b K F) (A:Option Addr):xN w0 w bb b K (dU nz 0 0 A []::F):=by
 obtain⟨gP,uP,Ls,Lo,F',B,hF⟩:=h
 exact⟨gP,uP,Ls,Lo,dU nz 0 0 A []::F',⟨B.pA,B.row,B.sn,B.own,aj _ B.co,aj _ B.gr,fun q hq=>aj _ (B.ps q hq),B.H.learnNil 0 (bG _) A⟩,fun f hf=>by
  rcases ax.1 hf with rfl|hf
  exact az ..
  exact aj _ (hF f hf)⟩
theorem CV {g:Gr} (h:lM g=true) (s:ByteArray) (p:Int):0<=(eR g s p).1:=by
 unfold eR
 split
 exact fj 0
 split
 show 0<=tL g.os p
 unfold tL
 split
 rename_i o ho
 exact((dy.1 h).2.2.1 o (List.mem_of_find?_eq_some ho)).2.2.1
 exact fj 0
 exact fj 0
theorem N4 {w0 w:World} {bb:Nat} {b:Bk} {gP:Nat} {uP:Array Value} {Ls Lo K:List (Nat×Obj)} {F:List cB} (a:Act) (B:Bw w0 w bb b gP uP Ls Lo K F) (hnm:bL a.name=true) (hpn:0<=a.part/\a.part<b.ps.length) {k np:Nat} {wt:Int} (hgi:rf (fun _=>True) wt np k b.gr) (hw:(eR b.gr.a a.name a.part).2≠0):dh aa gD [.pointer (Qd bb),a.v] w fun v w2=> ∃ (x:An) (A:Option Addr) (c lo hi:Nat),rb b.a a x/\v=.agg #[J x.code,J x.n,.slice A x.texts.length c]/\x.texts.length<=c/\xN w0 w2 bb b K (dU nz lo hi A x.texts::F):=by
 refine aE iG Z Z ?_
 have hP:rb b.a a _:=.no hw
 obtain⟨ps,pA,pC,co,clo,chi,gr,glo,ghi,sns,snA,snC⟩:=b
 obtain⟨hpA,row,hsn,hown,hco,hgr,hps,H⟩:=B
 dsimp only at hpA row hsn hown hco hgr hps
 subst hpA
 replace H:Hp w0 w ((bb,.cells #[.slice (Qd gP) ps.length pC,J (co.clock),J (co.next),J (co.wait),.slice co.A co.txs.length co.cap,J (gr.clock),J (gr.wait),J (gr.gen),.slice gr.mA gr.ms.length gr.mC,.slice gr.oA gr.os.length gr.oC,.slice snA sns.length snC] bK (0,0))::(gP,.cells uP bF (0,0))::(Ls++(Lo++K))) F:=H
 dsimp only at hpn hgi hw
 show CW _ _ _ _ (args [.pointer (Qd bb),.agg #[J (a.kind),.string (a.name),J (a.part),J (a.n),J (a.m),.string (a.text),J (a.lost)]]) w
 refine W<|Zr<|f7 H Z Z fun w1 b3 H=>eP H dr Z fun w2 b4 H=>U<|W<|W<|Zr<|G (Yp Z)<|G (Zf dT Z)<|G (Zd ak H 1 Z Z Z)<|ch d4 (ot bb ⟨ps,some ⟨gP,0,none⟩,pC,co,clo,chi,gr,glo,ghi,sns,snA,snC⟩ a.part _ (H.ent (i:=2) Z)) Z Z ?_
 rintro _ w3 ⟨rfl,hb⟩;replace H:=H.later hb;clear hb
 rw[decide_eq_true hpn]
 refine G (dM Z)<|U<|ZF Z<|Zk<|W ?_
 refine bA cd [0,1,2,3,4,5,6,7,8,9,10,11,12,13,14] [] [9] [0,1,2,3,5,7,10,11,12,13,14] (sp [(9,Sp.one (.tuple #[J (eR gr.a a.name a.part).1,J (eR gr.a a.name a.part).2]))]) N N N N Nq (cI _) ?_
 refine aw Z Z Z Z Z (fun w' hw'=>Yp Z)<|aw Z Z Z Z Z (fun w' hw'=>aJ Z)<|aw Z Z Z Z Z (fun w' hw'=>Zf aX Z)<|aw Z Z Z Z Z (fun w' hw'=>Zf jF Z)<|aw Z Z Z Z Z (fun w' hw'=>j6 5 [J (gr.clock),J (gr.wait),J (gr.gen),.slice gr.mA gr.ms.length gr.mC,.slice gr.oA gr.os.length gr.oC] aQ Z Z ((H.later hw').ent (i:=2) Z) Z)<|aw Z Z Z Z Z (fun w' hw'=>Zf fh Z)<|aw Z Z Z Z Z (fun w' hw'=>aW bd Z (aB ((H.later hw').ent (i:=1) Z) Z))<|aw Z Z Z Z Z (fun w' hw'=>Zf dT Z)<|aw Z Z Z Z Z (fun w' hw'=>aW ak Z (aB ((H.later hw').ent (i:=1) Z) Z))<|ic m0 Z Z Z Z Z (fun w' hw'=>sB gr a.name a.part w' (Hp.grM (H.later hw') hgr) hgi.ok hnm) Z<|aw Z Z Z Z Z (fun w' hw'=>Yu Z)<|aw Z Z Z Z Z (fun w' hw'=>Xi Z Z)<|aw Z Z Z Z Z (fun w' hw'=>Xi Z Z)<|aw Z Z Z Z Z (fun w' hw'=>Wi Z)<|aw Z Z Z Z Z (fun w' hw'=>Wi Z)<|aV ?_
 intro w4 hw' hF
 replace H:=H.later hw';clear hw' hF
 refine U<|W<|W<|Zr<|G (Yi Z)<|G (kh Z Z hw)<|U<|ZT Z<|W<|Zr<|G (Yi Z)<|ch bM (dR (eR gr.a a.name a.part).2 _) Z Z ?_
 rintro _ w5 ⟨rfl,hb⟩;replace H:=H.later hb;clear hb
 refine bo H 0 (#[J ((eR gr.a a.name a.part).2),J (0),.slice none 0 0]) aP Z Z Z Z Z N N fun w6 H=>U<|Zt ?_
 exact eS (cs0:= #[J ((eR gr.a a.name a.part).2),J (0),.slice none 0 0]) Z aN Z (H.ent (i:=0) Z) Z ⟨_,none,0,0,0,hP,rfl,ao _,xN.nil (Bw.shut (X:=[(b4,_),(b3,_)]) row hsn hown hco hgr hps (fun _ h=>h) H Z) none⟩
theorem JQ {w0 w:World} {bb:Nat} {b:Bk} {gP:Nat} {uP:Array Value} {Ls Lo K:List (Nat×Obj)} {F:List cB} (a:Act) (B:Bw w0 w bb b gP uP Ls Lo K F) (hnm:bL a.name=true) (hpn:0<=a.part/\a.part<b.ps.length) (hn:1<=a.n/\a.n<=20) {k np:Nat} {wt:Int} (hgi:rf (fun _=>True) wt np k b.gr) (hpk: ∀ q∈b.ps,q.p.a.ok) (hw:(eR b.gr.a a.name a.part).2=0) (hl: ∀ q,b.ps[a.part.toNat]? =some q->q.p.leader<0):dh aa gD [.pointer (Qd bb),a.v] w fun v w2=> ∃ (x:An) (A:Option Addr) (c lo hi:Nat),rb b.a a x/\v=.agg #[J x.code,J x.n,.slice A x.texts.length c]/\x.texts.length<=c/\xN w0 w2 bb b K (dU nz lo hi A x.texts::F):=by
 refine aE iG Z Z ?_
 obtain⟨n,hna⟩: ∃ n:Nat,a.part=(n:Int):=⟨a.part.toNat,by omega⟩
 have htn:a.part.toNat=n:=by omega
 obtain⟨m,hnm2⟩: ∃ m:Nat,a.n=(m:Int):=⟨a.n.toNat,by omega⟩
 have htm:a.n.toNat=m:=by omega
 obtain⟨q,hq⟩: ∃ q,b.ps[n]? =some q:=⟨_,ah I⟩
 have hqm:=ab hq
 have hok:=hpk q hqm
 have hqa:b.a.ps[a.part.toNat]? =some q.p.a:=by rw[htn];show(b.ps.map fun q=>q.p.a)[n]? =_;rw[aL,hq];rfl
 have hlq:=hl q (by rw[htn];exact hq)
 have hP:rb b.a a _:=.yes q.p.a _ hw hqa (.none hlq)
 obtain⟨ps,pA,pC,co,clo,chi,gr,glo,ghi,sns,snA,snC⟩:=b
 obtain⟨hpA,row,hsn,hown,hco,hgr,hps,H⟩:=B
 dsimp only at hpA row hsn hown hco hgr hps
 subst hpA
 replace H:Hp w0 w ((bb,.cells #[.slice (Qd gP) ps.length pC,J (co.clock),J (co.next),J (co.wait),.slice co.A co.txs.length co.cap,J (gr.clock),J (gr.wait),J (gr.gen),.slice gr.mA gr.ms.length gr.mC,.slice gr.oA gr.os.length gr.oC,.slice snA sns.length snC] bK (0,0))::(gP,.cells uP bF (0,0))::(Ls++(Lo++K))) F:=H
 dsimp only at hpn hgi hw hq hqm
 show CW _ _ _ _ (args [.pointer (Qd bb),.agg #[J (a.kind),.string (a.name),J (a.part),J (a.n),J (a.m),.string (a.text),J (a.lost)]]) w
 refine W<|Zr<|f7 H Z Z fun w1 b3 H=>eP H dr Z fun w2 b4 H=>U<|W<|W<|Zr<|G (Yp Z)<|G (Zf dT Z)<|G (Zd ak H 1 Z Z Z)<|ch d4 (ot bb ⟨ps,some ⟨gP,0,none⟩,pC,co,clo,chi,gr,glo,ghi,sns,snA,snC⟩ a.part _ (H.ent (i:=2) Z)) Z Z ?_
 rintro _ w3 ⟨rfl,hb⟩;replace H:=H.later hb;clear hb
 rw[decide_eq_true hpn]
 refine G (dM Z)<|U<|ZF Z<|Zk<|W ?_
 refine bA cd [0,1,2,3,4,5,6,7,8,9,10,11,12,13,14] [] [9] [0,1,2,3,5,7,10,11,12,13,14] (sp [(9,Sp.one (.tuple #[J (eR gr.a a.name a.part).1,J (eR gr.a a.name a.part).2]))]) N N N N Nq (cI _) ?_
 refine aw Z Z Z Z Z (fun w' hw'=>Yp Z)<|aw Z Z Z Z Z (fun w' hw'=>aJ Z)<|aw Z Z Z Z Z (fun w' hw'=>Zf aX Z)<|aw Z Z Z Z Z (fun w' hw'=>Zf jF Z)<|aw Z Z Z Z Z (fun w' hw'=>j6 5 [J (gr.clock),J (gr.wait),J (gr.gen),.slice gr.mA gr.ms.length gr.mC,.slice gr.oA gr.os.length gr.oC] aQ Z Z ((H.later hw').ent (i:=2) Z) Z)<|aw Z Z Z Z Z (fun w' hw'=>Zf fh Z)<|aw Z Z Z Z Z (fun w' hw'=>aW bd Z (aB ((H.later hw').ent (i:=1) Z) Z))<|aw Z Z Z Z Z (fun w' hw'=>Zf dT Z)<|aw Z Z Z Z Z (fun w' hw'=>aW ak Z (aB ((H.later hw').ent (i:=1) Z) Z))<|ic m0 Z Z Z Z Z (fun w' hw'=>sB gr a.name a.part w' (Hp.grM (H.later hw') hgr) hgi.ok hnm) Z<|aw Z Z Z Z Z (fun w' hw'=>Yu Z)<|aw Z Z Z Z Z (fun w' hw'=>Xi Z Z)<|aw Z Z Z Z Z (fun w' hw'=>Xi Z Z)<|aw Z Z Z Z Z (fun w' hw'=>Wi Z)<|aw Z Z Z Z Z (fun w' hw'=>Wi Z)<|aV ?_
 intro w4 hw' hF
 replace H:=H.later hw';clear hw' hF
 refine U<|W<|W<|Zr<|G (Yi Z)<|G (bZ Z Z I)<|U<|ZF Z<|Zk<|W ?_
 refine Ir cd [12,13,14,15,16,17,18,19] [] [0,1,2,3,5,7,9,10]<|jH [0,1,2,3,4,5,6,7,8,9,10,11] [12,13,14,15,16,17,18,19] [] [0,1,2,3,5,7,9,10] 7 _ N N N Nq<|aw Z Z Z Z Z (fun w' hw'=>Yp Z)<|aw Z Z Z Z Z (fun w' hw'=>aJ Z)<|aw Z Z Z Z Z (fun w' hw'=>Zf aX Z)<|aw Z Z Z Z Z (fun w' hw'=>Zf dJ Z)<|aw Z Z Z Z Z (fun w' hw'=>aW ex Z (aB ((H.later hw').ent (i:=2) Z) Z))<|aw Z Z Z Z Z (fun w' hw'=>Zf dT Z)<|aw Z Z Z Z Z (fun w' hw'=>aW ak Z (aB ((H.later hw').ent (i:=1) Z) Z))<|aw Z Z Z Z Z (fun w' hw'=>cG (k:=n) iz Z (congrArg (Value.int .i64) hna) (by first|omega|(simp only[ae];omega)))<|aw Z Z Z Z Z (fun w' hw'=>pe aH row hq Z Z ((H.later hw').ent (i:=3) Z))<|aw Z Z Z Z Z (fun w' hw'=>Yi Z)<|aw Z Z Z Z Z (fun w' hw'=>Zf eT Z)<|aw Z Z Z Z Z (fun w' hw'=>aW ak Z (aB ((H.later hw').ent (i:=1) Z) Z))<|aV ?_
 intro w5 hw' _;replace H:=H.later hw';clear hw'
 refine de 12 N Z<|ch s7 (Hz q.p (eR gr.a a.name a.part).1 a.n _ (Hp.paM H (hps q hqm)) hok hlq) Z Z ?_
 rintro _ w6 ⟨rfl,hb⟩;replace H:=H.later hb;clear hb
 refine U<|bz 13 N N N Z Z Z Z Nq (fun _=>Yu Z)<|bz 14 N N N Z Z Z Z Nq (fun _=>Xs Z Z)<|bz 15 N N N Z Z Z Z Nq (fun _=>Xi Z Z)<|bz 16 N N N Z Z Z Z Nq (fun _=>Xi Z Z)<|bz 17 N N N Z Z Z Z Nq (fun _=>Ws Z)<|bz 18 N N N Z Z Z Z Nq (fun _=>Wi Z)<|bz 19 N N N Z Z Z Z Nq (fun _=>Wi Z)<|cF N<|W<|W<|Zr<|G (Yi Z)<|G (kh Z Z (by decide))<|U<|ZT Z<|W<|Zr<|G (Yi Z)<|ch bM (dR 8 _) Z Z ?_
 rintro _ w7 ⟨rfl,hb⟩;replace H:=H.later hb;clear hb
 refine bo H 0 (#[J (8),J (0),.slice none 0 0]) aP Z Z Z Z Z N N fun w8 H=>U<|Zt ?_
 exact eS (cs0:= #[J (8),J (0),.slice none 0 0]) Z aN Z (H.ent (i:=0) Z) Z ⟨_,none,0,0,0,hP,rfl,ao _,xN.nil (Bw.shut (X:=[(b4,_),(b3,_)]) row hsn hown hco hgr hps (fun _ h=>h) H Z) none⟩
theorem Hv {w0 w:World} {bb:Nat} {b:Bk} {gP:Nat} {uP:Array Value} {Ls Lo K:List (Nat×Obj)} {F:List cB} (a:Act) (B:Bw w0 w bb b gP uP Ls Lo K F) (hnm:bL a.name=true) (hpn:0<=a.part/\a.part<b.ps.length) (hn:1<=a.n/\a.n<=20) {k np:Nat} {wt:Int} (hgi:rf (fun _=>True) wt np k b.gr) (hpk: ∀ q∈b.ps,q.p.a.ok) (hw:(eR b.gr.a a.name a.part).2=0) {l:Nat} {r:fk} (hld: ∀ q,b.ps[a.part.toNat]? =some q->q.p.leader=l/\q.p.reps[l]? =some r) (hr:r.es.length<(eR b.gr.a a.name a.part).1.toNat):dh aa gD [.pointer (Qd bb),a.v] w fun v w2=> ∃ (x:An) (A:Option Addr) (c lo hi:Nat),rb b.a a x/\v=.agg #[J x.code,J x.n,.slice A x.texts.length c]/\x.texts.length<=c/\xN w0 w2 bb b K (dU nz lo hi A x.texts::F):=by
 refine aE iG Z Z ?_
 obtain⟨n,hna⟩: ∃ n:Nat,a.part=(n:Int):=⟨a.part.toNat,by omega⟩
 have htn:a.part.toNat=n:=by omega
 obtain⟨m,hnm2⟩: ∃ m:Nat,a.n=(m:Int):=⟨a.n.toNat,by omega⟩
 have htm:a.n.toNat=m:=by omega
 obtain⟨q,hq⟩: ∃ q,b.ps[n]? =some q:=⟨_,ah I⟩
 have hqm:=ab hq
 have hok:=hpk q hqm
 have hqa:b.a.ps[a.part.toNat]? =some q.p.a:=by rw[htn];show(b.ps.map fun q=>q.p.a)[n]? =_;rw[aL,hq];rfl
 obtain⟨hl1,hl2⟩:=hld q (by rw[htn];exact hq)
 have hra:q.p.a.reps[l]? =some r.a:=by show(q.p.reps.map fk.a)[l]? =_;rw[aL,hl2];rfl
 obtain⟨fr,hfr⟩: ∃ f:Nat,(eR b.gr.a a.name a.part).1=(f:Int):=⟨(eR b.gr.a a.name a.part).1.toNat,by have:=CV (g:=b.gr.a) ((EB _).2 hgi.ok) a.name a.part;omega⟩
 have htf:(eR b.a.gr a.name a.part).1.toNat=fr:=by show(eR b.gr.a a.name a.part).1.toNat=fr;omega
 have hP:rb b.a a _:=.yes q.p.a _ hw hqa (.range l r.a hl1 hra hr)
 obtain⟨ps,pA,pC,co,clo,chi,gr,glo,ghi,sns,snA,snC⟩:=b
 obtain⟨hpA,row,hsn,hown,hco,hgr,hps,H⟩:=B
 dsimp only at hpA row hsn hown hco hgr hps
 subst hpA
 replace H:Hp w0 w ((bb,.cells #[.slice (Qd gP) ps.length pC,J (co.clock),J (co.next),J (co.wait),.slice co.A co.txs.length co.cap,J (gr.clock),J (gr.wait),J (gr.gen),.slice gr.mA gr.ms.length gr.mC,.slice gr.oA gr.os.length gr.oC,.slice snA sns.length snC] bK (0,0))::(gP,.cells uP bF (0,0))::(Ls++(Lo++K))) F:=H
 dsimp only at hpn hgi hw hq hqm hfr hr
 show CW _ _ _ _ (args [.pointer (Qd bb),.agg #[J (a.kind),.string (a.name),J (a.part),J (a.n),J (a.m),.string (a.text),J (a.lost)]]) w
 refine W<|Zr<|f7 H Z Z fun w1 b3 H=>eP H dr Z fun w2 b4 H=>U<|W<|W<|Zr<|G (Yp Z)<|G (Zf dT Z)<|G (Zd ak H 1 Z Z Z)<|ch d4 (ot bb ⟨ps,some ⟨gP,0,none⟩,pC,co,clo,chi,gr,glo,ghi,sns,snA,snC⟩ a.part _ (H.ent (i:=2) Z)) Z Z ?_
 rintro _ w3 ⟨rfl,hb⟩;replace H:=H.later hb;clear hb
 rw[decide_eq_true hpn]
 refine G (dM Z)<|U<|ZF Z<|Zk<|W ?_
 refine bA cd [0,1,2,3,4,5,6,7,8,9,10,11,12,13,14] [] [9] [0,1,2,3,5,7,10,11,12,13,14] (sp [(9,Sp.one (.tuple #[J (eR gr.a a.name a.part).1,J (eR gr.a a.name a.part).2]))]) N N N N Nq (cI _) ?_
 refine aw Z Z Z Z Z (fun w' hw'=>Yp Z)<|aw Z Z Z Z Z (fun w' hw'=>aJ Z)<|aw Z Z Z Z Z (fun w' hw'=>Zf aX Z)<|aw Z Z Z Z Z (fun w' hw'=>Zf jF Z)<|aw Z Z Z Z Z (fun w' hw'=>j6 5 [J (gr.clock),J (gr.wait),J (gr.gen),.slice gr.mA gr.ms.length gr.mC,.slice gr.oA gr.os.length gr.oC] aQ Z Z ((H.later hw').ent (i:=2) Z) Z)<|aw Z Z Z Z Z (fun w' hw'=>Zf fh Z)<|aw Z Z Z Z Z (fun w' hw'=>aW bd Z (aB ((H.later hw').ent (i:=1) Z) Z))<|aw Z Z Z Z Z (fun w' hw'=>Zf dT Z)<|aw Z Z Z Z Z (fun w' hw'=>aW ak Z (aB ((H.later hw').ent (i:=1) Z) Z))<|ic m0 Z Z Z Z Z (fun w' hw'=>sB gr a.name a.part w' (Hp.grM (H.later hw') hgr) hgi.ok hnm) Z<|aw Z Z Z Z Z (fun w' hw'=>Yu Z)<|aw Z Z Z Z Z (fun w' hw'=>Xi Z Z)<|aw Z Z Z Z Z (fun w' hw'=>Xi Z Z)<|aw Z Z Z Z Z (fun w' hw'=>Wi Z)<|aw Z Z Z Z Z (fun w' hw'=>Wi Z)<|aV ?_
 intro w4 hw' hF
 replace H:=H.later hw';clear hw' hF
 refine U<|W<|W<|Zr<|G (Yi Z)<|G (bZ Z Z I)<|U<|ZF Z<|Zk<|W ?_
 refine Ir cd [12,13,14,15,16,17,18,19] [] [0,1,2,3,5,7,9,10]<|jH [0,1,2,3,4,5,6,7,8,9,10,11] [12,13,14,15,16,17,18,19] [] [0,1,2,3,5,7,9,10] 7 _ N N N Nq<|aw Z Z Z Z Z (fun w' hw'=>Yp Z)<|aw Z Z Z Z Z (fun w' hw'=>aJ Z)<|aw Z Z Z Z Z (fun w' hw'=>Zf aX Z)<|aw Z Z Z Z Z (fun w' hw'=>Zf dJ Z)<|aw Z Z Z Z Z (fun w' hw'=>aW ex Z (aB ((H.later hw').ent (i:=2) Z) Z))<|aw Z Z Z Z Z (fun w' hw'=>Zf dT Z)<|aw Z Z Z Z Z (fun w' hw'=>aW ak Z (aB ((H.later hw').ent (i:=1) Z) Z))<|aw Z Z Z Z Z (fun w' hw'=>cG (k:=n) iz Z (congrArg (Value.int .i64) hna) (by first|omega|(simp only[ae];omega)))<|aw Z Z Z Z Z (fun w' hw'=>pe aH row hq Z Z ((H.later hw').ent (i:=3) Z))<|aw Z Z Z Z Z (fun w' hw'=>Yi Z)<|aw Z Z Z Z Z (fun w' hw'=>Zf eT Z)<|aw Z Z Z Z Z (fun w' hw'=>aW ak Z (aB ((H.later hw').ent (i:=1) Z) Z))<|aV ?_
 intro w5 hw' _;replace H:=H.later hw';clear hw'
 refine de 12 N Z<|ch s7 ((by have hA:=FN q.p fr m l r _ (Hp.paM H (hps q hqm)) hok hl1 hl2 I;rw[<-hfr,<-hnm2]at hA;exact hA)) Z Z ?_
 rintro _ w6 ⟨rfl,hb⟩;replace H:=H.later hb;clear hb
 refine U<|bz 13 N N N Z Z Z Z Nq (fun _=>Yu Z)<|bz 14 N N N Z Z Z Z Nq (fun _=>Xs Z Z)<|bz 15 N N N Z Z Z Z Nq (fun _=>Xi Z Z)<|bz 16 N N N Z Z Z Z Nq (fun _=>Xi Z Z)<|bz 17 N N N Z Z Z Z Nq (fun _=>Ws Z)<|bz 18 N N N Z Z Z Z Nq (fun _=>Wi Z)<|bz 19 N N N Z Z Z Z Nq (fun _=>Wi Z)<|cF N<|W<|W<|Zr<|G (Yi Z)<|G (kh Z Z (by decide))<|U<|ZT Z<|W<|Zr<|G (Yi Z)<|ch bM (dR 2 _) Z Z ?_
 rintro _ w7 ⟨rfl,hb⟩;replace H:=H.later hb;clear hb
 refine bo H 0 (#[J (2),J (0),.slice none 0 0]) aP Z Z Z Z Z N N fun w8 H=>U<|Zt ?_
 exact eS (cs0:= #[J (2),J (0),.slice none 0 0]) Z aN Z (H.ent (i:=0) Z) Z ⟨_,none,0,0,0,hP,rfl,ao _,xN.nil (Bw.shut (X:=[(b4,_),(b3,_)]) row hsn hown hco hgr hps (fun _ h=>h) H Z) none⟩
theorem N3 {w0 w:World} {bb:Nat} {b:Bk} {gP:Nat} {uP:Array Value} {Ls Lo K:List (Nat×Obj)} {F:List cB} (a:Act) (B:Bw w0 w bb b gP uP Ls Lo K F) (hnm:bL a.name=true) (hpn:0<=a.part/\a.part<b.ps.length) (hn:1<=a.n/\a.n<=20) {k np:Nat} {wt:Int} (hgi:rf (fun _=>True) wt np k b.gr) (hpk: ∀ q∈b.ps,q.p.a.ok) (hw:(eR b.gr.a a.name a.part).2=0) {l:Nat} {r:fk} (hld: ∀ q,b.ps[a.part.toNat]? =some q->q.p.leader=l/\q.p.reps[l]? =some r) (hr:(eR b.gr.a a.name a.part).1.toNat<=r.es.length):dh aa gD [.pointer (Qd bb),a.v] w fun v w2=> ∃ (x:An) (A:Option Addr) (c lo hi:Nat),rb b.a a x/\v=.agg #[J x.code,J x.n,.slice A x.texts.length c]/\x.texts.length<=c/\xN w0 w2 bb b K (dU nz lo hi A x.texts::F):=by
 refine aE iG Z Z ?_
 obtain⟨n,hna⟩: ∃ n:Nat,a.part=(n:Int):=⟨a.part.toNat,by omega⟩
 have htn:a.part.toNat=n:=by omega
 obtain⟨m,hnm2⟩: ∃ m:Nat,a.n=(m:Int):=⟨a.n.toNat,by omega⟩
 have htm:a.n.toNat=m:=by omega
 obtain⟨q,hq⟩: ∃ q,b.ps[n]? =some q:=⟨_,ah I⟩
 have hqm:=ab hq
 have hok:=hpk q hqm
 have hqa:b.a.ps[a.part.toNat]? =some q.p.a:=by rw[htn];show(b.ps.map fun q=>q.p.a)[n]? =_;rw[aL,hq];rfl
 obtain⟨hl1,hl2⟩:=hld q (by rw[htn];exact hq)
 have hra:q.p.a.reps[l]? =some r.a:=by show(q.p.reps.map fk.a)[l]? =_;rw[aL,hl2];rfl
 obtain⟨fr,hfr⟩: ∃ f:Nat,(eR b.gr.a a.name a.part).1=(f:Int):=⟨(eR b.gr.a a.name a.part).1.toNat,by have:=CV (g:=b.gr.a) ((EB _).2 hgi.ok) a.name a.part;omega⟩
 have htf:(eR b.a.gr a.name a.part).1.toNat=fr:=by show(eR b.gr.a a.name a.part).1.toNat=fr;omega
 have hP: ∀ st out bt,t6 (r.es.take r.high.toNat) st->BX r.es r.high.toNat st fr m out bt->rb b.a a ⟨0,(bt:Nat),out⟩:=fun st out bt h1 h2=> .yes q.p.a _ hw hqa (.ok l r.a st out bt hl1 hra (by rw[htf];show fr<=r.es.length;omega) h1 (by rw[htf,htm];exact h2))
 obtain⟨ps,pA,pC,co,clo,chi,gr,glo,ghi,sns,snA,snC⟩:=b
 obtain⟨hpA,row,hsn,hown,hco,hgr,hps,H⟩:=B
 dsimp only at hpA row hsn hown hco hgr hps
 subst hpA
 replace H:Hp w0 w ((bb,.cells #[.slice (Qd gP) ps.length pC,J (co.clock),J (co.next),J (co.wait),.slice co.A co.txs.length co.cap,J (gr.clock),J (gr.wait),J (gr.gen),.slice gr.mA gr.ms.length gr.mC,.slice gr.oA gr.os.length gr.oC,.slice snA sns.length snC] bK (0,0))::(gP,.cells uP bF (0,0))::(Ls++(Lo++K))) F:=H
 dsimp only at hpn hgi hw hq hqm hfr hr hP
 show CW _ _ _ _ (args [.pointer (Qd bb),.agg #[J (a.kind),.string (a.name),J (a.part),J (a.n),J (a.m),.string (a.text),J (a.lost)]]) w
 refine W<|Zr<|f7 H Z Z fun w1 b3 H=>eP H dr Z fun w2 b4 H=>U<|W<|W<|Zr<|G (Yp Z)<|G (Zf dT Z)<|G (Zd ak H 1 Z Z Z)<|ch d4 (ot bb ⟨ps,some ⟨gP,0,none⟩,pC,co,clo,chi,gr,glo,ghi,sns,snA,snC⟩ a.part _ (H.ent (i:=2) Z)) Z Z ?_
 rintro _ w3 ⟨rfl,hb⟩;replace H:=H.later hb;clear hb
 rw[decide_eq_true hpn]
 refine G (dM Z)<|U<|ZF Z<|Zk<|W ?_
 refine bA cd [0,1,2,3,4,5,6,7,8,9,10,11,12,13,14] [] [9] [0,1,2,3,5,7,10,11,12,13,14] (sp [(9,Sp.one (.tuple #[J (eR gr.a a.name a.part).1,J (eR gr.a a.name a.part).2]))]) N N N N Nq (cI _) ?_
 refine aw Z Z Z Z Z (fun w' hw'=>Yp Z)<|aw Z Z Z Z Z (fun w' hw'=>aJ Z)<|aw Z Z Z Z Z (fun w' hw'=>Zf aX Z)<|aw Z Z Z Z Z (fun w' hw'=>Zf jF Z)<|aw Z Z Z Z Z (fun w' hw'=>j6 5 [J (gr.clock),J (gr.wait),J (gr.gen),.slice gr.mA gr.ms.length gr.mC,.slice gr.oA gr.os.length gr.oC] aQ Z Z ((H.later hw').ent (i:=2) Z) Z)<|aw Z Z Z Z Z (fun w' hw'=>Zf fh Z)<|aw Z Z Z Z Z (fun w' hw'=>aW bd Z (aB ((H.later hw').ent (i:=1) Z) Z))<|aw Z Z Z Z Z (fun w' hw'=>Zf dT Z)<|aw Z Z Z Z Z (fun w' hw'=>aW ak Z (aB ((H.later hw').ent (i:=1) Z) Z))<|ic m0 Z Z Z Z Z (fun w' hw'=>sB gr a.name a.part w' (Hp.grM (H.later hw') hgr) hgi.ok hnm) Z<|aw Z Z Z Z Z (fun w' hw'=>Yu Z)<|aw Z Z Z Z Z (fun w' hw'=>Xi Z Z)<|aw Z Z Z Z Z (fun w' hw'=>Xi Z Z)<|aw Z Z Z Z Z (fun w' hw'=>Wi Z)<|aw Z Z Z Z Z (fun w' hw'=>Wi Z)<|aV ?_
 intro w4 hw' hF
 replace H:=H.later hw';clear hw' hF
 refine U<|W<|W<|Zr<|G (Yi Z)<|G (bZ Z Z I)<|U<|ZF Z<|Zk<|W ?_
 refine Ir cd [12,13,14,15,16,17,18,19] [] [0,1,2,3,5,7,9,10]<|jH [0,1,2,3,4,5,6,7,8,9,10,11] [12,13,14,15,16,17,18,19] [] [0,1,2,3,5,7,9,10] 7 _ N N N Nq<|aw Z Z Z Z Z (fun w' hw'=>Yp Z)<|aw Z Z Z Z Z (fun w' hw'=>aJ Z)<|aw Z Z Z Z Z (fun w' hw'=>Zf aX Z)<|aw Z Z Z Z Z (fun w' hw'=>Zf dJ Z)<|aw Z Z Z Z Z (fun w' hw'=>aW ex Z (aB ((H.later hw').ent (i:=2) Z) Z))<|aw Z Z Z Z Z (fun w' hw'=>Zf dT Z)<|aw Z Z Z Z Z (fun w' hw'=>aW ak Z (aB ((H.later hw').ent (i:=1) Z) Z))<|aw Z Z Z Z Z (fun w' hw'=>cG (k:=n) iz Z (congrArg (Value.int .i64) hna) (by first|omega|(simp only[ae];omega)))<|aw Z Z Z Z Z (fun w' hw'=>pe aH row hq Z Z ((H.later hw').ent (i:=3) Z))<|aw Z Z Z Z Z (fun w' hw'=>Yi Z)<|aw Z Z Z Z Z (fun w' hw'=>Zf eT Z)<|aw Z Z Z Z Z (fun w' hw'=>aW ak Z (aB ((H.later hw').ent (i:=1) Z) Z))<|aV ?_
 intro w5 hw' _;replace H:=H.later hw';clear hw'
 refine de 12 N Z<|ch s7 ((by have hA:=Ma q.p fr m l r _ (Hp.paM H (hps q hqm)) hok hl1 hl2 I I I;rw[<-hfr,<-hnm2]at hA;exact hA)) Z Z ?_
 rintro _ w6 ⟨sb,out,bt,A7,c7,hst7,hrd7,rfl,hr7,hc7,hb7⟩;replace H:=H.learnRd hb7 hr7;clear hr7 hb7
 refine U<|bz 13 N N N Z Z Z Z Nq (fun _=>Yu Z)<|bz 14 N N N Z Z Z Z Nq (fun _=>Xs Z Z)<|bz 15 N N N Z Z Z Z Nq (fun _=>Xi Z Z)<|bz 16 N N N Z Z Z Z Nq (fun _=>Xi Z Z)<|bz 17 N N N Z Z Z Z Nq (fun _=>Ws Z)<|bz 18 N N N Z Z Z Z Nq (fun _=>Wi Z)<|bz 19 N N N Z Z Z Z Nq (fun _=>Wi Z)<|cF N<|W<|W<|Zr<|G (Yi Z)<|G (bZ Z Z (by decide))<|U<|ZF Z<|Zk<|W<|Zr<|G (Yi Z)<|G (Ys Z)<|G (bg (cs:= #[J (0),J ((bt:Nat)),.slice A7 out.length c7]) iQ dr N)<|bo H 0 (#[J (0),J ((bt:Nat)),.slice A7 out.length c7]) aP Z Z Z Z Z N N fun w7 H=>U<|Zt ?_
 exact eS (cs0:= #[J (0),J ((bt:Nat)),.slice A7 out.length c7]) Z aN Z (H.ent (i:=0) Z) Z ⟨_,A7,c7,_,_,hP _ _ _ hst7 hrd7,rfl,hc7,Bw.shut (X:=[(b4,_),(b3,_)]) row hsn hown (aj _ hco) (aj _ hgr) (fun q hq=>aj _ (hps q hq)) (fun _ h=>h) H Z⟩
section
/-- what an act yields -/
def BZ (b:Bk) (a:Act) (w0:World) (bb:Nat) (K:List (Nat×Obj)) (F:List cB) (v:Value) (w2:World):Prop:=
 ∃ (b':Bk) (x:An) (A:Option Addr) (c lo hi:Nat),tG b.a a b'.a x/\v=.agg #[J x.code,J x.n,.slice A x.texts.length c]/\x.texts.length<=c/\xN w0 w2 bb b' K (dU nz lo hi A x.texts::F)
theorem uA {b:Bk} {a:Act} {w0 w:World} {bb:Nat} {K:List (Nat×Obj)} {F:List cB} {f:FuncId} {args:List Value} {s:Wa×An} (h19:a.kind≠19) (hs:oV b.a a=s) (ht:s.2.texts=[]) (h:dh aa f args w fun v w2=> ∃ b':Bk,pb s.2 v w2/\b'.a=s.1/\xN w0 w2 bb b' K F):dh aa f args w (BZ b a w0 bb K F):=
 h.mono fun v w2 ⟨b',⟨A,c,h1,h2,_⟩,h4,h5⟩=>⟨b',s.2,A,c,0,0,by rw[h4,<-hs];exact .other h19,h1,h2,by rw[ht];exact h5.nil A⟩
variable {w0 w:World} {bb gP:Nat} {b:Bk} {uP:Array Value} {Ls Lo K:List (Nat×Obj)} {F:List cB} {np nr k:Nat} {few wt:Int} {M:Nat->List cz} {a:Act}
theorem Bw.facts (_:Bw w0 w bb b gP uP Ls Lo K F) (hw:WI np nr few wt k M b.a) (hk:k<400):b.ps.length=np/\b.sns.length<=1000000/\oY k b.co/\rf (fun _=>True) wt np k b.gr/\ ∀ q∈b.ps,q.p.a.ok/\q.p.reps.length=nr/\ ∀ (l:Nat) (y:fk),q.p.leader=l->q.p.reps[l]? =some y->y.es.length<400:=by
 have h1:=hw.ps.len
 have h2:=hw.sns.few
 rw[show b.a.ps=b.ps.map fun q=>q.p.a from rfl,bJ]at h1
 rw[show b.a.sns=b.sns.map Sn.a from rfl,bJ]at h2
 refine⟨h1,by omega,oY.of_a hw.co,rf.of_a hw.gr,fun q hq=> ?_⟩
 obtain⟨n,hn⟩:=aT.1 hq
 have hg:=(hw.ps.gt n q.p.a (by rw[show b.a.ps=b.ps.map fun q=>q.p.a from rfl,aL,hn];rfl)).1
 refine⟨hg.ok,by have:=hg.len;rwa[show q.p.a.reps=q.p.reps.map fk.a from rfl,bJ]at this,fun l y _ hy=> ?_⟩
 have:=hg.small l y.a (by rw[show q.p.a.reps=q.p.reps.map fk.a from rfl,aL,hy];rfl)
 have:y.es.length<=k:=this
 omega
theorem Bw.sender (hw:WI np nr few wt k M b.a) {i:Nat} {x:Sn} (hx:b.sns[i]? =some x):bL x.name=true/\x.seqs.length=np/\x.last.length=np/\ ∀ q∈x.seqs,0<=q/\q<=k:=by
 have h:=hw.sns.each x.a (bS (f:=Sn.a) (ab hx))
 exact⟨h.nm,h.sl,h.ll,h.sq⟩
theorem yX (w:Wa) (a:Act):(mN w a).2.texts=[]:=by unfold mN;split<;>rfl
theorem xE (w:Wa) (a:Act):(kJ w a).2.texts=[]:=by
 unfold kJ
 split
 rfl
 split<;>rfl
theorem yK (w:Wa) (a:Act) (ag:Bool):(jg w a ag).2.texts=[]:=by
 unfold jg
 split
 rfl
 split
 rfl
 dsimp only
 split
 rfl
 exact lI _ (kD ..)
theorem vI (w:Wa) (a:Act):(jE w a).2.texts=[]:=by
 unfold jE
 split
 rfl
 split
 rfl
 split
 rfl
 split<;>exact lI _ Z
theorem yS (w:Wa) (a:Act):(nj w a).2.texts=[]:=by
 unfold nj
 split
 rfl
 split<;>exact Au ..
theorem yN (w:Wa) (a:Act):(rT w a).2.texts=[]:=by
 unfold rT
 split
 rfl
 split<;>rfl
theorem AH (w:Wa) (a:Act):(AI w a).2.texts=[]:=by unfold AI;split<;>rfl
theorem pY (a:Act) (w:Wa):(a.kind=1->oV w a=mN w a)/\(a.kind=2->oV w a=kJ w a)/\(a.kind=3∨a.kind=4->oV w a=jg w a (decide (a.kind=4)))/\(a.kind=5->oV w a=jE w a)/\(a.kind=6->oV w a=nj w a)/\(a.kind=7->oV w a=wO w a)/\(8<=a.kind/\a.kind<=15->oV w a=rT w a)/\(16<=a.kind->oV w a=AI w a):=by
 unfold oV
 refine⟨fun h=> ?_,fun h=> ?_,fun h=> ?_,fun h=> ?_,fun h=> ?_,fun h=> ?_,fun h=> ?_,fun h=> ?_⟩<;>(repeat (first|rw[if_pos I]|rw[if_neg I]))
theorem PP (A B C X K:List (Nat×Obj)):(A++(B++(C++(X++K)))).Perm (X++(A++(B++(C++K)))):=by
 rw[show A++(B++(C++(X++K)))=(A++B++C)++(X++K) by simp,show A++(B++(C++K))=(A++B++C)++K by simp]
 exact gb (A++B++C) X K
theorem Bw.into {w2:World} (B:Bw w0 w bb b gP uP Ls Lo K F) (X:List (Nat×Obj)) (H:Hp w0 w2 (X++((bb,.cells b.c.toArray bK (0,0))::(gP,.cells uP bF (0,0))::(Ls++(Lo++K)))) F):Bw w0 w2 bb b gP uP Ls Lo (X++K) F:=
 ⟨B.pA,B.row,B.sn,B.own,B.co,B.gr,B.ps,H.perm (PP [(bb,_),(gP,_)] Ls Lo X K)⟩
theorem Bw.out {X:List (Nat×Obj)} (B:Bw w0 w bb b gP uP Ls Lo (X++K) F):Hp w0 w (X++((bb,.cells b.c.toArray bK (0,0))::(gP,.cells uP bF (0,0))::(Ls++(Lo++K)))) F:=B.H.perm (PP [(bb,_),(gP,_)] Ls Lo X K).symm
theorem Bw.at_ {w2:World} {K1:List (Nat×Obj)} (B:Bw w0 w bb b gP uP Ls Lo K1 F) (X:List (Nat×Obj)) (H:Hp w0 w2 (X++((bb,.cells b.c.toArray bK (0,0))::(gP,.cells uP bF (0,0))::(Ls++(Lo++K)))) F):Bw w0 w2 bb b gP uP Ls Lo K F:=
 ⟨B.pA,B.row,B.sn,B.own,B.co,B.gr,B.ps,H.forget (cr X _) (fun _ h=>h)⟩
theorem zN {l:List Sn} {s:ByteArray} {i:Nat} (h:eK l s=some i): ∃ x,l[i]? =some x:=by
 obtain⟨x,h1,-⟩:=Hk h
 exact⟨x,h1⟩
theorem ME (B:Bw w0 w bb b gP uP Ls Lo K F) (hw:WI np nr few wt k M b.a) (hk:k<400) (h4:np<=4) (g:qy np nr a) (h1:1<=np) (hkd:a.kind=1):dh aa kk [.pointer (Qd bb),a.v] w (BZ b a w0 bb K F):=by
 obtain⟨hln,hsl,hcb,hgi,hpk⟩:=B.facts hw hk
 refine uA I ((pY a b.a).1 hkd) (yX ..) ?_
 cases hix:eK b.sns a.name with
 |none=>exact Kd a B hsl (g.name (.inl hkd)) hcb I I I hix
 |some i=>
  obtain⟨x,hx⟩:=zN hix
  exact Kc a B hsl (g.name (.inl hkd)) hcb I I I hix hx
theorem KE (B:Bw w0 w bb b gP uP Ls Lo K F) (hw:WI np nr few wt k M b.a) (hk:k<400) (_:np<=4) (_:qy np nr a) (hkd:a.kind=2):dh aa jX [.pointer (Qd bb),a.v] w (BZ b a w0 bb K F):=by
 obtain⟨-,hsl,-⟩:=B.facts hw hk
 refine uA I ((pY a b.a).2.1 hkd) (xE ..) ?_
 cases hix:eK b.sns a.name with
 |none=>exact Ix a B hsl hix
 |some i=>
  obtain⟨x,hx⟩:=zN hix
  exact Iw a B hsl hix hx
theorem FB (B:Bw w0 w bb b gP uP Ls Lo K F) (hw:WI np nr few wt k M b.a) (hk:k<400) (h4:np<=4) (g:qy np nr a) (hkd:a.kind=3∨a.kind=4):dh aa i5 [.pointer (Qd bb),a.v,.bool (decide (a.kind=4))] w (BZ b a w0 bb K F):=by
 obtain⟨hln,hsl,hcb,-,hpk⟩:=B.facts hw hk
 refine uA I ((pY a b.a).2.2.1 hkd) (yK ..) ?_
 have hpn:=g.part
 cases hix:eK b.sns a.name with
 |none=>exact JG a B hsl (decide (a.kind=4)) hix
 |some i=>
  obtain⟨x,hx⟩:=zN hix
  obtain⟨s1,s2,s3,s4⟩:=Bw.sender hw hx
  have hpk2:=fun(q:Pq) hq=>(⟨(hpk q hq).1,(hpk q hq).2.2⟩:q.p.a.ok/\ ∀ (l:Nat) (y:fk),q.p.leader=(l:Int)->q.p.reps[l]? =some y->y.es.length<400)
  by_cases h4k:a.kind=4
  rw[decide_eq_true h4k]
  exact Hn a B hsl hix hx I g.lost I I I s1 hcb hpk2
  rw[decide_eq_false h4k]
  exact LG a B hsl hix hx I g.lost I I I s1 hcb hpk2 g.text (fun q hq=>by have:=s4 q hq;omega)
theorem Bt (B:Bw w0 w bb b gP uP Ls Lo K F) (hw:WI np nr few wt k M b.a) (hk:k<400) (h4:np<=4) (g:qy np nr a) (hkd:a.kind=5):dh aa jD [.pointer (Qd bb),a.v] w (BZ b a w0 bb K F):=by
 obtain⟨-,hsl,hcb,-⟩:=B.facts hw hk
 refine uA I ((pY a b.a).2.2.2.1 hkd) (vI ..) ?_
 cases hix:eK b.sns a.name with
 |none=>exact GD a B hsl hix
 |some i=>
  obtain⟨x,hx⟩:=zN hix
  obtain⟨s1,-,s3,-⟩:=Bw.sender hw hx
  exact GC a B hsl hix hx g.lost ⟨g.n.1,g.fin hkd⟩ I s1 hcb
theorem F4 (B:Bw w0 w bb b gP uP Ls Lo K F) (hw:WI np nr few wt k M b.a) (hk:k<400) (_:np<=4) (g:qy np nr a) (hkd:a.kind=6):dh aa kj [.pointer (Qd bb),a.v] w (BZ b a w0 bb K F):=by
 obtain⟨-,-,hcb,-,hpk⟩:=B.facts hw hk
 refine uA I ((pY a b.a).2.2.2.2.1 hkd) (yS ..) ?_
 have hpk2:=fun(q:Pq) hq=>(⟨(hpk q hq).1,(hpk q hq).2.2⟩:q.p.a.ok/\ ∀ (l:Nat) (y:fk),q.p.leader=(l:Int)->q.p.reps[l]? =some y->y.es.length<400)
 cases hne:ia b.co.a.txs a.n.toNat with
 |none=>exact J4 a B hcb g.n hne
 |some t=>exact J3 a B hcb g.n hpk2 hne
theorem Fl (B:Bw w0 w bb b gP uP Ls Lo K F) (hw:WI np nr few wt k M b.a) (hk:k<400) (h4:np<=4) (g:qy np nr a) (hkd:a.kind=7):dh aa oF [.pointer (Qd bb),a.v] w (BZ b a w0 bb K F):=by
 obtain⟨hln,-,hcb,hgi,-⟩:=B.facts hw hk
 refine uA I ((pY a b.a).2.2.2.2.2.1 hkd) Z ?_
 exact Le a B hcb I g.n hgi I
theorem wT (B:Bw w0 w bb b gP uP Ls Lo K F) (hw:WI np nr few wt k M b.a) (hk:k<400) (_:np<=4) (g:qy np nr a) (hkd:8<=a.kind/\a.kind<=15):dh aa lp [.pointer (Qd bb),a.v] w (BZ b a w0 bb K F):=by
 obtain⟨hln,-,-,-,hpk⟩:=B.facts hw hk
 refine uA I ((pY a b.a).2.2.2.2.2.2.1 hkd) (yN ..) ?_
 have hpn:=g.part
 exact LK a B I ⟨g.n.1,fun q hq=>by have:=g.rep hkd.1 hkd.2;have:=(hpk q hq).2.1;omega⟩ g.m (fun q hq=>(hpk q hq).1)
theorem qQ (B:Bw w0 w bb b gP uP Ls Lo K F) (hw:WI np nr few wt k M b.a) (hk:k<400) (h4:np<=4) (g:qy np nr a) (hkd:a.kind=16∨a.kind=18∨a.kind=20):dh aa l9 [.pointer (Qd bb),a.v] w (BZ b a w0 bb K F):=by
 obtain⟨hln,-,-,hgi,-⟩:=B.facts hw hk
 refine uA I ((pY a b.a).2.2.2.2.2.2.2 I) (AH ..) ?_
 exact Ok a B I I (g.name I) g.m hgi I
theorem oq (B:Bw w0 w bb b gP uP Ls Lo K F) (hw:WI np nr few wt k M b.a) (hk:k<400) (_:np<=4) (g:qy np nr a) (hkd:a.kind=19):dh aa gD [.pointer (Qd bb),a.v] w (BZ b a w0 bb K F):=by
 obtain⟨hln,-,-,hgi,hpk⟩:=B.facts hw hk
 have hpn:=g.part
 have hnm:=g.name I
 have hpo:=fun q hq=>(hpk q hq).1
 have hq: ∃ q,b.ps[a.part.toNat]? =some q:=⟨_,ah I⟩
 obtain⟨q,hq⟩:=hq
 refine dh.mono (R:=fun v w2=> ∃ (x:An) (A:Option Addr) (c lo hi:Nat),rb b.a a x/\v=.agg #[J x.code,J x.n,.slice A x.texts.length c]/\x.texts.length<=c/\xN w0 w2 bb b K (dU nz lo hi A x.texts::F)) ?_ fun v w2 ⟨x,A,c,lo,hi,h1,h2,h3,h4⟩=>⟨b,x,A,c,lo,hi,.poll x hkd h1,h2,h3,h4⟩
 by_cases hw0:(eR b.gr.a a.name a.part).2=0
 have hqok:=(hpk q (ab hq)).1
 by_cases hl:q.p.leader<0
 exact JQ a B hnm I (g.poll hkd) hgi hpo hw0 (fun q' h=>by rw[hq]at h;cases h;exact hl)
 obtain⟨l,hl2⟩: ∃ l:Nat,q.p.leader=l:=⟨q.p.leader.toNat,by omega⟩
 have hld1:q.p.leader<((q.p.reps.map fk.a).length:Nat):=hqok.ld1
 rw[bJ]at hld1
 obtain⟨y,hy⟩: ∃ y,q.p.reps[l]? =some y:=⟨_,ah I⟩
 have hld: ∀ q',b.ps[a.part.toNat]? =some q'->q'.p.leader=l/\q'.p.reps[l]? =some y:=fun q' h=>by rw[hq]at h;cases h;exact⟨hl2,hy⟩
 by_cases hle:(eR b.gr.a a.name a.part).1.toNat<=y.es.length
 exact N3 a B hnm I (g.poll hkd) hgi hpo hw0 hld hle
 exact Hv a B hnm I (g.poll hkd) hgi hpo hw0 hld I
 exact N4 a B hnm I hgi hw0
end
end Go.Proofs.YtclibalpdhhhfaaGreat
