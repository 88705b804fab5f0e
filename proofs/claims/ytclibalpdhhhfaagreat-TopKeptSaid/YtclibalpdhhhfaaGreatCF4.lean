/- Part 4 of the proofs over this seat: what its theorems say holds for every input that they name. -/
import Derived.Test.YtclibalpdhhhfaaGreatCF3
namespace Go.Proofs.YtclibalpdhhhfaaGreat
open Go Go.Eng Go.RowKit
open Go.Eng renaming mD→U, ye→W, JK→Zr, Nz→Zk, PO→Zt, Pd→Zb, Pw→Zx, PX→Yi, PY→Yb, PV→Ys, PW→Yp, PU→Yt, PT→Yu, Qe→Wi, Qf→Wb, Qb→Ws, Qc→Wp, Qa→Wt, P1→Zf, P6→Xi, P8→Xa, P3→Xs, PF→Kt, PG→N, n6→ZT, mP→ZF
open Go.Proofs.Tryz renaming prog→aa
open _root_.List renaming length_set→ab,mem_of_getElem?→ae,getElem?_eq_getElem→ah,mem_cons_of_mem→ak,getElem?_set_self→am,mem_singleton→aq,mem_append→ar,replicate→au,mem_cons→av,length_append→ay,mem_cons_self→aB,append_assoc→aD,length_take→aI,getElem?_map→aJ,mem_iff_getElem?→aU,append_nil→aY,findIdx?_eq_some_iff_getElem→bh,map_append→bj,mem_nil_iff→bo,length_map→bw,mem_map→bz,mem_or_eq_of_mem_set→bH,mem_map_of_mem→bI,length_replicate→bJ,take_length→bL,length_singleton→bQ,eq_nil_of_length_eq_zero→bU,getD_eq_getElem?_getD→bZ,sublist_append_right→ci,getElem?_append_right→cv,map_set→cz,length_cons→cE,getElem?_eq_none→cJ,take_take→di,findIdx?_eq_none_iff→du,getElem?_drop→dO,mem_singleton_self→dZ,pairwise_cons→er,map_cons→eJ,ext_getElem?→eK,set_set→fo,prefix_refl→fp,drop_length→fq,take_append_of_le_length→fA,eq_of_mem_replicate→fF,getElem?_replicate→fV,perm_append_comm_assoc→fY,set_append_right→i9,pairwise_map→jt,mem_filter→kW,getElem?_set→lE,pairwise_append→mb,map_nil→mr,pairwise_iff_getElem→mX,drop_eq_getElem_cons→mY,map_map→sr,getElem_mem→vK,set_cons_zero→By,findIdx?_map→Dc,any_eq_false→Dd
open _root_.List.Perm renaming cons→ai,swap→al
open _root_.Nat renaming le_refl→ao,le_trans→aS,min_eq_left→bv,zero_le→bD,le_succ→bE,add_assoc→lf,sub_self→mp,le_of_lt→mq,add_comm→sm
open _root_.List.Sublist renaming refl→ap
open _root_.Bool renaming and_eq_true→aP,not_eq_true'→pr
open _root_.Option.some renaming inj→bx,injEq→lD
open _root_.Option renaming map_some→eU,bind_some→fT,map_eq_some_iff→iI
open _root_.Int renaming le_refl→iV
set_option maxHeartbeats 4000000
set_option maxRecDepth 20000
set_option linter.unusedSimpArgs false
set_option linter.unusedVariables false
set_option linter.unusedSectionVars false
theorem Co.rd.st {c:Co} {lo hi:Nat} {w w':World} (hk: ∀ k,lo<=k->k<hi->w'.heap[k]? =w.heap[k]?) (h:c.rd lo hi w):c.rd lo hi w':=
 ⟨h.row.st hk,fun t ht=>(h.parts t ht).st hk,h.cap,h.few,h.fewP⟩
theorem Co.rd.mono {c:Co} {lo hi lo' hi':Nat} {w:World} (h:c.rd lo hi w) (hl:lo'<=lo) (hh:hi<=hi'):c.rd lo' hi' w:=
 ⟨h.row.mono hl hh,fun t ht=>(h.parts t ht).mono hl hh,h.cap,h.few,h.fewP⟩
def QH (lo hi:Nat) (c:Co):cr:=⟨lo,hi,c.rd lo hi,fun _ _ hk h=>h.st hk⟩
theorem Hp.co {w0 w:World} {L:List (Nat×Obj)} {F:List cr} {lo hi:Nat} {c:Co} (H:Hp w0 w L F) (i:Nat) (hF:F[i]? =some (QH lo hi c)):c.rd 0 w.heap.size w:=
 Co.rd.mono (H.fact hF) (bD _) (H.facts _ (ae hF)).2.1
def uu (w w2:World) (c:Co):Prop:=c.rd w.heap.size w2.heap.size w2/\Below w.heap.size w w2
theorem HM.new {w w2:World} {c:Co} (h:HM w w2 c) (h1:c.txs.length<=8) (h2: ∀ t∈c.txs,t.parts.length<=4):uu w w2 c:=
 ⟨⟨h.row,h.parts,h.cap,by omega,fun t ht=>⟨by have:=h2 t ht;omega,h.caps t ht⟩⟩,h.below⟩
theorem py {w w2:World} (h:Below w.heap.size w w2):uu w w2 yX:=(N3 h).new (by simp[yX]) (by simp[yX])
theorem E5 {l:List Int} (h:cT (-1) l=true):l.length<=4:=by have:=mw h;omega
theorem Ct {ck nx:Int}: ∀ {l pre:List Tx},oa ck nx pre l=true↔(∀ t∈l,fH ck nx t=true)/\(∀ t∈l,∀ p∈pre,sD t p=false)/\l.Pairwise (fun p t=>sD t p=false)
 |[],pre=>by simp[oa]
 |t::l,pre=>by
  unfold oa
  rw[aP,aP,Ct,er]
  simp only[av,ar,aq,forall_eq_or_imp,pr,Dd]
  constructor
  rintro⟨⟨h1,h2⟩,h3,h4,h5⟩
  exact⟨⟨h1,h3⟩,⟨fun p hp=>by simpa using h2 p hp,fun a ha p hp=>h4 a ha p (.inl hp)⟩,fun a ha=>h4 a ha t (by simp),h5⟩
  rintro⟨⟨h1,h3⟩,⟨h2,h4⟩,h5,h6⟩
  exact⟨⟨h1,fun p hp=>by simpa using h2 p hp⟩,h3,fun a ha p hp=>hp.elim (h4 a ha p) (fun h=>by have:=h5 a ha;simp at h;rwa[h]),h6⟩
def vM (l:List Tx):Prop:=(l.map fun t=>(t.name,t.pid)).Pairwise fun p t=>p.1≠t.1/\p.2≠t.2
theorem JU {l:List Tx}:vM l↔l.Pairwise (fun p t=>sD t p=false):=by
 unfold vM
 rw[jt]
 constructor<;>intro h<;>refine h.imp fun{a b} hab=> ?_
 simpa [sD]using hab
 simpa [sD]using hab
theorem gN {c:Co}:gG c=true↔(iQ c.clock=true/\1<=c.next/\c.next<=1073741824/\1<=c.wait/\c.wait<=1000/\(c.txs.length:Int)<=8)/\(∀ t∈c.txs,fH c.clock c.next t=true)/\vM c.txs:=by
 rw[iU,Ct,JU]
 constructor
 rintro⟨h1,h2,h3,h4,h5,h6,h7,h8,h9⟩;exact⟨⟨h1,h2,h3,h4,h5,h6⟩,h7,h9⟩
 rintro⟨⟨h1,h2,h3,h4,h5,h6⟩,h7,h9⟩;exact⟨h1,h2,h3,h4,h5,h6,h7,by simp,h9⟩
theorem Hx {c:Co} (h:gG c=true):c.txs.length<=8/\ ∀ t∈c.txs,t.parts.length<=4:=by
 obtain⟨⟨_,_,_,_,_,h6⟩,h7,_⟩:=gN.1 h
 exact⟨by omega,fun t ht=>E5 (cC.1 (h7 t ht)).2.2.2.2.2.2.2.2.2.1⟩
theorem qt.new {w w2:World} {ca c':Co} {Lr Lp:List (Nat×Obj)} (h:qt w w2 ca c' Lr Lp) (hok:gG ca=true):uu w w2 c':=by
 have h1:gG c'=true:=by rw[sW,h.1];exact hok
 obtain⟨h2,h3⟩:=Hx h1
 exact h.read.new h2 h3
def f6 (c:Co) (s:ByteArray):Option (Nat×Tx):=(c.txs.findIdx? fun p=>decide (p.name=s)).bind fun i=>c.txs[i]?.map fun t=>(i,t)
def qJ (c:Co) (i:Nat) (t:Tx):Co:={c with txs:=c.txs.set i t}
theorem uN {c:Co} {s:ByteArray} (h:f6 c s=none):fM c s= -1:=by
 unfold f6 at h
 unfold fM
 cases hi:c.txs.findIdx? fun p=>decide (p.name=s)with
 |none=>rfl
 |some i=>
  obtain⟨hl,-⟩:=bh.1 hi
  rw[hi]at h
  simp[ah hl]at h
theorem jj {c:Co} {s:ByteArray} {i:Nat} {t:Tx} (h:f6 c s=some (i,t)):fM c s=i/\c.txs[i]? =some t/\t.name=s:=by
 unfold f6 at h
 unfold fM
 cases hi:c.txs.findIdx? fun p=>decide (p.name=s)with
 |none=>rw[hi]at h;cases h
 |some j=>
  obtain⟨hl,hn,-⟩:=bh.1 hi
  rw[hi]at h
  simp only[fT,ah hl,eU,lD,Prod.mk.injEq]at h
  obtain⟨rfl,rfl⟩:=h
  exact⟨rfl,ah hl,by simpa using hn⟩
theorem AR (c:Co) (s:ByteArray):f6 c.a s=(f6 c s).map fun(i,t)=>(i,t.a):=by
 have e:c.a.txs.findIdx? (fun p=>decide (p.name=s))=c.txs.findIdx? fun p=>decide (p.name=s):=by
  show(c.txs.map Tx.a).findIdx? _=_
  rw[Dc]
  rfl
 unfold f6
 rw[e]
 cases c.txs.findIdx? fun p=>decide (p.name=s)with
 |none=>rfl
 |some i=>
  show(c.txs.map Tx.a)[i]?.map _=(c.txs[i]?.map _).map _
  rw[aJ]
  cases c.txs[i]? <;>rfl
theorem zj (c:Co) (i:Nat) (t:Tx):(qJ c i t).a=qJ c.a i t.a:=by
 unfold qJ Co.a
 simp only[cz]
theorem JM (c:Co) (s:ByteArray):(ql c s).a=ql c.a s:=by
 unfold ql Co.a
 simp only[bj,eJ,mr]
 rfl
def bT (c:Co) (s:ByteArray):Co×Int×Int×Int:=match f6 c s with
 |none=>if c.txs.length=8 then(yX,0,0,16)else(ql c s,c.next,0,0)
 |some (i,t)=>if t.state=3∨t.state=4 then(yX,0,0,12)else(qJ c i (ji t),t.pid,t.ver+1,0)
def oM (c:Co) (s:ByteArray) (ver p:Int):Co×Int:=match f6 c s with
 |none=>(yX,5)
 |some (i,t)=>if t.ver≠ver then(yX,10)else if t.state=1∨t.state=2 then(qJ c i (iz c.clock p t),0)else(yX,12)
def k9 (c:Co) (s:ByteArray) (ver:Int) (b:Bool):Co×Int:=match f6 c s with
 |none=>(yX,5)
 |some (i,t)=>if t.ver≠ver then(yX,10)else match eI (vO b) t with
  |none=>(yX,12)
  |some t'=>(qJ c i t',0)
def qR (c:Co) (s:ByteArray) (p:Int):Co×Int:=match f6 c s with
 |none=>(yX,5)
 |some (i,t)=>if t.state=3∨t.state=4 then if p∈t.parts then(qJ c i (gF p t),0)else(yX,5)else(yX,12)
def jg (c:Co) (n:Int):Co×Int:=if 1000<n then(yX,2)else(vP c n,0)
structure oS (k:Nat) (c:Co):Prop where
 ok:gG c=true
 clock:c.clock<=1000*k
 next:c.next<=k+1
 ver: ∀ t∈c.txs,t.ver<=k
theorem oS.more {k m:Nat} {c:Co} (h:oS k c) (hm:k<=m):oS m c:=⟨h.ok,by have:=h.clock;omega,by have:=h.next;omega,fun t ht=>by have:=h.ver t ht;omega⟩
theorem DF {α:Type} {l:List α} {i:Nat} {a x:α} (h:x∈l.set i a):x∈l∨x=a:=bH h
theorem JT {l:List Tx} {i:Nat} {t t':Tx} (h:vM l) (hi:l[i]? =some t) (hn:t'.name=t.name) (hp:t'.pid=t.pid):vM (l.set i t'):=by
 unfold vM at h⊢
 rw[cz,hn,hp,iM (by rw[aJ,hi];rfl)]
 exact h
theorem oS.set {k:Nat} {c:Co} {i:Nat} {t t':Tx} (h:oS k c) (hi:c.txs[i]? =some t) (hn:t'.name=t.name) (hp:t'.pid=t.pid) (hok:fH c.clock c.next t'=true) (hv:t'.ver<=k+1):oS (k+1) (qJ c i t'):=by
 obtain⟨h1,h2,h3⟩:=gN.1 h.ok
 refine⟨gN.2 ⟨?_,fun x hx=> ?_,JT h3 hi hn hp⟩,?_,?_,fun x hx=> ?_⟩
 simpa [qJ]using h1
 rcases DF hx with hx|rfl
 exact h2 x hx
 exact hok
 have:=h.clock;show c.clock<=_;omega
 have:=h.next;show c.next<=_;omega
 rcases DF hx with hx|rfl
 have:=h.ver x hx;omega
 omega
theorem O7:(1:Int)<=1:=by decide
theorem PL:(1:Int)<=2:=by decide
theorem Ng:(1:Int)<=4:=by decide
theorem PK:(2:Int)<=4:=by decide
theorem O6:(4:Int)<=4:=by decide
theorem O8:(1:Int)=1↔([]:List Int).length=0:=by decide
theorem jO {n:Int}:iQ n=true↔0<=n/\n<=1073741824:=by unfold iQ;simp
theorem Ij {k:Nat} {c:Co} {s:ByteArray} (h:oS k c) (hk:k<=1000) (hn:bO s=true) (h0:(bT c s).2.2.2=0):oS (k+1) (bT c s).1:=by
 have hb:=h
 obtain⟨⟨h1,h2,h3,h4,h5,h6⟩,h7,h8⟩:=gN.1 h.ok
 unfold bT at h0⊢
 cases hf:f6 c s with
 |none=>
  rw[hf]at h0
  dsimp only at h0⊢
  by_cases hl:c.txs.length=8
  rw[if_pos hl]at h0;cases h0
  rw[if_neg hl]at h0⊢
  have hnx:=h.next
  have hck:=h.clock
  have hni:=uN hf
  refine⟨gN.2 ⟨⟨h1,?_,?_,h4,h5,?_⟩,fun t ht=> ?_,?_⟩,?_,?_,fun t ht=> ?_⟩
  show 1<=c.next+1;omega
  show c.next+1<=_;omega
  show((c.txs++[_]).length:Int)<=8
  rw[ay,bQ];omega
  rcases ar.1 ht with ht|ht
  have:=cC.1 (h7 t ht)
  exact cC.2 ⟨this.1,this.2.1,by show t.pid<c.next+1;have:=this.2.2.1;omega,this.2.2.2⟩
  rw[aq.1 ht]
  exact cC.2 ⟨hn,h2,by show c.next<c.next+1;omega,by kernel_rfl,O7,Ng,by show(0:Int)<=0;omega,by show(0:Int)<=c.clock;exact(jO.1 h1).1,.inl Z,rfl,O8⟩
  unfold vM at h8⊢
  show((c.txs++[iP s c.next]).map _).Pairwise _
  rw[bj,mb]
  refine⟨h8,by simp,fun a ha b hb=> ?_⟩
  obtain⟨t,ht,rfl⟩:=bz.1 ha
  simp only[eJ,mr,aq]at hb
  subst hb
  refine⟨fun he=> ?_,fun he=> ?_⟩
  have:(c.txs.findIdx? fun p=>decide (p.name=s))=none:=by
   cases hi:c.txs.findIdx? fun p=>decide (p.name=s)with
   |none=>rfl
   |some j=>unfold fM at hni;rw[hi]at hni;simp[lL]at hni
  rw[du]at this
  have:=this t ht
  simp[show t.name=s from he]at this
  have:=(cC.1 (h7 t ht)).2.2.1
  have he':t.pid=c.next:=he
  omega
  show c.clock<=_;omega
  show c.next+1<=_;omega
  rcases ar.1 ht with ht|ht
  have:=h.ver t ht;omega
  rw[aq.1 ht];show(0:Int)<=_;omega
 |some x=>
  obtain⟨i,t⟩:=x
  rw[hf]at h0
  dsimp only at h0⊢
  obtain⟨hi,ht,-⟩:=jj hf
  by_cases hs:t.state=3∨t.state=4
  rw[if_pos hs]at h0;cases h0
  rw[if_neg hs]at h0⊢
  have hm:=ae ht
  have hv:=h.ver t hm
  obtain⟨a1,a2,a3,a4,a5,a6,a7,a8,a9,a10,a11⟩:=cC.1 (h7 t hm)
  have hv0:=(jO.1 a4).1
  refine h.set ht ?_ ?_ ?_ ?_
  unfold ji;split<;>rfl
  unfold ji;split<;>rfl
  unfold ji
  split
  rename_i h2'
  exact cC.2 ⟨a1,a2,a3,jO.2 ⟨by show 0<=t.ver+1;omega,by show t.ver+1<=_;omega⟩,Ng,O6,a7,a8,a9,a10,by constructor;intro h;cases h;intro h;have:=a11.2 h;omega⟩
  exact cC.2 ⟨a1,a2,a3,jO.2 ⟨by show 0<=t.ver+1;omega,by show t.ver+1<=_;omega⟩,a5,a6,a7,a8,a9,a10,a11⟩
  unfold ji;split<;>(show t.ver+1<=_;omega)
theorem Gh {l:List Int} {p:Int} (h:cT (-1) l=true) (h0:0<=p) (h3:p<4):cT (-1) (kG l p)=true/\(kG l p).length≠0:=by
 have key: ∀ (l:List Int) (a:Int),l.Pairwise (· < ·)->(∀ q∈l,a<q/\q<4)->cT a l=true:=by
  intro l
  induction l with
  |nil=>intro a _ _;rfl
  |cons x l ih=>
   intro a hp hq
   obtain⟨h1,h2⟩:=er.1 hp
   unfold cT
   have:=hq x (aB ..)
   rw[ih x h2 fun q hq'=>⟨h1 q hq',(hq q (ak _ hq')).2⟩]
   simp[this.1,this.2]
 obtain⟨hp,hq⟩:=fL h
 unfold kG
 split
 rename_i hm
 refine⟨h,fun h0=> ?_⟩
 rw[bU h0]at hm;cases hm
 rename_i hm
 refine⟨key _ _ ?_ ?_,by simp⟩
 rw[aD,mb]
 refine⟨hp.filter _,?_,?_⟩
 rw[mb]
 refine⟨by simp,hp.filter _,fun a ha b hb=> ?_⟩
 rw[aq.1 ha]
 simp only[kW,decide_eq_true_eq]at hb
 have:b≠p:=fun h=>hm (h▸hb.1)
 omega
 intro a ha b hb
 simp only[kW,decide_eq_true_eq]at ha
 rcases ar.1 hb with hb|hb
 rw[aq.1 hb];exact ha.2
 simp only[kW,decide_eq_true_eq]at hb;omega
 intro q hq'
 simp only[ar,kW,aq,decide_eq_true_eq]at hq'
 rcases hq' with(hq'|rfl)|hq'
 exact hq q hq'.1
 omega
 exact hq q hq'.1
theorem Ml {ck nx p:Int} {t:Tx} (h:fH ck nx t=true) (hc:iQ ck=true) (h0:0<=p) (h3:p<4):fH ck nx (iz ck p t)=true:=by
 obtain⟨a1,a2,a3,a4,a5,a6,a7,a8,a9,a10,a11⟩:=cC.1 h
 obtain⟨b1,b2⟩:=Gh a10 h0 h3
 have hc0:=(jO.1 hc).1
 unfold iz
 split
 exact cC.2 ⟨a1,a2,a3,a4,PL,PK,hc0,iV _,a9,b1,by constructor;intro h;cases h;intro h;exact absurd h b2⟩
 rename_i h1
 exact cC.2 ⟨a1,a2,a3,a4,a5,a6,a7,a8,a9,b1,by constructor;intro h;exact absurd h h1;intro h;exact absurd h b2⟩
theorem Iy {k:Nat} {c:Co} {s:ByteArray} {ver p:Int} (h:oS k c) (h0:0<=p) (h3:p<4) (he:(oM c s ver p).2=0):oS (k+1) (oM c s ver p).1:=by
 obtain⟨⟨h1,-⟩,h7,-⟩:=gN.1 h.ok
 unfold oM at he⊢
 cases hf:f6 c s with
 |none=>rw[hf]at he;cases he
 |some x=>
  obtain⟨i,t⟩:=x
  rw[hf]at he
  dsimp only at he⊢
  obtain⟨-,ht,-⟩:=jj hf
  split at he
  cases he
  rename_i hv
  rw[if_neg hv]
  split at he
  rename_i hs
  rw[if_pos hs]
  have hm:=ae ht
  refine h.set ht ?_ ?_ (Ml (h7 t hm) h1 h0 h3) ?_
  unfold iz;split<;>rfl
  unfold iz;split<;>rfl
  have:=h.ver t hm
  unfold iz;split<;>(show t.ver<=_;omega)
  cases he
theorem LS {ck nx w:Int} {t t':Tx} (h:fH ck nx t=true) (hw:w=3∨w=4) (he:eI w t=some t'):fH ck nx t'=true/\t'.name=t.name/\t'.pid=t.pid/\t'.ver=t.ver:=by
 obtain⟨a1,a2,a3,a4,a5,a6,a7,a8,a9,a10,a11⟩:=cC.1 h
 unfold eI at he
 split at he
 injection he with he;subst he
 refine⟨cC.2 ⟨a1,a2,a3,a4,by show 1<=w;omega,by show w<=4;omega,a7,a8,a9,a10,?_⟩,rfl,rfl,rfl⟩
 constructor
 intro h;have h':w=1:=h;omega
 intro h;have:=a11.2 h;omega
 split at he
 injection he with he;subst he
 exact⟨cC.2 ⟨a1,a2,a3,a4,a5,a6,a7,a8,.inr hw,a10,a11⟩,rfl,rfl,rfl⟩
 split at he
 injection he with he;subst he
 exact⟨h,rfl,rfl,rfl⟩
 cases he
theorem IG (b:Bool):vO b=3∨vO b=4:=by cases b<;>simp[vO]
theorem Ip {k:Nat} {c:Co} {s:ByteArray} {ver:Int} {b:Bool} (h:oS k c) (he:(k9 c s ver b).2=0):oS (k+1) (k9 c s ver b).1:=by
 obtain⟨-,h7,-⟩:=gN.1 h.ok
 unfold k9 at he⊢
 cases hf:f6 c s with
 |none=>rw[hf]at he;cases he
 |some x=>
  obtain⟨i,t⟩:=x
  rw[hf]at he
  dsimp only at he⊢
  obtain⟨-,ht,-⟩:=jj hf
  split at he
  cases he
  rename_i hv
  rw[if_neg hv]
  have hm:=ae ht
  cases hx:eI (vO b) t with
  |none=>rw[hx]at he;cases he
  |some t'=>
   obtain⟨b1,b2,b3,b4⟩:=LS (h7 t hm) (IG b) hx
   refine h.set ht b2 b3 b1 ?_
   have:=h.ver t hm;omega
theorem zZ {l:List Int} (h:cT (-1) l=true) (f:Int->Bool):cT (-1) (l.filter f)=true:=by
 have key: ∀ (l:List Int) (a:Int),l.Pairwise (· < ·)->(∀ q∈l,a<q/\q<4)->cT a l=true:=by
  intro l
  induction l with
  |nil=>intro a _ _;rfl
  |cons x l ih=>
   intro a hp hq
   obtain⟨h1,h2⟩:=er.1 hp
   unfold cT
   have:=hq x (aB ..)
   rw[ih x h2 fun q hq'=>⟨h1 q hq',(hq q (ak _ hq')).2⟩]
   simp[this.1,this.2]
 obtain⟨hp,hq⟩:=fL h
 exact key _ _ (hp.filter _) fun q hq'=>hq q ((kW.1 hq').1)
theorem JG {ck nx p:Int} {t:Tx} (h:fH ck nx t=true) (hs:t.state=3∨t.state=4):fH ck nx (gF p t)=true/\(gF p t).name=t.name/\(gF p t).pid=t.pid/\(gF p t).ver=t.ver:=by
 obtain⟨a1,a2,a3,a4,a5,a6,a7,a8,a9,a10,a11⟩:=cC.1 h
 unfold gF
 split
 exact⟨cC.2 ⟨a1,a2,a3,a4,O7,Ng,a7,a8,.inr hs,rfl,O8⟩,rfl,rfl,rfl⟩
 rename_i hl
 refine⟨cC.2 ⟨a1,a2,a3,a4,a5,a6,a7,a8,a9,zZ a10 _,?_⟩,rfl,rfl,rfl⟩
 constructor
 intro h;have h':t.state=1:=h;omega
 intro h;exact absurd h hl
theorem F4 {k:Nat} {c:Co} {s:ByteArray} {p:Int} (h:oS k c) (he:(qR c s p).2=0):oS (k+1) (qR c s p).1:=by
 obtain⟨-,h7,-⟩:=gN.1 h.ok
 unfold qR at he⊢
 cases hf:f6 c s with
 |none=>rw[hf]at he;cases he
 |some x=>
  obtain⟨i,t⟩:=x
  rw[hf]at he
  dsimp only at he⊢
  obtain⟨-,ht,-⟩:=jj hf
  split at he
  rename_i hs
  rw[if_pos hs]
  split at he
  rename_i hp
  rw[if_pos hp]
  have hm:=ae ht
  obtain⟨b1,b2,b3,b4⟩:=JG (p:=p) (h7 t hm) hs
  refine h.set ht b2 b3 b1 ?_
  have:=h.ver t hm;omega
  cases he
  cases he
theorem xH {ck ck2 nx wt:Int} {t:Tx} (h:fH ck nx t=true) (hc:ck<=ck2):fH ck2 nx (fj ck2 wt t)=true/\(fj ck2 wt t).name=t.name/\(fj ck2 wt t).pid=t.pid/\(fj ck2 wt t).ver<=t.ver+1:=by
 obtain⟨a1,a2,a3,a4,a5,a6,a7,a8,a9,a10,a11⟩:=cC.1 h
 have hv:=jO.1 a4
 unfold fj
 split
 rename_i h2
 refine⟨cC.2 ⟨a1,a2,a3,jO.2 ⟨by show 0<=t.ver+1;omega,by show t.ver+1<=_;omega⟩,Ng,O6,a7,by show t.since<=ck2;omega,a9,a10,?_⟩,rfl,rfl,iV _⟩
 constructor
 intro h;cases h
 intro h;have:=a11.2 h;omega
 exact⟨cC.2 ⟨a1,a2,a3,a4,a5,a6,a7,by omega,a9,a10,a11⟩,rfl,rfl,by omega⟩
theorem EK {k:Nat} {c:Co} {n:Int} (h:oS k c) (hk:k<=1000) (hn:0<=n) (he:(jg c n).2=0):oS (k+1) (jg c n).1:=by
 obtain⟨⟨h1,h2,h3,h4,h5,h6⟩,h7,h8⟩:=gN.1 h.ok
 have hck:=h.clock
 have hc0:=(jO.1 h1).1
 unfold jg at he⊢
 split at he
 cases he
 rename_i hn1
 rw[if_neg hn1]
 unfold vP
 refine⟨gN.2 ⟨⟨jO.2 ⟨by show 0<=c.clock+n;omega,by show c.clock+n<=_;omega⟩,h2,h3,h4,h5,by simpa using h6⟩,fun t ht=> ?_,?_⟩,by show c.clock+n<=1000*((k+1:Nat):Int);omega,by have:=h.next;show c.next<=_;omega,fun t ht=> ?_⟩
 obtain⟨x,hx,rfl⟩:=bz.1 ht
 exact(xH (h7 x hx) (show c.clock<=c.clock+n by omega)).1
 unfold vM at h8⊢
 dsimp only
 rw[sr]
 rw[List.map_congr_left (g:=fun t=>(t.name,t.pid)) fun t ht=>by
  obtain⟨-,e1,e2,-⟩:=xH (ck2:=c.clock+n) (wt:=c.wait) (h7 t ht) I
  show((fj _ _ t).name,(fj _ _ t).pid)=_
  rw[e1,e2]]
 exact h8
 obtain⟨x,hx,rfl⟩:=bz.1 ht
 obtain⟨-,-,-,e3⟩:=xH (ck2:=c.clock+n) (wt:=c.wait) (h7 x hx) I
 have:=h.ver x hx
 omega
theorem oS.a {k:Nat} {c:Co} (h:oS k c):oS k c.a:=⟨by rw[<-sW];exact h.ok,h.clock,h.next,fun t ht=>by
 obtain⟨x,hx,rfl⟩:=bz.1 (show t∈c.txs.map Tx.a from ht)
 exact h.ver x hx⟩
theorem oS.of_a {k:Nat} {c:Co} (h:oS k c.a):oS k c:=⟨by rw[sW];exact h.ok,h.clock,h.next,fun t ht=>h.ver t.a (bI (f:=Tx.a) ht)⟩
theorem oS.at_ {k:Nat} {c:Co} (h:oS k c) {i:Nat} {t:Tx} (ht:c.txs[i]? =some t):fH c.clock c.next t=true:=(gN.1 h.ok).2.1 t (ae ht)
theorem Dp {c:Co} {s:ByteArray} {i:Nat} {t:Tx} (h:f6 c s=some (i,t)):f6 c.a s=some (i,t.a):=by rw[AR,h];rfl
theorem GY {c:Co} {s:ByteArray} (h:f6 c s=none):f6 c.a s=none:=by rw[AR,h];rfl
theorem Lv (t:Tx):ji t.a=(ji t).a:=by
 unfold ji
 by_cases h:t.state=2
 rw[if_pos (show t.a.state=2 from h),if_pos h];rfl
 rw[if_neg (show¬ t.a.state=2 from h),if_neg h];rfl
theorem wP (c:Co) (s:ByteArray) (k:Nat) (w:World) (h:c.rd 0 w.heap.size w) (hb:oS k c) (hk:k<=1000) (hn:bO s=true):dd aa mH [c.v,.string s] w fun v w2=> ∃ c':Co,v=.tuple #[c'.v,J (bT c.a s).2.1,J (bT c.a s).2.2.1,J (bT c.a s).2.2.2]/\c'.a=(bT c.a s).1/\uu w w2 c':=by
 have hnx:=hb.next
 have hpost:(bT c s).2.2.2=0->oS (k+1) (bT c s).1:=Ij hb hk hn
 cases hf:f6 c s with
 |none=>
  have hi:=uN hf
  have ha:=GY hf
  unfold bT at hpost⊢
  rw[ha]
  rw[hf]at hpost
  dsimp only at hpost⊢
  by_cases hl:c.txs.length=8
  rw[if_pos (show c.a.txs.length=8 by simpa [Co.a]using hl)]
  exact(F7 c s w h hb.ok hn I hl).mono fun v w2 ⟨h1,h2⟩=>⟨yX,h1,rfl,py h2⟩
  rw[if_neg (show¬ c.a.txs.length=8 by simpa [Co.a]using hl)]
  rw[if_neg hl]at hpost
  exact(Jp c s w h hb.ok hn I hl I).mono fun v w2 ⟨c',Lr,Lp,h1,h2⟩=>⟨c',h1,h2.1,h2.new (by rw[<-JM,<-sW];exact(hpost Z).ok)⟩
 |some x=>
  obtain⟨i,t⟩:=x
  obtain⟨hi,ht,-⟩:=jj hf
  have ha:=Dp hf
  have hm:=ae ht
  have hv0:=jO.1 (cC.1 (hb.at_ ht)).2.2.2.1
  have hv:=hb.ver t hm
  unfold bT at hpost⊢
  rw[ha]
  rw[hf]at hpost
  dsimp only at hpost⊢
  by_cases hs:t.state=3∨t.state=4
  rw[if_pos (show t.a.state=3∨t.a.state=4 from hs)]
  exact(Hd c s i t w h hb.ok hn hi ht hs).mono fun v w2 ⟨h1,h2⟩=>⟨yX,h1,rfl,py h2⟩
  rw[if_neg (show¬ (t.a.state=3∨t.a.state=4)from hs)]
  rw[if_neg hs]at hpost
  exact(He c s i t w h hb.ok hn hi ht (fun h=>hs (.inl h)) (fun h=>hs (.inr h)) hv0.1 I).mono fun v w2 ⟨c',Lr,Lp,h1,h2⟩=>⟨c',h1,h2.1.trans (by rw[show({c with txs:=c.txs.set i (ji t)}:Co)=qJ c i (ji t)from rfl,zj,Lv]),h2.new (by rw[<-sW];exact(hpost Z).ok)⟩
theorem Mm (ck p:Int) (t:Tx):iz ck p t.a=(iz ck p t).a:=by
 unfold iz
 by_cases h:t.state=1
 rw[if_pos (show t.a.state=1 from h),if_pos h];rfl
 rw[if_neg (show¬ t.a.state=1 from h),if_neg h];rfl
theorem Gg (c:Co) (s:ByteArray) (ver p:Int) (k:Nat) (w:World) (h:c.rd 0 w.heap.size w) (hb:oS k c) (hn:bO s=true) (h0:0<=p) (h3:p<4):dd aa ow [c.v,.string s,J ver,J p] w fun v w2=> ∃ c':Co,v=.tuple #[c'.v,J (oM c.a s ver p).2]/\c'.a=(oM c.a s ver p).1/\uu w w2 c':=by
 have hpost:(oM c s ver p).2=0->oS (k+1) (oM c s ver p).1:=Iy hb h0 h3
 cases hf:f6 c s with
 |none=>
  have hi:=uN hf
  have ha:=GY hf
  unfold oM
  rw[ha]
  exact(Mk c s ver p w h hb.ok hn hi).mono fun v w2 ⟨h1,h2⟩=>⟨yX,h1,rfl,py h2⟩
 |some x=>
  obtain⟨i,t⟩:=x
  obtain⟨hi,ht,-⟩:=jj hf
  have ha:=Dp hf
  unfold oM at hpost⊢
  rw[ha]
  rw[hf]at hpost
  dsimp only at hpost⊢
  by_cases hv:t.ver=ver
  rw[if_neg (show¬ t.a.ver≠ver from fun h=>h hv)]
  rw[if_neg (fun h=>h hv)]at hpost
  by_cases hs:t.state=1∨t.state=2
  rw[if_pos (show t.a.state=1∨t.a.state=2 from hs)]
  rw[if_pos hs]at hpost
  exact(OO c s ver p i t w h hb.ok hn hi ht hv h0 h3 hs (cC.1 (hb.at_ ht)).2.2.2.2.2.2.2.2.2.1).mono fun v w2 ⟨c',Lr,Lp,h1,h2⟩=>⟨c',h1,h2.1.trans (by rw[show({c with txs:=c.txs.set i (iz c.clock p t)}:Co)=qJ c i (iz c.clock p t)from rfl,zj,Mm];rfl),h2.new (by rw[<-sW];exact(hpost Z).ok)⟩
  rw[if_neg (show¬ (t.a.state=1∨t.a.state=2)from hs)]
  exact(JX c s ver p i t w h hb.ok hn hi ht hv h0 h3 (fun h=>hs (.inl h)) (fun h=>hs (.inr h))).mono fun v w2 ⟨h1,h2⟩=>⟨yX,h1,rfl,py h2⟩
  rw[if_pos (show t.a.ver≠ver from hv)]
  exact(JY c s ver p i t w h hb.ok hn hi ht hv).mono fun v w2 ⟨h1,h2⟩=>⟨yX,h1,rfl,py h2⟩
theorem Nw (w:Int) (t:Tx):eI w t.a=(eI w t).map Tx.a:=by
 unfold eI
 by_cases h1:t.state=2
 rw[if_pos (show t.a.state=2 from h1),if_pos h1];rfl
 rw[if_neg (show¬ t.a.state=2 from h1),if_neg h1]
 by_cases h2:t.state=1/\t.done=0
 rw[if_pos (show t.a.state=1/\t.a.done=0 from h2),if_pos h2];rfl
 rw[if_neg (show¬ (t.a.state=1/\t.a.done=0)from h2),if_neg h2]
 by_cases h3:t.state=w∨(t.state=1/\t.done=w)
 rw[if_pos (show t.a.state=w∨(t.a.state=1/\t.a.done=w)from h3),if_pos h3];rfl
 rw[if_neg (show¬ (t.a.state=w∨(t.a.state=1/\t.a.done=w))from h3),if_neg h3];rfl
theorem FX (c:Co) (s:ByteArray) (ver:Int) (b:Bool) (k:Nat) (w:World) (h:c.rd 0 w.heap.size w) (hb:oS k c) (hn:bO s=true):dd aa lX [c.v,.string s,J ver,.bool b] w fun v w2=> ∃ c':Co,v=.tuple #[c'.v,J (k9 c.a s ver b).2]/\c'.a=(k9 c.a s ver b).1/\uu w w2 c':=by
 have hpost:(k9 c s ver b).2=0->oS (k+1) (k9 c s ver b).1:=Ip hb
 cases hf:f6 c s with
 |none=>
  have hi:=uN hf
  have ha:=GY hf
  unfold k9
  rw[ha]
  exact(LR c s ver b w h hb.ok hn hi).mono fun v w2 ⟨h1,h2⟩=>⟨yX,h1,rfl,py h2⟩
 |some x=>
  obtain⟨i,t⟩:=x
  obtain⟨hi,ht,-⟩:=jj hf
  have ha:=Dp hf
  unfold k9 at hpost⊢
  rw[ha]
  rw[hf]at hpost
  dsimp only at hpost⊢
  by_cases hv:t.ver=ver
  rw[if_neg (show¬ t.a.ver≠ver from fun h=>h hv),Nw]
  rw[if_neg (fun h=>h hv)]at hpost
  have main:dd aa lX [c.v,.string s,J ver,.bool b] w fun v w2=>match eI (vO b) t with|none=>v=.tuple #[.agg #[J 0,J 0,J 0,.slice none 0 0],J 12]/\Below w.heap.size w w2|some t'=> ∃ (c':Co) (Lr Lp:List (Nat×Obj)),v=.tuple #[c'.v,J 0]/\qt w w2 (Co.a {c with txs:=c.txs.set i t'}) c' Lr Lp:=by
   cases b
   exact JC c s ver i t w h hb.ok hn hi ht hv
   exact LQ c s ver i t w h hb.ok hn hi ht hv
  cases hx:eI (vO b) t with
  |none=>
   rw[hx]at main
   exact main.mono fun v w2 ⟨h1,h2⟩=>⟨yX,h1,rfl,py h2⟩
  |some t'=>
   rw[hx]at main hpost
   exact main.mono fun v w2 ⟨c',Lr,Lp,h1,h2⟩=>⟨c',h1,h2.1.trans (by rw[show({c with txs:=c.txs.set i t'}:Co)=qJ c i t' from rfl,zj];rfl),h2.new (by rw[<-sW];exact(hpost Z).ok)⟩
  rw[if_pos (show t.a.ver≠ver from hv)]
  exact(JB c s ver b i t w h hb.ok hn hi ht hv).mono fun v w2 ⟨h1,h2⟩=>⟨yX,h1,rfl,py h2⟩
theorem LU (p:Int) (t:Tx):gF p t.a=(gF p t).a:=by
 unfold gF
 by_cases h:(t.parts.filter fun q=>decide (q≠p)).length=0
 rw[if_pos (show(t.a.parts.filter fun q=>decide (q≠p)).length=0 from h),if_pos h];rfl
 rw[if_neg (show¬ (t.a.parts.filter fun q=>decide (q≠p)).length=0 from h),if_neg h];rfl
theorem JI (c:Co) (s:ByteArray) (p:Int) (k i:Nat) (t:Tx) (w:World) (h:c.rd 0 w.heap.size w) (hb:oS k c) (hn:bO s=true) (hf:f6 c.a s=some (i,t)) (h34:t.state=3∨t.state=4) (hp:p∈t.parts):dd aa wW [c.v,.string s,J p] w fun v w2=> ∃ c':Co,v=.tuple #[c'.v,J 0]/\c'.a=(qR c.a s p).1/\uu w w2 c':=by
 have hpost:(qR c s p).2=0->oS (k+1) (qR c s p).1:=F4 hb
 rw[AR]at hf
 obtain⟨⟨j,x⟩,hg,he⟩:=iI.1 hf
 clear hf
 simp only[Prod.mk.injEq]at he
 obtain⟨rfl,rfl⟩:=he
 obtain⟨hi,ht,-⟩:=jj hg
 have ha:=Dp hg
 unfold qR at hpost⊢
 rw[ha]
 rw[hg]at hpost
 dsimp only at hpost⊢
 rw[if_pos h34,if_pos hp]
 rw[if_pos (show x.state=3∨x.state=4 from h34),if_pos (show p∈x.parts from hp)]at hpost
 exact(Nx c s p i x w h hb.ok hn hi ht h34 hp (cC.1 (hb.at_ ht)).2.2.2.2.2.2.2.2.2.1).mono fun v w2 ⟨c',Lr,Lp,h1,h2⟩=>⟨c',h1,h2.1.trans (by rw[show({c with txs:=c.txs.set i (gF p x)}:Co)=qJ c i (gF p x)from rfl,zj,LU]),h2.new (by rw[<-sW];exact(hpost Z).ok)⟩
theorem LP (t:Tx):gV t.a=gV t:=rfl
theorem KV (l:List Tx) (n:Nat):g9 (l.map Tx.a) n=(g9 l n).map Tx.a:=by
 unfold g9
 rw[List.filter_map,show(gV∘Tx.a)=gV from funext LP,aJ]
theorem Fi (c:Co) (n:Nat) (w:World) (h:c.rd 0 w.heap.size w) (hok:gG c=true) (hn:n<=1000):dd aa wV [c.v,J (n:Nat)] w fun v w2=>v=yC (g9 c.a.txs n)/\Below w.heap.size w w2:=by
 refine(M5 c n w h hok hn).mono fun v w2 ⟨h1,h2⟩=>⟨?_,h2⟩
 rw[h1,show c.a.txs=c.txs.map Tx.a from rfl,KV]
 cases g9 c.txs n<;>rfl
theorem IK (c:Co) (n:Int):(vP c n).a=vP c.a n:=by
 unfold vP Co.a
 simp only[sr]
 congr 1
 exact List.map_congr_left fun t _=>Kj _ _ t
theorem Cv (c:Co) (n:Int) (k:Nat) (w:World) (h:c.rd 0 w.heap.size w) (hb:oS k c) (hk:k<=1000) (hn:0<=n):dd aa sL [c.v,J n] w fun v w2=> ∃ c':Co,v=.tuple #[c'.v,J (jg c.a n).2]/\c'.a=(jg c.a n).1/\uu w w2 c':=by
 have hpost:(jg c n).2=0->oS (k+1) (jg c n).1:=EK hb hk hn
 have hck:=hb.clock
 unfold jg at hpost⊢
 by_cases hf:1000<n
 rw[if_pos hf]
 exact(Kh c n w h hb.ok hf).mono fun v w2 ⟨h1,h2⟩=>⟨yX,h1,rfl,py h2⟩
 rw[if_neg hf]
 rw[if_neg hf]at hpost
 exact(MC c n w h hb.ok hn I I).mono fun v w2 ⟨c',Lr,Lp,h1,h2⟩=>⟨c',h1,h2.1,h2.new (by rw[<-IK,<-sW];exact(hpost Z).ok)⟩
theorem GM (es:List cN) (A:Option Addr) (c n a most:Nat) (w:World) (hr:Rd gk 0 w.heap.size A es w) (hc:es.length<=c) (hb:es.length<=1000000) (hn:n<=es.length) (ha:es.length<a):
  dd aa yJ [.slice A es.length c,J (n:Nat),J (a:Nat),J (most:Nat)] w fun v w2=>v=.tuple #[.slice none 0 0,J 0,J 2]/\Below w.heap.size w w2:=by
 refine aF xa Z Z ?_
 have H:=Hp.startRd hr
 refine W<|Zr<|G (Ws Z)<|G (Wi Z)<|G (Wi Z)<|U<|W<|Zr<|G (Ys Z)<|G (Yi Z)<|bW uh (Cz es _ _ n _ (H.rd0 0 Z) hc hb hn) Z Z ?_
 rintro _ w1 ⟨st,hst,rfl,hb2⟩;replace H:=H.later hb2;clear hb2
 refine G (Yu Z)<|G (Xi Z Z)<|G (Xi Z Z)<|G (Wi Z)<|G (Wi Z)<|U<|W<|W<|Zr<|G (Yi Z)<|G (bV Z Z Z)<|U<|ZF Z<|Zk<|W<|W<|Zr<|G (Yi Z)<|G (da Z Z I)<|G (Yb Z)<|ZG<|G (Yi Z)<|ZG<|G (Ys Z)<|ZG<|G (bn dM Z)<|ZG<|G (Hk Z Z I)<|G (N Z Z)<|G (Yb Z)<|ZN<|ZN<|G (Kt Z Z)<|G (Yb Z)<|ZN<|ZN<|G (Kt Z Z)<|U<|ZT Z<|W ?_
 refine Zr<|G (Ws Z)<|G (Wi Z)<|G (Wi Z)<|U<|Zt ?_
 exact Ho Z Z Z Z ⟨rfl,H.below⟩
theorem E8 (p:Pa) (a most l:Nat) (r:eR) (w:World) (h:p.rd 0 w.heap.size w) (hok:p.a.ok) (hld:p.leader=l) (hr:p.reps[l]? =some r) (ha:r.es.length<a):dd aa tY [p.v,J (a:Nat),J (most:Nat)] w fun v w2=>v=.tuple #[.slice none 0 0,J 0,J 2]/\Below w.heap.size w w2:=by
 refine aF sR Z Z ?_
 obtain⟨hn1,hn2,hil,hkl,hf1,hf2,he0,he1,hl0,hl1,hb0,hb1,hsm⟩:=Pa.facts hok
 have hkn:=hok.known
 have hiC:=h.iC
 have hkC:=h.kC
 have hrC:=h.rC
 have hfew:=h.few
 have H:=Hp.startPa h
 obtain⟨ep,ld,isr,iA,iC,kn,kA,kC,reps,rA,rC,fw,bs⟩:=p
 simp only[Pa.a]at hkn
 dsimp only at H hn1 hn2 hil hkl hf1 hf2 he0 he1 hl0 hl1 hb0 hb1 hsm hiC hkC hrC hfew
 dsimp only at hld hr
 have hll:=(cF hr).1
 show CW _ _ _ _ (args [.agg #[J (ep),J (ld),.slice iA isr.length iC,.slice kA kn.length kC,.slice rA reps.length rC,J (fw),J (bs)],J (((a:Nat):Int)),J (((most:Nat):Int))]) w
 refine W<|Zr<|fX H Z Z fun w1 b3 H=>G (Ws Z)<|G (Wi Z)<|G (Wi Z)<|U<|W<|W<|Zr<|G (Zw aG H 0 Z Z Z)<|bW ly (rU ⟨ep,ld,isr,iA,iC,kn,kA,kC,reps,rA,rC,fw,bs⟩ _ (Hp.pa H 0 Z) hok) Z Z ?_
 rintro _ w2 ⟨rfl,hb⟩;replace H:=H.later hb;clear hb
 refine G (Wi Z)<|U<|W<|Zr<|G (Yi Z)<|G (bV Z Z Z)<|U<|ZF Z<|Zk<|W<|W<|Zr<|G (Zf dh Z)<|G (Zd aj H 0 Z Z Z)<|G (da Z Z I)<|U<|ZF Z<|Zk<|W<|Zr<|G (Zf cP Z)<|G (Zd bN H 0 Z Z Z)<|G (Zf dh Z)<|G (Zd aj H 0 Z Z Z)<|pI (k:=l) H 3 Z br Z (congrArg (Value.int .i64) hld) I I Z fun bq3 o3 x3 e3=> ?_
 obtain rfl:x3=r:=by have:=e3.at_;rw[hr]at this;exact(bx this).symm
 obtain⟨n,hnn⟩: ∃ n:Nat,x3.high=n:=⟨x3.high.toNat,by have:=(Pa.repOk hok (i:=l) hr).2.1;omega⟩
 refine G (iw (xs:=eR.c x3) l9 Z Z e3.cl)<|ey H nj Z fun w4 b10 H=>bk H 0 (#[.bool (x3.up),.slice x3.A ((bd x3.es).length) x3.cap,J (((fD x3.es x3.s:Nat):Int)),J (x3.high)]) j7 Z Z Z Z Z N N fun w5 H=>U<|W<|Zr<|G (Zf dn Z)<|G (jJ 1 [.slice x3.A ((bd x3.es).length) x3.cap,J (((fD x3.es x3.s:Nat):Int))] eE Z Z (H.ent (i:=0) Z) Z)<|bW fl (fI x3.A x3.cap x3.es x3.s _ (Pa.log (Hp.pa H 0 Z) hok (i:=l) hr)) Z Z ?_
 have hloen:=H.size
 rintro _ w6 ⟨Aen,cen,rfl,hren,hcen,hben⟩;replace H:=H.learnRd hben hren;clear hren hben
 refine G (Yu Z)<|G (Xs Z Z)<|G (Xi Z Z)<|G (Xi Z Z)<|G (Ws Z)<|G (Wi Z)<|G (Wi Z)<|U<|W<|Zr<|G (Ys Z)<|G (Zf dv Z)<|G (Zd aj H 0 Z Z Z)<|G (Yi Z)<|G (Yi Z)<|bW xl ((by have hA:=GM x3.es Aen cen n a most _ (H.rd0 0 Z) hcen (by have:=(Pa.repOk hok (i:=l) hr).1.len;omega) (by have:=(Pa.repOk hok (i:=l) hr).2.2;omega) ha;rw[<-hnn]at hA;exact hA)) Z Z ?_
 rintro _ w7 ⟨rfl,hb⟩;replace H:=H.later hb;clear hb
 refine G (Xs Z Z)<|G (Xi Z Z)<|G (Xi Z Z)<|G (Ws Z)<|G (Wi Z)<|G (Wi Z)<|U<|Zt ?_
 exact Ho Z Z Z Z ⟨rfl,H.below⟩

/-- an act of a script -/
structure Act where
 kind:Int
 name:ByteArray
 part:Int
 n:Int
 m:Int
 text:ByteArray
 lost:Int
def Act.c (a:Act):List Value:=[J a.kind,.string a.name,J a.part,J a.n,J a.m,.string a.text,J a.lost]
abbrev Act.v (a:Act):Value:=.agg a.c.toArray
def mn:fi Act:=⟨Act.c,7,fun _=>rfl,by decide,fun a u hu=>by
 simp only[Act.c,av,bo,or_false]at hu
 rcases hu with h|h|h|h|h|h|h<;>subst h<;>rfl⟩
structure An where
 code:Int
 n:Int
 texts:List ByteArray
structure Sn where
 name:ByteArray
 pid:Int
 ver:Int
 inn:Bool
 seqs:List Int
 sA:Option Addr
 sC:Nat
 last:List cN
 lA:Option Addr
 lC:Nat
def Sn.c (s:Sn):List Value:=[.string s.name,J s.pid,J s.ver,.bool s.inn,.slice s.sA s.seqs.length s.sC,.slice s.lA s.last.length s.lC]
def zK:fi Sn:=⟨Sn.c,6,fun _=>rfl,by decide,fun a u hu=>by
 simp only[Sn.c,av,bo,or_false]at hu
 rcases hu with h|h|h|h|h|h<;>subst h<;>rfl⟩
def Sn.a (s:Sn):Sn:={s with sA:=none,sC:=0,lA:=none,lC:=0}
structure Pq where
 p:Pa
 lo:Nat
 hi:Nat
def Bv:fi Pq:=⟨fun q=>q.p.c,7,fun _=>rfl,by decide,fun a u hu=>by
 simp only[Pa.c,av,bo,or_false]at hu
 rcases hu with h|h|h|h|h|h|h<;>subst h<;>rfl⟩
structure Bk where
 ps:List Pq
 pA:Option Addr
 pC:Nat
 co:Co
 clo:Nat
 chi:Nat
 gr:Gr
 glo:Nat
 ghi:Nat
 sns:List Sn
 snA:Option Addr
 snC:Nat
def Bk.c (b:Bk):List Value:=[.slice b.pA b.ps.length b.pC,J b.co.clock,J b.co.next,J b.co.wait,.slice b.co.A b.co.txs.length b.co.cap,J b.gr.clock,J b.gr.wait,J b.gr.gen,.slice b.gr.mA b.gr.ms.length b.gr.mC,.slice b.gr.oA b.gr.os.length b.gr.oC,.slice b.snA b.sns.length b.snC]
structure Wa where
 ps:List gu
 co:Co
 gr:Gr
 sns:List Sn
def Bk.a (b:Bk):Wa:=⟨b.ps.map fun q=>q.p.a,b.co.a,b.gr.a,b.sns.map Sn.a⟩
def qr:List Sn->List (Nat×Obj)->Prop
 |[],L=>L=[]
 |s::l,L=> ∃ gq uq gl ul L',s.sA=some ⟨gq,0,none⟩/\s.lA=some ⟨gl,0,none⟩/\dW bS s.seqs s.sC uq/\dW gk s.last s.lC ul/\L=(gq,.cells uq cY (0,0))::(gl,.cells ul cZ (0,0))::L'/\qr l L'
theorem qr.at_: ∀ {l:List Sn} {L:List (Nat×Obj)} {i:Nat} {s:Sn},qr l L->l[i]? =some s-> ∃ gq uq gl ul La Lb,s.sA=some ⟨gq,0,none⟩/\s.lA=some ⟨gl,0,none⟩/\dW bS s.seqs s.sC uq/\dW gk s.last s.lC ul/\L=La++((gq,.cells uq cY (0,0))::(gl,.cells ul cZ (0,0))::Lb)/\ ∀ (s':Sn) (gq':Nat) (uq':Array Value) (gl':Nat) (ul':Array Value),s'.sA=some ⟨gq',0,none⟩->s'.lA=some ⟨gl',0,none⟩->dW bS s'.seqs s'.sC uq'->dW gk s'.last s'.lC ul'->qr (l.set i s') (La++((gq',.cells uq' cY (0,0))::(gl',.cells ul' cZ (0,0))::Lb))
 |[],_,_,_,_,h=>by simp at h
 |x::l,L,0,s,h,hi=>by
  obtain⟨gq,uq,gl,ul,L',h1,h2,h3,h4,rfl,h6⟩:=h
  have:x=s:=by simpa using hi
  subst this
  exact⟨gq,uq,gl,ul,[],L',h1,h2,h3,h4,rfl,fun s' gq' uq' gl' ul' a1 a2 a3 a4=>⟨gq',uq',gl',ul',L',a1,a2,a3,a4,rfl,h6⟩⟩
 |x::l,L,i+1,s,h,hi=>by
  obtain⟨gq,uq,gl,ul,L',h1,h2,h3,h4,rfl,h6⟩:=h
  obtain⟨kq,vq,kl,vl,La,Lb,b1,b2,b3,b4,rfl,b6⟩:=qr.at_ (i:=i) h6 (by simpa using hi)
  exact⟨kq,vq,kl,vl,(gq,.cells uq cY (0,0))::(gl,.cells ul cZ (0,0))::La,Lb,b1,b2,b3,b4,rfl,fun s' gq' uq' gl' ul' a1 a2 a3 a4=>⟨gq,uq,gl,ul,_,h1,h2,h3,h4,rfl,b6 s' gq' uq' gl' ul' a1 a2 a3 a4⟩⟩
theorem qr.snoc: ∀ {l:List Sn} {L:List (Nat×Obj)} {s:Sn} {gq gl:Nat} {uq ul:Array Value},qr l L->s.sA=some ⟨gq,0,none⟩->s.lA=some ⟨gl,0,none⟩->dW bS s.seqs s.sC uq->dW gk s.last s.lC ul->qr (l++[s]) (L++[(gq,.cells uq cY (0,0)),(gl,.cells ul cZ (0,0))])
 |[],L,s,gq,gl,uq,ul,h,a1,a2,a3,a4=>by
  have:L=[]:=h
  subst this
  exact⟨gq,uq,gl,ul,[],a1,a2,a3,a4,rfl,rfl⟩
 |x::l,L,s,gq,gl,uq,ul,h,a1,a2,a3,a4=>by
  obtain⟨kq,vq,kl,vl,L',h1,h2,h3,h4,rfl,h6⟩:=h
  exact⟨kq,vq,kl,vl,_,h1,h2,h3,h4,rfl,h6.snoc a1 a2 a3 a4⟩
def xz (w0:World) (lo hi:Nat) (c:Co):cr:=⟨lo,hi,fun w=>w0.heap.size<=lo/\c.rd lo hi w,fun _ _ hk h=>⟨h.1,h.2.st hk⟩⟩
def J1 (w0:World) (lo hi:Nat) (g:Gr):cr:=⟨lo,hi,fun w=>w0.heap.size<=lo/\g.rd lo hi w,fun _ _ hk h=>⟨h.1,h.2.st hk⟩⟩
def tD (w0:World) (lo hi:Nat) (p:Pa):cr:=⟨lo,hi,fun w=>w0.heap.size<=lo/\p.rd lo hi w,fun _ _ hk h=>⟨h.1,h.2.st hk⟩⟩
structure Bw (w0 w:World) (bb:Nat) (b:Bk) (gP:Nat) (uP:Array Value) (Ls Lo K:List (Nat×Obj)) (F:List cr):Prop where
 pA:b.pA=some ⟨gP,0,none⟩
 row:dW Bv b.ps b.pC uP
 sn:f4 zK (.slice b.snA b.sns.length b.snC) fy b.sns Ls
 own:qr b.sns Lo
 co:xz w0 b.clo b.chi b.co∈F
 gr:J1 w0 b.glo b.ghi b.gr∈F
 ps: ∀ q∈b.ps,tD w0 q.lo q.hi q.p∈F
 H:Hp w0 w ((bb,.cells b.c.toArray bM (0,0))::(gP,.cells uP bC (0,0))::(Ls++(Lo++K))) F
def xA (w0 w:World) (bb:Nat) (b:Bk) (K:List (Nat×Obj)) (F:List cr):Prop:= ∃ gP uP Ls Lo F',Bw w0 w bb b gP uP Ls Lo K F'/\ ∀ f∈F,f∈F'
theorem Hp.coM {w1 w0 w:World} {L:List (Nat×Obj)} {F:List cr} {lo hi:Nat} {c:Co} (H:Hp w0 w L F) (h:xz w1 lo hi c∈F):c.rd 0 w.heap.size w:=by
 obtain⟨h1,h2,-⟩:=H.facts _ h
 exact Co.rd.mono h1.2 (bD _) h2
theorem Hp.grM {w1 w0 w:World} {L:List (Nat×Obj)} {F:List cr} {lo hi:Nat} {g:Gr} (H:Hp w0 w L F) (h:J1 w1 lo hi g∈F):g.rd 0 w.heap.size w:=by
 obtain⟨h1,h2,-⟩:=H.facts _ h
 exact Gr.rd.mono h1.2 (bD _) h2
theorem Hp.paM {w1 w0 w:World} {L:List (Nat×Obj)} {F:List cr} {lo hi:Nat} {p:Pa} (H:Hp w0 w L F) (h:tD w1 lo hi p∈F):p.rd 0 w.heap.size w:=by
 obtain⟨h1,h2,-⟩:=H.facts _ h
 exact Pa.rd.mono h1.2 (bD _) h2
def oT (x:An) (v:Value) (w:World):Prop:= ∃ A c,v=.agg #[J x.code,J x.n,.slice A x.texts.length c]/\x.texts.length<=c/\Rd nk 0 w.heap.size A x.texts w
theorem oT.plain (e n:Int) (w:World):oT ⟨e,n,[]⟩ (.agg #[J e,J n,.slice none 0 0]) w:=⟨none,0,rfl,ao _,Rd.nil⟩
def me (w:Wa) (e:Int):Wa×An:=(w,⟨e,0,[]⟩)
def gf (a:Act) (x:An):An:=if a.lost=0 then x else⟨14,0,[]⟩
def fh (l:List Sn) (s:ByteArray):Option Nat:=l.findIdx? fun x=>decide (x.name=s)
def m1:cN:=⟨0,0,0,0,0,false,⟨#[]⟩⟩
def vp (s:ByteArray) (pid ver:Int) (np:Nat):Sn:=⟨s,pid,ver,false,au np 0,none,0,au np m1,none,0⟩
def E2 (l:List Sn) (s:Sn):List Sn:=match fh l s.name with
 |none=>l++[s]
 |some i=>l.set i s
def pi (w:Wa) (a:Act):Wa×An:=if(bT w.co a.name).2.2.2=0 then({w with co:=(bT w.co a.name).1,sns:=E2 w.sns (vp a.name (bT w.co a.name).2.1 (bT w.co a.name).2.2.1 w.ps.length)},⟨0,(bT w.co a.name).2.2.1,[]⟩)else me w (bT w.co a.name).2.2.2
def la (w:Wa) (a:Act):Wa×An:=match (fh w.sns a.name).bind fun i=>w.sns[i]?.map fun s=>(i,s)with
 |none=>me w 5
 |some (i,s)=>if s.inn then me w 6 else({w with sns:=w.sns.set i {s with inn:=true}},⟨0,0,[]⟩)
def uW (w:Wa) (n:Nat) (x:cN):Wa×An:=match w.ps[n]? with
 |none=>me w 5
 |some p=>if(eF p x).2.2=0 then({w with ps:=w.ps.set n (eF p x).1},⟨0,(eF p x).2.1,[]⟩)else me w (eF p x).2.2
def se (w:Wa) (s:Sn) (n:Nat) (x:cN):Co×Int:=if x.txn then oM w.co s.name x.ver n else(w.co,0)
def eo (w:Wa) (s:Sn) (n:Nat):Wa×An:=match s.last[n]? with
 |none=>me w 5
 |some x=>if(se w s n x).2=0 then uW {w with co:=(se w s n x).1} n x else me w (se w s n x).2
def p7 (s:Sn) (n:Nat) (t:ByteArray):Sn:={s with last:=s.last.set n ⟨0,s.pid,s.ver,s.seqs.getD n 0,1,s.inn,t⟩,seqs:=s.seqs.set n (s.seqs.getD n 0+1)}
def m9 (w:Wa) (a:Act) (again:Bool):Wa×An:=match (fh w.sns a.name).bind fun i=>w.sns[i]?.map fun s=>(i,s)with
 |none=>me w 5
 |some (i,s)=>if again=true/\(s.last.getD a.part.toNat m1).kind=0 then me w 15 else
  let s1:=if again then s else p7 s a.part.toNat a.text
  let w1:={w with sns:=w.sns.set i s1}
  if a.lost=1 then me w1 14 else((eo w1 s1 a.part.toNat).1,gf a (eo w1 s1 a.part.toNat).2)
def wg (s:Sn):Sn:={s with inn:=false,last:=s.last.map fun e=>if e.txn then m1 else e}
def jZ (w:Wa) (a:Act):Wa×An:=match (fh w.sns a.name).bind fun i=>w.sns[i]?.map fun s=>(i,s)with
 |none=>me w 5
 |some (i,s)=>if s.inn=false then me w 12 else if a.lost=1 then me w 14 else
  if(k9 w.co s.name s.ver (decide (a.n=1))).2=0 then({w with co:=(k9 w.co s.name s.ver (decide (a.n=1))).1,sns:=if a.lost=0 then w.sns.set i (wg s)else w.sns},gf a ⟨0,0,[]⟩)else(w,gf a ⟨(k9 w.co s.name s.ver (decide (a.n=1))).2,0,[]⟩)
def db (t:Tx):cN:=⟨0,t.pid,t.ver,0,if t.state=4 then 3 else 2,true,⟨#[]⟩⟩
def om (w:Wa) (a:Act):Wa×An:=match g9 w.co.txs a.n.toNat with
 |none=>me w 15
 |some t=>if(uW w (t.parts.headD 0).toNat (db t)).2.code=0 then({(uW w (t.parts.headD 0).toNat (db t)).1 with co:=(qR w.co t.name (t.parts.headD 0)).1},(uW w (t.parts.headD 0).toNat (db t)).2)else uW w (t.parts.headD 0).toNat (db t)
def yv (w:Wa) (a:Act):Wa×An:=({w with co:=(jg w.co a.n).1,gr:=pY w.gr a.n w.ps.length},⟨0,(jg w.co a.n).1.clock,[]⟩)
def lS (p:gu) (a:Act):gu×Int×Int:=
 if a.kind=8 then iY p a.n.toNat else if a.kind=9 then((ob p a.n.toNat).1,0,(ob p a.n.toNat).2)else if a.kind=10 then((kw p a.n.toNat a.m.toNat).1,0,(kw p a.n.toNat a.m.toNat).2)else
 if a.kind=11 then((pZ p a.n.toNat).1,0,(pZ p a.n.toNat).2)else if a.kind=12 then((n9 p a.n.toNat).1,0,(n9 p a.n.toNat).2)else if a.kind=13 then((i4 p a.n.toNat).1,0,(i4 p a.n.toNat).2)else
 if a.kind=14 then((g8 p a.n.toNat).1,0,(g8 p a.n.toNat).2)else((fN p a.n.toNat).1,0,(fN p a.n.toNat).2)
def vo (w:Wa) (a:Act):Wa×An:=match w.ps[a.part.toNat]? with
 |none=>me w 5
 |some p=>if(lS p a).2.2=0 then({w with ps:=w.ps.set a.part.toNat (lS p a).1},⟨0,(lS p a).2.1,[]⟩)else me w (lS p a).2.2
inductive Da (p:gu) (a most:Nat):An->Prop
 |none:p.leader<0->Da p a most ⟨8,0,[]⟩
 |range (l:Nat) (r:RA):p.leader=l->p.reps[l]? =some r->r.es.length<a->Da p a most ⟨2,0,[]⟩
 |ok (l:Nat) (r:RA) (st:Nat) (out:List ByteArray) (b:Nat):p.leader=l->p.reps[l]? =some r->a<=r.es.length->tV (r.es.take r.high.toNat) st->Br r.es r.high.toNat st a most out b->Da p a most ⟨0,(b:Nat),out⟩
inductive qW (w:Wa) (a:Act):An->Prop
 |no:(eN w.gr a.name a.part).2≠0->qW w a ⟨(eN w.gr a.name a.part).2,0,[]⟩
 |yes (p:gu) (x:An):(eN w.gr a.name a.part).2=0->w.ps[a.part.toNat]? =some p->Da p (eN w.gr a.name a.part).1.toNat a.n.toNat x->qW w a x
def G1 (w:Wa) (a:Act):Gr×Int:=if a.kind=16 then tb w.gr a.name w.ps.length else if a.kind=18 then xt w.gr a.name a.n else sx w.gr a.name a.n a.part a.m
def BI (w:Wa) (a:Act):Wa×An:=if(G1 w a).2=0 then({w with gr:=(G1 w a).1},⟨0,(G1 w a).1.gen,[]⟩)else me w (G1 w a).2
theorem GB {l:List Sn} {s:ByteArray} {i:Nat} (h:fh l s=some i): ∃ x,l[i]? =some x/\x.name=s:=by
 obtain⟨hl,h1,-⟩:=bh.1 h
 exact⟨_,ah hl,by simpa using h1⟩
theorem Kw {l:List Sn} {s:ByteArray} {i:Nat} {x:Sn} (hx:l[i]? =some x) (hn:x.name=s) (hno: ∀ y∈l.take i,y.name≠s):fh l s=some i:=by
 unfold fh
 obtain⟨hl,rfl⟩:=cF hx
 rw[bh]
 refine⟨hl,by simpa using hn,fun j hj=> ?_⟩
 have:=hno l[j] (List.mem_take_iff_getElem.2 ⟨j,by omega,rfl⟩)
 simpa using this
theorem GC {l:List Sn} {s:ByteArray} (hno: ∀ y∈l,y.name≠s):fh l s=none:=by
 unfold fh
 rw[du]
 intro x hx
 simpa using hno x hx
def O0 (g:Nat):Option Nat->Value
 |none=> .pointer none
 |some i=> .pointer (some ⟨g,i*zK.sz,none⟩)
theorem dS (e:Int) (w:World):dd aa xV [J e] w fun v w2=>v=.agg #[J e,J 0,.slice none 0 0]/\Below w.heap.size w w2:=by
 refine aF xe Z Z ?_
 have H:=Hp.start w
 refine W<|Zr<|ey H dt Z fun w1 b2 H=>U<|W<|Zr<|G (Yi Z)<|G (bi (cs:= #[J (e),J (0),.slice none 0 0]) iF dt N)<|bk H 0 (#[J (e),J (0),.slice none 0 0]) aQ Z Z Z Z Z N N fun w2 H=>U<|Zt ?_
 exact eO (cs0:= #[J e,J 0,.slice none 0 0]) Z aN Z (H.ent (i:=0) Z) Z ⟨rfl,H.below⟩
theorem Dm (a:Act) (c n:Int) (A:Option Addr) (l k:Nat) (w:World):dd aa vu [a.v,.agg #[J c,J n,.slice A l k]] w fun v w2=>v=(if a.lost=0 then .agg #[J c,J n,.slice A l k]else .agg #[J 14,J 0,.slice none 0 0])/\Below w.heap.size w w2:=by
 refine aF AO Z Z ?_
 have H:=Hp.start w
 show CW _ _ _ _ (args [.agg #[J (a.kind),.string (a.name),J (a.part),J (a.n),J (a.m),.string (a.text),J (a.lost)],.agg #[J c,J n,.slice A l k]]) w
 refine W<|Zr<|fX H Z Z fun w1 b2 H=>fX H Z Z fun w2 b3 H=>ey H dt Z fun w3 b4 H=>U<|W<|W<|Zr<|G (Zf jL Z)<|G (Zd aj H 2 Z Z Z) ?_
 refine rg (i7 Z Z) Z Z Z (fun h7=> ?_) (fun h7=> ?_)
 refine U<|ZT Z<|W<|Zr<|bW bP (dS 14 _) Z Z ?_
 rintro _ w4 ⟨rfl,hb⟩;replace H:=H.later hb;clear hb
 refine bk H 0 (#[J (14),J (0),.slice none 0 0]) aQ Z Z Z Z Z N N fun w5 H=>U<|Zt ?_
 exact eO (cs0:= #[J 14,J 0,.slice none 0 0]) Z aN Z (H.ent (i:=0) Z) Z ⟨(if_neg h7).symm,H.below⟩
 refine U<|ZF Z<|Zk<|W<|Zr<|G (Zw aN H 1 Z Z Z)<|bk H 0 (#[J (c),J (n),.slice A l k]) aQ Z Z Z Z Z N N fun w6 H=>U<|Zt ?_
 exact eO (cs0:= #[J c,J n,.slice A l k]) Z aN Z (H.ent (i:=0) Z) Z ⟨(if_pos (by simpa using h7)).symm,H.below⟩
theorem oh (bb:Nat) (b:Bk) (n:Int) (w:World) (hb:w.heap[bb]? =some (.cells b.c.toArray bM (0,0))):dd aa tu [.pointer (Qd bb),J n] w fun v w2=>v=.bool (decide (0<=n/\n<(b.ps.length:Int)))/\Below w.heap.size w w2:=by
 refine aF sS Z Z ?_
 have H:=Hp.start w
 have hbl:=cd hb
 refine W<|Zr<|G (Wb Z)<|U<|W<|Zr<|G (Yi Z) ?_
 refine cU (kh Z Z) Z Z Z (fun h6=> ?_) (fun h6=> ?_)
 refine G (Yb Z)<|ZG<|G (Yi Z)<|ZG<|G (Yp Z)<|ZG<|G (aK Z)<|ZG<|G (Zf aW Z)<|ZG<|G (Zf dz Z)<|ZG<|G (aV dX Z ((H.below.cell (p:=⟨bb,_,none⟩) hbl).trans (aC (j:=0) hb Z)))<|ZG<|G (bn kM Z)<|ZG ?_
 refine cU (cG Z Z) Z Z Z (fun h15=> ?_) (fun h15=> ?_)
 refine G (Kt Z Z)<|G (Wb Z)<|U<|Zt ?_
 exact cy (v:=.bool true) Z Z ⟨by congr 1;simp only[Bool.true_eq,Bool.false_eq,decide_eq_true_eq,decide_eq_false_iff_not];omega,H.below⟩
 refine G (Kt Z Z)<|G (Wb Z)<|U<|Zt ?_
 exact cy (v:=.bool false) Z Z ⟨by congr 1;simp only[Bool.true_eq,Bool.false_eq,decide_eq_true_eq,decide_eq_false_iff_not];omega,H.below⟩
 refine G (Yb Z)<|ZN<|ZN<|ZN<|ZN<|ZN<|ZN<|ZN<|ZN<|G (N Z Z)<|G (Wb Z)<|U<|Zt ?_
 exact cy (v:=.bool false) Z Z ⟨by congr 1;simp only[Bool.true_eq,Bool.false_eq,decide_eq_true_eq,decide_eq_false_iff_not];omega,H.below⟩
theorem GE (bb:Nat) (b:Bk) (s:ByteArray) (w:World) (hb:w.heap[bb]? =some (.cells b.c.toArray bM (0,0))) (h0:b.sns=[]):dd aa jz [.pointer (Qd bb),.string s] w fun v w2=>v=.pointer none/\Below w.heap.size w w2:=by
 refine aF lZ Z Z ?_
 have H:=Hp.start w
 have hbl:=cd hb
 have hl0:b.sns.length=0:=by rw[h0];rfl
 refine W<|Zr<|G (Wp Z)<|U<|W<|W<|Zr<|G (Yp Z)<|G (aK Z)<|G (Zf aW Z)<|G (Zf km Z)<|G (aV kb Z ((H.below.cell (p:=⟨bb,_,none⟩) hbl).trans (aC (j:=10) hb Z)))<|G (bn tR Z)<|G (Yi Z)<|U<|Zb ?_
 refine ce (τ:=Unit) [4,5,12,13,14,15,16,17,18,19,20,21,22,23,24,25,26,27,28,29,30,31,32,33] (fun _=>[(12,J 0)]) (fun _ w'=>Hp w w' [] []) (fun _=>0) () H (dK Z) ?_
 rintro _ ρ1 w1 H
 show CW _ _ _ _ (dB (gJ _ _ ρ1) [(12,J 0)]) w1
 refine W<|Zr<|G (da Z Z I)<|U<|W<|ZF Z<|Zx<|W<|Zr<|G (Wp Z)<|U<|Zt ?_
 exact cy (v:=.pointer none) Z Z ⟨rfl,H.below⟩
theorem IU (bb:Nat) (b:Bk) (s:ByteArray) (g:Nat) (u:Array Value) (w:World) (hb:w.heap[bb]? =some (.cells b.c.toArray bM (0,0))) (hA:b.snA=some ⟨g,0,none⟩) (row:dW zK b.sns b.snC u) (hg:w.heap[g]? =some (.cells u fy (0,0))) (hl:b.sns.length<=1000000):dd aa jz [.pointer (Qd bb),.string s] w fun v w2=>v=O0 g (fh b.sns s)/\Below w.heap.size w w2:=by
 refine aF lZ Z Z ?_
 have H:=Hp.start w
 have hbl:=cd hb
 have hgl:=cd hg
 obtain⟨ps,pA,pC,co,clo,chi,gr,glo,ghi,sns,snA,snC⟩:=b
 dsimp only at hA row hl
 subst hA
 replace hb:w.heap[bb]? =some (.cells #[.slice pA ps.length pC,J (co.clock),J (co.next),J (co.wait),.slice co.A co.txs.length co.cap,J (gr.clock),J (gr.wait),J (gr.gen),.slice gr.mA gr.ms.length gr.mC,.slice gr.oA gr.os.length gr.oC,.slice (Qd g) sns.length snC] bM (0,0)):=hb
 refine W<|Zr<|G (Wp Z)<|U<|W<|W<|Zr<|G (Yp Z)<|G (aK Z)<|G (Zf aW Z)<|G (Zf km Z)<|G (aV kb Z ((H.below.cell (p:=⟨bb,_,none⟩) hbl).trans (aC (j:=10) hb Z)))<|G (bn tR Z)<|G (Yi Z)<|U<|Zb ?_
 refine ce (τ:=Nat) [4,5,12,13,14,15,16,17,18,19,20,21,22,23,24,25,26,27,28,29,30,31,32,33] (fun i=>[(12,J (i:Nat))]) (fun i w'=>i<=sns.length/\(∀ y∈sns.take i,y.name≠s)/\Hp w w' [] []) (fun i=>sns.length-i) 0 ⟨by omega,by simp,H⟩ (dK Z) ?_
 rintro i ρ1 w1 ⟨hi,hno,H⟩
 show CW _ _ _ _ (dB (gJ _ _ ρ1) [(12,J (i:Nat))]) w1
 refine W<|Zr ?_
 refine cU (cG Z Z) Z Z Z (fun h13=> ?_) (fun h13=> ?_)
 refine U<|W<|ZT Z<|Zk<|W<|Zb<|W ?_
 obtain⟨x,hx⟩: ∃ x,sns[i]? =some x:=⟨_,ah I⟩
 refine Zr<|G (Yi Z)<|G (Wi Z)<|U<|W<|Zr<|G (Yp Z)<|G (aK Z)<|G (Zf aW Z)<|G (Zf km Z)<|G (aV kb Z ((H.below.cell (p:=⟨bb,_,none⟩) hbl).trans (aC (j:=10) hb Z)))<|G (Yi Z)<|G (cD sy Z Z I)<|G (Zf oE Z)<|G (bR bc row hx 0 Z ((H.below.block _ hgl).trans hg) Z)<|G (Yt Z) ?_
 refine cU (vR Z Z) Z Z Z (fun h25=> ?_) (fun h25=> ?_)
 refine U<|ZT Z<|W<|Zr<|G (Yp Z)<|G (aK Z)<|G (Zf aW Z)<|G (Zf km Z)<|G (aV kb Z ((H.below.cell (p:=⟨bb,_,none⟩) hbl).trans (aC (j:=10) hb Z)))<|G (Yi Z)<|G (cD sy Z Z I)<|G (Wp Z)<|U<|Zt ?_
 exact cy (v:=.pointer (some ⟨g,i*zK.sz,none⟩)) Z Z ⟨by dsimp only;rw[Kw hx h25 hno];rfl,H.below⟩
 refine U<|ZF Z<|Zk<|Zr<|G (bu Z Z I I)<|G (Yi Z)<|U ?_
 refine⟨i+1,⟨by omega,fun y hy=> ?_,H⟩,dK Z,Qg,by show sns.length- (i+1)<sns.length-i;omega⟩
 rw[fe hx]at hy
 rcases ar.1 hy with hy|hy
 exact hno y hy
 rw[aq.1 hy];exact h25
 refine U<|W<|ZF Z<|Zx<|W<|Zr<|G (Wp Z)<|U<|Zt ?_
 obtain rfl:i=sns.length:=by omega
 rw[bL]at hno
 exact cy (v:=.pointer none) Z Z ⟨by dsimp only;rw[GC hno];rfl,H.below⟩
def Pj:Option Addr->Nat
 |some A=>A.block
 |none=>0
theorem jw (bb:Nat) (b:Bk) (s:ByteArray) (Ls:List (Nat×Obj)) (w:World) (hb:w.heap[bb]? =some (.cells b.c.toArray bM (0,0))) (hsn:f4 zK (.slice b.snA b.sns.length b.snC) fy b.sns Ls) (hLs: ∀ q∈Ls,w.heap[q.1]? =some q.2) (hl:b.sns.length<=1000000):dd aa jz [.pointer (Qd bb),.string s] w fun v w2=>v=O0 (Pj b.snA) (fh b.sns s)/\Below w.heap.size w w2:=by
 by_cases h0:b.sns=[]
 refine(GE bb b s w hb h0).mono fun v w2 ⟨h1,h2⟩=>⟨?_,h2⟩
 rw[h1,h0];rfl
 obtain⟨g,u,hA,hL,row⟩:=hsn.row (List.length_pos_iff.2 h0)
 subst hL
 refine(IU bb b s g u w hb hA row (hLs _ (aq.2 Z)) hl).mono fun v w2 ⟨h1,h2⟩=>⟨?_,h2⟩
 rw[h1,hA];rfl
theorem CS (X:List (Nat×Obj)) (a b:Nat×Obj) (La Lb K:List (Nat×Obj)):(X++(a::b::(La++(Lb++K)))).Perm (X++((La++(a::b::Lb))++K)):=by
 refine List.Perm.append_left _ ?_
 rw[show(La++(a::b::Lb))++K=La++([a,b]++(Lb++K)) by simp]
 exact fY [a,b] La (Lb++K)
theorem Bw.close {w0 w':World} {bb gP gS gq gl pC snC clo chi glo ghi i:Nat} {uP uS uq ul:Array Value} {La Lb K X:List (Nat×Obj)} {F0 F':List cr} {ps:List Pq} {co:Co} {gr:Gr} {sns:List Sn} {s:Sn} {C:Array Value} (row:dW Bv ps pC uP) (rowS:dW zK (sns.set i s) snC uS) (hset: ∀ (s':Sn) (gq':Nat) (uq':Array Value) (gl':Nat) (ul':Array Value),s'.sA=some ⟨gq',0,none⟩->s'.lA=some ⟨gl',0,none⟩->dW bS s'.seqs s'.sC uq'->dW gk s'.last s'.lC ul'->qr (sns.set i s') (La++((gq',.cells uq' cY (0,0))::(gl',.cells ul' cZ (0,0))::Lb)))
  (hsA:s.sA=some ⟨gq,0,none⟩) (hlA:s.lA=some ⟨gl,0,none⟩) (rowq:dW bS s.seqs s.sC uq) (rowl:dW gk s.last s.lC ul) (hco:xz w0 clo chi co∈F') (hgr:J1 w0 glo ghi gr∈F') (hps: ∀ q∈ps,tD w0 q.lo q.hi q.p∈F') (hF: ∀ f∈F0,f∈F')
  (H:Hp w0 w' (X++((bb,.cells C bM (0,0))::(gP,.cells uP bC (0,0))::(gS,.cells uS fy (0,0))::(gq,.cells uq cY (0,0))::(gl,.cells ul cZ (0,0))::(La++(Lb++K)))) F') (hC:C=(Bk.mk ps (Qd gP) pC co clo chi gr glo ghi (sns.set i s) (Qd gS) snC).c.toArray):xA w0 w' bb ⟨ps,some ⟨gP,0,none⟩,pC,co,clo,chi,gr,glo,ghi,sns.set i s,some ⟨gS,0,none⟩,snC⟩ K F0:=by
 subst hC
 refine⟨gP,uP,_,_,F',⟨rfl,row,dW.own rowS,hset s gq uq gl ul hsA hlA rowq rowl,hco,hgr,hps,?_⟩,hF⟩
 have H1:=H.forget (ci X _) (fun _ h=>h)
 exact H1.perm (CS [(bb,_),(gP,_),(gS,_)] _ _ La Lb K).symm
theorem zi (l:List Sn) (s:ByteArray):fh (l.map Sn.a) s=fh l s:=by
 unfold fh
 rw[Dc]
 rfl
theorem wD {l:List Sn} {s:ByteArray} {i:Nat} {x:Sn} (hix:fh l s=some i) (hx:l[i]? =some x):((fh (l.map Sn.a) s).bind fun i=>(l.map Sn.a)[i]?.map fun s=>(i,s))=some (i,x.a):=by
 rw[zi,hix]
 simp[hx]
theorem Dq {l:List Sn} {s:ByteArray} (hix:fh l s=none):((fh (l.map Sn.a) s).bind fun i=>(l.map Sn.a)[i]?.map fun s=>(i,s))=none:=by
 rw[zi,hix]
 rfl
theorem Bw.shut {w0 w':World} {bb gP pC snC clo chi glo ghi:Nat} {uP:Array Value} {Ls Lo K X:List (Nat×Obj)} {F0 F':List cr} {ps:List Pq} {co:Co} {gr:Gr} {sns:List Sn} {snA:Option Addr} {C:Array Value} (row:dW Bv ps pC uP) (hsn:f4 zK (.slice snA sns.length snC) fy sns Ls) (hown:qr sns Lo) (hco:xz w0 clo chi co∈F') (hgr:J1 w0 glo ghi gr∈F') (hps: ∀ q∈ps,tD w0 q.lo q.hi q.p∈F') (hF: ∀ f∈F0,f∈F')
  (H:Hp w0 w' (X++((bb,.cells C bM (0,0))::(gP,.cells uP bC (0,0))::(Ls++(Lo++K)))) F') (hC:C=(Bk.mk ps (Qd gP) pC co clo chi gr glo ghi sns snA snC).c.toArray):xA w0 w' bb ⟨ps,some ⟨gP,0,none⟩,pC,co,clo,chi,gr,glo,ghi,sns,snA,snC⟩ K F0:=by
 subst hC
 exact⟨gP,uP,_,_,F',⟨rfl,row,hsn,hown,hco,hgr,hps,H.forget (ci X _) (fun _ h=>h)⟩,hF⟩
theorem xq {b:Bk} {a:Act} {i:Nat} {x:Sn} (hix:fh b.sns a.name=some i) (hx:b.sns[i]? =some x) (h:x.inn=true):la b.a a=(b.a,⟨6,0,[]⟩):=by
 unfold la
 rw[show b.a.sns=b.sns.map Sn.a from rfl,wD hix hx]
 dsimp only
 rw[if_pos (show x.a.inn=true from h)]
 rfl
theorem C6 {b:Bk} {a:Act} {i:Nat} {x:Sn} (hix:fh b.sns a.name=some i) (hx:b.sns[i]? =some x) (h:x.inn=false):la b.a a=({b.a with sns:=(b.sns.set i {x with inn:=true}).map Sn.a},⟨0,0,[]⟩):=by
 unfold la
 rw[show b.a.sns=b.sns.map Sn.a from rfl,wD hix hx]
 dsimp only
 rw[if_neg (show¬ x.a.inn=true by show¬ x.inn=true;rw[h];decide),cz]
 rfl
theorem yQ {b:Bk} {a:Act} (hix:fh b.sns a.name=none):la b.a a=(b.a,⟨5,0,[]⟩):=by
 unfold la
 rw[show b.a.sns=b.sns.map Sn.a from rfl,Dq hix]
 rfl
theorem eY {α:Type} {l:List α} {k:Nat} {a:α} (h:l[k]? =some a):l.set k a=l:=by
 apply eK
 intro j
 rw[lE]
 split
 rename_i hj
 subst hj
 split
 exact h.symm
 rename_i hl
 rw[cJ I]at h;cases h
 rfl
theorem HA {w0 w:World} {bb:Nat} {b:Bk} {gP:Nat} {uP:Array Value} {Ls Lo K:List (Nat×Obj)} {F:List cr} (a:Act) (B:Bw w0 w bb b gP uP Ls Lo K F) (hsl:b.sns.length<=1000000) (hix:fh b.sns a.name=none):dd aa jU [.pointer (Qd bb),a.v] w fun v w2=> ∃ b':Bk,oT (la b.a a).2 v w2/\b'.a=(la b.a a).1/\xA w0 w2 bb b' K F:=by
 refine aF mK Z Z ?_
 obtain⟨ps,pA,pC,co,clo,chi,gr,glo,ghi,sns,snA,snC⟩:=b
 obtain⟨hpA,row,hsn,hown,hco,hgr,hps,H⟩:=B
 dsimp only at hpA row hsn hown hco hgr hps
 subst hpA
 replace H:Hp w0 w ((bb,.cells #[.slice (Qd gP) ps.length pC,J (co.clock),J (co.next),J (co.wait),.slice co.A co.txs.length co.cap,J (gr.clock),J (gr.wait),J (gr.gen),.slice gr.mA gr.ms.length gr.mC,.slice gr.oA gr.os.length gr.oC,.slice snA sns.length snC] bM (0,0))::(gP,.cells uP bC (0,0))::(Ls++(Lo++K))) F:=H
 dsimp only at hix hsl
 show CW _ _ _ _ (args [.pointer (Qd bb),.agg #[J (a.kind),.string (a.name),J (a.part),J (a.n),J (a.m),.string (a.text),J (a.lost)]]) w
 refine W<|Zr<|fX H Z Z fun w1 b3 H=>ey H dt Z fun w2 b4 H=>U<|W<|Zr<|G (Yp Z)<|G (Zf fb Z)<|G (Zd bc H 1 Z Z Z)<|bW dE (jw bb ⟨ps,some ⟨gP,0,none⟩,pC,co,clo,chi,gr,glo,ghi,sns,snA,snC⟩ (a.name) Ls _ (H.ent (i:=2) Z) hsn (fun q hq=>(H.ents q (by simp only[av,ar];grind)).1) hsl) Z Z ?_
 rintro _ w3 ⟨rfl,hb⟩;replace H:=H.later hb;clear hb
 rw[hix]
 refine G (Wp Z)<|U<|W<|Zb<|W<|Zr<|G (Yp Z)<|G (xK iO Z)<|G (Wb Z)<|U<|ZT Z<|W<|Zr<|bW bP (dS 5 _) Z Z ?_
 rintro _ w4 ⟨rfl,hb⟩;replace H:=H.later hb;clear hb
 refine bk H 0 (#[J (5),J (0),.slice none 0 0]) aQ Z Z Z Z Z N N fun w5 H=>U<|Zt ?_
 exact eO (cs0:= #[J (5),J (0),.slice none 0 0]) Z aN Z (H.ent (i:=0) Z) Z ⟨⟨ps,some ⟨gP,0,none⟩,pC,co,clo,chi,gr,glo,ghi,sns,snA,snC⟩,by rw[yQ hix];exact oT.plain _ _ _,by rw[yQ hix],Bw.shut (X:=[(b4,_),(b3,_)]) row hsn hown hco hgr hps (fun _ h=>h) H Z⟩
theorem Hz {w0 w:World} {bb:Nat} {b:Bk} {gP:Nat} {uP:Array Value} {Ls Lo K:List (Nat×Obj)} {F:List cr} (a:Act) (B:Bw w0 w bb b gP uP Ls Lo K F) (hsl:b.sns.length<=1000000) {i:Nat} {x:Sn} (hix:fh b.sns a.name=some i) (hx:b.sns[i]? =some x):dd aa jU [.pointer (Qd bb),a.v] w fun v w2=> ∃ b':Bk,oT (la b.a a).2 v w2/\b'.a=(la b.a a).1/\xA w0 w2 bb b' K F:=by
 refine aF mK Z Z ?_
 obtain⟨ps,pA,pC,co,clo,chi,gr,glo,ghi,sns,snA,snC⟩:=b
 obtain⟨hpA,row,hsn,hown,hco,hgr,hps,H⟩:=B
 dsimp only at hpA row hsn hown hco hgr hps
 subst hpA
 dsimp only at hix hx
 obtain⟨gS,uS,hgS,hLs,rowS⟩:=hsn.row (by have:=(cF hx).1;omega)
 subst hgS;subst hLs
 obtain⟨gq,uq,gl,ul,La,Lb,hsA,hlA,rowq,rowl,hLo,hset⟩:=hown.at_ hx
 subst hLo
 replace H:Hp w0 w ((bb,.cells #[.slice (Qd gP) ps.length pC,J (co.clock),J (co.next),J (co.wait),.slice co.A co.txs.length co.cap,J (gr.clock),J (gr.wait),J (gr.gen),.slice gr.mA gr.ms.length gr.mC,.slice gr.oA gr.os.length gr.oC,.slice (Qd gS) sns.length snC] bM (0,0))::(gP,.cells uP bC (0,0))::(gS,.cells uS fy (0,0))::(gq,.cells uq cY (0,0))::(gl,.cells ul cZ (0,0))::(La++(Lb++K))) F:=H.perm (CS [(bb,_),(gP,_),(gS,_)] _ _ La Lb K)
 dsimp only at hsl
 show CW _ _ _ _ (args [.pointer (Qd bb),.agg #[J (a.kind),.string (a.name),J (a.part),J (a.n),J (a.m),.string (a.text),J (a.lost)]]) w
 refine W<|Zr<|fX H Z Z fun w1 b3 H=>ey H dt Z fun w2 b4 H=>U<|W<|Zr<|G (Yp Z)<|G (Zf fb Z)<|G (Zd bc H 1 Z Z Z)<|bW dE (jw bb ⟨ps,some ⟨gP,0,none⟩,pC,co,clo,chi,gr,glo,ghi,sns,some ⟨gS,0,none⟩,snC⟩ (a.name) _ _ (H.ent (i:=2) Z) (dW.own rowS) (fun q hq=>by rw[aq.1 hq];exact(H.ent (i:=4) Z)) hsl) Z Z ?_
 rintro _ w3 ⟨rfl,hb⟩;replace H:=H.later hb;clear hb
 rw[hix]
 refine G (Wp Z)<|U<|W<|Zb<|W<|Zr<|G (Yp Z)<|G (vT iO Z)<|G (Wb Z)<|U<|ZF Z<|W<|Zr<|G (Yp Z)<|G (aK Z)<|G (Zf oD Z) ?_
 refine wq (bR dT rowS hx 3 Z (H.ent (i:=4) Z) Z) Z Z Z (fun h18=> ?_) (fun h18=> ?_)
 refine G (Wb Z)<|U<|ZT Z<|W<|Zr<|bW bP (dS 6 _) Z Z ?_
 rintro _ w4 ⟨rfl,hb⟩;replace H:=H.later hb;clear hb
 refine bk H 0 (#[J (6),J (0),.slice none 0 0]) aQ Z Z Z Z Z N N fun w5 H=>U<|Zt ?_
 exact eO (cs0:= #[J (6),J (0),.slice none 0 0]) Z aN Z (H.ent (i:=0) Z) Z ⟨⟨ps,some ⟨gP,0,none⟩,pC,co,clo,chi,gr,glo,ghi,sns.set i x,some ⟨gS,0,none⟩,snC⟩,by rw[xq hix hx h18];exact oT.plain _ _ _,by rw[xq hix hx h18,eY hx],Bw.close (X:=[(b4,_),(b3,_)]) row (by rw[eY hx];exact rowS) hset hsA hlA rowq rowl hco hgr hps (fun _ h=>h) H (by rw[eY hx];rfl)⟩
 refine G (Wb Z)<|U<|ZF Z<|Zk<|W<|Zr<|G (Yp Z)<|G (aK Z)<|G (Zf oD Z)<|kX H 4 ({x with inn:=true}) iK rowS hx 3 Z Z Z Z Z Z N fun w7 cur6 row6 H=> ?_
 have hs8:(sns.set i ({x with inn:=true}))[i]? =some ({x with inn:=true}):=am (cF hx).1
 refine U<|W<|Zr<|G (bi (cs:= #[J (0),J (0),.slice none 0 0]) iF dt N)<|bk H 0 (#[J (0),J (0),.slice none 0 0]) aQ Z Z Z Z Z N N fun w9 H=>U<|Zt ?_
 exact eO (cs0:= #[J (0),J (0),.slice none 0 0]) Z aN Z (H.ent (i:=0) Z) Z ⟨⟨ps,some ⟨gP,0,none⟩,pC,co,clo,chi,gr,glo,ghi,sns.set i {x with inn:=true},some ⟨gS,0,none⟩,snC⟩,by rw[C6 hix hx h18];exact oT.plain _ _ _,by rw[C6 hix hx h18];rfl,Bw.close (X:=[(b4,_),(b3,_)]) row row6 hset hsA hlA rowq rowl hco hgr hps (fun _ h=>h) H (by simp only[Bk.c,ab])⟩
def Mu:Deep Co:=⟨fun c=>c.rd,fun _ _ _ _ _ hk h=>h.st hk,fun _ _ _ _ _ _ h h1 h2=>h.mono h1 h2⟩
def p6:Nat->ByteArray
 |0=>⟨#[97,110,110]⟩
 |1=>⟨#[98,111,98]⟩
 |_=>⟨#[99,121]⟩
theorem M4:bO ⟨#[97,110,110]⟩=true:=by kernel_rfl
theorem M3:bO ⟨#[98,111,98]⟩=true:=by kernel_rfl
theorem zn:bO ⟨#[99,121]⟩=true:=by kernel_rfl
theorem rc: ∀ m:Nat,bO (p6 m)=true
 |0=>M4
 |1=>M3
 |_+2=>zn
theorem K0 {m:Nat} (h:m<3):(qi [.string ⟨#[97,110,110]⟩,.string ⟨#[98,111,98]⟩,.string ⟨#[99,121]⟩]).toArray[0+((m:Nat):Int).toNat*1]? =some (.string (p6 m)):=by
 match m,h with
 |0,_=>rfl
 |1,_=>rfl
 |2,_=>rfl
def Cl (P:ByteArray->Prop) (wt:Int) (c:Co):Prop:=c.wait=wt/\ ∀ t∈c.txs,P t.name
theorem Cl.set {P:ByteArray->Prop} {wt:Int} {c:Co} {i:Nat} {t t':Tx} (h:Cl P wt c) (hi:c.txs[i]? =some t) (hn:t'.name=t.name):Cl P wt (qJ c i t'):=⟨h.1,fun x hx=>by
 rcases DF hx with hx|rfl
 exact h.2 x hx
 rw[hn];exact h.2 t (ae hi)⟩
theorem Cl.add {P:ByteArray->Prop} {wt:Int} {c:Co} {s:ByteArray} {ver p:Int} (h:Cl P wt c) (he:(oM c s ver p).2=0):Cl P wt (oM c s ver p).1:=by
 unfold oM at he⊢
 split
 rename_i hf;rw[hf]at he;cases he
 rename_i i t hf
 rw[hf]at he
 dsimp only at he
 split at he
 cases he
 rename_i hv
 rw[if_neg hv]
 split at he
 rename_i h1
 rw[if_pos h1]
 exact h.set (jj hf).2.1 (by unfold iz;split<;>rfl)
 cases he
theorem Cl.done {P:ByteArray->Prop} {wt:Int} {c:Co} {s:ByteArray} {p:Int} (h:Cl P wt c) (he:(qR c s p).2=0):Cl P wt (qR c s p).1:=by
 unfold qR at he⊢
 split
 rename_i hf;rw[hf]at he;cases he
 rename_i i t hf
 rw[hf]at he
 dsimp only at he
 split at he
 rename_i h1
 rw[if_pos h1]
 split at he
 rename_i h2
 rw[if_pos h2]
 exact h.set (jj hf).2.1 (by unfold gF;split<;>rfl)
 cases he
 cases he
theorem Cl.tick {P:ByteArray->Prop} {wt:Int} {c:Co} {n:Int} (h:Cl P wt c) (he:(jg c n).2=0):Cl P wt (jg c n).1:=by
 unfold jg at he⊢
 split at he
 cases he
 rename_i h1
 rw[if_neg h1]
 refine⟨h.1,fun t ht=> ?_⟩
 obtain⟨x,hx,rfl⟩:=bz.1 (show t∈c.txs.map _ from ht)
 have:(fj (c.clock+n) c.wait x).name=x.name:=by unfold fj;split<;>rfl
 rw[this];exact h.2 x hx
theorem Cl.a {P:ByteArray->Prop} {wt:Int} {c:Co} (h:Cl P wt c):Cl P wt c.a:=⟨h.1,fun t ht=>by
 obtain⟨x,hx,rfl⟩:=bz.1 (show t∈c.txs.map Tx.a from ht)
 exact h.2 x hx⟩
theorem Cl.of_a {P:ByteArray->Prop} {wt:Int} {c:Co} (h:Cl P wt c.a):Cl P wt c:=⟨h.1,fun t ht=>h.2 t.a (bI (f:=Tx.a) ht)⟩
def NN (s:ByteArray):Prop:= ∃ m,s=p6 m
def Qi (k:Nat) (c:Co):Prop:=oS k c/\Cl NN 10 c
theorem Qi.next {k:Nat} {r:Co×Int} {c':Co} (h1:r.2=0->oS (k+1) r.1) (h2:r.2=0->Cl NN 10 r.1) (ha:c'.a=r.1):r.2=0->Qi (k+1) c':=fun h=>⟨oS.of_a (ha▸h1 h),Cl.of_a (ha▸h2 h)⟩
theorem Lh (n:Int) (w:World) (hn:i64 n):dd aa uZ [J n] w fun v w2=>v=.string (p6 (pk n 3))/\Below w.heap.size w w2:=by
 refine aF t5 Z Z ?_
 have H:=Hp.start w
 refine W<|Zr<|G (Wt Z)<|U<|W<|Zr<|tf (vs:=[.string ⟨#[97,110,110]⟩,.string ⟨#[98,111,98]⟩,.string ⟨#[99,121]⟩]) H ik ww Z Z Z Z Z Z fun w1 b3 H=>G (Yi Z)<|bW aM (dq n 3 _ hn.1 hn.2 I I) Z Z ?_
 rintro _ w2 ⟨rfl,hb⟩;replace H:=H.later hb;clear hb
 have hm:=i6 n (show 0<3 by omega)
 refine G (qM ik Z Z I I)<|G (aV bc Z (aC (H.ent (i:=0) Z) (K0 hm)))<|G (Wt Z)<|U<|Zt ?_
 exact cy Z Z ⟨rfl,H.below⟩
theorem HX {w:Wa} {n:Nat} {x:cN} {p:gu} (h:w.ps[n]? =some p):uW w n x=if(eF p x).2.2=0 then({w with ps:=w.ps.set n (eF p x).1},⟨0,(eF p x).2.1,[]⟩)else me w (eF p x).2.2:=by
 unfold uW
 rw[h]
theorem z9 {ps:List Pq} {n:Nat} {q y:Pq} (h:y∈ps.set n q):y∈ps∨y=q:=bH h
theorem Ba {w0 w:World} {bb gP gS gq gl pC snC clo chi k i n:Nat} {uP uS uq ul:Array Value} {R:List (Nat×Obj)} {F:List cr} {ps:List Pq} {co:Co} {gr:Gr} {sns:List Sn} {x:Sn} (H:Hp w0 w ((bb,.cells #[.slice (Qd gP) ps.length pC,J (co.clock),J (co.next),J (co.wait),.slice co.A co.txs.length co.cap,J (gr.clock),J (gr.wait),J (gr.gen),.slice gr.mA gr.ms.length gr.mC,.slice gr.oA gr.os.length gr.oC,.slice (Qd gS) sns.length snC] bM (0,0))::(gP,.cells uP bC (0,0))::(gS,.cells uS fy (0,0))::(gq,.cells uq cY (0,0))::(gl,.cells ul cZ (0,0))::R) F) (row:dW Bv ps pC uP) (rowS:dW zK sns snC uS) (rowl:dW gk x.last x.lC ul) (hx:sns[i]? =some x) (hlA:x.lA=some ⟨gl,0,none⟩) (hco:xz w0 clo chi co∈F) (hps: ∀ q∈ps,tD w0 q.lo q.hi q.p∈F) (hn:n<x.last.length) (hnp:n<ps.length) (hn4:n<4) (hnm:bO x.name=true) (hcb:oS k co) (hpk: ∀ q∈ps,q.p.a.ok/\ ∀ (l:Nat) (y:eR),q.p.leader=l->q.p.reps[l]? =some y->y.es.length<400):dd aa r6 [.pointer (Qd bb),.pointer (some ⟨gS,i*zK.sz,none⟩),J (n:Nat)] w fun v w2=> ∃ (ps':List Pq) (uP':Array Value) (co':Co) (clo' chi':Nat) (F':List cr),oT (eo (Wa.mk (ps.map fun q=>q.p.a) co.a gr.a (sns.map Sn.a)) x.a n).2 v w2/\(eo (Wa.mk (ps.map fun q=>q.p.a) co.a gr.a (sns.map Sn.a)) x.a n).1=Wa.mk (ps'.map fun q=>q.p.a) co'.a gr.a (sns.map Sn.a)/\dW Bv ps' pC uP'/\ps'.length=ps.length/\xz w0 clo' chi' co'∈F'/\(∀ q∈ps',tD w0 q.lo q.hi q.p∈F')/\(∀ f∈F,f∈F')/\Hp w0 w2 ((bb,.cells #[.slice (Qd gP) ps'.length pC,J (co'.clock),J (co'.next),J (co'.wait),.slice co'.A co'.txs.length co'.cap,J (gr.clock),J (gr.wait),J (gr.gen),.slice gr.mA gr.ms.length gr.mC,.slice gr.oA gr.os.length gr.oC,.slice (Qd gS) sns.length snC] bM (0,0))::(gP,.cells uP' bC (0,0))::(gS,.cells uS fy (0,0))::(gq,.cells uq cY (0,0))::(gl,.cells ul cZ (0,0))::R) F':=by
 refine aF rG Z Z ?_
 obtain⟨e,he⟩: ∃ e,x.last[n]? =some e:=⟨_,ah hn⟩
 have hl5:(zK.f x)[5]? =some (.slice (some ⟨gl,0,none⟩) x.last.length x.lC):=by rw[<-hlA];rfl
 obtain⟨q,hq⟩: ∃ q,ps[n]? =some q:=⟨_,ah hnp⟩
 have hqm:=ae hq
 have hpC:=row.le
 have hD:eo (Wa.mk (ps.map fun q=>q.p.a) co.a gr.a (sns.map Sn.a)) x.a n=if(se (Wa.mk (ps.map fun q=>q.p.a) co.a gr.a (sns.map Sn.a)) x.a n e).2=0 then uW (Wa.mk (ps.map fun q=>q.p.a) (se (Wa.mk (ps.map fun q=>q.p.a) co.a gr.a (sns.map Sn.a)) x.a n e).1 gr.a (sns.map Sn.a)) n e else me (Wa.mk (ps.map fun q=>q.p.a) co.a gr.a (sns.map Sn.a)) (se (Wa.mk (ps.map fun q=>q.p.a) co.a gr.a (sns.map Sn.a)) x.a n e).2:=by unfold eo;rw[show x.a.last[n]? =some e from he]
 rw[hD]
 have hP:=HX (w:=Wa.mk (ps.map fun q=>q.p.a) (se (Wa.mk (ps.map fun q=>q.p.a) co.a gr.a (sns.map Sn.a)) x.a n e).1 gr.a (sns.map Sn.a)) (n:=n) (x:=e) (p:=q.p.a) (by rw[aJ,hq];rfl)
 refine W<|Zr<|ey H dt Z fun w1 b6 H=>U<|W<|Zr<|G (Yp Z)<|G (aK Z)<|G (Zf l7 Z)<|G (bR nv rowS hx 5 Z (H.ent (i:=3) Z) hl5)<|G (Yi Z)<|G (cD dg Z Z (by first|omega|(simp only[ab];omega)))<|G (oW dw rowl he Z Z (H.ent (i:=5) Z))<|ey H gi Z fun w2 b7 H=>bk H 0 (#[J (e.epoch),J (e.pid),J (e.ver),J (e.seq),J (e.kind),.bool (e.txn),.string (e.text)]) eS Z Z Z Z Z N N fun w3 H=>U<|W<|W<|Zr<|G (Zf iZ Z)<|G (Zd dT H 0 Z Z Z)<|U ?_
 refine eD (τ:=Co×Nat×Nat×List cr) [8,9,22,23,24,25,26,27,28,29,30,31,32,33,34,35,36,37,38,39,40,41,42,43,44,45,46] (fun _=>[]) (fun(c2,l2,h2,F2) w'=>c2.a=(se (Wa.mk (ps.map fun q=>q.p.a) co.a gr.a (sns.map Sn.a)) x.a n e).1/\(se (Wa.mk (ps.map fun q=>q.p.a) co.a gr.a (sns.map Sn.a)) x.a n e).2=0/\xz w0 l2 h2 c2∈F2/\(∀ f∈F,f∈F2)/\Hp w0 w' ((b7,.cells #[J (e.epoch),J (e.pid),J (e.ver),J (e.seq),J (e.kind),.bool (e.txn),.string (e.text)] cZ (0,0))::(b6,.cells #[J (0),J (0),.slice none 0 0] ee (0,0))::(bb,.cells #[.slice (Qd gP) ps.length pC,J (c2.clock),J (c2.next),J (c2.wait),.slice c2.A c2.txs.length c2.cap,J (gr.clock),J (gr.wait),J (gr.gen),.slice gr.mA gr.ms.length gr.mC,.slice gr.oA gr.os.length gr.oC,.slice (Qd gS) sns.length snC] bM (0,0))::(gP,.cells uP bC (0,0))::(gS,.cells uS fy (0,0))::(gq,.cells uq cY (0,0))::(gl,.cells ul cZ (0,0))::R) F2) ?_ ?_
 refine jq Z (fun hc21=> ?_) (fun hc21=> ?_)
 refine W ?_
 refine eD (τ:=Co×Nat×Nat×Nat) [8,9,22,23,24,25,26,27,28,29,30,31,32,33,34,35,36,37] (fun(_,b8,_,_)=>[(8,.pointer (Qd b8)),(9,J (oM co.a x.name e.ver n).2)]) (fun(c3,b8,lo,hi) w'=>c3.a=(oM co.a x.name e.ver n).1/\Hp w0 w' ((b8,.cells #[J (c3.clock),J (c3.next),J (c3.wait),.slice c3.A c3.txs.length c3.cap] bf (0,0))::(b7,.cells #[J (e.epoch),J (e.pid),J (e.ver),J (e.seq),J (e.kind),.bool (e.txn),.string (e.text)] cZ (0,0))::(b6,.cells #[J (0),J (0),.slice none 0 0] ee (0,0))::(bb,.cells #[.slice (Qd gP) ps.length pC,J (co.clock),J (co.next),J (co.wait),.slice co.A co.txs.length co.cap,J (gr.clock),J (gr.wait),J (gr.gen),.slice gr.mA gr.ms.length gr.mC,.slice gr.oA gr.os.length gr.oC,.slice (Qd gS) sns.length snC] bM (0,0))::(gP,.cells uP bC (0,0))::(gS,.cells uS fy (0,0))::(gq,.cells uq cY (0,0))::(gl,.cells ul cZ (0,0))::R) (xz w0 lo hi c3::F)) ?_ ?_
 refine oH bY 16 12 [12,13,14,15,17,18] [16] [0,1,2,3,5,6,7,9,11] [16,17,18] [12] [0,1,2,3,5,6,7,9,11,13,14,15] (sp [(16,Sp.blk w3.heap.size (.agg #[J 0,J 0,J 0,.slice none 0 0]) bf)]) (sp [(12,Sp.deep w3.heap.size Mu (fun c:Co=>c.c.toArray) (fun cs=> .tuple #[.agg cs,J (oM co.a x.name e.ver n).2]) (fun cq:Co=>cq.a=(oM co.a x.name e.ver n).1))]) N N N N (cH _) (cH _) ?_ ?_
 refine jD [0,1,2,3,4,5,6,7,8,9,10,11,16] [12,13,14,15,17,18] [16] [0,1,2,3,5,6,7,9,11] 5 (sp [(16,Sp.blk w3.heap.size (.agg #[J 0,J 0,J 0,.slice none 0 0]) bf)]) N N N Nq<|aw Z Z Z Z Z (fun w' hw'=>Yp Z)<|aw Z Z Z Z Z (fun w' hw'=>aK Z)<|aw Z Z Z Z Z (fun w' hw'=>Zf aW Z)<|aw Z Z Z Z Z (fun w' hw'=>Zf eB Z)<|aw Z Z Z Z Z (fun w' hw'=>jJ 1 [J (co.clock),J (co.next),J (co.wait),.slice co.A co.txs.length co.cap] ax Z Z ((H.later hw').ent (i:=2) Z) Z)<|aw Z Z Z Z Z (fun w' hw'=>Yp Z)<|aw Z Z Z Z Z (fun w' hw'=>aK Z)<|aw Z Z Z Z Z (fun w' hw'=>Zf oE Z)<|aw Z Z Z Z Z (fun w' hw'=>bR bc rowS hx 0 Z ((H.later hw').ent (i:=4) Z) Z)<|aw Z Z Z Z Z (fun w' hw'=>Zf eC Z)<|aw Z Z Z Z Z (fun w' hw'=>aV aj Z (aC ((H.later hw').ent (i:=0) Z) Z))<|aw Z Z Z Z Z (fun w' hw'=>Yi Z)<|xu cK Z Z Z Z Z (fun w' hw'=>hw'.size) fun b8=>aT ?_
 intro w4 hw' hF
 obtain⟨hF,bq,eq,hge8,hbl8⟩:=hF;cases eq
 replace H:=H.adoptNew hw' hbl8 hge8
 clear hw' hF
 refine de 12 N Z<|bW xp (Gg co x.name e.ver n k _ (Hp.coM H hco) hcb hnm I I) Z Z ?_
 rintro _ w5 ⟨c3,rfl,hac3,hnc3⟩;replace H:=H.learn hnc3.2 (xz w0 w4.heap.size w5.heap.size c3) ⟨H.size,hnc3.1⟩ (ao _) (ao _);clear hnc3
 refine U<|bA 13 N N N Z Z Z Z Nq (fun _=>Yu Z)<|bA 14 N N N Z Z Z Z Nq (fun _=>Xa Z Z)<|bA 15 N N N Z Z Z Z Nq (fun _=>Xi Z Z)<|de 17 N Z<|bk H 0 (#[J (c3.clock),J (c3.next),J (c3.wait),.slice c3.A c3.txs.length c3.cap]) aH Z Z Z Z Z N N fun w6 H=>U<|bA 18 N N N Z Z Z Z Nq (fun _=>Wi Z)<|cB N ?_
 exact⟨(c3,b8,_,_),⟨hac3,H⟩,lh Z Z,Qg⟩
 refine jD [0,1,2,3,4,5,6,7,8,9,10,11,12,13,14,15] [16,17,18] [12] [0,1,2,3,5,6,7,9,11,13,14,15] 2 (sp [(12,Sp.deep w3.heap.size Mu (fun c:Co=>c.c.toArray) (fun cs=> .tuple #[.agg cs,J (oM co.a x.name e.ver n).2]) (fun cq:Co=>cq.a=(oM co.a x.name e.ver n).1))]) N N N Nq<|aw Z Z Z Z Z (fun w' hw'=>Yp Z)<|aw Z Z Z Z Z (fun w' hw'=>aK Z)<|aw Z Z Z Z Z (fun w' hw'=>Zf aW Z)<|aw Z Z Z Z Z (fun w' hw'=>Zf eB Z)<|aw Z Z Z Z Z (fun w' hw'=>jJ 1 [J (co.clock),J (co.next),J (co.wait),.slice co.A co.txs.length co.cap] ax Z Z ((H.later hw').ent (i:=2) Z) Z)<|aw Z Z Z Z Z (fun w' hw'=>Yp Z)<|aw Z Z Z Z Z (fun w' hw'=>aK Z)<|aw Z Z Z Z Z (fun w' hw'=>Zf oE Z)<|aw Z Z Z Z Z (fun w' hw'=>bR bc rowS hx 0 Z ((H.later hw').ent (i:=4) Z) Z)<|aw Z Z Z Z Z (fun w' hw'=>Zf eC Z)<|aw Z Z Z Z Z (fun w' hw'=>aV aj Z (aC ((H.later hw').ent (i:=0) Z) Z))<|aw Z Z Z Z Z (fun w' hw'=>Yi Z)<|s5 (gv:=(fun cs=> .tuple #[.agg cs,J (oM co.a x.name e.ver n).2])) xp Z Z Z Z Z (fun w' hw'=>hw'.size) (fun w' hw'=>Gg co x.name e.ver n k w' (Hp.coM (H.later hw') hco) hcb hnm I I) Z fun cs35=>aw Z Z Z Z Z (fun w' hw'=>Yu Z)<|aw Z Z Z Z Z (fun w' hw'=>Xa Z Z)<|aw Z Z Z Z Z (fun w' hw'=>Xi Z Z)<|aT ?_
 intro w7 hw' hF
 obtain⟨hF,c3,eq,hac3,hrd35⟩:=hF;cases eq
 replace H:=H.learn hw' (xz w0 w3.heap.size w7.heap.size c3) ⟨H.size,hrd35⟩ (ao _) (ao _)
 clear hw' hF
 refine de 16 N Z<|ey H cK Z fun w8 b8 H=>U<|de 17 N Z<|bk H 0 (#[J (c3.clock),J (c3.next),J (c3.wait),.slice c3.A c3.txs.length c3.cap]) aH Z Z Z Z Z N N fun w9 H=>U<|bA 18 N N N Z Z Z Z Nq (fun _=>Wi Z)<|cB N ?_
 exact⟨(c3,b8,_,_),⟨hac3,H⟩,lh Z Z,Qg⟩
 rintro⟨c3,b8,lo,hi⟩ ρ1 w10 ⟨hac3,H⟩
 show CW _ _ _ _ (dB (gJ _ _ ρ1) [(8,.pointer (Qd b8)),(9,J (oM co.a x.name e.ver n).2)]) w10
 refine W<|W<|Zr<|G (Yi Z) ?_
 refine rg (i7 Z Z) Z Z Z (fun h39=> ?_) (fun h39=> ?_)
 have hadd: ¬ (se (Wa.mk (ps.map fun q=>q.p.a) co.a gr.a (sns.map Sn.a)) x.a n e).2=0:=by unfold se;rw[if_pos hc21];exact h39
 have hadd2:(se (Wa.mk (ps.map fun q=>q.p.a) co.a gr.a (sns.map Sn.a)) x.a n e).2=(oM co.a x.name e.ver n).2:=by unfold se;rw[if_pos hc21];rfl
 refine U<|ZT Z<|W<|Zr<|G (Yi Z)<|bW bP (dS (oM co.a x.name e.ver n).2 _) Z Z ?_
 rintro _ w11 ⟨rfl,hb⟩;replace H:=H.later hb;clear hb
 refine bk H 2 (#[J ((oM co.a x.name e.ver n).2),J (0),.slice none 0 0]) aQ Z Z Z Z Z N N fun w12 H=>U<|Zt ?_
 exact eO (cs0:= #[J ((oM co.a x.name e.ver n).2),J (0),.slice none 0 0]) Z aN Z (H.ent (i:=2) Z) Z ⟨ps,uP,co,clo,chi,xz w0 lo hi c3::F,by rw[if_neg hadd,hadd2];exact oT.plain _ _ _,by rw[if_neg hadd];rfl,row,rfl,ak _ hco,fun q hq=>ak _ (hps q hq),fun f hf=>ak _ hf,H.forget (ci [(b8,_),(b7,_),(b6,_)] _) (fun _ h=>h)⟩
 refine U<|ZF Z<|Zk<|Zr<|G (Yp Z)<|G (Zw ax H 0 Z Z Z)<|G (aK Z)<|G (Zf aW Z)<|G (Zf eB Z)<|bk H 3 (#[.slice (Qd gP) ps.length pC,J (c3.clock),J (c3.next),J (c3.wait),.slice c3.A c3.txs.length c3.cap,J (gr.clock),J (gr.wait),J (gr.gen),.slice gr.mA gr.ms.length gr.mC,.slice gr.oA gr.os.length gr.oC,.slice (Qd gS) sns.length snC]) aH Z Z Z Z Z N N fun w13 H=>U ?_
 exact⟨(c3,_,_,_),⟨by rw[hac3];unfold se;rw[if_pos hc21];rfl,by unfold se;rw[if_pos hc21];exact(by simpa using h39:(oM co.a x.name e.ver n).2=0),aB ..,fun f hf=>ak _ hf,H.forget (.cons _ (ap _)) (fun _ h=>h)⟩,wo,Qg⟩
 refine Zk ?_
 exact⟨(co,clo,chi,F),⟨by unfold se;rw[if_neg (by rw[hc21];decide)],by unfold se;rw[if_neg (by rw[hc21];decide)],hco,fun _ h=>h,H⟩,wo,Qg⟩
 rintro⟨c2,l2,h2,F2⟩ ρ1 w14 ⟨hc2,hok2,hco2,hF2,H⟩
 show CW _ _ _ _ (dB (gJ _ _ ρ1) []) w14
 refine W ?_
 refine eD (τ:=Pa×Nat×Nat×Nat) [10,11,12,47,48,49,50,51,52,53,54,55,56,57,58,59,60] (fun(_,b10,_,_)=>[(10,.pointer (Qd b10)),(11,J (eF q.p.a e).2.1),(12,J (eF q.p.a e).2.2)]) (fun(p2,b10,lo,hi) w'=>p2.a=(eF q.p.a e).1/\Hp w0 w' ((b10,.cells #[J (p2.epoch),J (p2.leader),.slice p2.iA p2.isr.length p2.iC,.slice p2.kA p2.known.length p2.kC,.slice p2.rA p2.reps.length p2.rC,J (p2.few),J (p2.base)] bC (0,0))::(b7,.cells #[J (e.epoch),J (e.pid),J (e.ver),J (e.seq),J (e.kind),.bool (e.txn),.string (e.text)] cZ (0,0))::(b6,.cells #[J (0),J (0),.slice none 0 0] ee (0,0))::(bb,.cells #[.slice (Qd gP) ps.length pC,J (c2.clock),J (c2.next),J (c2.wait),.slice c2.A c2.txs.length c2.cap,J (gr.clock),J (gr.wait),J (gr.gen),.slice gr.mA gr.ms.length gr.mC,.slice gr.oA gr.os.length gr.oC,.slice (Qd gS) sns.length snC] bM (0,0))::(gP,.cells uP bC (0,0))::(gS,.cells uS fy (0,0))::(gq,.cells uq cY (0,0))::(gl,.cells ul cZ (0,0))::R) (tD w0 lo hi p2::F2)) ?_ ?_
 refine oH bY 14 9 [9,10,11,12,13,15,16,17] [14] [0,1,2,3,5,6] [14,15,16,17] [9] [0,1,2,3,5,6,10,11,12,13] (sp [(14,Sp.blk w14.heap.size (.agg #[J 0,J 0,.slice none 0 0,.slice none 0 0,.slice none 0 0,J 0,J 0]) bC)]) (sp [(9,Sp.deep w14.heap.size Pv (fun p:Pa=>p.c.toArray) (fun cs=> .tuple #[.agg cs,J (eF q.p.a e).2.1,J (eF q.p.a e).2.2]) (fun cq:Pa=>cq.a=(eF q.p.a e).1))]) N N N N (cH _) (cH _) ?_ ?_
 refine jD [0,1,2,3,4,5,6,7,8,14] [9,10,11,12,13,15,16,17] [14] [0,1,2,3,5,6] 7 (sp [(14,Sp.blk w14.heap.size (.agg #[J 0,J 0,.slice none 0 0,.slice none 0 0,.slice none 0 0,J 0,J 0]) bC)]) N N N Nq<|aw Z Z Z Z Z (fun w' hw'=>Yp Z)<|aw Z Z Z Z Z (fun w' hw'=>aK Z)<|aw Z Z Z Z Z (fun w' hw'=>Zf aW Z)<|aw Z Z Z Z Z (fun w' hw'=>Zf dz Z)<|aw Z Z Z Z Z (fun w' hw'=>aV dX Z (aC ((H.later hw').ent (i:=2) Z) Z))<|aw Z Z Z Z Z (fun w' hw'=>Yi Z)<|aw Z Z Z Z Z (fun w' hw'=>cD gw Z Z (by first|omega|(simp only[ab];omega)))<|aw Z Z Z Z Z (fun w' hw'=>oW aG row hq Z Z ((H.later hw').ent (i:=3) Z))<|aw Z Z Z Z Z (fun w' hw'=>jh dw Z ((H.later hw').ent (i:=0) Z) Z)<|xu bp Z Z Z Z Z (fun w' hw'=>hw'.size) fun b10=>aT ?_
 intro w15 hw' hF
 obtain⟨hF,bq,eq,hge10,hbl10⟩:=hF;cases eq
 replace H:=H.adoptNew hw' hbl10 hge10
 clear hw' hF
 refine de 9 N Z<|bW qU (zl q.p e _ (Hp.paM H (hF2 _ (hps q hqm))) (hpk q hqm).1 (hpk q hqm).2) Z Z ?_
 rintro _ w16 ⟨p2,rfl,hap2,hnp2⟩;replace H:=H.learn hnp2.2 (tD w0 w15.heap.size w16.heap.size p2) ⟨H.size,hnp2.1⟩ (ao _) (ao _);clear hnp2
 refine U<|bA 10 N N N Z Z Z Z Nq (fun _=>Yu Z)<|bA 11 N N N Z Z Z Z Nq (fun _=>Xa Z Z)<|bA 12 N N N Z Z Z Z Nq (fun _=>Xi Z Z)<|bA 13 N N N Z Z Z Z Nq (fun _=>Xi Z Z)<|de 15 N Z<|bk H 0 (#[J (p2.epoch),J (p2.leader),.slice p2.iA p2.isr.length p2.iC,.slice p2.kA p2.known.length p2.kC,.slice p2.rA p2.reps.length p2.rC,J (p2.few),J (p2.base)]) aL Z Z Z Z Z N N fun w17 H=>U<|bA 16 N N N Z Z Z Z Nq (fun _=>Wi Z)<|bA 17 N N N Z Z Z Z Nq (fun _=>Wi Z)<|cB N ?_
 exact⟨(p2,b10,_,_),⟨hap2,H⟩,Ms Z Z Z,Qg⟩
 refine jD [0,1,2,3,4,5,6,7,8,9,10,11,12,13] [14,15,16,17] [9] [0,1,2,3,5,6,10,11,12,13] 3 (sp [(9,Sp.deep w14.heap.size Pv (fun p:Pa=>p.c.toArray) (fun cs=> .tuple #[.agg cs,J (eF q.p.a e).2.1,J (eF q.p.a e).2.2]) (fun cq:Pa=>cq.a=(eF q.p.a e).1))]) N N N Nq<|aw Z Z Z Z Z (fun w' hw'=>Yp Z)<|aw Z Z Z Z Z (fun w' hw'=>aK Z)<|aw Z Z Z Z Z (fun w' hw'=>Zf aW Z)<|aw Z Z Z Z Z (fun w' hw'=>Zf dz Z)<|aw Z Z Z Z Z (fun w' hw'=>aV dX Z (aC ((H.later hw').ent (i:=2) Z) Z))<|aw Z Z Z Z Z (fun w' hw'=>Yi Z)<|aw Z Z Z Z Z (fun w' hw'=>cD gw Z Z (by first|omega|(simp only[ab];omega)))<|aw Z Z Z Z Z (fun w' hw'=>oW aG row hq Z Z ((H.later hw').ent (i:=3) Z))<|aw Z Z Z Z Z (fun w' hw'=>jh dw Z ((H.later hw').ent (i:=0) Z) Z)<|s5 (gv:=(fun cs=> .tuple #[.agg cs,J (eF q.p.a e).2.1,J (eF q.p.a e).2.2])) qU Z Z Z Z Z (fun w' hw'=>hw'.size) (fun w' hw'=>zl q.p e w' (Hp.paM (H.later hw') (hF2 _ (hps q hqm))) (hpk q hqm).1 (hpk q hqm).2) Z fun cs57=>aw Z Z Z Z Z (fun w' hw'=>Yu Z)<|aw Z Z Z Z Z (fun w' hw'=>Xa Z Z)<|aw Z Z Z Z Z (fun w' hw'=>Xi Z Z)<|aw Z Z Z Z Z (fun w' hw'=>Xi Z Z)<|aT ?_
 intro w18 hw' hF
 obtain⟨hF,p2,eq,hap2,hrd57⟩:=hF;cases eq
 replace H:=H.learn hw' (tD w0 w14.heap.size w18.heap.size p2) ⟨H.size,hrd57⟩ (ao _) (ao _)
 clear hw' hF
 refine de 14 N Z<|ey H bp Z fun w19 b10 H=>U<|de 15 N Z<|bk H 0 (#[J (p2.epoch),J (p2.leader),.slice p2.iA p2.isr.length p2.iC,.slice p2.kA p2.known.length p2.kC,.slice p2.rA p2.reps.length p2.rC,J (p2.few),J (p2.base)]) aL Z Z Z Z Z N N fun w20 H=>U<|bA 16 N N N Z Z Z Z Nq (fun _=>Wi Z)<|bA 17 N N N Z Z Z Z Nq (fun _=>Wi Z)<|cB N ?_
 exact⟨(p2,b10,_,_),⟨hap2,H⟩,Ms Z Z Z,Qg⟩
 rintro⟨p2,b10,lo,hi⟩ ρ1 w21 ⟨hap2,H⟩
 show CW _ _ _ _ (dB (gJ _ _ ρ1) [(10,.pointer (Qd b10)),(11,J (eF q.p.a e).2.1),(12,J (eF q.p.a e).2.2)]) w21
 refine W<|W<|Zr<|G (Yi Z) ?_
 refine rg (i7 Z Z) Z Z Z (fun h62=> ?_) (fun h62=> ?_)
 refine U<|ZT Z<|W<|Zr<|G (Yi Z)<|bW bP (dS (eF q.p.a e).2.2 _) Z Z ?_
 rintro _ w22 ⟨rfl,hb⟩;replace H:=H.later hb;clear hb
 refine bk H 2 (#[J ((eF q.p.a e).2.2),J (0),.slice none 0 0]) aQ Z Z Z Z Z N N fun w23 H=>U<|Zt ?_
 exact eO (cs0:= #[J ((eF q.p.a e).2.2),J (0),.slice none 0 0]) Z aN Z (H.ent (i:=2) Z) Z ⟨ps,uP,c2,l2,h2,tD w0 lo hi p2::F2,by rw[if_pos hok2,hP,if_neg h62];exact oT.plain _ _ _,by rw[if_pos hok2,hP,if_neg h62,<-hc2];rfl,row,rfl,ak _ hco2,fun q hq=>ak _ (hF2 _ (hps q hq)),fun f hf=>ak _ (hF2 f hf),H.forget (ci [(b10,_),(b7,_),(b6,_)] _) (fun _ h=>h)⟩
 refine U<|ZF Z<|Zk<|W ?_
 refine bB bY [0,1,2,3,4,5,6,7] [8] [] [0,1,2,3,5,7] (sp []) N N N N Nq (cH _) ?_
 refine aw Z Z Z Z Z (fun w' hw'=>Yp Z)<|aw Z Z Z Z Z (fun w' hw'=>aK Z)<|aw Z Z Z Z Z (fun w' hw'=>Zf aW Z)<|aw Z Z Z Z Z (fun w' hw'=>Zf dz Z)<|aw Z Z Z Z Z (fun w' hw'=>aV dX Z (aC ((H.later hw').ent (i:=3) Z) Z))<|aw Z Z Z Z Z (fun w' hw'=>Yi Z)<|aw Z Z Z Z Z (fun w' hw'=>jh aG Z ((H.later hw').ent (i:=0) Z) Z)<|aw Z Z Z Z Z (fun w' hw'=>cD gw Z Z (by first|omega|(simp only[ab];omega)))<|aT ?_
 intro w24 hw' hF
 replace H:=H.later hw';clear hw' hF
 refine kX H 4 (⟨p2,lo,hi⟩) aL row hq 0 Z Z Z Z Z Z N fun w26 cur25 row25 H=> ?_
 have hs27:(ps.set n (⟨p2,lo,hi⟩))[n]? =some (⟨p2,lo,hi⟩):=am (cF hq).1
 refine U<|W<|Zr<|G (Yi Z)<|G (bi (cs:= #[J (0),J ((eF q.p.a e).2.1),.slice none 0 0]) iF dt N)<|bk H 2 (#[J (0),J ((eF q.p.a e).2.1),.slice none 0 0]) aQ Z Z Z Z Z N N fun w28 H=>U<|Zt ?_
 have hz:(eF q.p.a e).2.2=0:=by simpa using h62
 have hz2:=hz
 exact eO (cs0:= #[J (0),J ((eF q.p.a e).2.1),.slice none 0 0]) Z aN Z (H.ent (i:=2) Z) Z ⟨ps.set n ⟨p2,lo,hi⟩,_,c2,l2,h2,tD w0 lo hi p2::F2,by rw[if_pos hok2,hP,if_pos hz];exact oT.plain _ _ _,by rw[if_pos hok2,hP,if_pos hz,<-hc2];simp only[cz,hap2],row25,ab ..,ak _ hco2,fun y hy=>by rcases z9 hy with hy|hy;exact ak _ (hF2 _ (hps y hy));rw[hy];exact aB ..,fun f hf=>ak _ (hF2 f hf),by rw[ab];exact H.forget (ci [(b10,_),(b7,_),(b6,_)] _) (fun _ h=>h)⟩
/-- an answer without texts -/
def Pn (x:An) (v:Value):Prop:=x.texts=[]/\v=.agg #[J x.code,J x.n,.slice none 0 0]
theorem Pn.r {x:An} {v:Value} (h:Pn x v) (w:World):oT x v w:=by
 obtain⟨c,n,t⟩:=x
 obtain⟨h1,rfl⟩:=h
 dsimp only at h1
 subst h1
 exact oT.plain c n w
theorem Gv (a:Act) (x:An) (w:World):dd aa vu [a.v,.agg #[J x.code,J x.n,.slice none 0 0]] w fun v w2=>v=.agg #[J (gf a x).code,J (gf a x).n,.slice none 0 0]/\Below w.heap.size w w2:=
 (Dm a x.code x.n none 0 0 w).mono fun v w2 ⟨h1,h2⟩=>⟨by rw[h1];unfold gf;split<;>rfl,h2⟩
theorem lJ (a:Act) {x:An} (hx:x.texts=[]):(gf a x).texts=[]:=by
 unfold gf
 split
 exact hx
 rfl
theorem zW (w:Wa) (n:Nat) (x:cN):(uW w n x).2.texts=[]:=by
 unfold uW
 split
 rfl
 split<;>rfl
theorem ku (w:Wa) (s:Sn) (n:Nat):(eo w s n).2.texts=[]:=by
 unfold eo
 split
 rfl
 split
 exact zW ..
 rfl
theorem oT.p {x:An} {v:Value} {w:World} (h:oT x v w) (hx:x.texts=[]): ∃ A c,v=.agg #[J x.code,J x.n,.slice A 0 c]:=by
 obtain⟨A,c,h1,-,-⟩:=h
 rw[hx]at h1
 exact⟨A,c,h1⟩
theorem zS {b:Bk} {a:Act} {ag:Bool} (hix:fh b.sns a.name=none):m9 b.a a ag=(b.a,⟨5,0,[]⟩):=by
 unfold m9
 rw[show b.a.sns=b.sns.map Sn.a from rfl,Dq hix]
 rfl
theorem zU {b:Bk} {a:Act} {i:Nat} {x:Sn} {e:cN} (hix:fh b.sns a.name=some i) (hx:b.sns[i]? =some x) (he:x.last[a.part.toNat]? =some e) (hk:e.kind=0):m9 b.a a true=(b.a,⟨15,0,[]⟩):=by
 unfold m9
 rw[show b.a.sns=b.sns.map Sn.a from rfl,wD hix hx]
 dsimp only
 rw[if_pos ⟨rfl,by rw[bZ,show x.a.last=x.last from rfl,he];exact hk⟩]
 rfl
theorem oe {b:Bk} {a:Act} {i:Nat} {x:Sn} {ag:Bool} (hix:fh b.sns a.name=some i) (hx:b.sns[i]? =some x) (hk:ag=true-> ∃ e,x.last[a.part.toNat]? =some e/\e.kind≠0) (s1:Sn) (hs:(if ag then x else p7 x a.part.toNat a.text)=s1):m9 b.a a ag=if a.lost=1 then({b.a with sns:=(b.sns.set i s1).map Sn.a},⟨14,0,[]⟩)else((eo {b.a with sns:=(b.sns.set i s1).map Sn.a} s1.a a.part.toNat).1,gf a (eo {b.a with sns:=(b.sns.set i s1).map Sn.a} s1.a a.part.toNat).2):=by
 subst hs
 unfold m9
 rw[show b.a.sns=b.sns.map Sn.a from rfl,wD hix hx]
 dsimp only
 rw[if_neg (fun h=>by
  obtain⟨e,he,hne⟩:=hk h.1
  have h2:=h.2
  rw[bZ,show x.a.last=x.last from rfl,he]at h2
  exact hne h2)]
 have:(if ag=true then x.a else p7 x.a a.part.toNat a.text)=(if ag=true then x else p7 x a.part.toNat a.text).a:=by split<;>rfl
 rw[this,cz]
 rfl
theorem uG {x:Sn} {n:Nat} {q:Int} (h:x.seqs[n]? =some q) (t:ByteArray):p7 x n t={x with last:=x.last.set n ⟨0,x.pid,x.ver,q,1,x.inn,t⟩,seqs:=x.seqs.set n (q+1)}:=by
 unfold p7
 rw[bZ,h]
 rfl
theorem dW.same {α:Type} {Y:fi α} {es:List α} {c k:Nat} {cur:Array Value} {e e':α} (h:dW Y es c cur) (hk:es[k]? =some e) (he:Y.f e'=Y.f e):dW Y (es.set k e') c cur:=by
 refine⟨h.size,?_,by rw[ab];exact h.le,h.max⟩
 rw[ab,h.all]
 unfold fi.all
 have:(es.set k e').map Y.f=es.map Y.f:=by rw[cz,he];exact eY (by rw[aJ,hk];rfl)
 simp only[List.flatMap_def,this]
theorem IV {w0 w:World} {bb:Nat} {b:Bk} {gP:Nat} {uP:Array Value} {Ls Lo K:List (Nat×Obj)} {F:List cr} (a:Act) (B:Bw w0 w bb b gP uP Ls Lo K F) (hsl:b.sns.length<=1000000) (ag:Bool) (hix:fh b.sns a.name=none):dd aa iR [.pointer (Qd bb),a.v,.bool ag] w fun v w2=> ∃ b':Bk,oT (m9 b.a a ag).2 v w2/\b'.a=(m9 b.a a ag).1/\xA w0 w2 bb b' K F:=by
 refine aF jV Z Z ?_
 obtain⟨ps,pA,pC,co,clo,chi,gr,glo,ghi,sns,snA,snC⟩:=b
 obtain⟨hpA,row,hsn,hown,hco,hgr,hps,H⟩:=B
 dsimp only at hpA row hsn hown hco hgr hps
 subst hpA
 replace H:Hp w0 w ((bb,.cells #[.slice (Qd gP) ps.length pC,J (co.clock),J (co.next),J (co.wait),.slice co.A co.txs.length co.cap,J (gr.clock),J (gr.wait),J (gr.gen),.slice gr.mA gr.ms.length gr.mC,.slice gr.oA gr.os.length gr.oC,.slice snA sns.length snC] bM (0,0))::(gP,.cells uP bC (0,0))::(Ls++(Lo++K))) F:=H
 dsimp only at hix hsl
 show CW _ _ _ _ (args [.pointer (Qd bb),.agg #[J (a.kind),.string (a.name),J (a.part),J (a.n),J (a.m),.string (a.text),J (a.lost)],.bool ag]) w
 refine W<|Zr<|fX H Z Z fun w1 b4 H=>ey H dt Z fun w2 b6 H=>U<|W<|Zr<|G (Yp Z)<|G (Zf fb Z)<|G (Zd bc H 1 Z Z Z)<|bW dE (jw bb ⟨ps,some ⟨gP,0,none⟩,pC,co,clo,chi,gr,glo,ghi,sns,snA,snC⟩ (a.name) Ls _ (H.ent (i:=2) Z) hsn (fun q hq=>(H.ents q (by simp only[av,ar];grind)).1) hsl) Z Z ?_
 rintro _ w3 ⟨rfl,hb⟩;replace H:=H.later hb;clear hb
 rw[hix]
 refine G (Wp Z)<|U<|W<|Zb<|W<|Zr<|G (Yp Z)<|G (xK iO Z)<|G (Yb Z)<|ZN<|ZN<|ZN<|ZN<|ZN<|G (Kt Z Z)<|G (Wb Z)<|U<|ZT Z<|W<|Zr<|bW bP (dS 5 _) Z Z ?_
 rintro _ w4 ⟨rfl,hb⟩;replace H:=H.later hb;clear hb
 refine bk H 0 (#[J (5),J (0),.slice none 0 0]) aQ Z Z Z Z Z N N fun w5 H=>U<|Zt ?_
 exact eO (cs0:= #[J (5),J (0),.slice none 0 0]) Z aN Z (H.ent (i:=0) Z) Z ⟨⟨ps,some ⟨gP,0,none⟩,pC,co,clo,chi,gr,glo,ghi,sns,snA,snC⟩,by rw[zS hix];exact oT.plain _ _ _,by rw[zS hix],Bw.shut (X:=[(b6,_),(b4,_)]) row hsn hown hco hgr hps (fun _ h=>h) H Z⟩
theorem Kg {a:Act} {x:An} {A:Option Addr} {c:Nat} {v:Value} (h:v=if a.lost=0 then .agg #[J x.code,J x.n,.slice A 0 c]else .agg #[J 14,J 0,.slice none 0 0]): ∃ A2 c2,v=.agg #[J (gf a x).code,J (gf a x).n,.slice A2 0 c2]:=by
 unfold gf
 split at h
 rename_i h0;rw[if_pos h0];exact⟨_,_,h⟩
 rename_i h0;rw[if_neg h0];exact⟨_,_,h⟩
theorem oT.of {x:An} {A:Option Addr} {c:Nat} {w:World} (hx:x.texts=[]):oT x (.agg #[J x.code,J x.n,.slice A 0 c]) w:=⟨A,c,by rw[hx];rfl,by rw[hx];exact bD _,by rw[hx];exact Rd.nil⟩
theorem GF {w0 w:World} {bb:Nat} {b:Bk} {gP:Nat} {uP:Array Value} {Ls Lo K:List (Nat×Obj)} {F:List cr} (a:Act) (B:Bw w0 w bb b gP uP Ls Lo K F) (hsl:b.sns.length<=1000000) {k i:Nat} {x:Sn} (hix:fh b.sns a.name=some i) (hx:b.sns[i]? =some x) (hpn:0<=a.part/\a.part<b.ps.length) (hlo:0<=a.lost/\a.lost<=2) (hll:x.last.length=b.ps.length) (hsq:x.seqs.length=b.ps.length) (h4:b.ps.length<=4) (hnm:bO x.name=true) (hcb:oS k b.co) (hpk: ∀ q∈b.ps,q.p.a.ok/\ ∀ (l:Nat) (y:eR),q.p.leader=l->q.p.reps[l]? =some y->y.es.length<400):dd aa iR [.pointer (Qd bb),a.v,.bool true] w fun v w2=> ∃ b':Bk,oT (m9 b.a a true).2 v w2/\b'.a=(m9 b.a a true).1/\xA w0 w2 bb b' K F:=by
 refine aF jV Z Z ?_
 obtain⟨ps,pA,pC,co,clo,chi,gr,glo,ghi,sns,snA,snC⟩:=b
 obtain⟨hpA,row,hsn,hown,hco,hgr,hps,H⟩:=B
 dsimp only at hpA row hsn hown hco hgr hps
 subst hpA
 dsimp only at hix hx
 obtain⟨gS,uS,hgS,hLs,rowS⟩:=hsn.row (by have:=(cF hx).1;omega)
 subst hgS;subst hLs
 obtain⟨gq,uq,gl,ul,La,Lb,hsA,hlA,rowq,rowl,hLo,hset⟩:=hown.at_ hx
 subst hLo
 replace H:Hp w0 w ((bb,.cells #[.slice (Qd gP) ps.length pC,J (co.clock),J (co.next),J (co.wait),.slice co.A co.txs.length co.cap,J (gr.clock),J (gr.wait),J (gr.gen),.slice gr.mA gr.ms.length gr.mC,.slice gr.oA gr.os.length gr.oC,.slice (Qd gS) sns.length snC] bM (0,0))::(gP,.cells uP bC (0,0))::(gS,.cells uS fy (0,0))::(gq,.cells uq cY (0,0))::(gl,.cells ul cZ (0,0))::(La++(Lb++K))) F:=H.perm (CS [(bb,_),(gP,_),(gS,_)] _ _ La Lb K)
 dsimp only at hsl hpn hll hsq h4 hcb hpk
 obtain⟨n,hna⟩: ∃ n:Nat,a.part=(n:Int):=⟨a.part.toNat,by omega⟩
 have htn:a.part.toNat=n:=by omega
 have hl5:(zK.f x)[5]? =some (.slice (some ⟨gl,0,none⟩) x.last.length x.lC):=by rw[<-hlA];rfl
 have hl4:(zK.f x)[4]? =some (.slice (some ⟨gq,0,none⟩) x.seqs.length x.sC):=by rw[<-hsA];rfl
 obtain⟨e,he⟩: ∃ e,x.last[n]? =some e:=⟨_,ah I⟩
 have rS2:dW zK (sns.set i x) snC uS:=by rw[eY hx];exact rowS
 show CW _ _ _ _ (args [.pointer (Qd bb),.agg #[J (a.kind),.string (a.name),J (a.part),J (a.n),J (a.m),.string (a.text),J (a.lost)],.bool true]) w
 refine W<|Zr<|fX H Z Z fun w1 b4 H=>ey H dt Z fun w2 b6 H=>U<|W<|Zr<|G (Yp Z)<|G (Zf fb Z)<|G (Zd bc H 1 Z Z Z)<|bW dE (jw bb ⟨ps,some ⟨gP,0,none⟩,pC,co,clo,chi,gr,glo,ghi,sns,some ⟨gS,0,none⟩,snC⟩ (a.name) _ _ (H.ent (i:=2) Z) (dW.own rowS) (fun q hq=>by rw[aq.1 hq];exact(H.ent (i:=4) Z)) hsl) Z Z ?_
 rintro _ w3 ⟨rfl,hb⟩;replace H:=H.later hb;clear hb
 rw[hix]
 refine G (Wp Z)<|U<|W<|Zb<|W<|Zr<|G (Yp Z)<|G (vT iO Z)<|G (Yb Z)<|ZG<|G (Yp Z)<|ZG<|G (Zf dU Z)<|ZG<|G (Zd aj H 1 Z Z Z)<|ZG<|bW dY (oh bb ⟨ps,some ⟨gP,0,none⟩,pC,co,clo,chi,gr,glo,ghi,sns,some ⟨gS,0,none⟩,snC⟩ a.part _ (H.ent (i:=2) Z)) Z Z ?_
 rintro _ w4 ⟨rfl,hb⟩;replace H:=H.later hb;clear hb
 rw[decide_eq_true hpn]
 refine ZG<|G (dI Z)<|G (N Z Z)<|G (Wb Z)<|U<|ZF Z<|W<|Zr<|G (Zf jL Z)<|G (Zd aj H 1 Z Z Z)<|G (da Z Z I)<|G (Yb Z)<|ZG<|G (Zf jL Z)<|ZG<|G (Zd aj H 1 Z Z Z)<|ZG<|G (eh Z Z I)<|G (N Z Z)<|G (Wb Z)<|U<|ZF Z<|W ?_
 refine bB bY [0,1,2,3,4,5,6,7,8,9,10,11,12,13] [] [] [0,1,2,3,4,6,8,9,11,12,13] (sp []) N N N N Nq (cH _) ?_
 refine aw Z Z Z Z Z (fun w' hw'=>Yb Z)<|aw Z Z Z Z Z (fun w' hw'=>Yb Z)<|aw Z Z Z Z Z (fun w' hw'=>Yp Z)<|aw Z Z Z Z Z (fun w' hw'=>aK Z)<|aw Z Z Z Z Z (fun w' hw'=>Zf l7 Z)<|aw Z Z Z Z Z (fun w' hw'=>bR nv rowS hx 5 Z ((H.later hw').ent (i:=4) Z) hl5)<|aw Z Z Z Z Z (fun w' hw'=>Zf dU Z)<|aw Z Z Z Z Z (fun w' hw'=>aV aj Z (aC ((H.later hw').ent (i:=1) Z) Z))<|aw Z Z Z Z Z (fun w' hw'=>cD (k:=n) dg Z (congrArg (Value.int .i64) hna) (by first|omega|(simp only[ab];omega)))<|aw Z Z Z Z Z (fun w' hw'=>Zf eZ Z)<|aw Z Z Z Z Z (fun w' hw'=>bR aj rowl he 4 Z ((H.later hw').ent (i:=6) Z) Z) ?_
 refine Bx Z Z Z Z Z (fun w' hw'=>bl Z Z) (fun h45=> ?_) (fun h45=> ?_)
 ·
  refine aw Z Z Z Z Z (fun w' hw'=>Kt Z Z)<|aw Z Z Z Z Z (fun w' hw'=>Wb Z)<|aT ?_
  intro w5 hw' hF
  replace H:=H.later hw';clear hw' hF
  refine U<|ZT Z<|W<|Zr<|bW bP (dS 15 _) Z Z ?_
  rintro _ w6 ⟨rfl,hb⟩;replace H:=H.later hb;clear hb
  refine bk H 0 (#[J (15),J (0),.slice none 0 0]) aQ Z Z Z Z Z N N fun w7 H=>U<|Zt ?_
  rw[<-htn]at he
  exact eO (cs0:= #[J (15),J (0),.slice none 0 0]) Z aN Z (H.ent (i:=0) Z) Z ⟨⟨ps,some ⟨gP,0,none⟩,pC,co,clo,chi,gr,glo,ghi,sns.set i x,some ⟨gS,0,none⟩,snC⟩,by rw[zU hix hx he h45];exact oT.plain _ _ _,by rw[zU hix hx he h45,eY hx],Bw.close (X:=[(b6,_),(b4,_)]) row (by rw[eY hx];exact rowS) hset hsA hlA rowq rowl hco hgr hps (fun _ h=>h) H (by rw[eY hx];rfl)⟩
 ·
  refine aw Z Z Z Z Z (fun w' hw'=>Kt Z Z)<|aw Z Z Z Z Z (fun w' hw'=>Wb Z)<|aT ?_
  intro w8 hw' hF
  replace H:=H.later hw';clear hw' hF
  refine U<|ZF Z<|W<|Zr<|G (Yb Z)<|G (dI Z)<|G (Yb Z)<|ZN<|ZN<|ZN<|ZN<|G (N Z Z)<|G (Wb Z)<|U<|ZF Z<|Zk<|W<|W<|Zr<|G (Yb Z)<|G (dI Z)<|U<|ZF Z<|Zk<|W<|W<|Zr<|G (Zf jL Z)<|G (Zd aj H 1 Z Z Z) ?_
  refine cU (bl Z Z) Z Z Z (fun h102=> ?_) (fun h102=> ?_)
  ·
   refine U<|ZT Z<|W<|Zr<|bW bP (dS 14 _) Z Z ?_
   rintro _ w9 ⟨rfl,hb⟩;replace H:=H.later hb;clear hb
   refine bk H 0 (#[J (14),J (0),.slice none 0 0]) aQ Z Z Z Z Z N N fun w10 H=>U<|Zt ?_
   exact eO (cs0:= #[J (14),J (0),.slice none 0 0]) Z aN Z (H.ent (i:=0) Z) Z ⟨⟨ps,some ⟨gP,0,none⟩,pC,co,clo,chi,gr,glo,ghi,sns.set i x,some ⟨gS,0,none⟩,snC⟩,by rw[oe hix hx (fun _=>⟨e,by rw[htn];exact he,h45⟩) x Z,if_pos h102];exact oT.plain _ _ _,by rw[oe hix hx (fun _=>⟨e,by rw[htn];exact he,h45⟩) x Z,if_pos h102];rfl,Bw.close (X:=[(b6,_),(b4,_)]) row rS2 hset hsA hlA rowq rowl hco hgr hps (fun _ h=>h) H (by simp only[Bk.c,ab])⟩
  ·
   refine U<|ZF Z<|Zk<|W ?_
   refine mO bY (fun w'=>w'.heap[b4]? =some (.cells #[J (a.kind),.string (a.name),J (a.part),J (a.n),J (a.m),.string (a.text),J (a.lost)] fS (0,0))) ?_
   intro w11 hw';replace H:=H.later hw';clear hw'
   refine az 0 N N N Z Z Z Z Nq (H.ent (i:=1) Z) (fun _ hS=>jh dR Z hS Z)<|az 1 N N N Z Z Z Z Nq (H.ent (i:=1) Z) (fun _ hS=>Yp Z)<|az 2 N N N Z Z Z Z Nq (H.ent (i:=1) Z) (fun _ hS=>Yp Z)<|az 3 N N N Z Z Z Z Nq (H.ent (i:=1) Z) (fun _ hS=>Zf dU Z)<|az 4 N N N Z Z Z Z Nq (H.ent (i:=1) Z) (fun _ hS=>aV aj Z (aC hS Z))<|pz 5 N Z ?_
   refine bW lz ((by have hA:=Ba (i:=i) (n:=n) (k:=k) (sns:=sns.set i x) (x:=x) (by simp only[ab];exact H.perm ((ai _ (ai _ (ai _ (ai _ (al _ _ _))))).trans ((ai _ (ai _ (ai _ (al _ _ _)))).trans ((ai _ (ai _ (al _ _ _))).trans ((ai _ (al _ _ _)).trans ((al _ _ _).trans ((ai _ (ai _ (ai _ (ai _ (ai _ (al _ _ _)))))).trans ((ai _ (ai _ (ai _ (ai _ (al _ _ _))))).trans ((ai _ (ai _ (ai _ (al _ _ _)))).trans ((ai _ (ai _ (al _ _ _))).trans (ai _ (al _ _ _)))))))))))) row rS2 rowl (am (cF hx).1) hlA hco hps I I I hnm hcb hpk;rw[<-hna]at hA;exact hA)) Z Z ?_
   rintro _ w12 ⟨ps',uP',co',clo',chi',F',hAn,hW,row',hlen',hco',hps',hF',H⟩
   replace H:=H.perm ((ai _ (al _ _ _)).trans ((al _ _ _).trans ((ai _ (ai _ (al _ _ _))).trans ((ai _ (al _ _ _)).trans ((ai _ (ai _ (ai _ (al _ _ _)))).trans ((ai _ (ai _ (al _ _ _))).trans ((ai _ (ai _ (ai _ (ai _ (al _ _ _))))).trans ((ai _ (ai _ (ai _ (al _ _ _)))).trans ((ai _ (ai _ (ai _ (ai _ (ai _ (al _ _ _)))))).trans (ai _ (ai _ (ai _ (ai _ (al _ _ _))))))))))))))
   obtain⟨A1,c1,rfl⟩:=hAn.p (ku ..)
   refine U ?_
   refine⟨(H.ent (i:=1) Z),?_⟩
   refine pz 6 N Z<|bW kF (Dm a (eo (Wa.mk (ps.map fun q=>q.p.a) co.a gr.a ((sns.set i x).map Sn.a)) x.a n).2.code (eo (Wa.mk (ps.map fun q=>q.p.a) co.a gr.a ((sns.set i x).map Sn.a)) x.a n).2.n A1 0 c1 _) Z Z ?_
   rintro _ w13 ⟨ht,hb⟩;replace H:=H.later hb;clear hb
   obtain⟨A2,c2,rfl⟩:=Kg ht
   refine U ?_
   refine⟨(H.ent (i:=1) Z),?_⟩
   refine pz 7 N Z<|bk H 0 (#[J ((gf a (eo (Wa.mk (ps.map fun q=>q.p.a) co.a gr.a ((sns.set i x).map Sn.a)) x.a n).2).code),J ((gf a (eo (Wa.mk (ps.map fun q=>q.p.a) co.a gr.a ((sns.set i x).map Sn.a)) x.a n).2).n),.slice A2 0 c2]) aQ Z Z Z Z Z N N fun w14 H=>U ?_
   refine⟨(H.ent (i:=1) Z),?_⟩
   refine jf N<|Zt ?_
   exact eO (cs0:= #[J ((gf a (eo (Wa.mk (ps.map fun q=>q.p.a) co.a gr.a ((sns.set i x).map Sn.a)) x.a n).2).code),J ((gf a (eo (Wa.mk (ps.map fun q=>q.p.a) co.a gr.a ((sns.set i x).map Sn.a)) x.a n).2).n),.slice A2 0 c2]) Z aN Z (H.ent (i:=0) Z) Z ⟨⟨ps',some ⟨gP,0,none⟩,pC,co',clo',chi',gr,glo,ghi,sns.set i x,some ⟨gS,0,none⟩,snC⟩,by rw[oe hix hx (fun _=>⟨e,by rw[htn];exact he,h45⟩) x Z,if_neg h102,htn];exact oT.of (lJ _ (ku ..)),by rw[oe hix hx (fun _=>⟨e,by rw[htn];exact he,h45⟩) x Z,if_neg h102,htn];exact hW.symm,Bw.close (X:=[(b6,_),(b4,_)]) row' rS2 hset hsA hlA rowq rowl hco' (hF' _ hgr) hps' hF' H (by simp only[Bk.c,ab])⟩
theorem Ky {w0 w:World} {bb:Nat} {b:Bk} {gP:Nat} {uP:Array Value} {Ls Lo K:List (Nat×Obj)} {F:List cr} (a:Act) (B:Bw w0 w bb b gP uP Ls Lo K F) (hsl:b.sns.length<=1000000) {k i:Nat} {x:Sn} (hix:fh b.sns a.name=some i) (hx:b.sns[i]? =some x) (hpn:0<=a.part/\a.part<b.ps.length) (hlo:0<=a.lost/\a.lost<=2) (hll:x.last.length=b.ps.length) (hsq:x.seqs.length=b.ps.length) (h4:b.ps.length<=4) (hnm:bO x.name=true) (hcb:oS k b.co) (hpk: ∀ q∈b.ps,q.p.a.ok/\ ∀ (l:Nat) (y:eR),q.p.leader=l->q.p.reps[l]? =some y->y.es.length<400) (htx:a.text.size<=40) (hsb: ∀ q∈x.seqs,0<=q/\q<=400):dd aa iR [.pointer (Qd bb),a.v,.bool false] w fun v w2=> ∃ b':Bk,oT (m9 b.a a false).2 v w2/\b'.a=(m9 b.a a false).1/\xA w0 w2 bb b' K F:=by
 refine aF jV Z Z ?_
 obtain⟨ps,pA,pC,co,clo,chi,gr,glo,ghi,sns,snA,snC⟩:=b
 obtain⟨hpA,row,hsn,hown,hco,hgr,hps,H⟩:=B
 dsimp only at hpA row hsn hown hco hgr hps
 subst hpA
 dsimp only at hix hx
 obtain⟨gS,uS,hgS,hLs,rowS⟩:=hsn.row (by have:=(cF hx).1;omega)
 subst hgS;subst hLs
 obtain⟨gq,uq,gl,ul,La,Lb,hsA,hlA,rowq,rowl,hLo,hset⟩:=hown.at_ hx
 subst hLo
 replace H:Hp w0 w ((bb,.cells #[.slice (Qd gP) ps.length pC,J (co.clock),J (co.next),J (co.wait),.slice co.A co.txs.length co.cap,J (gr.clock),J (gr.wait),J (gr.gen),.slice gr.mA gr.ms.length gr.mC,.slice gr.oA gr.os.length gr.oC,.slice (Qd gS) sns.length snC] bM (0,0))::(gP,.cells uP bC (0,0))::(gS,.cells uS fy (0,0))::(gq,.cells uq cY (0,0))::(gl,.cells ul cZ (0,0))::(La++(Lb++K))) F:=H.perm (CS [(bb,_),(gP,_),(gS,_)] _ _ La Lb K)
 dsimp only at hsl hpn hll hsq h4 hcb hpk
 obtain⟨n,hna⟩: ∃ n:Nat,a.part=(n:Int):=⟨a.part.toNat,by omega⟩
 have htn:a.part.toNat=n:=by omega
 have hl5:(zK.f x)[5]? =some (.slice (some ⟨gl,0,none⟩) x.last.length x.lC):=by rw[<-hlA];rfl
 have hl4:(zK.f x)[4]? =some (.slice (some ⟨gq,0,none⟩) x.seqs.length x.sC):=by rw[<-hsA];rfl
 obtain⟨e,he⟩: ∃ e,x.last[n]? =some e:=⟨_,ah I⟩
 obtain⟨q,hq0⟩: ∃ q,x.seqs[n]? =some q:=⟨_,ah I⟩
 have hqb:=hsb q (ae hq0)
 show CW _ _ _ _ (args [.pointer (Qd bb),.agg #[J (a.kind),.string (a.name),J (a.part),J (a.n),J (a.m),.string (a.text),J (a.lost)],.bool false]) w
 refine W<|Zr<|fX H Z Z fun w1 b4 H=>ey H dt Z fun w2 b6 H=>U<|W<|Zr<|G (Yp Z)<|G (Zf fb Z)<|G (Zd bc H 1 Z Z Z)<|bW dE (jw bb ⟨ps,some ⟨gP,0,none⟩,pC,co,clo,chi,gr,glo,ghi,sns,some ⟨gS,0,none⟩,snC⟩ (a.name) _ _ (H.ent (i:=2) Z) (dW.own rowS) (fun q hq=>by rw[aq.1 hq];exact(H.ent (i:=4) Z)) hsl) Z Z ?_
 rintro _ w3 ⟨rfl,hb⟩;replace H:=H.later hb;clear hb
 rw[hix]
 refine G (Wp Z)<|U<|W<|Zb<|W<|Zr<|G (Yp Z)<|G (vT iO Z)<|G (Yb Z)<|ZG<|G (Yp Z)<|ZG<|G (Zf dU Z)<|ZG<|G (Zd aj H 1 Z Z Z)<|ZG<|bW dY (oh bb ⟨ps,some ⟨gP,0,none⟩,pC,co,clo,chi,gr,glo,ghi,sns,some ⟨gS,0,none⟩,snC⟩ a.part _ (H.ent (i:=2) Z)) Z Z ?_
 rintro _ w4 ⟨rfl,hb⟩;replace H:=H.later hb;clear hb
 rw[decide_eq_true hpn]
 refine ZG<|G (dI Z)<|G (N Z Z)<|G (Wb Z)<|U<|ZF Z<|W<|Zr<|G (Zf jL Z)<|G (Zd aj H 1 Z Z Z)<|G (da Z Z I)<|G (Yb Z)<|ZG<|G (Zf jL Z)<|ZG<|G (Zd aj H 1 Z Z Z)<|ZG<|G (eh Z Z I)<|G (N Z Z)<|G (Wb Z)<|U<|ZF Z<|W ?_
 refine bB bY [0,1,2,3,4,5,6,7,8,9,10,11,12,13] [] [] [0,1,2,3,4,6,8,9,11,12,13] (sp []) N N N N Nq (cH _) ?_
 refine aw Z Z Z Z Z (fun w' hw'=>Yb Z)<|aw Z Z Z Z Z (fun w' hw'=>Yb Z)<|eQ Z Z Z Z<|eQ Z Z Z Z<|eQ Z Z Z Z<|eQ Z Z Z Z<|eQ Z Z Z Z<|eQ Z Z Z Z<|eQ Z Z Z Z<|eQ Z Z Z Z<|eQ Z Z Z Z<|eQ Z Z Z Z<|aw Z Z Z Z Z (fun w' hw'=>N Z Z)<|aw Z Z Z Z Z (fun w' hw'=>Wb Z)<|aT ?_
 intro w5 hw' hF
 replace H:=H.later hw';clear hw' hF
 refine U<|ZF Z<|W<|Zr<|G (Yb Z)<|G (dI Z)<|G (Yb Z)<|ZG<|G (Zf AT Z)<|ZG<|G (Zd bc H 1 Z Z Z)<|ZG<|G (G6 ju Z)<|ZG<|G (eh Z Z I)<|G (Kt Z Z)<|G (Wb Z)<|U<|ZF Z<|Zk<|W<|W<|Zr<|G (Yb Z)<|G (dI Z)<|U<|ZT Z<|W ?_
 refine bB bY [0,1,2,3,4,5,6,7,8,9,10,11,12,13,14,15,16,17,18,19,20,21,22,23,24,25,26,27,28,29] [30] [] [0,1,2,4,6,7,8,10,11,12,14,15,16,18,20,22,23,24,26,28,29] (sp []) N N N N Nq (cH _) ?_
 refine aw Z Z Z Z Z (fun w' hw'=>Yp Z)<|aw Z Z Z Z Z (fun w' hw'=>aK Z)<|aw Z Z Z Z Z (fun w' hw'=>Zf l7 Z)<|aw Z Z Z Z Z (fun w' hw'=>bR nv rowS hx 5 Z ((H.later hw').ent (i:=4) Z) hl5)<|aw Z Z Z Z Z (fun w' hw'=>Zf dU Z)<|aw Z Z Z Z Z (fun w' hw'=>aV aj Z (aC ((H.later hw').ent (i:=1) Z) Z))<|aw Z Z Z Z Z (fun w' hw'=>Yp Z)<|aw Z Z Z Z Z (fun w' hw'=>aK Z)<|aw Z Z Z Z Z (fun w' hw'=>Zf FU Z)<|aw Z Z Z Z Z (fun w' hw'=>bR aj rowS hx 1 Z ((H.later hw').ent (i:=4) Z) Z)<|aw Z Z Z Z Z (fun w' hw'=>Yp Z)<|aw Z Z Z Z Z (fun w' hw'=>aK Z)<|aw Z Z Z Z Z (fun w' hw'=>Zf uc Z)<|aw Z Z Z Z Z (fun w' hw'=>bR aj rowS hx 2 Z ((H.later hw').ent (i:=4) Z) Z)<|aw Z Z Z Z Z (fun w' hw'=>Yp Z)<|aw Z Z Z Z Z (fun w' hw'=>aK Z)<|aw Z Z Z Z Z (fun w' hw'=>Zf yN Z)<|aw Z Z Z Z Z (fun w' hw'=>bR cm rowS hx 4 Z ((H.later hw').ent (i:=4) Z) hl4)<|aw Z Z Z Z Z (fun w' hw'=>Zf dU Z)<|aw Z Z Z Z Z (fun w' hw'=>aV aj Z (aC ((H.later hw').ent (i:=1) Z) Z))<|aw Z Z Z Z Z (fun w' hw'=>cD (k:=n) ba Z (congrArg (Value.int .i64) hna) (by first|omega|(simp only[ab];omega)))<|aw Z Z Z Z Z (fun w' hw'=>bR aj rowq hq0 0 Z ((H.later hw').ent (i:=5) Z) Z)<|aw Z Z Z Z Z (fun w' hw'=>Yp Z)<|aw Z Z Z Z Z (fun w' hw'=>aK Z)<|aw Z Z Z Z Z (fun w' hw'=>Zf oD Z)<|aw Z Z Z Z Z (fun w' hw'=>bR dT rowS hx 3 Z ((H.later hw').ent (i:=4) Z) Z)<|aw Z Z Z Z Z (fun w' hw'=>Zf AT Z)<|aw Z Z Z Z Z (fun w' hw'=>aV bc Z (aC ((H.later hw').ent (i:=1) Z) Z))<|aw Z Z Z Z Z (fun w' hw'=>bi (cs:= #[J (0),J (x.pid),J (x.ver),J (q),J (1),.bool (x.inn),.string (a.text)]) oc gi N)<|aw Z Z Z Z Z (fun w' hw'=>cD (k:=n) dg Z (congrArg (Value.int .i64) hna) (by first|omega|(simp only[ab];omega)))<|aT ?_
 intro w6 hw' hF
 replace H:=H.later hw';clear hw' hF
 refine kX H 6 (⟨0,x.pid,x.ver,q,1,x.inn,a.text⟩) eS rowl he 0 Z Z Z Z Z Z N fun w8 cur7 row7 H=> ?_
 have hs9:(x.last.set n (⟨0,x.pid,x.ver,q,1,x.inn,a.text⟩))[n]? =some (⟨0,x.pid,x.ver,q,1,x.inn,a.text⟩):=am (cF he).1
 refine U ?_
 refine bB bY [0,1,2,3,4,5,6,7,8,9] [10] [] [0,1,2,4,6,8,9] (sp []) N N N N Nq (cH _) ?_
 refine aw Z Z Z Z Z (fun w' hw'=>Yp Z)<|aw Z Z Z Z Z (fun w' hw'=>aK Z)<|aw Z Z Z Z Z (fun w' hw'=>Zf yN Z)<|aw Z Z Z Z Z (fun w' hw'=>bR cm rowS hx 4 Z ((H.later hw').ent (i:=4) Z) hl4)<|aw Z Z Z Z Z (fun w' hw'=>Zf dU Z)<|aw Z Z Z Z Z (fun w' hw'=>aV aj Z (aC ((H.later hw').ent (i:=1) Z) Z))<|aw Z Z Z Z Z (fun w' hw'=>cD (k:=n) ba Z (congrArg (Value.int .i64) hna) (by first|omega|(simp only[ab];omega)))<|aw Z Z Z Z Z (fun w' hw'=>bR aj rowq hq0 0 Z ((H.later hw').ent (i:=5) Z) Z)<|aw Z Z Z Z Z (fun w' hw'=>bu Z Z I I)<|aw Z Z Z Z Z (fun w' hw'=>cD (k:=n) ba Z (congrArg (Value.int .i64) hna) (by first|omega|(simp only[ab];omega)))<|aT ?_
 intro w10 hw' hF
 replace H:=H.later hw';clear hw' hF
 refine kX H 5 ((q+1)) bK rowq hq0 0 Z Z Z Z Z Z N fun w12 cur11 row11 H=> ?_
 have hs13:(x.seqs.set n ((q+1)))[n]? =some ((q+1)):=am (cF hq0).1
 refine U<|W<|W ?_
 obtain⟨x1,hx1⟩: ∃ x1:Sn,{x with last:=x.last.set n ⟨0,x.pid,x.ver,q,1,x.inn,a.text⟩,seqs:=x.seqs.set n (q+1)}=x1:=⟨_,rfl⟩
 have hsA1:x1.sA=some ⟨gq,0,none⟩:=by rw[<-hx1];exact hsA
 have hlA1:x1.lA=some ⟨gl,0,none⟩:=by rw[<-hx1];exact hlA
 have rowq1:dW bS x1.seqs x1.sC cur11:=by rw[<-hx1];exact row11
 have rowl1:dW gk x1.last x1.lC cur7:=by rw[<-hx1];exact row7
 have rowS1:dW zK (sns.set i x1) snC uS:=dW.same rowS hx (by rw[<-hx1];simp only[zK,Sn.c,ab])
 have hll1:x1.last.length=ps.length:=by rw[<-hx1];simp only[ab];exact hll
 have hnm1:bO x1.name=true:=by rw[<-hx1];exact hnm
 refine Zr<|G (Zf jL Z)<|G (Zd aj H 1 Z Z Z) ?_
 refine cU (bl Z Z) Z Z Z (fun h102=> ?_) (fun h102=> ?_)
 ·
  refine U<|ZT Z<|W<|Zr<|bW bP (dS 14 _) Z Z ?_
  rintro _ w14 ⟨rfl,hb⟩;replace H:=H.later hb;clear hb
  refine bk H 0 (#[J (14),J (0),.slice none 0 0]) aQ Z Z Z Z Z N N fun w15 H=>U<|Zt ?_
  exact eO (cs0:= #[J (14),J (0),.slice none 0 0]) Z aN Z (H.ent (i:=0) Z) Z ⟨⟨ps,some ⟨gP,0,none⟩,pC,co,clo,chi,gr,glo,ghi,sns.set i x1,some ⟨gS,0,none⟩,snC⟩,by rw[oe hix hx (fun h=>by cases h) x1 (by rw[htn];exact(uG hq0 _).trans hx1),if_pos h102];exact oT.plain _ _ _,by rw[oe hix hx (fun h=>by cases h) x1 (by rw[htn];exact(uG hq0 _).trans hx1),if_pos h102];rfl,Bw.close (X:=[(b6,_),(b4,_)]) row rowS1 hset hsA1 hlA1 rowq1 rowl1 hco hgr hps (fun _ h=>h) H (by simp only[Bk.c,ab])⟩
 ·
  refine U<|ZF Z<|Zk<|W ?_
  refine mO bY (fun w'=>w'.heap[b4]? =some (.cells #[J (a.kind),.string (a.name),J (a.part),J (a.n),J (a.m),.string (a.text),J (a.lost)] fS (0,0))) ?_
  intro w16 hw';replace H:=H.later hw';clear hw'
  refine az 0 N N N Z Z Z Z Nq (H.ent (i:=1) Z) (fun _ hS=>jh dR Z hS Z)<|az 1 N N N Z Z Z Z Nq (H.ent (i:=1) Z) (fun _ hS=>Yp Z)<|az 2 N N N Z Z Z Z Nq (H.ent (i:=1) Z) (fun _ hS=>Yp Z)<|az 3 N N N Z Z Z Z Nq (H.ent (i:=1) Z) (fun _ hS=>Zf dU Z)<|az 4 N N N Z Z Z Z Nq (H.ent (i:=1) Z) (fun _ hS=>aV aj Z (aC hS Z))<|pz 5 N Z ?_
  refine bW lz ((by have hA:=Ba (i:=i) (n:=n) (k:=k) (sns:=sns.set i x1) (x:=x1) (by simp only[ab];exact H.perm ((ai _ (ai _ (ai _ (ai _ (al _ _ _))))).trans ((ai _ (ai _ (ai _ (al _ _ _)))).trans ((ai _ (ai _ (al _ _ _))).trans ((ai _ (al _ _ _)).trans ((al _ _ _).trans ((ai _ (ai _ (ai _ (ai _ (ai _ (al _ _ _)))))).trans ((ai _ (ai _ (ai _ (ai _ (al _ _ _))))).trans ((ai _ (ai _ (ai _ (al _ _ _)))).trans ((ai _ (ai _ (al _ _ _))).trans (ai _ (al _ _ _)))))))))))) row rowS1 rowl1 (am (cF hx).1) hlA1 hco hps I I I hnm1 hcb hpk;rw[<-hna]at hA;exact hA)) Z Z ?_
  rintro _ w17 ⟨ps',uP',co',clo',chi',F',hAn,hW,row',hlen',hco',hps',hF',H⟩
  replace H:=H.perm ((ai _ (al _ _ _)).trans ((al _ _ _).trans ((ai _ (ai _ (al _ _ _))).trans ((ai _ (al _ _ _)).trans ((ai _ (ai _ (ai _ (al _ _ _)))).trans ((ai _ (ai _ (al _ _ _))).trans ((ai _ (ai _ (ai _ (ai _ (al _ _ _))))).trans ((ai _ (ai _ (ai _ (al _ _ _)))).trans ((ai _ (ai _ (ai _ (ai _ (ai _ (al _ _ _)))))).trans (ai _ (ai _ (ai _ (ai _ (al _ _ _))))))))))))))
  obtain⟨A1,c1,rfl⟩:=hAn.p (ku ..)
  refine U ?_
  refine⟨(H.ent (i:=1) Z),?_⟩
  refine pz 6 N Z<|bW kF (Dm a (eo (Wa.mk (ps.map fun q=>q.p.a) co.a gr.a ((sns.set i x1).map Sn.a)) x1.a n).2.code (eo (Wa.mk (ps.map fun q=>q.p.a) co.a gr.a ((sns.set i x1).map Sn.a)) x1.a n).2.n A1 0 c1 _) Z Z ?_
  rintro _ w18 ⟨ht,hb⟩;replace H:=H.later hb;clear hb
  obtain⟨A2,c2,rfl⟩:=Kg ht
  refine U ?_
  refine⟨(H.ent (i:=1) Z),?_⟩
  refine pz 7 N Z<|bk H 0 (#[J ((gf a (eo (Wa.mk (ps.map fun q=>q.p.a) co.a gr.a ((sns.set i x1).map Sn.a)) x1.a n).2).code),J ((gf a (eo (Wa.mk (ps.map fun q=>q.p.a) co.a gr.a ((sns.set i x1).map Sn.a)) x1.a n).2).n),.slice A2 0 c2]) aQ Z Z Z Z Z N N fun w19 H=>U ?_
  refine⟨(H.ent (i:=1) Z),?_⟩
  refine jf N<|Zt ?_
  exact eO (cs0:= #[J ((gf a (eo (Wa.mk (ps.map fun q=>q.p.a) co.a gr.a ((sns.set i x1).map Sn.a)) x1.a n).2).code),J ((gf a (eo (Wa.mk (ps.map fun q=>q.p.a) co.a gr.a ((sns.set i x1).map Sn.a)) x1.a n).2).n),.slice A2 0 c2]) Z aN Z (H.ent (i:=0) Z) Z ⟨⟨ps',some ⟨gP,0,none⟩,pC,co',clo',chi',gr,glo,ghi,sns.set i x1,some ⟨gS,0,none⟩,snC⟩,by rw[oe hix hx (fun h=>by cases h) x1 (by rw[htn];exact(uG hq0 _).trans hx1),if_neg h102,htn];exact oT.of (lJ _ (ku ..)),by rw[oe hix hx (fun h=>by cases h) x1 (by rw[htn];exact(uG hq0 _).trans hx1),if_neg h102,htn];exact hW.symm,Bw.close (X:=[(b6,_),(b4,_)]) row' rowS1 hset hsA1 hlA1 rowq1 rowl1 hco' (hF' _ hgr) hps' hF' H (by simp only[Bk.c,ab])⟩
theorem xf {b:Bk} {a:Act} (hix:fh b.sns a.name=none):jZ b.a a=(b.a,⟨5,0,[]⟩):=by
 unfold jZ
 rw[show b.a.sns=b.sns.map Sn.a from rfl,Dq hix]
 rfl
theorem iX {b:Bk} {a:Act} {i:Nat} {x:Sn} (hix:fh b.sns a.name=some i) (hx:b.sns[i]? =some x):jZ b.a a=if x.inn=false then me b.a 12 else if a.lost=1 then me b.a 14 else
  if(k9 b.co.a x.name x.ver (decide (a.n=1))).2=0 then({b.a with co:=(k9 b.co.a x.name x.ver (decide (a.n=1))).1,sns:=if a.lost=0 then(b.sns.set i (wg x)).map Sn.a else b.sns.map Sn.a},gf a ⟨0,0,[]⟩)else(b.a,gf a ⟨(k9 b.co.a x.name x.ver (decide (a.n=1))).2,0,[]⟩):=by
 unfold jZ
 rw[show b.a.sns=b.sns.map Sn.a from rfl,wD hix hx,cz]
 rfl
def zT (e:cN):cN:=if e.txn then m1 else e
theorem JH (x:Sn):wg x={x with inn:=false,last:=x.last.map zT}:=rfl
theorem J9 {l:List cN} {i:Nat} {e:cN} (he:l[i]? =some e):((l.take i).map zT++l.drop i).set i (zT e)=(l.take (i+1)).map zT++l.drop (i+1):=by
 have hi:=(cF he).1
 have h1:((l.take i).map zT).length=i:=by simp;omega
 rw[i9 _ _ I,h1,mp,fe he,bj,aD]
 congr 1
 rw[mY hi]
 rfl
theorem Di {l:List cN} {i:Nat} {e:cN} (he:l[i]? =some e):((l.take i).map zT++l.drop i)[i]? =some e:=by
 have hi:=(cF he).1
 rw[cv (by simp;omega)]
 simp only[bw,aI,bv (mq hi),mp]
 rw[dO]
 exact he
theorem FR {w0 w:World} {bb:Nat} {b:Bk} {gP:Nat} {uP:Array Value} {Ls Lo K:List (Nat×Obj)} {F:List cr} (a:Act) (B:Bw w0 w bb b gP uP Ls Lo K F) (hsl:b.sns.length<=1000000) (hix:fh b.sns a.name=none):dd aa jA [.pointer (Qd bb),a.v] w fun v w2=> ∃ b':Bk,oT (jZ b.a a).2 v w2/\b'.a=(jZ b.a a).1/\xA w0 w2 bb b' K F:=by
 refine aF l5 Z Z ?_
 obtain⟨ps,pA,pC,co,clo,chi,gr,glo,ghi,sns,snA,snC⟩:=b
 obtain⟨hpA,row,hsn,hown,hco,hgr,hps,H⟩:=B
 dsimp only at hpA row hsn hown hco hgr hps
 subst hpA
 replace H:Hp w0 w ((bb,.cells #[.slice (Qd gP) ps.length pC,J (co.clock),J (co.next),J (co.wait),.slice co.A co.txs.length co.cap,J (gr.clock),J (gr.wait),J (gr.gen),.slice gr.mA gr.ms.length gr.mC,.slice gr.oA gr.os.length gr.oC,.slice snA sns.length snC] bM (0,0))::(gP,.cells uP bC (0,0))::(Ls++(Lo++K))) F:=H
 dsimp only at hix hsl
 show CW _ _ _ _ (args [.pointer (Qd bb),.agg #[J (a.kind),.string (a.name),J (a.part),J (a.n),J (a.m),.string (a.text),J (a.lost)]]) w
 refine W<|Zr<|fX H Z Z fun w1 b3 H=>ey H dt Z fun w2 b4 H=>U<|W<|Zr<|G (Yp Z)<|G (Zf fb Z)<|G (Zd bc H 1 Z Z Z)<|bW dE (jw bb ⟨ps,some ⟨gP,0,none⟩,pC,co,clo,chi,gr,glo,ghi,sns,snA,snC⟩ (a.name) Ls _ (H.ent (i:=2) Z) hsn (fun q hq=>(H.ents q (by simp only[av,ar];grind)).1) hsl) Z Z ?_
 rintro _ w3 ⟨rfl,hb⟩;replace H:=H.later hb;clear hb
 rw[hix]
 refine G (Wp Z)<|U<|W<|Zb<|W<|Zr<|G (Yp Z)<|G (xK iO Z)<|G (Wb Z)<|U<|ZT Z<|W<|Zr<|bW bP (dS 5 _) Z Z ?_
 rintro _ w4 ⟨rfl,hb⟩;replace H:=H.later hb;clear hb
 refine bk H 0 (#[J (5),J (0),.slice none 0 0]) aQ Z Z Z Z Z N N fun w5 H=>U<|Zt ?_
 exact eO (cs0:= #[J (5),J (0),.slice none 0 0]) Z aN Z (H.ent (i:=0) Z) Z ⟨⟨ps,some ⟨gP,0,none⟩,pC,co,clo,chi,gr,glo,ghi,sns,snA,snC⟩,by rw[xf hix];exact oT.plain _ _ _,by rw[xf hix],Bw.shut (X:=[(b4,_),(b3,_)]) row hsn hown hco hgr hps (fun _ h=>h) H Z⟩
theorem FQ {w0 w:World} {bb:Nat} {b:Bk} {gP:Nat} {uP:Array Value} {Ls Lo K:List (Nat×Obj)} {F:List cr} (a:Act) (B:Bw w0 w bb b gP uP Ls Lo K F) (hsl:b.sns.length<=1000000) {k i:Nat} {x:Sn} (hix:fh b.sns a.name=some i) (hx:b.sns[i]? =some x) (hlo:0<=a.lost/\a.lost<=2) (hn1:0<=a.n/\a.n<=1) (hll:x.last.length<=4) (hnm:bO x.name=true) (hcb:oS k b.co):dd aa jA [.pointer (Qd bb),a.v] w fun v w2=> ∃ b':Bk,oT (jZ b.a a).2 v w2/\b'.a=(jZ b.a a).1/\xA w0 w2 bb b' K F:=by
 refine aF l5 Z Z ?_
 obtain⟨ps,pA,pC,co,clo,chi,gr,glo,ghi,sns,snA,snC⟩:=b
 obtain⟨hpA,row,hsn,hown,hco,hgr,hps,H⟩:=B
 dsimp only at hpA row hsn hown hco hgr hps
 subst hpA
 dsimp only at hix hx
 obtain⟨gS,uS,hgS,hLs,rowS⟩:=hsn.row (by have:=(cF hx).1;omega)
 subst hgS;subst hLs
 obtain⟨gq,uq,gl,ul,La,Lb,hsA,hlA,rowq,rowl,hLo,hset⟩:=hown.at_ hx
 subst hLo
 replace H:Hp w0 w ((bb,.cells #[.slice (Qd gP) ps.length pC,J (co.clock),J (co.next),J (co.wait),.slice co.A co.txs.length co.cap,J (gr.clock),J (gr.wait),J (gr.gen),.slice gr.mA gr.ms.length gr.mC,.slice gr.oA gr.os.length gr.oC,.slice (Qd gS) sns.length snC] bM (0,0))::(gP,.cells uP bC (0,0))::(gS,.cells uS fy (0,0))::(gq,.cells uq cY (0,0))::(gl,.cells ul cZ (0,0))::(La++(Lb++K))) F:=H.perm (CS [(bb,_),(gP,_),(gS,_)] _ _ La Lb K)
 dsimp only at hsl hcb
 have hl5:(zK.f x)[5]? =some (.slice (some ⟨gl,0,none⟩) x.last.length x.lC):=by rw[<-hlA];rfl
 show CW _ _ _ _ (args [.pointer (Qd bb),.agg #[J (a.kind),.string (a.name),J (a.part),J (a.n),J (a.m),.string (a.text),J (a.lost)]]) w
 refine W<|Zr<|fX H Z Z fun w1 b3 H=>ey H dt Z fun w2 b4 H=>U<|W<|Zr<|G (Yp Z)<|G (Zf fb Z)<|G (Zd bc H 1 Z Z Z)<|bW dE (jw bb ⟨ps,some ⟨gP,0,none⟩,pC,co,clo,chi,gr,glo,ghi,sns,some ⟨gS,0,none⟩,snC⟩ (a.name) _ _ (H.ent (i:=2) Z) (dW.own rowS) (fun q hq=>by rw[aq.1 hq];exact(H.ent (i:=4) Z)) hsl) Z Z ?_
 rintro _ w3 ⟨rfl,hb⟩;replace H:=H.later hb;clear hb
 rw[hix]
 refine G (Wp Z)<|U<|W<|Zb<|W<|Zr<|G (Yp Z)<|G (vT iO Z)<|G (Wb Z)<|U<|ZF Z<|W<|Zr<|G (Zf jL Z)<|G (Zd aj H 1 Z Z Z)<|G (da Z Z I)<|G (Yb Z)<|ZG<|G (Zf jL Z)<|ZG<|G (Zd aj H 1 Z Z Z)<|ZG<|G (eh Z Z I)<|G (N Z Z)<|G (Yb Z)<|ZG<|G (Zf eP Z)<|ZG<|G (Zd aj H 1 Z Z Z)<|ZG<|G (da Z Z I)<|G (N Z Z)<|G (Yb Z)<|ZG<|G (Zf eP Z)<|ZG<|G (Zd aj H 1 Z Z Z)<|ZG<|G (eh Z Z I)<|G (N Z Z) ?_
 refine G (Wb Z)<|U<|ZF Z<|W<|Zr<|G (Yp Z)<|G (aK Z)<|G (Zf oD Z) ?_
 refine wq (bR dT rowS hx 3 Z (H.ent (i:=4) Z) Z) Z Z Z (fun h41=> ?_) (fun h41=> ?_)
 refine G (dI Z)<|G (Wb Z)<|U<|ZF Z<|W<|Zr<|G (Zf jL Z)<|G (Zd aj H 1 Z Z Z) ?_
 refine cU (bl Z Z) Z Z Z (fun h47=> ?_) (fun h47=> ?_)
 refine G (Wb Z)<|U<|ZT Z<|W<|Zr<|bW bP (dS 14 _) Z Z ?_
 rintro _ w4 ⟨rfl,hb⟩;replace H:=H.later hb;clear hb
 refine bk H 0 (#[J (14),J (0),.slice none 0 0]) aQ Z Z Z Z Z N N fun w5 H=>U<|Zt ?_
 exact eO (cs0:= #[J (14),J (0),.slice none 0 0]) Z aN Z (H.ent (i:=0) Z) Z ⟨⟨ps,some ⟨gP,0,none⟩,pC,co,clo,chi,gr,glo,ghi,sns.set i x,some ⟨gS,0,none⟩,snC⟩,by rw[iX hix hx,if_neg (by rw[h41];decide),if_pos h47];exact oT.plain _ _ _,by rw[iX hix hx,if_neg (by rw[h41];decide),if_pos h47,eY hx];rfl,Bw.close (X:=[(b4,_),(b3,_)]) row (by rw[eY hx];exact rowS) hset hsA hlA rowq rowl hco hgr hps (fun _ h=>h) H (by rw[eY hx];rfl)⟩
 refine G (Wb Z)<|U<|ZF Z<|Zk<|W ?_
 refine eD (τ:=Co×Nat×Nat×Nat) [6,7,49,50,51,52,53,54,55,56,57,58,59,60,61,62,63,64,65,66,67,68] (fun(_,b6,_,_)=>[(6,.pointer (Qd b6)),(7,J (k9 co.a x.name x.ver (decide (a.n=1))).2)]) (fun(c3,b6,lo,hi) w'=>c3.a=(k9 co.a x.name x.ver (decide (a.n=1))).1/\Hp w0 w' ((b6,.cells #[J (c3.clock),J (c3.next),J (c3.wait),.slice c3.A c3.txs.length c3.cap] bf (0,0))::(b4,.cells #[J (0),J (0),.slice none 0 0] ee (0,0))::(b3,.cells #[J (a.kind),.string (a.name),J (a.part),J (a.n),J (a.m),.string (a.text),J (a.lost)] fS (0,0))::(bb,.cells #[.slice (Qd gP) ps.length pC,J (co.clock),J (co.next),J (co.wait),.slice co.A co.txs.length co.cap,J (gr.clock),J (gr.wait),J (gr.gen),.slice gr.mA gr.ms.length gr.mC,.slice gr.oA gr.os.length gr.oC,.slice (Qd gS) sns.length snC] bM (0,0))::(gP,.cells uP bC (0,0))::(gS,.cells uS fy (0,0))::(gq,.cells uq cY (0,0))::(gl,.cells ul cZ (0,0))::La++(Lb++K)) (xz w0 lo hi c3::F)) ?_ ?_
 refine oH bY 20 16 [16,17,18,19,21,22] [20] [0,1,2,3,5,6,7,9,10,11,13,15] [20,21,22] [16] [0,1,2,3,5,6,7,9,10,11,13,15,17,18,19] (sp [(20,Sp.blk w3.heap.size (.agg #[J 0,J 0,J 0,.slice none 0 0]) bf)]) (sp [(16,Sp.deep w3.heap.size Mu (fun c:Co=>c.c.toArray) (fun cs=> .tuple #[.agg cs,J (k9 co.a x.name x.ver (decide (a.n=1))).2]) (fun cq:Co=>cq.a=(k9 co.a x.name x.ver (decide (a.n=1))).1))]) N N N N (cH _) (cH _) ?_ ?_
 refine jD [0,1,2,3,4,5,6,7,8,9,10,11,12,13,14,15,20] [16,17,18,19,21,22] [20] [0,1,2,3,5,6,7,9,10,11,13,15] 5 (sp [(20,Sp.blk w3.heap.size (.agg #[J 0,J 0,J 0,.slice none 0 0]) bf)]) N N N Nq<|aw Z Z Z Z Z (fun w' hw'=>Yp Z)<|aw Z Z Z Z Z (fun w' hw'=>aK Z)<|aw Z Z Z Z Z (fun w' hw'=>Zf aW Z)<|aw Z Z Z Z Z (fun w' hw'=>Zf eB Z)<|aw Z Z Z Z Z (fun w' hw'=>jJ 1 [J (co.clock),J (co.next),J (co.wait),.slice co.A co.txs.length co.cap] ax Z Z ((H.later hw').ent (i:=2) Z) Z)<|aw Z Z Z Z Z (fun w' hw'=>Yp Z)<|aw Z Z Z Z Z (fun w' hw'=>aK Z)<|aw Z Z Z Z Z (fun w' hw'=>Zf oE Z)<|aw Z Z Z Z Z (fun w' hw'=>bR bc rowS hx 0 Z ((H.later hw').ent (i:=4) Z) Z)<|aw Z Z Z Z Z (fun w' hw'=>Yp Z)<|aw Z Z Z Z Z (fun w' hw'=>aK Z)<|aw Z Z Z Z Z (fun w' hw'=>Zf uc Z)<|aw Z Z Z Z Z (fun w' hw'=>bR aj rowS hx 2 Z ((H.later hw').ent (i:=4) Z) Z)<|aw Z Z Z Z Z (fun w' hw'=>Zf eP Z)<|aw Z Z Z Z Z (fun w' hw'=>aV aj Z (aC ((H.later hw').ent (i:=1) Z) Z))<|aw Z Z Z Z Z (fun w' hw'=>bl Z Z)<|xu cK Z Z Z Z Z (fun w' hw'=>hw'.size) fun b6=>aT ?_
 intro w6 hw' hF
 obtain⟨hF,bq,eq,hge6,hbl6⟩:=hF;cases eq
 replace H:=H.adoptNew hw' hbl6 hge6
 clear hw' hF
 refine de 16 N Z<|bW xn (FX co x.name x.ver (decide (a.n=1)) k _ (Hp.coM H hco) hcb hnm) Z Z ?_
 rintro _ w7 ⟨c3,rfl,hac3,hnc3⟩;replace H:=H.learn hnc3.2 (xz w0 w6.heap.size w7.heap.size c3) ⟨H.size,hnc3.1⟩ (ao _) (ao _);clear hnc3
 refine U<|bA 17 N N N Z Z Z Z Nq (fun _=>Yu Z)<|bA 18 N N N Z Z Z Z Nq (fun _=>Xa Z Z)<|bA 19 N N N Z Z Z Z Nq (fun _=>Xi Z Z)<|de 21 N Z<|bk H 0 (#[J (c3.clock),J (c3.next),J (c3.wait),.slice c3.A c3.txs.length c3.cap]) aH Z Z Z Z Z N N fun w8 H=>U<|bA 22 N N N Z Z Z Z Nq (fun _=>Wi Z)<|cB N ?_
 exact⟨(c3,b6,_,_),⟨hac3,H⟩,lh Z Z,Qg⟩
 refine jD [0,1,2,3,4,5,6,7,8,9,10,11,12,13,14,15,16,17,18,19] [20,21,22] [16] [0,1,2,3,5,6,7,9,10,11,13,15,17,18,19] 2 (sp [(16,Sp.deep w3.heap.size Mu (fun c:Co=>c.c.toArray) (fun cs=> .tuple #[.agg cs,J (k9 co.a x.name x.ver (decide (a.n=1))).2]) (fun cq:Co=>cq.a=(k9 co.a x.name x.ver (decide (a.n=1))).1))]) N N N Nq<|aw Z Z Z Z Z (fun w' hw'=>Yp Z)<|aw Z Z Z Z Z (fun w' hw'=>aK Z)<|aw Z Z Z Z Z (fun w' hw'=>Zf aW Z)<|aw Z Z Z Z Z (fun w' hw'=>Zf eB Z)<|aw Z Z Z Z Z (fun w' hw'=>jJ 1 [J (co.clock),J (co.next),J (co.wait),.slice co.A co.txs.length co.cap] ax Z Z ((H.later hw').ent (i:=2) Z) Z)<|aw Z Z Z Z Z (fun w' hw'=>Yp Z)<|aw Z Z Z Z Z (fun w' hw'=>aK Z)<|aw Z Z Z Z Z (fun w' hw'=>Zf oE Z)<|aw Z Z Z Z Z (fun w' hw'=>bR bc rowS hx 0 Z ((H.later hw').ent (i:=4) Z) Z)<|aw Z Z Z Z Z (fun w' hw'=>Yp Z)<|aw Z Z Z Z Z (fun w' hw'=>aK Z)<|aw Z Z Z Z Z (fun w' hw'=>Zf uc Z)<|aw Z Z Z Z Z (fun w' hw'=>bR aj rowS hx 2 Z ((H.later hw').ent (i:=4) Z) Z)<|aw Z Z Z Z Z (fun w' hw'=>Zf eP Z)<|aw Z Z Z Z Z (fun w' hw'=>aV aj Z (aC ((H.later hw').ent (i:=1) Z) Z))<|aw Z Z Z Z Z (fun w' hw'=>bl Z Z)<|s5 (gv:=(fun cs=> .tuple #[.agg cs,J (k9 co.a x.name x.ver (decide (a.n=1))).2])) xn Z Z Z Z Z (fun w' hw'=>hw'.size) (fun w' hw'=>FX co x.name x.ver (decide (a.n=1)) k w' (Hp.coM (H.later hw') hco) hcb hnm) Z fun cs66=>aw Z Z Z Z Z (fun w' hw'=>Yu Z)<|aw Z Z Z Z Z (fun w' hw'=>Xa Z Z)<|aw Z Z Z Z Z (fun w' hw'=>Xi Z Z)<|aT ?_
 intro w9 hw' hF
 obtain⟨hF,c3,eq,hac3,hrd66⟩:=hF;cases eq
 replace H:=H.learn hw' (xz w0 w3.heap.size w9.heap.size c3) ⟨H.size,hrd66⟩ (ao _) (ao _)
 clear hw' hF
 refine de 20 N Z<|ey H cK Z fun w10 b6 H=>U<|de 21 N Z<|bk H 0 (#[J (c3.clock),J (c3.next),J (c3.wait),.slice c3.A c3.txs.length c3.cap]) aH Z Z Z Z Z N N fun w11 H=>U<|bA 22 N N N Z Z Z Z Nq (fun _=>Wi Z)<|cB N ?_
 exact⟨(c3,b6,_,_),⟨hac3,H⟩,lh Z Z,Qg⟩
 rintro⟨c3,b6,lo,hi⟩ ρ1 w12 ⟨hac3,H⟩
 show CW _ _ _ _ (dB (gJ _ _ ρ1) [(6,.pointer (Qd b6)),(7,J (k9 co.a x.name x.ver (decide (a.n=1))).2)]) w12
 refine W<|W<|Zr<|G (Yi Z) ?_
 refine rg (i7 Z Z) Z Z Z (fun h70=> ?_) (fun h70=> ?_)
 refine U<|ZT Z<|W ?_
 refine bB bY [0,1,2,3] [4] [2,3] [1] (sp [(2,Sp.one (.agg #[J (k9 co.a x.name x.ver (decide (a.n=1))).2,J 0,.slice none 0 0])),(3,Sp.one (.agg #[J (gf a ⟨(k9 co.a x.name x.ver (decide (a.n=1))).2,0,[]⟩).code,J (gf a ⟨(k9 co.a x.name x.ver (decide (a.n=1))).2,0,[]⟩).n,.slice none 0 0]))]) N N N N Nq (cH _) ?_
 refine aw Z Z Z Z Z (fun w' hw'=>jh dR Z ((H.later hw').ent (i:=2) Z) Z)<|aw Z Z Z Z Z (fun w' hw'=>Yi Z)<|hJ bP Z Z Z Z Z (fun w' hw'=>dS (k9 co.a x.name x.ver (decide (a.n=1))).2 w') Z<|hJ kF Z Z Z Z Z (fun w' hw'=>Gv a ⟨(k9 co.a x.name x.ver (decide (a.n=1))).2,0,[]⟩ w') Z<|aT ?_
 intro w13 hw' hF
 replace H:=H.later hw';clear hw' hF
 refine bk H 1 (#[J ((gf a ⟨(k9 co.a x.name x.ver (decide (a.n=1))).2,0,[]⟩).code),J ((gf a ⟨(k9 co.a x.name x.ver (decide (a.n=1))).2,0,[]⟩).n),.slice none 0 0]) aQ Z Z Z Z Z N N fun w14 H=>U<|Zt ?_
 exact eO (cs0:= #[J ((gf a ⟨(k9 co.a x.name x.ver (decide (a.n=1))).2,0,[]⟩).code),J ((gf a ⟨(k9 co.a x.name x.ver (decide (a.n=1))).2,0,[]⟩).n),.slice none 0 0]) Z aN Z (H.ent (i:=1) Z) Z ⟨⟨ps,some ⟨gP,0,none⟩,pC,co,clo,chi,gr,glo,ghi,sns.set i x,some ⟨gS,0,none⟩,snC⟩,by rw[iX hix hx,if_neg (by rw[h41];decide),if_neg h47,if_neg h70];exact Pn.r ⟨lJ _ Z,rfl⟩ _,by rw[iX hix hx,if_neg (by rw[h41];decide),if_neg h47,if_neg h70,eY hx],Bw.close (X:=[(b6,_),(b4,_),(b3,_)]) row (by rw[eY hx];exact rowS) hset hsA hlA rowq rowl (ak _ hco) (ak _ hgr) (fun q hq=>ak _ (hps q hq)) (fun f hf=>ak _ hf) H (by rw[eY hx];rfl)⟩
 refine U<|ZF Z<|Zk<|W ?_
 have hok3:(k9 co.a x.name x.ver (decide (a.n=1))).2=0:=by simpa using h70
 refine Zr<|G (Yp Z)<|G (Zw ax H 0 Z Z Z)<|G (aK Z)<|G (Zf aW Z)<|G (Zf eB Z)<|bk H 3 (#[.slice (Qd gP) ps.length pC,J (c3.clock),J (c3.next),J (c3.wait),.slice c3.A c3.txs.length c3.cap,J (gr.clock),J (gr.wait),J (gr.gen),.slice gr.mA gr.ms.length gr.mC,.slice gr.oA gr.os.length gr.oC,.slice (Qd gS) sns.length snC]) aH Z Z Z Z Z N N fun w15 H=>U<|W<|W<|Zr<|G (Zf jL Z)<|G (Zd aj H 2 Z Z Z) ?_
 refine cU (bl Z Z) Z Z Z (fun h82=> ?_) (fun h82=> ?_)
 refine U<|ZT Z<|W<|Zr<|G (Yp Z)<|G (aK Z)<|G (Zf oD Z)<|kX H 5 ({x with inn:=false}) iK rowS hx 3 Z Z Z Z Z Z N fun w17 cur16 row16 H=> ?_
 have hs18:(sns.set i ({x with inn:=false}))[i]? =some ({x with inn:=false}):=am (cF hx).1
 refine U<|W<|Zr<|G (Yp Z)<|G (aK Z)<|G (Zf l7 Z)<|G (bR nv row16 hs18 5 Z (H.ent (i:=5) Z) hl5)<|G (bn dM Z)<|G (Yi Z)<|U<|Zb ?_
 refine ce (τ:=Nat×Array Value) [8,91,92,93,94,95,96,97,98,99,100,101,102,103,104,105,106,107,108,109] (fun(j,_)=>[(91,J (j:Nat))]) (fun(j,u) w'=>j<=x.last.length/\dW gk ((x.last.take j).map zT++x.last.drop j) x.lC u/\Hp w0 w' ((b6,.cells #[J (c3.clock),J (c3.next),J (c3.wait),.slice c3.A c3.txs.length c3.cap] bf (0,0))::(b4,.cells #[J (0),J (0),.slice none 0 0] ee (0,0))::(b3,.cells #[J (a.kind),.string (a.name),J (a.part),J (a.n),J (a.m),.string (a.text),J (a.lost)] fS (0,0))::(bb,.cells #[.slice (Qd gP) ps.length pC,J (c3.clock),J (c3.next),J (c3.wait),.slice c3.A c3.txs.length c3.cap,J (gr.clock),J (gr.wait),J (gr.gen),.slice gr.mA gr.ms.length gr.mC,.slice gr.oA gr.os.length gr.oC,.slice (Qd gS) sns.length snC] bM (0,0))::(gP,.cells uP bC (0,0))::(gS,.cells cur16 fy (0,0))::(gq,.cells uq cY (0,0))::(gl,.cells u cZ (0,0))::La++(Lb++K)) (xz w0 lo hi c3::F)) (fun(j,_)=>x.last.length-j) (0,_) ⟨bD _,(by simpa using rowl),H⟩ (dK Z) ?_
 rintro⟨j,u⟩ ρ1 w19 ⟨hj,rowu,H⟩
 show CW _ _ _ _ (dB (gJ _ _ ρ1) [(91,J (j:Nat))]) w19
 refine W<|Zr ?_
 refine cU (cG Z Z) Z Z Z (fun h92=> ?_) (fun h92=> ?_)
 refine U<|W<|ZT Z<|Zk<|W<|Zb<|W<|Zr<|G (Yi Z)<|G (Wi Z)<|U<|W ?_
 obtain⟨e,he⟩: ∃ e,x.last[j]? =some e:=⟨_,ah I⟩
 refine Zr<|G (Yp Z)<|G (aK Z)<|G (Zf l7 Z)<|G (bR nv row16 hs18 5 Z (H.ent (i:=5) Z) hl5)<|G (Yi Z)<|G (cD dg Z Z (by first|omega|(simp only[ab];omega)))<|G (Zf iZ Z) ?_
 refine wq (bR dT rowu (Di he) 5 Z (H.ent (i:=7) Z) Z) Z Z Z (fun h101=> ?_) (fun h101=> ?_)
 refine U<|ZT Z<|Zr<|G (Yp Z)<|G (aK Z)<|G (Zf l7 Z)<|G (bR nv row16 hs18 5 Z (H.ent (i:=5) Z) hl5)<|G (Yi Z)<|G (bi (cs:= #[J (0),J (0),J (0),J (0),J (0),.bool (false),.string (⟨#[]⟩)]) oc gi N)<|G (cD dg Z Z (by first|omega|(simp only[ab];omega)))<|kX H 7 (m1) eS rowu (Di he) 0 Z Z Z Z Z Z N fun w21 cur20 row20 H=> ?_
 have hs22:((((x.last.take j).map zT++x.last.drop j)).set j (m1))[j]? =some (m1):=am (cF (Di he)).1
 refine U<|Zr<|G (bu Z Z I I)<|G (Yi Z)<|U ?_
 refine⟨(j+1,_),⟨by omega,?_,H⟩,dK Z,Qg,by show x.last.length- (j+1)<x.last.length-j;omega⟩
 rw[<-J9 he]
 have hz:zT e=m1:=by unfold zT;rw[if_pos h101]
 rw[hz]
 exact row20
 refine U<|ZF Z<|Zk<|Zr<|G (bu Z Z I I)<|G (Yi Z)<|U ?_
 refine⟨(j+1,_),⟨by omega,?_,H⟩,dK Z,Qg,by show x.last.length- (j+1)<x.last.length-j;omega⟩
 rw[<-J9 he]
 have hz:zT e=e:=by unfold zT;rw[if_neg (by rw[h101];decide)]
 rw[hz,eY (Di he)]
 exact rowu
 refine U<|W<|ZF Z<|Zx<|W ?_
 obtain rfl:j=x.last.length:=by omega
 rw[bL,fq,aY]at rowu
 obtain⟨x1,hx1⟩: ∃ x1:Sn,{x with inn:=false,last:=x.last.map zT}=x1:=⟨_,rfl⟩
 have hsA1:x1.sA=some ⟨gq,0,none⟩:=by rw[<-hx1];exact hsA
 have hlA1:x1.lA=some ⟨gl,0,none⟩:=by rw[<-hx1];exact hlA
 have rowq1:dW bS x1.seqs x1.sC uq:=by rw[<-hx1];exact rowq
 have rowl1:dW gk x1.last x1.lC u:=by rw[<-hx1];exact rowu
 have rowS1:dW zK (sns.set i x1) snC cur16:=by have:=dW.same (e':=x1) row16 hs18 (by rw[<-hx1];simp only[zK,Sn.c,bw]);rwa[fo]at this
 have hsn1:(if a.lost=0 then(sns.set i (wg x)).map Sn.a else sns.map Sn.a)=(sns.set i x1).map Sn.a:=by rw[if_pos h82,<-hx1,JH]
 refine Zr<|G (Zw dR H 2 Z Z Z)<|G (bi (cs:= #[J (0),J (0),.slice none 0 0]) iF dt N)<|bW kF (Gv a ⟨0,0,[]⟩ _) Z Z ?_
 rintro _ w23 ⟨rfl,hb⟩;replace H:=H.later hb;clear hb
 refine bk H 1 (#[J ((gf a ⟨0,0,[]⟩).code),J ((gf a ⟨0,0,[]⟩).n),.slice none 0 0]) aQ Z Z Z Z Z N N fun w24 H=>U<|Zt ?_
 exact eO (cs0:= #[J ((gf a ⟨0,0,[]⟩).code),J ((gf a ⟨0,0,[]⟩).n),.slice none 0 0]) Z aN Z (H.ent (i:=1) Z) Z ⟨⟨ps,some ⟨gP,0,none⟩,pC,c3,lo,hi,gr,glo,ghi,sns.set i x1,some ⟨gS,0,none⟩,snC⟩,by rw[iX hix hx,if_neg (by rw[h41];decide),if_neg h47,if_pos hok3];exact Pn.r ⟨lJ _ Z,rfl⟩ _,by rw[iX hix hx,if_neg (by rw[h41];decide),if_neg h47,if_pos hok3,<-hac3];show _=Wa.mk _ _ _ (if a.lost=0 then _ else _);rw[hsn1];rfl,Bw.close (X:=[(b6,_),(b4,_),(b3,_)]) row rowS1 hset hsA1 hlA1 rowq1 rowl1 (aB ..) (ak _ hgr) (fun q hq=>ak _ (hps q hq)) (fun f hf=>ak _ hf) H (by simp only[Bk.c,ab])⟩
 refine U<|ZF Z<|Zk<|W ?_
 obtain⟨x1,hx1⟩: ∃ x1:Sn,x=x1:=⟨_,rfl⟩
 have hsA1:x1.sA=some ⟨gq,0,none⟩:=by rw[<-hx1];exact hsA
 have hlA1:x1.lA=some ⟨gl,0,none⟩:=by rw[<-hx1];exact hlA
 have rowq1:dW bS x1.seqs x1.sC uq:=by rw[<-hx1];exact rowq
 have rowl1:dW gk x1.last x1.lC ul:=by rw[<-hx1];exact rowl
 have rowS1:dW zK (sns.set i x1) snC uS:=by rw[<-hx1,eY hx];exact rowS
 have hsn1:(if a.lost=0 then(sns.set i (wg x)).map Sn.a else sns.map Sn.a)=(sns.set i x1).map Sn.a:=by rw[if_neg h82,<-hx1,eY hx]
 refine Zr<|G (Zw dR H 2 Z Z Z)<|G (bi (cs:= #[J (0),J (0),.slice none 0 0]) iF dt N)<|bW kF (Gv a ⟨0,0,[]⟩ _) Z Z ?_
 rintro _ w25 ⟨rfl,hb⟩;replace H:=H.later hb;clear hb
 refine bk H 1 (#[J ((gf a ⟨0,0,[]⟩).code),J ((gf a ⟨0,0,[]⟩).n),.slice none 0 0]) aQ Z Z Z Z Z N N fun w26 H=>U<|Zt ?_
 exact eO (cs0:= #[J ((gf a ⟨0,0,[]⟩).code),J ((gf a ⟨0,0,[]⟩).n),.slice none 0 0]) Z aN Z (H.ent (i:=1) Z) Z ⟨⟨ps,some ⟨gP,0,none⟩,pC,c3,lo,hi,gr,glo,ghi,sns.set i x1,some ⟨gS,0,none⟩,snC⟩,by rw[iX hix hx,if_neg (by rw[h41];decide),if_neg h47,if_pos hok3];exact Pn.r ⟨lJ _ Z,rfl⟩ _,by rw[iX hix hx,if_neg (by rw[h41];decide),if_neg h47,if_pos hok3,<-hac3];show _=Wa.mk _ _ _ (if a.lost=0 then _ else _);rw[hsn1];rfl,Bw.close (X:=[(b6,_),(b4,_),(b3,_)]) row rowS1 hset hsA1 hlA1 rowq1 rowl1 (aB ..) (ak _ hgr) (fun q hq=>ak _ (hps q hq)) (fun f hf=>ak _ hf) H (by simp only[Bk.c,ab])⟩
 refine G (dI Z)<|G (Wb Z)<|U<|ZT Z<|W<|Zr<|bW bP (dS 12 _) Z Z ?_
 rintro _ w27 ⟨rfl,hb⟩;replace H:=H.later hb;clear hb
 refine bk H 0 (#[J (12),J (0),.slice none 0 0]) aQ Z Z Z Z Z N N fun w28 H=>U<|Zt ?_
 exact eO (cs0:= #[J (12),J (0),.slice none 0 0]) Z aN Z (H.ent (i:=0) Z) Z ⟨⟨ps,some ⟨gP,0,none⟩,pC,co,clo,chi,gr,glo,ghi,sns.set i x,some ⟨gS,0,none⟩,snC⟩,by rw[iX hix hx,if_pos h41];exact oT.plain _ _ _,by rw[iX hix hx,if_pos h41,eY hx];rfl,Bw.close (X:=[(b4,_),(b3,_)]) row (by rw[eY hx];exact rowS) hset hsA hlA rowq rowl hco hgr hps (fun _ h=>h) H (by rw[eY hx];rfl)⟩
theorem uK {w:Wa} {a:Act} (h:(bT w.co a.name).2.2.2≠0):pi w a=me w (bT w.co a.name).2.2.2:=by
 unfold pi
 rw[if_neg h]
theorem CQ {b:Bk} {a:Act} (hix:fh b.sns a.name=none) (h:(bT b.co.a a.name).2.2.2=0):pi b.a a=({b.a with co:=(bT b.co.a a.name).1,sns:=b.sns.map Sn.a++[vp a.name (bT b.co.a a.name).2.1 (bT b.co.a a.name).2.2.1 b.ps.length]},⟨0,(bT b.co.a a.name).2.2.1,[]⟩):=by
 unfold pi E2
 rw[if_pos (show(bT b.a.co a.name).2.2.2=0 from h),show b.a.sns=b.sns.map Sn.a from rfl]
 dsimp only[vp]
 rw[zi,hix,show b.a.ps.length=b.ps.length by show(b.ps.map _).length=_;rw[bw]]
 rfl
theorem CP {b:Bk} {a:Act} {i:Nat} (hix:fh b.sns a.name=some i) (h:(bT b.co.a a.name).2.2.2=0):pi b.a a=({b.a with co:=(bT b.co.a a.name).1,sns:=(b.sns.map Sn.a).set i (vp a.name (bT b.co.a a.name).2.1 (bT b.co.a a.name).2.2.1 b.ps.length)},⟨0,(bT b.co.a a.name).2.2.1,[]⟩):=by
 unfold pi E2
 rw[if_pos (show(bT b.a.co a.name).2.2.2=0 from h),show b.a.sns=b.sns.map Sn.a from rfl]
 dsimp only[vp]
 rw[zi,hix,show b.a.ps.length=b.ps.length by show(b.ps.map _).length=_;rw[bw]]
 rfl
theorem No (A Q Lo K:List (Nat×Obj)):(A++((Lo++Q)++K)).Perm (Q++(A++(Lo++K))):=by
 rw[show A++((Lo++Q)++K)=(A++Lo)++(Q++K) by simp,show A++(Lo++K)=(A++Lo)++K by simp]
 exact fY (A++Lo) Q K
def Pz:Sn:=⟨⟨#[]⟩,0,0,false,[],none,0,[],none,0⟩
theorem Ie:(aa.info? 3).map (fun i=>(i.zero,i.size,i.bytes))=some (some (J 0),bS.sz,8):=by kernel_rfl
theorem CK:(aa.info? 59).map (fun i=>(i.zero,i.size,i.bytes))=some (some (.agg #[J 0,J 0,J 0,J 0,J 0,.bool false,.string ⟨#[]⟩]),gk.sz,64):=by kernel_rfl
theorem Jo {w0 w:World} {bb:Nat} {b:Bk} {gP:Nat} {uP:Array Value} {Ls Lo K:List (Nat×Obj)} {F:List cr} (a:Act) (B:Bw w0 w bb b gP uP Ls Lo K F) (hsl:b.sns.length<=1000000) {k:Nat} (hnm:bO a.name=true) (hcb:oS k b.co) (hk:k<=1000) (hnp:0<b.ps.length) (hp4:b.ps.length<=4) (hix:fh b.sns a.name=none):dd aa kf [.pointer (Qd bb),a.v] w fun v w2=> ∃ b':Bk,oT (pi b.a a).2 v w2/\b'.a=(pi b.a a).1/\xA w0 w2 bb b' K F:=by
 refine aF nc Z Z ?_
 obtain⟨ps,pA,pC,co,clo,chi,gr,glo,ghi,sns,snA,snC⟩:=b
 obtain⟨hpA,row,hsn,hown,hco,hgr,hps,H⟩:=B
 dsimp only at hpA row hsn hown hco hgr hps
 subst hpA
 replace H:Hp w0 w ((bb,.cells #[.slice (Qd gP) ps.length pC,J (co.clock),J (co.next),J (co.wait),.slice co.A co.txs.length co.cap,J (gr.clock),J (gr.wait),J (gr.gen),.slice gr.mA gr.ms.length gr.mC,.slice gr.oA gr.os.length gr.oC,.slice snA sns.length snC] bM (0,0))::(gP,.cells uP bC (0,0))::(Ls++(Lo++K))) F:=H
 dsimp only at hix hsl hcb hnp hp4
 show CW _ _ _ _ (args [.pointer (Qd bb),.agg #[J (a.kind),.string (a.name),J (a.part),J (a.n),J (a.m),.string (a.text),J (a.lost)]]) w
 refine W<|Zr<|fX H Z Z fun w1 b3 H=>ey H dt Z fun w2 b4 H=>U<|W ?_
 refine eD (τ:=Co×Nat×Nat×Nat) [5,6,7,8,10,11,12,13,14,15,16,17,18,19,20,21,22] (fun(_,b5,_,_)=>[(5,.pointer (Qd b5)),(6,J (bT co.a a.name).2.1),(7,J (bT co.a a.name).2.2.1),(8,J (bT co.a a.name).2.2.2)]) (fun(c3,b5,lo,hi) w'=>c3.a=(bT co.a a.name).1/\Hp w0 w' ((b5,.cells #[J (c3.clock),J (c3.next),J (c3.wait),.slice c3.A c3.txs.length c3.cap] bf (0,0))::(b4,.cells #[J (0),J (0),.slice none 0 0] ee (0,0))::(b3,.cells #[J (a.kind),.string (a.name),J (a.part),J (a.n),J (a.m),.string (a.text),J (a.lost)] fS (0,0))::(bb,.cells #[.slice (Qd gP) ps.length pC,J (co.clock),J (co.next),J (co.wait),.slice co.A co.txs.length co.cap,J (gr.clock),J (gr.wait),J (gr.gen),.slice gr.mA gr.ms.length gr.mC,.slice gr.oA gr.os.length gr.oC,.slice snA sns.length snC] bM (0,0))::(gP,.cells uP bC (0,0))::(Ls++(Lo++K))) (xz w0 lo hi c3::F)) ?_ ?_
 refine oH bY 13 7 [7,8,9,10,11,12,14,15,16,17] [13] [0,1,2,3,5] [13,14,15,16,17] [7] [0,1,2,3,5,8,9,10,11,12] (sp [(13,Sp.blk w2.heap.size (.agg #[J 0,J 0,J 0,.slice none 0 0]) bf)]) (sp [(7,Sp.deep w2.heap.size Mu (fun c:Co=>c.c.toArray) (fun cs=> .tuple #[.agg cs,J (bT co.a a.name).2.1,J (bT co.a a.name).2.2.1,J (bT co.a a.name).2.2.2]) (fun cq:Co=>cq.a=(bT co.a a.name).1))]) N N N N (cH _) (cH _) ?_ ?_
 refine jD [0,1,2,3,4,5,6,13] [7,8,9,10,11,12,14,15,16,17] [13] [0,1,2,3,5] 9 (sp [(13,Sp.blk w2.heap.size (.agg #[J 0,J 0,J 0,.slice none 0 0]) bf)]) N N N Nq<|aw Z Z Z Z Z (fun w' hw'=>Yp Z)<|aw Z Z Z Z Z (fun w' hw'=>aK Z)<|aw Z Z Z Z Z (fun w' hw'=>Zf aW Z)<|aw Z Z Z Z Z (fun w' hw'=>Zf eB Z)<|aw Z Z Z Z Z (fun w' hw'=>jJ 1 [J (co.clock),J (co.next),J (co.wait),.slice co.A co.txs.length co.cap] ax Z Z ((H.later hw').ent (i:=2) Z) Z)<|aw Z Z Z Z Z (fun w' hw'=>Zf fb Z)<|aw Z Z Z Z Z (fun w' hw'=>aV bc Z (aC ((H.later hw').ent (i:=1) Z) Z))<|xu cK Z Z Z Z Z (fun w' hw'=>hw'.size) fun b5=>aT ?_
 intro w3 hw' hF
 obtain⟨hF,bq,eq,hge5,hbl5⟩:=hF;cases eq
 replace H:=H.adoptNew hw' hbl5 hge5
 clear hw' hF
 refine de 7 N Z<|bW n8 (wP co a.name k _ (Hp.coM H hco) hcb hk hnm) Z Z ?_
 rintro _ w4 ⟨c3,rfl,hac3,hnc3⟩;replace H:=H.learn hnc3.2 (xz w0 w3.heap.size w4.heap.size c3) ⟨H.size,hnc3.1⟩ (ao _) (ao _);clear hnc3
 refine U<|bA 8 N N N Z Z Z Z Nq (fun _=>Yu Z)<|bA 9 N N N Z Z Z Z Nq (fun _=>Xa Z Z)<|bA 10 N N N Z Z Z Z Nq (fun _=>Xi Z Z)<|bA 11 N N N Z Z Z Z Nq (fun _=>Xi Z Z)<|bA 12 N N N Z Z Z Z Nq (fun _=>Xi Z Z)<|de 14 N Z<|bk H 0 (#[J (c3.clock),J (c3.next),J (c3.wait),.slice c3.A c3.txs.length c3.cap]) aH Z Z Z Z Z N N fun w5 H=>U<|bA 15 N N N Z Z Z Z Nq (fun _=>Wi Z)<|bA 16 N N N Z Z Z Z Nq (fun _=>Wi Z)<|bA 17 N N N Z Z Z Z Nq (fun _=>Wi Z)<|cB N ?_
 exact⟨(c3,b5,_,_),⟨hac3,H⟩,Pu Z Z Z Z,Qg⟩
 refine jD [0,1,2,3,4,5,6,7,8,9,10,11,12] [13,14,15,16,17] [7] [0,1,2,3,5,8,9,10,11,12] 4 (sp [(7,Sp.deep w2.heap.size Mu (fun c:Co=>c.c.toArray) (fun cs=> .tuple #[.agg cs,J (bT co.a a.name).2.1,J (bT co.a a.name).2.2.1,J (bT co.a a.name).2.2.2]) (fun cq:Co=>cq.a=(bT co.a a.name).1))]) N N N Nq<|aw Z Z Z Z Z (fun w' hw'=>Yp Z)<|aw Z Z Z Z Z (fun w' hw'=>aK Z)<|aw Z Z Z Z Z (fun w' hw'=>Zf aW Z)<|aw Z Z Z Z Z (fun w' hw'=>Zf eB Z)<|aw Z Z Z Z Z (fun w' hw'=>jJ 1 [J (co.clock),J (co.next),J (co.wait),.slice co.A co.txs.length co.cap] ax Z Z ((H.later hw').ent (i:=2) Z) Z)<|aw Z Z Z Z Z (fun w' hw'=>Zf fb Z)<|aw Z Z Z Z Z (fun w' hw'=>aV bc Z (aC ((H.later hw').ent (i:=1) Z) Z))<|s5 (gv:=(fun cs=> .tuple #[.agg cs,J (bT co.a a.name).2.1,J (bT co.a a.name).2.2.1,J (bT co.a a.name).2.2.2])) n8 Z Z Z Z Z (fun w' hw'=>hw'.size) (fun w' hw'=>wP co a.name k w' (Hp.coM (H.later hw') hco) hcb hk hnm) Z fun cs18=>aw Z Z Z Z Z (fun w' hw'=>Yu Z)<|aw Z Z Z Z Z (fun w' hw'=>Xa Z Z)<|aw Z Z Z Z Z (fun w' hw'=>Xi Z Z)<|aw Z Z Z Z Z (fun w' hw'=>Xi Z Z)<|aw Z Z Z Z Z (fun w' hw'=>Xi Z Z)<|aT ?_
 intro w6 hw' hF
 obtain⟨hF,c3,eq,hac3,hrd18⟩:=hF;cases eq
 replace H:=H.learn hw' (xz w0 w2.heap.size w6.heap.size c3) ⟨H.size,hrd18⟩ (ao _) (ao _)
 clear hw' hF
 refine de 13 N Z<|ey H cK Z fun w7 b5 H=>U<|de 14 N Z<|bk H 0 (#[J (c3.clock),J (c3.next),J (c3.wait),.slice c3.A c3.txs.length c3.cap]) aH Z Z Z Z Z N N fun w8 H=>U<|bA 15 N N N Z Z Z Z Nq (fun _=>Wi Z)<|bA 16 N N N Z Z Z Z Nq (fun _=>Wi Z)<|bA 17 N N N Z Z Z Z Nq (fun _=>Wi Z)<|cB N ?_
 exact⟨(c3,b5,_,_),⟨hac3,H⟩,Pu Z Z Z Z,Qg⟩
 rintro⟨c3,b5,lo,hi⟩ ρ1 w9 ⟨hac3,H⟩
 show CW _ _ _ _ (dB (gJ _ _ ρ1) [(5,.pointer (Qd b5)),(6,J (bT co.a a.name).2.1),(7,J (bT co.a a.name).2.2.1),(8,J (bT co.a a.name).2.2.2)]) w9
 refine W<|W<|Zr<|G (Yi Z) ?_
 refine rg (i7 Z Z) Z Z Z (fun h24=> ?_) (fun h24=> ?_)
 refine U<|ZT Z<|W<|Zr<|G (Yi Z)<|bW bP (dS (bT co.a a.name).2.2.2 _) Z Z ?_
 rintro _ w10 ⟨rfl,hb⟩;replace H:=H.later hb;clear hb
 refine bk H 1 (#[J ((bT co.a a.name).2.2.2),J (0),.slice none 0 0]) aQ Z Z Z Z Z N N fun w11 H=>U<|Zt ?_
 exact eO (cs0:= #[J ((bT co.a a.name).2.2.2),J (0),.slice none 0 0]) Z aN Z (H.ent (i:=1) Z) Z ⟨⟨ps,some ⟨gP,0,none⟩,pC,co,clo,chi,gr,glo,ghi,sns,snA,snC⟩,by rw[uK h24];exact oT.plain _ _ _,by rw[uK h24];rfl,Bw.shut (X:=[(b5,_),(b4,_),(b3,_)]) row hsn hown (ak _ hco) (ak _ hgr) (fun q hq=>ak _ (hps q hq)) (fun f hf=>ak _ hf) H Z⟩
 refine U<|ZF Z<|Zk<|W ?_
 have hok3:(bT co.a a.name).2.2.2=0:=by simpa using h24
 refine Zr<|G (Yp Z)<|G (Zw ax H 0 Z Z Z)<|G (aK Z)<|G (Zf aW Z)<|G (Zf eB Z)<|bk H 3 (#[.slice (Qd gP) ps.length pC,J (c3.clock),J (c3.next),J (c3.wait),.slice c3.A c3.txs.length c3.cap,J (gr.clock),J (gr.wait),J (gr.gen),.slice gr.mA gr.ms.length gr.mC,.slice gr.oA gr.os.length gr.oC,.slice snA sns.length snC]) aH Z Z Z Z Z N N fun w12 H=>U<|W<|Zr<|G (Yp Z)<|G (Zf fb Z)<|G (Zd bc H 2 Z Z Z)<|bW dE (jw bb ⟨ps,some ⟨gP,0,none⟩,pC,c3,lo,hi,gr,glo,ghi,sns,snA,snC⟩ a.name Ls _ (H.ent (i:=3) Z) hsn (fun q hq=>(H.ents q (by simp only[List.set_cons_succ,By,av,ar];grind)).1) hsl) Z Z ?_
 rintro _ w13 ⟨rfl,hb⟩;replace H:=H.later hb;clear hb
 rw[hix]
 refine G (Wp Z)<|U<|W<|W<|Zr<|G (Yp Z)<|G (xK iO Z)<|U<|ZT Z<|W<|Zr<|G (Yp Z)<|G (Yp Z)<|G (aK Z)<|G (Zf aW Z)<|G (Zf km Z)<|G (Zd kb H 3 Z Z Z)<|G (bi (cs:= #[.string (⟨#[]⟩),J (0),J (0),.bool (false),.slice none 0 0,.slice none 0 0]) xJ wy N)<|tf (vs:=[.agg #[.string (⟨#[]⟩),J (0),J (0),.bool (false),.slice none 0 0,.slice none 0 0]]) H sy wy Z Z Z Z Z Z fun w14 b45 H=>vf (Y:=zK) HG (K:=[(b45,_),(b5,_),(b4,_),(b3,_),(bb,_),(gP,_)]) (L:=Ls) (M:=Lo++K) H hsn (es:=sns) (news:=[Pz]) Z Z Z (wr.row (m:=1) (sz:=zK.sz) (H.ent (i:=0) Z) Z) (by simp only[bQ];omega) Z ?_
 intro A46 c46 w15 L46 h46 _ ho46 H
 obtain⟨sn2,hsn2⟩: ∃ l,sns++[Pz]=l:=⟨_,rfl⟩
 rw[hsn2]at ho46 h46⊢
 have hl2:sn2.length=sns.length+1:=by rw[<-hsn2];simp
 have hx2:sn2[sns.length]? =some Pz:=by rw[<-hsn2];simp
 have hlen2:((sn2.length:Nat):Int)-1=((sns.length:Nat):Int):=by omega
 obtain⟨gS,uS,rfl,rfl,rowS⟩:=ho46.row I
 replace H:Hp w0 w15 ((b45,.cells #[.string (⟨#[]⟩),J (0),J (0),.bool (false),.slice none 0 0,.slice none 0 0] fy (0,0))::(b5,.cells #[J (c3.clock),J (c3.next),J (c3.wait),.slice c3.A c3.txs.length c3.cap] bf (0,0))::(b4,.cells #[J (0),J (0),.slice none 0 0] ee (0,0))::(b3,.cells #[J (a.kind),.string (a.name),J (a.part),J (a.n),J (a.m),.string (a.text),J (a.lost)] fS (0,0))::(bb,.cells #[.slice (Qd gP) ps.length pC,J (c3.clock),J (c3.next),J (c3.wait),.slice c3.A c3.txs.length c3.cap,J (gr.clock),J (gr.wait),J (gr.gen),.slice gr.mA gr.ms.length gr.mC,.slice gr.oA gr.os.length gr.oC,.slice snA sns.length snC] bM (0,0))::(gP,.cells uP bC (0,0))::(gS,.cells uS fy (0,0))::(Lo++K)) (xz w0 lo hi c3::F):=H
 refine G (aK Z)<|G (Zf aW Z)<|G (Zf km Z)<|bk H 4 (#[.slice (Qd gP) ps.length pC,J (c3.clock),J (c3.next),J (c3.wait),.slice c3.A c3.txs.length c3.cap,J (gr.clock),J (gr.wait),J (gr.gen),.slice gr.mA gr.ms.length gr.mC,.slice gr.oA gr.os.length gr.oC,.slice (Qd gS) sn2.length c46]) EU Z Z Z Z Z N N fun w16 H=>U ?_
 refine bB bY [0,1,2,3,4,5,6,7,8,9,10,11,12,13] [] [] [0,1,2,3,5,6,7,8,10,11,12,13] (sp []) N N N N Nq (cH _) ?_
 refine aw Z Z Z Z Z (fun w' hw'=>Yp Z)<|aw Z Z Z Z Z (fun w' hw'=>aK Z)<|aw Z Z Z Z Z (fun w' hw'=>Zf aW Z)<|aw Z Z Z Z Z (fun w' hw'=>Zf km Z)<|aw Z Z Z Z Z (fun w' hw'=>aV kb Z (aC ((H.later hw').ent (i:=4) Z) Z))<|aw Z Z Z Z Z (fun w' hw'=>Yp Z)<|aw Z Z Z Z Z (fun w' hw'=>aK Z)<|aw Z Z Z Z Z (fun w' hw'=>Zf aW Z)<|aw Z Z Z Z Z (fun w' hw'=>Zf km Z)<|aw Z Z Z Z Z (fun w' hw'=>aV kb Z (aC ((H.later hw').ent (i:=4) Z) Z))<|aw Z Z Z Z Z (fun w' hw'=>bn tR Z)<|aw Z Z Z Z Z (fun w' hw'=>m8 Z Z I I)<|aw Z Z Z Z Z (fun w' hw'=>cD (k:=sns.length) sy Z (congrArg (Value.int .i64) hlen2) (by first|omega|(simp only[ab];omega)))<|aw Z Z Z Z Z (fun w' hw'=>Wp Z)<|aT ?_
 intro w17 hw' hF
 replace H:=H.later hw';clear hw' hF
 refine U<|W ?_
 refine bB bY [0,1,2,3,4,5,6,7,8,9,10,12,13,14,15,16,17,11,18,19,20] [21] [11,18] [0,1,3,4,5,6,7,8,10,12,13,14,15,17,19,20] (sp [(11,Sp.orow w17.heap.size bS cY (au ps.length (0:Int))),(18,Sp.orow w17.heap.size gk cZ (au ps.length m1))]) N N N N Nq (cH _) ?_
 refine aw Z Z Z Z Z (fun w' hw'=>Yp Z)<|aw Z Z Z Z Z (fun w' hw'=>Zf fb Z)<|aw Z Z Z Z Z (fun w' hw'=>aV bc Z (aC ((H.later hw').ent (i:=3) Z) Z))<|aw Z Z Z Z Z (fun w' hw'=>Yi Z)<|aw Z Z Z Z Z (fun w' hw'=>Yi Z)<|aw Z Z Z Z Z (fun w' hw'=>Yp Z)<|aw Z Z Z Z Z (fun w' hw'=>aK Z)<|aw Z Z Z Z Z (fun w' hw'=>Zf aW Z)<|aw Z Z Z Z Z (fun w' hw'=>Zf dz Z)<|aw Z Z Z Z Z (fun w' hw'=>aV dX Z (aC ((H.later hw').ent (i:=4) Z) Z))<|aw Z Z Z Z Z (fun w' hw'=>bn kM Z)<|aw Z Z Z Z Z (fun w' hw'=>Yp Z)<|aw Z Z Z Z Z (fun w' hw'=>aK Z)<|aw Z Z Z Z Z (fun w' hw'=>Zf aW Z)<|aw Z Z Z Z Z (fun w' hw'=>Zf dz Z)<|aw Z Z Z Z Z (fun w' hw'=>aV dX Z (aC ((H.later hw').ent (i:=4) Z) Z))<|aw Z Z Z Z Z (fun w' hw'=>bn kM Z)<|Is (Y:=bS) ((0:Int)) ps.length ba Ie Z Z Z Z Z Z (fun w' hw'=>hw'.size) Z Z I I fun A74 c74 hc74=>Is (Y:=gk) (m1) ps.length dg CK Z Z Z Z Z Z (fun w' hw'=>hw'.size) Z Z I I fun A81 c81 hc81=>aw Z Z Z Z Z (fun w' hw'=>bi (cs:= #[.string (a.name),J ((bT co.a a.name).2.1),J ((bT co.a a.name).2.2.1),.bool (false),.slice A74 (((au ps.length (0:Int))).length) c74,.slice A81 ((au ps.length m1).length) c81]) xJ wy N)<|aw Z Z Z Z Z (fun w' hw'=>aK Z)<|aT ?_
 intro w18 hw' hF
 obtain⟨hF,Aq,cq,L81,eq,hcq,hm81,ho81,he81,hn81⟩:=hF;cases eq;clear hcq
 obtain⟨hF,Aq,cq,L74,eq,hcq,hm74,ho74,he74,hn74⟩:=hF;cases eq;clear hcq
 obtain⟨nq,curq,rfl,rfl,rowq9⟩:=ho74.row (by simp only[bJ];exact hnp)
 obtain⟨nl,curl,rfl,rfl,rowl9⟩:=ho81.row (by simp only[bJ];exact hnp)
 have e74:=he74 _ (dZ _)
 have e81:=he81 _ (dZ _)
 replace H:=H.adopt2 hw' e74 e81 (sa e74.1 e81.1 Z)
 clear hw' hF
 refine kX H 8 (⟨a.name,(bT co.a a.name).2.1,(bT co.a a.name).2.2.1,false,au ps.length 0,some ⟨nq,0,none⟩,c74,au ps.length m1,some ⟨nl,0,none⟩,c81⟩) zN rowS hx2 0 Z Z Z Z Z Z N fun w20 cur19 row19 H=> ?_
 have hs21:(sn2.set sns.length (⟨a.name,(bT co.a a.name).2.1,(bT co.a a.name).2.2.1,false,au ps.length 0,some ⟨nq,0,none⟩,c74,au ps.length m1,some ⟨nl,0,none⟩,c81⟩))[sns.length]? =some (⟨a.name,(bT co.a a.name).2.1,(bT co.a a.name).2.2.1,false,au ps.length 0,some ⟨nq,0,none⟩,c74,au ps.length m1,some ⟨nl,0,none⟩,c81⟩):=am (cF hx2).1
 refine U<|W<|Zr<|G (Yi Z)<|G (bi (cs:= #[J (0),J ((bT co.a a.name).2.2.1),.slice none 0 0]) iF dt N)<|bk H 4 (#[J (0),J ((bT co.a a.name).2.2.1),.slice none 0 0]) aQ Z Z Z Z Z N N fun w22 H=>U<|Zt ?_
 have hn7:=hown.snoc (s:=(⟨a.name,(bT co.a a.name).2.1,(bT co.a a.name).2.2.1,false,au ps.length 0,some ⟨nq,0,none⟩,c74,au ps.length m1,some ⟨nl,0,none⟩,c81⟩:Sn)) Z Z rowq9 rowl9
 have hs7:sn2.set sns.length (⟨a.name,(bT co.a a.name).2.1,(bT co.a a.name).2.2.1,false,au ps.length 0,some ⟨nq,0,none⟩,c74,au ps.length m1,some ⟨nl,0,none⟩,c81⟩:Sn)=sns++[⟨a.name,(bT co.a a.name).2.1,(bT co.a a.name).2.2.1,false,au ps.length 0,some ⟨nq,0,none⟩,c74,au ps.length m1,some ⟨nl,0,none⟩,c81⟩]:=by rw[<-hsn2,i9 _ _ (ao _),mp];rfl
 have row7:=row19
 rw[hs7]at row7
 refine eO (cs0:= #[J (0),J ((bT co.a a.name).2.2.1),.slice none 0 0]) Z aN Z (H.ent (i:=4) Z) Z ⟨⟨ps,some ⟨gP,0,none⟩,pC,c3,lo,hi,gr,glo,ghi,sns++[⟨a.name,(bT co.a a.name).2.1,(bT co.a a.name).2.2.1,false,au ps.length 0,some ⟨nq,0,none⟩,c74,au ps.length m1,some ⟨nl,0,none⟩,c81⟩],some ⟨gS,0,none⟩,c46⟩,by rw[CQ hix hok3];exact oT.plain _ _ _,by rw[CQ hix hok3,<-hac3];unfold Bk.a;rw[bj];rfl,⟨gP,uP,_,_,_,⟨rfl,row,dW.own row7,hn7,(aB ..),(ak _ hgr),(fun q hq=>ak _ (hps q hq)),?_⟩,(fun f hf=>ak _ hf)⟩⟩
 have H7:=H.forget (L':=(nq,_)::(nl,_)::(bb,_)::(gP,_)::(gS,_)::(Lo++K)) (.cons_cons _ (.cons_cons _ (ci [(b45,_),(b5,_),(b4,_),(b3,_)] _))) (fun _ h=>h)
 have hl7:sn2.length=(sns++[(⟨a.name,(bT co.a a.name).2.1,(bT co.a a.name).2.2.1,false,au ps.length 0,some ⟨nq,0,none⟩,c74,au ps.length m1,some ⟨nl,0,none⟩,c81⟩:Sn)]).length:=by rw[hl2,ay];rfl
 rw[hl7]at H7
 exact H7.perm (No [(bb,_),(gP,_),(gS,_)] [(nq,_),(nl,_)] Lo K)
theorem Jn {w0 w:World} {bb:Nat} {b:Bk} {gP:Nat} {uP:Array Value} {Ls Lo K:List (Nat×Obj)} {F:List cr} (a:Act) (B:Bw w0 w bb b gP uP Ls Lo K F) (hsl:b.sns.length<=1000000) {k:Nat} (hnm:bO a.name=true) (hcb:oS k b.co) (hk:k<=1000) (hnp:0<b.ps.length) (hp4:b.ps.length<=4) {i:Nat} {x:Sn} (hix:fh b.sns a.name=some i) (hx:b.sns[i]? =some x):dd aa kf [.pointer (Qd bb),a.v] w fun v w2=> ∃ b':Bk,oT (pi b.a a).2 v w2/\b'.a=(pi b.a a).1/\xA w0 w2 bb b' K F:=by
 refine aF nc Z Z ?_
 obtain⟨ps,pA,pC,co,clo,chi,gr,glo,ghi,sns,snA,snC⟩:=b
 obtain⟨hpA,row,hsn,hown,hco,hgr,hps,H⟩:=B
 dsimp only at hpA row hsn hown hco hgr hps
 subst hpA
 dsimp only at hix hx
 obtain⟨gS,uS,hgS,hLs,rowS⟩:=hsn.row (by have:=(cF hx).1;omega)
 subst hgS;subst hLs
 obtain⟨gq,uq,gl,ul,La,Lb,hsA,hlA,rowq,rowl,hLo,hset⟩:=hown.at_ hx
 subst hLo
 replace H:Hp w0 w ((bb,.cells #[.slice (Qd gP) ps.length pC,J (co.clock),J (co.next),J (co.wait),.slice co.A co.txs.length co.cap,J (gr.clock),J (gr.wait),J (gr.gen),.slice gr.mA gr.ms.length gr.mC,.slice gr.oA gr.os.length gr.oC,.slice (Qd gS) sns.length snC] bM (0,0))::(gP,.cells uP bC (0,0))::(gS,.cells uS fy (0,0))::(gq,.cells uq cY (0,0))::(gl,.cells ul cZ (0,0))::(La++(Lb++K))) F:=H.perm (CS [(bb,_),(gP,_),(gS,_)] _ _ La Lb K)
 dsimp only at hsl hcb hnp hp4
 show CW _ _ _ _ (args [.pointer (Qd bb),.agg #[J (a.kind),.string (a.name),J (a.part),J (a.n),J (a.m),.string (a.text),J (a.lost)]]) w
 refine W<|Zr<|fX H Z Z fun w1 b3 H=>ey H dt Z fun w2 b4 H=>U<|W ?_
 refine eD (τ:=Co×Nat×Nat×Nat) [5,6,7,8,10,11,12,13,14,15,16,17,18,19,20,21,22] (fun(_,b5,_,_)=>[(5,.pointer (Qd b5)),(6,J (bT co.a a.name).2.1),(7,J (bT co.a a.name).2.2.1),(8,J (bT co.a a.name).2.2.2)]) (fun(c3,b5,lo,hi) w'=>c3.a=(bT co.a a.name).1/\Hp w0 w' ((b5,.cells #[J (c3.clock),J (c3.next),J (c3.wait),.slice c3.A c3.txs.length c3.cap] bf (0,0))::(b4,.cells #[J (0),J (0),.slice none 0 0] ee (0,0))::(b3,.cells #[J (a.kind),.string (a.name),J (a.part),J (a.n),J (a.m),.string (a.text),J (a.lost)] fS (0,0))::(bb,.cells #[.slice (Qd gP) ps.length pC,J (co.clock),J (co.next),J (co.wait),.slice co.A co.txs.length co.cap,J (gr.clock),J (gr.wait),J (gr.gen),.slice gr.mA gr.ms.length gr.mC,.slice gr.oA gr.os.length gr.oC,.slice (Qd gS) sns.length snC] bM (0,0))::(gP,.cells uP bC (0,0))::(gS,.cells uS fy (0,0))::(gq,.cells uq cY (0,0))::(gl,.cells ul cZ (0,0))::La++(Lb++K)) (xz w0 lo hi c3::F)) ?_ ?_
 refine oH bY 13 7 [7,8,9,10,11,12,14,15,16,17] [13] [0,1,2,3,5] [13,14,15,16,17] [7] [0,1,2,3,5,8,9,10,11,12] (sp [(13,Sp.blk w2.heap.size (.agg #[J 0,J 0,J 0,.slice none 0 0]) bf)]) (sp [(7,Sp.deep w2.heap.size Mu (fun c:Co=>c.c.toArray) (fun cs=> .tuple #[.agg cs,J (bT co.a a.name).2.1,J (bT co.a a.name).2.2.1,J (bT co.a a.name).2.2.2]) (fun cq:Co=>cq.a=(bT co.a a.name).1))]) N N N N (cH _) (cH _) ?_ ?_
 refine jD [0,1,2,3,4,5,6,13] [7,8,9,10,11,12,14,15,16,17] [13] [0,1,2,3,5] 9 (sp [(13,Sp.blk w2.heap.size (.agg #[J 0,J 0,J 0,.slice none 0 0]) bf)]) N N N Nq<|aw Z Z Z Z Z (fun w' hw'=>Yp Z)<|aw Z Z Z Z Z (fun w' hw'=>aK Z)<|aw Z Z Z Z Z (fun w' hw'=>Zf aW Z)<|aw Z Z Z Z Z (fun w' hw'=>Zf eB Z)<|aw Z Z Z Z Z (fun w' hw'=>jJ 1 [J (co.clock),J (co.next),J (co.wait),.slice co.A co.txs.length co.cap] ax Z Z ((H.later hw').ent (i:=2) Z) Z)<|aw Z Z Z Z Z (fun w' hw'=>Zf fb Z)<|aw Z Z Z Z Z (fun w' hw'=>aV bc Z (aC ((H.later hw').ent (i:=1) Z) Z))<|xu cK Z Z Z Z Z (fun w' hw'=>hw'.size) fun b5=>aT ?_
 intro w3 hw' hF
 obtain⟨hF,bq,eq,hge5,hbl5⟩:=hF;cases eq
 replace H:=H.adoptNew hw' hbl5 hge5
 clear hw' hF
 refine de 7 N Z<|bW n8 (wP co a.name k _ (Hp.coM H hco) hcb hk hnm) Z Z ?_
 rintro _ w4 ⟨c3,rfl,hac3,hnc3⟩;replace H:=H.learn hnc3.2 (xz w0 w3.heap.size w4.heap.size c3) ⟨H.size,hnc3.1⟩ (ao _) (ao _);clear hnc3
 refine U<|bA 8 N N N Z Z Z Z Nq (fun _=>Yu Z)<|bA 9 N N N Z Z Z Z Nq (fun _=>Xa Z Z)<|bA 10 N N N Z Z Z Z Nq (fun _=>Xi Z Z)<|bA 11 N N N Z Z Z Z Nq (fun _=>Xi Z Z)<|bA 12 N N N Z Z Z Z Nq (fun _=>Xi Z Z)<|de 14 N Z<|bk H 0 (#[J (c3.clock),J (c3.next),J (c3.wait),.slice c3.A c3.txs.length c3.cap]) aH Z Z Z Z Z N N fun w5 H=>U<|bA 15 N N N Z Z Z Z Nq (fun _=>Wi Z)<|bA 16 N N N Z Z Z Z Nq (fun _=>Wi Z)<|bA 17 N N N Z Z Z Z Nq (fun _=>Wi Z)<|cB N ?_
 exact⟨(c3,b5,_,_),⟨hac3,H⟩,Pu Z Z Z Z,Qg⟩
 refine jD [0,1,2,3,4,5,6,7,8,9,10,11,12] [13,14,15,16,17] [7] [0,1,2,3,5,8,9,10,11,12] 4 (sp [(7,Sp.deep w2.heap.size Mu (fun c:Co=>c.c.toArray) (fun cs=> .tuple #[.agg cs,J (bT co.a a.name).2.1,J (bT co.a a.name).2.2.1,J (bT co.a a.name).2.2.2]) (fun cq:Co=>cq.a=(bT co.a a.name).1))]) N N N Nq<|aw Z Z Z Z Z (fun w' hw'=>Yp Z)<|aw Z Z Z Z Z (fun w' hw'=>aK Z)<|aw Z Z Z Z Z (fun w' hw'=>Zf aW Z)<|aw Z Z Z Z Z (fun w' hw'=>Zf eB Z)<|aw Z Z Z Z Z (fun w' hw'=>jJ 1 [J (co.clock),J (co.next),J (co.wait),.slice co.A co.txs.length co.cap] ax Z Z ((H.later hw').ent (i:=2) Z) Z)<|aw Z Z Z Z Z (fun w' hw'=>Zf fb Z)<|aw Z Z Z Z Z (fun w' hw'=>aV bc Z (aC ((H.later hw').ent (i:=1) Z) Z))<|s5 (gv:=(fun cs=> .tuple #[.agg cs,J (bT co.a a.name).2.1,J (bT co.a a.name).2.2.1,J (bT co.a a.name).2.2.2])) n8 Z Z Z Z Z (fun w' hw'=>hw'.size) (fun w' hw'=>wP co a.name k w' (Hp.coM (H.later hw') hco) hcb hk hnm) Z fun cs18=>aw Z Z Z Z Z (fun w' hw'=>Yu Z)<|aw Z Z Z Z Z (fun w' hw'=>Xa Z Z)<|aw Z Z Z Z Z (fun w' hw'=>Xi Z Z)<|aw Z Z Z Z Z (fun w' hw'=>Xi Z Z)<|aw Z Z Z Z Z (fun w' hw'=>Xi Z Z)<|aT ?_
 intro w6 hw' hF
 obtain⟨hF,c3,eq,hac3,hrd18⟩:=hF;cases eq
 replace H:=H.learn hw' (xz w0 w2.heap.size w6.heap.size c3) ⟨H.size,hrd18⟩ (ao _) (ao _)
 clear hw' hF
 refine de 13 N Z<|ey H cK Z fun w7 b5 H=>U<|de 14 N Z<|bk H 0 (#[J (c3.clock),J (c3.next),J (c3.wait),.slice c3.A c3.txs.length c3.cap]) aH Z Z Z Z Z N N fun w8 H=>U<|bA 15 N N N Z Z Z Z Nq (fun _=>Wi Z)<|bA 16 N N N Z Z Z Z Nq (fun _=>Wi Z)<|bA 17 N N N Z Z Z Z Nq (fun _=>Wi Z)<|cB N ?_
 exact⟨(c3,b5,_,_),⟨hac3,H⟩,Pu Z Z Z Z,Qg⟩
 rintro⟨c3,b5,lo,hi⟩ ρ1 w9 ⟨hac3,H⟩
 show CW _ _ _ _ (dB (gJ _ _ ρ1) [(5,.pointer (Qd b5)),(6,J (bT co.a a.name).2.1),(7,J (bT co.a a.name).2.2.1),(8,J (bT co.a a.name).2.2.2)]) w9
 refine W<|W<|Zr<|G (Yi Z) ?_
 refine rg (i7 Z Z) Z Z Z (fun h24=> ?_) (fun h24=> ?_)
 refine U<|ZT Z<|W<|Zr<|G (Yi Z)<|bW bP (dS (bT co.a a.name).2.2.2 _) Z Z ?_
 rintro _ w10 ⟨rfl,hb⟩;replace H:=H.later hb;clear hb
 refine bk H 1 (#[J ((bT co.a a.name).2.2.2),J (0),.slice none 0 0]) aQ Z Z Z Z Z N N fun w11 H=>U<|Zt ?_
 exact eO (cs0:= #[J ((bT co.a a.name).2.2.2),J (0),.slice none 0 0]) Z aN Z (H.ent (i:=1) Z) Z ⟨⟨ps,some ⟨gP,0,none⟩,pC,co,clo,chi,gr,glo,ghi,sns.set i x,some ⟨gS,0,none⟩,snC⟩,by rw[uK h24];exact oT.plain _ _ _,by rw[uK h24,eY hx];rfl,Bw.close (X:=[(b5,_),(b4,_),(b3,_)]) row (by rw[eY hx];exact rowS) hset hsA hlA rowq rowl (ak _ hco) (ak _ hgr) (fun q hq=>ak _ (hps q hq)) (fun f hf=>ak _ hf) H (by rw[eY hx];rfl)⟩
 refine U<|ZF Z<|Zk<|W ?_
 have hok3:(bT co.a a.name).2.2.2=0:=by simpa using h24
 refine Zr<|G (Yp Z)<|G (Zw ax H 0 Z Z Z)<|G (aK Z)<|G (Zf aW Z)<|G (Zf eB Z)<|bk H 3 (#[.slice (Qd gP) ps.length pC,J (c3.clock),J (c3.next),J (c3.wait),.slice c3.A c3.txs.length c3.cap,J (gr.clock),J (gr.wait),J (gr.gen),.slice gr.mA gr.ms.length gr.mC,.slice gr.oA gr.os.length gr.oC,.slice (Qd gS) sns.length snC]) aH Z Z Z Z Z N N fun w12 H=>U<|W<|Zr<|G (Yp Z)<|G (Zf fb Z)<|G (Zd bc H 2 Z Z Z)<|bW dE (jw bb ⟨ps,some ⟨gP,0,none⟩,pC,c3,lo,hi,gr,glo,ghi,sns,some ⟨gS,0,none⟩,snC⟩ a.name _ _ (H.ent (i:=3) Z) (dW.own rowS) (fun q hq=>by rw[aq.1 hq];exact(H.ent (i:=5) Z)) hsl) Z Z ?_
 rintro _ w13 ⟨rfl,hb⟩;replace H:=H.later hb;clear hb
 rw[hix]
 refine G (Wp Z)<|U<|W<|W<|Zr<|G (Yp Z)<|G (vT iO Z)<|U<|ZF Z<|Zk<|W ?_
 refine bB bY [0,1,2,3,4,5,6,7,8,9,10,12,13,14,15,16,17,11,18,19,20] [21] [11,18] [0,1,3,4,5,6,7,8,10,12,13,14,15,17,19,20] (sp [(11,Sp.orow w13.heap.size bS cY (au ps.length (0:Int))),(18,Sp.orow w13.heap.size gk cZ (au ps.length m1))]) N N N N Nq (cH _) ?_
 refine aw Z Z Z Z Z (fun w' hw'=>Yp Z)<|aw Z Z Z Z Z (fun w' hw'=>Zf fb Z)<|aw Z Z Z Z Z (fun w' hw'=>aV bc Z (aC ((H.later hw').ent (i:=2) Z) Z))<|aw Z Z Z Z Z (fun w' hw'=>Yi Z)<|aw Z Z Z Z Z (fun w' hw'=>Yi Z)<|aw Z Z Z Z Z (fun w' hw'=>Yp Z)<|aw Z Z Z Z Z (fun w' hw'=>aK Z)<|aw Z Z Z Z Z (fun w' hw'=>Zf aW Z)<|aw Z Z Z Z Z (fun w' hw'=>Zf dz Z)<|aw Z Z Z Z Z (fun w' hw'=>aV dX Z (aC ((H.later hw').ent (i:=3) Z) Z))<|aw Z Z Z Z Z (fun w' hw'=>bn kM Z)<|aw Z Z Z Z Z (fun w' hw'=>Yp Z)<|aw Z Z Z Z Z (fun w' hw'=>aK Z)<|aw Z Z Z Z Z (fun w' hw'=>Zf aW Z)<|aw Z Z Z Z Z (fun w' hw'=>Zf dz Z)<|aw Z Z Z Z Z (fun w' hw'=>aV dX Z (aC ((H.later hw').ent (i:=3) Z) Z))<|aw Z Z Z Z Z (fun w' hw'=>bn kM Z)<|Is (Y:=bS) ((0:Int)) ps.length ba Ie Z Z Z Z Z Z (fun w' hw'=>hw'.size) Z Z I I fun A74 c74 hc74=>Is (Y:=gk) (m1) ps.length dg CK Z Z Z Z Z Z (fun w' hw'=>hw'.size) Z Z I I fun A81 c81 hc81=>aw Z Z Z Z Z (fun w' hw'=>bi (cs:= #[.string (a.name),J ((bT co.a a.name).2.1),J ((bT co.a a.name).2.2.1),.bool (false),.slice A74 (((au ps.length (0:Int))).length) c74,.slice A81 ((au ps.length m1).length) c81]) xJ wy N)<|aw Z Z Z Z Z (fun w' hw'=>aK Z)<|aT ?_
 intro w14 hw' hF
 obtain⟨hF,Aq,cq,L81,eq,hcq,hm81,ho81,he81,hn81⟩:=hF;cases eq;clear hcq
 obtain⟨hF,Aq,cq,L74,eq,hcq,hm74,ho74,he74,hn74⟩:=hF;cases eq;clear hcq
 obtain⟨nq,curq,rfl,rfl,rowq9⟩:=ho74.row (by simp only[bJ];exact hnp)
 obtain⟨nl,curl,rfl,rfl,rowl9⟩:=ho81.row (by simp only[bJ];exact hnp)
 have e74:=he74 _ (dZ _)
 have e81:=he81 _ (dZ _)
 replace H:=H.adopt2 hw' e74 e81 (sa e74.1 e81.1 Z)
 clear hw' hF
 refine kX H 7 (⟨a.name,(bT co.a a.name).2.1,(bT co.a a.name).2.2.1,false,au ps.length 0,some ⟨nq,0,none⟩,c74,au ps.length m1,some ⟨nl,0,none⟩,c81⟩) zN rowS hx 0 Z Z Z Z Z Z N fun w16 cur15 row15 H=> ?_
 have hs17:(sns.set i (⟨a.name,(bT co.a a.name).2.1,(bT co.a a.name).2.2.1,false,au ps.length 0,some ⟨nq,0,none⟩,c74,au ps.length m1,some ⟨nl,0,none⟩,c81⟩))[i]? =some (⟨a.name,(bT co.a a.name).2.1,(bT co.a a.name).2.2.1,false,au ps.length 0,some ⟨nq,0,none⟩,c74,au ps.length m1,some ⟨nl,0,none⟩,c81⟩):=am (cF hx).1
 refine U<|W<|Zr<|G (Yi Z)<|G (bi (cs:= #[J (0),J ((bT co.a a.name).2.2.1),.slice none 0 0]) iF dt N)<|bk H 3 (#[J (0),J ((bT co.a a.name).2.2.1),.slice none 0 0]) aQ Z Z Z Z Z N N fun w18 H=>U<|Zt ?_
 have H7:=H.forget (L':=(nq,_)::(nl,_)::(bb,_)::(gP,_)::(gS,_)::(La++(Lb++K))) (.cons_cons _ (.cons_cons _ ((ap _).trans (.trans (.cons_cons _ (.cons_cons _ (.cons_cons _ (.cons _ (.cons _ (ap _)))))) (ci [(b5,_),(b4,_),(b3,_)] _))))) (fun _ h=>h)
 have hm7:(sns.set i (⟨a.name,(bT co.a a.name).2.1,(bT co.a a.name).2.2.1,false,au ps.length 0,some ⟨nq,0,none⟩,c74,au ps.length m1,some ⟨nl,0,none⟩,c81⟩:Sn)).map Sn.a=(sns.map Sn.a).set i (vp a.name (bT co.a a.name).2.1 (bT co.a a.name).2.2.1 ps.length):=by rw[cz];rfl
 replace H7:=H7.perm (fY [(bb,_),(gP,_),(gS,_)] [(nq,_),(nl,_)] _)
 exact eO (cs0:= #[J (0),J ((bT co.a a.name).2.2.1),.slice none 0 0]) Z aN Z (H.ent (i:=3) Z) Z ⟨⟨ps,some ⟨gP,0,none⟩,pC,c3,lo,hi,gr,glo,ghi,sns.set i ⟨a.name,(bT co.a a.name).2.1,(bT co.a a.name).2.2.1,false,au ps.length 0,some ⟨nq,0,none⟩,c74,au ps.length m1,some ⟨nl,0,none⟩,c81⟩,some ⟨gS,0,none⟩,snC⟩,by rw[CP hix hok3];exact oT.plain _ _ _,by rw[CP hix hok3,<-hac3];show Wa.mk _ _ _ ((sns.set i ⟨a.name,(bT co.a a.name).2.1,(bT co.a a.name).2.2.1,false,au ps.length 0,some ⟨nq,0,none⟩,c74,au ps.length m1,some ⟨nl,0,none⟩,c81⟩).map Sn.a)=Wa.mk _ _ _ _;rw[hm7];rfl,Bw.close (X:=[]) row row15 hset Z Z rowq9 rowl9 (aB ..) (ak _ hgr) (fun q hq=>ak _ (hps q hq)) (fun f hf=>ak _ hf) H7 (by simp only[Bk.c,ab])⟩
theorem LD {c:Co} (h:gG c=true) {t:Tx} (ht:t∈c.txs): ∃ i,f6 c t.name=some (i,t):=by
 obtain⟨-,-,h3⟩:=gN.1 h
 obtain⟨i,hi⟩:=aU.1 ht
 obtain⟨hl,he⟩:=cF hi
 have:(c.txs.findIdx? fun p=>decide (p.name=t.name))=some i:=by
  rw[bh]
  refine⟨hl,by rw[he];simp,fun j hj=> ?_⟩
  unfold vM at h3
  rw[jt,mX]at h3
  have:=(h3 j i I hl hj).1
  rw[he]at this
  simpa using this
 exact⟨i,by unfold f6;rw[this];simp[hi]⟩
theorem CJ {c:Co} (h:gG c=true) {n:Nat} {t:Tx} (ht:g9 c.txs n=some t):(∃ i,f6 c t.name=some (i,t))/\(t.state=3∨t.state=4)/\t.parts.headD 0∈t.parts/\0<=t.parts.headD 0/\t.parts.headD 0<4:=by
 unfold g9 at ht
 obtain⟨hm,he⟩:=kW.1 (ae ht)
 have hs:t.state=3∨t.state=4:=by unfold gV at he;simpa using he
 have hx:=cC.1 ((gN.1 h).2.1 t hm)
 have hp:t.parts.headD 0∈t.parts:=by
  cases hp:t.parts with
  |nil=>have:=hx.2.2.2.2.2.2.2.2.2.2.2 (by rw[hp];rfl);omega
  |cons a l=>simp
 exact⟨LD h hm,hs,hp,by have:=(fL hx.2.2.2.2.2.2.2.2.2.1).2 _ hp;omega⟩
theorem Hu {c:Co} {s:ByteArray} {p:Int} {i:Nat} {t:Tx} (hf:f6 c s=some (i,t)) (h34:t.state=3∨t.state=4) (hp:p∈t.parts):(qR c s p).2=0:=by
 unfold qR
 rw[hf]
 dsimp only
 rw[if_pos h34,if_pos hp]
theorem G3 {w:Wa} {a:Act} (h:g9 w.co.txs a.n.toNat=none):om w a=me w 15:=by
 unfold om
 rw[h]
theorem K7 {w:Wa} {a:Act} {t:Tx} {n:Nat} {p:gu} (h:g9 w.co.txs a.n.toNat=some t) (hn:t.parts.headD 0=(n:Nat)) (hp:w.ps[n]? =some p):om w a=if(eF p (db t)).2.2=0 then({w with ps:=w.ps.set n (eF p (db t)).1,co:=(qR w.co t.name (t.parts.headD 0)).1},⟨0,(eF p (db t)).2.1,[]⟩)else me w (eF p (db t)).2.2:=by
 unfold om
 rw[h]
 dsimp only
 rw[show(t.parts.headD 0).toNat=n by omega,HX hp]
 split
 rename_i h0
 rw[if_pos (by rfl)]
 rename_i h0
 rw[if_neg (show¬ (me w (eF p (db t)).2.2).2.code=0 from h0)]
theorem Jg {w:Wa} {a:Act} {t:Tx} {n:Nat} (h:g9 w.co.txs a.n.toNat=some t) (hn:t.parts.headD 0=(n:Nat)) (hp:w.ps[n]? =none):om w a=me w 5:=by
 unfold om uW
 rw[h]
 dsimp only
 rw[show(t.parts.headD 0).toNat=n by omega,hp]
 dsimp only
 rw[if_neg (by show¬ (5:Int)=0;decide)]
theorem Jf {w0 w:World} {bb:Nat} {b:Bk} {gP:Nat} {uP:Array Value} {Ls Lo K:List (Nat×Obj)} {F:List cr} (a:Act) (B:Bw w0 w bb b gP uP Ls Lo K F) {k:Nat} (hcb:oS k b.co) (hn:0<=a.n/\a.n<=1000) (hne:g9 b.co.a.txs a.n.toNat=none):dd aa ke [.pointer (Qd bb),a.v] w fun v w2=> ∃ b':Bk,oT (om b.a a).2 v w2/\b'.a=(om b.a a).1/\xA w0 w2 bb b' K F:=by
 refine aF nb Z Z ?_
 have hsp:=G3 (w:=b.a) hne
 obtain⟨ps,pA,pC,co,clo,chi,gr,glo,ghi,sns,snA,snC⟩:=b
 obtain⟨hpA,row,hsn,hown,hco,hgr,hps,H⟩:=B
 dsimp only at hpA row hsn hown hco hgr hps
 subst hpA
 replace H:Hp w0 w ((bb,.cells #[.slice (Qd gP) ps.length pC,J (co.clock),J (co.next),J (co.wait),.slice co.A co.txs.length co.cap,J (gr.clock),J (gr.wait),J (gr.gen),.slice gr.mA gr.ms.length gr.mC,.slice gr.oA gr.os.length gr.oC,.slice snA sns.length snC] bM (0,0))::(gP,.cells uP bC (0,0))::(Ls++(Lo++K))) F:=H
 dsimp only at hcb hne
 obtain⟨m,hnm⟩: ∃ m:Nat,a.n=(m:Int):=⟨a.n.toNat,by omega⟩
 have htm:a.n.toNat=m:=by omega
 rw[htm]at hne
 show CW _ _ _ _ (args [.pointer (Qd bb),.agg #[J (a.kind),.string (a.name),J (a.part),J (a.n),J (a.m),.string (a.text),J (a.lost)]]) w
 refine W<|Zr<|fX H Z Z fun w1 b3 H=>ey H dt Z fun w2 b4 H=>U<|W ?_
 refine bB bY [0,1,2,3,4,5,6,7,8,9,10,11,12,13,14,15] [16,17] [7,13] [0,1,2,3,5,8,9,10,11,12,14,15] (sp [(7,Sp.one (yC none)),(13,Sp.blk w2.heap.size (.agg #[J 0,J 0,J 0,J 0,J 0,.bool false,.string ⟨#[]⟩]) cZ)]) N N N N Nq (cH _) ?_
 refine aw Z Z Z Z Z (fun w' hw'=>Yp Z)<|aw Z Z Z Z Z (fun w' hw'=>aK Z)<|aw Z Z Z Z Z (fun w' hw'=>Zf aW Z)<|aw Z Z Z Z Z (fun w' hw'=>Zf eB Z)<|aw Z Z Z Z Z (fun w' hw'=>jJ 1 [J (co.clock),J (co.next),J (co.wait),.slice co.A co.txs.length co.cap] ax Z Z ((H.later hw').ent (i:=2) Z) Z)<|aw Z Z Z Z Z (fun w' hw'=>Zf eP Z)<|aw Z Z Z Z Z (fun w' hw'=>aV aj Z (aC ((H.later hw').ent (i:=1) Z) Z))<|hJ vF Z Z Z Z Z (fun w' hw'=>(by have hA:=Fi co m w' (Hp.coM (H.later hw') hco) hcb.ok I;rw[show g9 co.a.txs m=_ from hne,<-hnm]at hA;exact hA)) Z<|aw Z Z Z Z Z (fun w' hw'=>Yu Z)<|aw Z Z Z Z Z (fun w' hw'=>NY Z Z)<|aw Z Z Z Z Z (fun w' hw'=>Xi Z Z)<|aw Z Z Z Z Z (fun w' hw'=>Xa Z Z)<|aw Z Z Z Z Z (fun w' hw'=>Xi Z Z)<|xu gi Z Z Z Z Z (fun w' hw'=>hw'.size) fun b7=>aw Z Z Z Z Z (fun w' hw'=>Wt Z)<|aw Z Z Z Z Z (fun w' hw'=>Wi Z)<|aT ?_
 intro w3 hw' hF
 obtain⟨hF,bq,eq,hge7,hbl7⟩:=hF;cases eq
 obtain⟨hF,-⟩:=hF
 have Hb:=H
 replace H:=H.adoptNew hw' hbl7 hge7
 clear hw' hF
 refine bk H 0 (#[J (0),J (0),J (0),J (0),J (0),.bool (false),.string (⟨#[]⟩)]) eS Z Z Z Z Z N N fun w4 H=>G (Wi Z)<|U<|W<|W<|Zr<|G (Yi Z)<|G (jS Z Z (by decide))<|U<|ZT Z<|W<|Zr<|G (Yi Z)<|bW bP (dS 15 _) Z Z ?_
 rintro _ w5 ⟨rfl,hb⟩;replace H:=H.later hb;clear hb
 refine bk H 1 (#[J (15),J (0),.slice none 0 0]) aQ Z Z Z Z Z N N fun w6 H=>U<|Zt ?_
 exact eO (cs0:= #[J (15),J (0),.slice none 0 0]) Z aN Z (H.ent (i:=1) Z) Z ⟨⟨ps,some ⟨gP,0,none⟩,pC,co,clo,chi,gr,glo,ghi,sns,snA,snC⟩,by rw[hsp];exact oT.plain _ _ _,by rw[hsp];rfl,Bw.shut (X:=[(b7,_),(b4,_),(b3,_)]) row hsn hown hco hgr hps (fun _ h=>h) H Z⟩
theorem Je {w0 w:World} {bb:Nat} {b:Bk} {gP:Nat} {uP:Array Value} {Ls Lo K:List (Nat×Obj)} {F:List cr} (a:Act) (B:Bw w0 w bb b gP uP Ls Lo K F) {k:Nat} (hcb:oS k b.co) (hn:0<=a.n/\a.n<=1000) (hpk: ∀ q∈b.ps,q.p.a.ok/\ ∀ (l:Nat) (y:eR),q.p.leader=l->q.p.reps[l]? =some y->y.es.length<400) {t:Tx} (hne:g9 b.co.a.txs a.n.toNat=some t):dd aa ke [.pointer (Qd bb),a.v] w fun v w2=> ∃ b':Bk,oT (om b.a a).2 v w2/\b'.a=(om b.a a).1/\xA w0 w2 bb b' K F:=by
 refine aF nb Z Z ?_
 have hne0:g9 b.a.co.txs a.n.toNat=some t:=hne
 obtain⟨⟨ti,hf⟩,h34,hpt,hp0,hp4⟩:=CJ hcb.a.ok hne
 have hnmt:=(cC.1 (hcb.a.at_ (jj hf).2.1)).1
 obtain⟨n,hpn⟩: ∃ n:Nat,t.parts.headD 0=(n:Int):=⟨(t.parts.headD 0).toNat,by omega⟩
 have hn4:n<4:=by omega
 have hout:decide (0<=t.parts.headD 0/\t.parts.headD 0<(b.ps.length:Int))=false->om b.a a=me b.a 5:=fun h=>Jg hne0 hpn (by rw[show b.a.ps=b.ps.map fun q=>q.p.a from rfl,aJ,cJ (by have:=of_decide_eq_false h;omega)];rfl)
 obtain⟨ps,pA,pC,co,clo,chi,gr,glo,ghi,sns,snA,snC⟩:=b
 obtain⟨hpA,row,hsn,hown,hco,hgr,hps,H⟩:=B
 dsimp only at hpA row hsn hown hco hgr hps
 subst hpA
 replace H:Hp w0 w ((bb,.cells #[.slice (Qd gP) ps.length pC,J (co.clock),J (co.next),J (co.wait),.slice co.A co.txs.length co.cap,J (gr.clock),J (gr.wait),J (gr.gen),.slice gr.mA gr.ms.length gr.mC,.slice gr.oA gr.os.length gr.oC,.slice snA sns.length snC] bM (0,0))::(gP,.cells uP bC (0,0))::(Ls++(Lo++K))) F:=H
 dsimp only at hcb hne hf hpk hout
 obtain⟨m,hnm⟩: ∃ m:Nat,a.n=(m:Int):=⟨a.n.toNat,by omega⟩
 have htm:a.n.toNat=m:=by omega
 rw[htm]at hne
 show CW _ _ _ _ (args [.pointer (Qd bb),.agg #[J (a.kind),.string (a.name),J (a.part),J (a.n),J (a.m),.string (a.text),J (a.lost)]]) w
 refine W<|Zr<|fX H Z Z fun w1 b3 H=>ey H dt Z fun w2 b4 H=>U<|W ?_
 refine bB bY [0,1,2,3,4,5,6,7,8,9,10,11,12,13,14,15] [16,17] [7,13] [0,1,2,3,5,8,9,10,11,12,14,15] (sp [(7,Sp.one (yC (some t))),(13,Sp.blk w2.heap.size (.agg #[J 0,J 0,J 0,J 0,J 0,.bool false,.string ⟨#[]⟩]) cZ)]) N N N N Nq (cH _) ?_
 refine aw Z Z Z Z Z (fun w' hw'=>Yp Z)<|aw Z Z Z Z Z (fun w' hw'=>aK Z)<|aw Z Z Z Z Z (fun w' hw'=>Zf aW Z)<|aw Z Z Z Z Z (fun w' hw'=>Zf eB Z)<|aw Z Z Z Z Z (fun w' hw'=>jJ 1 [J (co.clock),J (co.next),J (co.wait),.slice co.A co.txs.length co.cap] ax Z Z ((H.later hw').ent (i:=2) Z) Z)<|aw Z Z Z Z Z (fun w' hw'=>Zf eP Z)<|aw Z Z Z Z Z (fun w' hw'=>aV aj Z (aC ((H.later hw').ent (i:=1) Z) Z))<|hJ vF Z Z Z Z Z (fun w' hw'=>(by have hA:=Fi co m w' (Hp.coM (H.later hw') hco) hcb.ok I;rw[show g9 co.a.txs m=_ from hne,<-hnm]at hA;exact hA)) Z<|aw Z Z Z Z Z (fun w' hw'=>Yu Z)<|aw Z Z Z Z Z (fun w' hw'=>NY Z Z)<|aw Z Z Z Z Z (fun w' hw'=>Xi Z Z)<|aw Z Z Z Z Z (fun w' hw'=>Xa Z Z)<|aw Z Z Z Z Z (fun w' hw'=>Xi Z Z)<|xu gi Z Z Z Z Z (fun w' hw'=>hw'.size) fun b7=>aw Z Z Z Z Z (fun w' hw'=>Wt Z)<|aw Z Z Z Z Z (fun w' hw'=>Wi Z)<|aT ?_
 intro w3 hw' hF
 obtain⟨hF,bq,eq,hge7,hbl7⟩:=hF;cases eq
 obtain⟨hF,-⟩:=hF
 have Hb:=H
 replace H:=H.adoptNew hw' hbl7 hge7
 clear hw' hF
 refine bk H 0 (#[J ((db t).epoch),J ((db t).pid),J ((db t).ver),J ((db t).seq),J ((db t).kind),.bool ((db t).txn),.string ((db t).text)]) eS Z Z Z Z Z N N fun w4 H=>G (Wi Z)<|U<|W<|W<|Zr<|G (Yi Z)<|G (bV Z Z (by decide))<|U<|ZF Z<|Zk<|W<|W<|Zr<|G (Yp Z)<|G (Yi Z)<|bW dY (oh bb ⟨ps,some ⟨gP,0,none⟩,pC,co,clo,chi,gr,glo,ghi,sns,snA,snC⟩ (t.parts.headD 0) _ (H.ent (i:=3) Z)) Z Z ?_
 rintro _ w5 ⟨rfl,hb⟩;replace H:=H.later hb;clear hb
 refine mE 30 Z (fun h30=> ?_) (fun h30=> ?_)
 have hnp:n<ps.length:=by have:=of_decide_eq_true h30;dsimp only at this;omega
 obtain⟨q,hq⟩: ∃ q,ps[n]? =some q:=⟨_,ah hnp⟩
 have hqm:=ae hq
 have hsp:=K7 hne0 hpn (p:=q.p.a) (by show(ps.map fun q=>q.p.a)[n]? =_;rw[aJ,hq];rfl)
 refine G (dI Z)<|U<|ZF Z<|Zk<|W ?_
 refine eD (τ:=Pa×Nat×Nat×Nat) [8,9,10,33,34,35,36,37,38,39,40,41,42,43,44,45,46] (fun(_,b9,_,_)=>[(9,.pointer (Qd b9)),(10,J (eF q.p.a (db t)).2.1),(8,J (eF q.p.a (db t)).2.2)]) (fun(p2,b9,lo,hi) w'=>p2.a=(eF q.p.a (db t)).1/\Hp w0 w' ((b9,.cells #[J (p2.epoch),J (p2.leader),.slice p2.iA p2.isr.length p2.iC,.slice p2.kA p2.known.length p2.kC,.slice p2.rA p2.reps.length p2.rC,J (p2.few),J (p2.base)] bC (0,0))::(b7,.cells #[J ((db t).epoch),J ((db t).pid),J ((db t).ver),J ((db t).seq),J ((db t).kind),.bool ((db t).txn),.string ((db t).text)] cZ (0,0))::(b4,.cells #[J (0),J (0),.slice none 0 0] ee (0,0))::(b3,.cells #[J (a.kind),.string (a.name),J (a.part),J (a.n),J (a.m),.string (a.text),J (a.lost)] fS (0,0))::(bb,.cells #[.slice (Qd gP) ps.length pC,J (co.clock),J (co.next),J (co.wait),.slice co.A co.txs.length co.cap,J (gr.clock),J (gr.wait),J (gr.gen),.slice gr.mA gr.ms.length gr.mC,.slice gr.oA gr.os.length gr.oC,.slice snA sns.length snC] bM (0,0))::(gP,.cells uP bC (0,0))::(Ls++(Lo++K))) (tD w0 lo hi p2::F)) ?_ ?_
 refine oH bY 14 9 [9,10,11,12,13,15,16,17] [14] [0,1,2,3,5,6] [14,15,16,17] [9] [0,1,2,3,5,6,10,11,12,13] (sp [(14,Sp.blk w5.heap.size (.agg #[J 0,J 0,.slice none 0 0,.slice none 0 0,.slice none 0 0,J 0,J 0]) bC)]) (sp [(9,Sp.deep w5.heap.size Pv (fun p:Pa=>p.c.toArray) (fun cs=> .tuple #[.agg cs,J (eF q.p.a (db t)).2.1,J (eF q.p.a (db t)).2.2]) (fun cq:Pa=>cq.a=(eF q.p.a (db t)).1))]) N N N N (cH _) (cH _) ?_ ?_
 refine jD [0,1,2,3,4,5,6,7,8,14] [9,10,11,12,13,15,16,17] [14] [0,1,2,3,5,6] 7 (sp [(14,Sp.blk w5.heap.size (.agg #[J 0,J 0,.slice none 0 0,.slice none 0 0,.slice none 0 0,J 0,J 0]) bC)]) N N N Nq<|aw Z Z Z Z Z (fun w' hw'=>Yp Z)<|aw Z Z Z Z Z (fun w' hw'=>aK Z)<|aw Z Z Z Z Z (fun w' hw'=>Zf aW Z)<|aw Z Z Z Z Z (fun w' hw'=>Zf dz Z)<|aw Z Z Z Z Z (fun w' hw'=>aV dX Z (aC ((H.later hw').ent (i:=3) Z) Z))<|aw Z Z Z Z Z (fun w' hw'=>Yi Z)<|aw Z Z Z Z Z (fun w' hw'=>cD (k:=n) gw Z (congrArg (Value.int .i64) hpn) (by first|omega|(simp only[ab];omega)))<|aw Z Z Z Z Z (fun w' hw'=>oW aG row hq Z Z ((H.later hw').ent (i:=4) Z))<|aw Z Z Z Z Z (fun w' hw'=>jh dw Z ((H.later hw').ent (i:=0) Z) Z)<|xu bp Z Z Z Z Z (fun w' hw'=>hw'.size) fun b9=>aT ?_
 intro w6 hw' hF
 obtain⟨hF,bq,eq,hge9,hbl9⟩:=hF;cases eq
 replace H:=H.adoptNew hw' hbl9 hge9
 clear hw' hF
 refine de 9 N Z<|bW qU (zl q.p (db t) _ (Hp.paM H (hps q hqm)) (hpk q hqm).1 (hpk q hqm).2) Z Z ?_
 rintro _ w7 ⟨p2,rfl,hap2,hnp2⟩;replace H:=H.learn hnp2.2 (tD w0 w6.heap.size w7.heap.size p2) ⟨H.size,hnp2.1⟩ (ao _) (ao _);clear hnp2
 refine U<|bA 10 N N N Z Z Z Z Nq (fun _=>Yu Z)<|bA 11 N N N Z Z Z Z Nq (fun _=>Xa Z Z)<|bA 12 N N N Z Z Z Z Nq (fun _=>Xi Z Z)<|bA 13 N N N Z Z Z Z Nq (fun _=>Xi Z Z)<|de 15 N Z<|bk H 0 (#[J (p2.epoch),J (p2.leader),.slice p2.iA p2.isr.length p2.iC,.slice p2.kA p2.known.length p2.kC,.slice p2.rA p2.reps.length p2.rC,J (p2.few),J (p2.base)]) aL Z Z Z Z Z N N fun w8 H=>U<|bA 16 N N N Z Z Z Z Nq (fun _=>Wi Z)<|bA 17 N N N Z Z Z Z Nq (fun _=>Wi Z)<|cB N ?_
 exact⟨(p2,b9,_,_),⟨hap2,H⟩,Ms Z Z Z,Qg⟩
 refine jD [0,1,2,3,4,5,6,7,8,9,10,11,12,13] [14,15,16,17] [9] [0,1,2,3,5,6,10,11,12,13] 3 (sp [(9,Sp.deep w5.heap.size Pv (fun p:Pa=>p.c.toArray) (fun cs=> .tuple #[.agg cs,J (eF q.p.a (db t)).2.1,J (eF q.p.a (db t)).2.2]) (fun cq:Pa=>cq.a=(eF q.p.a (db t)).1))]) N N N Nq<|aw Z Z Z Z Z (fun w' hw'=>Yp Z)<|aw Z Z Z Z Z (fun w' hw'=>aK Z)<|aw Z Z Z Z Z (fun w' hw'=>Zf aW Z)<|aw Z Z Z Z Z (fun w' hw'=>Zf dz Z)<|aw Z Z Z Z Z (fun w' hw'=>aV dX Z (aC ((H.later hw').ent (i:=3) Z) Z))<|aw Z Z Z Z Z (fun w' hw'=>Yi Z)<|aw Z Z Z Z Z (fun w' hw'=>cD (k:=n) gw Z (congrArg (Value.int .i64) hpn) (by first|omega|(simp only[ab];omega)))<|aw Z Z Z Z Z (fun w' hw'=>oW aG row hq Z Z ((H.later hw').ent (i:=4) Z))<|aw Z Z Z Z Z (fun w' hw'=>jh dw Z ((H.later hw').ent (i:=0) Z) Z)<|s5 (gv:=(fun cs=> .tuple #[.agg cs,J (eF q.p.a (db t)).2.1,J (eF q.p.a (db t)).2.2])) qU Z Z Z Z Z (fun w' hw'=>hw'.size) (fun w' hw'=>zl q.p (db t) w' (Hp.paM (H.later hw') (hps q hqm)) (hpk q hqm).1 (hpk q hqm).2) Z fun cs43=>aw Z Z Z Z Z (fun w' hw'=>Yu Z)<|aw Z Z Z Z Z (fun w' hw'=>Xa Z Z)<|aw Z Z Z Z Z (fun w' hw'=>Xi Z Z)<|aw Z Z Z Z Z (fun w' hw'=>Xi Z Z)<|aT ?_
 intro w9 hw' hF
 obtain⟨hF,p2,eq,hap2,hrd43⟩:=hF;cases eq
 replace H:=H.learn hw' (tD w0 w5.heap.size w9.heap.size p2) ⟨H.size,hrd43⟩ (ao _) (ao _)
 clear hw' hF
 refine de 14 N Z<|ey H bp Z fun w10 b9 H=>U<|de 15 N Z<|bk H 0 (#[J (p2.epoch),J (p2.leader),.slice p2.iA p2.isr.length p2.iC,.slice p2.kA p2.known.length p2.kC,.slice p2.rA p2.reps.length p2.rC,J (p2.few),J (p2.base)]) aL Z Z Z Z Z N N fun w11 H=>U<|bA 16 N N N Z Z Z Z Nq (fun _=>Wi Z)<|bA 17 N N N Z Z Z Z Nq (fun _=>Wi Z)<|cB N ?_
 exact⟨(p2,b9,_,_),⟨hap2,H⟩,Ms Z Z Z,Qg⟩
 rintro⟨p2,b9,lo,hi⟩ ρ1 w12 ⟨hap2,H⟩
 show CW _ _ _ _ (dB (gJ _ _ ρ1) [(9,.pointer (Qd b9)),(10,J (eF q.p.a (db t)).2.1),(8,J (eF q.p.a (db t)).2.2)]) w12
 refine W<|W<|Zr<|G (Yi Z) ?_
 refine rg (i7 Z Z) Z Z Z (fun h48=> ?_) (fun h48=> ?_)
 refine U<|ZT Z<|W<|Zr<|G (Yi Z)<|bW bP (dS (eF q.p.a (db t)).2.2 _) Z Z ?_
 rintro _ w13 ⟨rfl,hb⟩;replace H:=H.later hb;clear hb
 refine bk H 2 (#[J ((eF q.p.a (db t)).2.2),J (0),.slice none 0 0]) aQ Z Z Z Z Z N N fun w14 H=>U<|Zt ?_
 exact eO (cs0:= #[J ((eF q.p.a (db t)).2.2),J (0),.slice none 0 0]) Z aN Z (H.ent (i:=2) Z) Z ⟨⟨ps,some ⟨gP,0,none⟩,pC,co,clo,chi,gr,glo,ghi,sns,snA,snC⟩,by rw[hsp,if_neg h48];exact oT.plain _ _ _,by rw[hsp,if_neg h48];rfl,Bw.shut (X:=[(b9,_),(b7,_),(b4,_),(b3,_)]) row hsn hown (ak _ hco) (ak _ hgr) (fun q hq=>ak _ (hps q hq)) (fun f hf=>ak _ hf) H Z⟩
 refine U<|ZF Z<|Zk<|W ?_
 refine bB bY [0,1,2,3,4,5,6,7] [8] [] [0,1,2,3,5,7] (sp []) N N N N Nq (cH _) ?_
 refine aw Z Z Z Z Z (fun w' hw'=>Yp Z)<|aw Z Z Z Z Z (fun w' hw'=>aK Z)<|aw Z Z Z Z Z (fun w' hw'=>Zf aW Z)<|aw Z Z Z Z Z (fun w' hw'=>Zf dz Z)<|aw Z Z Z Z Z (fun w' hw'=>aV dX Z (aC ((H.later hw').ent (i:=4) Z) Z))<|aw Z Z Z Z Z (fun w' hw'=>Yi Z)<|aw Z Z Z Z Z (fun w' hw'=>jh aG Z ((H.later hw').ent (i:=0) Z) Z)<|aw Z Z Z Z Z (fun w' hw'=>cD (k:=n) gw Z (congrArg (Value.int .i64) hpn) (by first|omega|(simp only[ab];omega)))<|aT ?_
 intro w15 hw' hF
 replace H:=H.later hw';clear hw' hF
 refine kX H 5 (⟨p2,lo,hi⟩) aL row hq 0 Z Z Z Z Z Z N fun w17 cur16 row16 H=> ?_
 have hs18:(ps.set n (⟨p2,lo,hi⟩))[n]? =some (⟨p2,lo,hi⟩):=am (cF hq).1
 refine U<|W<|Zr<|G (Yp Z)<|G (Yp Z)<|G (aK Z)<|G (Zf aW Z)<|G (Zf eB Z)<|G (jJ 1 [J (co.clock),J (co.next),J (co.wait),.slice co.A co.txs.length co.cap] ax Z Z (H.ent (i:=4) Z) Z)<|G (Yt Z)<|G (Yi Z)<|bW Ch (JI co t.name (t.parts.headD 0) k ti t _ (Hp.coM H (ak _ hco)) hcb hnmt hf h34 hpt) Z Z ?_
 rintro _ w19 ⟨c4,rfl,hac4,hnc4⟩;replace H:=H.learn hnc4.2 (xz w0 w17.heap.size w19.heap.size c4) ⟨H.size,hnc4.1⟩ (ao _) (ao _);clear hnc4
 refine G (Yu Z)<|G (Xa Z Z)<|G (Xi Z Z)<|G (aK Z)<|G (Zf aW Z)<|G (Zf eB Z)<|bk H 4 (#[.slice (Qd gP) ps.length pC,J (c4.clock),J (c4.next),J (c4.wait),.slice c4.A c4.txs.length c4.cap,J (gr.clock),J (gr.wait),J (gr.gen),.slice gr.mA gr.ms.length gr.mC,.slice gr.oA gr.os.length gr.oC,.slice snA sns.length snC]) aH Z Z Z Z Z N N fun w20 H=>U<|W<|Zr<|G (Yi Z)<|G (bi (cs:= #[J (0),J ((eF q.p.a (db t)).2.1),.slice none 0 0]) iF dt N)<|bk H 2 (#[J (0),J ((eF q.p.a (db t)).2.1),.slice none 0 0]) aQ Z Z Z Z Z N N fun w21 H=>U<|Zt ?_
 have hz:(eF q.p.a (db t)).2.2=0:=by simpa using h48
 exact eO (cs0:= #[J (0),J ((eF q.p.a (db t)).2.1),.slice none 0 0]) Z aN Z (H.ent (i:=2) Z) Z ⟨⟨ps.set n ⟨p2,lo,hi⟩,some ⟨gP,0,none⟩,pC,c4,w17.heap.size,w19.heap.size,gr,glo,ghi,sns,snA,snC⟩,by rw[hsp,if_pos hz];exact oT.plain _ _ _,by rw[hsp,if_pos hz];unfold Bk.a;simp only[cz,hap2,hac4],Bw.shut (X:=[(b9,_),(b7,_),(b4,_),(b3,_)]) row16 hsn hown (aB ..) (ak _ (ak _ hgr)) (fun y hy=>by rcases z9 hy with hy|hy;exact ak _ (ak _ (hps y hy));rw[hy];exact ak _ (aB ..)) (fun f hf=>ak _ (ak _ hf)) H (by simp only[Bk.c,ab])⟩
 refine G (dI Z)<|U<|ZT Z<|W<|Zr<|bW bP (dS 5 _) Z Z ?_
 rintro _ w22 ⟨rfl,hb⟩;replace H:=H.later hb;clear hb
 refine bk H 1 (#[J (5),J (0),.slice none 0 0]) aQ Z Z Z Z Z N N fun w23 H=>U<|Zt ?_
 exact eO (cs0:= #[J (5),J (0),.slice none 0 0]) Z aN Z (H.ent (i:=1) Z) Z ⟨⟨ps,some ⟨gP,0,none⟩,pC,co,clo,chi,gr,glo,ghi,sns,snA,snC⟩,by rw[hout h30];exact oT.plain _ _ _,by rw[hout h30];rfl,Bw.shut (X:=[(b7,_),(b4,_),(b3,_)]) row hsn hown hco hgr hps (fun _ h=>h) H Z⟩
theorem Kk (b:Bk) (a:Act):yv b.a a=({b.a with co:=(jg b.co.a a.n).1,gr:=pY b.gr.a a.n b.ps.length},⟨0,(jg b.co.a a.n).1.clock,[]⟩):=by
 unfold yv
 rw[show b.a.ps.length=b.ps.length by show(b.ps.map _).length=_;rw[bw]]
 rfl
theorem Ki {w0 w:World} {bb:Nat} {b:Bk} {gP:Nat} {uP:Array Value} {Ls Lo K:List (Nat×Obj)} {F:List cr} (a:Act) (B:Bw w0 w bb b gP uP Ls Lo K F) {k np:Nat} {wt:Int} (hcb:oS k b.co) (hk:k<=1000) (hn:0<=a.n/\a.n<=1000) (hgi:qZ (fun _=>True) wt np k b.gr) (hp4:b.ps.length<=4):dd aa ox [.pointer (Qd bb),a.v] w fun v w2=> ∃ b':Bk,oT (yv b.a a).2 v w2/\b'.a=(yv b.a a).1/\xA w0 w2 bb b' K F:=by
 refine aF tz Z Z ?_
 have hsp:=Kk b a
 obtain⟨ps,pA,pC,co,clo,chi,gr,glo,ghi,sns,snA,snC⟩:=b
 obtain⟨hpA,row,hsn,hown,hco,hgr,hps,H⟩:=B
 dsimp only at hpA row hsn hown hco hgr hps
 subst hpA
 replace H:Hp w0 w ((bb,.cells #[.slice (Qd gP) ps.length pC,J (co.clock),J (co.next),J (co.wait),.slice co.A co.txs.length co.cap,J (gr.clock),J (gr.wait),J (gr.gen),.slice gr.mA gr.ms.length gr.mC,.slice gr.oA gr.os.length gr.oC,.slice snA sns.length snC] bM (0,0))::(gP,.cells uP bC (0,0))::(Ls++(Lo++K))) F:=H
 dsimp only at hcb hgi hp4 hsp
 have h2z:(jg co.a a.n).2=0:=by unfold jg;rw[if_neg I]
 show CW _ _ _ _ (args [.pointer (Qd bb),.agg #[J (a.kind),.string (a.name),J (a.part),J (a.n),J (a.m),.string (a.text),J (a.lost)]]) w
 refine W<|Zr<|fX H Z Z fun w1 b3 H=>ey H dt Z fun w2 b4 H=>U<|W ?_
 refine eD (τ:=Co×Nat×Nat×Nat) [5,6,8,9,10,11,12,13,14,15,16,17,18] (fun(_,b5,_,_)=>[(5,.pointer (Qd b5)),(6,J (jg co.a a.n).2)]) (fun(c3,b5,lo,hi) w'=>c3.a=(jg co.a a.n).1/\Hp w0 w' ((b5,.cells #[J (c3.clock),J (c3.next),J (c3.wait),.slice c3.A c3.txs.length c3.cap] bf (0,0))::(b4,.cells #[J (0),J (0),.slice none 0 0] ee (0,0))::(b3,.cells #[J (a.kind),.string (a.name),J (a.part),J (a.n),J (a.m),.string (a.text),J (a.lost)] fS (0,0))::(bb,.cells #[.slice (Qd gP) ps.length pC,J (co.clock),J (co.next),J (co.wait),.slice co.A co.txs.length co.cap,J (gr.clock),J (gr.wait),J (gr.gen),.slice gr.mA gr.ms.length gr.mC,.slice gr.oA gr.os.length gr.oC,.slice snA sns.length snC] bM (0,0))::(gP,.cells uP bC (0,0))::(Ls++(Lo++K))) (xz w0 lo hi c3::F)) ?_ ?_
 refine oH bY 11 7 [7,8,9,10,12,13] [11] [0,1,2,3,5] [11,12,13] [7] [0,1,2,3,5,8,9,10] (sp [(11,Sp.blk w2.heap.size (.agg #[J 0,J 0,J 0,.slice none 0 0]) bf)]) (sp [(7,Sp.deep w2.heap.size Mu (fun c:Co=>c.c.toArray) (fun cs=> .tuple #[.agg cs,J (jg co.a a.n).2]) (fun cq:Co=>cq.a=(jg co.a a.n).1))]) N N N N (cH _) (cH _) ?_ ?_
 refine jD [0,1,2,3,4,5,6,11] [7,8,9,10,12,13] [11] [0,1,2,3,5] 5 (sp [(11,Sp.blk w2.heap.size (.agg #[J 0,J 0,J 0,.slice none 0 0]) bf)]) N N N Nq<|aw Z Z Z Z Z (fun w' hw'=>Yp Z)<|aw Z Z Z Z Z (fun w' hw'=>aK Z)<|aw Z Z Z Z Z (fun w' hw'=>Zf aW Z)<|aw Z Z Z Z Z (fun w' hw'=>Zf eB Z)<|aw Z Z Z Z Z (fun w' hw'=>jJ 1 [J (co.clock),J (co.next),J (co.wait),.slice co.A co.txs.length co.cap] ax Z Z ((H.later hw').ent (i:=2) Z) Z)<|aw Z Z Z Z Z (fun w' hw'=>Zf eP Z)<|aw Z Z Z Z Z (fun w' hw'=>aV aj Z (aC ((H.later hw').ent (i:=1) Z) Z))<|xu cK Z Z Z Z Z (fun w' hw'=>hw'.size) fun b5=>aT ?_
 intro w3 hw' hF
 obtain⟨hF,bq,eq,hge5,hbl5⟩:=hF;cases eq
 replace H:=H.adoptNew hw' hbl5 hge5
 clear hw' hF
 refine de 7 N Z<|bW vE (Cv co a.n k _ (Hp.coM H hco) hcb hk hn.1) Z Z ?_
 rintro _ w4 ⟨c3,rfl,hac3,hnc3⟩;replace H:=H.learn hnc3.2 (xz w0 w3.heap.size w4.heap.size c3) ⟨H.size,hnc3.1⟩ (ao _) (ao _);clear hnc3
 refine U<|bA 8 N N N Z Z Z Z Nq (fun _=>Yu Z)<|bA 9 N N N Z Z Z Z Nq (fun _=>Xa Z Z)<|bA 10 N N N Z Z Z Z Nq (fun _=>Xi Z Z)<|de 12 N Z<|bk H 0 (#[J (c3.clock),J (c3.next),J (c3.wait),.slice c3.A c3.txs.length c3.cap]) aH Z Z Z Z Z N N fun w5 H=>U<|bA 13 N N N Z Z Z Z Nq (fun _=>Wi Z)<|cB N ?_
 exact⟨(c3,b5,_,_),⟨hac3,H⟩,lh Z Z,Qg⟩
 refine jD [0,1,2,3,4,5,6,7,8,9,10] [11,12,13] [7] [0,1,2,3,5,8,9,10] 2 (sp [(7,Sp.deep w2.heap.size Mu (fun c:Co=>c.c.toArray) (fun cs=> .tuple #[.agg cs,J (jg co.a a.n).2]) (fun cq:Co=>cq.a=(jg co.a a.n).1))]) N N N Nq<|aw Z Z Z Z Z (fun w' hw'=>Yp Z)<|aw Z Z Z Z Z (fun w' hw'=>aK Z)<|aw Z Z Z Z Z (fun w' hw'=>Zf aW Z)<|aw Z Z Z Z Z (fun w' hw'=>Zf eB Z)<|aw Z Z Z Z Z (fun w' hw'=>jJ 1 [J (co.clock),J (co.next),J (co.wait),.slice co.A co.txs.length co.cap] ax Z Z ((H.later hw').ent (i:=2) Z) Z)<|aw Z Z Z Z Z (fun w' hw'=>Zf eP Z)<|aw Z Z Z Z Z (fun w' hw'=>aV aj Z (aC ((H.later hw').ent (i:=1) Z) Z))<|s5 (gv:=(fun cs=> .tuple #[.agg cs,J (jg co.a a.n).2])) vE Z Z Z Z Z (fun w' hw'=>hw'.size) (fun w' hw'=>Cv co a.n k w' (Hp.coM (H.later hw') hco) hcb hk hn.1) Z fun cs16=>aw Z Z Z Z Z (fun w' hw'=>Yu Z)<|aw Z Z Z Z Z (fun w' hw'=>Xa Z Z)<|aw Z Z Z Z Z (fun w' hw'=>Xi Z Z)<|aT ?_
 intro w6 hw' hF
 obtain⟨hF,c3,eq,hac3,hrd16⟩:=hF;cases eq
 replace H:=H.learn hw' (xz w0 w2.heap.size w6.heap.size c3) ⟨H.size,hrd16⟩ (ao _) (ao _)
 clear hw' hF
 refine de 11 N Z<|ey H cK Z fun w7 b5 H=>U<|de 12 N Z<|bk H 0 (#[J (c3.clock),J (c3.next),J (c3.wait),.slice c3.A c3.txs.length c3.cap]) aH Z Z Z Z Z N N fun w8 H=>U<|bA 13 N N N Z Z Z Z Nq (fun _=>Wi Z)<|cB N ?_
 exact⟨(c3,b5,_,_),⟨hac3,H⟩,lh Z Z,Qg⟩
 rintro⟨c3,b5,lo,hi⟩ ρ1 w9 ⟨hac3,H⟩
 show CW _ _ _ _ (dB (gJ _ _ ρ1) [(5,.pointer (Qd b5)),(6,J (jg co.a a.n).2)]) w9
 refine W<|W<|Zr<|G (Yi Z)<|G (bV Z Z I)<|U<|ZF Z<|Zk<|W ?_
 refine eD (τ:=Gr×Nat×Nat×Nat) [6,7,23,24,25,26,27,28,29,30,31,32,33,34,35,36,37,38,39] (fun(_,b7,_,_)=>[(7,.pointer (Qd b7)),(6,J 0)]) (fun(g3,b7,lo2,hi2) w'=>g3.a=((pY gr.a a.n ps.length,(0:Int))).1/\Hp w0 w' ((b7,.cells #[J (g3.clock),J (g3.wait),J (g3.gen),.slice g3.mA g3.ms.length g3.mC,.slice g3.oA g3.os.length g3.oC] cM (0,0))::(b5,.cells #[J (c3.clock),J (c3.next),J (c3.wait),.slice c3.A c3.txs.length c3.cap] bf (0,0))::(b4,.cells #[J (0),J (0),.slice none 0 0] ee (0,0))::(b3,.cells #[J (a.kind),.string (a.name),J (a.part),J (a.n),J (a.m),.string (a.text),J (a.lost)] fS (0,0))::(bb,.cells #[.slice (Qd gP) ps.length pC,J (co.clock),J (co.next),J (co.wait),.slice co.A co.txs.length co.cap,J (gr.clock),J (gr.wait),J (gr.gen),.slice gr.mA gr.ms.length gr.mC,.slice gr.oA gr.os.length gr.oC,.slice snA sns.length snC] bM (0,0))::(gP,.cells uP bC (0,0))::(Ls++(Lo++K))) (J1 w0 lo2 hi2 g3::xz w0 lo hi c3::F)) ?_ ?_
 refine oH bY 17 13 [13,14,15,16,18,19] [17] [0,1,2,3,5,7,8,9,10,12] [17,18,19] [13] [0,1,2,3,5,7,8,9,10,12,14,15,16] (sp [(17,Sp.blk w9.heap.size (.agg #[J 0,J 0,J 0,.slice none 0 0,.slice none 0 0]) cM)]) (sp [(13,Sp.deep w9.heap.size PN (fun g:Gr=>g.c.toArray) (fun cs=> .tuple #[.agg cs,J ((pY gr.a a.n ps.length,(0:Int))).2]) (fun cq:Gr=>cq.a=((pY gr.a a.n ps.length,(0:Int))).1))]) N N N N (cH _) (cH _) ?_ ?_
 refine jD [0,1,2,3,4,5,6,7,8,9,10,11,12,17] [13,14,15,16,18,19] [17] [0,1,2,3,5,7,8,9,10,12] 5 (sp [(17,Sp.blk w9.heap.size (.agg #[J 0,J 0,J 0,.slice none 0 0,.slice none 0 0]) cM)]) N N N Nq<|aw Z Z Z Z Z (fun w' hw'=>Yp Z)<|aw Z Z Z Z Z (fun w' hw'=>aK Z)<|aw Z Z Z Z Z (fun w' hw'=>Zf aW Z)<|aw Z Z Z Z Z (fun w' hw'=>Zf jB Z)<|aw Z Z Z Z Z (fun w' hw'=>jJ 5 [J (gr.clock),J (gr.wait),J (gr.gen),.slice gr.mA gr.ms.length gr.mC,.slice gr.oA gr.os.length gr.oC] aR Z Z ((H.later hw').ent (i:=3) Z) Z)<|aw Z Z Z Z Z (fun w' hw'=>Zf eP Z)<|aw Z Z Z Z Z (fun w' hw'=>aV aj Z (aC ((H.later hw').ent (i:=2) Z) Z))<|aw Z Z Z Z Z (fun w' hw'=>Yp Z)<|aw Z Z Z Z Z (fun w' hw'=>aK Z)<|aw Z Z Z Z Z (fun w' hw'=>Zf aW Z)<|aw Z Z Z Z Z (fun w' hw'=>Zf dz Z)<|aw Z Z Z Z Z (fun w' hw'=>aV dX Z (aC ((H.later hw').ent (i:=3) Z) Z))<|aw Z Z Z Z Z (fun w' hw'=>bn kM Z)<|xu d6 Z Z Z Z Z (fun w' hw'=>hw'.size) fun b7=>aT ?_
 intro w10 hw' hF
 obtain⟨hF,bq,eq,hge7,hbl7⟩:=hF;cases eq
 replace H:=H.adoptNew hw' hbl7 hge7
 clear hw' hF
 refine de 13 N Z<|bW vD (FH gr a.n ps.length _ (Hp.grM H (ak _ hgr)) hgi.ok hp4 (by have:=hgi.gen;omega) hn.1 hn.2 (by have:=hgi.clock;omega)) Z Z ?_
 rintro _ w11 ⟨g3,rfl,hag3,hng3⟩;replace H:=H.learn hng3.2 (J1 w0 w10.heap.size w11.heap.size g3) ⟨H.size,hng3.1⟩ (ao _) (ao _);clear hng3
 refine U<|bA 14 N N N Z Z Z Z Nq (fun _=>Yu Z)<|bA 15 N N N Z Z Z Z Nq (fun _=>Xa Z Z)<|bA 16 N N N Z Z Z Z Nq (fun _=>Xi Z Z)<|de 18 N Z<|bk H 0 (#[J (g3.clock),J (g3.wait),J (g3.gen),.slice g3.mA g3.ms.length g3.mC,.slice g3.oA g3.os.length g3.oC]) bF Z Z Z Z Z N N fun w12 H=>U<|bA 19 N N N Z Z Z Z Nq (fun _=>Wi Z)<|cB N ?_
 exact⟨(g3,b7,_,_),⟨hag3,H⟩,lh Z Z,Qg⟩
 refine jD [0,1,2,3,4,5,6,7,8,9,10,11,12,13,14,15,16] [17,18,19] [13] [0,1,2,3,5,7,8,9,10,12,14,15,16] 2 (sp [(13,Sp.deep w9.heap.size PN (fun g:Gr=>g.c.toArray) (fun cs=> .tuple #[.agg cs,J ((pY gr.a a.n ps.length,(0:Int))).2]) (fun cq:Gr=>cq.a=((pY gr.a a.n ps.length,(0:Int))).1))]) N N N Nq<|aw Z Z Z Z Z (fun w' hw'=>Yp Z)<|aw Z Z Z Z Z (fun w' hw'=>aK Z)<|aw Z Z Z Z Z (fun w' hw'=>Zf aW Z)<|aw Z Z Z Z Z (fun w' hw'=>Zf jB Z)<|aw Z Z Z Z Z (fun w' hw'=>jJ 5 [J (gr.clock),J (gr.wait),J (gr.gen),.slice gr.mA gr.ms.length gr.mC,.slice gr.oA gr.os.length gr.oC] aR Z Z ((H.later hw').ent (i:=3) Z) Z)<|aw Z Z Z Z Z (fun w' hw'=>Zf eP Z)<|aw Z Z Z Z Z (fun w' hw'=>aV aj Z (aC ((H.later hw').ent (i:=2) Z) Z))<|aw Z Z Z Z Z (fun w' hw'=>Yp Z)<|aw Z Z Z Z Z (fun w' hw'=>aK Z)<|aw Z Z Z Z Z (fun w' hw'=>Zf aW Z)<|aw Z Z Z Z Z (fun w' hw'=>Zf dz Z)<|aw Z Z Z Z Z (fun w' hw'=>aV dX Z (aC ((H.later hw').ent (i:=3) Z) Z))<|aw Z Z Z Z Z (fun w' hw'=>bn kM Z)<|s5 (gv:=(fun cs=> .tuple #[.agg cs,J ((pY gr.a a.n ps.length,(0:Int))).2])) vD Z Z Z Z Z (fun w' hw'=>hw'.size) (fun w' hw'=>FH gr a.n ps.length w' (Hp.grM (H.later hw') (ak _ hgr)) hgi.ok hp4 (by have:=hgi.gen;omega) hn.1 hn.2 (by have:=hgi.clock;omega)) Z fun cs37=>aw Z Z Z Z Z (fun w' hw'=>Yu Z)<|aw Z Z Z Z Z (fun w' hw'=>Xa Z Z)<|aw Z Z Z Z Z (fun w' hw'=>Xi Z Z)<|aT ?_
 intro w13 hw' hF
 obtain⟨hF,g3,eq,hag3,hrd37⟩:=hF;cases eq
 replace H:=H.learn hw' (J1 w0 w9.heap.size w13.heap.size g3) ⟨H.size,hrd37⟩ (ao _) (ao _)
 clear hw' hF
 refine de 17 N Z<|ey H d6 Z fun w14 b7 H=>U<|de 18 N Z<|bk H 0 (#[J (g3.clock),J (g3.wait),J (g3.gen),.slice g3.mA g3.ms.length g3.mC,.slice g3.oA g3.os.length g3.oC]) bF Z Z Z Z Z N N fun w15 H=>U<|bA 19 N N N Z Z Z Z Nq (fun _=>Wi Z)<|cB N ?_
 exact⟨(g3,b7,_,_),⟨hag3,H⟩,lh Z Z,Qg⟩
 rintro⟨g3,b7,lo2,hi2⟩ ρ1 w16 ⟨hag3,H⟩
 show CW _ _ _ _ (dB (gJ _ _ ρ1) [(7,.pointer (Qd b7)),(6,J 0)]) w16
 refine W<|W<|Zr<|G (Yi Z)<|G (bV Z Z (by decide))<|U<|ZF Z<|Zk<|W ?_
 refine mO bY (fun w'=>w'.heap[b5]? =some (.cells #[J (c3.clock),J (c3.next),J (c3.wait),.slice c3.A c3.txs.length c3.cap] bf (0,0))/\w'.heap[b7]? =some (.cells #[J (g3.clock),J (g3.wait),J (g3.gen),.slice g3.mA g3.ms.length g3.mC,.slice g3.oA g3.os.length g3.oC] cM (0,0))) ?_
 intro w17 hw';replace H:=H.later hw';clear hw'
 refine az 0 N N N Z Z Z Z Nq ⟨H.ent (i:=1) Z,H.ent (i:=0) Z⟩ (fun _ hS=>Yp Z)<|az 1 N N N Z Z Z Z Nq ⟨H.ent (i:=1) Z,H.ent (i:=0) Z⟩ (fun _ hS=>Yp Z)<|az 2 N N N Z Z Z Z Nq ⟨H.ent (i:=1) Z,H.ent (i:=0) Z⟩ (fun _ hS=>jh ax Z hS.1 Z)<|az 3 N N N Z Z Z Z Nq ⟨H.ent (i:=1) Z,H.ent (i:=0) Z⟩ (fun _ hS=>jh aR Z hS.2 Z)<|az 4 N N N Z Z Z Z Nq ⟨H.ent (i:=1) Z,H.ent (i:=0) Z⟩ (fun _ hS=>aK Z)<|az 5 N N N Z Z Z Z Nq ⟨H.ent (i:=1) Z,H.ent (i:=0) Z⟩ (fun _ hS=>Zf aW Z)<|az 6 N N N Z Z Z Z Nq ⟨H.ent (i:=1) Z,H.ent (i:=0) Z⟩ (fun _ hS=>Zf eB Z)<|pz 7 N Z<|bk H 4 (#[.slice (Qd gP) ps.length pC,J (c3.clock),J (c3.next),J (c3.wait),.slice c3.A c3.txs.length c3.cap,J (gr.clock),J (gr.wait),J (gr.gen),.slice gr.mA gr.ms.length gr.mC,.slice gr.oA gr.os.length gr.oC,.slice snA sns.length snC]) aH Z Z Z Z Z N N fun w18 H=>U ?_
 refine⟨⟨H.ent (i:=1) Z,H.ent (i:=0) Z⟩,?_⟩
 refine az 8 N N N Z Z Z Z Nq ⟨H.ent (i:=1) Z,H.ent (i:=0) Z⟩ (fun _ hS=>aK Z)<|az 9 N N N Z Z Z Z Nq ⟨H.ent (i:=1) Z,H.ent (i:=0) Z⟩ (fun _ hS=>Zf aW Z)<|az 10 N N N Z Z Z Z Nq ⟨H.ent (i:=1) Z,H.ent (i:=0) Z⟩ (fun _ hS=>Zf jB Z)<|pz 11 N Z<|bk H 4 (#[.slice (Qd gP) ps.length pC,J (c3.clock),J (c3.next),J (c3.wait),.slice c3.A c3.txs.length c3.cap,J (g3.clock),J (g3.wait),J (g3.gen),.slice g3.mA g3.ms.length g3.mC,.slice g3.oA g3.os.length g3.oC,.slice snA sns.length snC]) bF Z Z Z Z Z N N fun w19 H=>U ?_
 refine⟨⟨H.ent (i:=1) Z,H.ent (i:=0) Z⟩,?_⟩
 refine jf N<|W<|Zr<|G (Zf kr Z)<|G (Zd aj H 1 Z Z Z)<|G (bi (cs:= #[J (0),J (c3.clock),.slice none 0 0]) iF dt N)<|bk H 2 (#[J (0),J (c3.clock),.slice none 0 0]) aQ Z Z Z Z Z N N fun w20 H=>U<|Zt ?_
 have hck:c3.clock=(jg co.a a.n).1.clock:=by rw[<-hac3];rfl
 exact eO (cs0:= #[J (0),J (c3.clock),.slice none 0 0]) Z aN Z (H.ent (i:=2) Z) Z ⟨⟨ps,some ⟨gP,0,none⟩,pC,c3,lo,hi,g3,lo2,hi2,sns,snA,snC⟩,by rw[hsp,<-hck];exact oT.plain _ _ _,by rw[hsp,<-hac3];unfold Bk.a;rw[hag3],Bw.shut (X:=[(b7,_),(b5,_),(b4,_),(b3,_)]) row hsn hown (ak _ (aB ..)) (aB ..) (fun q hq=>ak _ (ak _ (hps q hq))) (fun f hf=>ak _ (ak _ hf)) H Z⟩
theorem KC {w:Wa} {a:Act} {p:gu} (hp:w.ps[a.part.toNat]? =some p):vo w a=if(lS p a).2.2=0 then({w with ps:=w.ps.set a.part.toNat (lS p a).1},⟨0,(lS p a).2.1,[]⟩)else me w (lS p a).2.2:=by
 unfold vo
 rw[hp]
theorem KB {w0 w:World} {bb:Nat} {b:Bk} {gP:Nat} {uP:Array Value} {Ls Lo K:List (Nat×Obj)} {F:List cr} (a:Act) (B:Bw w0 w bb b gP uP Ls Lo K F) (hpn:0<=a.part/\a.part<b.ps.length) (hn:0<=a.n/\ ∀ q∈b.ps,a.n<q.p.reps.length) (hm:0<=a.m/\a.m<=1000) (hpk: ∀ q∈b.ps,q.p.a.ok):dd aa ln [.pointer (Qd bb),a.v] w fun v w2=> ∃ b':Bk,oT (vo b.a a).2 v w2/\b'.a=(vo b.a a).1/\xA w0 w2 bb b' K F:=by
 refine aF qE Z Z ?_
 obtain⟨n,hna⟩: ∃ n:Nat,a.part=(n:Int):=⟨a.part.toNat,by omega⟩
 have htn:a.part.toNat=n:=by omega
 obtain⟨r,hnr⟩: ∃ r:Nat,a.n=(r:Int):=⟨a.n.toNat,by omega⟩
 have htr:a.n.toNat=r:=by omega
 obtain⟨mm,hmm⟩: ∃ r:Nat,a.m=(r:Int):=⟨a.m.toNat,by omega⟩
 have htm:a.m.toNat=mm:=by omega
 obtain⟨q,hq⟩: ∃ q,b.ps[n]? =some q:=⟨_,ah I⟩
 have hqm:=ae hq
 have hok:=hpk q hqm
 have hr:r<q.p.reps.length:=by have:=hn.2 q hqm;omega
 have hsp:=KC (w:=b.a) (a:=a) (p:=q.p.a) (by rw[htn];show(b.ps.map fun q=>q.p.a)[n]? =_;rw[aJ,hq];rfl)
 obtain⟨z,hz⟩: ∃ z,lS q.p.a a=z:=⟨_,rfl⟩
 obtain⟨ps,pA,pC,co,clo,chi,gr,glo,ghi,sns,snA,snC⟩:=b
 obtain⟨hpA,row,hsn,hown,hco,hgr,hps,H⟩:=B
 dsimp only at hpA row hsn hown hco hgr hps
 subst hpA
 replace H:Hp w0 w ((bb,.cells #[.slice (Qd gP) ps.length pC,J (co.clock),J (co.next),J (co.wait),.slice co.A co.txs.length co.cap,J (gr.clock),J (gr.wait),J (gr.gen),.slice gr.mA gr.ms.length gr.mC,.slice gr.oA gr.os.length gr.oC,.slice snA sns.length snC] bM (0,0))::(gP,.cells uP bC (0,0))::(Ls++(Lo++K))) F:=H
 dsimp only at hpn hq hqm
 show CW _ _ _ _ (args [.pointer (Qd bb),.agg #[J (a.kind),.string (a.name),J (a.part),J (a.n),J (a.m),.string (a.text),J (a.lost)]]) w
 refine W<|Zr<|fX H Z Z fun w1 b3 H=>ey H dt Z fun w2 b4 H=>U<|W<|W<|Zr<|G (Yp Z)<|G (Zf dU Z)<|G (Zd aj H 1 Z Z Z)<|bW dY (oh bb ⟨ps,some ⟨gP,0,none⟩,pC,co,clo,chi,gr,glo,ghi,sns,snA,snC⟩ a.part _ (H.ent (i:=2) Z)) Z Z ?_
 rintro _ w3 ⟨rfl,hb⟩;replace H:=H.later hb;clear hb
 rw[decide_eq_true hpn]
 refine G (dI Z)<|U<|ZF Z<|Zk<|W ?_
 refine bB bY [0,1,2,3,4,5,6,7,8,9] [10] [9] [0,1,2,3,5,7] (sp [(9,Sp.blk w3.heap.size (.agg #[J 0,J 0,.slice none 0 0,.slice none 0 0,.slice none 0 0,J 0,J 0]) bC)]) N N N N Nq (cH _) ?_
 refine aw Z Z Z Z Z (fun w' hw'=>Yp Z)<|aw Z Z Z Z Z (fun w' hw'=>aK Z)<|aw Z Z Z Z Z (fun w' hw'=>Zf aW Z)<|aw Z Z Z Z Z (fun w' hw'=>Zf dz Z)<|aw Z Z Z Z Z (fun w' hw'=>aV dX Z (aC ((H.later hw').ent (i:=2) Z) Z))<|aw Z Z Z Z Z (fun w' hw'=>Zf dU Z)<|aw Z Z Z Z Z (fun w' hw'=>aV aj Z (aC ((H.later hw').ent (i:=1) Z) Z))<|aw Z Z Z Z Z (fun w' hw'=>cD (k:=n) gw Z (congrArg (Value.int .i64) hna) (by first|omega|(simp only[ab];omega)))<|aw Z Z Z Z Z (fun w' hw'=>oW aG row hq Z Z ((H.later hw').ent (i:=3) Z))<|xu bp Z Z Z Z Z (fun w' hw'=>hw'.size) fun b5=>aT ?_
 intro w4 hw' hF
 obtain⟨hF,bq,eq,hge5,hbl5⟩:=hF;cases eq
 have Hb:=H
 replace H:=H.adoptNew hw' hbl5 hge5
 clear hw' hF
 refine bk H 0 (#[J (q.p.epoch),J (q.p.leader),.slice q.p.iA q.p.isr.length q.p.iC,.slice q.p.kA q.p.known.length q.p.kC,.slice q.p.rA q.p.reps.length q.p.rC,J (q.p.few),J (q.p.base)]) aL Z Z Z Z Z N N fun w5 H=>U<|W<|Zr<|G (Wi Z)<|U<|W<|Zr<|G (Wi Z)<|U<|W<|W<|Zr<|G (Zf mN Z)<|G (Zd aj H 2 Z Z Z)<|U ?_
 refine eD (τ:=Pa×Nat×Nat) [6,7,25,26,27,28,29,30,31,32,33,34,35,36,37,38,39,40,41,42,43,44,45,46,47,48,49,50,51,52,53,54,55,56,57,58,59,60,61,62,63,64,65,66,67,68,69,70,71,72,73,74,75,76,77,78,79,80,81,82,83,84,85,86,87,88,89,90,91,92,93,94,95,96,97] (fun _=>[(6,J z.2.1),(7,J z.2.2)]) (fun(p2,lo,hi) w'=>p2.a=z.1/\Hp w0 w' ((b5,.cells #[J (p2.epoch),J (p2.leader),.slice p2.iA p2.isr.length p2.iC,.slice p2.kA p2.known.length p2.kC,.slice p2.rA p2.reps.length p2.rC,J (p2.few),J (p2.base)] bC (0,0))::(b4,.cells #[J (0),J (0),.slice none 0 0] ee (0,0))::(b3,.cells #[J (a.kind),.string (a.name),J (a.part),J (a.n),J (a.m),.string (a.text),J (a.lost)] fS (0,0))::(bb,.cells #[.slice (Qd gP) ps.length pC,J (co.clock),J (co.next),J (co.wait),.slice co.A co.txs.length co.cap,J (gr.clock),J (gr.wait),J (gr.gen),.slice gr.mA gr.ms.length gr.mC,.slice gr.oA gr.os.length gr.oC,.slice snA sns.length snC] bM (0,0))::(gP,.cells uP bC (0,0))::(Ls++(Lo++K))) (tD w0 lo hi p2::F)) ?_ ?_
 refine Zb<|W<|Zr ?_
 refine cU (bl Z Z) Z Z Z (fun h33=> ?_) (fun h33=> ?_)
 refine G (Wb Z)<|U<|ZT Z<|Zr<|G (Zw aG H 0 Z Z Z)<|G (Zf eP Z)<|G (Zd aj H 2 Z Z Z)<|bW Cc ((by have hA:=I7 q.p r _ (Hp.paM H (hps q hqm)) hok hr;rw[<-hnr]at hA;exact hA)) Z Z ?_
 rintro _ w6 ⟨p2,rfl,hap2,hnp2⟩;replace H:=H.learn hnp2.2 (tD w0 w5.heap.size w6.heap.size p2) ⟨H.size,hnp2.1⟩ (ao _) (ao _);clear hnp2
 refine G (Yu Z)<|G (Xa Z Z)<|G (Xi Z Z)<|G (Xi Z Z)<|bk H 0 (#[J (p2.epoch),J (p2.leader),.slice p2.iA p2.isr.length p2.iC,.slice p2.kA p2.known.length p2.kC,.slice p2.rA p2.reps.length p2.rC,J (p2.few),J (p2.base)]) aL Z Z Z Z Z N N fun w7 H=>G (Wi Z)<|G (Wi Z)<|U ?_
 obtain rfl:z=iY q.p.a r:=by rw[<-hz];unfold lS;rw[if_pos h33,htr]
 exact⟨(p2,_,_),⟨hap2,H⟩,lh Z Z,Qg⟩
 refine G (Wb Z)<|U<|ZF Z<|W<|Zr ?_
 refine cU (bl Z Z) Z Z Z (fun h43=> ?_) (fun h43=> ?_)
 refine G (Wb Z)<|U<|ZT Z<|Zr<|G (Zw aG H 0 Z Z Z)<|G (Zf eP Z)<|G (Zd aj H 2 Z Z Z)<|bW Ej ((by have hA:=KL q.p r _ (Hp.paM H (hps q hqm)) hok hr;rw[<-hnr]at hA;exact hA)) Z Z ?_
 rintro _ w8 ⟨p2,rfl,hap2,hnp2⟩;replace H:=H.learn hnp2.2 (tD w0 w5.heap.size w8.heap.size p2) ⟨H.size,hnp2.1⟩ (ao _) (ao _);clear hnp2
 refine G (Yu Z)<|G (Xa Z Z)<|G (Xi Z Z)<|bk H 0 (#[J (p2.epoch),J (p2.leader),.slice p2.iA p2.isr.length p2.iC,.slice p2.kA p2.known.length p2.kC,.slice p2.rA p2.reps.length p2.rC,J (p2.few),J (p2.base)]) aL Z Z Z Z Z N N fun w9 H=>G (Wi Z)<|U ?_
 obtain rfl:z=((ob q.p.a r).1,0,(ob q.p.a r).2):=by rw[<-hz];unfold lS;rw[if_neg h33,if_pos h43,htr]
 exact⟨(p2,_,_),⟨hap2,H⟩,lh Z Z,Qg⟩
 refine G (Wb Z)<|U<|ZF Z<|W<|Zr ?_
 refine cU (bl Z Z) Z Z Z (fun h52=> ?_) (fun h52=> ?_)
 refine G (Wb Z)<|U<|ZT Z<|Zr<|G (Zw aG H 0 Z Z Z)<|G (Zf eP Z)<|G (Zd aj H 2 Z Z Z)<|G (Zf FV Z)<|G (Zd aj H 2 Z Z Z)<|bW Ce ((by have hA:=I9 q.p r mm _ (Hp.paM H (hps q hqm)) hok hr I;rw[<-hnr,<-hmm]at hA;exact hA)) Z Z ?_
 rintro _ w10 ⟨p2,rfl,hap2,hnp2⟩;replace H:=H.learn hnp2.2 (tD w0 w5.heap.size w10.heap.size p2) ⟨H.size,hnp2.1⟩ (ao _) (ao _);clear hnp2
 refine G (Yu Z)<|G (Xa Z Z)<|G (Xi Z Z)<|bk H 0 (#[J (p2.epoch),J (p2.leader),.slice p2.iA p2.isr.length p2.iC,.slice p2.kA p2.known.length p2.kC,.slice p2.rA p2.reps.length p2.rC,J (p2.few),J (p2.base)]) aL Z Z Z Z Z N N fun w11 H=>G (Wi Z)<|U ?_
 obtain rfl:z=((kw q.p.a r mm).1,0,(kw q.p.a r mm).2):=by rw[<-hz];unfold lS;rw[if_neg h33,if_neg h43,if_pos h52,htr,htm]
 exact⟨(p2,_,_),⟨hap2,H⟩,lh Z Z,Qg⟩
 refine G (Wb Z)<|U<|ZF Z<|W<|Zr ?_
 refine cU (bl Z Z) Z Z Z (fun h63=> ?_) (fun h63=> ?_)
 refine G (Wb Z)<|U<|ZT Z<|Zr<|G (Zw aG H 0 Z Z Z)<|G (Zf eP Z)<|G (Zd aj H 2 Z Z Z)<|bW Ek ((by have hA:=KM q.p r _ (Hp.paM H (hps q hqm)) hok hr;rw[<-hnr]at hA;exact hA)) Z Z ?_
 rintro _ w12 ⟨p2,rfl,hap2,hnp2⟩;replace H:=H.learn hnp2.2 (tD w0 w5.heap.size w12.heap.size p2) ⟨H.size,hnp2.1⟩ (ao _) (ao _);clear hnp2
 refine G (Yu Z)<|G (Xa Z Z)<|G (Xi Z Z)<|bk H 0 (#[J (p2.epoch),J (p2.leader),.slice p2.iA p2.isr.length p2.iC,.slice p2.kA p2.known.length p2.kC,.slice p2.rA p2.reps.length p2.rC,J (p2.few),J (p2.base)]) aL Z Z Z Z Z N N fun w13 H=>G (Wi Z)<|U ?_
 obtain rfl:z=((pZ q.p.a r).1,0,(pZ q.p.a r).2):=by rw[<-hz];unfold lS;rw[if_neg h33,if_neg h43,if_neg h52,if_pos h63,htr]
 exact⟨(p2,_,_),⟨hap2,H⟩,lh Z Z,Qg⟩
 refine G (Wb Z)<|U<|ZF Z<|W<|Zr ?_
 refine cU (bl Z Z) Z Z Z (fun h72=> ?_) (fun h72=> ?_)
 refine G (Wb Z)<|U<|ZT Z<|Zr<|G (Zw aG H 0 Z Z Z)<|G (Zf eP Z)<|G (Zd aj H 2 Z Z Z)<|bW Ei ((by have hA:=KK q.p r _ (Hp.paM H (hps q hqm)) hok hr;rw[<-hnr]at hA;exact hA)) Z Z ?_
 rintro _ w14 ⟨p2,rfl,hap2,hnp2⟩;replace H:=H.learn hnp2.2 (tD w0 w5.heap.size w14.heap.size p2) ⟨H.size,hnp2.1⟩ (ao _) (ao _);clear hnp2
 refine G (Yu Z)<|G (Xa Z Z)<|G (Xi Z Z)<|bk H 0 (#[J (p2.epoch),J (p2.leader),.slice p2.iA p2.isr.length p2.iC,.slice p2.kA p2.known.length p2.kC,.slice p2.rA p2.reps.length p2.rC,J (p2.few),J (p2.base)]) aL Z Z Z Z Z N N fun w15 H=>G (Wi Z)<|U ?_
 obtain rfl:z=((n9 q.p.a r).1,0,(n9 q.p.a r).2):=by rw[<-hz];unfold lS;rw[if_neg h33,if_neg h43,if_neg h52,if_neg h63,if_pos h72,htr]
 exact⟨(p2,_,_),⟨hap2,H⟩,lh Z Z,Qg⟩
 refine G (Wb Z)<|U<|ZF Z<|W<|Zr ?_
 refine cU (bl Z Z) Z Z Z (fun h81=> ?_) (fun h81=> ?_)
 refine G (Wb Z)<|U<|ZT Z<|Zr<|G (Zw aG H 0 Z Z Z)<|G (Zf eP Z)<|G (Zd aj H 2 Z Z Z)<|bW Cd ((by have hA:=I8 q.p r _ (Hp.paM H (hps q hqm)) hok hr;rw[<-hnr]at hA;exact hA)) Z Z ?_
 rintro _ w16 ⟨p2,rfl,hap2,hnp2⟩;replace H:=H.learn hnp2.2 (tD w0 w5.heap.size w16.heap.size p2) ⟨H.size,hnp2.1⟩ (ao _) (ao _);clear hnp2
 refine G (Yu Z)<|G (Xa Z Z)<|G (Xi Z Z)<|bk H 0 (#[J (p2.epoch),J (p2.leader),.slice p2.iA p2.isr.length p2.iC,.slice p2.kA p2.known.length p2.kC,.slice p2.rA p2.reps.length p2.rC,J (p2.few),J (p2.base)]) aL Z Z Z Z Z N N fun w17 H=>G (Wi Z)<|U ?_
 obtain rfl:z=((i4 q.p.a r).1,0,(i4 q.p.a r).2):=by rw[<-hz];unfold lS;rw[if_neg h33,if_neg h43,if_neg h52,if_neg h63,if_neg h72,if_pos h81,htr]
 exact⟨(p2,_,_),⟨hap2,H⟩,lh Z Z,Qg⟩
 refine G (Wb Z)<|U<|ZF Z<|W<|Zr ?_
 refine cU (bl Z Z) Z Z Z (fun h90=> ?_) (fun h90=> ?_)
 refine G (Wb Z)<|U<|ZT Z<|Zr<|G (Zw aG H 0 Z Z Z)<|G (Zf eP Z)<|G (Zd aj H 2 Z Z Z)<|bW Be ((by have hA:=GS q.p r _ (Hp.paM H (hps q hqm)) hok hr;rw[<-hnr]at hA;exact hA)) Z Z ?_
 rintro _ w18 ⟨p2,rfl,hap2,hnp2⟩;replace H:=H.learn hnp2.2 (tD w0 w5.heap.size w18.heap.size p2) ⟨H.size,hnp2.1⟩ (ao _) (ao _);clear hnp2
 refine G (Yu Z)<|G (Xa Z Z)<|G (Xi Z Z)<|bk H 0 (#[J (p2.epoch),J (p2.leader),.slice p2.iA p2.isr.length p2.iC,.slice p2.kA p2.known.length p2.kC,.slice p2.rA p2.reps.length p2.rC,J (p2.few),J (p2.base)]) aL Z Z Z Z Z N N fun w19 H=>G (Wi Z)<|U ?_
 obtain rfl:z=((g8 q.p.a r).1,0,(g8 q.p.a r).2):=by rw[<-hz];unfold lS;rw[if_neg h33,if_neg h43,if_neg h52,if_neg h63,if_neg h72,if_neg h81,if_pos h90,htr]
 exact⟨(p2,_,_),⟨hap2,H⟩,lh Z Z,Qg⟩
 refine G (Wb Z)<|U<|ZF Z<|Zr<|G (Zw aG H 0 Z Z Z)<|G (Zf eP Z)<|G (Zd aj H 2 Z Z Z)<|bW Bf ((by have hA:=GU q.p r _ (Hp.paM H (hps q hqm)) hok hr;rw[<-hnr]at hA;exact hA)) Z Z ?_
 rintro _ w20 ⟨p2,rfl,hap2,hnp2⟩;replace H:=H.learn hnp2.2 (tD w0 w5.heap.size w20.heap.size p2) ⟨H.size,hnp2.1⟩ (ao _) (ao _);clear hnp2
 refine G (Yu Z)<|G (Xa Z Z)<|G (Xi Z Z)<|bk H 0 (#[J (p2.epoch),J (p2.leader),.slice p2.iA p2.isr.length p2.iC,.slice p2.kA p2.known.length p2.kC,.slice p2.rA p2.reps.length p2.rC,J (p2.few),J (p2.base)]) aL Z Z Z Z Z N N fun w21 H=>G (Wi Z)<|U ?_
 obtain rfl:z=((fN q.p.a r).1,0,(fN q.p.a r).2):=by rw[<-hz];unfold lS;rw[if_neg h33,if_neg h43,if_neg h52,if_neg h63,if_neg h72,if_neg h81,if_neg h90,htr]
 exact⟨(p2,_,_),⟨hap2,H⟩,lh Z Z,Qg⟩
 rintro⟨p2,lo,hi⟩ ρ1 w22 ⟨hap2,H⟩
 show CW _ _ _ _ (dB (gJ _ _ ρ1) [(6,J z.2.1),(7,J z.2.2)]) w22
 refine W<|W<|Zr<|G (Yi Z) ?_
 refine rg (i7 Z Z) Z Z Z (fun h99=> ?_) (fun h99=> ?_)
 refine U<|ZT Z<|W<|Zr<|G (Yi Z)<|bW bP (dS z.2.2 _) Z Z ?_
 rintro _ w23 ⟨rfl,hb⟩;replace H:=H.later hb;clear hb
 refine bk H 1 (#[J (z.2.2),J (0),.slice none 0 0]) aQ Z Z Z Z Z N N fun w24 H=>U<|Zt ?_
 exact eO (cs0:= #[J (z.2.2),J (0),.slice none 0 0]) Z aN Z (H.ent (i:=1) Z) Z ⟨⟨ps,some ⟨gP,0,none⟩,pC,co,clo,chi,gr,glo,ghi,sns,snA,snC⟩,by rw[hsp,hz,if_neg h99];exact oT.plain _ _ _,by rw[hsp,hz,if_neg h99];rfl,Bw.shut (X:=[(b5,_),(b4,_),(b3,_)]) row hsn hown (ak _ hco) (ak _ hgr) (fun q hq=>ak _ (hps q hq)) (fun f hf=>ak _ hf) H Z⟩
 refine U<|ZF Z<|Zk<|W ?_
 refine bB bY [0,1,2,3,4,5,6,7,8] [9] [] [0,1,2,3,5,8] (sp []) N N N N Nq (cH _) ?_
 refine aw Z Z Z Z Z (fun w' hw'=>Yp Z)<|aw Z Z Z Z Z (fun w' hw'=>aK Z)<|aw Z Z Z Z Z (fun w' hw'=>Zf aW Z)<|aw Z Z Z Z Z (fun w' hw'=>Zf dz Z)<|aw Z Z Z Z Z (fun w' hw'=>aV dX Z (aC ((H.later hw').ent (i:=3) Z) Z))<|aw Z Z Z Z Z (fun w' hw'=>Zf dU Z)<|aw Z Z Z Z Z (fun w' hw'=>aV aj Z (aC ((H.later hw').ent (i:=2) Z) Z))<|aw Z Z Z Z Z (fun w' hw'=>jh aG Z ((H.later hw').ent (i:=0) Z) Z)<|aw Z Z Z Z Z (fun w' hw'=>cD (k:=n) gw Z (congrArg (Value.int .i64) hna) (by first|omega|(simp only[ab];omega)))<|aT ?_
 intro w25 hw' hF
 replace H:=H.later hw';clear hw' hF
 refine kX H 4 (⟨p2,lo,hi⟩) aL row hq 0 Z Z Z Z Z Z N fun w27 cur26 row26 H=> ?_
 have hs28:(ps.set n (⟨p2,lo,hi⟩))[n]? =some (⟨p2,lo,hi⟩):=am (cF hq).1
 refine U<|W<|Zr<|G (Yi Z)<|G (bi (cs:= #[J (0),J (z.2.1),.slice none 0 0]) iF dt N)<|bk H 1 (#[J (0),J (z.2.1),.slice none 0 0]) aQ Z Z Z Z Z N N fun w29 H=>U<|Zt ?_
 have hz0:z.2.2=0:=by simpa using h99
 exact eO (cs0:= #[J (0),J (z.2.1),.slice none 0 0]) Z aN Z (H.ent (i:=1) Z) Z ⟨⟨ps.set n ⟨p2,lo,hi⟩,some ⟨gP,0,none⟩,pC,co,clo,chi,gr,glo,ghi,sns,snA,snC⟩,by rw[hsp,hz,if_pos hz0];exact oT.plain _ _ _,by rw[hsp,hz,if_pos hz0,htn];unfold Bk.a;simp only[cz,hap2],Bw.shut (X:=[(b5,_),(b4,_),(b3,_)]) row26 hsn hown (ak _ hco) (ak _ hgr) (fun y hy=>by rcases z9 hy with hy|hy;exact ak _ (hps y hy);rw[hy];exact aB ..) (fun f hf=>ak _ hf) H (by simp only[Bk.c,ab])⟩
theorem M9 {b:Bk} {a:Act} {z:Gr×Int} (hz:(if a.kind=16 then tb b.gr.a a.name b.ps.length else if a.kind=18 then xt b.gr.a a.name a.n else sx b.gr.a a.name a.n a.part a.m)=z):BI b.a a=if z.2=0 then({b.a with gr:=z.1},⟨0,z.1.gen,[]⟩)else me b.a z.2:=by
 subst hz
 unfold BI G1
 rw[show b.a.ps.length=b.ps.length by show(b.ps.map _).length=_;rw[bw]]
 rfl
theorem M8 {w0 w:World} {bb:Nat} {b:Bk} {gP:Nat} {uP:Array Value} {Ls Lo K:List (Nat×Obj)} {F:List cr} (a:Act) (B:Bw w0 w bb b gP uP Ls Lo K F) {k np:Nat} {wt:Int} (hk:k<=1000) (h17:a.kind≠17) (hnm:bO a.name=true) (hm:0<=a.m/\a.m<=1000) (hgi:qZ (fun _=>True) wt np k b.gr) (hp4:b.ps.length<=4):dd aa lY [.pointer (Qd bb),a.v] w fun v w2=> ∃ b':Bk,oT (BI b.a a).2 v w2/\b'.a=(BI b.a a).1/\xA w0 w2 bb b' K F:=by
 refine aF rF Z Z ?_
 obtain⟨z,hz⟩: ∃ z,(if a.kind=16 then tb b.gr.a a.name b.ps.length else if a.kind=18 then xt b.gr.a a.name a.n else sx b.gr.a a.name a.n a.part a.m)=z:=⟨_,rfl⟩
 have hsp:=M9 hz
 obtain⟨ps,pA,pC,co,clo,chi,gr,glo,ghi,sns,snA,snC⟩:=b
 obtain⟨hpA,row,hsn,hown,hco,hgr,hps,H⟩:=B
 dsimp only at hpA row hsn hown hco hgr hps
 subst hpA
 replace H:Hp w0 w ((bb,.cells #[.slice (Qd gP) ps.length pC,J (co.clock),J (co.next),J (co.wait),.slice co.A co.txs.length co.cap,J (gr.clock),J (gr.wait),J (gr.gen),.slice gr.mA gr.ms.length gr.mC,.slice gr.oA gr.os.length gr.oC,.slice snA sns.length snC] bM (0,0))::(gP,.cells uP bC (0,0))::(Ls++(Lo++K))) F:=H
 dsimp only at hgi hp4 hz
 show CW _ _ _ _ (args [.pointer (Qd bb),.agg #[J (a.kind),.string (a.name),J (a.part),J (a.n),J (a.m),.string (a.text),J (a.lost)]]) w
 refine W<|Zr<|fX H Z Z fun w1 b3 H=>ey H dt Z fun w2 b4 H=>U<|W<|Zr<|G (Yp Z)<|G (aK Z)<|G (Zf aW Z)<|G (Zf jB Z)<|G (jJ 5 [J (gr.clock),J (gr.wait),J (gr.gen),.slice gr.mA gr.ms.length gr.mC,.slice gr.oA gr.os.length gr.oC] aR Z Z (H.ent (i:=2) Z) Z)<|ey H d6 Z fun w3 b5 H=>bk H 0 (#[J (gr.clock),J (gr.wait),J (gr.gen),.slice gr.mA gr.ms.length gr.mC,.slice gr.oA gr.os.length gr.oC]) bF Z Z Z Z Z N N fun w4 H=>U<|W<|Zr<|G (Wi Z)<|U<|W<|W<|Zr<|G (Zf mN Z)<|G (Zd aj H 2 Z Z Z)<|U ?_
 refine eD (τ:=Gr×Nat×Nat) [6,14,15,16,17,18,19,20,21,22,23,24,25,26,27,28,29,30,31,32,33,34,35,36,37,38,39,40,41,42,43,44,45,46,47,48,49,50,51,52,53,54,55,56,57,58,59,60,61,62,63,64,65,66,67] (fun _=>[(6,J z.2)]) (fun(g3,lo,hi) w'=>g3.a=z.1/\Hp w0 w' ((b5,.cells #[J (g3.clock),J (g3.wait),J (g3.gen),.slice g3.mA g3.ms.length g3.mC,.slice g3.oA g3.os.length g3.oC] cM (0,0))::(b4,.cells #[J (0),J (0),.slice none 0 0] ee (0,0))::(b3,.cells #[J (a.kind),.string (a.name),J (a.part),J (a.n),J (a.m),.string (a.text),J (a.lost)] fS (0,0))::(bb,.cells #[.slice (Qd gP) ps.length pC,J (co.clock),J (co.next),J (co.wait),.slice co.A co.txs.length co.cap,J (gr.clock),J (gr.wait),J (gr.gen),.slice gr.mA gr.ms.length gr.mC,.slice gr.oA gr.os.length gr.oC,.slice snA sns.length snC] bM (0,0))::(gP,.cells uP bC (0,0))::(Ls++(Lo++K))) (J1 w0 lo hi g3::F)) ?_ ?_
 refine Zb<|W<|Zr ?_
 refine cU (bl Z Z) Z Z Z (fun h28=> ?_) (fun h28=> ?_)
 refine G (Wb Z)<|U<|ZT Z ?_
 refine bB bY [0,1,2,3,4,5,6,7,8,9,10,11,12] [13,14] [9] [1,3,4,5,6,8,10,11,12] (sp [(9,Sp.deep w4.heap.size PN (fun g:Gr=>g.c.toArray) (fun cs=> .tuple #[.agg cs,J (tb gr.a a.name ps.length).2]) (fun cq:Gr=>cq.a=(tb gr.a a.name ps.length).1))]) N N N N Nq (cH _) ?_
 refine aw Z Z Z Z Z (fun w' hw'=>jh aR Z ((H.later hw').ent (i:=0) Z) Z)<|aw Z Z Z Z Z (fun w' hw'=>Zf fb Z)<|aw Z Z Z Z Z (fun w' hw'=>aV bc Z (aC ((H.later hw').ent (i:=2) Z) Z))<|aw Z Z Z Z Z (fun w' hw'=>Yp Z)<|aw Z Z Z Z Z (fun w' hw'=>aK Z)<|aw Z Z Z Z Z (fun w' hw'=>Zf aW Z)<|aw Z Z Z Z Z (fun w' hw'=>Zf dz Z)<|aw Z Z Z Z Z (fun w' hw'=>aV dX Z (aC ((H.later hw').ent (i:=3) Z) Z))<|aw Z Z Z Z Z (fun w' hw'=>bn kM Z)<|s5 (gv:=(fun cs=> .tuple #[.agg cs,J (tb gr.a a.name ps.length).2])) Cf Z Z Z Z Z (fun w' hw'=>hw'.size) (fun w' hw'=>Jk gr a.name ps.length w' (Hp.grM (H.later hw') hgr) hgi.ok hnm hp4 (by have:=hgi.gen;omega)) Z fun cs39=>aw Z Z Z Z Z (fun w' hw'=>Yu Z)<|aw Z Z Z Z Z (fun w' hw'=>Xa Z Z)<|aw Z Z Z Z Z (fun w' hw'=>Xi Z Z)<|aT ?_
 intro w5 hw' hF
 obtain⟨hF,g3,eq,hag3,hrd39⟩:=hF;cases eq
 replace H:=H.learn hw' (J1 w0 w4.heap.size w5.heap.size g3) ⟨H.size,hrd39⟩ (ao _) (ao _)
 clear hw' hF
 refine bk H 0 (#[J (g3.clock),J (g3.wait),J (g3.gen),.slice g3.mA g3.ms.length g3.mC,.slice g3.oA g3.os.length g3.oC]) bF Z Z Z Z Z N N fun w6 H=>G (Wi Z)<|U ?_
 obtain rfl:z=tb gr.a a.name ps.length:=by rw[<-hz,if_pos h28]
 exact⟨(g3,_,_),⟨hag3,H⟩,dK Z,Qg⟩
 refine G (Wb Z)<|U<|ZF Z<|W<|Zr<|G (nM Z Z h17)<|G (Wb Z)<|U<|ZF Z<|W<|Zr ?_
 refine cU (bl Z Z) Z Z Z (fun h58=> ?_) (fun h58=> ?_)
 refine G (Wb Z)<|U<|ZT Z<|Zr<|G (Zw aR H 0 Z Z Z)<|G (Zf fb Z)<|G (Zd bc H 2 Z Z Z)<|G (Zf eP Z)<|G (Zd aj H 2 Z Z Z)<|bW Cg (JQ gr a.name a.n _ (Hp.grM H hgr) hgi.ok hnm) Z Z ?_
 rintro _ w7 ⟨g3,rfl,hag3,hng3⟩;replace H:=H.learn hng3.2 (J1 w0 w4.heap.size w7.heap.size g3) ⟨H.size,hng3.1⟩ (ao _) (ao _);clear hng3
 refine G (Yu Z)<|G (Xa Z Z)<|G (Xi Z Z)<|bk H 0 (#[J (g3.clock),J (g3.wait),J (g3.gen),.slice g3.mA g3.ms.length g3.mC,.slice g3.oA g3.os.length g3.oC]) bF Z Z Z Z Z N N fun w8 H=>G (Wi Z)<|U ?_
 obtain rfl:z=xt gr.a a.name a.n:=by rw[<-hz,if_neg h28,if_pos h58]
 exact⟨(g3,_,_),⟨hag3,H⟩,dK Z,Qg⟩
 refine G (Wb Z)<|U<|ZF Z<|Zr<|G (Zw aR H 0 Z Z Z)<|G (Zf fb Z)<|G (Zd bc H 2 Z Z Z)<|G (Zf eP Z)<|G (Zd aj H 2 Z Z Z)<|G (Zf dU Z)<|G (Zd aj H 2 Z Z Z)<|G (Zf FV Z)<|G (Zd aj H 2 Z Z Z)<|bW Bg (Gz gr a.name a.n a.part a.m _ (Hp.grM H hgr) hgi.ok hnm hm.1) Z Z ?_
 rintro _ w9 ⟨g3,rfl,hag3,hng3⟩;replace H:=H.learn hng3.2 (J1 w0 w4.heap.size w9.heap.size g3) ⟨H.size,hng3.1⟩ (ao _) (ao _);clear hng3
 refine G (Yu Z)<|G (Xa Z Z)<|G (Xi Z Z)<|bk H 0 (#[J (g3.clock),J (g3.wait),J (g3.gen),.slice g3.mA g3.ms.length g3.mC,.slice g3.oA g3.os.length g3.oC]) bF Z Z Z Z Z N N fun w10 H=>G (Wi Z)<|U ?_
 obtain rfl:z=sx gr.a a.name a.n a.part a.m:=by rw[<-hz,if_neg h28,if_neg h58]
 exact⟨(g3,_,_),⟨hag3,H⟩,dK Z,Qg⟩
 rintro⟨g3,lo,hi⟩ ρ1 w11 ⟨hag3,H⟩
 show CW _ _ _ _ (dB (gJ _ _ ρ1) [(6,J z.2)]) w11
 refine W<|W<|Zr<|G (Yi Z) ?_
 refine rg (i7 Z Z) Z Z Z (fun h69=> ?_) (fun h69=> ?_)
 refine U<|ZT Z<|W<|Zr<|G (Yi Z)<|bW bP (dS z.2 _) Z Z ?_
 rintro _ w12 ⟨rfl,hb⟩;replace H:=H.later hb;clear hb
 refine bk H 1 (#[J (z.2),J (0),.slice none 0 0]) aQ Z Z Z Z Z N N fun w13 H=>U<|Zt ?_
 exact eO (cs0:= #[J (z.2),J (0),.slice none 0 0]) Z aN Z (H.ent (i:=1) Z) Z ⟨⟨ps,some ⟨gP,0,none⟩,pC,co,clo,chi,gr,glo,ghi,sns,snA,snC⟩,by rw[hsp,if_neg h69];exact oT.plain _ _ _,by rw[hsp,if_neg h69];rfl,Bw.shut (X:=[(b5,_),(b4,_),(b3,_)]) row hsn hown (ak _ hco) (ak _ hgr) (fun q hq=>ak _ (hps q hq)) (fun f hf=>ak _ hf) H Z⟩
 refine U<|ZF Z<|Zk<|W<|Zr<|G (Yp Z)<|G (Zw aR H 0 Z Z Z)<|G (aK Z)<|G (Zf aW Z)<|G (Zf jB Z)<|bk H 3 (#[.slice (Qd gP) ps.length pC,J (co.clock),J (co.next),J (co.wait),.slice co.A co.txs.length co.cap,J (g3.clock),J (g3.wait),J (g3.gen),.slice g3.mA g3.ms.length g3.mC,.slice g3.oA g3.os.length g3.oC,.slice snA sns.length snC]) bF Z Z Z Z Z N N fun w14 H=>U<|W<|Zr<|G (Zf ko Z)<|G (Zd aj H 0 Z Z Z)<|G (bi (cs:= #[J (0),J (g3.gen),.slice none 0 0]) iF dt N)<|bk H 1 (#[J (0),J (g3.gen),.slice none 0 0]) aQ Z Z Z Z Z N N fun w15 H=>U<|Zt ?_
 have hz0:z.2=0:=by simpa using h69
 have hgn:z.1.gen=g3.gen:=by rw[<-hag3];rfl
 exact eO (cs0:= #[J (0),J (g3.gen),.slice none 0 0]) Z aN Z (H.ent (i:=1) Z) Z ⟨⟨ps,some ⟨gP,0,none⟩,pC,co,clo,chi,g3,lo,hi,sns,snA,snC⟩,by rw[hsp,if_pos hz0,hgn];exact oT.plain _ _ _,by rw[hsp,if_pos hz0,<-hag3];rfl,Bw.shut (X:=[(b5,_),(b4,_),(b3,_)]) row hsn hown (ak _ hco) (aB ..) (fun q hq=>ak _ (hps q hq)) (fun f hf=>ak _ hf) H Z⟩
theorem xA.nil {w0 w:World} {bb:Nat} {b:Bk} {K:List (Nat×Obj)} {F:List cr} (h:xA w0 w bb b K F) (A:Option Addr):xA w0 w bb b K (dA nk 0 0 A []::F):=by
 obtain⟨gP,uP,Ls,Lo,F',B,hF⟩:=h
 exact⟨gP,uP,Ls,Lo,dA nk 0 0 A []::F',⟨B.pA,B.row,B.sn,B.own,ak _ B.co,ak _ B.gr,fun q hq=>ak _ (B.ps q hq),B.H.learnNil 0 (bD _) A⟩,fun f hf=>by
  rcases av.1 hf with rfl|hf
  exact aB ..
  exact ak _ (hF f hf)⟩
theorem Cq {g:Gr} (h:lp g=true) (s:ByteArray) (p:Int):0<=(eN g s p).1:=by
 unfold eN
 split
 exact iV 0
 split
 show 0<=tG g.os p
 unfold tG
 split
 rename_i o ho
 exact((dC.1 h).2.2.1 o (List.mem_of_find?_eq_some ho)).2.2.1
 exact iV 0
 exact iV 0
theorem MU {w0 w:World} {bb:Nat} {b:Bk} {gP:Nat} {uP:Array Value} {Ls Lo K:List (Nat×Obj)} {F:List cr} (a:Act) (B:Bw w0 w bb b gP uP Ls Lo K F) (hnm:bO a.name=true) (hpn:0<=a.part/\a.part<b.ps.length) {k np:Nat} {wt:Int} (hgi:qZ (fun _=>True) wt np k b.gr) (hw:(eN b.gr.a a.name a.part).2≠0):dd aa gB [.pointer (Qd bb),a.v] w fun v w2=> ∃ (x:An) (A:Option Addr) (c lo hi:Nat),qW b.a a x/\v=.agg #[J x.code,J x.n,.slice A x.texts.length c]/\x.texts.length<=c/\xA w0 w2 bb b K (dA nk lo hi A x.texts::F):=by
 refine aF ir Z Z ?_
 have hP:qW b.a a _:=.no hw
 obtain⟨ps,pA,pC,co,clo,chi,gr,glo,ghi,sns,snA,snC⟩:=b
 obtain⟨hpA,row,hsn,hown,hco,hgr,hps,H⟩:=B
 dsimp only at hpA row hsn hown hco hgr hps
 subst hpA
 replace H:Hp w0 w ((bb,.cells #[.slice (Qd gP) ps.length pC,J (co.clock),J (co.next),J (co.wait),.slice co.A co.txs.length co.cap,J (gr.clock),J (gr.wait),J (gr.gen),.slice gr.mA gr.ms.length gr.mC,.slice gr.oA gr.os.length gr.oC,.slice snA sns.length snC] bM (0,0))::(gP,.cells uP bC (0,0))::(Ls++(Lo++K))) F:=H
 dsimp only at hpn hgi hw
 show CW _ _ _ _ (args [.pointer (Qd bb),.agg #[J (a.kind),.string (a.name),J (a.part),J (a.n),J (a.m),.string (a.text),J (a.lost)]]) w
 refine W<|Zr<|fX H Z Z fun w1 b3 H=>ey H dt Z fun w2 b4 H=>U<|W<|W<|Zr<|G (Yp Z)<|G (Zf dU Z)<|G (Zd aj H 1 Z Z Z)<|bW dY (oh bb ⟨ps,some ⟨gP,0,none⟩,pC,co,clo,chi,gr,glo,ghi,sns,snA,snC⟩ a.part _ (H.ent (i:=2) Z)) Z Z ?_
 rintro _ w3 ⟨rfl,hb⟩;replace H:=H.later hb;clear hb
 rw[decide_eq_true hpn]
 refine G (dI Z)<|U<|ZF Z<|Zk<|W ?_
 refine bB bY [0,1,2,3,4,5,6,7,8,9,10,11,12,13,14] [] [9] [0,1,2,3,5,7,10,11,12,13,14] (sp [(9,Sp.one (.tuple #[J (eN gr.a a.name a.part).1,J (eN gr.a a.name a.part).2]))]) N N N N Nq (cH _) ?_
 refine aw Z Z Z Z Z (fun w' hw'=>Yp Z)<|aw Z Z Z Z Z (fun w' hw'=>aK Z)<|aw Z Z Z Z Z (fun w' hw'=>Zf aW Z)<|aw Z Z Z Z Z (fun w' hw'=>Zf jB Z)<|aw Z Z Z Z Z (fun w' hw'=>jJ 5 [J (gr.clock),J (gr.wait),J (gr.gen),.slice gr.mA gr.ms.length gr.mC,.slice gr.oA gr.os.length gr.oC] aR Z Z ((H.later hw').ent (i:=2) Z) Z)<|aw Z Z Z Z Z (fun w' hw'=>Zf fb Z)<|aw Z Z Z Z Z (fun w' hw'=>aV bc Z (aC ((H.later hw').ent (i:=1) Z) Z))<|aw Z Z Z Z Z (fun w' hw'=>Zf dU Z)<|aw Z Z Z Z Z (fun w' hw'=>aV aj Z (aC ((H.later hw').ent (i:=1) Z) Z))<|hJ mT Z Z Z Z Z (fun w' hw'=>sv gr a.name a.part w' (Hp.grM (H.later hw') hgr) hgi.ok hnm) Z<|aw Z Z Z Z Z (fun w' hw'=>Yu Z)<|aw Z Z Z Z Z (fun w' hw'=>Xi Z Z)<|aw Z Z Z Z Z (fun w' hw'=>Xi Z Z)<|aw Z Z Z Z Z (fun w' hw'=>Wi Z)<|aw Z Z Z Z Z (fun w' hw'=>Wi Z)<|aT ?_
 intro w4 hw' hF
 replace H:=H.later hw';clear hw' hF
 refine U<|W<|W<|Zr<|G (Yi Z)<|G (jS Z Z hw)<|U<|ZT Z<|W<|Zr<|G (Yi Z)<|bW bP (dS (eN gr.a a.name a.part).2 _) Z Z ?_
 rintro _ w5 ⟨rfl,hb⟩;replace H:=H.later hb;clear hb
 refine bk H 0 (#[J ((eN gr.a a.name a.part).2),J (0),.slice none 0 0]) aQ Z Z Z Z Z N N fun w6 H=>U<|Zt ?_
 exact eO (cs0:= #[J ((eN gr.a a.name a.part).2),J (0),.slice none 0 0]) Z aN Z (H.ent (i:=0) Z) Z ⟨_,none,0,0,0,hP,rfl,ao _,xA.nil (Bw.shut (X:=[(b4,_),(b3,_)]) row hsn hown hco hgr hps (fun _ h=>h) H Z) none⟩
theorem I3 {w0 w:World} {bb:Nat} {b:Bk} {gP:Nat} {uP:Array Value} {Ls Lo K:List (Nat×Obj)} {F:List cr} (a:Act) (B:Bw w0 w bb b gP uP Ls Lo K F) (hnm:bO a.name=true) (hpn:0<=a.part/\a.part<b.ps.length) (hn:1<=a.n/\a.n<=20) {k np:Nat} {wt:Int} (hgi:qZ (fun _=>True) wt np k b.gr) (hpk: ∀ q∈b.ps,q.p.a.ok) (hw:(eN b.gr.a a.name a.part).2=0) (hl: ∀ q,b.ps[a.part.toNat]? =some q->q.p.leader<0):dd aa gB [.pointer (Qd bb),a.v] w fun v w2=> ∃ (x:An) (A:Option Addr) (c lo hi:Nat),qW b.a a x/\v=.agg #[J x.code,J x.n,.slice A x.texts.length c]/\x.texts.length<=c/\xA w0 w2 bb b K (dA nk lo hi A x.texts::F):=by
 refine aF ir Z Z ?_
 obtain⟨n,hna⟩: ∃ n:Nat,a.part=(n:Int):=⟨a.part.toNat,by omega⟩
 have htn:a.part.toNat=n:=by omega
 obtain⟨m,hnm2⟩: ∃ m:Nat,a.n=(m:Int):=⟨a.n.toNat,by omega⟩
 have htm:a.n.toNat=m:=by omega
 obtain⟨q,hq⟩: ∃ q,b.ps[n]? =some q:=⟨_,ah I⟩
 have hqm:=ae hq
 have hok:=hpk q hqm
 have hqa:b.a.ps[a.part.toNat]? =some q.p.a:=by rw[htn];show(b.ps.map fun q=>q.p.a)[n]? =_;rw[aJ,hq];rfl
 have hlq:=hl q (by rw[htn];exact hq)
 have hP:qW b.a a _:=.yes q.p.a _ hw hqa (.none hlq)
 obtain⟨ps,pA,pC,co,clo,chi,gr,glo,ghi,sns,snA,snC⟩:=b
 obtain⟨hpA,row,hsn,hown,hco,hgr,hps,H⟩:=B
 dsimp only at hpA row hsn hown hco hgr hps
 subst hpA
 replace H:Hp w0 w ((bb,.cells #[.slice (Qd gP) ps.length pC,J (co.clock),J (co.next),J (co.wait),.slice co.A co.txs.length co.cap,J (gr.clock),J (gr.wait),J (gr.gen),.slice gr.mA gr.ms.length gr.mC,.slice gr.oA gr.os.length gr.oC,.slice snA sns.length snC] bM (0,0))::(gP,.cells uP bC (0,0))::(Ls++(Lo++K))) F:=H
 dsimp only at hpn hgi hw hq hqm
 show CW _ _ _ _ (args [.pointer (Qd bb),.agg #[J (a.kind),.string (a.name),J (a.part),J (a.n),J (a.m),.string (a.text),J (a.lost)]]) w
 refine W<|Zr<|fX H Z Z fun w1 b3 H=>ey H dt Z fun w2 b4 H=>U<|W<|W<|Zr<|G (Yp Z)<|G (Zf dU Z)<|G (Zd aj H 1 Z Z Z)<|bW dY (oh bb ⟨ps,some ⟨gP,0,none⟩,pC,co,clo,chi,gr,glo,ghi,sns,snA,snC⟩ a.part _ (H.ent (i:=2) Z)) Z Z ?_
 rintro _ w3 ⟨rfl,hb⟩;replace H:=H.later hb;clear hb
 rw[decide_eq_true hpn]
 refine G (dI Z)<|U<|ZF Z<|Zk<|W ?_
 refine bB bY [0,1,2,3,4,5,6,7,8,9,10,11,12,13,14] [] [9] [0,1,2,3,5,7,10,11,12,13,14] (sp [(9,Sp.one (.tuple #[J (eN gr.a a.name a.part).1,J (eN gr.a a.name a.part).2]))]) N N N N Nq (cH _) ?_
 refine aw Z Z Z Z Z (fun w' hw'=>Yp Z)<|aw Z Z Z Z Z (fun w' hw'=>aK Z)<|aw Z Z Z Z Z (fun w' hw'=>Zf aW Z)<|aw Z Z Z Z Z (fun w' hw'=>Zf jB Z)<|aw Z Z Z Z Z (fun w' hw'=>jJ 5 [J (gr.clock),J (gr.wait),J (gr.gen),.slice gr.mA gr.ms.length gr.mC,.slice gr.oA gr.os.length gr.oC] aR Z Z ((H.later hw').ent (i:=2) Z) Z)<|aw Z Z Z Z Z (fun w' hw'=>Zf fb Z)<|aw Z Z Z Z Z (fun w' hw'=>aV bc Z (aC ((H.later hw').ent (i:=1) Z) Z))<|aw Z Z Z Z Z (fun w' hw'=>Zf dU Z)<|aw Z Z Z Z Z (fun w' hw'=>aV aj Z (aC ((H.later hw').ent (i:=1) Z) Z))<|hJ mT Z Z Z Z Z (fun w' hw'=>sv gr a.name a.part w' (Hp.grM (H.later hw') hgr) hgi.ok hnm) Z<|aw Z Z Z Z Z (fun w' hw'=>Yu Z)<|aw Z Z Z Z Z (fun w' hw'=>Xi Z Z)<|aw Z Z Z Z Z (fun w' hw'=>Xi Z Z)<|aw Z Z Z Z Z (fun w' hw'=>Wi Z)<|aw Z Z Z Z Z (fun w' hw'=>Wi Z)<|aT ?_
 intro w4 hw' hF
 replace H:=H.later hw';clear hw' hF
 refine U<|W<|W<|Zr<|G (Yi Z)<|G (bV Z Z I)<|U<|ZF Z<|Zk<|W ?_
 refine Hw bY [12,13,14,15,16,17,18,19] [] [0,1,2,3,5,7,9,10]<|jD [0,1,2,3,4,5,6,7,8,9,10,11] [12,13,14,15,16,17,18,19] [] [0,1,2,3,5,7,9,10] 7 _ N N N Nq<|aw Z Z Z Z Z (fun w' hw'=>Yp Z)<|aw Z Z Z Z Z (fun w' hw'=>aK Z)<|aw Z Z Z Z Z (fun w' hw'=>Zf aW Z)<|aw Z Z Z Z Z (fun w' hw'=>Zf dz Z)<|aw Z Z Z Z Z (fun w' hw'=>aV dX Z (aC ((H.later hw').ent (i:=2) Z) Z))<|aw Z Z Z Z Z (fun w' hw'=>Zf dU Z)<|aw Z Z Z Z Z (fun w' hw'=>aV aj Z (aC ((H.later hw').ent (i:=1) Z) Z))<|aw Z Z Z Z Z (fun w' hw'=>cD (k:=n) gw Z (congrArg (Value.int .i64) hna) (by first|omega|(simp only[ab];omega)))<|aw Z Z Z Z Z (fun w' hw'=>oW aG row hq Z Z ((H.later hw').ent (i:=3) Z))<|aw Z Z Z Z Z (fun w' hw'=>Yi Z)<|aw Z Z Z Z Z (fun w' hw'=>Zf eP Z)<|aw Z Z Z Z Z (fun w' hw'=>aV aj Z (aC ((H.later hw').ent (i:=1) Z) Z))<|aT ?_
 intro w5 hw' _;replace H:=H.later hw';clear hw'
 refine de 12 N Z<|bW sZ (GT q.p (eN gr.a a.name a.part).1 a.n _ (Hp.paM H (hps q hqm)) hok hlq) Z Z ?_
 rintro _ w6 ⟨rfl,hb⟩;replace H:=H.later hb;clear hb
 refine U<|bA 13 N N N Z Z Z Z Nq (fun _=>Yu Z)<|bA 14 N N N Z Z Z Z Nq (fun _=>Xs Z Z)<|bA 15 N N N Z Z Z Z Nq (fun _=>Xi Z Z)<|bA 16 N N N Z Z Z Z Nq (fun _=>Xi Z Z)<|bA 17 N N N Z Z Z Z Nq (fun _=>Ws Z)<|bA 18 N N N Z Z Z Z Nq (fun _=>Wi Z)<|bA 19 N N N Z Z Z Z Nq (fun _=>Wi Z)<|cB N<|W<|W<|Zr<|G (Yi Z)<|G (jS Z Z (by decide))<|U<|ZT Z<|W<|Zr<|G (Yi Z)<|bW bP (dS 8 _) Z Z ?_
 rintro _ w7 ⟨rfl,hb⟩;replace H:=H.later hb;clear hb
 refine bk H 0 (#[J (8),J (0),.slice none 0 0]) aQ Z Z Z Z Z N N fun w8 H=>U<|Zt ?_
 exact eO (cs0:= #[J (8),J (0),.slice none 0 0]) Z aN Z (H.ent (i:=0) Z) Z ⟨_,none,0,0,0,hP,rfl,ao _,xA.nil (Bw.shut (X:=[(b4,_),(b3,_)]) row hsn hown hco hgr hps (fun _ h=>h) H Z) none⟩
theorem GP {w0 w:World} {bb:Nat} {b:Bk} {gP:Nat} {uP:Array Value} {Ls Lo K:List (Nat×Obj)} {F:List cr} (a:Act) (B:Bw w0 w bb b gP uP Ls Lo K F) (hnm:bO a.name=true) (hpn:0<=a.part/\a.part<b.ps.length) (hn:1<=a.n/\a.n<=20) {k np:Nat} {wt:Int} (hgi:qZ (fun _=>True) wt np k b.gr) (hpk: ∀ q∈b.ps,q.p.a.ok) (hw:(eN b.gr.a a.name a.part).2=0) {l:Nat} {r:eR} (hld: ∀ q,b.ps[a.part.toNat]? =some q->q.p.leader=l/\q.p.reps[l]? =some r) (hr:r.es.length<(eN b.gr.a a.name a.part).1.toNat):dd aa gB [.pointer (Qd bb),a.v] w fun v w2=> ∃ (x:An) (A:Option Addr) (c lo hi:Nat),qW b.a a x/\v=.agg #[J x.code,J x.n,.slice A x.texts.length c]/\x.texts.length<=c/\xA w0 w2 bb b K (dA nk lo hi A x.texts::F):=by
 refine aF ir Z Z ?_
 obtain⟨n,hna⟩: ∃ n:Nat,a.part=(n:Int):=⟨a.part.toNat,by omega⟩
 have htn:a.part.toNat=n:=by omega
 obtain⟨m,hnm2⟩: ∃ m:Nat,a.n=(m:Int):=⟨a.n.toNat,by omega⟩
 have htm:a.n.toNat=m:=by omega
 obtain⟨q,hq⟩: ∃ q,b.ps[n]? =some q:=⟨_,ah I⟩
 have hqm:=ae hq
 have hok:=hpk q hqm
 have hqa:b.a.ps[a.part.toNat]? =some q.p.a:=by rw[htn];show(b.ps.map fun q=>q.p.a)[n]? =_;rw[aJ,hq];rfl
 obtain⟨hl1,hl2⟩:=hld q (by rw[htn];exact hq)
 have hra:q.p.a.reps[l]? =some r.a:=by show(q.p.reps.map eR.a)[l]? =_;rw[aJ,hl2];rfl
 obtain⟨fr,hfr⟩: ∃ f:Nat,(eN b.gr.a a.name a.part).1=(f:Int):=⟨(eN b.gr.a a.name a.part).1.toNat,by have:=Cq (g:=b.gr.a) ((DV _).2 hgi.ok) a.name a.part;omega⟩
 have htf:(eN b.a.gr a.name a.part).1.toNat=fr:=by show(eN b.gr.a a.name a.part).1.toNat=fr;omega
 have hP:qW b.a a _:=.yes q.p.a _ hw hqa (.range l r.a hl1 hra hr)
 obtain⟨ps,pA,pC,co,clo,chi,gr,glo,ghi,sns,snA,snC⟩:=b
 obtain⟨hpA,row,hsn,hown,hco,hgr,hps,H⟩:=B
 dsimp only at hpA row hsn hown hco hgr hps
 subst hpA
 replace H:Hp w0 w ((bb,.cells #[.slice (Qd gP) ps.length pC,J (co.clock),J (co.next),J (co.wait),.slice co.A co.txs.length co.cap,J (gr.clock),J (gr.wait),J (gr.gen),.slice gr.mA gr.ms.length gr.mC,.slice gr.oA gr.os.length gr.oC,.slice snA sns.length snC] bM (0,0))::(gP,.cells uP bC (0,0))::(Ls++(Lo++K))) F:=H
 dsimp only at hpn hgi hw hq hqm hfr hr
 show CW _ _ _ _ (args [.pointer (Qd bb),.agg #[J (a.kind),.string (a.name),J (a.part),J (a.n),J (a.m),.string (a.text),J (a.lost)]]) w
 refine W<|Zr<|fX H Z Z fun w1 b3 H=>ey H dt Z fun w2 b4 H=>U<|W<|W<|Zr<|G (Yp Z)<|G (Zf dU Z)<|G (Zd aj H 1 Z Z Z)<|bW dY (oh bb ⟨ps,some ⟨gP,0,none⟩,pC,co,clo,chi,gr,glo,ghi,sns,snA,snC⟩ a.part _ (H.ent (i:=2) Z)) Z Z ?_
 rintro _ w3 ⟨rfl,hb⟩;replace H:=H.later hb;clear hb
 rw[decide_eq_true hpn]
 refine G (dI Z)<|U<|ZF Z<|Zk<|W ?_
 refine bB bY [0,1,2,3,4,5,6,7,8,9,10,11,12,13,14] [] [9] [0,1,2,3,5,7,10,11,12,13,14] (sp [(9,Sp.one (.tuple #[J (eN gr.a a.name a.part).1,J (eN gr.a a.name a.part).2]))]) N N N N Nq (cH _) ?_
 refine aw Z Z Z Z Z (fun w' hw'=>Yp Z)<|aw Z Z Z Z Z (fun w' hw'=>aK Z)<|aw Z Z Z Z Z (fun w' hw'=>Zf aW Z)<|aw Z Z Z Z Z (fun w' hw'=>Zf jB Z)<|aw Z Z Z Z Z (fun w' hw'=>jJ 5 [J (gr.clock),J (gr.wait),J (gr.gen),.slice gr.mA gr.ms.length gr.mC,.slice gr.oA gr.os.length gr.oC] aR Z Z ((H.later hw').ent (i:=2) Z) Z)<|aw Z Z Z Z Z (fun w' hw'=>Zf fb Z)<|aw Z Z Z Z Z (fun w' hw'=>aV bc Z (aC ((H.later hw').ent (i:=1) Z) Z))<|aw Z Z Z Z Z (fun w' hw'=>Zf dU Z)<|aw Z Z Z Z Z (fun w' hw'=>aV aj Z (aC ((H.later hw').ent (i:=1) Z) Z))<|hJ mT Z Z Z Z Z (fun w' hw'=>sv gr a.name a.part w' (Hp.grM (H.later hw') hgr) hgi.ok hnm) Z<|aw Z Z Z Z Z (fun w' hw'=>Yu Z)<|aw Z Z Z Z Z (fun w' hw'=>Xi Z Z)<|aw Z Z Z Z Z (fun w' hw'=>Xi Z Z)<|aw Z Z Z Z Z (fun w' hw'=>Wi Z)<|aw Z Z Z Z Z (fun w' hw'=>Wi Z)<|aT ?_
 intro w4 hw' hF
 replace H:=H.later hw';clear hw' hF
 refine U<|W<|W<|Zr<|G (Yi Z)<|G (bV Z Z I)<|U<|ZF Z<|Zk<|W ?_
 refine Hw bY [12,13,14,15,16,17,18,19] [] [0,1,2,3,5,7,9,10]<|jD [0,1,2,3,4,5,6,7,8,9,10,11] [12,13,14,15,16,17,18,19] [] [0,1,2,3,5,7,9,10] 7 _ N N N Nq<|aw Z Z Z Z Z (fun w' hw'=>Yp Z)<|aw Z Z Z Z Z (fun w' hw'=>aK Z)<|aw Z Z Z Z Z (fun w' hw'=>Zf aW Z)<|aw Z Z Z Z Z (fun w' hw'=>Zf dz Z)<|aw Z Z Z Z Z (fun w' hw'=>aV dX Z (aC ((H.later hw').ent (i:=2) Z) Z))<|aw Z Z Z Z Z (fun w' hw'=>Zf dU Z)<|aw Z Z Z Z Z (fun w' hw'=>aV aj Z (aC ((H.later hw').ent (i:=1) Z) Z))<|aw Z Z Z Z Z (fun w' hw'=>cD (k:=n) gw Z (congrArg (Value.int .i64) hna) (by first|omega|(simp only[ab];omega)))<|aw Z Z Z Z Z (fun w' hw'=>oW aG row hq Z Z ((H.later hw').ent (i:=3) Z))<|aw Z Z Z Z Z (fun w' hw'=>Yi Z)<|aw Z Z Z Z Z (fun w' hw'=>Zf eP Z)<|aw Z Z Z Z Z (fun w' hw'=>aV aj Z (aC ((H.later hw').ent (i:=1) Z) Z))<|aT ?_
 intro w5 hw' _;replace H:=H.later hw';clear hw'
 refine de 12 N Z<|bW sZ ((by have hA:=E8 q.p fr m l r _ (Hp.paM H (hps q hqm)) hok hl1 hl2 I;rw[<-hfr,<-hnm2]at hA;exact hA)) Z Z ?_
 rintro _ w6 ⟨rfl,hb⟩;replace H:=H.later hb;clear hb
 refine U<|bA 13 N N N Z Z Z Z Nq (fun _=>Yu Z)<|bA 14 N N N Z Z Z Z Nq (fun _=>Xs Z Z)<|bA 15 N N N Z Z Z Z Nq (fun _=>Xi Z Z)<|bA 16 N N N Z Z Z Z Nq (fun _=>Xi Z Z)<|bA 17 N N N Z Z Z Z Nq (fun _=>Ws Z)<|bA 18 N N N Z Z Z Z Nq (fun _=>Wi Z)<|bA 19 N N N Z Z Z Z Nq (fun _=>Wi Z)<|cB N<|W<|W<|Zr<|G (Yi Z)<|G (jS Z Z (by decide))<|U<|ZT Z<|W<|Zr<|G (Yi Z)<|bW bP (dS 2 _) Z Z ?_
 rintro _ w7 ⟨rfl,hb⟩;replace H:=H.later hb;clear hb
 refine bk H 0 (#[J (2),J (0),.slice none 0 0]) aQ Z Z Z Z Z N N fun w8 H=>U<|Zt ?_
 exact eO (cs0:= #[J (2),J (0),.slice none 0 0]) Z aN Z (H.ent (i:=0) Z) Z ⟨_,none,0,0,0,hP,rfl,ao _,xA.nil (Bw.shut (X:=[(b4,_),(b3,_)]) row hsn hown hco hgr hps (fun _ h=>h) H Z) none⟩
theorem MT {w0 w:World} {bb:Nat} {b:Bk} {gP:Nat} {uP:Array Value} {Ls Lo K:List (Nat×Obj)} {F:List cr} (a:Act) (B:Bw w0 w bb b gP uP Ls Lo K F) (hnm:bO a.name=true) (hpn:0<=a.part/\a.part<b.ps.length) (hn:1<=a.n/\a.n<=20) {k np:Nat} {wt:Int} (hgi:qZ (fun _=>True) wt np k b.gr) (hpk: ∀ q∈b.ps,q.p.a.ok) (hw:(eN b.gr.a a.name a.part).2=0) {l:Nat} {r:eR} (hld: ∀ q,b.ps[a.part.toNat]? =some q->q.p.leader=l/\q.p.reps[l]? =some r) (hr:(eN b.gr.a a.name a.part).1.toNat<=r.es.length):dd aa gB [.pointer (Qd bb),a.v] w fun v w2=> ∃ (x:An) (A:Option Addr) (c lo hi:Nat),qW b.a a x/\v=.agg #[J x.code,J x.n,.slice A x.texts.length c]/\x.texts.length<=c/\xA w0 w2 bb b K (dA nk lo hi A x.texts::F):=by
 refine aF ir Z Z ?_
 obtain⟨n,hna⟩: ∃ n:Nat,a.part=(n:Int):=⟨a.part.toNat,by omega⟩
 have htn:a.part.toNat=n:=by omega
 obtain⟨m,hnm2⟩: ∃ m:Nat,a.n=(m:Int):=⟨a.n.toNat,by omega⟩
 have htm:a.n.toNat=m:=by omega
 obtain⟨q,hq⟩: ∃ q,b.ps[n]? =some q:=⟨_,ah I⟩
 have hqm:=ae hq
 have hok:=hpk q hqm
 have hqa:b.a.ps[a.part.toNat]? =some q.p.a:=by rw[htn];show(b.ps.map fun q=>q.p.a)[n]? =_;rw[aJ,hq];rfl
 obtain⟨hl1,hl2⟩:=hld q (by rw[htn];exact hq)
 have hra:q.p.a.reps[l]? =some r.a:=by show(q.p.reps.map eR.a)[l]? =_;rw[aJ,hl2];rfl
 obtain⟨fr,hfr⟩: ∃ f:Nat,(eN b.gr.a a.name a.part).1=(f:Int):=⟨(eN b.gr.a a.name a.part).1.toNat,by have:=Cq (g:=b.gr.a) ((DV _).2 hgi.ok) a.name a.part;omega⟩
 have htf:(eN b.a.gr a.name a.part).1.toNat=fr:=by show(eN b.gr.a a.name a.part).1.toNat=fr;omega
 have hP: ∀ st out bt,tV (r.es.take r.high.toNat) st->Br r.es r.high.toNat st fr m out bt->qW b.a a ⟨0,(bt:Nat),out⟩:=fun st out bt h1 h2=> .yes q.p.a _ hw hqa (.ok l r.a st out bt hl1 hra (by rw[htf];show fr<=r.es.length;omega) h1 (by rw[htf,htm];exact h2))
 obtain⟨ps,pA,pC,co,clo,chi,gr,glo,ghi,sns,snA,snC⟩:=b
 obtain⟨hpA,row,hsn,hown,hco,hgr,hps,H⟩:=B
 dsimp only at hpA row hsn hown hco hgr hps
 subst hpA
 replace H:Hp w0 w ((bb,.cells #[.slice (Qd gP) ps.length pC,J (co.clock),J (co.next),J (co.wait),.slice co.A co.txs.length co.cap,J (gr.clock),J (gr.wait),J (gr.gen),.slice gr.mA gr.ms.length gr.mC,.slice gr.oA gr.os.length gr.oC,.slice snA sns.length snC] bM (0,0))::(gP,.cells uP bC (0,0))::(Ls++(Lo++K))) F:=H
 dsimp only at hpn hgi hw hq hqm hfr hr hP
 show CW _ _ _ _ (args [.pointer (Qd bb),.agg #[J (a.kind),.string (a.name),J (a.part),J (a.n),J (a.m),.string (a.text),J (a.lost)]]) w
 refine W<|Zr<|fX H Z Z fun w1 b3 H=>ey H dt Z fun w2 b4 H=>U<|W<|W<|Zr<|G (Yp Z)<|G (Zf dU Z)<|G (Zd aj H 1 Z Z Z)<|bW dY (oh bb ⟨ps,some ⟨gP,0,none⟩,pC,co,clo,chi,gr,glo,ghi,sns,snA,snC⟩ a.part _ (H.ent (i:=2) Z)) Z Z ?_
 rintro _ w3 ⟨rfl,hb⟩;replace H:=H.later hb;clear hb
 rw[decide_eq_true hpn]
 refine G (dI Z)<|U<|ZF Z<|Zk<|W ?_
 refine bB bY [0,1,2,3,4,5,6,7,8,9,10,11,12,13,14] [] [9] [0,1,2,3,5,7,10,11,12,13,14] (sp [(9,Sp.one (.tuple #[J (eN gr.a a.name a.part).1,J (eN gr.a a.name a.part).2]))]) N N N N Nq (cH _) ?_
 refine aw Z Z Z Z Z (fun w' hw'=>Yp Z)<|aw Z Z Z Z Z (fun w' hw'=>aK Z)<|aw Z Z Z Z Z (fun w' hw'=>Zf aW Z)<|aw Z Z Z Z Z (fun w' hw'=>Zf jB Z)<|aw Z Z Z Z Z (fun w' hw'=>jJ 5 [J (gr.clock),J (gr.wait),J (gr.gen),.slice gr.mA gr.ms.length gr.mC,.slice gr.oA gr.os.length gr.oC] aR Z Z ((H.later hw').ent (i:=2) Z) Z)<|aw Z Z Z Z Z (fun w' hw'=>Zf fb Z)<|aw Z Z Z Z Z (fun w' hw'=>aV bc Z (aC ((H.later hw').ent (i:=1) Z) Z))<|aw Z Z Z Z Z (fun w' hw'=>Zf dU Z)<|aw Z Z Z Z Z (fun w' hw'=>aV aj Z (aC ((H.later hw').ent (i:=1) Z) Z))<|hJ mT Z Z Z Z Z (fun w' hw'=>sv gr a.name a.part w' (Hp.grM (H.later hw') hgr) hgi.ok hnm) Z<|aw Z Z Z Z Z (fun w' hw'=>Yu Z)<|aw Z Z Z Z Z (fun w' hw'=>Xi Z Z)<|aw Z Z Z Z Z (fun w' hw'=>Xi Z Z)<|aw Z Z Z Z Z (fun w' hw'=>Wi Z)<|aw Z Z Z Z Z (fun w' hw'=>Wi Z)<|aT ?_
 intro w4 hw' hF
 replace H:=H.later hw';clear hw' hF
 refine U<|W<|W<|Zr<|G (Yi Z)<|G (bV Z Z I)<|U<|ZF Z<|Zk<|W ?_
 refine Hw bY [12,13,14,15,16,17,18,19] [] [0,1,2,3,5,7,9,10]<|jD [0,1,2,3,4,5,6,7,8,9,10,11] [12,13,14,15,16,17,18,19] [] [0,1,2,3,5,7,9,10] 7 _ N N N Nq<|aw Z Z Z Z Z (fun w' hw'=>Yp Z)<|aw Z Z Z Z Z (fun w' hw'=>aK Z)<|aw Z Z Z Z Z (fun w' hw'=>Zf aW Z)<|aw Z Z Z Z Z (fun w' hw'=>Zf dz Z)<|aw Z Z Z Z Z (fun w' hw'=>aV dX Z (aC ((H.later hw').ent (i:=2) Z) Z))<|aw Z Z Z Z Z (fun w' hw'=>Zf dU Z)<|aw Z Z Z Z Z (fun w' hw'=>aV aj Z (aC ((H.later hw').ent (i:=1) Z) Z))<|aw Z Z Z Z Z (fun w' hw'=>cD (k:=n) gw Z (congrArg (Value.int .i64) hna) (by first|omega|(simp only[ab];omega)))<|aw Z Z Z Z Z (fun w' hw'=>oW aG row hq Z Z ((H.later hw').ent (i:=3) Z))<|aw Z Z Z Z Z (fun w' hw'=>Yi Z)<|aw Z Z Z Z Z (fun w' hw'=>Zf eP Z)<|aw Z Z Z Z Z (fun w' hw'=>aV aj Z (aC ((H.later hw').ent (i:=1) Z) Z))<|aT ?_
 intro w5 hw' _;replace H:=H.later hw';clear hw'
 refine de 12 N Z<|bW sZ ((by have hA:=KN q.p fr m l r _ (Hp.paM H (hps q hqm)) hok hl1 hl2 I I I;rw[<-hfr,<-hnm2]at hA;exact hA)) Z Z ?_
 rintro _ w6 ⟨sb,out,bt,A7,c7,hst7,hrd7,rfl,hr7,hc7,hb7⟩;replace H:=H.learnRd hb7 hr7;clear hr7 hb7
 refine U<|bA 13 N N N Z Z Z Z Nq (fun _=>Yu Z)<|bA 14 N N N Z Z Z Z Nq (fun _=>Xs Z Z)<|bA 15 N N N Z Z Z Z Nq (fun _=>Xi Z Z)<|bA 16 N N N Z Z Z Z Nq (fun _=>Xi Z Z)<|bA 17 N N N Z Z Z Z Nq (fun _=>Ws Z)<|bA 18 N N N Z Z Z Z Nq (fun _=>Wi Z)<|bA 19 N N N Z Z Z Z Nq (fun _=>Wi Z)<|cB N<|W<|W<|Zr<|G (Yi Z)<|G (bV Z Z (by decide))<|U<|ZF Z<|Zk<|W<|Zr<|G (Yi Z)<|G (Ys Z)<|G (bi (cs:= #[J (0),J ((bt:Nat)),.slice A7 out.length c7]) iF dt N)<|bk H 0 (#[J (0),J ((bt:Nat)),.slice A7 out.length c7]) aQ Z Z Z Z Z N N fun w7 H=>U<|Zt ?_
 exact eO (cs0:= #[J (0),J ((bt:Nat)),.slice A7 out.length c7]) Z aN Z (H.ent (i:=0) Z) Z ⟨_,A7,c7,_,_,hP _ _ _ hst7 hrd7,rfl,hc7,Bw.shut (X:=[(b4,_),(b3,_)]) row hsn hown (ak _ hco) (ak _ hgr) (fun q hq=>ak _ (hps q hq)) (fun _ h=>h) H Z⟩
section
/-- an act that the laws play -/
structure rN (np nr:Nat) (a:Act):Prop where
 kind:1<=a.kind/\a.kind<=20/\a.kind≠17
 name:a.kind=1∨a.kind=16∨a.kind=18∨a.kind=19∨a.kind=20->bO a.name=true
 part:0<=a.part/\a.part<np
 n:0<=a.n/\a.n<=1000
 rep:8<=a.kind->a.kind<=15->a.n<nr
 fin:a.kind=5->a.n<=1
 poll:a.kind=19->1<=a.n/\a.n<=20
 m:0<=a.m/\a.m<=1000
 text:a.text.size<=40
 lost:0<=a.lost/\a.lost<=2
def xx (w:Wa) (a:Act):Wa×An:=
 if a.kind=1 then pi w a else if a.kind=2 then la w a else if a.kind=3∨a.kind=4 then m9 w a (decide (a.kind=4))else if a.kind=5 then jZ w a else
 if a.kind=6 then om w a else if a.kind=7 then yv w a else if a.kind<=15 then vo w a else BI w a
inductive EA (w:Wa) (a:Act):Wa->An->Prop
 |poll (x:An):a.kind=19->qW w a x->EA w a w x
 |other:a.kind≠19->EA w a (xx w a).1 (xx w a).2
def J5 (p:gu):Prop:= ∀ (i:Nat) (x:RA),p.reps[i]? =some x->Gj x.es
theorem J5.set {p:gu} (h:J5 p) {r:Nat} {x':RA} (hx:Gj x'.es):J5 {p with reps:=p.reps.set r x'}:=fun i y hy=>by
 rcases eV hy with⟨_,rfl⟩|⟨_,hy⟩
 exact hx
 exact h i y hy
theorem J5.adv {p:gu} (h:J5 p):J5 (nV p):=fun i y hy=>by
 obtain⟨z,hz,he,-,-⟩:=Ev hy
 rw[he];exact h i z hz
def Gt (K:List cN) (m n:Nat) (few:Int) (p:gu):Prop:=Gd (fun _=>True) K m n few p/\J5 p
theorem G2 {K:List cN} {p:gu} (h:zg K p) {i j:Nat} {x y:RA} (hx:p.reps[i]? =some x) (hy:p.reps[j]? =some y):x.es.take (eg x.es y.es)=y.es.take (eg x.es y.es):=by
 cases hc:eg x.es y.es with
 |zero=>simp
 |succ c=>
  obtain⟨e,f,h1,h2,h3⟩:=vV (a:=x.es) (b:=y.es) (k:=c) I
  exact h.lm i j x y c e f hx hy h1 h2 h3
theorem Jw {K:List cN} {p:gu} {r:Nat} (hp:p.ok) (hi:zg K p) (h:J5 p) (he:(iY p r).2.2=0):J5 (iY p r).1:=by
 obtain⟨x,y,l,hx,hl,hne,hu,hy⟩:=CY hp he
 rw[uO hx hl hne hu hy]
 have hm:=G2 hi hx hy
 intro i z hz
 rcases eV hz with⟨_,rfl⟩|⟨_,hz⟩
 unfold j0
 split
 rename_i z hz
 dsimp only
 rw[hm,<-fe hz];exact(h l y hy).take _
 dsimp only
 exact(h r x hx).take _
 rcases eV hz with⟨_,rfl⟩|⟨_,hz⟩
 exact h l y hy
 exact h i z hz
variable {K:List cN} {m n:Nat} {few:Int} {p:gu} {r:Nat}
theorem Of {e:cN} (h:Gt K m n few p) (hm:m<400) (he:(eF p e).2.2=0): ∃ K',K<+:K'/\Gt K' (m+1) n few (eF p e).1:=by
 obtain⟨K',h1,h2⟩:=Oh h.1 trivial hm he
 refine⟨K',h1,h2,?_⟩
 obtain⟨x,l,hl,hx,hg,hv,hS⟩:=HW he
 rcases hS with⟨-,hS,-⟩|⟨hv1,-,hS,-⟩
 rw[hS];exact h.2
 rw[hS];exact h.2.set (.snoc (h.2 l x hx) hv hv1)
theorem MO {a:Act} (h:Gt K m n few p) (he:(lS p a).2.2=0): ∃ K',K<+:K'/\Gt K' m n few (lS p a).1:=by
 unfold lS at he⊢
 split at he
 rename_i c;rw[if_pos c]
 obtain⟨K',h1,h2⟩:=LI h.1 he
 exact⟨K',h1,h2,Jw h.1.ok h.1.inv h.2 he⟩
 rename_i c;rw[if_neg c];clear c
 split at he
 rename_i c;rw[if_pos c]
 obtain⟨K',h1,h2⟩:=MD h.1 he
 refine⟨K',h1,h2,?_⟩
 obtain⟨x,hx,hu,hS⟩:=EL he
 dsimp only at hS⊢
 rw[hS]
 have:=h.2 _ x hx
 split
 exact J5.adv (fun i y hy=>by
  rcases eV hy with⟨_,rfl⟩|⟨_,hy⟩
  exact this
  exact h.2 i y hy)
 exact h.2.set this
 rename_i c;rw[if_neg c];clear c
 split at he
 rename_i c;rw[if_pos c]
 obtain⟨K',h1,h2⟩:=L0 h.1 he
 refine⟨K',h1,h2,?_⟩
 obtain⟨x,hx,hu,hS⟩:=C3 he
 dsimp only at hS⊢
 rw[hS]
 intro i y hy
 rcases eV hy with⟨_,rfl⟩|⟨_,hy⟩
 exact(h.2 _ x hx).take _
 exact h.2 i y hy
 rename_i c;rw[if_neg c];clear c
 split at he
 rename_i c;rw[if_pos c]
 obtain⟨K',h1,h2⟩:=MM h.1 he
 refine⟨K',h1,h2,?_⟩
 obtain⟨x,hx,hu,hS⟩:=E1 he
 dsimp only at hS⊢
 rw[hS]
 exact h.2.set (h.2 _ x hx)
 rename_i c;rw[if_neg c];clear c
 split at he
 rename_i c;rw[if_pos c]
 obtain⟨K',h1,h2⟩:=My h.1 he
 refine⟨K',h1,h2,?_⟩
 obtain⟨x,hx,hu,-,hS⟩:=EC he
 dsimp only at hS⊢
 rw[hS]
 intro i y hy
 rcases eV hy with⟨_,rfl⟩|⟨_,hy⟩
 exact .nil
 exact h.2 i y hy
 rename_i c;rw[if_neg c];clear c
 split at he
 rename_i c;rw[if_pos c]
 obtain⟨K',h1,h2⟩:=LT h.1 he
 refine⟨K',h1,h2,?_⟩
 obtain⟨x,hx,-,-,-,-,hS⟩:=C1 h.1.ok.isrl he
 dsimp only at hS⊢
 rw[hS]
 exact J5.adv fun i y hy=>h.2 i y hy
 rename_i c;rw[if_neg c];clear c
 split at he
 rename_i c;rw[if_pos c]
 obtain⟨K',h1,h2⟩:=IR h.1 he
 refine⟨K',h1,h2,?_⟩
 obtain⟨-,-,hS⟩:=zR he
 dsimp only at hS⊢
 rw[hS]
 exact J5.adv fun i y hy=>h.2 i y hy
 rename_i c;rw[if_neg c]
 obtain⟨K',h1,h2⟩:=Jx h.1 he
 refine⟨K',h1,h2,?_⟩
 obtain⟨x,-,-,-,-,-,hS⟩:=AU he
 dsimp only at hS⊢
 rw[hS]
 exact fun i y hy=>h.2 i y hy
structure Mq (np nr:Nat) (few:Int) (k:Nat) (K:Nat->List cN) (ps:List gu):Prop where
 len:ps.length=np
 gt: ∀ (n:Nat) (p:gu),ps[n]? =some p->Gt (K n) k nr few p
theorem Gt.mono (h:Gt K m n few p) {m':Nat} (hm:m<=m'):Gt K m' n few p:=⟨h.1.mono hm,h.2⟩
theorem Mq.more {np nr k k':Nat} {few:Int} {K:Nat->List cN} {ps:List gu} (h:Mq np nr few k K ps) (hk:k<=k'):Mq np nr few k' K ps:=⟨h.len,fun n p hp=>(h.gt n p hp).mono hk⟩
def Up (K K':Nat->List cN):Prop:= ∀ n,K n<+:K' n
theorem Up.refl (K:Nat->List cN):Up K K:=fun _=>fp _
theorem Up.trans {K K' K2:Nat->List cN} (h:Up K K') (h':Up K' K2):Up K K2:=fun n=>(h n).trans (h' n)
theorem Mq.set {np nr k:Nat} {few:Int} {K:Nat->List cN} {ps:List gu} (h:Mq np nr few k K ps) {n:Nat} {p':gu} (hg: ∃ K',K n<+:K'/\Gt K' k nr few p'): ∃ K',Up K K'/\Mq np nr few k K' (ps.set n p'):=by
 obtain⟨K1,h1,h2⟩:=hg
 refine⟨fun i=>if i=n then K1 else K i,fun i=> ?_,by rw[ab];exact h.len,fun i q hq=> ?_⟩
 dsimp only
 split
 rename_i hi;rw[hi];exact h1
 exact fp _
 rcases eV hq with⟨rfl,rfl⟩|⟨hi,hq⟩
 rw[if_pos Z];exact h2
 rw[if_neg hi];exact h.gt i q hq
structure J6 (np k:Nat) (s:Sn):Prop where
 nm:bO s.name=true
 sl:s.seqs.length=np
 ll:s.last.length=np
 sq: ∀ q∈s.seqs,0<=q/\q<=k
structure Ck (np k:Nat) (l:List Sn):Prop where
 each: ∀ s∈l,J6 np k s
 few:l.length<=k
theorem J6.more {np k k':Nat} {s:Sn} (h:J6 np k s) (hk:k<=k'):J6 np k' s:=⟨h.nm,h.sl,h.ll,fun q hq=>by have:=h.sq q hq;omega⟩
theorem Ck.more {np k k':Nat} {l:List Sn} (h:Ck np k l) (hk:k<=k'):Ck np k' l:=⟨fun s hs=>(h.each s hs).more hk,aS h.few hk⟩
theorem Ck.set {np k i:Nat} {l:List Sn} {s:Sn} (h:Ck np k l) (hs:J6 np k s):Ck np k (l.set i s):=⟨fun x hx=>by
 rcases bH hx with hx|rfl
 exact h.each x hx
 exact hs,by rw[ab];exact h.few⟩
structure WI (np nr:Nat) (few wt:Int) (k:Nat) (K:Nat->List cN) (w:Wa):Prop where
 ps:Mq np nr few k K w.ps
 co:oS k w.co
 gr:qZ (fun _=>True) wt np k w.gr
 sns:Ck np k w.sns
theorem WI.more {np nr k k':Nat} {few wt:Int} {K:Nat->List cN} {w:Wa} (h:WI np nr few wt k K w) (hk:k<=k'):WI np nr few wt k' K w:=⟨h.ps.more hk,h.co.more hk,h.gr.more hk,h.sns.more hk⟩
theorem Ea {l:List Sn} {s:ByteArray} {i:Nat} {x:Sn} (h:((fh l s).bind fun i=>l[i]?.map fun s=>(i,s))=some (i,x)):l[i]? =some x/\x.name=s:=by
 cases hf:fh l s with
 |none=>rw[hf]at h;cases h
 |some j=>
  rw[hf]at h
  obtain⟨hl,h1,-⟩:=bh.1 hf
  simp only[fT,ah hl,eU,lD,Prod.mk.injEq]at h
  obtain⟨rfl,rfl⟩:=h
  exact⟨ah hl,by simpa using h1⟩
end
abbrev Qx:ByteArray:=⟨#[100,101,101]⟩
def wt2 (k:Nat):Co:=⟨0,2,k,[⟨Qx,1,0,2,[1],0,0,none,0⟩],none,0⟩
section
variable {np nr k:Nat} {few wt:Int} {K:Nat->List cN} {w:Wa} {a:Act}
theorem M6 {s:ByteArray} (h:bO s=true) (pid ver:Int) (np k:Nat):J6 np k (vp s pid ver np):=⟨h,by simp[vp],by simp[vp],fun q hq=>by
 have:q=0:=by
  unfold vp at hq
  exact fF hq
 omega⟩
theorem MR {l:List Sn} {s:Sn} (h:Ck np k l) (hs:J6 np (k+1) s):Ck np (k+1) (E2 l s):=by
 unfold E2
 split
 refine⟨fun x hx=> ?_,by have:=h.few;simp;omega⟩
 rcases ar.1 hx with hx|hx
 exact(h.each x hx).more (bE k)
 rw[aq.1 hx];exact hs
 exact(h.more (bE k)).set hs
theorem oU (h:WI np nr few wt k K w) (e:Int): ∃ K',Up K K'/\WI np nr few wt (k+1) K' (me w e).1:=⟨K,Up.refl K,h.more (bE k)⟩
theorem Nl (h:WI np nr few wt k K w) (hk:k<400) (hn:bO a.name=true): ∃ K',Up K K'/\WI np nr few wt (k+1) K' (pi w a).1:=by
 unfold pi
 split
 rename_i h0
 exact⟨K,Up.refl K,h.ps.more (bE k),Ij h.co I hn h0,h.gr.more (bE k),MR h.sns (by rw[h.ps.len];exact M6 hn ..)⟩
 exact oU h _
theorem Ma (h:WI np nr few wt k K w): ∃ K',Up K K'/\WI np nr few wt (k+1) K' (la w a).1:=by
 unfold la
 split
 exact oU h _
 rename_i i s hf
 split
 exact oU h _
 have hs:=h.sns.each s (ae (Ea hf).1)
 exact⟨K,Up.refl K,h.ps.more (bE k),h.co.more (bE k),h.gr.more (bE k),(h.sns.set (s:={s with inn:=true}) ⟨hs.nm,hs.sl,hs.ll,hs.sq⟩).more (bE k)⟩
theorem KG (h:Mq np nr few k K w.ps) (hk:k<400) (n:Nat) (x:cN):(∃ K',Up K K'/\Mq np nr few (k+1) K' (uW w n x).1.ps)/\(uW w n x).1.co=w.co/\(uW w n x).1.gr=w.gr/\(uW w n x).1.sns=w.sns:=by
 unfold uW
 split
 exact⟨⟨K,Up.refl K,h.more (bE k)⟩,rfl,rfl,rfl⟩
 rename_i p hp
 split
 rename_i h0
 exact⟨(h.more (bE k)).set (Of (h.gt n p hp) hk h0),rfl,rfl,rfl⟩
 exact⟨⟨K,Up.refl K,h.more (bE k)⟩,rfl,rfl,rfl⟩
theorem JJ (h:Mq np nr few k K w.ps) (hc:oS k w.co) (hk:k<400) (s:Sn) {n:Nat} (hn:n<4):(∃ K',Up K K'/\Mq np nr few (k+1) K' (eo w s n).1.ps)/\oS (k+1) (eo w s n).1.co/\(eo w s n).1.gr=w.gr/\(eo w s n).1.sns=w.sns:=by
 unfold eo
 split
 exact⟨⟨K,Up.refl K,h.more (bE k)⟩,hc.more (bE k),rfl,rfl⟩
 rename_i x hx
 split
 rename_i h0
 obtain⟨h1,h2,h3,h4⟩:=KG (w:={w with co:=(se w s n x).1}) h hk n x
 refine⟨h1,?_,h3,h4⟩
 rw[h2]
 show oS (k+1) (se w s n x).1
 unfold se at h0⊢
 split
 rename_i ht
 rw[if_pos ht]at h0
 exact Iy hc I I h0
 exact hc.more (bE k)
 exact⟨⟨K,Up.refl K,h.more (bE k)⟩,hc.more (bE k),rfl,rfl⟩
theorem K5 {s:Sn} (h:J6 np k s) (n:Nat) (t:ByteArray):J6 np (k+1) (p7 s n t):=⟨h.nm,by unfold p7;simp[h.sl],by unfold p7;simp[h.ll],fun q hq=>by
 rcases bH hq with hq|rfl
 have:=h.sq q hq;omega
 by_cases hn:n<s.seqs.length
 have:=h.sq (s.seqs.getD n 0) (by rw[bZ,ah hn];exact vK hn);omega
 have:s.seqs.getD n 0=0:=by rw[bZ,cJ I];rfl
 omega⟩
theorem MK (h:WI np nr few wt k K w) (hk:k<400) (hp:0<=a.part/\a.part<np) (h4:np<=4) (again:Bool): ∃ K',Up K K'/\WI np nr few wt (k+1) K' (m9 w a again).1:=by
 unfold m9
 split
 exact oU h _
 rename_i i s hf
 split
 exact oU h _
 have hs:=h.sns.each s (ae (Ea hf).1)
 have hs1:J6 np (k+1) (if again then s else p7 s a.part.toNat a.text):=by
  split
  exact hs.more (bE k)
  exact K5 hs _ _
 generalize (if again then s else p7 s a.part.toNat a.text)=s1 at hs1
 have hl:Ck np (k+1) (w.sns.set i s1):=(h.sns.more (bE k)).set hs1
 dsimp only
 split
 exact⟨K,Up.refl K,h.ps.more (bE k),h.co.more (bE k),h.gr.more (bE k),hl⟩
 obtain⟨⟨K',h1,h2⟩,h3,h5,h6⟩:=JJ (w:={w with sns:=w.sns.set i s1}) h.ps h.co hk s1 (n:=a.part.toNat) I
 exact⟨K',h1,h2,h3,by rw[h5];exact h.gr.more (bE k),by rw[h6];exact hl⟩
theorem LV {s:Sn} (h:J6 np k s):J6 np k (wg s):=⟨h.nm,h.sl,by unfold wg;simp[h.ll],h.sq⟩
theorem Jv (h:WI np nr few wt k K w): ∃ K',Up K K'/\WI np nr few wt (k+1) K' (jZ w a).1:=by
 unfold jZ
 split
 exact oU h _
 rename_i i s hf
 split
 exact oU h _
 split
 exact oU h _
 have hs:=h.sns.each s (ae (Ea hf).1)
 split
 rename_i h0
 refine⟨K,Up.refl K,h.ps.more (bE k),Ip h.co h0,h.gr.more (bE k),?_⟩
 dsimp only
 split
 exact(h.sns.set (LV hs)).more (bE k)
 exact h.sns.more (bE k)
 exact⟨K,Up.refl K,h.more (bE k)⟩
theorem Na (h:WI np nr few wt k K w) (hk:k<400): ∃ K',Up K K'/\WI np nr few wt (k+1) K' (om w a).1:=by
 unfold om
 split
 exact oU h _
 rename_i t ht
 obtain⟨⟨i,hf⟩,h34,hp,h0,h4⟩:=CJ h.co.ok ht
 obtain⟨⟨K',h1,h2⟩,h3,h5,h6⟩:=KG h.ps hk (t.parts.headD 0).toNat (db t)
 split
 exact⟨K',h1,h2,F4 h.co (Hu hf h34 hp),by rw[h5];exact h.gr.more (bE k),by rw[h6];exact h.sns.more (bE k)⟩
 exact⟨K',h1,h2,by rw[h3];exact h.co.more (bE k),by rw[h5];exact h.gr.more (bE k),by rw[h6];exact h.sns.more (bE k)⟩
theorem MB (h:WI np nr few wt k K w) (hk:k<400) (h4:np<=4) (hn:0<=a.n/\a.n<=1000): ∃ K',Up K K'/\WI np nr few wt (k+1) K' (yv w a).1:=by
 unfold yv
 exact⟨K,Up.refl K,h.ps.more (bE k),EK h.co I hn.1 (by unfold jg;rw[if_neg I]),by dsimp only;rw[h.ps.len];exact h.gr.tick h4 I hn.1 hn.2,h.sns.more (bE k)⟩
theorem MN (h:WI np nr few wt k K w): ∃ K',Up K K'/\WI np nr few wt (k+1) K' (vo w a).1:=by
 unfold vo
 split
 exact oU h _
 rename_i p hp
 split
 rename_i h0
 obtain⟨K',h1,h2⟩:=h.ps.set (MO (h.ps.gt _ p hp) h0)
 exact⟨K',h1,h2.more (bE k),h.co.more (bE k),h.gr.more (bE k),h.sns.more (bE k)⟩
 exact oU h _
theorem Oq (h:WI np nr few wt k K w) (hk:k<400) (h4:np<=4) (hn:a.kind=16->bO a.name=true) (hm:0<=a.m): ∃ K',Up K K'/\WI np nr few wt (k+1) K' (BI w a).1:=by
 unfold BI
 split
 rename_i h0
 refine⟨K,Up.refl K,h.ps.more (bE k),h.co.more (bE k),?_,h.sns.more (bE k)⟩
 show qZ _ wt np (k+1) (G1 w a).1
 unfold G1 at h0⊢
 rw[h.ps.len]at h0⊢
 split
 rename_i c
 rw[if_pos c]at h0
 exact h.gr.join h4 I (hn c) trivial h0
 rename_i c;rw[if_neg c]at h0
 split
 rename_i c2
 rw[if_pos c2]at h0
 exact h.gr.beat h0
 rename_i c2
 rw[if_neg c2]at h0
 exact h.gr.store hm h0
 exact oU h _
theorem OQ (h:WI np nr few wt k K w) (hk:k<400) (h4:np<=4) (g:rN np nr a) {w':Wa} {x:An} (hA:EA w a w' x): ∃ K',Up K K'/\WI np nr few wt (k+1) K' w':=by
 cases hA with
 |poll x h19 hp=>exact⟨K,Up.refl K,h.more (bE k)⟩
 |other h19=>
  unfold xx
  split
  rename_i c;exact Nl h hk (g.name (.inl c))
  split
  exact Ma h
  split
  exact MK h hk g.part h4 _
  split
  exact Jv h
  split
  exact Na h hk
  split
  exact MB h hk h4 g.n
  split
  exact MN h
  exact Oq h hk h4 (fun c=>g.name (.inr (.inl c))) g.m.1
def re (np nr:Nat) (few wt:Int):Wa:=⟨au np (nw nr few.toNat),⟨0,1,wt,[],none,0⟩,⟨0,wt,0,[],none,0,[],none,0⟩,[]⟩
theorem Id {few:Nat} (n1:1<=nr) (n5:nr<=5) (f1:1<=few) (f2:few<=nr) (w1:1<=wt) (w2:wt<=1000):WI np nr few wt 0 (fun _=>[]) (re np nr few wt):=by
 refine⟨⟨by simp[re],fun n p hp=> ?_⟩,⟨gN.2 ⟨⟨(by decide:iQ 0=true),by simp[re],by simp[re],w1,w2,by simp[re]⟩,by simp[re],by simp[re,vM]⟩,by simp[re],by simp[re],by simp[re]⟩,M7 _ np w1 w2,⟨by simp[re],by simp[re]⟩⟩
 have hpe:p=nw nr few:=by
  unfold re at hp
  simp only[fV]at hp
  split at hp
  cases hp;simp
  cases hp
 rw[hpe]
 refine⟨DB n1 n5 f1 f2,?_⟩
 intro i x hx
 unfold nw at hx
 simp only[fV]at hx
 split at hx
 cases hx;exact .nil
 cases hx
end
section
theorem IZ {es:List cN} {n st a most b b':Nat} {out out':List ByteArray} (h:Br es n st a most out b) (h':Br es n st a most out' b'):out=out'/\b=b':=by
 obtain⟨h1,h2,h3,h4,h5,h6⟩:=h
 obtain⟨g1,g2,g3,g4,g5,g6⟩:=h'
 have hb:b=b':=by
  rcases Nat.lt_trichotomy b b' with hlt|he|hlt
  have:=g6 b h1 hlt
  rw[<-h3]at this
  omega
  exact he
  have:=h6 b' g1 hlt
  rw[<-g3]at this
  omega
 subst hb
 exact⟨h3.trans g3.symm,rfl⟩
theorem I0 {p:gu} {a most:Nat} {x y:An} (h:Da p a most x) (h':Da p a most y):x=y:=by
 cases h with
 |none h1=>
  cases h' with
  |none=>rfl
  |range l r g1=>omega
  |ok l r st out b g1=>omega
 |range l r h1 h2 h3=>
  cases h' with
  |none g1=>omega
  |range=>rfl
  |ok l' r' st out b g1 g2 g3=>
   have:l'=l:=by omega
   subst this
   rw[h2]at g2;cases g2;omega
 |ok l r st out b h1 h2 h3 h4 h5=>
  cases h' with
  |none g1=>omega
  |range l' r' g1 g2 g3=>
   have:l'=l:=by omega
   subst this
   rw[h2]at g2;cases g2;omega
  |ok l' r' st' out' b' g1 g2 g3 g4 g5=>
   have:l'=l:=by omega
   subst this
   rw[h2]at g2;cases g2
   have:=Ha h4 g4
   subst this
   obtain⟨rfl,rfl⟩:=IZ h5 g5
   rfl
theorem I4 {w:Wa} {a:Act} {x y:An} (h:qW w a x) (h':qW w a y):x=y:=by
 cases h with
 |no h1=>
  cases h' with
  |no=>rfl
  |yes p x g1=>exact absurd g1 h1
 |yes p x h1 h2 h3=>
  cases h' with
  |no g1=>exact absurd h1 g1
  |yes p' y g1 g2 g3=>
   rw[h2]at g2;cases g2
   exact I0 h3 g3
theorem Mo {w:Wa} {a:Act} {w1 w2:Wa} {x y:An} (h:EA w a w1 x) (h':EA w a w2 y):w1=w2/\x=y:=by
 cases h with
 |poll x h1 h2=>
  cases h' with
  |poll y g1 g2=>exact⟨rfl,I4 h2 g2⟩
  |other g1=>exact absurd h1 g1
 |other h1=>
  cases h' with
  |poll y g1 g2=>exact absurd g1 h1
  |other g1=>exact⟨rfl,rfl⟩
inductive mV:Wa->List Act->List An->Wa->Prop
 |nil (w:Wa):mV w [] [] w
 |cons {w w1 w2:Wa} {a:Act} {x:An} {l:List Act} {xs:List An}:EA w a w1 x->mV w1 l xs w2->mV w (a::l) (x::xs) w2
theorem mV.app {w w1 w2:Wa} {l m:List Act} {xs ys:List An} (h:mV w l xs w1) (h':mV w1 m ys w2):mV w (l++m) (xs++ys) w2:=by
 induction h with
 |nil=>exact h'
 |cons h1 _ ih=>exact .cons h1 (ih h')
theorem mV.snoc {w w1 w2:Wa} {l:List Act} {a:Act} {xs:List An} {x:An} (h:mV w l xs w1) (h':EA w1 a w2 x):mV w (l++[a]) (xs++[x]) w2:=h.app (.cons h' (.nil _))
theorem mV.len {w w1:Wa} {l:List Act} {xs:List An} (h:mV w l xs w1):xs.length=l.length:=by
 induction h with
 |nil=>rfl
 |cons _ _ ih=>simp[ih]
theorem mV.det {w w1 w2:Wa} {l:List Act} {xs ys:List An} (h:mV w l xs w1) (h':mV w l ys w2):xs=ys/\w1=w2:=by
 induction h generalizing ys w2 with
 |nil=>cases h';exact⟨rfl,rfl⟩
 |cons h1 _ ih=>
  cases h' with
  |cons g1 g2=>
   obtain⟨rfl,rfl⟩:=Mo h1 g1
   obtain⟨rfl,rfl⟩:=ih g2
   exact⟨rfl,rfl⟩
theorem mV.split {w w2:Wa} {l m:List Act} {xs:List An} (h:mV w (l++m) xs w2): ∃ ys zs w1,xs=ys++zs/\mV w l ys w1/\mV w1 m zs w2:=by
 induction l generalizing w xs with
 |nil=>exact⟨[],xs,w,rfl,.nil w,h⟩
 |cons a l ih=>
  cases h with
  |cons h1 h2=>
   obtain⟨ys,zs,w1,rfl,h3,h4⟩:=ih h2
   exact⟨_::ys,zs,w1,rfl,.cons h1 h3,h4⟩
theorem mV.later {w w1 w2:Wa} {l m:List Act} {xs ys:List An} (h:mV w l xs w1) (h':mV w (l++m) ys w2): ∃ zs,ys=xs++zs:=by
 obtain⟨us,zs,w3,rfl,h1,h2⟩:=h'.split
 obtain⟨rfl,-⟩:=h.det h1
 exact⟨zs,rfl⟩
variable {np nr k:Nat} {few wt:Int} {K:Nat->List cN} {w:Wa}
theorem GI {w w1:Wa} {l:List Act} {xs:List An} (h:mV w l xs w1): ∀ {k:Nat} {K:Nat->List cN},WI np nr few wt k K w->k+l.length<=400->np<=4->(∀ a∈l,rN np nr a)-> ∃ K',Up K K'/\WI np nr few wt (k+l.length) K' w1:=by
 induction h with
 |nil=>intro k K hw _ _ _;exact⟨K,Up.refl K,hw⟩
 |@cons w wa wb a x l xs h1 _ ih=>
  intro k K hw hk h4 hg
  simp only[cE]at hk
  obtain⟨K1,u1,i1⟩:=OQ hw I h4 (hg a (aB ..)) h1
  obtain⟨K2,u2,i2⟩:=ih i1 I h4 fun b hb=>hg b (ak _ hb)
  exact⟨K2,u1.trans u2,by simpa [lf,sm 1]using i2⟩
theorem HQ (h:WI np nr few wt k K w):(∀ p∈w.ps,p.ok)/\w.ps.length=np/\gG w.co=true/\lp w.gr=true:=
 ⟨fun p hp=>by obtain⟨n,hn⟩:=aU.1 hp;exact(h.ps.gt n p hn).1.ok,h.ps.len,h.co.ok,h.gr.ok⟩
theorem Lk {K K':Nat->List cN} {w w2:Wa} {k k':Nat} (h:WI np nr few wt k K w) (h2:WI np nr few wt k' K' w2) (u:Up K K') {n l i:Nat} {p q:gu} {r y:RA} (hp:w.ps[n]? =some p) (hq:w2.ps[n]? =some q) (hl:q.leader=l) (hy:q.reps[l]? =some y) (hr:p.reps[i]? =some r):r.high.toNat<=r.es.length/\r.high.toNat<=y.es.length/\r.es.take r.high.toNat=y.es.take r.high.toNat:=by
 obtain⟨g1,-⟩:=h.ps.gt n p hp
 obtain⟨g2,-⟩:=h2.ps.gt n q hq
 obtain⟨a1,a2⟩:=g1.inv.hi i r hr
 obtain⟨b1,b2⟩:=g2.inv.keep l y hy (g2.ok.lead l y hl hy).1
 have hk:=g1.ok.at_ hr
 have hs:=(g2.ok.at_ hy).gl.sle
 obtain⟨t,ht⟩:=u n
 have hle:=(u n).length_le
 refine⟨by have:=hk.high1;have:=hk.high0;omega,by omega,?_⟩
 rw[a2]
 have:(K n).take r.high.toNat=(K' n).take r.high.toNat:=by rw[<-ht,fA a1]
 rw[this,<-b2,di,bv I]
end
section
/-- what an act yields -/
def Bt (b:Bk) (a:Act) (w0:World) (bb:Nat) (K:List (Nat×Obj)) (F:List cr) (v:Value) (w2:World):Prop:=
 ∃ (b':Bk) (x:An) (A:Option Addr) (c lo hi:Nat),EA b.a a b'.a x/\v=.agg #[J x.code,J x.n,.slice A x.texts.length c]/\x.texts.length<=c/\xA w0 w2 bb b' K (dA nk lo hi A x.texts::F)
theorem ur {b:Bk} {a:Act} {w0 w:World} {bb:Nat} {K:List (Nat×Obj)} {F:List cr} {f:FuncId} {args:List Value} {s:Wa×An} (h19:a.kind≠19) (hs:xx b.a a=s) (ht:s.2.texts=[]) (h:dd aa f args w fun v w2=> ∃ b':Bk,oT s.2 v w2/\b'.a=s.1/\xA w0 w2 bb b' K F):dd aa f args w (Bt b a w0 bb K F):=
 h.mono fun v w2 ⟨b',⟨A,c,h1,h2,_⟩,h4,h5⟩=>⟨b',s.2,A,c,0,0,by rw[h4,<-hs];exact .other h19,h1,h2,by rw[ht];exact h5.nil A⟩
variable {w0 w:World} {bb gP:Nat} {b:Bk} {uP:Array Value} {Ls Lo K:List (Nat×Obj)} {F:List cr} {np nr k:Nat} {few wt:Int} {M:Nat->List cN} {a:Act}
theorem Bw.facts (_:Bw w0 w bb b gP uP Ls Lo K F) (hw:WI np nr few wt k M b.a) (hk:k<400):b.ps.length=np/\b.sns.length<=1000000/\oS k b.co/\qZ (fun _=>True) wt np k b.gr/\ ∀ q∈b.ps,q.p.a.ok/\q.p.reps.length=nr/\ ∀ (l:Nat) (y:eR),q.p.leader=l->q.p.reps[l]? =some y->y.es.length<400:=by
 have h1:=hw.ps.len
 have h2:=hw.sns.few
 rw[show b.a.ps=b.ps.map fun q=>q.p.a from rfl,bw]at h1
 rw[show b.a.sns=b.sns.map Sn.a from rfl,bw]at h2
 refine⟨h1,by omega,oS.of_a hw.co,qZ.of_a hw.gr,fun q hq=> ?_⟩
 obtain⟨n,hn⟩:=aU.1 hq
 have hg:=(hw.ps.gt n q.p.a (by rw[show b.a.ps=b.ps.map fun q=>q.p.a from rfl,aJ,hn];rfl)).1
 refine⟨hg.ok,by have:=hg.len;rwa[show q.p.a.reps=q.p.reps.map eR.a from rfl,bw]at this,fun l y _ hy=> ?_⟩
 have:=hg.small l y.a (by rw[show q.p.a.reps=q.p.reps.map eR.a from rfl,aJ,hy];rfl)
 have:y.es.length<=k:=this
 omega
theorem Bw.sender (hw:WI np nr few wt k M b.a) {i:Nat} {x:Sn} (hx:b.sns[i]? =some x):bO x.name=true/\x.seqs.length=np/\x.last.length=np/\ ∀ q∈x.seqs,0<=q/\q<=k:=by
 have h:=hw.sns.each x.a (bI (f:=Sn.a) (ae hx))
 exact⟨h.nm,h.sl,h.ll,h.sq⟩
theorem yI (w:Wa) (a:Act):(pi w a).2.texts=[]:=by unfold pi;split<;>rfl
theorem xr (w:Wa) (a:Act):(la w a).2.texts=[]:=by
 unfold la
 split
 rfl
 split<;>rfl
theorem yx (w:Wa) (a:Act) (ag:Bool):(m9 w a ag).2.texts=[]:=by
 unfold m9
 split
 rfl
 split
 rfl
 dsimp only
 split
 rfl
 exact lJ _ (ku ..)
theorem vz (w:Wa) (a:Act):(jZ w a).2.texts=[]:=by
 unfold jZ
 split
 rfl
 split
 rfl
 split
 rfl
 split<;>exact lJ _ Z
theorem yE (w:Wa) (a:Act):(om w a).2.texts=[]:=by
 unfold om
 split
 rfl
 split<;>exact zW ..
theorem yA (w:Wa) (a:Act):(vo w a).2.texts=[]:=by
 unfold vo
 split
 rfl
 split<;>rfl
theorem Ad (w:Wa) (a:Act):(BI w a).2.texts=[]:=by unfold BI;split<;>rfl
theorem pU (a:Act) (w:Wa):(a.kind=1->xx w a=pi w a)/\(a.kind=2->xx w a=la w a)/\(a.kind=3∨a.kind=4->xx w a=m9 w a (decide (a.kind=4)))/\(a.kind=5->xx w a=jZ w a)/\(a.kind=6->xx w a=om w a)/\(a.kind=7->xx w a=yv w a)/\(8<=a.kind/\a.kind<=15->xx w a=vo w a)/\(16<=a.kind->xx w a=BI w a):=by
 unfold xx
 refine⟨fun h=> ?_,fun h=> ?_,fun h=> ?_,fun h=> ?_,fun h=> ?_,fun h=> ?_,fun h=> ?_,fun h=> ?_⟩<;>(repeat (first|rw[if_pos I]|rw[if_neg I]))
theorem Ow (A B C X K:List (Nat×Obj)):(A++(B++(C++(X++K)))).Perm (X++(A++(B++(C++K)))):=by
 rw[show A++(B++(C++(X++K)))=(A++B++C)++(X++K) by simp,show A++(B++(C++K))=(A++B++C)++K by simp]
 exact fY (A++B++C) X K
theorem Bw.into {w2:World} (B:Bw w0 w bb b gP uP Ls Lo K F) (X:List (Nat×Obj)) (H:Hp w0 w2 (X++((bb,.cells b.c.toArray bM (0,0))::(gP,.cells uP bC (0,0))::(Ls++(Lo++K)))) F):Bw w0 w2 bb b gP uP Ls Lo (X++K) F:=
 ⟨B.pA,B.row,B.sn,B.own,B.co,B.gr,B.ps,H.perm (Ow [(bb,_),(gP,_)] Ls Lo X K)⟩
theorem Bw.out {X:List (Nat×Obj)} (B:Bw w0 w bb b gP uP Ls Lo (X++K) F):Hp w0 w (X++((bb,.cells b.c.toArray bM (0,0))::(gP,.cells uP bC (0,0))::(Ls++(Lo++K)))) F:=B.H.perm (Ow [(bb,_),(gP,_)] Ls Lo X K).symm
theorem Bw.at_ {w2:World} {K1:List (Nat×Obj)} (B:Bw w0 w bb b gP uP Ls Lo K1 F) (X:List (Nat×Obj)) (H:Hp w0 w2 (X++((bb,.cells b.c.toArray bM (0,0))::(gP,.cells uP bC (0,0))::(Ls++(Lo++K)))) F):Bw w0 w2 bb b gP uP Ls Lo K F:=
 ⟨B.pA,B.row,B.sn,B.own,B.co,B.gr,B.ps,H.forget (ci X _) (fun _ h=>h)⟩
theorem zq {l:List Sn} {s:ByteArray} {i:Nat} (h:fh l s=some i): ∃ x,l[i]? =some x:=by
 obtain⟨x,h1,-⟩:=GB h
 exact⟨x,h1⟩
theorem Ll (B:Bw w0 w bb b gP uP Ls Lo K F) (hw:WI np nr few wt k M b.a) (hk:k<400) (h4:np<=4) (g:rN np nr a) (h1:1<=np) (hkd:a.kind=1):dd aa kf [.pointer (Qd bb),a.v] w (Bt b a w0 bb K F):=by
 obtain⟨hln,hsl,hcb,hgi,hpk⟩:=B.facts hw hk
 refine ur I ((pU a b.a).1 hkd) (yI ..) ?_
 cases hix:fh b.sns a.name with
 |none=>exact Jo a B hsl (g.name (.inl hkd)) hcb I I I hix
 |some i=>
  obtain⟨x,hx⟩:=zq hix
  exact Jn a B hsl (g.name (.inl hkd)) hcb I I I hix hx
theorem JO (B:Bw w0 w bb b gP uP Ls Lo K F) (hw:WI np nr few wt k M b.a) (hk:k<400) (_:np<=4) (_:rN np nr a) (hkd:a.kind=2):dd aa jU [.pointer (Qd bb),a.v] w (Bt b a w0 bb K F):=by
 obtain⟨-,hsl,-⟩:=B.facts hw hk
 refine ur I ((pU a b.a).2.1 hkd) (xr ..) ?_
 cases hix:fh b.sns a.name with
 |none=>exact HA a B hsl hix
 |some i=>
  obtain⟨x,hx⟩:=zq hix
  exact Hz a B hsl hix hx
theorem EX (B:Bw w0 w bb b gP uP Ls Lo K F) (hw:WI np nr few wt k M b.a) (hk:k<400) (h4:np<=4) (g:rN np nr a) (hkd:a.kind=3∨a.kind=4):dd aa iR [.pointer (Qd bb),a.v,.bool (decide (a.kind=4))] w (Bt b a w0 bb K F):=by
 obtain⟨hln,hsl,hcb,-,hpk⟩:=B.facts hw hk
 refine ur I ((pU a b.a).2.2.1 hkd) (yx ..) ?_
 have hpn:=g.part
 cases hix:fh b.sns a.name with
 |none=>exact IV a B hsl (decide (a.kind=4)) hix
 |some i=>
  obtain⟨x,hx⟩:=zq hix
  obtain⟨s1,s2,s3,s4⟩:=Bw.sender hw hx
  have hpk2:=fun(q:Pq) hq=>(⟨(hpk q hq).1,(hpk q hq).2.2⟩:q.p.a.ok/\ ∀ (l:Nat) (y:eR),q.p.leader=(l:Int)->q.p.reps[l]? =some y->y.es.length<400)
  by_cases h4k:a.kind=4
  rw[decide_eq_true h4k]
  exact GF a B hsl hix hx I g.lost I I I s1 hcb hpk2
  rw[decide_eq_false h4k]
  exact Ky a B hsl hix hx I g.lost I I I s1 hcb hpk2 g.text (fun q hq=>by have:=s4 q hq;omega)
theorem AP (B:Bw w0 w bb b gP uP Ls Lo K F) (hw:WI np nr few wt k M b.a) (hk:k<400) (h4:np<=4) (g:rN np nr a) (hkd:a.kind=5):dd aa jA [.pointer (Qd bb),a.v] w (Bt b a w0 bb K F):=by
 obtain⟨-,hsl,hcb,-⟩:=B.facts hw hk
 refine ur I ((pU a b.a).2.2.2.1 hkd) (vz ..) ?_
 cases hix:fh b.sns a.name with
 |none=>exact FR a B hsl hix
 |some i=>
  obtain⟨x,hx⟩:=zq hix
  obtain⟨s1,-,s3,-⟩:=Bw.sender hw hx
  exact FQ a B hsl hix hx g.lost ⟨g.n.1,g.fin hkd⟩ I s1 hcb
theorem Fm (B:Bw w0 w bb b gP uP Ls Lo K F) (hw:WI np nr few wt k M b.a) (hk:k<400) (_:np<=4) (g:rN np nr a) (hkd:a.kind=6):dd aa ke [.pointer (Qd bb),a.v] w (Bt b a w0 bb K F):=by
 obtain⟨-,-,hcb,-,hpk⟩:=B.facts hw hk
 refine ur I ((pU a b.a).2.2.2.2.1 hkd) (yE ..) ?_
 have hpk2:=fun(q:Pq) hq=>(⟨(hpk q hq).1,(hpk q hq).2.2⟩:q.p.a.ok/\ ∀ (l:Nat) (y:eR),q.p.leader=(l:Int)->q.p.reps[l]? =some y->y.es.length<400)
 cases hne:g9 b.co.a.txs a.n.toNat with
 |none=>exact Jf a B hcb g.n hne
 |some t=>exact Je a B hcb g.n hpk2 hne
theorem EJ (B:Bw w0 w bb b gP uP Ls Lo K F) (hw:WI np nr few wt k M b.a) (hk:k<400) (h4:np<=4) (g:rN np nr a) (hkd:a.kind=7):dd aa ox [.pointer (Qd bb),a.v] w (Bt b a w0 bb K F):=by
 obtain⟨hln,-,hcb,hgi,-⟩:=B.facts hw hk
 refine ur I ((pU a b.a).2.2.2.2.2.1 hkd) Z ?_
 exact Ki a B hcb I g.n hgi I
theorem wH (B:Bw w0 w bb b gP uP Ls Lo K F) (hw:WI np nr few wt k M b.a) (hk:k<400) (_:np<=4) (g:rN np nr a) (hkd:8<=a.kind/\a.kind<=15):dd aa ln [.pointer (Qd bb),a.v] w (Bt b a w0 bb K F):=by
 obtain⟨hln,-,-,-,hpk⟩:=B.facts hw hk
 refine ur I ((pU a b.a).2.2.2.2.2.2.1 hkd) (yA ..) ?_
 have hpn:=g.part
 exact KB a B I ⟨g.n.1,fun q hq=>by have:=g.rep hkd.1 hkd.2;have:=(hpk q hq).2.1;omega⟩ g.m (fun q hq=>(hpk q hq).1)
theorem qL (B:Bw w0 w bb b gP uP Ls Lo K F) (hw:WI np nr few wt k M b.a) (hk:k<400) (h4:np<=4) (g:rN np nr a) (hkd:a.kind=16∨a.kind=18∨a.kind=20):dd aa lY [.pointer (Qd bb),a.v] w (Bt b a w0 bb K F):=by
 obtain⟨hln,-,-,hgi,-⟩:=B.facts hw hk
 refine ur I ((pU a b.a).2.2.2.2.2.2.2 I) (Ad ..) ?_
 exact M8 a B I I (g.name I) g.m hgi I
theorem og (B:Bw w0 w bb b gP uP Ls Lo K F) (hw:WI np nr few wt k M b.a) (hk:k<400) (_:np<=4) (g:rN np nr a) (hkd:a.kind=19):dd aa gB [.pointer (Qd bb),a.v] w (Bt b a w0 bb K F):=by
 obtain⟨hln,-,-,hgi,hpk⟩:=B.facts hw hk
 have hpn:=g.part
 have hnm:=g.name I
 have hpo:=fun q hq=>(hpk q hq).1
 have hq: ∃ q,b.ps[a.part.toNat]? =some q:=⟨_,ah I⟩
 obtain⟨q,hq⟩:=hq
 refine dd.mono (R:=fun v w2=> ∃ (x:An) (A:Option Addr) (c lo hi:Nat),qW b.a a x/\v=.agg #[J x.code,J x.n,.slice A x.texts.length c]/\x.texts.length<=c/\xA w0 w2 bb b K (dA nk lo hi A x.texts::F)) ?_ fun v w2 ⟨x,A,c,lo,hi,h1,h2,h3,h4⟩=>⟨b,x,A,c,lo,hi,.poll x hkd h1,h2,h3,h4⟩
 by_cases hw0:(eN b.gr.a a.name a.part).2=0
 have hqok:=(hpk q (ae hq)).1
 by_cases hl:q.p.leader<0
 exact I3 a B hnm I (g.poll hkd) hgi hpo hw0 (fun q' h=>by rw[hq]at h;cases h;exact hl)
 obtain⟨l,hl2⟩: ∃ l:Nat,q.p.leader=l:=⟨q.p.leader.toNat,by omega⟩
 have hld1:q.p.leader<((q.p.reps.map eR.a).length:Nat):=hqok.ld1
 rw[bw]at hld1
 obtain⟨y,hy⟩: ∃ y,q.p.reps[l]? =some y:=⟨_,ah I⟩
 have hld: ∀ q',b.ps[a.part.toNat]? =some q'->q'.p.leader=l/\q'.p.reps[l]? =some y:=fun q' h=>by rw[hq]at h;cases h;exact⟨hl2,hy⟩
 by_cases hle:(eN b.gr.a a.name a.part).1.toNat<=y.es.length
 exact MT a B hnm I (g.poll hkd) hgi hpo hw0 hld hle
 exact GP a B hnm I (g.poll hkd) hgi hpo hw0 hld I
 exact MU a B hnm I hgi hw0
end
theorem OR {w0 w:World} {bb gP:Nat} {b:Bk} {uP:Array Value} {Ls Lo K:List (Nat×Obj)} {F:List cr} {np nr k:Nat} {few wt:Int} {M:Nat->List cN} {a:Act} (B:Bw w0 w bb b gP uP Ls Lo K F) (hw:WI np nr few wt k M b.a) (hk:k<400) (h1:1<=np) (h4:np<=4) (g:rN np nr a):dd aa u6 [.pointer (Qd bb),a.v] w (Bt b a w0 bb K F):=by
 refine aF t9 Z Z ?_
 have hkd:=g.kind
 have H:=B.H
 show CW _ _ _ _ (args [.pointer (Qd bb),.agg #[J (a.kind),.string (a.name),J (a.part),J (a.n),J (a.m),.string (a.text),J (a.lost)]]) w
 refine W<|Zr<|fX H Z Z fun w1 b3 H=>ey H dt Z fun w2 b4 H=>U<|W<|W<|Zr<|G (Zf mN Z)<|G (Zd aj H 1 Z Z Z)<|U<|Zb<|W<|Zr ?_
 refine cU (bl Z Z) Z Z Z (fun h8=> ?_) (fun h8=> ?_)
 refine G (Wb Z)<|U<|ZT Z<|W<|Zr<|G (Yp Z)<|G (Zw dR H 1 Z Z Z)<|bW tB (Ll (B.into [(b4,_),(b3,_)] H) hw hk h4 g h1 h8) Z Z ?_
 rintro _ w3 ⟨b2,x2,A9,c9,lo9,hi9,hA9,rfl,hc9,gP9,uP9,Ls9,Lo9,F9,B9,hF9⟩
 replace H:=B9.out (X:=[(b4,_),(b3,_)])
 refine bk H 0 (#[J (x2.code),J (x2.n),.slice A9 x2.texts.length c9]) aQ Z Z Z Z Z N N fun w4 H=>U<|Zt ?_
 exact eO (cs0:= #[J (x2.code),J (x2.n),.slice A9 x2.texts.length c9]) Z aN Z (H.ent (i:=0) Z) Z ⟨b2,x2,A9,c9,lo9,hi9,hA9,rfl,hc9,gP9,uP9,Ls9,Lo9,F9,B9.at_ [(b4,_),(b3,_)] H,hF9⟩
 refine G (Wb Z)<|U<|ZF Z<|W<|Zr ?_
 refine cU (bl Z Z) Z Z Z (fun h13=> ?_) (fun h13=> ?_)
 refine G (Wb Z)<|U<|ZT Z<|W<|Zr<|G (Yp Z)<|G (Zw dR H 1 Z Z Z)<|bW s0 (JO (B.into [(b4,_),(b3,_)] H) hw hk h4 g h13) Z Z ?_
 rintro _ w5 ⟨b2,x2,A9,c9,lo9,hi9,hA9,rfl,hc9,gP9,uP9,Ls9,Lo9,F9,B9,hF9⟩
 replace H:=B9.out (X:=[(b4,_),(b3,_)])
 refine bk H 0 (#[J (x2.code),J (x2.n),.slice A9 x2.texts.length c9]) aQ Z Z Z Z Z N N fun w6 H=>U<|Zt ?_
 exact eO (cs0:= #[J (x2.code),J (x2.n),.slice A9 x2.texts.length c9]) Z aN Z (H.ent (i:=0) Z) Z ⟨b2,x2,A9,c9,lo9,hi9,hA9,rfl,hc9,gP9,uP9,Ls9,Lo9,F9,B9.at_ [(b4,_),(b3,_)] H,hF9⟩
 refine G (Wb Z)<|U<|ZF Z<|W<|W<|Zr ?_
 refine cU (bl Z Z) Z Z Z (fun h18=> ?_) (fun h18=> ?_)
 refine G (Wb Z)<|U ?_
 refine eD (τ:=Unit) [17,19] (fun _=>[(17,.bool (decide (a.kind=3∨a.kind=4)))]) (fun _ w'=>Hp w0 w' ((b4,.cells #[J (0),J (0),.slice none 0 0] ee (0,0))::(b3,.cells #[J (a.kind),.string (a.name),J (a.part),J (a.n),J (a.m),.string (a.text),J (a.lost)] fS (0,0))::(bb,.cells b.c.toArray bM (0,0))::(gP,.cells uP bC (0,0))::(Ls++(Lo++K))) F) ?_ ?_
 refine ZT Z<|Zk ?_
 exact⟨(),H,dK (congrArg Value.bool (decide_eq_true I)).symm,Qg⟩
 rintro _ ρ1 w7 H
 show CW _ _ _ _ (dB (gJ _ _ ρ1) [(17,.bool (decide (a.kind=3∨a.kind=4)))]) w7
 refine jq Z (fun hc17=> ?_) (fun hc17=> ?_)
 refine W<|Zr<|G (Yp Z)<|G (Zw dR H 1 Z Z Z)<|G (Zf mN Z)<|G (Zd aj H 1 Z Z Z)<|G (bl Z Z)<|bW ng (EX (B.into [(b4,_),(b3,_)] H) hw hk h4 g (of_decide_eq_true hc17)) Z Z ?_
 rintro _ w8 ⟨b2,x2,A9,c9,lo9,hi9,hA9,rfl,hc9,gP9,uP9,Ls9,Lo9,F9,B9,hF9⟩
 replace H:=B9.out (X:=[(b4,_),(b3,_)])
 refine bk H 0 (#[J (x2.code),J (x2.n),.slice A9 x2.texts.length c9]) aQ Z Z Z Z Z N N fun w9 H=>U<|Zt ?_
 exact eO (cs0:= #[J (x2.code),J (x2.n),.slice A9 x2.texts.length c9]) Z aN Z (H.ent (i:=0) Z) Z ⟨b2,x2,A9,c9,lo9,hi9,hA9,rfl,hc9,gP9,uP9,Ls9,Lo9,F9,B9.at_ [(b4,_),(b3,_)] H,hF9⟩
 refine W<|Zr ?_
 refine cU (bl Z Z) Z Z Z (fun h27=> ?_) (fun h27=> ?_)
 refine G (Wb Z)<|U<|ZT Z<|W<|Zr<|G (Yp Z)<|G (Zw dR H 1 Z Z Z)<|bW l8 (AP (B.into [(b4,_),(b3,_)] H) hw hk h4 g h27) Z Z ?_
 rintro _ w10 ⟨b2,x2,A9,c9,lo9,hi9,hA9,rfl,hc9,gP9,uP9,Ls9,Lo9,F9,B9,hF9⟩
 replace H:=B9.out (X:=[(b4,_),(b3,_)])
 refine bk H 0 (#[J (x2.code),J (x2.n),.slice A9 x2.texts.length c9]) aQ Z Z Z Z Z N N fun w11 H=>U<|Zt ?_
 exact eO (cs0:= #[J (x2.code),J (x2.n),.slice A9 x2.texts.length c9]) Z aN Z (H.ent (i:=0) Z) Z ⟨b2,x2,A9,c9,lo9,hi9,hA9,rfl,hc9,gP9,uP9,Ls9,Lo9,F9,B9.at_ [(b4,_),(b3,_)] H,hF9⟩
 refine G (Wb Z)<|U<|ZF Z<|W<|Zr ?_
 refine cU (bl Z Z) Z Z Z (fun h32=> ?_) (fun h32=> ?_)
 refine G (Wb Z)<|U<|ZT Z<|W<|Zr<|G (Yp Z)<|G (Zw dR H 1 Z Z Z)<|bW nh (Fm (B.into [(b4,_),(b3,_)] H) hw hk h4 g h32) Z Z ?_
 rintro _ w12 ⟨b2,x2,A9,c9,lo9,hi9,hA9,rfl,hc9,gP9,uP9,Ls9,Lo9,F9,B9,hF9⟩
 replace H:=B9.out (X:=[(b4,_),(b3,_)])
 refine bk H 0 (#[J (x2.code),J (x2.n),.slice A9 x2.texts.length c9]) aQ Z Z Z Z Z N N fun w13 H=>U<|Zt ?_
 exact eO (cs0:= #[J (x2.code),J (x2.n),.slice A9 x2.texts.length c9]) Z aN Z (H.ent (i:=0) Z) Z ⟨b2,x2,A9,c9,lo9,hi9,hA9,rfl,hc9,gP9,uP9,Ls9,Lo9,F9,B9.at_ [(b4,_),(b3,_)] H,hF9⟩
 refine G (Wb Z)<|U<|ZF Z<|W<|Zr ?_
 refine cU (bl Z Z) Z Z Z (fun h37=> ?_) (fun h37=> ?_)
 refine G (Wb Z)<|U<|ZT Z<|W<|Zr<|G (Yp Z)<|G (Zw dR H 1 Z Z Z)<|bW nf (EJ (B.into [(b4,_),(b3,_)] H) hw hk h4 g h37) Z Z ?_
 rintro _ w14 ⟨b2,x2,A9,c9,lo9,hi9,hA9,rfl,hc9,gP9,uP9,Ls9,Lo9,F9,B9,hF9⟩
 replace H:=B9.out (X:=[(b4,_),(b3,_)])
 refine bk H 0 (#[J (x2.code),J (x2.n),.slice A9 x2.texts.length c9]) aQ Z Z Z Z Z N N fun w15 H=>U<|Zt ?_
 exact eO (cs0:= #[J (x2.code),J (x2.n),.slice A9 x2.texts.length c9]) Z aN Z (H.ent (i:=0) Z) Z ⟨b2,x2,A9,c9,lo9,hi9,hA9,rfl,hc9,gP9,uP9,Ls9,Lo9,F9,B9.at_ [(b4,_),(b3,_)] H,hF9⟩
 refine G (Wb Z)<|U<|ZF Z<|W<|W<|Zr ?_
 refine cU (bl Z Z) Z Z Z (fun h42=> ?_) (fun h42=> ?_)
 refine G (Wb Z)<|U ?_
 refine eD (τ:=Unit) [41,43,44,45,46,47,48,49] (fun _=>[(41,.bool (decide (8<=a.kind/\a.kind<=15)))]) (fun _ w'=>Hp w0 w' ((b4,.cells #[J (0),J (0),.slice none 0 0] ee (0,0))::(b3,.cells #[J (a.kind),.string (a.name),J (a.part),J (a.n),J (a.m),.string (a.text),J (a.lost)] fS (0,0))::(bb,.cells b.c.toArray bM (0,0))::(gP,.cells uP bC (0,0))::(Ls++(Lo++K))) F) ?_ ?_
 refine ZT Z<|Zk ?_
 exact⟨(),H,dK (congrArg Value.bool (decide_eq_true I)).symm,Qg⟩
 rintro _ ρ1 w16 H
 show CW _ _ _ _ (dB (gJ _ _ ρ1) [(41,.bool (decide (8<=a.kind/\a.kind<=15)))]) w16
 refine jq Z (fun hc41=> ?_) (fun hc41=> ?_)
 refine W<|Zr<|G (Yp Z)<|G (Zw dR H 1 Z Z Z)<|bW fZ (wH (B.into [(b4,_),(b3,_)] H) hw hk h4 g (of_decide_eq_true hc41)) Z Z ?_
 rintro _ w17 ⟨b2,x2,A9,c9,lo9,hi9,hA9,rfl,hc9,gP9,uP9,Ls9,Lo9,F9,B9,hF9⟩
 replace H:=B9.out (X:=[(b4,_),(b3,_)])
 refine bk H 0 (#[J (x2.code),J (x2.n),.slice A9 x2.texts.length c9]) aQ Z Z Z Z Z N N fun w18 H=>U<|Zt ?_
 exact eO (cs0:= #[J (x2.code),J (x2.n),.slice A9 x2.texts.length c9]) Z aN Z (H.ent (i:=0) Z) Z ⟨b2,x2,A9,c9,lo9,hi9,hA9,rfl,hc9,gP9,uP9,Ls9,Lo9,F9,B9.at_ [(b4,_),(b3,_)] H,hF9⟩
 refine W<|W<|Zr ?_
 refine cU (bl Z Z) Z Z Z (fun h54=> ?_) (fun h54=> ?_)
 refine G (Wb Z)<|U ?_
 refine eD (τ:=Unit) [53,55,56,57] (fun _=>[(53,.bool (decide (a.kind=16∨a.kind=18∨a.kind=20)))]) (fun _ w'=>Hp w0 w' ((b4,.cells #[J (0),J (0),.slice none 0 0] ee (0,0))::(b3,.cells #[J (a.kind),.string (a.name),J (a.part),J (a.n),J (a.m),.string (a.text),J (a.lost)] fS (0,0))::(bb,.cells b.c.toArray bM (0,0))::(gP,.cells uP bC (0,0))::(Ls++(Lo++K))) F) ?_ ?_
 refine ZT Z<|Zk ?_
 exact⟨(),H,dK (congrArg Value.bool (decide_eq_true I)).symm,Qg⟩
 rintro _ ρ1 w19 H
 show CW _ _ _ _ (dB (gJ _ _ ρ1) [(53,.bool (decide (a.kind=16∨a.kind=18∨a.kind=20)))]) w19
 refine jq Z (fun hc53=> ?_) (fun hc53=> ?_)
 refine W<|Zr<|G (Yp Z)<|G (Zw dR H 1 Z Z Z)<|bW dQ (qL (B.into [(b4,_),(b3,_)] H) hw hk h4 g (of_decide_eq_true hc53)) Z Z ?_
 rintro _ w20 ⟨b2,x2,A9,c9,lo9,hi9,hA9,rfl,hc9,gP9,uP9,Ls9,Lo9,F9,B9,hF9⟩
 replace H:=B9.out (X:=[(b4,_),(b3,_)])
 refine bk H 0 (#[J (x2.code),J (x2.n),.slice A9 x2.texts.length c9]) aQ Z Z Z Z Z N N fun w21 H=>U<|Zt ?_
 exact eO (cs0:= #[J (x2.code),J (x2.n),.slice A9 x2.texts.length c9]) Z aN Z (H.ent (i:=0) Z) Z ⟨b2,x2,A9,c9,lo9,hi9,hA9,rfl,hc9,gP9,uP9,Ls9,Lo9,F9,B9.at_ [(b4,_),(b3,_)] H,hF9⟩
 refine W<|Zr ?_
 refine cU (bl Z Z) Z Z Z (fun h62=> ?_) (fun h62=> ?_)
 refine G (Wb Z)<|U<|ZT Z<|W<|Zr<|G (Yp Z)<|G (Zw dR H 1 Z Z Z)<|bW ei (og (B.into [(b4,_),(b3,_)] H) hw hk h4 g h62) Z Z ?_
 rintro _ w22 ⟨b2,x2,A9,c9,lo9,hi9,hA9,rfl,hc9,gP9,uP9,Ls9,Lo9,F9,B9,hF9⟩
 replace H:=B9.out (X:=[(b4,_),(b3,_)])
 refine bk H 0 (#[J (x2.code),J (x2.n),.slice A9 x2.texts.length c9]) aQ Z Z Z Z Z N N fun w23 H=>U<|Zt ?_
 exact eO (cs0:= #[J (x2.code),J (x2.n),.slice A9 x2.texts.length c9]) Z aN Z (H.ent (i:=0) Z) Z ⟨b2,x2,A9,c9,lo9,hi9,hA9,rfl,hc9,gP9,uP9,Ls9,Lo9,F9,B9.at_ [(b4,_),(b3,_)] H,hF9⟩
 exfalso;have h41:=of_decide_eq_false hc41;have h53:=of_decide_eq_false hc53;have h17:=of_decide_eq_false hc17;omega
 refine G (Wb Z)<|U ?_
 refine eD (τ:=Unit) [53,55,56,57] (fun _=>[(53,.bool (decide (a.kind=16∨a.kind=18∨a.kind=20)))]) (fun _ w'=>Hp w0 w' ((b4,.cells #[J (0),J (0),.slice none 0 0] ee (0,0))::(b3,.cells #[J (a.kind),.string (a.name),J (a.part),J (a.n),J (a.m),.string (a.text),J (a.lost)] fS (0,0))::(bb,.cells b.c.toArray bM (0,0))::(gP,.cells uP bC (0,0))::(Ls++(Lo++K))) F) ?_ ?_
 refine ZF Z<|W<|Zr ?_
 refine cU (bl Z Z) Z Z Z (fun h55=> ?_) (fun h55=> ?_)
 exact absurd h55 hkd.2.2
 refine G (Wb Z)<|U<|ZF Z<|W<|Zr ?_
 refine cU (bl Z Z) Z Z Z (fun h56=> ?_) (fun h56=> ?_)
 refine G (Wb Z)<|U<|ZT Z<|Zk ?_
 exact⟨(),H,dK (congrArg Value.bool (decide_eq_true I)).symm,Qg⟩
 refine G (Wb Z)<|U<|ZF Z<|Zr ?_
 refine cU (bl Z Z) Z Z Z (fun h57=> ?_) (fun h57=> ?_)
 refine G (Wb Z)<|U ?_
 exact⟨(),H,dK (congrArg Value.bool (decide_eq_true I)).symm,Qg⟩
 refine G (Wb Z)<|U ?_
 exact⟨(),H,dK (congrArg Value.bool (decide_eq_false I)).symm,Qg⟩
 rintro _ ρ1 w24 H
 show CW _ _ _ _ (dB (gJ _ _ ρ1) [(53,.bool (decide (a.kind=16∨a.kind=18∨a.kind=20)))]) w24
 refine jq Z (fun hc53=> ?_) (fun hc53=> ?_)
 refine W<|Zr<|G (Yp Z)<|G (Zw dR H 1 Z Z Z)<|bW dQ (qL (B.into [(b4,_),(b3,_)] H) hw hk h4 g (of_decide_eq_true hc53)) Z Z ?_
 rintro _ w25 ⟨b2,x2,A9,c9,lo9,hi9,hA9,rfl,hc9,gP9,uP9,Ls9,Lo9,F9,B9,hF9⟩
 replace H:=B9.out (X:=[(b4,_),(b3,_)])
 refine bk H 0 (#[J (x2.code),J (x2.n),.slice A9 x2.texts.length c9]) aQ Z Z Z Z Z N N fun w26 H=>U<|Zt ?_
 exact eO (cs0:= #[J (x2.code),J (x2.n),.slice A9 x2.texts.length c9]) Z aN Z (H.ent (i:=0) Z) Z ⟨b2,x2,A9,c9,lo9,hi9,hA9,rfl,hc9,gP9,uP9,Ls9,Lo9,F9,B9.at_ [(b4,_),(b3,_)] H,hF9⟩
 refine W<|Zr ?_
 refine cU (bl Z Z) Z Z Z (fun h62=> ?_) (fun h62=> ?_)
 refine G (Wb Z)<|U<|ZT Z<|W<|Zr<|G (Yp Z)<|G (Zw dR H 1 Z Z Z)<|bW ei (og (B.into [(b4,_),(b3,_)] H) hw hk h4 g h62) Z Z ?_
 rintro _ w27 ⟨b2,x2,A9,c9,lo9,hi9,hA9,rfl,hc9,gP9,uP9,Ls9,Lo9,F9,B9,hF9⟩
 replace H:=B9.out (X:=[(b4,_),(b3,_)])
 refine bk H 0 (#[J (x2.code),J (x2.n),.slice A9 x2.texts.length c9]) aQ Z Z Z Z Z N N fun w28 H=>U<|Zt ?_
 exact eO (cs0:= #[J (x2.code),J (x2.n),.slice A9 x2.texts.length c9]) Z aN Z (H.ent (i:=0) Z) Z ⟨b2,x2,A9,c9,lo9,hi9,hA9,rfl,hc9,gP9,uP9,Ls9,Lo9,F9,B9.at_ [(b4,_),(b3,_)] H,hF9⟩
 exfalso;have h41:=of_decide_eq_false hc41;have h53:=of_decide_eq_false hc53;have h17:=of_decide_eq_false hc17;omega
 refine G (Wb Z)<|U ?_
 refine eD (τ:=Unit) [41,43,44,45,46,47,48,49] (fun _=>[(41,.bool (decide (8<=a.kind/\a.kind<=15)))]) (fun _ w'=>Hp w0 w' ((b4,.cells #[J (0),J (0),.slice none 0 0] ee (0,0))::(b3,.cells #[J (a.kind),.string (a.name),J (a.part),J (a.n),J (a.m),.string (a.text),J (a.lost)] fS (0,0))::(bb,.cells b.c.toArray bM (0,0))::(gP,.cells uP bC (0,0))::(Ls++(Lo++K))) F) ?_ ?_
 refine ZF Z<|W<|Zr ?_
 refine cU (bl Z Z) Z Z Z (fun h43=> ?_) (fun h43=> ?_)
 refine G (Wb Z)<|U<|ZT Z<|Zk ?_
 exact⟨(),H,dK (congrArg Value.bool (decide_eq_true I)).symm,Qg⟩
 refine G (Wb Z)<|U<|ZF Z<|W<|Zr ?_
 refine cU (bl Z Z) Z Z Z (fun h44=> ?_) (fun h44=> ?_)
 refine G (Wb Z)<|U<|ZT Z<|Zk ?_
 exact⟨(),H,dK (congrArg Value.bool (decide_eq_true I)).symm,Qg⟩
 refine G (Wb Z)<|U<|ZF Z<|W<|Zr ?_
 refine cU (bl Z Z) Z Z Z (fun h45=> ?_) (fun h45=> ?_)
 refine G (Wb Z)<|U<|ZT Z<|Zk ?_
 exact⟨(),H,dK (congrArg Value.bool (decide_eq_true I)).symm,Qg⟩
 refine G (Wb Z)<|U<|ZF Z<|W<|Zr ?_
 refine cU (bl Z Z) Z Z Z (fun h46=> ?_) (fun h46=> ?_)
 refine G (Wb Z)<|U<|ZT Z<|Zk ?_
 exact⟨(),H,dK (congrArg Value.bool (decide_eq_true I)).symm,Qg⟩
 refine G (Wb Z)<|U<|ZF Z<|W<|Zr ?_
 refine cU (bl Z Z) Z Z Z (fun h47=> ?_) (fun h47=> ?_)
 refine G (Wb Z)<|U<|ZT Z<|Zk ?_
 exact⟨(),H,dK (congrArg Value.bool (decide_eq_true I)).symm,Qg⟩
 refine G (Wb Z)<|U<|ZF Z<|W<|Zr ?_
 refine cU (bl Z Z) Z Z Z (fun h48=> ?_) (fun h48=> ?_)
 refine G (Wb Z)<|U<|ZT Z<|Zk ?_
 exact⟨(),H,dK (congrArg Value.bool (decide_eq_true I)).symm,Qg⟩
 refine G (Wb Z)<|U<|ZF Z<|Zr ?_
 refine cU (bl Z Z) Z Z Z (fun h49=> ?_) (fun h49=> ?_)
 refine G (Wb Z)<|U ?_
 exact⟨(),H,dK (congrArg Value.bool (decide_eq_true I)).symm,Qg⟩
 refine G (Wb Z)<|U ?_
 exact⟨(),H,dK (congrArg Value.bool (decide_eq_false I)).symm,Qg⟩
 rintro _ ρ1 w29 H
 show CW _ _ _ _ (dB (gJ _ _ ρ1) [(41,.bool (decide (8<=a.kind/\a.kind<=15)))]) w29
 refine jq Z (fun hc41=> ?_) (fun hc41=> ?_)
 refine W<|Zr<|G (Yp Z)<|G (Zw dR H 1 Z Z Z)<|bW fZ (wH (B.into [(b4,_),(b3,_)] H) hw hk h4 g (of_decide_eq_true hc41)) Z Z ?_
 rintro _ w30 ⟨b2,x2,A9,c9,lo9,hi9,hA9,rfl,hc9,gP9,uP9,Ls9,Lo9,F9,B9,hF9⟩
 replace H:=B9.out (X:=[(b4,_),(b3,_)])
 refine bk H 0 (#[J (x2.code),J (x2.n),.slice A9 x2.texts.length c9]) aQ Z Z Z Z Z N N fun w31 H=>U<|Zt ?_
 exact eO (cs0:= #[J (x2.code),J (x2.n),.slice A9 x2.texts.length c9]) Z aN Z (H.ent (i:=0) Z) Z ⟨b2,x2,A9,c9,lo9,hi9,hA9,rfl,hc9,gP9,uP9,Ls9,Lo9,F9,B9.at_ [(b4,_),(b3,_)] H,hF9⟩
 refine W<|W<|Zr ?_
 refine cU (bl Z Z) Z Z Z (fun h54=> ?_) (fun h54=> ?_)
 refine G (Wb Z)<|U ?_
 refine eD (τ:=Unit) [53,55,56,57] (fun _=>[(53,.bool (decide (a.kind=16∨a.kind=18∨a.kind=20)))]) (fun _ w'=>Hp w0 w' ((b4,.cells #[J (0),J (0),.slice none 0 0] ee (0,0))::(b3,.cells #[J (a.kind),.string (a.name),J (a.part),J (a.n),J (a.m),.string (a.text),J (a.lost)] fS (0,0))::(bb,.cells b.c.toArray bM (0,0))::(gP,.cells uP bC (0,0))::(Ls++(Lo++K))) F) ?_ ?_
 refine ZT Z<|Zk ?_
 exact⟨(),H,dK (congrArg Value.bool (decide_eq_true I)).symm,Qg⟩
 rintro _ ρ1 w32 H
 show CW _ _ _ _ (dB (gJ _ _ ρ1) [(53,.bool (decide (a.kind=16∨a.kind=18∨a.kind=20)))]) w32
 refine jq Z (fun hc53=> ?_) (fun hc53=> ?_)
 refine W<|Zr<|G (Yp Z)<|G (Zw dR H 1 Z Z Z)<|bW dQ (qL (B.into [(b4,_),(b3,_)] H) hw hk h4 g (of_decide_eq_true hc53)) Z Z ?_
 rintro _ w33 ⟨b2,x2,A9,c9,lo9,hi9,hA9,rfl,hc9,gP9,uP9,Ls9,Lo9,F9,B9,hF9⟩
 replace H:=B9.out (X:=[(b4,_),(b3,_)])
 refine bk H 0 (#[J (x2.code),J (x2.n),.slice A9 x2.texts.length c9]) aQ Z Z Z Z Z N N fun w34 H=>U<|Zt ?_
 exact eO (cs0:= #[J (x2.code),J (x2.n),.slice A9 x2.texts.length c9]) Z aN Z (H.ent (i:=0) Z) Z ⟨b2,x2,A9,c9,lo9,hi9,hA9,rfl,hc9,gP9,uP9,Ls9,Lo9,F9,B9.at_ [(b4,_),(b3,_)] H,hF9⟩
 refine W<|Zr ?_
 refine cU (bl Z Z) Z Z Z (fun h62=> ?_) (fun h62=> ?_)
 refine G (Wb Z)<|U<|ZT Z<|W<|Zr<|G (Yp Z)<|G (Zw dR H 1 Z Z Z)<|bW ei (og (B.into [(b4,_),(b3,_)] H) hw hk h4 g h62) Z Z ?_
 rintro _ w35 ⟨b2,x2,A9,c9,lo9,hi9,hA9,rfl,hc9,gP9,uP9,Ls9,Lo9,F9,B9,hF9⟩
 replace H:=B9.out (X:=[(b4,_),(b3,_)])
 refine bk H 0 (#[J (x2.code),J (x2.n),.slice A9 x2.texts.length c9]) aQ Z Z Z Z Z N N fun w36 H=>U<|Zt ?_
 exact eO (cs0:= #[J (x2.code),J (x2.n),.slice A9 x2.texts.length c9]) Z aN Z (H.ent (i:=0) Z) Z ⟨b2,x2,A9,c9,lo9,hi9,hA9,rfl,hc9,gP9,uP9,Ls9,Lo9,F9,B9.at_ [(b4,_),(b3,_)] H,hF9⟩
 exfalso;have h41:=of_decide_eq_false hc41;have h53:=of_decide_eq_false hc53;have h17:=of_decide_eq_false hc17;omega
 refine G (Wb Z)<|U ?_
 refine eD (τ:=Unit) [53,55,56,57] (fun _=>[(53,.bool (decide (a.kind=16∨a.kind=18∨a.kind=20)))]) (fun _ w'=>Hp w0 w' ((b4,.cells #[J (0),J (0),.slice none 0 0] ee (0,0))::(b3,.cells #[J (a.kind),.string (a.name),J (a.part),J (a.n),J (a.m),.string (a.text),J (a.lost)] fS (0,0))::(bb,.cells b.c.toArray bM (0,0))::(gP,.cells uP bC (0,0))::(Ls++(Lo++K))) F) ?_ ?_
 refine ZF Z<|W<|Zr ?_
 refine cU (bl Z Z) Z Z Z (fun h55=> ?_) (fun h55=> ?_)
 exact absurd h55 hkd.2.2
 refine G (Wb Z)<|U<|ZF Z<|W<|Zr ?_
 refine cU (bl Z Z) Z Z Z (fun h56=> ?_) (fun h56=> ?_)
 refine G (Wb Z)<|U<|ZT Z<|Zk ?_
 exact⟨(),H,dK (congrArg Value.bool (decide_eq_true I)).symm,Qg⟩
 refine G (Wb Z)<|U<|ZF Z<|Zr ?_
 refine cU (bl Z Z) Z Z Z (fun h57=> ?_) (fun h57=> ?_)
 refine G (Wb Z)<|U ?_
 exact⟨(),H,dK (congrArg Value.bool (decide_eq_true I)).symm,Qg⟩
 refine G (Wb Z)<|U ?_
 exact⟨(),H,dK (congrArg Value.bool (decide_eq_false I)).symm,Qg⟩
 rintro _ ρ1 w37 H
 show CW _ _ _ _ (dB (gJ _ _ ρ1) [(53,.bool (decide (a.kind=16∨a.kind=18∨a.kind=20)))]) w37
 refine jq Z (fun hc53=> ?_) (fun hc53=> ?_)
 refine W<|Zr<|G (Yp Z)<|G (Zw dR H 1 Z Z Z)<|bW dQ (qL (B.into [(b4,_),(b3,_)] H) hw hk h4 g (of_decide_eq_true hc53)) Z Z ?_
 rintro _ w38 ⟨b2,x2,A9,c9,lo9,hi9,hA9,rfl,hc9,gP9,uP9,Ls9,Lo9,F9,B9,hF9⟩
 replace H:=B9.out (X:=[(b4,_),(b3,_)])
 refine bk H 0 (#[J (x2.code),J (x2.n),.slice A9 x2.texts.length c9]) aQ Z Z Z Z Z N N fun w39 H=>U<|Zt ?_
 exact eO (cs0:= #[J (x2.code),J (x2.n),.slice A9 x2.texts.length c9]) Z aN Z (H.ent (i:=0) Z) Z ⟨b2,x2,A9,c9,lo9,hi9,hA9,rfl,hc9,gP9,uP9,Ls9,Lo9,F9,B9.at_ [(b4,_),(b3,_)] H,hF9⟩
 refine W<|Zr ?_
 refine cU (bl Z Z) Z Z Z (fun h62=> ?_) (fun h62=> ?_)
 refine G (Wb Z)<|U<|ZT Z<|W<|Zr<|G (Yp Z)<|G (Zw dR H 1 Z Z Z)<|bW ei (og (B.into [(b4,_),(b3,_)] H) hw hk h4 g h62) Z Z ?_
 rintro _ w40 ⟨b2,x2,A9,c9,lo9,hi9,hA9,rfl,hc9,gP9,uP9,Ls9,Lo9,F9,B9,hF9⟩
 replace H:=B9.out (X:=[(b4,_),(b3,_)])
 refine bk H 0 (#[J (x2.code),J (x2.n),.slice A9 x2.texts.length c9]) aQ Z Z Z Z Z N N fun w41 H=>U<|Zt ?_
 exact eO (cs0:= #[J (x2.code),J (x2.n),.slice A9 x2.texts.length c9]) Z aN Z (H.ent (i:=0) Z) Z ⟨b2,x2,A9,c9,lo9,hi9,hA9,rfl,hc9,gP9,uP9,Ls9,Lo9,F9,B9.at_ [(b4,_),(b3,_)] H,hF9⟩
 exfalso;have h41:=of_decide_eq_false hc41;have h53:=of_decide_eq_false hc53;have h17:=of_decide_eq_false hc17;omega
 refine G (Wb Z)<|U ?_
 refine eD (τ:=Unit) [17,19] (fun _=>[(17,.bool (decide (a.kind=3∨a.kind=4)))]) (fun _ w'=>Hp w0 w' ((b4,.cells #[J (0),J (0),.slice none 0 0] ee (0,0))::(b3,.cells #[J (a.kind),.string (a.name),J (a.part),J (a.n),J (a.m),.string (a.text),J (a.lost)] fS (0,0))::(bb,.cells b.c.toArray bM (0,0))::(gP,.cells uP bC (0,0))::(Ls++(Lo++K))) F) ?_ ?_
 refine ZF Z<|Zr ?_
 refine cU (bl Z Z) Z Z Z (fun h19=> ?_) (fun h19=> ?_)
 refine G (Wb Z)<|U ?_
 exact⟨(),H,dK (congrArg Value.bool (decide_eq_true I)).symm,Qg⟩
 refine G (Wb Z)<|U ?_
 exact⟨(),H,dK (congrArg Value.bool (decide_eq_false I)).symm,Qg⟩
 rintro _ ρ1 w42 H
 show CW _ _ _ _ (dB (gJ _ _ ρ1) [(17,.bool (decide (a.kind=3∨a.kind=4)))]) w42
 refine jq Z (fun hc17=> ?_) (fun hc17=> ?_)
 refine W<|Zr<|G (Yp Z)<|G (Zw dR H 1 Z Z Z)<|G (Zf mN Z)<|G (Zd aj H 1 Z Z Z)<|G (bl Z Z)<|bW ng (EX (B.into [(b4,_),(b3,_)] H) hw hk h4 g (of_decide_eq_true hc17)) Z Z ?_
 rintro _ w43 ⟨b2,x2,A9,c9,lo9,hi9,hA9,rfl,hc9,gP9,uP9,Ls9,Lo9,F9,B9,hF9⟩
 replace H:=B9.out (X:=[(b4,_),(b3,_)])
 refine bk H 0 (#[J (x2.code),J (x2.n),.slice A9 x2.texts.length c9]) aQ Z Z Z Z Z N N fun w44 H=>U<|Zt ?_
 exact eO (cs0:= #[J (x2.code),J (x2.n),.slice A9 x2.texts.length c9]) Z aN Z (H.ent (i:=0) Z) Z ⟨b2,x2,A9,c9,lo9,hi9,hA9,rfl,hc9,gP9,uP9,Ls9,Lo9,F9,B9.at_ [(b4,_),(b3,_)] H,hF9⟩
 refine W<|Zr ?_
 refine cU (bl Z Z) Z Z Z (fun h27=> ?_) (fun h27=> ?_)
 refine G (Wb Z)<|U<|ZT Z<|W<|Zr<|G (Yp Z)<|G (Zw dR H 1 Z Z Z)<|bW l8 (AP (B.into [(b4,_),(b3,_)] H) hw hk h4 g h27) Z Z ?_
 rintro _ w45 ⟨b2,x2,A9,c9,lo9,hi9,hA9,rfl,hc9,gP9,uP9,Ls9,Lo9,F9,B9,hF9⟩
 replace H:=B9.out (X:=[(b4,_),(b3,_)])
 refine bk H 0 (#[J (x2.code),J (x2.n),.slice A9 x2.texts.length c9]) aQ Z Z Z Z Z N N fun w46 H=>U<|Zt ?_
 exact eO (cs0:= #[J (x2.code),J (x2.n),.slice A9 x2.texts.length c9]) Z aN Z (H.ent (i:=0) Z) Z ⟨b2,x2,A9,c9,lo9,hi9,hA9,rfl,hc9,gP9,uP9,Ls9,Lo9,F9,B9.at_ [(b4,_),(b3,_)] H,hF9⟩
 refine G (Wb Z)<|U<|ZF Z<|W<|Zr ?_
 refine cU (bl Z Z) Z Z Z (fun h32=> ?_) (fun h32=> ?_)
 refine G (Wb Z)<|U<|ZT Z<|W<|Zr<|G (Yp Z)<|G (Zw dR H 1 Z Z Z)<|bW nh (Fm (B.into [(b4,_),(b3,_)] H) hw hk h4 g h32) Z Z ?_
 rintro _ w47 ⟨b2,x2,A9,c9,lo9,hi9,hA9,rfl,hc9,gP9,uP9,Ls9,Lo9,F9,B9,hF9⟩
 replace H:=B9.out (X:=[(b4,_),(b3,_)])
 refine bk H 0 (#[J (x2.code),J (x2.n),.slice A9 x2.texts.length c9]) aQ Z Z Z Z Z N N fun w48 H=>U<|Zt ?_
 exact eO (cs0:= #[J (x2.code),J (x2.n),.slice A9 x2.texts.length c9]) Z aN Z (H.ent (i:=0) Z) Z ⟨b2,x2,A9,c9,lo9,hi9,hA9,rfl,hc9,gP9,uP9,Ls9,Lo9,F9,B9.at_ [(b4,_),(b3,_)] H,hF9⟩
 refine G (Wb Z)<|U<|ZF Z<|W<|Zr ?_
 refine cU (bl Z Z) Z Z Z (fun h37=> ?_) (fun h37=> ?_)
 refine G (Wb Z)<|U<|ZT Z<|W<|Zr<|G (Yp Z)<|G (Zw dR H 1 Z Z Z)<|bW nf (EJ (B.into [(b4,_),(b3,_)] H) hw hk h4 g h37) Z Z ?_
 rintro _ w49 ⟨b2,x2,A9,c9,lo9,hi9,hA9,rfl,hc9,gP9,uP9,Ls9,Lo9,F9,B9,hF9⟩
 replace H:=B9.out (X:=[(b4,_),(b3,_)])
 refine bk H 0 (#[J (x2.code),J (x2.n),.slice A9 x2.texts.length c9]) aQ Z Z Z Z Z N N fun w50 H=>U<|Zt ?_
 exact eO (cs0:= #[J (x2.code),J (x2.n),.slice A9 x2.texts.length c9]) Z aN Z (H.ent (i:=0) Z) Z ⟨b2,x2,A9,c9,lo9,hi9,hA9,rfl,hc9,gP9,uP9,Ls9,Lo9,F9,B9.at_ [(b4,_),(b3,_)] H,hF9⟩
 refine G (Wb Z)<|U<|ZF Z<|W<|W<|Zr ?_
 refine cU (bl Z Z) Z Z Z (fun h42=> ?_) (fun h42=> ?_)
 refine G (Wb Z)<|U ?_
 refine eD (τ:=Unit) [41,43,44,45,46,47,48,49] (fun _=>[(41,.bool (decide (8<=a.kind/\a.kind<=15)))]) (fun _ w'=>Hp w0 w' ((b4,.cells #[J (0),J (0),.slice none 0 0] ee (0,0))::(b3,.cells #[J (a.kind),.string (a.name),J (a.part),J (a.n),J (a.m),.string (a.text),J (a.lost)] fS (0,0))::(bb,.cells b.c.toArray bM (0,0))::(gP,.cells uP bC (0,0))::(Ls++(Lo++K))) F) ?_ ?_
 refine ZT Z<|Zk ?_
 exact⟨(),H,dK (congrArg Value.bool (decide_eq_true I)).symm,Qg⟩
 rintro _ ρ1 w51 H
 show CW _ _ _ _ (dB (gJ _ _ ρ1) [(41,.bool (decide (8<=a.kind/\a.kind<=15)))]) w51
 refine jq Z (fun hc41=> ?_) (fun hc41=> ?_)
 refine W<|Zr<|G (Yp Z)<|G (Zw dR H 1 Z Z Z)<|bW fZ (wH (B.into [(b4,_),(b3,_)] H) hw hk h4 g (of_decide_eq_true hc41)) Z Z ?_
 rintro _ w52 ⟨b2,x2,A9,c9,lo9,hi9,hA9,rfl,hc9,gP9,uP9,Ls9,Lo9,F9,B9,hF9⟩
 replace H:=B9.out (X:=[(b4,_),(b3,_)])
 refine bk H 0 (#[J (x2.code),J (x2.n),.slice A9 x2.texts.length c9]) aQ Z Z Z Z Z N N fun w53 H=>U<|Zt ?_
 exact eO (cs0:= #[J (x2.code),J (x2.n),.slice A9 x2.texts.length c9]) Z aN Z (H.ent (i:=0) Z) Z ⟨b2,x2,A9,c9,lo9,hi9,hA9,rfl,hc9,gP9,uP9,Ls9,Lo9,F9,B9.at_ [(b4,_),(b3,_)] H,hF9⟩
 refine W<|W<|Zr ?_
 refine cU (bl Z Z) Z Z Z (fun h54=> ?_) (fun h54=> ?_)
 refine G (Wb Z)<|U ?_
 refine eD (τ:=Unit) [53,55,56,57] (fun _=>[(53,.bool (decide (a.kind=16∨a.kind=18∨a.kind=20)))]) (fun _ w'=>Hp w0 w' ((b4,.cells #[J (0),J (0),.slice none 0 0] ee (0,0))::(b3,.cells #[J (a.kind),.string (a.name),J (a.part),J (a.n),J (a.m),.string (a.text),J (a.lost)] fS (0,0))::(bb,.cells b.c.toArray bM (0,0))::(gP,.cells uP bC (0,0))::(Ls++(Lo++K))) F) ?_ ?_
 refine ZT Z<|Zk ?_
 exact⟨(),H,dK (congrArg Value.bool (decide_eq_true I)).symm,Qg⟩
 rintro _ ρ1 w54 H
 show CW _ _ _ _ (dB (gJ _ _ ρ1) [(53,.bool (decide (a.kind=16∨a.kind=18∨a.kind=20)))]) w54
 refine jq Z (fun hc53=> ?_) (fun hc53=> ?_)
 refine W<|Zr<|G (Yp Z)<|G (Zw dR H 1 Z Z Z)<|bW dQ (qL (B.into [(b4,_),(b3,_)] H) hw hk h4 g (of_decide_eq_true hc53)) Z Z ?_
 rintro _ w55 ⟨b2,x2,A9,c9,lo9,hi9,hA9,rfl,hc9,gP9,uP9,Ls9,Lo9,F9,B9,hF9⟩
 replace H:=B9.out (X:=[(b4,_),(b3,_)])
 refine bk H 0 (#[J (x2.code),J (x2.n),.slice A9 x2.texts.length c9]) aQ Z Z Z Z Z N N fun w56 H=>U<|Zt ?_
 exact eO (cs0:= #[J (x2.code),J (x2.n),.slice A9 x2.texts.length c9]) Z aN Z (H.ent (i:=0) Z) Z ⟨b2,x2,A9,c9,lo9,hi9,hA9,rfl,hc9,gP9,uP9,Ls9,Lo9,F9,B9.at_ [(b4,_),(b3,_)] H,hF9⟩
 refine W<|Zr ?_
 refine cU (bl Z Z) Z Z Z (fun h62=> ?_) (fun h62=> ?_)
 refine G (Wb Z)<|U<|ZT Z<|W<|Zr<|G (Yp Z)<|G (Zw dR H 1 Z Z Z)<|bW ei (og (B.into [(b4,_),(b3,_)] H) hw hk h4 g h62) Z Z ?_
 rintro _ w57 ⟨b2,x2,A9,c9,lo9,hi9,hA9,rfl,hc9,gP9,uP9,Ls9,Lo9,F9,B9,hF9⟩
 replace H:=B9.out (X:=[(b4,_),(b3,_)])
 refine bk H 0 (#[J (x2.code),J (x2.n),.slice A9 x2.texts.length c9]) aQ Z Z Z Z Z N N fun w58 H=>U<|Zt ?_
 exact eO (cs0:= #[J (x2.code),J (x2.n),.slice A9 x2.texts.length c9]) Z aN Z (H.ent (i:=0) Z) Z ⟨b2,x2,A9,c9,lo9,hi9,hA9,rfl,hc9,gP9,uP9,Ls9,Lo9,F9,B9.at_ [(b4,_),(b3,_)] H,hF9⟩
 exfalso;have h41:=of_decide_eq_false hc41;have h53:=of_decide_eq_false hc53;have h17:=of_decide_eq_false hc17;omega
 refine G (Wb Z)<|U ?_
 refine eD (τ:=Unit) [53,55,56,57] (fun _=>[(53,.bool (decide (a.kind=16∨a.kind=18∨a.kind=20)))]) (fun _ w'=>Hp w0 w' ((b4,.cells #[J (0),J (0),.slice none 0 0] ee (0,0))::(b3,.cells #[J (a.kind),.string (a.name),J (a.part),J (a.n),J (a.m),.string (a.text),J (a.lost)] fS (0,0))::(bb,.cells b.c.toArray bM (0,0))::(gP,.cells uP bC (0,0))::(Ls++(Lo++K))) F) ?_ ?_
 refine ZF Z<|W<|Zr ?_
 refine cU (bl Z Z) Z Z Z (fun h55=> ?_) (fun h55=> ?_)
 exact absurd h55 hkd.2.2
 refine G (Wb Z)<|U<|ZF Z<|W<|Zr ?_
 refine cU (bl Z Z) Z Z Z (fun h56=> ?_) (fun h56=> ?_)
 refine G (Wb Z)<|U<|ZT Z<|Zk ?_
 exact⟨(),H,dK (congrArg Value.bool (decide_eq_true I)).symm,Qg⟩
 refine G (Wb Z)<|U<|ZF Z<|Zr ?_
 refine cU (bl Z Z) Z Z Z (fun h57=> ?_) (fun h57=> ?_)
 refine G (Wb Z)<|U ?_
 exact⟨(),H,dK (congrArg Value.bool (decide_eq_true I)).symm,Qg⟩
 refine G (Wb Z)<|U ?_
 exact⟨(),H,dK (congrArg Value.bool (decide_eq_false I)).symm,Qg⟩
 rintro _ ρ1 w59 H
 show CW _ _ _ _ (dB (gJ _ _ ρ1) [(53,.bool (decide (a.kind=16∨a.kind=18∨a.kind=20)))]) w59
 refine jq Z (fun hc53=> ?_) (fun hc53=> ?_)
 refine W<|Zr<|G (Yp Z)<|G (Zw dR H 1 Z Z Z)<|bW dQ (qL (B.into [(b4,_),(b3,_)] H) hw hk h4 g (of_decide_eq_true hc53)) Z Z ?_
 rintro _ w60 ⟨b2,x2,A9,c9,lo9,hi9,hA9,rfl,hc9,gP9,uP9,Ls9,Lo9,F9,B9,hF9⟩
 replace H:=B9.out (X:=[(b4,_),(b3,_)])
 refine bk H 0 (#[J (x2.code),J (x2.n),.slice A9 x2.texts.length c9]) aQ Z Z Z Z Z N N fun w61 H=>U<|Zt ?_
 exact eO (cs0:= #[J (x2.code),J (x2.n),.slice A9 x2.texts.length c9]) Z aN Z (H.ent (i:=0) Z) Z ⟨b2,x2,A9,c9,lo9,hi9,hA9,rfl,hc9,gP9,uP9,Ls9,Lo9,F9,B9.at_ [(b4,_),(b3,_)] H,hF9⟩
 refine W<|Zr ?_
 refine cU (bl Z Z) Z Z Z (fun h62=> ?_) (fun h62=> ?_)
 refine G (Wb Z)<|U<|ZT Z<|W<|Zr<|G (Yp Z)<|G (Zw dR H 1 Z Z Z)<|bW ei (og (B.into [(b4,_),(b3,_)] H) hw hk h4 g h62) Z Z ?_
 rintro _ w62 ⟨b2,x2,A9,c9,lo9,hi9,hA9,rfl,hc9,gP9,uP9,Ls9,Lo9,F9,B9,hF9⟩
 replace H:=B9.out (X:=[(b4,_),(b3,_)])
 refine bk H 0 (#[J (x2.code),J (x2.n),.slice A9 x2.texts.length c9]) aQ Z Z Z Z Z N N fun w63 H=>U<|Zt ?_
 exact eO (cs0:= #[J (x2.code),J (x2.n),.slice A9 x2.texts.length c9]) Z aN Z (H.ent (i:=0) Z) Z ⟨b2,x2,A9,c9,lo9,hi9,hA9,rfl,hc9,gP9,uP9,Ls9,Lo9,F9,B9.at_ [(b4,_),(b3,_)] H,hF9⟩
 exfalso;have h41:=of_decide_eq_false hc41;have h53:=of_decide_eq_false hc53;have h17:=of_decide_eq_false hc17;omega
 refine G (Wb Z)<|U ?_
 refine eD (τ:=Unit) [41,43,44,45,46,47,48,49] (fun _=>[(41,.bool (decide (8<=a.kind/\a.kind<=15)))]) (fun _ w'=>Hp w0 w' ((b4,.cells #[J (0),J (0),.slice none 0 0] ee (0,0))::(b3,.cells #[J (a.kind),.string (a.name),J (a.part),J (a.n),J (a.m),.string (a.text),J (a.lost)] fS (0,0))::(bb,.cells b.c.toArray bM (0,0))::(gP,.cells uP bC (0,0))::(Ls++(Lo++K))) F) ?_ ?_
 refine ZF Z<|W<|Zr ?_
 refine cU (bl Z Z) Z Z Z (fun h43=> ?_) (fun h43=> ?_)
 refine G (Wb Z)<|U<|ZT Z<|Zk ?_
 exact⟨(),H,dK (congrArg Value.bool (decide_eq_true I)).symm,Qg⟩
 refine G (Wb Z)<|U<|ZF Z<|W<|Zr ?_
 refine cU (bl Z Z) Z Z Z (fun h44=> ?_) (fun h44=> ?_)
 refine G (Wb Z)<|U<|ZT Z<|Zk ?_
 exact⟨(),H,dK (congrArg Value.bool (decide_eq_true I)).symm,Qg⟩
 refine G (Wb Z)<|U<|ZF Z<|W<|Zr ?_
 refine cU (bl Z Z) Z Z Z (fun h45=> ?_) (fun h45=> ?_)
 refine G (Wb Z)<|U<|ZT Z<|Zk ?_
 exact⟨(),H,dK (congrArg Value.bool (decide_eq_true I)).symm,Qg⟩
 refine G (Wb Z)<|U<|ZF Z<|W<|Zr ?_
 refine cU (bl Z Z) Z Z Z (fun h46=> ?_) (fun h46=> ?_)
 refine G (Wb Z)<|U<|ZT Z<|Zk ?_
 exact⟨(),H,dK (congrArg Value.bool (decide_eq_true I)).symm,Qg⟩
 refine G (Wb Z)<|U<|ZF Z<|W<|Zr ?_
 refine cU (bl Z Z) Z Z Z (fun h47=> ?_) (fun h47=> ?_)
 refine G (Wb Z)<|U<|ZT Z<|Zk ?_
 exact⟨(),H,dK (congrArg Value.bool (decide_eq_true I)).symm,Qg⟩
 refine G (Wb Z)<|U<|ZF Z<|W<|Zr ?_
 refine cU (bl Z Z) Z Z Z (fun h48=> ?_) (fun h48=> ?_)
 refine G (Wb Z)<|U<|ZT Z<|Zk ?_
 exact⟨(),H,dK (congrArg Value.bool (decide_eq_true I)).symm,Qg⟩
 refine G (Wb Z)<|U<|ZF Z<|Zr ?_
 refine cU (bl Z Z) Z Z Z (fun h49=> ?_) (fun h49=> ?_)
 refine G (Wb Z)<|U ?_
 exact⟨(),H,dK (congrArg Value.bool (decide_eq_true I)).symm,Qg⟩
 refine G (Wb Z)<|U ?_
 exact⟨(),H,dK (congrArg Value.bool (decide_eq_false I)).symm,Qg⟩
 rintro _ ρ1 w64 H
 show CW _ _ _ _ (dB (gJ _ _ ρ1) [(41,.bool (decide (8<=a.kind/\a.kind<=15)))]) w64
 refine jq Z (fun hc41=> ?_) (fun hc41=> ?_)
 refine W<|Zr<|G (Yp Z)<|G (Zw dR H 1 Z Z Z)<|bW fZ (wH (B.into [(b4,_),(b3,_)] H) hw hk h4 g (of_decide_eq_true hc41)) Z Z ?_
 rintro _ w65 ⟨b2,x2,A9,c9,lo9,hi9,hA9,rfl,hc9,gP9,uP9,Ls9,Lo9,F9,B9,hF9⟩
 replace H:=B9.out (X:=[(b4,_),(b3,_)])
 refine bk H 0 (#[J (x2.code),J (x2.n),.slice A9 x2.texts.length c9]) aQ Z Z Z Z Z N N fun w66 H=>U<|Zt ?_
 exact eO (cs0:= #[J (x2.code),J (x2.n),.slice A9 x2.texts.length c9]) Z aN Z (H.ent (i:=0) Z) Z ⟨b2,x2,A9,c9,lo9,hi9,hA9,rfl,hc9,gP9,uP9,Ls9,Lo9,F9,B9.at_ [(b4,_),(b3,_)] H,hF9⟩
 refine W<|W<|Zr ?_
 refine cU (bl Z Z) Z Z Z (fun h54=> ?_) (fun h54=> ?_)
 refine G (Wb Z)<|U ?_
 refine eD (τ:=Unit) [53,55,56,57] (fun _=>[(53,.bool (decide (a.kind=16∨a.kind=18∨a.kind=20)))]) (fun _ w'=>Hp w0 w' ((b4,.cells #[J (0),J (0),.slice none 0 0] ee (0,0))::(b3,.cells #[J (a.kind),.string (a.name),J (a.part),J (a.n),J (a.m),.string (a.text),J (a.lost)] fS (0,0))::(bb,.cells b.c.toArray bM (0,0))::(gP,.cells uP bC (0,0))::(Ls++(Lo++K))) F) ?_ ?_
 refine ZT Z<|Zk ?_
 exact⟨(),H,dK (congrArg Value.bool (decide_eq_true I)).symm,Qg⟩
 rintro _ ρ1 w67 H
 show CW _ _ _ _ (dB (gJ _ _ ρ1) [(53,.bool (decide (a.kind=16∨a.kind=18∨a.kind=20)))]) w67
 refine jq Z (fun hc53=> ?_) (fun hc53=> ?_)
 refine W<|Zr<|G (Yp Z)<|G (Zw dR H 1 Z Z Z)<|bW dQ (qL (B.into [(b4,_),(b3,_)] H) hw hk h4 g (of_decide_eq_true hc53)) Z Z ?_
 rintro _ w68 ⟨b2,x2,A9,c9,lo9,hi9,hA9,rfl,hc9,gP9,uP9,Ls9,Lo9,F9,B9,hF9⟩
 replace H:=B9.out (X:=[(b4,_),(b3,_)])
 refine bk H 0 (#[J (x2.code),J (x2.n),.slice A9 x2.texts.length c9]) aQ Z Z Z Z Z N N fun w69 H=>U<|Zt ?_
 exact eO (cs0:= #[J (x2.code),J (x2.n),.slice A9 x2.texts.length c9]) Z aN Z (H.ent (i:=0) Z) Z ⟨b2,x2,A9,c9,lo9,hi9,hA9,rfl,hc9,gP9,uP9,Ls9,Lo9,F9,B9.at_ [(b4,_),(b3,_)] H,hF9⟩
 refine W<|Zr ?_
 refine cU (bl Z Z) Z Z Z (fun h62=> ?_) (fun h62=> ?_)
 refine G (Wb Z)<|U<|ZT Z<|W<|Zr<|G (Yp Z)<|G (Zw dR H 1 Z Z Z)<|bW ei (og (B.into [(b4,_),(b3,_)] H) hw hk h4 g h62) Z Z ?_
 rintro _ w70 ⟨b2,x2,A9,c9,lo9,hi9,hA9,rfl,hc9,gP9,uP9,Ls9,Lo9,F9,B9,hF9⟩
 replace H:=B9.out (X:=[(b4,_),(b3,_)])
 refine bk H 0 (#[J (x2.code),J (x2.n),.slice A9 x2.texts.length c9]) aQ Z Z Z Z Z N N fun w71 H=>U<|Zt ?_
 exact eO (cs0:= #[J (x2.code),J (x2.n),.slice A9 x2.texts.length c9]) Z aN Z (H.ent (i:=0) Z) Z ⟨b2,x2,A9,c9,lo9,hi9,hA9,rfl,hc9,gP9,uP9,Ls9,Lo9,F9,B9.at_ [(b4,_),(b3,_)] H,hF9⟩
 exfalso;have h41:=of_decide_eq_false hc41;have h53:=of_decide_eq_false hc53;have h17:=of_decide_eq_false hc17;omega
 refine G (Wb Z)<|U ?_
 refine eD (τ:=Unit) [53,55,56,57] (fun _=>[(53,.bool (decide (a.kind=16∨a.kind=18∨a.kind=20)))]) (fun _ w'=>Hp w0 w' ((b4,.cells #[J (0),J (0),.slice none 0 0] ee (0,0))::(b3,.cells #[J (a.kind),.string (a.name),J (a.part),J (a.n),J (a.m),.string (a.text),J (a.lost)] fS (0,0))::(bb,.cells b.c.toArray bM (0,0))::(gP,.cells uP bC (0,0))::(Ls++(Lo++K))) F) ?_ ?_
 refine ZF Z<|W<|Zr ?_
 refine cU (bl Z Z) Z Z Z (fun h55=> ?_) (fun h55=> ?_)
 exact absurd h55 hkd.2.2
 refine G (Wb Z)<|U<|ZF Z<|W<|Zr ?_
 refine cU (bl Z Z) Z Z Z (fun h56=> ?_) (fun h56=> ?_)
 refine G (Wb Z)<|U<|ZT Z<|Zk ?_
 exact⟨(),H,dK (congrArg Value.bool (decide_eq_true I)).symm,Qg⟩
 refine G (Wb Z)<|U<|ZF Z<|Zr ?_
 refine cU (bl Z Z) Z Z Z (fun h57=> ?_) (fun h57=> ?_)
 refine G (Wb Z)<|U ?_
 exact⟨(),H,dK (congrArg Value.bool (decide_eq_true I)).symm,Qg⟩
 refine G (Wb Z)<|U ?_
 exact⟨(),H,dK (congrArg Value.bool (decide_eq_false I)).symm,Qg⟩
 rintro _ ρ1 w72 H
 show CW _ _ _ _ (dB (gJ _ _ ρ1) [(53,.bool (decide (a.kind=16∨a.kind=18∨a.kind=20)))]) w72
 refine jq Z (fun hc53=> ?_) (fun hc53=> ?_)
 refine W<|Zr<|G (Yp Z)<|G (Zw dR H 1 Z Z Z)<|bW dQ (qL (B.into [(b4,_),(b3,_)] H) hw hk h4 g (of_decide_eq_true hc53)) Z Z ?_
 rintro _ w73 ⟨b2,x2,A9,c9,lo9,hi9,hA9,rfl,hc9,gP9,uP9,Ls9,Lo9,F9,B9,hF9⟩
 replace H:=B9.out (X:=[(b4,_),(b3,_)])
 refine bk H 0 (#[J (x2.code),J (x2.n),.slice A9 x2.texts.length c9]) aQ Z Z Z Z Z N N fun w74 H=>U<|Zt ?_
 exact eO (cs0:= #[J (x2.code),J (x2.n),.slice A9 x2.texts.length c9]) Z aN Z (H.ent (i:=0) Z) Z ⟨b2,x2,A9,c9,lo9,hi9,hA9,rfl,hc9,gP9,uP9,Ls9,Lo9,F9,B9.at_ [(b4,_),(b3,_)] H,hF9⟩
 refine W<|Zr ?_
 refine cU (bl Z Z) Z Z Z (fun h62=> ?_) (fun h62=> ?_)
 refine G (Wb Z)<|U<|ZT Z<|W<|Zr<|G (Yp Z)<|G (Zw dR H 1 Z Z Z)<|bW ei (og (B.into [(b4,_),(b3,_)] H) hw hk h4 g h62) Z Z ?_
 rintro _ w75 ⟨b2,x2,A9,c9,lo9,hi9,hA9,rfl,hc9,gP9,uP9,Ls9,Lo9,F9,B9,hF9⟩
 replace H:=B9.out (X:=[(b4,_),(b3,_)])
 refine bk H 0 (#[J (x2.code),J (x2.n),.slice A9 x2.texts.length c9]) aQ Z Z Z Z Z N N fun w76 H=>U<|Zt ?_
 exact eO (cs0:= #[J (x2.code),J (x2.n),.slice A9 x2.texts.length c9]) Z aN Z (H.ent (i:=0) Z) Z ⟨b2,x2,A9,c9,lo9,hi9,hA9,rfl,hc9,gP9,uP9,Ls9,Lo9,F9,B9.at_ [(b4,_),(b3,_)] H,hF9⟩
 exfalso;have h41:=of_decide_eq_false hc41;have h53:=of_decide_eq_false hc53;have h17:=of_decide_eq_false hc17;omega
end Go.Proofs.YtclibalpdhhhfaaGreat
