/- Part 4 of the proofs over this seat: what its theorems say holds for every input that they name. -/
import Derived.Test.YtclibalpdhhhfaaGreatDF3
namespace Go.Proofs.YtclibalpdhhhfaaGreat
open Go Go.Eng Go.RowKit
open Go.Eng renaming ni→U, AK→W, JA→Zr, Nl→Zk, PV→Zt, Pe→Zb, PA→Zx, P3→Yi, P6→Yb, P1→Ys, P2→Yp, P0→Yt, PZ→Yu, Qm→Wi, Qn→Wb, Qk→Ws, Ql→Wp, Qj→Wt, Qa→Zf, Qe→Xi, Qh→Xa, Qc→Xs, PK→Kt, PL→N, pH→ZT, ox→ZF
open Go.Proofs.Tryz renaming prog→aa
open _root_.List renaming length_set→ab,mem_of_getElem?→ae,getElem?_eq_getElem→ah,mem_cons_of_mem→ak,getElem?_set_self→am,mem_singleton→aq,mem_append→ar,replicate→au,mem_cons→av,length_append→ay,mem_cons_self→aA,append_assoc→aD,length_take→aH,mem_iff_getElem?→aK,getElem?_map→aM,append_nil→aY,findIdx?_eq_some_iff_getElem→bg,map_append→bk,mem_map→bv,mem_nil_iff→bx,length_map→bC,mem_or_eq_of_mem_set→bH,length_replicate→bJ,mem_map_of_mem→bL,length_cons→bO,length_singleton→bP,eq_nil_of_length_eq_zero→bU,take_length→bV,getD_eq_getElem?_getD→bY,sublist_append_right→cm,getElem?_append_right→cw,map_set→cy,getElem?_eq_none→cJ,findIdx?_eq_none_iff→dp,mem_singleton_self→dH,getElem?_drop→dK,pairwise_cons→ek,map_cons→eI,ext_getElem?→eJ,set_set→fo,prefix_refl→fp,drop_length→fq,eq_of_mem_replicate→fE,getElem?_replicate→fQ,perm_append_comm_assoc→fT,set_append_right→i9,pairwise_map→jp,mem_filter→kP,getElem?_set→lu,pairwise_append→lX,map_nil→mg,getElem_mem→mh,pairwise_iff_getElem→mN,drop_eq_getElem_cons→mO,map_map→r4,set_cons_zero→Bj,findIdx?_map→CZ,any_eq_false→C0
open _root_.List.Perm renaming cons→ai,swap→al
open _root_.Nat renaming le_refl→ao,le_trans→aT,min_eq_left→br,zero_le→bA,le_succ→bE,add_assoc→kX,sub_self→me,le_of_lt→mf,add_comm→r3
open _root_.List.Sublist renaming refl→ap
open _root_.Bool renaming and_eq_true→aS,not_eq_true'→pf
open _root_.Option.some renaming inj→bB,injEq→jo
open _root_.Option renaming map_some→eD,bind_some→fm,map_eq_some_iff→iH
open _root_.Int renaming le_refl→ic
set_option maxHeartbeats 4000000
set_option maxRecDepth 20000
set_option linter.unusedSimpArgs false
set_option linter.unusedVariables false
set_option linter.unusedSectionVars false
theorem Co.rd.st {c:Co} {lo hi:Nat} {w w':World} (hk: ∀ k,lo<=k->k<hi->w'.heap[k]? =w.heap[k]?) (h:c.rd lo hi w):c.rd lo hi w':=
 ⟨h.row.st hk,fun t ht=>(h.parts t ht).st hk,h.cap,h.few,h.fewP⟩
theorem Co.rd.mono {c:Co} {lo hi lo' hi':Nat} {w:World} (h:c.rd lo hi w) (hl:lo'<=lo) (hh:hi<=hi'):c.rd lo' hi' w:=
 ⟨h.row.mono hl hh,fun t ht=>(h.parts t ht).mono hl hh,h.cap,h.few,h.fewP⟩
def QO (lo hi:Nat) (c:Co):ci:=⟨lo,hi,c.rd lo hi,fun _ _ hk h=>h.st hk⟩
theorem Hp.co {w0 w:World} {L:List (Nat×Obj)} {F:List ci} {lo hi:Nat} {c:Co} (H:Hp w0 w L F) (i:Nat) (hF:F[i]? =some (QO lo hi c)):c.rd 0 w.heap.size w:=
 Co.rd.mono (H.fact hF) (bA _) (H.facts _ (ae hF)).2.1
def uc (w w2:World) (c:Co):Prop:=c.rd w.heap.size w2.heap.size w2/\Below w.heap.size w w2
theorem Hv.new {w w2:World} {c:Co} (h:Hv w w2 c) (h1:c.txs.length<=8) (h2: ∀ t∈c.txs,t.parts.length<=4):uc w w2 c:=
 ⟨⟨h.row,h.parts,h.cap,by omega,fun t ht=>⟨by have:=h2 t ht;omega,h.caps t ht⟩⟩,h.below⟩
theorem pi {w w2:World} (h:Below w.heap.size w w2):uc w w2 yI:=(NS h).new (by simp[yI]) (by simp[yI])
theorem EU {l:List Int} (h:cT (-1) l=true):l.length<=4:=by have:=ml h;omega
theorem Ce {ck nx:Int}: ∀ {l pre:List Tx},nU ck nx pre l=true↔(∀ t∈l,fG ck nx t=true)/\(∀ t∈l,∀ p∈pre,sg t p=false)/\l.Pairwise (fun p t=>sg t p=false)
 |[],pre=>by simp[nU]
 |t::l,pre=>by
  unfold nU
  rw[aS,aS,Ce,ek]
  simp only[av,ar,aq,forall_eq_or_imp,pf,C0]
  constructor
  rintro⟨⟨h1,h2⟩,h3,h4,h5⟩
  exact⟨⟨h1,h3⟩,⟨fun p hp=>by simpa using h2 p hp,fun a ha p hp=>h4 a ha p (.inl hp)⟩,fun a ha=>h4 a ha t (by simp),h5⟩
  rintro⟨⟨h1,h3⟩,⟨h2,h4⟩,h5,h6⟩
  exact⟨⟨h1,fun p hp=>by simpa using h2 p hp⟩,h3,fun a ha p hp=>hp.elim (h4 a ha p) (fun h=>by have:=h5 a ha;simp at h;rwa[h]),h6⟩
def vv (l:List Tx):Prop:=(l.map fun t=>(t.name,t.pid)).Pairwise fun p t=>p.1≠t.1/\p.2≠t.2
theorem JK {l:List Tx}:vv l↔l.Pairwise (fun p t=>sg t p=false):=by
 unfold vv
 rw[jp]
 constructor<;>intro h<;>refine h.imp fun{a b} hab=> ?_
 simpa [sg]using hab
 simpa [sg]using hab
theorem gJ {c:Co}:gB c=true↔(iQ c.clock=true/\1<=c.next/\c.next<=1073741824/\1<=c.wait/\c.wait<=1000/\(c.txs.length:Int)<=8)/\(∀ t∈c.txs,fG c.clock c.next t=true)/\vv c.txs:=by
 rw[iU,Ce,JK]
 constructor
 rintro⟨h1,h2,h3,h4,h5,h6,h7,h8,h9⟩;exact⟨⟨h1,h2,h3,h4,h5,h6⟩,h7,h9⟩
 rintro⟨⟨h1,h2,h3,h4,h5,h6⟩,h7,h9⟩;exact⟨h1,h2,h3,h4,h5,h6,h7,by simp,h9⟩
theorem Hg {c:Co} (h:gB c=true):c.txs.length<=8/\ ∀ t∈c.txs,t.parts.length<=4:=by
 obtain⟨⟨_,_,_,_,_,h6⟩,h7,_⟩:=gJ.1 h
 exact⟨by omega,fun t ht=>EU (cB.1 (h7 t ht)).2.2.2.2.2.2.2.2.2.1⟩
theorem qi.new {w w2:World} {ca c':Co} {Lr Lp:List (Nat×Obj)} (h:qi w w2 ca c' Lr Lp) (hok:gB ca=true):uc w w2 c':=by
 have h1:gB c'=true:=by rw[sI,h.1];exact hok
 obtain⟨h2,h3⟩:=Hg h1
 exact h.read.new h2 h3
def fX (c:Co) (s:ByteArray):Option (Nat×Tx):=(c.txs.findIdx? fun p=>decide (p.name=s)).bind fun i=>c.txs[i]?.map fun t=>(i,t)
def qB (c:Co) (i:Nat) (t:Tx):Co:={c with txs:=c.txs.set i t}
theorem ux {c:Co} {s:ByteArray} (h:fX c s=none):fJ c s= -1:=by
 unfold fX at h
 unfold fJ
 cases hi:c.txs.findIdx? fun p=>decide (p.name=s)with
 |none=>rfl
 |some i=>
  obtain⟨hl,-⟩:=bg.1 hi
  rw[hi]at h
  simp[ah hl]at h
theorem jf {c:Co} {s:ByteArray} {i:Nat} {t:Tx} (h:fX c s=some (i,t)):fJ c s=i/\c.txs[i]? =some t/\t.name=s:=by
 unfold fX at h
 unfold fJ
 cases hi:c.txs.findIdx? fun p=>decide (p.name=s)with
 |none=>rw[hi]at h;cases h
 |some j=>
  obtain⟨hl,hn,-⟩:=bg.1 hi
  rw[hi]at h
  simp only[fm,ah hl,eD,jo,Prod.mk.injEq]at h
  obtain⟨rfl,rfl⟩:=h
  exact⟨rfl,ah hl,by simpa using hn⟩
theorem AD (c:Co) (s:ByteArray):fX c.a s=(fX c s).map fun(i,t)=>(i,t.a):=by
 have e:c.a.txs.findIdx? (fun p=>decide (p.name=s))=c.txs.findIdx? fun p=>decide (p.name=s):=by
  show(c.txs.map Tx.a).findIdx? _=_
  rw[CZ]
  rfl
 unfold fX
 rw[e]
 cases c.txs.findIdx? fun p=>decide (p.name=s)with
 |none=>rfl
 |some i=>
  show(c.txs.map Tx.a)[i]?.map _=(c.txs[i]?.map _).map _
  rw[aM]
  cases c.txs[i]? <;>rfl
theorem y3 (c:Co) (i:Nat) (t:Tx):(qB c i t).a=qB c.a i t.a:=by
 unfold qB Co.a
 simp only[cy]
theorem JC (c:Co) (s:ByteArray):(qb c s).a=qb c.a s:=by
 unfold qb Co.a
 simp only[bk,eI,mg]
 rfl
def bT (c:Co) (s:ByteArray):Co×Int×Int×Int:=match fX c s with
 |none=>if c.txs.length=8 then(yI,0,0,16)else(qb c s,c.next,0,0)
 |some (i,t)=>if t.state=3∨t.state=4 then(yI,0,0,12)else(qB c i (je t),t.pid,t.ver+1,0)
def oE (c:Co) (s:ByteArray) (ver p:Int):Co×Int:=match fX c s with
 |none=>(yI,5)
 |some (i,t)=>if t.ver≠ver then(yI,10)else if t.state=1∨t.state=2 then(qB c i (iz c.clock p t),0)else(yI,12)
def kT (c:Co) (s:ByteArray) (ver:Int) (b:Bool):Co×Int:=match fX c s with
 |none=>(yI,5)
 |some (i,t)=>if t.ver≠ver then(yI,10)else match eH (vx b) t with
  |none=>(yI,12)
  |some t'=>(qB c i t',0)
def qH (c:Co) (s:ByteArray) (p:Int):Co×Int:=match fX c s with
 |none=>(yI,5)
 |some (i,t)=>if t.state=3∨t.state=4 then if p∈t.parts then(qB c i (gA p t),0)else(yI,5)else(yI,12)
def jc (c:Co) (n:Int):Co×Int:=if 1000<n then(yI,2)else(vy c n,0)
structure oJ (k:Nat) (c:Co):Prop where
 ok:gB c=true
 clock:c.clock<=1000*k
 next:c.next<=k+1
 ver: ∀ t∈c.txs,t.ver<=k
theorem oJ.more {k m:Nat} {c:Co} (h:oJ k c) (hm:k<=m):oJ m c:=⟨h.ok,by have:=h.clock;omega,by have:=h.next;omega,fun t ht=>by have:=h.ver t ht;omega⟩
theorem Dr {α:Type} {l:List α} {i:Nat} {a x:α} (h:x∈l.set i a):x∈l∨x=a:=bH h
theorem JJ {l:List Tx} {i:Nat} {t t':Tx} (h:vv l) (hi:l[i]? =some t) (hn:t'.name=t.name) (hp:t'.pid=t.pid):vv (l.set i t'):=by
 unfold vv at h⊢
 rw[cy,hn,hp,iL (by rw[aM,hi];rfl)]
 exact h
theorem oJ.set {k:Nat} {c:Co} {i:Nat} {t t':Tx} (h:oJ k c) (hi:c.txs[i]? =some t) (hn:t'.name=t.name) (hp:t'.pid=t.pid) (hok:fG c.clock c.next t'=true) (hv:t'.ver<=k+1):oJ (k+1) (qB c i t'):=by
 obtain⟨h1,h2,h3⟩:=gJ.1 h.ok
 refine⟨gJ.2 ⟨?_,fun x hx=> ?_,JJ h3 hi hn hp⟩,?_,?_,fun x hx=> ?_⟩
 simpa [qB]using h1
 rcases Dr hx with hx|rfl
 exact h2 x hx
 exact hok
 have:=h.clock;show c.clock<=_;omega
 have:=h.next;show c.next<=_;omega
 rcases Dr hx with hx|rfl
 have:=h.ver x hx;omega
 omega
theorem O5:(1:Int)<=1:=by decide
theorem PR:(1:Int)<=2:=by decide
theorem M4:(1:Int)<=4:=by decide
theorem PQ:(2:Int)<=4:=by decide
theorem O4:(4:Int)<=4:=by decide
theorem O9:(1:Int)=1↔([]:List Int).length=0:=by decide
theorem jL {n:Int}:iQ n=true↔0<=n/\n<=1073741824:=by unfold iQ;simp
theorem HT {k:Nat} {c:Co} {s:ByteArray} (h:oJ k c) (hk:k<=1000) (hn:bM s=true) (h0:(bT c s).2.2.2=0):oJ (k+1) (bT c s).1:=by
 have hb:=h
 obtain⟨⟨h1,h2,h3,h4,h5,h6⟩,h7,h8⟩:=gJ.1 h.ok
 unfold bT at h0⊢
 cases hf:fX c s with
 |none=>
  rw[hf]at h0
  dsimp only at h0⊢
  by_cases hl:c.txs.length=8
  rw[if_pos hl]at h0;cases h0
  rw[if_neg hl]at h0⊢
  have hnx:=h.next
  have hck:=h.clock
  have hni:=ux hf
  refine⟨gJ.2 ⟨⟨h1,?_,?_,h4,h5,?_⟩,fun t ht=> ?_,?_⟩,?_,?_,fun t ht=> ?_⟩
  show 1<=c.next+1;omega
  show c.next+1<=_;omega
  show((c.txs++[_]).length:Int)<=8
  rw[ay,bP];omega
  rcases ar.1 ht with ht|ht
  have:=cB.1 (h7 t ht)
  exact cB.2 ⟨this.1,this.2.1,by show t.pid<c.next+1;have:=this.2.2.1;omega,this.2.2.2⟩
  rw[aq.1 ht]
  exact cB.2 ⟨hn,h2,by show c.next<c.next+1;omega,by kernel_rfl,O5,M4,by show(0:Int)<=0;omega,by show(0:Int)<=c.clock;exact(jL.1 h1).1,.inl Z,rfl,O9⟩
  unfold vv at h8⊢
  show((c.txs++[iO s c.next]).map _).Pairwise _
  rw[bk,lX]
  refine⟨h8,by simp,fun a ha b hb=> ?_⟩
  obtain⟨t,ht,rfl⟩:=bv.1 ha
  simp only[eI,mg,aq]at hb
  subst hb
  refine⟨fun he=> ?_,fun he=> ?_⟩
  have:(c.txs.findIdx? fun p=>decide (p.name=s))=none:=by
   cases hi:c.txs.findIdx? fun p=>decide (p.name=s)with
   |none=>rfl
   |some j=>unfold fJ at hni;rw[hi]at hni;simp[lB]at hni
  rw[dp]at this
  have:=this t ht
  simp[show t.name=s from he]at this
  have:=(cB.1 (h7 t ht)).2.2.1
  have he':t.pid=c.next:=he
  omega
  show c.clock<=_;omega
  show c.next+1<=_;omega
  rcases ar.1 ht with ht|ht
  have:=h.ver t ht;omega
  rw[aq.1 ht];show(0:Int)<=_;omega
 |some x=>
  obtain⟨i,t⟩:=x
  rw[hf]at h0
  dsimp only at h0⊢
  obtain⟨hi,ht,-⟩:=jf hf
  by_cases hs:t.state=3∨t.state=4
  rw[if_pos hs]at h0;cases h0
  rw[if_neg hs]at h0⊢
  have hm:=ae ht
  have hv:=h.ver t hm
  obtain⟨a1,a2,a3,a4,a5,a6,a7,a8,a9,a10,a11⟩:=cB.1 (h7 t hm)
  have hv0:=(jL.1 a4).1
  refine h.set ht ?_ ?_ ?_ ?_
  unfold je;split<;>rfl
  unfold je;split<;>rfl
  unfold je
  split
  rename_i h2'
  exact cB.2 ⟨a1,a2,a3,jL.2 ⟨by show 0<=t.ver+1;omega,by show t.ver+1<=_;omega⟩,M4,O4,a7,a8,a9,a10,by constructor;intro h;cases h;intro h;have:=a11.2 h;omega⟩
  exact cB.2 ⟨a1,a2,a3,jL.2 ⟨by show 0<=t.ver+1;omega,by show t.ver+1<=_;omega⟩,a5,a6,a7,a8,a9,a10,a11⟩
  unfold je;split<;>(show t.ver+1<=_;omega)
theorem F3 {l:List Int} {p:Int} (h:cT (-1) l=true) (h0:0<=p) (h3:p<4):cT (-1) (kB l p)=true/\(kB l p).length≠0:=by
 have key: ∀ (l:List Int) (a:Int),l.Pairwise (· < ·)->(∀ q∈l,a<q/\q<4)->cT a l=true:=by
  intro l
  induction l with
  |nil=>intro a _ _;rfl
  |cons x l ih=>
   intro a hp hq
   obtain⟨h1,h2⟩:=ek.1 hp
   unfold cT
   have:=hq x (aA ..)
   rw[ih x h2 fun q hq'=>⟨h1 q hq',(hq q (ak _ hq')).2⟩]
   simp[this.1,this.2]
 obtain⟨hp,hq⟩:=fI h
 unfold kB
 split
 rename_i hm
 refine⟨h,fun h0=> ?_⟩
 rw[bU h0]at hm;cases hm
 rename_i hm
 refine⟨key _ _ ?_ ?_,by simp⟩
 rw[aD,lX]
 refine⟨hp.filter _,?_,?_⟩
 rw[lX]
 refine⟨by simp,hp.filter _,fun a ha b hb=> ?_⟩
 rw[aq.1 ha]
 simp only[kP,decide_eq_true_eq]at hb
 have:b≠p:=fun h=>hm (h▸hb.1)
 omega
 intro a ha b hb
 simp only[kP,decide_eq_true_eq]at ha
 rcases ar.1 hb with hb|hb
 rw[aq.1 hb];exact ha.2
 simp only[kP,decide_eq_true_eq]at hb;omega
 intro q hq'
 simp only[ar,kP,aq,decide_eq_true_eq]at hq'
 rcases hq' with(hq'|rfl)|hq'
 exact hq q hq'.1
 omega
 exact hq q hq'.1
theorem Md {ck nx p:Int} {t:Tx} (h:fG ck nx t=true) (hc:iQ ck=true) (h0:0<=p) (h3:p<4):fG ck nx (iz ck p t)=true:=by
 obtain⟨a1,a2,a3,a4,a5,a6,a7,a8,a9,a10,a11⟩:=cB.1 h
 obtain⟨b1,b2⟩:=F3 a10 h0 h3
 have hc0:=(jL.1 hc).1
 unfold iz
 split
 exact cB.2 ⟨a1,a2,a3,a4,PR,PQ,hc0,ic _,a9,b1,by constructor;intro h;cases h;intro h;exact absurd h b2⟩
 rename_i h1
 exact cB.2 ⟨a1,a2,a3,a4,a5,a6,a7,a8,a9,b1,by constructor;intro h;exact absurd h h1;intro h;exact absurd h b2⟩
theorem Ij {k:Nat} {c:Co} {s:ByteArray} {ver p:Int} (h:oJ k c) (h0:0<=p) (h3:p<4) (he:(oE c s ver p).2=0):oJ (k+1) (oE c s ver p).1:=by
 obtain⟨⟨h1,-⟩,h7,-⟩:=gJ.1 h.ok
 unfold oE at he⊢
 cases hf:fX c s with
 |none=>rw[hf]at he;cases he
 |some x=>
  obtain⟨i,t⟩:=x
  rw[hf]at he
  dsimp only at he⊢
  obtain⟨-,ht,-⟩:=jf hf
  split at he
  cases he
  rename_i hv
  rw[if_neg hv]
  split at he
  rename_i hs
  rw[if_pos hs]
  have hm:=ae ht
  refine h.set ht ?_ ?_ (Md (h7 t hm) h1 h0 h3) ?_
  unfold iz;split<;>rfl
  unfold iz;split<;>rfl
  have:=h.ver t hm
  unfold iz;split<;>(show t.ver<=_;omega)
  cases he
theorem LK {ck nx w:Int} {t t':Tx} (h:fG ck nx t=true) (hw:w=3∨w=4) (he:eH w t=some t'):fG ck nx t'=true/\t'.name=t.name/\t'.pid=t.pid/\t'.ver=t.ver:=by
 obtain⟨a1,a2,a3,a4,a5,a6,a7,a8,a9,a10,a11⟩:=cB.1 h
 unfold eH at he
 split at he
 injection he with he;subst he
 refine⟨cB.2 ⟨a1,a2,a3,a4,by show 1<=w;omega,by show w<=4;omega,a7,a8,a9,a10,?_⟩,rfl,rfl,rfl⟩
 constructor
 intro h;have h':w=1:=h;omega
 intro h;have:=a11.2 h;omega
 split at he
 injection he with he;subst he
 exact⟨cB.2 ⟨a1,a2,a3,a4,a5,a6,a7,a8,.inr hw,a10,a11⟩,rfl,rfl,rfl⟩
 split at he
 injection he with he;subst he
 exact⟨h,rfl,rfl,rfl⟩
 cases he
theorem It (b:Bool):vx b=3∨vx b=4:=by cases b<;>simp[vx]
theorem HY {k:Nat} {c:Co} {s:ByteArray} {ver:Int} {b:Bool} (h:oJ k c) (he:(kT c s ver b).2=0):oJ (k+1) (kT c s ver b).1:=by
 obtain⟨-,h7,-⟩:=gJ.1 h.ok
 unfold kT at he⊢
 cases hf:fX c s with
 |none=>rw[hf]at he;cases he
 |some x=>
  obtain⟨i,t⟩:=x
  rw[hf]at he
  dsimp only at he⊢
  obtain⟨-,ht,-⟩:=jf hf
  split at he
  cases he
  rename_i hv
  rw[if_neg hv]
  have hm:=ae ht
  cases hx:eH (vx b) t with
  |none=>rw[hx]at he;cases he
  |some t'=>
   obtain⟨b1,b2,b3,b4⟩:=LK (h7 t hm) (It b) hx
   refine h.set ht b2 b3 b1 ?_
   have:=h.ver t hm;omega
theorem zK {l:List Int} (h:cT (-1) l=true) (f:Int->Bool):cT (-1) (l.filter f)=true:=by
 have key: ∀ (l:List Int) (a:Int),l.Pairwise (· < ·)->(∀ q∈l,a<q/\q<4)->cT a l=true:=by
  intro l
  induction l with
  |nil=>intro a _ _;rfl
  |cons x l ih=>
   intro a hp hq
   obtain⟨h1,h2⟩:=ek.1 hp
   unfold cT
   have:=hq x (aA ..)
   rw[ih x h2 fun q hq'=>⟨h1 q hq',(hq q (ak _ hq')).2⟩]
   simp[this.1,this.2]
 obtain⟨hp,hq⟩:=fI h
 exact key _ _ (hp.filter _) fun q hq'=>hq q ((kP.1 hq').1)
theorem Jw {ck nx p:Int} {t:Tx} (h:fG ck nx t=true) (hs:t.state=3∨t.state=4):fG ck nx (gA p t)=true/\(gA p t).name=t.name/\(gA p t).pid=t.pid/\(gA p t).ver=t.ver:=by
 obtain⟨a1,a2,a3,a4,a5,a6,a7,a8,a9,a10,a11⟩:=cB.1 h
 unfold gA
 split
 exact⟨cB.2 ⟨a1,a2,a3,a4,O5,M4,a7,a8,.inr hs,rfl,O9⟩,rfl,rfl,rfl⟩
 rename_i hl
 refine⟨cB.2 ⟨a1,a2,a3,a4,a5,a6,a7,a8,a9,zK a10 _,?_⟩,rfl,rfl,rfl⟩
 constructor
 intro h;have h':t.state=1:=h;omega
 intro h;exact absurd h hl
theorem FP {k:Nat} {c:Co} {s:ByteArray} {p:Int} (h:oJ k c) (he:(qH c s p).2=0):oJ (k+1) (qH c s p).1:=by
 obtain⟨-,h7,-⟩:=gJ.1 h.ok
 unfold qH at he⊢
 cases hf:fX c s with
 |none=>rw[hf]at he;cases he
 |some x=>
  obtain⟨i,t⟩:=x
  rw[hf]at he
  dsimp only at he⊢
  obtain⟨-,ht,-⟩:=jf hf
  split at he
  rename_i hs
  rw[if_pos hs]
  split at he
  rename_i hp
  rw[if_pos hp]
  have hm:=ae ht
  obtain⟨b1,b2,b3,b4⟩:=Jw (p:=p) (h7 t hm) hs
  refine h.set ht b2 b3 b1 ?_
  have:=h.ver t hm;omega
  cases he
  cases he
theorem xr {ck ck2 nx wt:Int} {t:Tx} (h:fG ck nx t=true) (hc:ck<=ck2):fG ck2 nx (fk ck2 wt t)=true/\(fk ck2 wt t).name=t.name/\(fk ck2 wt t).pid=t.pid/\(fk ck2 wt t).ver<=t.ver+1:=by
 obtain⟨a1,a2,a3,a4,a5,a6,a7,a8,a9,a10,a11⟩:=cB.1 h
 have hv:=jL.1 a4
 unfold fk
 split
 rename_i h2
 refine⟨cB.2 ⟨a1,a2,a3,jL.2 ⟨by show 0<=t.ver+1;omega,by show t.ver+1<=_;omega⟩,M4,O4,a7,by show t.since<=ck2;omega,a9,a10,?_⟩,rfl,rfl,ic _⟩
 constructor
 intro h;cases h
 intro h;have:=a11.2 h;omega
 exact⟨cB.2 ⟨a1,a2,a3,a4,a5,a6,a7,by omega,a9,a10,a11⟩,rfl,rfl,by omega⟩
theorem Ex {k:Nat} {c:Co} {n:Int} (h:oJ k c) (hk:k<=1000) (hn:0<=n) (he:(jc c n).2=0):oJ (k+1) (jc c n).1:=by
 obtain⟨⟨h1,h2,h3,h4,h5,h6⟩,h7,h8⟩:=gJ.1 h.ok
 have hck:=h.clock
 have hc0:=(jL.1 h1).1
 unfold jc at he⊢
 split at he
 cases he
 rename_i hn1
 rw[if_neg hn1]
 unfold vy
 refine⟨gJ.2 ⟨⟨jL.2 ⟨by show 0<=c.clock+n;omega,by show c.clock+n<=_;omega⟩,h2,h3,h4,h5,by simpa using h6⟩,fun t ht=> ?_,?_⟩,by show c.clock+n<=1000*((k+1:Nat):Int);omega,by have:=h.next;show c.next<=_;omega,fun t ht=> ?_⟩
 obtain⟨x,hx,rfl⟩:=bv.1 ht
 exact(xr (h7 x hx) (show c.clock<=c.clock+n by omega)).1
 unfold vv at h8⊢
 dsimp only
 rw[r4]
 rw[List.map_congr_left (g:=fun t=>(t.name,t.pid)) fun t ht=>by
  obtain⟨-,e1,e2,-⟩:=xr (ck2:=c.clock+n) (wt:=c.wait) (h7 t ht) I
  show((fk _ _ t).name,(fk _ _ t).pid)=_
  rw[e1,e2]]
 exact h8
 obtain⟨x,hx,rfl⟩:=bv.1 ht
 obtain⟨-,-,-,e3⟩:=xr (ck2:=c.clock+n) (wt:=c.wait) (h7 x hx) I
 have:=h.ver x hx
 omega
theorem oJ.a {k:Nat} {c:Co} (h:oJ k c):oJ k c.a:=⟨by rw[<-sI];exact h.ok,h.clock,h.next,fun t ht=>by
 obtain⟨x,hx,rfl⟩:=bv.1 (show t∈c.txs.map Tx.a from ht)
 exact h.ver x hx⟩
theorem oJ.of_a {k:Nat} {c:Co} (h:oJ k c.a):oJ k c:=⟨by rw[sI];exact h.ok,h.clock,h.next,fun t ht=>h.ver t.a (bL (f:=Tx.a) ht)⟩
theorem oJ.at_ {k:Nat} {c:Co} (h:oJ k c) {i:Nat} {t:Tx} (ht:c.txs[i]? =some t):fG c.clock c.next t=true:=(gJ.1 h.ok).2.1 t (ae ht)
theorem Dd {c:Co} {s:ByteArray} {i:Nat} {t:Tx} (h:fX c s=some (i,t)):fX c.a s=some (i,t.a):=by rw[AD,h];rfl
theorem GH {c:Co} {s:ByteArray} (h:fX c s=none):fX c.a s=none:=by rw[AD,h];rfl
theorem Lg (t:Tx):je t.a=(je t).a:=by
 unfold je
 by_cases h:t.state=2
 rw[if_pos (show t.a.state=2 from h),if_pos h];rfl
 rw[if_neg (show¬ t.a.state=2 from h),if_neg h];rfl
theorem wy (c:Co) (s:ByteArray) (k:Nat) (w:World) (h:c.rd 0 w.heap.size w) (hb:oJ k c) (hk:k<=1000) (hn:bM s=true):dd aa mu [c.v,.string s] w fun v w2=> ∃ c':Co,v=.tuple #[c'.v,J (bT c.a s).2.1,J (bT c.a s).2.2.1,J (bT c.a s).2.2.2]/\c'.a=(bT c.a s).1/\uc w w2 c':=by
 have hnx:=hb.next
 have hpost:(bT c s).2.2.2=0->oJ (k+1) (bT c s).1:=HT hb hk hn
 cases hf:fX c s with
 |none=>
  have hi:=ux hf
  have ha:=GH hf
  unfold bT at hpost⊢
  rw[ha]
  rw[hf]at hpost
  dsimp only at hpost⊢
  by_cases hl:c.txs.length=8
  rw[if_pos (show c.a.txs.length=8 by simpa [Co.a]using hl)]
  exact(FS c s w h hb.ok hn I hl).mono fun v w2 ⟨h1,h2⟩=>⟨yI,h1,rfl,pi h2⟩
  rw[if_neg (show¬ c.a.txs.length=8 by simpa [Co.a]using hl)]
  rw[if_neg hl]at hpost
  exact(Jh c s w h hb.ok hn I hl I).mono fun v w2 ⟨c',Lr,Lp,h1,h2⟩=>⟨c',h1,h2.1,h2.new (by rw[<-JC,<-sI];exact(hpost Z).ok)⟩
 |some x=>
  obtain⟨i,t⟩:=x
  obtain⟨hi,ht,-⟩:=jf hf
  have ha:=Dd hf
  have hm:=ae ht
  have hv0:=jL.1 (cB.1 (hb.at_ ht)).2.2.2.1
  have hv:=hb.ver t hm
  unfold bT at hpost⊢
  rw[ha]
  rw[hf]at hpost
  dsimp only at hpost⊢
  by_cases hs:t.state=3∨t.state=4
  rw[if_pos (show t.a.state=3∨t.a.state=4 from hs)]
  exact(GX c s i t w h hb.ok hn hi ht hs).mono fun v w2 ⟨h1,h2⟩=>⟨yI,h1,rfl,pi h2⟩
  rw[if_neg (show¬ (t.a.state=3∨t.a.state=4)from hs)]
  rw[if_neg hs]at hpost
  exact(GY c s i t w h hb.ok hn hi ht (fun h=>hs (.inl h)) (fun h=>hs (.inr h)) hv0.1 I).mono fun v w2 ⟨c',Lr,Lp,h1,h2⟩=>⟨c',h1,h2.1.trans (by rw[show({c with txs:=c.txs.set i (je t)}:Co)=qB c i (je t)from rfl,y3,Lg]),h2.new (by rw[<-sI];exact(hpost Z).ok)⟩
theorem Me (ck p:Int) (t:Tx):iz ck p t.a=(iz ck p t).a:=by
 unfold iz
 by_cases h:t.state=1
 rw[if_pos (show t.a.state=1 from h),if_pos h];rfl
 rw[if_neg (show¬ t.a.state=1 from h),if_neg h];rfl
theorem FZ (c:Co) (s:ByteArray) (ver p:Int) (k:Nat) (w:World) (h:c.rd 0 w.heap.size w) (hb:oJ k c) (hn:bM s=true) (h0:0<=p) (h3:p<4):dd aa oe [c.v,.string s,J ver,J p] w fun v w2=> ∃ c':Co,v=.tuple #[c'.v,J (oE c.a s ver p).2]/\c'.a=(oE c.a s ver p).1/\uc w w2 c':=by
 have hpost:(oE c s ver p).2=0->oJ (k+1) (oE c s ver p).1:=Ij hb h0 h3
 cases hf:fX c s with
 |none=>
  have hi:=ux hf
  have ha:=GH hf
  unfold oE
  rw[ha]
  exact(Mc c s ver p w h hb.ok hn hi).mono fun v w2 ⟨h1,h2⟩=>⟨yI,h1,rfl,pi h2⟩
 |some x=>
  obtain⟨i,t⟩:=x
  obtain⟨hi,ht,-⟩:=jf hf
  have ha:=Dd hf
  unfold oE at hpost⊢
  rw[ha]
  rw[hf]at hpost
  dsimp only at hpost⊢
  by_cases hv:t.ver=ver
  rw[if_neg (show¬ t.a.ver≠ver from fun h=>h hv)]
  rw[if_neg (fun h=>h hv)]at hpost
  by_cases hs:t.state=1∨t.state=2
  rw[if_pos (show t.a.state=1∨t.a.state=2 from hs)]
  rw[if_pos hs]at hpost
  exact(OH c s ver p i t w h hb.ok hn hi ht hv h0 h3 hs (cB.1 (hb.at_ ht)).2.2.2.2.2.2.2.2.2.1).mono fun v w2 ⟨c',Lr,Lp,h1,h2⟩=>⟨c',h1,h2.1.trans (by rw[show({c with txs:=c.txs.set i (iz c.clock p t)}:Co)=qB c i (iz c.clock p t)from rfl,y3,Me];rfl),h2.new (by rw[<-sI];exact(hpost Z).ok)⟩
  rw[if_neg (show¬ (t.a.state=1∨t.a.state=2)from hs)]
  exact(JN c s ver p i t w h hb.ok hn hi ht hv h0 h3 (fun h=>hs (.inl h)) (fun h=>hs (.inr h))).mono fun v w2 ⟨h1,h2⟩=>⟨yI,h1,rfl,pi h2⟩
  rw[if_pos (show t.a.ver≠ver from hv)]
  exact(JO c s ver p i t w h hb.ok hn hi ht hv).mono fun v w2 ⟨h1,h2⟩=>⟨yI,h1,rfl,pi h2⟩
theorem Ni (w:Int) (t:Tx):eH w t.a=(eH w t).map Tx.a:=by
 unfold eH
 by_cases h1:t.state=2
 rw[if_pos (show t.a.state=2 from h1),if_pos h1];rfl
 rw[if_neg (show¬ t.a.state=2 from h1),if_neg h1]
 by_cases h2:t.state=1/\t.done=0
 rw[if_pos (show t.a.state=1/\t.a.done=0 from h2),if_pos h2];rfl
 rw[if_neg (show¬ (t.a.state=1/\t.a.done=0)from h2),if_neg h2]
 by_cases h3:t.state=w∨(t.state=1/\t.done=w)
 rw[if_pos (show t.a.state=w∨(t.a.state=1/\t.a.done=w)from h3),if_pos h3];rfl
 rw[if_neg (show¬ (t.a.state=w∨(t.a.state=1/\t.a.done=w))from h3),if_neg h3];rfl
theorem FL (c:Co) (s:ByteArray) (ver:Int) (b:Bool) (k:Nat) (w:World) (h:c.rd 0 w.heap.size w) (hb:oJ k c) (hn:bM s=true):dd aa lO [c.v,.string s,J ver,.bool b] w fun v w2=> ∃ c':Co,v=.tuple #[c'.v,J (kT c.a s ver b).2]/\c'.a=(kT c.a s ver b).1/\uc w w2 c':=by
 have hpost:(kT c s ver b).2=0->oJ (k+1) (kT c s ver b).1:=HY hb
 cases hf:fX c s with
 |none=>
  have hi:=ux hf
  have ha:=GH hf
  unfold kT
  rw[ha]
  exact(LJ c s ver b w h hb.ok hn hi).mono fun v w2 ⟨h1,h2⟩=>⟨yI,h1,rfl,pi h2⟩
 |some x=>
  obtain⟨i,t⟩:=x
  obtain⟨hi,ht,-⟩:=jf hf
  have ha:=Dd hf
  unfold kT at hpost⊢
  rw[ha]
  rw[hf]at hpost
  dsimp only at hpost⊢
  by_cases hv:t.ver=ver
  rw[if_neg (show¬ t.a.ver≠ver from fun h=>h hv),Ni]
  rw[if_neg (fun h=>h hv)]at hpost
  have main:dd aa lO [c.v,.string s,J ver,.bool b] w fun v w2=>match eH (vx b) t with|none=>v=.tuple #[.agg #[J 0,J 0,J 0,.slice none 0 0],J 12]/\Below w.heap.size w w2|some t'=> ∃ (c':Co) (Lr Lp:List (Nat×Obj)),v=.tuple #[c'.v,J 0]/\qi w w2 (Co.a {c with txs:=c.txs.set i t'}) c' Lr Lp:=by
   cases b
   exact Js c s ver i t w h hb.ok hn hi ht hv
   exact LI c s ver i t w h hb.ok hn hi ht hv
  cases hx:eH (vx b) t with
  |none=>
   rw[hx]at main
   exact main.mono fun v w2 ⟨h1,h2⟩=>⟨yI,h1,rfl,pi h2⟩
  |some t'=>
   rw[hx]at main hpost
   exact main.mono fun v w2 ⟨c',Lr,Lp,h1,h2⟩=>⟨c',h1,h2.1.trans (by rw[show({c with txs:=c.txs.set i t'}:Co)=qB c i t' from rfl,y3];rfl),h2.new (by rw[<-sI];exact(hpost Z).ok)⟩
  rw[if_pos (show t.a.ver≠ver from hv)]
  exact(Jr c s ver b i t w h hb.ok hn hi ht hv).mono fun v w2 ⟨h1,h2⟩=>⟨yI,h1,rfl,pi h2⟩
theorem LM (p:Int) (t:Tx):gA p t.a=(gA p t).a:=by
 unfold gA
 by_cases h:(t.parts.filter fun q=>decide (q≠p)).length=0
 rw[if_pos (show(t.a.parts.filter fun q=>decide (q≠p)).length=0 from h),if_pos h];rfl
 rw[if_neg (show¬ (t.a.parts.filter fun q=>decide (q≠p)).length=0 from h),if_neg h];rfl
theorem Jy (c:Co) (s:ByteArray) (p:Int) (k i:Nat) (t:Tx) (w:World) (h:c.rd 0 w.heap.size w) (hb:oJ k c) (hn:bM s=true) (hf:fX c.a s=some (i,t)) (h34:t.state=3∨t.state=4) (hp:p∈t.parts):dd aa wE [c.v,.string s,J p] w fun v w2=> ∃ c':Co,v=.tuple #[c'.v,J 0]/\c'.a=(qH c.a s p).1/\uc w w2 c':=by
 have hpost:(qH c s p).2=0->oJ (k+1) (qH c s p).1:=FP hb
 rw[AD]at hf
 obtain⟨⟨j,x⟩,hg,he⟩:=iH.1 hf
 clear hf
 simp only[Prod.mk.injEq]at he
 obtain⟨rfl,rfl⟩:=he
 obtain⟨hi,ht,-⟩:=jf hg
 have ha:=Dd hg
 unfold qH at hpost⊢
 rw[ha]
 rw[hg]at hpost
 dsimp only at hpost⊢
 rw[if_pos h34,if_pos hp]
 rw[if_pos (show x.state=3∨x.state=4 from h34),if_pos (show p∈x.parts from hp)]at hpost
 exact(Nj c s p i x w h hb.ok hn hi ht h34 hp (cB.1 (hb.at_ ht)).2.2.2.2.2.2.2.2.2.1).mono fun v w2 ⟨c',Lr,Lp,h1,h2⟩=>⟨c',h1,h2.1.trans (by rw[show({c with txs:=c.txs.set i (gA p x)}:Co)=qB c i (gA p x)from rfl,y3,LM]),h2.new (by rw[<-sI];exact(hpost Z).ok)⟩
theorem LH (t:Tx):gQ t.a=gQ t:=rfl
theorem KQ (l:List Tx) (n:Nat):gZ (l.map Tx.a) n=(gZ l n).map Tx.a:=by
 unfold gZ
 rw[List.filter_map,show(gQ∘Tx.a)=gQ from funext LH,aM]
theorem E6 (c:Co) (n:Nat) (w:World) (h:c.rd 0 w.heap.size w) (hok:gB c=true) (hn:n<=1000):dd aa wD [c.v,J (n:Nat)] w fun v w2=>v=ym (gZ c.a.txs n)/\Below w.heap.size w w2:=by
 refine(MU c n w h hok hn).mono fun v w2 ⟨h1,h2⟩=>⟨?_,h2⟩
 rw[h1,show c.a.txs=c.txs.map Tx.a from rfl,KQ]
 cases gZ c.txs n<;>rfl
theorem Iy (c:Co) (n:Int):(vy c n).a=vy c.a n:=by
 unfold vy Co.a
 simp only[r4]
 congr 1
 exact List.map_congr_left fun t _=>Kb _ _ t
theorem Cg (c:Co) (n:Int) (k:Nat) (w:World) (h:c.rd 0 w.heap.size w) (hb:oJ k c) (hk:k<=1000) (hn:0<=n):dd aa sv [c.v,J n] w fun v w2=> ∃ c':Co,v=.tuple #[c'.v,J (jc c.a n).2]/\c'.a=(jc c.a n).1/\uc w w2 c':=by
 have hpost:(jc c n).2=0->oJ (k+1) (jc c n).1:=Ex hb hk hn
 have hck:=hb.clock
 unfold jc at hpost⊢
 by_cases hf:1000<n
 rw[if_pos hf]
 exact(J9 c n w h hb.ok hf).mono fun v w2 ⟨h1,h2⟩=>⟨yI,h1,rfl,pi h2⟩
 rw[if_neg hf]
 rw[if_neg hf]at hpost
 exact(Ms c n w h hb.ok hn I I).mono fun v w2 ⟨c',Lr,Lp,h1,h2⟩=>⟨c',h1,h2.1,h2.new (by rw[<-Iy,<-sI];exact(hpost Z).ok)⟩
theorem Gv (es:List cH) (A:Option Addr) (c n a most:Nat) (w:World) (hr:Rd gz 0 w.heap.size A es w) (hc:es.length<=c) (hb:es.length<=1000000) (hn:n<=es.length) (ha:es.length<a):
  dd aa yu [.slice A es.length c,J (n:Nat),J (a:Nat),J (most:Nat)] w fun v w2=>v=.tuple #[.slice none 0 0,J 0,J 2]/\Below w.heap.size w w2:=by
 refine aE wI Z Z ?_
 have H:=Hp.startRd hr
 refine W<|Zr<|G (Ws Z)<|G (Wi Z)<|G (Wi Z)<|U<|W<|Zr<|G (Ys Z)<|G (Yi Z)<|cd tZ (Ck es _ _ n _ (H.rd0 0 Z) hc hb hn) Z Z ?_
 rintro _ w1 ⟨st,hst,rfl,hb2⟩;replace H:=H.later hb2;clear hb2
 refine G (Yu Z)<|G (Xi Z Z)<|G (Xi Z Z)<|G (Wi Z)<|G (Wi Z)<|U<|W<|W<|Zr<|G (Yi Z)<|G (bX Z Z Z)<|U<|ZF Z<|Zk<|W<|W<|Zr<|G (Yi Z)<|G (cY Z Z I)<|G (Yb Z)<|ZG<|G (Yi Z)<|ZG<|G (Ys Z)<|ZG<|G (bn eh Z)<|ZG<|G (G4 Z Z I)<|G (N Z Z)<|G (Yb Z)<|ZN<|ZN<|G (Kt Z Z)<|G (Yb Z)<|ZN<|ZN<|G (Kt Z Z)<|U<|ZT Z<|W ?_
 refine Zr<|G (Ws Z)<|G (Wi Z)<|G (Wi Z)<|U<|Zt ?_
 exact G8 Z Z Z Z ⟨rfl,H.below⟩
theorem EX (p:Pa) (a most l:Nat) (r:eW) (w:World) (h:p.rd 0 w.heap.size w) (hok:p.a.ok) (hld:p.leader=l) (hr:p.reps[l]? =some r) (ha:r.es.length<a):dd aa tK [p.v,J (a:Nat),J (most:Nat)] w fun v w2=>v=.tuple #[.slice none 0 0,J 0,J 2]/\Below w.heap.size w w2:=by
 refine aE sD Z Z ?_
 obtain⟨hn1,hn2,hil,hkl,hf1,hf2,he0,he1,hl0,hl1,hb0,hb1,hsm⟩:=Pa.facts hok
 have hkn:=hok.known
 have hiC:=h.iC
 have hkC:=h.kC
 have hrC:=h.rC
 have hfew:=h.few
 have H:=Hp.startPa h
 obtain⟨ep,ld,isr,iA,iC,kn,kA,kC,reps,rA,rC,fw,bs⟩:=p
 simp only[Pa.a]at hkn
 dsimp only at H hn1 hn2 hil hkl hf1 hf2 he0 he1 hl0 hl1 hb0 hb1 hsm hiC hkC hrC hfew
 dsimp only at hld hr
 have hll:=(cD hr).1
 show CW _ _ _ _ (args [.agg #[J (ep),J (ld),.slice iA isr.length iC,.slice kA kn.length kC,.slice rA reps.length rC,J (fw),J (bs)],J (((a:Nat):Int)),J (((most:Nat):Int))]) w
 refine W<|Zr<|fS H Z Z fun w1 b3 H=>G (Ws Z)<|G (Wi Z)<|G (Wi Z)<|U<|W<|W<|Zr<|G (Zw aG H 0 Z Z Z)<|cd lr (rD ⟨ep,ld,isr,iA,iC,kn,kA,kC,reps,rA,rC,fw,bs⟩ _ (Hp.pa H 0 Z) hok) Z Z ?_
 rintro _ w2 ⟨rfl,hb⟩;replace H:=H.later hb;clear hb
 refine G (Wi Z)<|U<|W<|Zr<|G (Yi Z)<|G (bX Z Z Z)<|U<|ZF Z<|Zk<|W<|W<|Zr<|G (Zf dr Z)<|G (Zd aj H 0 Z Z Z)<|G (cY Z Z I)<|U<|ZF Z<|Zk<|W<|Zr<|G (Zf cP Z)<|G (Zd bR H 0 Z Z Z)<|G (Zf dr Z)<|G (Zd aj H 0 Z Z Z)<|pK (k:=l) H 3 Z bu Z (congrArg (Value.int .i64) hld) I I Z fun bq3 o3 x3 e3=> ?_
 obtain rfl:x3=r:=by have:=e3.at_;rw[hr]at this;exact(bB this).symm
 obtain⟨n,hnn⟩: ∃ n:Nat,x3.high=n:=⟨x3.high.toNat,by have:=(Pa.repOk hok (i:=l) hr).2.1;omega⟩
 refine G (jd (xs:=eW.c x3) lV Z Z e3.cl)<|eC H m7 Z fun w4 b10 H=>bl H 0 (#[.bool (x3.up),.slice x3.A ((bd x3.es).length) x3.cap,J (((fC x3.es x3.s:Nat):Int)),J (x3.high)]) j5 Z Z Z Z Z N N fun w5 H=>U<|W<|Zr<|G (Zf dq Z)<|G (jG 1 [.slice x3.A ((bd x3.es).length) x3.cap,J (((fC x3.es x3.s:Nat):Int))] eK Z Z (H.ent (i:=0) Z) Z)<|cd fL (gb x3.A x3.cap x3.es x3.s _ (Pa.log (Hp.pa H 0 Z) hok (i:=l) hr)) Z Z ?_
 have hloen:=H.size
 rintro _ w6 ⟨Aen,cen,rfl,hren,hcen,hben⟩;replace H:=H.learnRd hben hren;clear hren hben
 refine G (Yu Z)<|G (Xs Z Z)<|G (Xi Z Z)<|G (Xi Z Z)<|G (Ws Z)<|G (Wi Z)<|G (Wi Z)<|U<|W<|Zr<|G (Ys Z)<|G (Zf dV Z)<|G (Zd aj H 0 Z Z Z)<|G (Yi Z)<|G (Yi Z)<|cd wV ((by have hA:=Gv x3.es Aen cen n a most _ (H.rd0 0 Z) hcen (by have:=(Pa.repOk hok (i:=l) hr).1.len;omega) (by have:=(Pa.repOk hok (i:=l) hr).2.2;omega) ha;rw[<-hnn]at hA;exact hA)) Z Z ?_
 rintro _ w7 ⟨rfl,hb⟩;replace H:=H.later hb;clear hb
 refine G (Xs Z Z)<|G (Xi Z Z)<|G (Xi Z Z)<|G (Ws Z)<|G (Wi Z)<|G (Wi Z)<|U<|Zt ?_
 exact G8 Z Z Z Z ⟨rfl,H.below⟩

/-- an act of a script -/
structure Act where
 kind:Int
 name:ByteArray
 part:Int
 n:Int
 m:Int
 text:ByteArray
 lost:Int
def Act.c (a:Act):List Value:=[J a.kind,.string a.name,J a.part,J a.n,J a.m,.string a.text,J a.lost]
abbrev Act.v (a:Act):Value:=.agg a.c.toArray
def tg:fj Act:=⟨Act.c,7,fun _=>rfl,by decide,fun a u hu=>by
 simp only[Act.c,av,bx,or_false]at hu
 rcases hu with h|h|h|h|h|h|h<;>subst h<;>rfl⟩
structure An where
 code:Int
 n:Int
 texts:List ByteArray
structure Sn where
 name:ByteArray
 pid:Int
 ver:Int
 inn:Bool
 seqs:List Int
 sA:Option Addr
 sC:Nat
 last:List cH
 lA:Option Addr
 lC:Nat
def Sn.c (s:Sn):List Value:=[.string s.name,J s.pid,J s.ver,.bool s.inn,.slice s.sA s.seqs.length s.sC,.slice s.lA s.last.length s.lC]
def zx:fj Sn:=⟨Sn.c,6,fun _=>rfl,by decide,fun a u hu=>by
 simp only[Sn.c,av,bx,or_false]at hu
 rcases hu with h|h|h|h|h|h<;>subst h<;>rfl⟩
def Sn.a (s:Sn):Sn:={s with sA:=none,sC:=0,lA:=none,lC:=0}
structure Pq where
 p:Pa
 lo:Nat
 hi:Nat
def Bh:fj Pq:=⟨fun q=>q.p.c,7,fun _=>rfl,by decide,fun a u hu=>by
 simp only[Pa.c,av,bx,or_false]at hu
 rcases hu with h|h|h|h|h|h|h<;>subst h<;>rfl⟩
structure Bk where
 ps:List Pq
 pA:Option Addr
 pC:Nat
 co:Co
 clo:Nat
 chi:Nat
 gr:Gr
 glo:Nat
 ghi:Nat
 sns:List Sn
 snA:Option Addr
 snC:Nat
def Bk.c (b:Bk):List Value:=[.slice b.pA b.ps.length b.pC,J b.co.clock,J b.co.next,J b.co.wait,.slice b.co.A b.co.txs.length b.co.cap,J b.gr.clock,J b.gr.wait,J b.gr.gen,.slice b.gr.mA b.gr.ms.length b.gr.mC,.slice b.gr.oA b.gr.os.length b.gr.oC,.slice b.snA b.sns.length b.snC]
structure Wa where
 ps:List gD
 co:Co
 gr:Gr
 sns:List Sn
def Bk.a (b:Bk):Wa:=⟨b.ps.map fun q=>q.p.a,b.co.a,b.gr.a,b.sns.map Sn.a⟩
def qh:List Sn->List (Nat×Obj)->Prop
 |[],L=>L=[]
 |s::l,L=> ∃ gq uq gl ul L',s.sA=some ⟨gq,0,none⟩/\s.lA=some ⟨gl,0,none⟩/\dU bS s.seqs s.sC uq/\dU gz s.last s.lC ul/\L=(gq,.cells uq cW (0,0))::(gl,.cells ul dh (0,0))::L'/\qh l L'
theorem qh.at_: ∀ {l:List Sn} {L:List (Nat×Obj)} {i:Nat} {s:Sn},qh l L->l[i]? =some s-> ∃ gq uq gl ul La Lb,s.sA=some ⟨gq,0,none⟩/\s.lA=some ⟨gl,0,none⟩/\dU bS s.seqs s.sC uq/\dU gz s.last s.lC ul/\L=La++((gq,.cells uq cW (0,0))::(gl,.cells ul dh (0,0))::Lb)/\ ∀ (s':Sn) (gq':Nat) (uq':Array Value) (gl':Nat) (ul':Array Value),s'.sA=some ⟨gq',0,none⟩->s'.lA=some ⟨gl',0,none⟩->dU bS s'.seqs s'.sC uq'->dU gz s'.last s'.lC ul'->qh (l.set i s') (La++((gq',.cells uq' cW (0,0))::(gl',.cells ul' dh (0,0))::Lb))
 |[],_,_,_,_,h=>by simp at h
 |x::l,L,0,s,h,hi=>by
  obtain⟨gq,uq,gl,ul,L',h1,h2,h3,h4,rfl,h6⟩:=h
  have:x=s:=by simpa using hi
  subst this
  exact⟨gq,uq,gl,ul,[],L',h1,h2,h3,h4,rfl,fun s' gq' uq' gl' ul' a1 a2 a3 a4=>⟨gq',uq',gl',ul',L',a1,a2,a3,a4,rfl,h6⟩⟩
 |x::l,L,i+1,s,h,hi=>by
  obtain⟨gq,uq,gl,ul,L',h1,h2,h3,h4,rfl,h6⟩:=h
  obtain⟨kq,vq,kl,vl,La,Lb,b1,b2,b3,b4,rfl,b6⟩:=qh.at_ (i:=i) h6 (by simpa using hi)
  exact⟨kq,vq,kl,vl,(gq,.cells uq cW (0,0))::(gl,.cells ul dh (0,0))::La,Lb,b1,b2,b3,b4,rfl,fun s' gq' uq' gl' ul' a1 a2 a3 a4=>⟨gq,uq,gl,ul,_,h1,h2,h3,h4,rfl,b6 s' gq' uq' gl' ul' a1 a2 a3 a4⟩⟩
theorem qh.snoc: ∀ {l:List Sn} {L:List (Nat×Obj)} {s:Sn} {gq gl:Nat} {uq ul:Array Value},qh l L->s.sA=some ⟨gq,0,none⟩->s.lA=some ⟨gl,0,none⟩->dU bS s.seqs s.sC uq->dU gz s.last s.lC ul->qh (l++[s]) (L++[(gq,.cells uq cW (0,0)),(gl,.cells ul dh (0,0))])
 |[],L,s,gq,gl,uq,ul,h,a1,a2,a3,a4=>by
  have:L=[]:=h
  subst this
  exact⟨gq,uq,gl,ul,[],a1,a2,a3,a4,rfl,rfl⟩
 |x::l,L,s,gq,gl,uq,ul,h,a1,a2,a3,a4=>by
  obtain⟨kq,vq,kl,vl,L',h1,h2,h3,h4,rfl,h6⟩:=h
  exact⟨kq,vq,kl,vl,_,h1,h2,h3,h4,rfl,h6.snoc a1 a2 a3 a4⟩
def xi (w0:World) (lo hi:Nat) (c:Co):ci:=⟨lo,hi,fun w=>w0.heap.size<=lo/\c.rd lo hi w,fun _ _ hk h=>⟨h.1,h.2.st hk⟩⟩
def JS (w0:World) (lo hi:Nat) (g:Gr):ci:=⟨lo,hi,fun w=>w0.heap.size<=lo/\g.rd lo hi w,fun _ _ hk h=>⟨h.1,h.2.st hk⟩⟩
def tk (w0:World) (lo hi:Nat) (p:Pa):ci:=⟨lo,hi,fun w=>w0.heap.size<=lo/\p.rd lo hi w,fun _ _ hk h=>⟨h.1,h.2.st hk⟩⟩
structure Bw (w0 w:World) (bb:Nat) (b:Bk) (gP:Nat) (uP:Array Value) (Ls Lo K:List (Nat×Obj)) (F:List ci):Prop where
 pA:b.pA=some ⟨gP,0,none⟩
 row:dU Bh b.ps b.pC uP
 sn:gi zx (.slice b.snA b.sns.length b.snC) fz b.sns Ls
 own:qh b.sns Lo
 co:xi w0 b.clo b.chi b.co∈F
 gr:JS w0 b.glo b.ghi b.gr∈F
 ps: ∀ q∈b.ps,tk w0 q.lo q.hi q.p∈F
 H:Hp w0 w ((bb,.cells b.c.toArray bK (0,0))::(gP,.cells uP bz (0,0))::(Ls++(Lo++K))) F
def xj (w0 w:World) (bb:Nat) (b:Bk) (K:List (Nat×Obj)) (F:List ci):Prop:= ∃ gP uP Ls Lo F',Bw w0 w bb b gP uP Ls Lo K F'/\ ∀ f∈F,f∈F'
theorem Hp.coM {w1 w0 w:World} {L:List (Nat×Obj)} {F:List ci} {lo hi:Nat} {c:Co} (H:Hp w0 w L F) (h:xi w1 lo hi c∈F):c.rd 0 w.heap.size w:=by
 obtain⟨h1,h2,-⟩:=H.facts _ h
 exact Co.rd.mono h1.2 (bA _) h2
theorem Hp.grM {w1 w0 w:World} {L:List (Nat×Obj)} {F:List ci} {lo hi:Nat} {g:Gr} (H:Hp w0 w L F) (h:JS w1 lo hi g∈F):g.rd 0 w.heap.size w:=by
 obtain⟨h1,h2,-⟩:=H.facts _ h
 exact Gr.rd.mono h1.2 (bA _) h2
theorem Hp.paM {w1 w0 w:World} {L:List (Nat×Obj)} {F:List ci} {lo hi:Nat} {p:Pa} (H:Hp w0 w L F) (h:tk w1 lo hi p∈F):p.rd 0 w.heap.size w:=by
 obtain⟨h1,h2,-⟩:=H.facts _ h
 exact Pa.rd.mono h1.2 (bA _) h2
def oK (x:An) (v:Value) (w:World):Prop:= ∃ A c,v=.agg #[J x.code,J x.n,.slice A x.texts.length c]/\x.texts.length<=c/\Rd m8 0 w.heap.size A x.texts w
theorem oK.plain (e n:Int) (w:World):oK ⟨e,n,[]⟩ (.agg #[J e,J n,.slice none 0 0]) w:=⟨none,0,rfl,ao _,Rd.nil⟩
def lZ (w:Wa) (e:Int):Wa×An:=(w,⟨e,0,[]⟩)
def f4 (a:Act) (x:An):An:=if a.lost=0 then x else⟨14,0,[]⟩
def fg (l:List Sn) (s:ByteArray):Option Nat:=l.findIdx? fun x=>decide (x.name=s)
def mR:cH:=⟨0,0,0,0,0,false,⟨#[]⟩⟩
def u5 (s:ByteArray) (pid ver:Int) (np:Nat):Sn:=⟨s,pid,ver,false,au np 0,none,0,au np mR,none,0⟩
def ER (l:List Sn) (s:Sn):List Sn:=match fg l s.name with
 |none=>l++[s]
 |some i=>l.set i s
def oY (w:Wa) (a:Act):Wa×An:=if(bT w.co a.name).2.2.2=0 then({w with co:=(bT w.co a.name).1,sns:=ER w.sns (u5 a.name (bT w.co a.name).2.1 (bT w.co a.name).2.2.1 w.ps.length)},⟨0,(bT w.co a.name).2.2.1,[]⟩)else lZ w (bT w.co a.name).2.2.2
def kV (w:Wa) (a:Act):Wa×An:=match (fg w.sns a.name).bind fun i=>w.sns[i]?.map fun s=>(i,s)with
 |none=>lZ w 5
 |some (i,s)=>if s.inn then lZ w 6 else({w with sns:=w.sns.set i {s with inn:=true}},⟨0,0,[]⟩)
def uD (w:Wa) (n:Nat) (x:cH):Wa×An:=match w.ps[n]? with
 |none=>lZ w 5
 |some p=>if(eE p x).2.2=0 then({w with ps:=w.ps.set n (eE p x).1},⟨0,(eE p x).2.1,[]⟩)else lZ w (eE p x).2.2
def rS (w:Wa) (s:Sn) (n:Nat) (x:cH):Co×Int:=if x.txn then oE w.co s.name x.ver n else(w.co,0)
def ej (w:Wa) (s:Sn) (n:Nat):Wa×An:=match s.last[n]? with
 |none=>lZ w 5
 |some x=>if(rS w s n x).2=0 then uD {w with co:=(rS w s n x).1} n x else lZ w (rS w s n x).2
def pS (s:Sn) (n:Nat) (t:ByteArray):Sn:={s with last:=s.last.set n ⟨0,s.pid,s.ver,s.seqs.getD n 0,1,s.inn,t⟩,seqs:=s.seqs.set n (s.seqs.getD n 0+1)}
def mY (w:Wa) (a:Act) (again:Bool):Wa×An:=match (fg w.sns a.name).bind fun i=>w.sns[i]?.map fun s=>(i,s)with
 |none=>lZ w 5
 |some (i,s)=>if again=true/\(s.last.getD a.part.toNat mR).kind=0 then lZ w 15 else
  let s1:=if again then s else pS s a.part.toNat a.text
  let w1:={w with sns:=w.sns.set i s1}
  if a.lost=1 then lZ w1 14 else((ej w1 s1 a.part.toNat).1,f4 a (ej w1 s1 a.part.toNat).2)
def vQ (s:Sn):Sn:={s with inn:=false,last:=s.last.map fun e=>if e.txn then mR else e}
def jW (w:Wa) (a:Act):Wa×An:=match (fg w.sns a.name).bind fun i=>w.sns[i]?.map fun s=>(i,s)with
 |none=>lZ w 5
 |some (i,s)=>if s.inn=false then lZ w 12 else if a.lost=1 then lZ w 14 else
  if(kT w.co s.name s.ver (decide (a.n=1))).2=0 then({w with co:=(kT w.co s.name s.ver (decide (a.n=1))).1,sns:=if a.lost=0 then w.sns.set i (vQ s)else w.sns},f4 a ⟨0,0,[]⟩)else(w,f4 a ⟨(kT w.co s.name s.ver (decide (a.n=1))).2,0,[]⟩)
def cZ (t:Tx):cH:=⟨0,t.pid,t.ver,0,if t.state=4 then 3 else 2,true,⟨#[]⟩⟩
def n8 (w:Wa) (a:Act):Wa×An:=match gZ w.co.txs a.n.toNat with
 |none=>lZ w 15
 |some t=>if(uD w (t.parts.headD 0).toNat (cZ t)).2.code=0 then({(uD w (t.parts.headD 0).toNat (cZ t)).1 with co:=(qH w.co t.name (t.parts.headD 0)).1},(uD w (t.parts.headD 0).toNat (cZ t)).2)else uD w (t.parts.headD 0).toNat (cZ t)
def ye (w:Wa) (a:Act):Wa×An:=({w with co:=(jc w.co a.n).1,gr:=pN w.gr a.n w.ps.length},⟨0,(jc w.co a.n).1.clock,[]⟩)
def lJ (p:gD) (a:Act):gD×Int×Int:=
 if a.kind=8 then iX p a.n.toNat else if a.kind=9 then((nV p a.n.toNat).1,0,(nV p a.n.toNat).2)else if a.kind=10 then((kr p a.n.toNat a.m.toNat).1,0,(kr p a.n.toNat a.m.toNat).2)else
 if a.kind=11 then((pO p a.n.toNat).1,0,(pO p a.n.toNat).2)else if a.kind=12 then((nT p a.n.toNat).1,0,(nT p a.n.toNat).2)else if a.kind=13 then((iZ p a.n.toNat).1,0,(iZ p a.n.toNat).2)else
 if a.kind=14 then((gY p a.n.toNat).1,0,(gY p a.n.toNat).2)else((fK p a.n.toNat).1,0,(fK p a.n.toNat).2)
def uZ (w:Wa) (a:Act):Wa×An:=match w.ps[a.part.toNat]? with
 |none=>lZ w 5
 |some p=>if(lJ p a).2.2=0 then({w with ps:=w.ps.set a.part.toNat (lJ p a).1},⟨0,(lJ p a).2.1,[]⟩)else lZ w (lJ p a).2.2
inductive CV (p:gD) (a most:Nat):An->Prop
 |none:p.leader<0->CV p a most ⟨8,0,[]⟩
 |range (l:Nat) (r:RA):p.leader=l->p.reps[l]? =some r->r.es.length<a->CV p a most ⟨2,0,[]⟩
 |ok (l:Nat) (r:RA) (st:Nat) (out:List ByteArray) (b:Nat):p.leader=l->p.reps[l]? =some r->a<=r.es.length->tH (r.es.take r.high.toNat) st->Bc r.es r.high.toNat st a most out b->CV p a most ⟨0,(b:Nat),out⟩
inductive qM (w:Wa) (a:Act):An->Prop
 |no:(eP w.gr a.name a.part).2≠0->qM w a ⟨(eP w.gr a.name a.part).2,0,[]⟩
 |yes (p:gD) (x:An):(eP w.gr a.name a.part).2=0->w.ps[a.part.toNat]? =some p->CV p (eP w.gr a.name a.part).1.toNat a.n.toNat x->qM w a x
def GK (w:Wa) (a:Act):Gr×Int:=if a.kind=16 then sT w.gr a.name w.ps.length else if a.kind=18 then xc w.gr a.name a.n else sa w.gr a.name a.n a.part a.m
def Bu (w:Wa) (a:Act):Wa×An:=if(GK w a).2=0 then({w with gr:=(GK w a).1},⟨0,(GK w a).1.gen,[]⟩)else lZ w (GK w a).2
theorem Gk {l:List Sn} {s:ByteArray} {i:Nat} (h:fg l s=some i): ∃ x,l[i]? =some x/\x.name=s:=by
 obtain⟨hl,h1,-⟩:=bg.1 h
 exact⟨_,ah hl,by simpa using h1⟩
theorem Ko {l:List Sn} {s:ByteArray} {i:Nat} {x:Sn} (hx:l[i]? =some x) (hn:x.name=s) (hno: ∀ y∈l.take i,y.name≠s):fg l s=some i:=by
 unfold fg
 obtain⟨hl,rfl⟩:=cD hx
 rw[bg]
 refine⟨hl,by simpa using hn,fun j hj=> ?_⟩
 have:=hno l[j] (List.mem_take_iff_getElem.2 ⟨j,by omega,rfl⟩)
 simpa using this
theorem Gl {l:List Sn} {s:ByteArray} (hno: ∀ y∈l,y.name≠s):fg l s=none:=by
 unfold fg
 rw[dp]
 intro x hx
 simpa using hno x hx
def OY (g:Nat):Option Nat->Value
 |none=> .pointer none
 |some i=> .pointer (some ⟨g,i*zx.sz,none⟩)
theorem dQ (e:Int) (w:World):dd aa xH [J e] w fun v w2=>v=.agg #[J e,J 0,.slice none 0 0]/\Below w.heap.size w w2:=by
 refine aE wM Z Z ?_
 have H:=Hp.start w
 refine W<|Zr<|eC H dn Z fun w1 b2 H=>U<|W<|Zr<|G (Yi Z)<|G (bj (cs:= #[J (e),J (0),.slice none 0 0]) iF dn N)<|bl H 0 (#[J (e),J (0),.slice none 0 0]) aQ Z Z Z Z Z N N fun w2 H=>U<|Zt ?_
 exact eQ (cs0:= #[J e,J 0,.slice none 0 0]) Z aP Z (H.ent (i:=0) Z) Z ⟨rfl,H.below⟩
theorem Da (a:Act) (c n:Int) (A:Option Addr) (l k:Nat) (w:World):dd aa va [a.v,.agg #[J c,J n,.slice A l k]] w fun v w2=>v=(if a.lost=0 then .agg #[J c,J n,.slice A l k]else .agg #[J 14,J 0,.slice none 0 0])/\Below w.heap.size w w2:=by
 refine aE AA Z Z ?_
 have H:=Hp.start w
 show CW _ _ _ _ (args [.agg #[J (a.kind),.string (a.name),J (a.part),J (a.n),J (a.m),.string (a.text),J (a.lost)],.agg #[J c,J n,.slice A l k]]) w
 refine W<|Zr<|fS H Z Z fun w1 b2 H=>fS H Z Z fun w2 b3 H=>eC H dn Z fun w3 b4 H=>U<|W<|W<|Zr<|G (Zf jI Z)<|G (Zd aj H 2 Z Z Z) ?_
 refine qU (i6 Z Z) Z Z Z (fun h7=> ?_) (fun h7=> ?_)
 refine U<|ZT Z<|W<|Zr<|cd bN (dQ 14 _) Z Z ?_
 rintro _ w4 ⟨rfl,hb⟩;replace H:=H.later hb;clear hb
 refine bl H 0 (#[J (14),J (0),.slice none 0 0]) aQ Z Z Z Z Z N N fun w5 H=>U<|Zt ?_
 exact eQ (cs0:= #[J 14,J 0,.slice none 0 0]) Z aP Z (H.ent (i:=0) Z) Z ⟨(if_neg h7).symm,H.below⟩
 refine U<|ZF Z<|Zk<|W<|Zr<|G (Zw aP H 1 Z Z Z)<|bl H 0 (#[J (c),J (n),.slice A l k]) aQ Z Z Z Z Z N N fun w6 H=>U<|Zt ?_
 exact eQ (cs0:= #[J c,J n,.slice A l k]) Z aP Z (H.ent (i:=0) Z) Z ⟨(if_pos (by simpa using h7)).symm,H.below⟩
theorem n6 (bb:Nat) (b:Bk) (n:Int) (w:World) (hb:w.heap[bb]? =some (.cells b.c.toArray bK (0,0))):dd aa ta [.pointer (Qd bb),J n] w fun v w2=>v=.bool (decide (0<=n/\n<(b.ps.length:Int)))/\Below w.heap.size w w2:=by
 refine aE sE Z Z ?_
 have H:=Hp.start w
 have hbl:=ce hb
 refine W<|Zr<|G (Wb Z)<|U<|W<|Zr<|G (Yi Z) ?_
 refine cR (ke Z Z) Z Z Z (fun h6=> ?_) (fun h6=> ?_)
 refine G (Yb Z)<|ZG<|G (Yi Z)<|ZG<|G (Yp Z)<|ZG<|G (aI Z)<|ZG<|G (Zf aW Z)<|ZG<|G (Zf dC Z)<|ZG<|G (aV d4 Z ((H.below.cell (p:=⟨bb,_,none⟩) hbl).trans (aB (j:=0) hb Z)))<|ZG<|G (bn kG Z)<|ZG ?_
 refine cR (cG Z Z) Z Z Z (fun h15=> ?_) (fun h15=> ?_)
 refine G (Kt Z Z)<|G (Wb Z)<|U<|Zt ?_
 exact cF (v:=.bool true) Z Z ⟨by congr 1;simp only[Bool.true_eq,Bool.false_eq,decide_eq_true_eq,decide_eq_false_iff_not];omega,H.below⟩
 refine G (Kt Z Z)<|G (Wb Z)<|U<|Zt ?_
 exact cF (v:=.bool false) Z Z ⟨by congr 1;simp only[Bool.true_eq,Bool.false_eq,decide_eq_true_eq,decide_eq_false_iff_not];omega,H.below⟩
 refine G (Yb Z)<|ZN<|ZN<|ZN<|ZN<|ZN<|ZN<|ZN<|ZN<|G (N Z Z)<|G (Wb Z)<|U<|Zt ?_
 exact cF (v:=.bool false) Z Z ⟨by congr 1;simp only[Bool.true_eq,Bool.false_eq,decide_eq_true_eq,decide_eq_false_iff_not];omega,H.below⟩
theorem Gn (bb:Nat) (b:Bk) (s:ByteArray) (w:World) (hb:w.heap[bb]? =some (.cells b.c.toArray bK (0,0))) (h0:b.sns=[]):dd aa jw [.pointer (Qd bb),.string s] w fun v w2=>v=.pointer none/\Below w.heap.size w w2:=by
 refine aE lQ Z Z ?_
 have H:=Hp.start w
 have hbl:=ce hb
 have hl0:b.sns.length=0:=by rw[h0];rfl
 refine W<|Zr<|G (Wp Z)<|U<|W<|W<|Zr<|G (Yp Z)<|G (aI Z)<|G (Zf aW Z)<|G (Zf ki Z)<|G (aV j8 Z ((H.below.cell (p:=⟨bb,_,none⟩) hbl).trans (aB (j:=10) hb Z)))<|G (bn tD Z)<|G (Yi Z)<|U<|Zb ?_
 refine cf (τ:=Unit) [4,5,12,13,14,15,16,17,18,19,20,21,22,23,24,25,26,27,28,29,30,31,32,33] (fun _=>[(12,J 0)]) (fun _ w'=>Hp w w' [] []) (fun _=>0) () H (dF Z) ?_
 rintro _ ρ1 w1 H
 show CW _ _ _ _ (dv (gk _ _ ρ1) [(12,J 0)]) w1
 refine W<|Zr<|G (cY Z Z I)<|U<|W<|ZF Z<|Zx<|W<|Zr<|G (Wp Z)<|U<|Zt ?_
 exact cF (v:=.pointer none) Z Z ⟨rfl,H.below⟩
theorem IJ (bb:Nat) (b:Bk) (s:ByteArray) (g:Nat) (u:Array Value) (w:World) (hb:w.heap[bb]? =some (.cells b.c.toArray bK (0,0))) (hA:b.snA=some ⟨g,0,none⟩) (row:dU zx b.sns b.snC u) (hg:w.heap[g]? =some (.cells u fz (0,0))) (hl:b.sns.length<=1000000):dd aa jw [.pointer (Qd bb),.string s] w fun v w2=>v=OY g (fg b.sns s)/\Below w.heap.size w w2:=by
 refine aE lQ Z Z ?_
 have H:=Hp.start w
 have hbl:=ce hb
 have hgl:=ce hg
 obtain⟨ps,pA,pC,co,clo,chi,gr,glo,ghi,sns,snA,snC⟩:=b
 dsimp only at hA row hl
 subst hA
 replace hb:w.heap[bb]? =some (.cells #[.slice pA ps.length pC,J (co.clock),J (co.next),J (co.wait),.slice co.A co.txs.length co.cap,J (gr.clock),J (gr.wait),J (gr.gen),.slice gr.mA gr.ms.length gr.mC,.slice gr.oA gr.os.length gr.oC,.slice (Qd g) sns.length snC] bK (0,0)):=hb
 refine W<|Zr<|G (Wp Z)<|U<|W<|W<|Zr<|G (Yp Z)<|G (aI Z)<|G (Zf aW Z)<|G (Zf ki Z)<|G (aV j8 Z ((H.below.cell (p:=⟨bb,_,none⟩) hbl).trans (aB (j:=10) hb Z)))<|G (bn tD Z)<|G (Yi Z)<|U<|Zb ?_
 refine cf (τ:=Nat) [4,5,12,13,14,15,16,17,18,19,20,21,22,23,24,25,26,27,28,29,30,31,32,33] (fun i=>[(12,J (i:Nat))]) (fun i w'=>i<=sns.length/\(∀ y∈sns.take i,y.name≠s)/\Hp w w' [] []) (fun i=>sns.length-i) 0 ⟨by omega,by simp,H⟩ (dF Z) ?_
 rintro i ρ1 w1 ⟨hi,hno,H⟩
 show CW _ _ _ _ (dv (gk _ _ ρ1) [(12,J (i:Nat))]) w1
 refine W<|Zr ?_
 refine cR (cG Z Z) Z Z Z (fun h13=> ?_) (fun h13=> ?_)
 refine U<|W<|ZT Z<|Zk<|W<|Zb<|W ?_
 obtain⟨x,hx⟩: ∃ x,sns[i]? =some x:=⟨_,ah I⟩
 refine Zr<|G (Yi Z)<|G (Wi Z)<|U<|W<|Zr<|G (Yp Z)<|G (aI Z)<|G (Zf aW Z)<|G (Zf ki Z)<|G (aV j8 Z ((H.below.cell (p:=⟨bb,_,none⟩) hbl).trans (aB (j:=10) hb Z)))<|G (Yi Z)<|G (cC se Z Z I)<|G (Zf oq Z)<|G (bQ ba row hx 0 Z ((H.below.block _ hgl).trans hg) Z)<|G (Yt Z) ?_
 refine cR (vA Z Z) Z Z Z (fun h25=> ?_) (fun h25=> ?_)
 refine U<|ZT Z<|W<|Zr<|G (Yp Z)<|G (aI Z)<|G (Zf aW Z)<|G (Zf ki Z)<|G (aV j8 Z ((H.below.cell (p:=⟨bb,_,none⟩) hbl).trans (aB (j:=10) hb Z)))<|G (Yi Z)<|G (cC se Z Z I)<|G (Wp Z)<|U<|Zt ?_
 exact cF (v:=.pointer (some ⟨g,i*zx.sz,none⟩)) Z Z ⟨by dsimp only;rw[Ko hx h25 hno];rfl,H.below⟩
 refine U<|ZF Z<|Zk<|Zr<|G (bp Z Z I I)<|G (Yi Z)<|U ?_
 refine⟨i+1,⟨by omega,fun y hy=> ?_,H⟩,dF Z,Qg,by show sns.length- (i+1)<sns.length-i;omega⟩
 rw[eL hx]at hy
 rcases ar.1 hy with hy|hy
 exact hno y hy
 rw[aq.1 hy];exact h25
 refine U<|W<|ZF Z<|Zx<|W<|Zr<|G (Wp Z)<|U<|Zt ?_
 obtain rfl:i=sns.length:=by omega
 rw[bV]at hno
 exact cF (v:=.pointer none) Z Z ⟨by dsimp only;rw[Gl hno];rfl,H.below⟩
def Pn:Option Addr->Nat
 |some A=>A.block
 |none=>0
theorem js (bb:Nat) (b:Bk) (s:ByteArray) (Ls:List (Nat×Obj)) (w:World) (hb:w.heap[bb]? =some (.cells b.c.toArray bK (0,0))) (hsn:gi zx (.slice b.snA b.sns.length b.snC) fz b.sns Ls) (hLs: ∀ q∈Ls,w.heap[q.1]? =some q.2) (hl:b.sns.length<=1000000):dd aa jw [.pointer (Qd bb),.string s] w fun v w2=>v=OY (Pn b.snA) (fg b.sns s)/\Below w.heap.size w w2:=by
 by_cases h0:b.sns=[]
 refine(Gn bb b s w hb h0).mono fun v w2 ⟨h1,h2⟩=>⟨?_,h2⟩
 rw[h1,h0];rfl
 obtain⟨g,u,hA,hL,row⟩:=hsn.row (List.length_pos_iff.2 h0)
 subst hL
 refine(IJ bb b s g u w hb hA row (hLs _ (aq.2 Z)) hl).mono fun v w2 ⟨h1,h2⟩=>⟨?_,h2⟩
 rw[h1,hA];rfl
theorem CD (X:List (Nat×Obj)) (a b:Nat×Obj) (La Lb K:List (Nat×Obj)):(X++(a::b::(La++(Lb++K)))).Perm (X++((La++(a::b::Lb))++K)):=by
 refine List.Perm.append_left _ ?_
 rw[show(La++(a::b::Lb))++K=La++([a,b]++(Lb++K)) by simp]
 exact fT [a,b] La (Lb++K)
theorem Bw.close {w0 w':World} {bb gP gS gq gl pC snC clo chi glo ghi i:Nat} {uP uS uq ul:Array Value} {La Lb K X:List (Nat×Obj)} {F0 F':List ci} {ps:List Pq} {co:Co} {gr:Gr} {sns:List Sn} {s:Sn} {C:Array Value} (row:dU Bh ps pC uP) (rowS:dU zx (sns.set i s) snC uS) (hset: ∀ (s':Sn) (gq':Nat) (uq':Array Value) (gl':Nat) (ul':Array Value),s'.sA=some ⟨gq',0,none⟩->s'.lA=some ⟨gl',0,none⟩->dU bS s'.seqs s'.sC uq'->dU gz s'.last s'.lC ul'->qh (sns.set i s') (La++((gq',.cells uq' cW (0,0))::(gl',.cells ul' dh (0,0))::Lb)))
  (hsA:s.sA=some ⟨gq,0,none⟩) (hlA:s.lA=some ⟨gl,0,none⟩) (rowq:dU bS s.seqs s.sC uq) (rowl:dU gz s.last s.lC ul) (hco:xi w0 clo chi co∈F') (hgr:JS w0 glo ghi gr∈F') (hps: ∀ q∈ps,tk w0 q.lo q.hi q.p∈F') (hF: ∀ f∈F0,f∈F')
  (H:Hp w0 w' (X++((bb,.cells C bK (0,0))::(gP,.cells uP bz (0,0))::(gS,.cells uS fz (0,0))::(gq,.cells uq cW (0,0))::(gl,.cells ul dh (0,0))::(La++(Lb++K)))) F') (hC:C=(Bk.mk ps (Qd gP) pC co clo chi gr glo ghi (sns.set i s) (Qd gS) snC).c.toArray):xj w0 w' bb ⟨ps,some ⟨gP,0,none⟩,pC,co,clo,chi,gr,glo,ghi,sns.set i s,some ⟨gS,0,none⟩,snC⟩ K F0:=by
 subst hC
 refine⟨gP,uP,_,_,F',⟨rfl,row,dU.own rowS,hset s gq uq gl ul hsA hlA rowq rowl,hco,hgr,hps,?_⟩,hF⟩
 have H1:=H.forget (cm X _) (fun _ h=>h)
 exact H1.perm (CD [(bb,_),(gP,_),(gS,_)] _ _ La Lb K).symm
theorem y2 (l:List Sn) (s:ByteArray):fg (l.map Sn.a) s=fg l s:=by
 unfold fg
 rw[CZ]
 rfl
theorem wk {l:List Sn} {s:ByteArray} {i:Nat} {x:Sn} (hix:fg l s=some i) (hx:l[i]? =some x):((fg (l.map Sn.a) s).bind fun i=>(l.map Sn.a)[i]?.map fun s=>(i,s))=some (i,x.a):=by
 rw[y2,hix]
 simp[hx]
theorem De {l:List Sn} {s:ByteArray} (hix:fg l s=none):((fg (l.map Sn.a) s).bind fun i=>(l.map Sn.a)[i]?.map fun s=>(i,s))=none:=by
 rw[y2,hix]
 rfl
theorem Bw.shut {w0 w':World} {bb gP pC snC clo chi glo ghi:Nat} {uP:Array Value} {Ls Lo K X:List (Nat×Obj)} {F0 F':List ci} {ps:List Pq} {co:Co} {gr:Gr} {sns:List Sn} {snA:Option Addr} {C:Array Value} (row:dU Bh ps pC uP) (hsn:gi zx (.slice snA sns.length snC) fz sns Ls) (hown:qh sns Lo) (hco:xi w0 clo chi co∈F') (hgr:JS w0 glo ghi gr∈F') (hps: ∀ q∈ps,tk w0 q.lo q.hi q.p∈F') (hF: ∀ f∈F0,f∈F')
  (H:Hp w0 w' (X++((bb,.cells C bK (0,0))::(gP,.cells uP bz (0,0))::(Ls++(Lo++K)))) F') (hC:C=(Bk.mk ps (Qd gP) pC co clo chi gr glo ghi sns snA snC).c.toArray):xj w0 w' bb ⟨ps,some ⟨gP,0,none⟩,pC,co,clo,chi,gr,glo,ghi,sns,snA,snC⟩ K F0:=by
 subst hC
 exact⟨gP,uP,_,_,F',⟨rfl,row,hsn,hown,hco,hgr,hps,H.forget (cm X _) (fun _ h=>h)⟩,hF⟩
theorem xa {b:Bk} {a:Act} {i:Nat} {x:Sn} (hix:fg b.sns a.name=some i) (hx:b.sns[i]? =some x) (h:x.inn=true):kV b.a a=(b.a,⟨6,0,[]⟩):=by
 unfold kV
 rw[show b.a.sns=b.sns.map Sn.a from rfl,wk hix hx]
 dsimp only
 rw[if_pos (show x.a.inn=true from h)]
 rfl
theorem CQ {b:Bk} {a:Act} {i:Nat} {x:Sn} (hix:fg b.sns a.name=some i) (hx:b.sns[i]? =some x) (h:x.inn=false):kV b.a a=({b.a with sns:=(b.sns.set i {x with inn:=true}).map Sn.a},⟨0,0,[]⟩):=by
 unfold kV
 rw[show b.a.sns=b.sns.map Sn.a from rfl,wk hix hx]
 dsimp only
 rw[if_neg (show¬ x.a.inn=true by show¬ x.inn=true;rw[h];decide),cy]
 rfl
theorem yB {b:Bk} {a:Act} (hix:fg b.sns a.name=none):kV b.a a=(b.a,⟨5,0,[]⟩):=by
 unfold kV
 rw[show b.a.sns=b.sns.map Sn.a from rfl,De hix]
 rfl
theorem fa {α:Type} {l:List α} {k:Nat} {a:α} (h:l[k]? =some a):l.set k a=l:=by
 apply eJ
 intro j
 rw[lu]
 split
 rename_i hj
 subst hj
 split
 exact h.symm
 rename_i hl
 rw[cJ I]at h;cases h
 rfl
theorem Hj {w0 w:World} {bb:Nat} {b:Bk} {gP:Nat} {uP:Array Value} {Ls Lo K:List (Nat×Obj)} {F:List ci} (a:Act) (B:Bw w0 w bb b gP uP Ls Lo K F) (hsl:b.sns.length<=1000000) (hix:fg b.sns a.name=none):dd aa jR [.pointer (Qd bb),a.v] w fun v w2=> ∃ b':Bk,oK (kV b.a a).2 v w2/\b'.a=(kV b.a a).1/\xj w0 w2 bb b' K F:=by
 refine aE mz Z Z ?_
 obtain⟨ps,pA,pC,co,clo,chi,gr,glo,ghi,sns,snA,snC⟩:=b
 obtain⟨hpA,row,hsn,hown,hco,hgr,hps,H⟩:=B
 dsimp only at hpA row hsn hown hco hgr hps
 subst hpA
 replace H:Hp w0 w ((bb,.cells #[.slice (Qd gP) ps.length pC,J (co.clock),J (co.next),J (co.wait),.slice co.A co.txs.length co.cap,J (gr.clock),J (gr.wait),J (gr.gen),.slice gr.mA gr.ms.length gr.mC,.slice gr.oA gr.os.length gr.oC,.slice snA sns.length snC] bK (0,0))::(gP,.cells uP bz (0,0))::(Ls++(Lo++K))) F:=H
 dsimp only at hix hsl
 show CW _ _ _ _ (args [.pointer (Qd bb),.agg #[J (a.kind),.string (a.name),J (a.part),J (a.n),J (a.m),.string (a.text),J (a.lost)]]) w
 refine W<|Zr<|fS H Z Z fun w1 b3 H=>eC H dn Z fun w2 b4 H=>U<|W<|Zr<|G (Yp Z)<|G (Zf fb Z)<|G (Zd ba H 1 Z Z Z)<|cd dz (js bb ⟨ps,some ⟨gP,0,none⟩,pC,co,clo,chi,gr,glo,ghi,sns,snA,snC⟩ (a.name) Ls _ (H.ent (i:=2) Z) hsn (fun q hq=>(H.ents q (by simp only[av,ar];grind)).1) hsl) Z Z ?_
 rintro _ w3 ⟨rfl,hb⟩;replace H:=H.later hb;clear hb
 rw[hix]
 refine G (Wp Z)<|U<|W<|Zb<|W<|Zr<|G (Yp Z)<|G (xw iN Z)<|G (Wb Z)<|U<|ZT Z<|W<|Zr<|cd bN (dQ 5 _) Z Z ?_
 rintro _ w4 ⟨rfl,hb⟩;replace H:=H.later hb;clear hb
 refine bl H 0 (#[J (5),J (0),.slice none 0 0]) aQ Z Z Z Z Z N N fun w5 H=>U<|Zt ?_
 exact eQ (cs0:= #[J (5),J (0),.slice none 0 0]) Z aP Z (H.ent (i:=0) Z) Z ⟨⟨ps,some ⟨gP,0,none⟩,pC,co,clo,chi,gr,glo,ghi,sns,snA,snC⟩,by rw[yB hix];exact oK.plain _ _ _,by rw[yB hix],Bw.shut (X:=[(b4,_),(b3,_)]) row hsn hown hco hgr hps (fun _ h=>h) H Z⟩
theorem Hi {w0 w:World} {bb:Nat} {b:Bk} {gP:Nat} {uP:Array Value} {Ls Lo K:List (Nat×Obj)} {F:List ci} (a:Act) (B:Bw w0 w bb b gP uP Ls Lo K F) (hsl:b.sns.length<=1000000) {i:Nat} {x:Sn} (hix:fg b.sns a.name=some i) (hx:b.sns[i]? =some x):dd aa jR [.pointer (Qd bb),a.v] w fun v w2=> ∃ b':Bk,oK (kV b.a a).2 v w2/\b'.a=(kV b.a a).1/\xj w0 w2 bb b' K F:=by
 refine aE mz Z Z ?_
 obtain⟨ps,pA,pC,co,clo,chi,gr,glo,ghi,sns,snA,snC⟩:=b
 obtain⟨hpA,row,hsn,hown,hco,hgr,hps,H⟩:=B
 dsimp only at hpA row hsn hown hco hgr hps
 subst hpA
 dsimp only at hix hx
 obtain⟨gS,uS,hgS,hLs,rowS⟩:=hsn.row (by have:=(cD hx).1;omega)
 subst hgS;subst hLs
 obtain⟨gq,uq,gl,ul,La,Lb,hsA,hlA,rowq,rowl,hLo,hset⟩:=hown.at_ hx
 subst hLo
 replace H:Hp w0 w ((bb,.cells #[.slice (Qd gP) ps.length pC,J (co.clock),J (co.next),J (co.wait),.slice co.A co.txs.length co.cap,J (gr.clock),J (gr.wait),J (gr.gen),.slice gr.mA gr.ms.length gr.mC,.slice gr.oA gr.os.length gr.oC,.slice (Qd gS) sns.length snC] bK (0,0))::(gP,.cells uP bz (0,0))::(gS,.cells uS fz (0,0))::(gq,.cells uq cW (0,0))::(gl,.cells ul dh (0,0))::(La++(Lb++K))) F:=H.perm (CD [(bb,_),(gP,_),(gS,_)] _ _ La Lb K)
 dsimp only at hsl
 show CW _ _ _ _ (args [.pointer (Qd bb),.agg #[J (a.kind),.string (a.name),J (a.part),J (a.n),J (a.m),.string (a.text),J (a.lost)]]) w
 refine W<|Zr<|fS H Z Z fun w1 b3 H=>eC H dn Z fun w2 b4 H=>U<|W<|Zr<|G (Yp Z)<|G (Zf fb Z)<|G (Zd ba H 1 Z Z Z)<|cd dz (js bb ⟨ps,some ⟨gP,0,none⟩,pC,co,clo,chi,gr,glo,ghi,sns,some ⟨gS,0,none⟩,snC⟩ (a.name) _ _ (H.ent (i:=2) Z) (dU.own rowS) (fun q hq=>by rw[aq.1 hq];exact(H.ent (i:=4) Z)) hsl) Z Z ?_
 rintro _ w3 ⟨rfl,hb⟩;replace H:=H.later hb;clear hb
 rw[hix]
 refine G (Wp Z)<|U<|W<|Zb<|W<|Zr<|G (Yp Z)<|G (vD iN Z)<|G (Wb Z)<|U<|ZF Z<|W<|Zr<|G (Yp Z)<|G (aI Z)<|G (Zf oo Z) ?_
 refine wu (bQ dR rowS hx 3 Z (H.ent (i:=4) Z) Z) Z Z Z (fun h18=> ?_) (fun h18=> ?_)
 refine G (Wb Z)<|U<|ZT Z<|W<|Zr<|cd bN (dQ 6 _) Z Z ?_
 rintro _ w4 ⟨rfl,hb⟩;replace H:=H.later hb;clear hb
 refine bl H 0 (#[J (6),J (0),.slice none 0 0]) aQ Z Z Z Z Z N N fun w5 H=>U<|Zt ?_
 exact eQ (cs0:= #[J (6),J (0),.slice none 0 0]) Z aP Z (H.ent (i:=0) Z) Z ⟨⟨ps,some ⟨gP,0,none⟩,pC,co,clo,chi,gr,glo,ghi,sns.set i x,some ⟨gS,0,none⟩,snC⟩,by rw[xa hix hx h18];exact oK.plain _ _ _,by rw[xa hix hx h18,fa hx],Bw.close (X:=[(b4,_),(b3,_)]) row (by rw[fa hx];exact rowS) hset hsA hlA rowq rowl hco hgr hps (fun _ h=>h) H (by rw[fa hx];rfl)⟩
 refine G (Wb Z)<|U<|ZF Z<|Zk<|W<|Zr<|G (Yp Z)<|G (aI Z)<|G (Zf oo Z)<|kQ H 4 ({x with inn:=true}) iJ rowS hx 3 Z Z Z Z Z Z N fun w7 cur6 row6 H=> ?_
 have hs8:(sns.set i ({x with inn:=true}))[i]? =some ({x with inn:=true}):=am (cD hx).1
 refine U<|W<|Zr<|G (bj (cs:= #[J (0),J (0),.slice none 0 0]) iF dn N)<|bl H 0 (#[J (0),J (0),.slice none 0 0]) aQ Z Z Z Z Z N N fun w9 H=>U<|Zt ?_
 exact eQ (cs0:= #[J (0),J (0),.slice none 0 0]) Z aP Z (H.ent (i:=0) Z) Z ⟨⟨ps,some ⟨gP,0,none⟩,pC,co,clo,chi,gr,glo,ghi,sns.set i {x with inn:=true},some ⟨gS,0,none⟩,snC⟩,by rw[CQ hix hx h18];exact oK.plain _ _ _,by rw[CQ hix hx h18];rfl,Bw.close (X:=[(b4,_),(b3,_)]) row row6 hset hsA hlA rowq rowl hco hgr hps (fun _ h=>h) H (by simp only[Bk.c,ab])⟩
def Ml:Deep Co:=⟨fun c=>c.rd,fun _ _ _ _ _ hk h=>h.st hk,fun _ _ _ _ _ _ h h1 h2=>h.mono h1 h2⟩
def pR:Nat->ByteArray
 |0=>⟨#[97,110,110]⟩
 |1=>⟨#[98,111,98]⟩
 |_=>⟨#[99,121]⟩
theorem MT:bM ⟨#[97,110,110]⟩=true:=by kernel_rfl
theorem MS:bM ⟨#[98,111,98]⟩=true:=by kernel_rfl
theorem y7:bM ⟨#[99,121]⟩=true:=by kernel_rfl
theorem qS: ∀ m:Nat,bM (pR m)=true
 |0=>MT
 |1=>MS
 |_+2=>y7
theorem KV {m:Nat} (h:m<3):(p8 [.string ⟨#[97,110,110]⟩,.string ⟨#[98,111,98]⟩,.string ⟨#[99,121]⟩]).toArray[0+((m:Nat):Int).toNat*1]? =some (.string (pR m)):=by
 match m,h with
 |0,_=>rfl
 |1,_=>rfl
 |2,_=>rfl
def B6 (P:ByteArray->Prop) (wt:Int) (c:Co):Prop:=c.wait=wt/\ ∀ t∈c.txs,P t.name
theorem B6.set {P:ByteArray->Prop} {wt:Int} {c:Co} {i:Nat} {t t':Tx} (h:B6 P wt c) (hi:c.txs[i]? =some t) (hn:t'.name=t.name):B6 P wt (qB c i t'):=⟨h.1,fun x hx=>by
 rcases Dr hx with hx|rfl
 exact h.2 x hx
 rw[hn];exact h.2 t (ae hi)⟩
theorem B6.add {P:ByteArray->Prop} {wt:Int} {c:Co} {s:ByteArray} {ver p:Int} (h:B6 P wt c) (he:(oE c s ver p).2=0):B6 P wt (oE c s ver p).1:=by
 unfold oE at he⊢
 split
 rename_i hf;rw[hf]at he;cases he
 rename_i i t hf
 rw[hf]at he
 dsimp only at he
 split at he
 cases he
 rename_i hv
 rw[if_neg hv]
 split at he
 rename_i h1
 rw[if_pos h1]
 exact h.set (jf hf).2.1 (by unfold iz;split<;>rfl)
 cases he
theorem B6.done {P:ByteArray->Prop} {wt:Int} {c:Co} {s:ByteArray} {p:Int} (h:B6 P wt c) (he:(qH c s p).2=0):B6 P wt (qH c s p).1:=by
 unfold qH at he⊢
 split
 rename_i hf;rw[hf]at he;cases he
 rename_i i t hf
 rw[hf]at he
 dsimp only at he
 split at he
 rename_i h1
 rw[if_pos h1]
 split at he
 rename_i h2
 rw[if_pos h2]
 exact h.set (jf hf).2.1 (by unfold gA;split<;>rfl)
 cases he
 cases he
theorem B6.tick {P:ByteArray->Prop} {wt:Int} {c:Co} {n:Int} (h:B6 P wt c) (he:(jc c n).2=0):B6 P wt (jc c n).1:=by
 unfold jc at he⊢
 split at he
 cases he
 rename_i h1
 rw[if_neg h1]
 refine⟨h.1,fun t ht=> ?_⟩
 obtain⟨x,hx,rfl⟩:=bv.1 (show t∈c.txs.map _ from ht)
 have:(fk (c.clock+n) c.wait x).name=x.name:=by unfold fk;split<;>rfl
 rw[this];exact h.2 x hx
theorem B6.a {P:ByteArray->Prop} {wt:Int} {c:Co} (h:B6 P wt c):B6 P wt c.a:=⟨h.1,fun t ht=>by
 obtain⟨x,hx,rfl⟩:=bv.1 (show t∈c.txs.map Tx.a from ht)
 exact h.2 x hx⟩
theorem B6.of_a {P:ByteArray->Prop} {wt:Int} {c:Co} (h:B6 P wt c.a):B6 P wt c:=⟨h.1,fun t ht=>h.2 t.a (bL (f:=Tx.a) ht)⟩
def Nz (s:ByteArray):Prop:= ∃ m,s=pR m
def Qp (k:Nat) (c:Co):Prop:=oJ k c/\B6 Nz 10 c
theorem Qp.next {k:Nat} {r:Co×Int} {c':Co} (h1:r.2=0->oJ (k+1) r.1) (h2:r.2=0->B6 Nz 10 r.1) (ha:c'.a=r.1):r.2=0->Qp (k+1) c':=fun h=>⟨oJ.of_a (ha▸h1 h),B6.of_a (ha▸h2 h)⟩
theorem Lc (n:Int) (w:World) (hn:i64 n):dd aa uH [J n] w fun v w2=>v=.string (pR (pk n 3))/\Below w.heap.size w w2:=by
 refine aE tN Z Z ?_
 have H:=Hp.start w
 refine W<|Zr<|G (Wt Z)<|U<|W<|Zr<|sY (vs:=[.string ⟨#[97,110,110]⟩,.string ⟨#[98,111,98]⟩,.string ⟨#[99,121]⟩]) H ig v7 Z Z Z Z Z Z fun w1 b3 H=>G (Yi Z)<|cd aJ (dk n 3 _ hn.1 hn.2 I I) Z Z ?_
 rintro _ w2 ⟨rfl,hb⟩;replace H:=H.later hb;clear hb
 have hm:=i5 n (show 0<3 by omega)
 refine G (sU ig Z Z I I)<|G (aV ba Z (aB (H.ent (i:=0) Z) (KV hm)))<|G (Wt Z)<|U<|Zt ?_
 exact cF Z Z ⟨rfl,H.below⟩
theorem HH {w:Wa} {n:Nat} {x:cH} {p:gD} (h:w.ps[n]? =some p):uD w n x=if(eE p x).2.2=0 then({w with ps:=w.ps.set n (eE p x).1},⟨0,(eE p x).2.1,[]⟩)else lZ w (eE p x).2.2:=by
 unfold uD
 rw[h]
theorem zR {ps:List Pq} {n:Nat} {q y:Pq} (h:y∈ps.set n q):y∈ps∨y=q:=bH h
theorem AJ {w0 w:World} {bb gP gS gq gl pC snC clo chi k i n:Nat} {uP uS uq ul:Array Value} {R:List (Nat×Obj)} {F:List ci} {ps:List Pq} {co:Co} {gr:Gr} {sns:List Sn} {x:Sn} (H:Hp w0 w ((bb,.cells #[.slice (Qd gP) ps.length pC,J (co.clock),J (co.next),J (co.wait),.slice co.A co.txs.length co.cap,J (gr.clock),J (gr.wait),J (gr.gen),.slice gr.mA gr.ms.length gr.mC,.slice gr.oA gr.os.length gr.oC,.slice (Qd gS) sns.length snC] bK (0,0))::(gP,.cells uP bz (0,0))::(gS,.cells uS fz (0,0))::(gq,.cells uq cW (0,0))::(gl,.cells ul dh (0,0))::R) F) (row:dU Bh ps pC uP) (rowS:dU zx sns snC uS) (rowl:dU gz x.last x.lC ul) (hx:sns[i]? =some x) (hlA:x.lA=some ⟨gl,0,none⟩) (hco:xi w0 clo chi co∈F) (hps: ∀ q∈ps,tk w0 q.lo q.hi q.p∈F) (hn:n<x.last.length) (hnp:n<ps.length) (hn4:n<4) (hnm:bM x.name=true) (hcb:oJ k co) (hpk: ∀ q∈ps,q.p.a.ok/\ ∀ (l:Nat) (y:eW),q.p.leader=l->q.p.reps[l]? =some y->y.es.length<400):dd aa rL [.pointer (Qd bb),.pointer (some ⟨gS,i*zx.sz,none⟩),J (n:Nat)] w fun v w2=> ∃ (ps':List Pq) (uP':Array Value) (co':Co) (clo' chi':Nat) (F':List ci),oK (ej (Wa.mk (ps.map fun q=>q.p.a) co.a gr.a (sns.map Sn.a)) x.a n).2 v w2/\(ej (Wa.mk (ps.map fun q=>q.p.a) co.a gr.a (sns.map Sn.a)) x.a n).1=Wa.mk (ps'.map fun q=>q.p.a) co'.a gr.a (sns.map Sn.a)/\dU Bh ps' pC uP'/\ps'.length=ps.length/\xi w0 clo' chi' co'∈F'/\(∀ q∈ps',tk w0 q.lo q.hi q.p∈F')/\(∀ f∈F,f∈F')/\Hp w0 w2 ((bb,.cells #[.slice (Qd gP) ps'.length pC,J (co'.clock),J (co'.next),J (co'.wait),.slice co'.A co'.txs.length co'.cap,J (gr.clock),J (gr.wait),J (gr.gen),.slice gr.mA gr.ms.length gr.mC,.slice gr.oA gr.os.length gr.oC,.slice (Qd gS) sns.length snC] bK (0,0))::(gP,.cells uP' bz (0,0))::(gS,.cells uS fz (0,0))::(gq,.cells uq cW (0,0))::(gl,.cells ul dh (0,0))::R) F':=by
 refine aE rq Z Z ?_
 obtain⟨e,he⟩: ∃ e,x.last[n]? =some e:=⟨_,ah hn⟩
 have hl5:(zx.f x)[5]? =some (.slice (some ⟨gl,0,none⟩) x.last.length x.lC):=by rw[<-hlA];rfl
 obtain⟨q,hq⟩: ∃ q,ps[n]? =some q:=⟨_,ah hnp⟩
 have hqm:=ae hq
 have hpC:=row.le
 have hD:ej (Wa.mk (ps.map fun q=>q.p.a) co.a gr.a (sns.map Sn.a)) x.a n=if(rS (Wa.mk (ps.map fun q=>q.p.a) co.a gr.a (sns.map Sn.a)) x.a n e).2=0 then uD (Wa.mk (ps.map fun q=>q.p.a) (rS (Wa.mk (ps.map fun q=>q.p.a) co.a gr.a (sns.map Sn.a)) x.a n e).1 gr.a (sns.map Sn.a)) n e else lZ (Wa.mk (ps.map fun q=>q.p.a) co.a gr.a (sns.map Sn.a)) (rS (Wa.mk (ps.map fun q=>q.p.a) co.a gr.a (sns.map Sn.a)) x.a n e).2:=by unfold ej;rw[show x.a.last[n]? =some e from he]
 rw[hD]
 have hP:=HH (w:=Wa.mk (ps.map fun q=>q.p.a) (rS (Wa.mk (ps.map fun q=>q.p.a) co.a gr.a (sns.map Sn.a)) x.a n e).1 gr.a (sns.map Sn.a)) (n:=n) (x:=e) (p:=q.p.a) (by rw[aM,hq];rfl)
 refine W<|Zr<|eC H dn Z fun w1 b6 H=>U<|W<|Zr<|G (Yp Z)<|G (aI Z)<|G (Zf lT Z)<|G (bQ nc rowS hx 5 Z (H.ent (i:=3) Z) hl5)<|G (Yi Z)<|G (cC dN Z Z (by first|omega|(simp only[ab];omega)))<|G (oN dB rowl he Z Z (H.ent (i:=5) Z))<|eC H fU Z fun w2 b7 H=>bl H 0 (#[J (e.epoch),J (e.pid),J (e.ver),J (e.seq),J (e.kind),.bool (e.txn),.string (e.text)]) eM Z Z Z Z Z N N fun w3 H=>U<|W<|W<|Zr<|G (Zf iY Z)<|G (Zd dR H 0 Z Z Z)<|U ?_
 refine eu (τ:=Co×Nat×Nat×List ci) [8,9,22,23,24,25,26,27,28,29,30,31,32,33,34,35,36,37,38,39,40,41,42,43,44,45,46] (fun _=>[]) (fun(c2,l2,h2,F2) w'=>c2.a=(rS (Wa.mk (ps.map fun q=>q.p.a) co.a gr.a (sns.map Sn.a)) x.a n e).1/\(rS (Wa.mk (ps.map fun q=>q.p.a) co.a gr.a (sns.map Sn.a)) x.a n e).2=0/\xi w0 l2 h2 c2∈F2/\(∀ f∈F,f∈F2)/\Hp w0 w' ((b7,.cells #[J (e.epoch),J (e.pid),J (e.ver),J (e.seq),J (e.kind),.bool (e.txn),.string (e.text)] dh (0,0))::(b6,.cells #[J (0),J (0),.slice none 0 0] d9 (0,0))::(bb,.cells #[.slice (Qd gP) ps.length pC,J (c2.clock),J (c2.next),J (c2.wait),.slice c2.A c2.txs.length c2.cap,J (gr.clock),J (gr.wait),J (gr.gen),.slice gr.mA gr.ms.length gr.mC,.slice gr.oA gr.os.length gr.oC,.slice (Qd gS) sns.length snC] bK (0,0))::(gP,.cells uP bz (0,0))::(gS,.cells uS fz (0,0))::(gq,.cells uq cW (0,0))::(gl,.cells ul dh (0,0))::R) F2) ?_ ?_
 refine jm Z (fun hc21=> ?_) (fun hc21=> ?_)
 refine W ?_
 refine eu (τ:=Co×Nat×Nat×Nat) [8,9,22,23,24,25,26,27,28,29,30,31,32,33,34,35,36,37] (fun(_,b8,_,_)=>[(8,.pointer (Qd b8)),(9,J (oE co.a x.name e.ver n).2)]) (fun(c3,b8,lo,hi) w'=>c3.a=(oE co.a x.name e.ver n).1/\Hp w0 w' ((b8,.cells #[J (c3.clock),J (c3.next),J (c3.wait),.slice c3.A c3.txs.length c3.cap] bf (0,0))::(b7,.cells #[J (e.epoch),J (e.pid),J (e.ver),J (e.seq),J (e.kind),.bool (e.txn),.string (e.text)] dh (0,0))::(b6,.cells #[J (0),J (0),.slice none 0 0] d9 (0,0))::(bb,.cells #[.slice (Qd gP) ps.length pC,J (co.clock),J (co.next),J (co.wait),.slice co.A co.txs.length co.cap,J (gr.clock),J (gr.wait),J (gr.gen),.slice gr.mA gr.ms.length gr.mC,.slice gr.oA gr.os.length gr.oC,.slice (Qd gS) sns.length snC] bK (0,0))::(gP,.cells uP bz (0,0))::(gS,.cells uS fz (0,0))::(gq,.cells uq cW (0,0))::(gl,.cells ul dh (0,0))::R) (xi w0 lo hi c3::F)) ?_ ?_
 refine ow bZ 16 12 [12,13,14,15,17,18] [16] [0,1,2,3,5,6,7,9,11] [16,17,18] [12] [0,1,2,3,5,6,7,9,11,13,14,15] (sp [(16,Sp.blk w3.heap.size (.agg #[J 0,J 0,J 0,.slice none 0 0]) bf)]) (sp [(12,Sp.deep w3.heap.size Ml (fun c:Co=>c.c.toArray) (fun cs=> .tuple #[.agg cs,J (oE co.a x.name e.ver n).2]) (fun cq:Co=>cq.a=(oE co.a x.name e.ver n).1))]) N N N N (cI _) (cI _) ?_ ?_
 refine jA [0,1,2,3,4,5,6,7,8,9,10,11,16] [12,13,14,15,17,18] [16] [0,1,2,3,5,6,7,9,11] 5 (sp [(16,Sp.blk w3.heap.size (.agg #[J 0,J 0,J 0,.slice none 0 0]) bf)]) N N N Nq<|aw Z Z Z Z Z (fun w' hw'=>Yp Z)<|aw Z Z Z Z Z (fun w' hw'=>aI Z)<|aw Z Z Z Z Z (fun w' hw'=>Zf aW Z)<|aw Z Z Z Z Z (fun w' hw'=>Zf eA Z)<|aw Z Z Z Z Z (fun w' hw'=>jG 1 [J (co.clock),J (co.next),J (co.wait),.slice co.A co.txs.length co.cap] ax Z Z ((H.later hw').ent (i:=2) Z) Z)<|aw Z Z Z Z Z (fun w' hw'=>Yp Z)<|aw Z Z Z Z Z (fun w' hw'=>aI Z)<|aw Z Z Z Z Z (fun w' hw'=>Zf oq Z)<|aw Z Z Z Z Z (fun w' hw'=>bQ ba rowS hx 0 Z ((H.later hw').ent (i:=4) Z) Z)<|aw Z Z Z Z Z (fun w' hw'=>Zf ei Z)<|aw Z Z Z Z Z (fun w' hw'=>aV aj Z (aB ((H.later hw').ent (i:=0) Z) Z))<|aw Z Z Z Z Z (fun w' hw'=>Yi Z)<|xd cK Z Z Z Z Z (fun w' hw'=>hw'.size) fun b8=>aU ?_
 intro w4 hw' hF
 obtain⟨hF,bq,eq,hge8,hbl8⟩:=hF;cases eq
 replace H:=H.adoptNew hw' hbl8 hge8
 clear hw' hF
 refine da 12 N Z<|cd wZ (FZ co x.name e.ver n k _ (Hp.coM H hco) hcb hnm I I) Z Z ?_
 rintro _ w5 ⟨c3,rfl,hac3,hnc3⟩;replace H:=H.learn hnc3.2 (xi w0 w4.heap.size w5.heap.size c3) ⟨H.size,hnc3.1⟩ (ao _) (ao _);clear hnc3
 refine U<|bw 13 N N N Z Z Z Z Nq (fun _=>Yu Z)<|bw 14 N N N Z Z Z Z Nq (fun _=>Xa Z Z)<|bw 15 N N N Z Z Z Z Nq (fun _=>Xi Z Z)<|da 17 N Z<|bl H 0 (#[J (c3.clock),J (c3.next),J (c3.wait),.slice c3.A c3.txs.length c3.cap]) aF Z Z Z Z Z N N fun w6 H=>U<|bw 18 N N N Z Z Z Z Nq (fun _=>Wi Z)<|cz N ?_
 exact⟨(c3,b8,_,_),⟨hac3,H⟩,kZ Z Z,Qg⟩
 refine jA [0,1,2,3,4,5,6,7,8,9,10,11,12,13,14,15] [16,17,18] [12] [0,1,2,3,5,6,7,9,11,13,14,15] 2 (sp [(12,Sp.deep w3.heap.size Ml (fun c:Co=>c.c.toArray) (fun cs=> .tuple #[.agg cs,J (oE co.a x.name e.ver n).2]) (fun cq:Co=>cq.a=(oE co.a x.name e.ver n).1))]) N N N Nq<|aw Z Z Z Z Z (fun w' hw'=>Yp Z)<|aw Z Z Z Z Z (fun w' hw'=>aI Z)<|aw Z Z Z Z Z (fun w' hw'=>Zf aW Z)<|aw Z Z Z Z Z (fun w' hw'=>Zf eA Z)<|aw Z Z Z Z Z (fun w' hw'=>jG 1 [J (co.clock),J (co.next),J (co.wait),.slice co.A co.txs.length co.cap] ax Z Z ((H.later hw').ent (i:=2) Z) Z)<|aw Z Z Z Z Z (fun w' hw'=>Yp Z)<|aw Z Z Z Z Z (fun w' hw'=>aI Z)<|aw Z Z Z Z Z (fun w' hw'=>Zf oq Z)<|aw Z Z Z Z Z (fun w' hw'=>bQ ba rowS hx 0 Z ((H.later hw').ent (i:=4) Z) Z)<|aw Z Z Z Z Z (fun w' hw'=>Zf ei Z)<|aw Z Z Z Z Z (fun w' hw'=>aV aj Z (aB ((H.later hw').ent (i:=0) Z) Z))<|aw Z Z Z Z Z (fun w' hw'=>Yi Z)<|sN (gv:=(fun cs=> .tuple #[.agg cs,J (oE co.a x.name e.ver n).2])) wZ Z Z Z Z Z (fun w' hw'=>hw'.size) (fun w' hw'=>FZ co x.name e.ver n k w' (Hp.coM (H.later hw') hco) hcb hnm I I) Z fun cs35=>aw Z Z Z Z Z (fun w' hw'=>Yu Z)<|aw Z Z Z Z Z (fun w' hw'=>Xa Z Z)<|aw Z Z Z Z Z (fun w' hw'=>Xi Z Z)<|aU ?_
 intro w7 hw' hF
 obtain⟨hF,c3,eq,hac3,hrd35⟩:=hF;cases eq
 replace H:=H.learn hw' (xi w0 w3.heap.size w7.heap.size c3) ⟨H.size,hrd35⟩ (ao _) (ao _)
 clear hw' hF
 refine da 16 N Z<|eC H cK Z fun w8 b8 H=>U<|da 17 N Z<|bl H 0 (#[J (c3.clock),J (c3.next),J (c3.wait),.slice c3.A c3.txs.length c3.cap]) aF Z Z Z Z Z N N fun w9 H=>U<|bw 18 N N N Z Z Z Z Nq (fun _=>Wi Z)<|cz N ?_
 exact⟨(c3,b8,_,_),⟨hac3,H⟩,kZ Z Z,Qg⟩
 rintro⟨c3,b8,lo,hi⟩ ρ1 w10 ⟨hac3,H⟩
 show CW _ _ _ _ (dv (gk _ _ ρ1) [(8,.pointer (Qd b8)),(9,J (oE co.a x.name e.ver n).2)]) w10
 refine W<|W<|Zr<|G (Yi Z) ?_
 refine qU (i6 Z Z) Z Z Z (fun h39=> ?_) (fun h39=> ?_)
 have hadd: ¬ (rS (Wa.mk (ps.map fun q=>q.p.a) co.a gr.a (sns.map Sn.a)) x.a n e).2=0:=by unfold rS;rw[if_pos hc21];exact h39
 have hadd2:(rS (Wa.mk (ps.map fun q=>q.p.a) co.a gr.a (sns.map Sn.a)) x.a n e).2=(oE co.a x.name e.ver n).2:=by unfold rS;rw[if_pos hc21];rfl
 refine U<|ZT Z<|W<|Zr<|G (Yi Z)<|cd bN (dQ (oE co.a x.name e.ver n).2 _) Z Z ?_
 rintro _ w11 ⟨rfl,hb⟩;replace H:=H.later hb;clear hb
 refine bl H 2 (#[J ((oE co.a x.name e.ver n).2),J (0),.slice none 0 0]) aQ Z Z Z Z Z N N fun w12 H=>U<|Zt ?_
 exact eQ (cs0:= #[J ((oE co.a x.name e.ver n).2),J (0),.slice none 0 0]) Z aP Z (H.ent (i:=2) Z) Z ⟨ps,uP,co,clo,chi,xi w0 lo hi c3::F,by rw[if_neg hadd,hadd2];exact oK.plain _ _ _,by rw[if_neg hadd];rfl,row,rfl,ak _ hco,fun q hq=>ak _ (hps q hq),fun f hf=>ak _ hf,H.forget (cm [(b8,_),(b7,_),(b6,_)] _) (fun _ h=>h)⟩
 refine U<|ZF Z<|Zk<|Zr<|G (Yp Z)<|G (Zw ax H 0 Z Z Z)<|G (aI Z)<|G (Zf aW Z)<|G (Zf eA Z)<|bl H 3 (#[.slice (Qd gP) ps.length pC,J (c3.clock),J (c3.next),J (c3.wait),.slice c3.A c3.txs.length c3.cap,J (gr.clock),J (gr.wait),J (gr.gen),.slice gr.mA gr.ms.length gr.mC,.slice gr.oA gr.os.length gr.oC,.slice (Qd gS) sns.length snC]) aF Z Z Z Z Z N N fun w13 H=>U ?_
 exact⟨(c3,_,_,_),⟨by rw[hac3];unfold rS;rw[if_pos hc21];rfl,by unfold rS;rw[if_pos hc21];exact(by simpa using h39:(oE co.a x.name e.ver n).2=0),aA ..,fun f hf=>ak _ hf,H.forget (.cons _ (ap _)) (fun _ h=>h)⟩,vX,Qg⟩
 refine Zk ?_
 exact⟨(co,clo,chi,F),⟨by unfold rS;rw[if_neg (by rw[hc21];decide)],by unfold rS;rw[if_neg (by rw[hc21];decide)],hco,fun _ h=>h,H⟩,vX,Qg⟩
 rintro⟨c2,l2,h2,F2⟩ ρ1 w14 ⟨hc2,hok2,hco2,hF2,H⟩
 show CW _ _ _ _ (dv (gk _ _ ρ1) []) w14
 refine W ?_
 refine eu (τ:=Pa×Nat×Nat×Nat) [10,11,12,47,48,49,50,51,52,53,54,55,56,57,58,59,60] (fun(_,b10,_,_)=>[(10,.pointer (Qd b10)),(11,J (eE q.p.a e).2.1),(12,J (eE q.p.a e).2.2)]) (fun(p2,b10,lo,hi) w'=>p2.a=(eE q.p.a e).1/\Hp w0 w' ((b10,.cells #[J (p2.epoch),J (p2.leader),.slice p2.iA p2.isr.length p2.iC,.slice p2.kA p2.known.length p2.kC,.slice p2.rA p2.reps.length p2.rC,J (p2.few),J (p2.base)] bz (0,0))::(b7,.cells #[J (e.epoch),J (e.pid),J (e.ver),J (e.seq),J (e.kind),.bool (e.txn),.string (e.text)] dh (0,0))::(b6,.cells #[J (0),J (0),.slice none 0 0] d9 (0,0))::(bb,.cells #[.slice (Qd gP) ps.length pC,J (c2.clock),J (c2.next),J (c2.wait),.slice c2.A c2.txs.length c2.cap,J (gr.clock),J (gr.wait),J (gr.gen),.slice gr.mA gr.ms.length gr.mC,.slice gr.oA gr.os.length gr.oC,.slice (Qd gS) sns.length snC] bK (0,0))::(gP,.cells uP bz (0,0))::(gS,.cells uS fz (0,0))::(gq,.cells uq cW (0,0))::(gl,.cells ul dh (0,0))::R) (tk w0 lo hi p2::F2)) ?_ ?_
 refine ow bZ 14 9 [9,10,11,12,13,15,16,17] [14] [0,1,2,3,5,6] [14,15,16,17] [9] [0,1,2,3,5,6,10,11,12,13] (sp [(14,Sp.blk w14.heap.size (.agg #[J 0,J 0,.slice none 0 0,.slice none 0 0,.slice none 0 0,J 0,J 0]) bz)]) (sp [(9,Sp.deep w14.heap.size Pz (fun p:Pa=>p.c.toArray) (fun cs=> .tuple #[.agg cs,J (eE q.p.a e).2.1,J (eE q.p.a e).2.2]) (fun cq:Pa=>cq.a=(eE q.p.a e).1))]) N N N N (cI _) (cI _) ?_ ?_
 refine jA [0,1,2,3,4,5,6,7,8,14] [9,10,11,12,13,15,16,17] [14] [0,1,2,3,5,6] 7 (sp [(14,Sp.blk w14.heap.size (.agg #[J 0,J 0,.slice none 0 0,.slice none 0 0,.slice none 0 0,J 0,J 0]) bz)]) N N N Nq<|aw Z Z Z Z Z (fun w' hw'=>Yp Z)<|aw Z Z Z Z Z (fun w' hw'=>aI Z)<|aw Z Z Z Z Z (fun w' hw'=>Zf aW Z)<|aw Z Z Z Z Z (fun w' hw'=>Zf dC Z)<|aw Z Z Z Z Z (fun w' hw'=>aV d4 Z (aB ((H.later hw').ent (i:=2) Z) Z))<|aw Z Z Z Z Z (fun w' hw'=>Yi Z)<|aw Z Z Z Z Z (fun w' hw'=>cC gU Z Z (by first|omega|(simp only[ab];omega)))<|aw Z Z Z Z Z (fun w' hw'=>oN aG row hq Z Z ((H.later hw').ent (i:=3) Z))<|aw Z Z Z Z Z (fun w' hw'=>iP dB Z ((H.later hw').ent (i:=0) Z) Z)<|xd bo Z Z Z Z Z (fun w' hw'=>hw'.size) fun b10=>aU ?_
 intro w15 hw' hF
 obtain⟨hF,bq,eq,hge10,hbl10⟩:=hF;cases eq
 replace H:=H.adoptNew hw' hbl10 hge10
 clear hw' hF
 refine da 9 N Z<|cd qK (y5 q.p e _ (Hp.paM H (hF2 _ (hps q hqm))) (hpk q hqm).1 (hpk q hqm).2) Z Z ?_
 rintro _ w16 ⟨p2,rfl,hap2,hnp2⟩;replace H:=H.learn hnp2.2 (tk w0 w15.heap.size w16.heap.size p2) ⟨H.size,hnp2.1⟩ (ao _) (ao _);clear hnp2
 refine U<|bw 10 N N N Z Z Z Z Nq (fun _=>Yu Z)<|bw 11 N N N Z Z Z Z Nq (fun _=>Xa Z Z)<|bw 12 N N N Z Z Z Z Nq (fun _=>Xi Z Z)<|bw 13 N N N Z Z Z Z Nq (fun _=>Xi Z Z)<|da 15 N Z<|bl H 0 (#[J (p2.epoch),J (p2.leader),.slice p2.iA p2.isr.length p2.iC,.slice p2.kA p2.known.length p2.kC,.slice p2.rA p2.reps.length p2.rC,J (p2.few),J (p2.base)]) aL Z Z Z Z Z N N fun w17 H=>U<|bw 16 N N N Z Z Z Z Nq (fun _=>Wi Z)<|bw 17 N N N Z Z Z Z Nq (fun _=>Wi Z)<|cz N ?_
 exact⟨(p2,b10,_,_),⟨hap2,H⟩,NC Z Z Z,Qg⟩
 refine jA [0,1,2,3,4,5,6,7,8,9,10,11,12,13] [14,15,16,17] [9] [0,1,2,3,5,6,10,11,12,13] 3 (sp [(9,Sp.deep w14.heap.size Pz (fun p:Pa=>p.c.toArray) (fun cs=> .tuple #[.agg cs,J (eE q.p.a e).2.1,J (eE q.p.a e).2.2]) (fun cq:Pa=>cq.a=(eE q.p.a e).1))]) N N N Nq<|aw Z Z Z Z Z (fun w' hw'=>Yp Z)<|aw Z Z Z Z Z (fun w' hw'=>aI Z)<|aw Z Z Z Z Z (fun w' hw'=>Zf aW Z)<|aw Z Z Z Z Z (fun w' hw'=>Zf dC Z)<|aw Z Z Z Z Z (fun w' hw'=>aV d4 Z (aB ((H.later hw').ent (i:=2) Z) Z))<|aw Z Z Z Z Z (fun w' hw'=>Yi Z)<|aw Z Z Z Z Z (fun w' hw'=>cC gU Z Z (by first|omega|(simp only[ab];omega)))<|aw Z Z Z Z Z (fun w' hw'=>oN aG row hq Z Z ((H.later hw').ent (i:=3) Z))<|aw Z Z Z Z Z (fun w' hw'=>iP dB Z ((H.later hw').ent (i:=0) Z) Z)<|sN (gv:=(fun cs=> .tuple #[.agg cs,J (eE q.p.a e).2.1,J (eE q.p.a e).2.2])) qK Z Z Z Z Z (fun w' hw'=>hw'.size) (fun w' hw'=>y5 q.p e w' (Hp.paM (H.later hw') (hF2 _ (hps q hqm))) (hpk q hqm).1 (hpk q hqm).2) Z fun cs57=>aw Z Z Z Z Z (fun w' hw'=>Yu Z)<|aw Z Z Z Z Z (fun w' hw'=>Xa Z Z)<|aw Z Z Z Z Z (fun w' hw'=>Xi Z Z)<|aw Z Z Z Z Z (fun w' hw'=>Xi Z Z)<|aU ?_
 intro w18 hw' hF
 obtain⟨hF,p2,eq,hap2,hrd57⟩:=hF;cases eq
 replace H:=H.learn hw' (tk w0 w14.heap.size w18.heap.size p2) ⟨H.size,hrd57⟩ (ao _) (ao _)
 clear hw' hF
 refine da 14 N Z<|eC H bo Z fun w19 b10 H=>U<|da 15 N Z<|bl H 0 (#[J (p2.epoch),J (p2.leader),.slice p2.iA p2.isr.length p2.iC,.slice p2.kA p2.known.length p2.kC,.slice p2.rA p2.reps.length p2.rC,J (p2.few),J (p2.base)]) aL Z Z Z Z Z N N fun w20 H=>U<|bw 16 N N N Z Z Z Z Nq (fun _=>Wi Z)<|bw 17 N N N Z Z Z Z Nq (fun _=>Wi Z)<|cz N ?_
 exact⟨(p2,b10,_,_),⟨hap2,H⟩,NC Z Z Z,Qg⟩
 rintro⟨p2,b10,lo,hi⟩ ρ1 w21 ⟨hap2,H⟩
 show CW _ _ _ _ (dv (gk _ _ ρ1) [(10,.pointer (Qd b10)),(11,J (eE q.p.a e).2.1),(12,J (eE q.p.a e).2.2)]) w21
 refine W<|W<|Zr<|G (Yi Z) ?_
 refine qU (i6 Z Z) Z Z Z (fun h62=> ?_) (fun h62=> ?_)
 refine U<|ZT Z<|W<|Zr<|G (Yi Z)<|cd bN (dQ (eE q.p.a e).2.2 _) Z Z ?_
 rintro _ w22 ⟨rfl,hb⟩;replace H:=H.later hb;clear hb
 refine bl H 2 (#[J ((eE q.p.a e).2.2),J (0),.slice none 0 0]) aQ Z Z Z Z Z N N fun w23 H=>U<|Zt ?_
 exact eQ (cs0:= #[J ((eE q.p.a e).2.2),J (0),.slice none 0 0]) Z aP Z (H.ent (i:=2) Z) Z ⟨ps,uP,c2,l2,h2,tk w0 lo hi p2::F2,by rw[if_pos hok2,hP,if_neg h62];exact oK.plain _ _ _,by rw[if_pos hok2,hP,if_neg h62,<-hc2];rfl,row,rfl,ak _ hco2,fun q hq=>ak _ (hF2 _ (hps q hq)),fun f hf=>ak _ (hF2 f hf),H.forget (cm [(b10,_),(b7,_),(b6,_)] _) (fun _ h=>h)⟩
 refine U<|ZF Z<|Zk<|W ?_
 refine bD bZ [0,1,2,3,4,5,6,7] [8] [] [0,1,2,3,5,7] (sp []) N N N N Nq (cI _) ?_
 refine aw Z Z Z Z Z (fun w' hw'=>Yp Z)<|aw Z Z Z Z Z (fun w' hw'=>aI Z)<|aw Z Z Z Z Z (fun w' hw'=>Zf aW Z)<|aw Z Z Z Z Z (fun w' hw'=>Zf dC Z)<|aw Z Z Z Z Z (fun w' hw'=>aV d4 Z (aB ((H.later hw').ent (i:=3) Z) Z))<|aw Z Z Z Z Z (fun w' hw'=>Yi Z)<|aw Z Z Z Z Z (fun w' hw'=>iP aG Z ((H.later hw').ent (i:=0) Z) Z)<|aw Z Z Z Z Z (fun w' hw'=>cC gU Z Z (by first|omega|(simp only[ab];omega)))<|aU ?_
 intro w24 hw' hF
 replace H:=H.later hw';clear hw' hF
 refine kQ H 4 (⟨p2,lo,hi⟩) aL row hq 0 Z Z Z Z Z Z N fun w26 cur25 row25 H=> ?_
 have hs27:(ps.set n (⟨p2,lo,hi⟩))[n]? =some (⟨p2,lo,hi⟩):=am (cD hq).1
 refine U<|W<|Zr<|G (Yi Z)<|G (bj (cs:= #[J (0),J ((eE q.p.a e).2.1),.slice none 0 0]) iF dn N)<|bl H 2 (#[J (0),J ((eE q.p.a e).2.1),.slice none 0 0]) aQ Z Z Z Z Z N N fun w28 H=>U<|Zt ?_
 have hz:(eE q.p.a e).2.2=0:=by simpa using h62
 have hz2:=hz
 exact eQ (cs0:= #[J (0),J ((eE q.p.a e).2.1),.slice none 0 0]) Z aP Z (H.ent (i:=2) Z) Z ⟨ps.set n ⟨p2,lo,hi⟩,_,c2,l2,h2,tk w0 lo hi p2::F2,by rw[if_pos hok2,hP,if_pos hz];exact oK.plain _ _ _,by rw[if_pos hok2,hP,if_pos hz,<-hc2];simp only[cy,hap2],row25,ab ..,ak _ hco2,fun y hy=>by rcases zR hy with hy|hy;exact ak _ (hF2 _ (hps y hy));rw[hy];exact aA ..,fun f hf=>ak _ (hF2 f hf),by rw[ab];exact H.forget (cm [(b10,_),(b7,_),(b6,_)] _) (fun _ h=>h)⟩
/-- an answer without texts -/
def Ps (x:An) (v:Value):Prop:=x.texts=[]/\v=.agg #[J x.code,J x.n,.slice none 0 0]
theorem Ps.r {x:An} {v:Value} (h:Ps x v) (w:World):oK x v w:=by
 obtain⟨c,n,t⟩:=x
 obtain⟨h1,rfl⟩:=h
 dsimp only at h1
 subst h1
 exact oK.plain c n w
theorem Gc (a:Act) (x:An) (w:World):dd aa va [a.v,.agg #[J x.code,J x.n,.slice none 0 0]] w fun v w2=>v=.agg #[J (f4 a x).code,J (f4 a x).n,.slice none 0 0]/\Below w.heap.size w w2:=
 (Da a x.code x.n none 0 0 w).mono fun v w2 ⟨h1,h2⟩=>⟨by rw[h1];unfold f4;split<;>rfl,h2⟩
theorem lz (a:Act) {x:An} (hx:x.texts=[]):(f4 a x).texts=[]:=by
 unfold f4
 split
 exact hx
 rfl
theorem zI (w:Wa) (n:Nat) (x:cH):(uD w n x).2.texts=[]:=by
 unfold uD
 split
 rfl
 split<;>rfl
theorem kp (w:Wa) (s:Sn) (n:Nat):(ej w s n).2.texts=[]:=by
 unfold ej
 split
 rfl
 split
 exact zI ..
 rfl
theorem oK.p {x:An} {v:Value} {w:World} (h:oK x v w) (hx:x.texts=[]): ∃ A c,v=.agg #[J x.code,J x.n,.slice A 0 c]:=by
 obtain⟨A,c,h1,-,-⟩:=h
 rw[hx]at h1
 exact⟨A,c,h1⟩
theorem zF {b:Bk} {a:Act} {ag:Bool} (hix:fg b.sns a.name=none):mY b.a a ag=(b.a,⟨5,0,[]⟩):=by
 unfold mY
 rw[show b.a.sns=b.sns.map Sn.a from rfl,De hix]
 rfl
theorem zG {b:Bk} {a:Act} {i:Nat} {x:Sn} {e:cH} (hix:fg b.sns a.name=some i) (hx:b.sns[i]? =some x) (he:x.last[a.part.toNat]? =some e) (hk:e.kind=0):mY b.a a true=(b.a,⟨15,0,[]⟩):=by
 unfold mY
 rw[show b.a.sns=b.sns.map Sn.a from rfl,wk hix hx]
 dsimp only
 rw[if_pos ⟨rfl,by rw[bY,show x.a.last=x.last from rfl,he];exact hk⟩]
 rfl
theorem nY {b:Bk} {a:Act} {i:Nat} {x:Sn} {ag:Bool} (hix:fg b.sns a.name=some i) (hx:b.sns[i]? =some x) (hk:ag=true-> ∃ e,x.last[a.part.toNat]? =some e/\e.kind≠0) (s1:Sn) (hs:(if ag then x else pS x a.part.toNat a.text)=s1):mY b.a a ag=if a.lost=1 then({b.a with sns:=(b.sns.set i s1).map Sn.a},⟨14,0,[]⟩)else((ej {b.a with sns:=(b.sns.set i s1).map Sn.a} s1.a a.part.toNat).1,f4 a (ej {b.a with sns:=(b.sns.set i s1).map Sn.a} s1.a a.part.toNat).2):=by
 subst hs
 unfold mY
 rw[show b.a.sns=b.sns.map Sn.a from rfl,wk hix hx]
 dsimp only
 rw[if_neg (fun h=>by
  obtain⟨e,he,hne⟩:=hk h.1
  have h2:=h.2
  rw[bY,show x.a.last=x.last from rfl,he]at h2
  exact hne h2)]
 have:(if ag=true then x.a else pS x.a a.part.toNat a.text)=(if ag=true then x else pS x a.part.toNat a.text).a:=by split<;>rfl
 rw[this,cy]
 rfl
theorem un {x:Sn} {n:Nat} {q:Int} (h:x.seqs[n]? =some q) (t:ByteArray):pS x n t={x with last:=x.last.set n ⟨0,x.pid,x.ver,q,1,x.inn,t⟩,seqs:=x.seqs.set n (q+1)}:=by
 unfold pS
 rw[bY,h]
 rfl
theorem dU.same {α:Type} {Y:fj α} {es:List α} {c k:Nat} {cur:Array Value} {e e':α} (h:dU Y es c cur) (hk:es[k]? =some e) (he:Y.f e'=Y.f e):dU Y (es.set k e') c cur:=by
 refine⟨h.size,?_,by rw[ab];exact h.le,h.max⟩
 rw[ab,h.all]
 unfold fj.all
 have:(es.set k e').map Y.f=es.map Y.f:=by rw[cy,he];exact fa (by rw[aM,hk];rfl)
 simp only[List.flatMap_def,this]
theorem IK {w0 w:World} {bb:Nat} {b:Bk} {gP:Nat} {uP:Array Value} {Ls Lo K:List (Nat×Obj)} {F:List ci} (a:Act) (B:Bw w0 w bb b gP uP Ls Lo K F) (hsl:b.sns.length<=1000000) (ag:Bool) (hix:fg b.sns a.name=none):dd aa iR [.pointer (Qd bb),a.v,.bool ag] w fun v w2=> ∃ b':Bk,oK (mY b.a a ag).2 v w2/\b'.a=(mY b.a a ag).1/\xj w0 w2 bb b' K F:=by
 refine aE jS Z Z ?_
 obtain⟨ps,pA,pC,co,clo,chi,gr,glo,ghi,sns,snA,snC⟩:=b
 obtain⟨hpA,row,hsn,hown,hco,hgr,hps,H⟩:=B
 dsimp only at hpA row hsn hown hco hgr hps
 subst hpA
 replace H:Hp w0 w ((bb,.cells #[.slice (Qd gP) ps.length pC,J (co.clock),J (co.next),J (co.wait),.slice co.A co.txs.length co.cap,J (gr.clock),J (gr.wait),J (gr.gen),.slice gr.mA gr.ms.length gr.mC,.slice gr.oA gr.os.length gr.oC,.slice snA sns.length snC] bK (0,0))::(gP,.cells uP bz (0,0))::(Ls++(Lo++K))) F:=H
 dsimp only at hix hsl
 show CW _ _ _ _ (args [.pointer (Qd bb),.agg #[J (a.kind),.string (a.name),J (a.part),J (a.n),J (a.m),.string (a.text),J (a.lost)],.bool ag]) w
 refine W<|Zr<|fS H Z Z fun w1 b4 H=>eC H dn Z fun w2 b6 H=>U<|W<|Zr<|G (Yp Z)<|G (Zf fb Z)<|G (Zd ba H 1 Z Z Z)<|cd dz (js bb ⟨ps,some ⟨gP,0,none⟩,pC,co,clo,chi,gr,glo,ghi,sns,snA,snC⟩ (a.name) Ls _ (H.ent (i:=2) Z) hsn (fun q hq=>(H.ents q (by simp only[av,ar];grind)).1) hsl) Z Z ?_
 rintro _ w3 ⟨rfl,hb⟩;replace H:=H.later hb;clear hb
 rw[hix]
 refine G (Wp Z)<|U<|W<|Zb<|W<|Zr<|G (Yp Z)<|G (xw iN Z)<|G (Yb Z)<|ZN<|ZN<|ZN<|ZN<|ZN<|G (Kt Z Z)<|G (Wb Z)<|U<|ZT Z<|W<|Zr<|cd bN (dQ 5 _) Z Z ?_
 rintro _ w4 ⟨rfl,hb⟩;replace H:=H.later hb;clear hb
 refine bl H 0 (#[J (5),J (0),.slice none 0 0]) aQ Z Z Z Z Z N N fun w5 H=>U<|Zt ?_
 exact eQ (cs0:= #[J (5),J (0),.slice none 0 0]) Z aP Z (H.ent (i:=0) Z) Z ⟨⟨ps,some ⟨gP,0,none⟩,pC,co,clo,chi,gr,glo,ghi,sns,snA,snC⟩,by rw[zF hix];exact oK.plain _ _ _,by rw[zF hix],Bw.shut (X:=[(b6,_),(b4,_)]) row hsn hown hco hgr hps (fun _ h=>h) H Z⟩
theorem J8 {a:Act} {x:An} {A:Option Addr} {c:Nat} {v:Value} (h:v=if a.lost=0 then .agg #[J x.code,J x.n,.slice A 0 c]else .agg #[J 14,J 0,.slice none 0 0]): ∃ A2 c2,v=.agg #[J (f4 a x).code,J (f4 a x).n,.slice A2 0 c2]:=by
 unfold f4
 split at h
 rename_i h0;rw[if_pos h0];exact⟨_,_,h⟩
 rename_i h0;rw[if_neg h0];exact⟨_,_,h⟩
theorem oK.of {x:An} {A:Option Addr} {c:Nat} {w:World} (hx:x.texts=[]):oK x (.agg #[J x.code,J x.n,.slice A 0 c]) w:=⟨A,c,by rw[hx];rfl,by rw[hx];exact bA _,by rw[hx];exact Rd.nil⟩
theorem Gp {w0 w:World} {bb:Nat} {b:Bk} {gP:Nat} {uP:Array Value} {Ls Lo K:List (Nat×Obj)} {F:List ci} (a:Act) (B:Bw w0 w bb b gP uP Ls Lo K F) (hsl:b.sns.length<=1000000) {k i:Nat} {x:Sn} (hix:fg b.sns a.name=some i) (hx:b.sns[i]? =some x) (hpn:0<=a.part/\a.part<b.ps.length) (hlo:0<=a.lost/\a.lost<=2) (hll:x.last.length=b.ps.length) (hsq:x.seqs.length=b.ps.length) (h4:b.ps.length<=4) (hnm:bM x.name=true) (hcb:oJ k b.co) (hpk: ∀ q∈b.ps,q.p.a.ok/\ ∀ (l:Nat) (y:eW),q.p.leader=l->q.p.reps[l]? =some y->y.es.length<400):dd aa iR [.pointer (Qd bb),a.v,.bool true] w fun v w2=> ∃ b':Bk,oK (mY b.a a true).2 v w2/\b'.a=(mY b.a a true).1/\xj w0 w2 bb b' K F:=by
 refine aE jS Z Z ?_
 obtain⟨ps,pA,pC,co,clo,chi,gr,glo,ghi,sns,snA,snC⟩:=b
 obtain⟨hpA,row,hsn,hown,hco,hgr,hps,H⟩:=B
 dsimp only at hpA row hsn hown hco hgr hps
 subst hpA
 dsimp only at hix hx
 obtain⟨gS,uS,hgS,hLs,rowS⟩:=hsn.row (by have:=(cD hx).1;omega)
 subst hgS;subst hLs
 obtain⟨gq,uq,gl,ul,La,Lb,hsA,hlA,rowq,rowl,hLo,hset⟩:=hown.at_ hx
 subst hLo
 replace H:Hp w0 w ((bb,.cells #[.slice (Qd gP) ps.length pC,J (co.clock),J (co.next),J (co.wait),.slice co.A co.txs.length co.cap,J (gr.clock),J (gr.wait),J (gr.gen),.slice gr.mA gr.ms.length gr.mC,.slice gr.oA gr.os.length gr.oC,.slice (Qd gS) sns.length snC] bK (0,0))::(gP,.cells uP bz (0,0))::(gS,.cells uS fz (0,0))::(gq,.cells uq cW (0,0))::(gl,.cells ul dh (0,0))::(La++(Lb++K))) F:=H.perm (CD [(bb,_),(gP,_),(gS,_)] _ _ La Lb K)
 dsimp only at hsl hpn hll hsq h4 hcb hpk
 obtain⟨n,hna⟩: ∃ n:Nat,a.part=(n:Int):=⟨a.part.toNat,by omega⟩
 have htn:a.part.toNat=n:=by omega
 have hl5:(zx.f x)[5]? =some (.slice (some ⟨gl,0,none⟩) x.last.length x.lC):=by rw[<-hlA];rfl
 have hl4:(zx.f x)[4]? =some (.slice (some ⟨gq,0,none⟩) x.seqs.length x.sC):=by rw[<-hsA];rfl
 obtain⟨e,he⟩: ∃ e,x.last[n]? =some e:=⟨_,ah I⟩
 have rS2:dU zx (sns.set i x) snC uS:=by rw[fa hx];exact rowS
 show CW _ _ _ _ (args [.pointer (Qd bb),.agg #[J (a.kind),.string (a.name),J (a.part),J (a.n),J (a.m),.string (a.text),J (a.lost)],.bool true]) w
 refine W<|Zr<|fS H Z Z fun w1 b4 H=>eC H dn Z fun w2 b6 H=>U<|W<|Zr<|G (Yp Z)<|G (Zf fb Z)<|G (Zd ba H 1 Z Z Z)<|cd dz (js bb ⟨ps,some ⟨gP,0,none⟩,pC,co,clo,chi,gr,glo,ghi,sns,some ⟨gS,0,none⟩,snC⟩ (a.name) _ _ (H.ent (i:=2) Z) (dU.own rowS) (fun q hq=>by rw[aq.1 hq];exact(H.ent (i:=4) Z)) hsl) Z Z ?_
 rintro _ w3 ⟨rfl,hb⟩;replace H:=H.later hb;clear hb
 rw[hix]
 refine G (Wp Z)<|U<|W<|Zb<|W<|Zr<|G (Yp Z)<|G (vD iN Z)<|G (Yb Z)<|ZG<|G (Yp Z)<|ZG<|G (Zf dS Z)<|ZG<|G (Zd aj H 1 Z Z Z)<|ZG<|cd dW (n6 bb ⟨ps,some ⟨gP,0,none⟩,pC,co,clo,chi,gr,glo,ghi,sns,some ⟨gS,0,none⟩,snC⟩ a.part _ (H.ent (i:=2) Z)) Z Z ?_
 rintro _ w4 ⟨rfl,hb⟩;replace H:=H.later hb;clear hb
 rw[decide_eq_true hpn]
 refine ZG<|G (dO Z)<|G (N Z Z)<|G (Wb Z)<|U<|ZF Z<|W<|Zr<|G (Zf jI Z)<|G (Zd aj H 1 Z Z Z)<|G (cY Z Z I)<|G (Yb Z)<|ZG<|G (Zf jI Z)<|ZG<|G (Zd aj H 1 Z Z Z)<|ZG<|G (er Z Z I)<|G (N Z Z)<|G (Wb Z)<|U<|ZF Z<|W ?_
 refine bD bZ [0,1,2,3,4,5,6,7,8,9,10,11,12,13] [] [] [0,1,2,3,4,6,8,9,11,12,13] (sp []) N N N N Nq (cI _) ?_
 refine aw Z Z Z Z Z (fun w' hw'=>Yb Z)<|aw Z Z Z Z Z (fun w' hw'=>Yb Z)<|aw Z Z Z Z Z (fun w' hw'=>Yp Z)<|aw Z Z Z Z Z (fun w' hw'=>aI Z)<|aw Z Z Z Z Z (fun w' hw'=>Zf lT Z)<|aw Z Z Z Z Z (fun w' hw'=>bQ nc rowS hx 5 Z ((H.later hw').ent (i:=4) Z) hl5)<|aw Z Z Z Z Z (fun w' hw'=>Zf dS Z)<|aw Z Z Z Z Z (fun w' hw'=>aV aj Z (aB ((H.later hw').ent (i:=1) Z) Z))<|aw Z Z Z Z Z (fun w' hw'=>cC (k:=n) dN Z (congrArg (Value.int .i64) hna) (by first|omega|(simp only[ab];omega)))<|aw Z Z Z Z Z (fun w' hw'=>Zf eB Z)<|aw Z Z Z Z Z (fun w' hw'=>bQ aj rowl he 4 Z ((H.later hw').ent (i:=6) Z) Z) ?_
 refine Bi Z Z Z Z Z (fun w' hw'=>bh Z Z) (fun h45=> ?_) (fun h45=> ?_)
 ·
  refine aw Z Z Z Z Z (fun w' hw'=>Kt Z Z)<|aw Z Z Z Z Z (fun w' hw'=>Wb Z)<|aU ?_
  intro w5 hw' hF
  replace H:=H.later hw';clear hw' hF
  refine U<|ZT Z<|W<|Zr<|cd bN (dQ 15 _) Z Z ?_
  rintro _ w6 ⟨rfl,hb⟩;replace H:=H.later hb;clear hb
  refine bl H 0 (#[J (15),J (0),.slice none 0 0]) aQ Z Z Z Z Z N N fun w7 H=>U<|Zt ?_
  rw[<-htn]at he
  exact eQ (cs0:= #[J (15),J (0),.slice none 0 0]) Z aP Z (H.ent (i:=0) Z) Z ⟨⟨ps,some ⟨gP,0,none⟩,pC,co,clo,chi,gr,glo,ghi,sns.set i x,some ⟨gS,0,none⟩,snC⟩,by rw[zG hix hx he h45];exact oK.plain _ _ _,by rw[zG hix hx he h45,fa hx],Bw.close (X:=[(b6,_),(b4,_)]) row (by rw[fa hx];exact rowS) hset hsA hlA rowq rowl hco hgr hps (fun _ h=>h) H (by rw[fa hx];rfl)⟩
 ·
  refine aw Z Z Z Z Z (fun w' hw'=>Kt Z Z)<|aw Z Z Z Z Z (fun w' hw'=>Wb Z)<|aU ?_
  intro w8 hw' hF
  replace H:=H.later hw';clear hw' hF
  refine U<|ZF Z<|W<|Zr<|G (Yb Z)<|G (dO Z)<|G (Yb Z)<|ZN<|ZN<|ZN<|ZN<|G (N Z Z)<|G (Wb Z)<|U<|ZF Z<|Zk<|W<|W<|Zr<|G (Yb Z)<|G (dO Z)<|U<|ZF Z<|Zk<|W<|W<|Zr<|G (Zf jI Z)<|G (Zd aj H 1 Z Z Z) ?_
  refine cR (bh Z Z) Z Z Z (fun h102=> ?_) (fun h102=> ?_)
  ·
   refine U<|ZT Z<|W<|Zr<|cd bN (dQ 14 _) Z Z ?_
   rintro _ w9 ⟨rfl,hb⟩;replace H:=H.later hb;clear hb
   refine bl H 0 (#[J (14),J (0),.slice none 0 0]) aQ Z Z Z Z Z N N fun w10 H=>U<|Zt ?_
   exact eQ (cs0:= #[J (14),J (0),.slice none 0 0]) Z aP Z (H.ent (i:=0) Z) Z ⟨⟨ps,some ⟨gP,0,none⟩,pC,co,clo,chi,gr,glo,ghi,sns.set i x,some ⟨gS,0,none⟩,snC⟩,by rw[nY hix hx (fun _=>⟨e,by rw[htn];exact he,h45⟩) x Z,if_pos h102];exact oK.plain _ _ _,by rw[nY hix hx (fun _=>⟨e,by rw[htn];exact he,h45⟩) x Z,if_pos h102];rfl,Bw.close (X:=[(b6,_),(b4,_)]) row rS2 hset hsA hlA rowq rowl hco hgr hps (fun _ h=>h) H (by simp only[Bk.c,ab])⟩
  ·
   refine U<|ZF Z<|Zk<|W ?_
   refine mF bZ (fun w'=>w'.heap[b4]? =some (.cells #[J (a.kind),.string (a.name),J (a.part),J (a.n),J (a.m),.string (a.text),J (a.lost)] f5 (0,0))) ?_
   intro w11 hw';replace H:=H.later hw';clear hw'
   refine aN 0 N N N Z Z Z Z Nq (H.ent (i:=1) Z) (fun _ hS=>iP dP Z hS Z)<|aN 1 N N N Z Z Z Z Nq (H.ent (i:=1) Z) (fun _ hS=>Yp Z)<|aN 2 N N N Z Z Z Z Nq (H.ent (i:=1) Z) (fun _ hS=>Yp Z)<|aN 3 N N N Z Z Z Z Nq (H.ent (i:=1) Z) (fun _ hS=>Zf dS Z)<|aN 4 N N N Z Z Z Z Nq (H.ent (i:=1) Z) (fun _ hS=>aV aj Z (aB hS Z))<|r5 5 N Z ?_
   refine cd ls ((by have hA:=AJ (i:=i) (n:=n) (k:=k) (sns:=sns.set i x) (x:=x) (by simp only[ab];exact H.perm ((ai _ (ai _ (ai _ (ai _ (al _ _ _))))).trans ((ai _ (ai _ (ai _ (al _ _ _)))).trans ((ai _ (ai _ (al _ _ _))).trans ((ai _ (al _ _ _)).trans ((al _ _ _).trans ((ai _ (ai _ (ai _ (ai _ (ai _ (al _ _ _)))))).trans ((ai _ (ai _ (ai _ (ai _ (al _ _ _))))).trans ((ai _ (ai _ (ai _ (al _ _ _)))).trans ((ai _ (ai _ (al _ _ _))).trans (ai _ (al _ _ _)))))))))))) row rS2 rowl (am (cD hx).1) hlA hco hps I I I hnm hcb hpk;rw[<-hna]at hA;exact hA)) Z Z ?_
   rintro _ w12 ⟨ps',uP',co',clo',chi',F',hAn,hW,row',hlen',hco',hps',hF',H⟩
   replace H:=H.perm ((ai _ (al _ _ _)).trans ((al _ _ _).trans ((ai _ (ai _ (al _ _ _))).trans ((ai _ (al _ _ _)).trans ((ai _ (ai _ (ai _ (al _ _ _)))).trans ((ai _ (ai _ (al _ _ _))).trans ((ai _ (ai _ (ai _ (ai _ (al _ _ _))))).trans ((ai _ (ai _ (ai _ (al _ _ _)))).trans ((ai _ (ai _ (ai _ (ai _ (ai _ (al _ _ _)))))).trans (ai _ (ai _ (ai _ (ai _ (al _ _ _))))))))))))))
   obtain⟨A1,c1,rfl⟩:=hAn.p (kp ..)
   refine U ?_
   refine⟨(H.ent (i:=1) Z),?_⟩
   refine r5 6 N Z<|cd kz (Da a (ej (Wa.mk (ps.map fun q=>q.p.a) co.a gr.a ((sns.set i x).map Sn.a)) x.a n).2.code (ej (Wa.mk (ps.map fun q=>q.p.a) co.a gr.a ((sns.set i x).map Sn.a)) x.a n).2.n A1 0 c1 _) Z Z ?_
   rintro _ w13 ⟨ht,hb⟩;replace H:=H.later hb;clear hb
   obtain⟨A2,c2,rfl⟩:=J8 ht
   refine U ?_
   refine⟨(H.ent (i:=1) Z),?_⟩
   refine r5 7 N Z<|bl H 0 (#[J ((f4 a (ej (Wa.mk (ps.map fun q=>q.p.a) co.a gr.a ((sns.set i x).map Sn.a)) x.a n).2).code),J ((f4 a (ej (Wa.mk (ps.map fun q=>q.p.a) co.a gr.a ((sns.set i x).map Sn.a)) x.a n).2).n),.slice A2 0 c2]) aQ Z Z Z Z Z N N fun w14 H=>U ?_
   refine⟨(H.ent (i:=1) Z),?_⟩
   refine jP N<|Zt ?_
   exact eQ (cs0:= #[J ((f4 a (ej (Wa.mk (ps.map fun q=>q.p.a) co.a gr.a ((sns.set i x).map Sn.a)) x.a n).2).code),J ((f4 a (ej (Wa.mk (ps.map fun q=>q.p.a) co.a gr.a ((sns.set i x).map Sn.a)) x.a n).2).n),.slice A2 0 c2]) Z aP Z (H.ent (i:=0) Z) Z ⟨⟨ps',some ⟨gP,0,none⟩,pC,co',clo',chi',gr,glo,ghi,sns.set i x,some ⟨gS,0,none⟩,snC⟩,by rw[nY hix hx (fun _=>⟨e,by rw[htn];exact he,h45⟩) x Z,if_neg h102,htn];exact oK.of (lz _ (kp ..)),by rw[nY hix hx (fun _=>⟨e,by rw[htn];exact he,h45⟩) x Z,if_neg h102,htn];exact hW.symm,Bw.close (X:=[(b6,_),(b4,_)]) row' rS2 hset hsA hlA rowq rowl hco' (hF' _ hgr) hps' hF' H (by simp only[Bk.c,ab])⟩
theorem Kr {w0 w:World} {bb:Nat} {b:Bk} {gP:Nat} {uP:Array Value} {Ls Lo K:List (Nat×Obj)} {F:List ci} (a:Act) (B:Bw w0 w bb b gP uP Ls Lo K F) (hsl:b.sns.length<=1000000) {k i:Nat} {x:Sn} (hix:fg b.sns a.name=some i) (hx:b.sns[i]? =some x) (hpn:0<=a.part/\a.part<b.ps.length) (hlo:0<=a.lost/\a.lost<=2) (hll:x.last.length=b.ps.length) (hsq:x.seqs.length=b.ps.length) (h4:b.ps.length<=4) (hnm:bM x.name=true) (hcb:oJ k b.co) (hpk: ∀ q∈b.ps,q.p.a.ok/\ ∀ (l:Nat) (y:eW),q.p.leader=l->q.p.reps[l]? =some y->y.es.length<400) (htx:a.text.size<=40) (hsb: ∀ q∈x.seqs,0<=q/\q<=400):dd aa iR [.pointer (Qd bb),a.v,.bool false] w fun v w2=> ∃ b':Bk,oK (mY b.a a false).2 v w2/\b'.a=(mY b.a a false).1/\xj w0 w2 bb b' K F:=by
 refine aE jS Z Z ?_
 obtain⟨ps,pA,pC,co,clo,chi,gr,glo,ghi,sns,snA,snC⟩:=b
 obtain⟨hpA,row,hsn,hown,hco,hgr,hps,H⟩:=B
 dsimp only at hpA row hsn hown hco hgr hps
 subst hpA
 dsimp only at hix hx
 obtain⟨gS,uS,hgS,hLs,rowS⟩:=hsn.row (by have:=(cD hx).1;omega)
 subst hgS;subst hLs
 obtain⟨gq,uq,gl,ul,La,Lb,hsA,hlA,rowq,rowl,hLo,hset⟩:=hown.at_ hx
 subst hLo
 replace H:Hp w0 w ((bb,.cells #[.slice (Qd gP) ps.length pC,J (co.clock),J (co.next),J (co.wait),.slice co.A co.txs.length co.cap,J (gr.clock),J (gr.wait),J (gr.gen),.slice gr.mA gr.ms.length gr.mC,.slice gr.oA gr.os.length gr.oC,.slice (Qd gS) sns.length snC] bK (0,0))::(gP,.cells uP bz (0,0))::(gS,.cells uS fz (0,0))::(gq,.cells uq cW (0,0))::(gl,.cells ul dh (0,0))::(La++(Lb++K))) F:=H.perm (CD [(bb,_),(gP,_),(gS,_)] _ _ La Lb K)
 dsimp only at hsl hpn hll hsq h4 hcb hpk
 obtain⟨n,hna⟩: ∃ n:Nat,a.part=(n:Int):=⟨a.part.toNat,by omega⟩
 have htn:a.part.toNat=n:=by omega
 have hl5:(zx.f x)[5]? =some (.slice (some ⟨gl,0,none⟩) x.last.length x.lC):=by rw[<-hlA];rfl
 have hl4:(zx.f x)[4]? =some (.slice (some ⟨gq,0,none⟩) x.seqs.length x.sC):=by rw[<-hsA];rfl
 obtain⟨e,he⟩: ∃ e,x.last[n]? =some e:=⟨_,ah I⟩
 obtain⟨q,hq0⟩: ∃ q,x.seqs[n]? =some q:=⟨_,ah I⟩
 have hqb:=hsb q (ae hq0)
 show CW _ _ _ _ (args [.pointer (Qd bb),.agg #[J (a.kind),.string (a.name),J (a.part),J (a.n),J (a.m),.string (a.text),J (a.lost)],.bool false]) w
 refine W<|Zr<|fS H Z Z fun w1 b4 H=>eC H dn Z fun w2 b6 H=>U<|W<|Zr<|G (Yp Z)<|G (Zf fb Z)<|G (Zd ba H 1 Z Z Z)<|cd dz (js bb ⟨ps,some ⟨gP,0,none⟩,pC,co,clo,chi,gr,glo,ghi,sns,some ⟨gS,0,none⟩,snC⟩ (a.name) _ _ (H.ent (i:=2) Z) (dU.own rowS) (fun q hq=>by rw[aq.1 hq];exact(H.ent (i:=4) Z)) hsl) Z Z ?_
 rintro _ w3 ⟨rfl,hb⟩;replace H:=H.later hb;clear hb
 rw[hix]
 refine G (Wp Z)<|U<|W<|Zb<|W<|Zr<|G (Yp Z)<|G (vD iN Z)<|G (Yb Z)<|ZG<|G (Yp Z)<|ZG<|G (Zf dS Z)<|ZG<|G (Zd aj H 1 Z Z Z)<|ZG<|cd dW (n6 bb ⟨ps,some ⟨gP,0,none⟩,pC,co,clo,chi,gr,glo,ghi,sns,some ⟨gS,0,none⟩,snC⟩ a.part _ (H.ent (i:=2) Z)) Z Z ?_
 rintro _ w4 ⟨rfl,hb⟩;replace H:=H.later hb;clear hb
 rw[decide_eq_true hpn]
 refine ZG<|G (dO Z)<|G (N Z Z)<|G (Wb Z)<|U<|ZF Z<|W<|Zr<|G (Zf jI Z)<|G (Zd aj H 1 Z Z Z)<|G (cY Z Z I)<|G (Yb Z)<|ZG<|G (Zf jI Z)<|ZG<|G (Zd aj H 1 Z Z Z)<|ZG<|G (er Z Z I)<|G (N Z Z)<|G (Wb Z)<|U<|ZF Z<|W ?_
 refine bD bZ [0,1,2,3,4,5,6,7,8,9,10,11,12,13] [] [] [0,1,2,3,4,6,8,9,11,12,13] (sp []) N N N N Nq (cI _) ?_
 refine aw Z Z Z Z Z (fun w' hw'=>Yb Z)<|aw Z Z Z Z Z (fun w' hw'=>Yb Z)<|eU Z Z Z Z<|eU Z Z Z Z<|eU Z Z Z Z<|eU Z Z Z Z<|eU Z Z Z Z<|eU Z Z Z Z<|eU Z Z Z Z<|eU Z Z Z Z<|eU Z Z Z Z<|eU Z Z Z Z<|aw Z Z Z Z Z (fun w' hw'=>N Z Z)<|aw Z Z Z Z Z (fun w' hw'=>Wb Z)<|aU ?_
 intro w5 hw' hF
 replace H:=H.later hw';clear hw' hF
 refine U<|ZF Z<|W<|Zr<|G (Yb Z)<|G (dO Z)<|G (Yb Z)<|ZG<|G (Zf AF Z)<|ZG<|G (Zd ba H 1 Z Z Z)<|ZG<|G (GR jq Z)<|ZG<|G (er Z Z I)<|G (Kt Z Z)<|G (Wb Z)<|U<|ZF Z<|Zk<|W<|W<|Zr<|G (Yb Z)<|G (dO Z)<|U<|ZT Z<|W ?_
 refine bD bZ [0,1,2,3,4,5,6,7,8,9,10,11,12,13,14,15,16,17,18,19,20,21,22,23,24,25,26,27,28,29] [30] [] [0,1,2,4,6,7,8,10,11,12,14,15,16,18,20,22,23,24,26,28,29] (sp []) N N N N Nq (cI _) ?_
 refine aw Z Z Z Z Z (fun w' hw'=>Yp Z)<|aw Z Z Z Z Z (fun w' hw'=>aI Z)<|aw Z Z Z Z Z (fun w' hw'=>Zf lT Z)<|aw Z Z Z Z Z (fun w' hw'=>bQ nc rowS hx 5 Z ((H.later hw').ent (i:=4) Z) hl5)<|aw Z Z Z Z Z (fun w' hw'=>Zf dS Z)<|aw Z Z Z Z Z (fun w' hw'=>aV aj Z (aB ((H.later hw').ent (i:=1) Z) Z))<|aw Z Z Z Z Z (fun w' hw'=>Yp Z)<|aw Z Z Z Z Z (fun w' hw'=>aI Z)<|aw Z Z Z Z Z (fun w' hw'=>Zf FJ Z)<|aw Z Z Z Z Z (fun w' hw'=>bQ aj rowS hx 1 Z ((H.later hw').ent (i:=4) Z) Z)<|aw Z Z Z Z Z (fun w' hw'=>Yp Z)<|aw Z Z Z Z Z (fun w' hw'=>aI Z)<|aw Z Z Z Z Z (fun w' hw'=>Zf tU Z)<|aw Z Z Z Z Z (fun w' hw'=>bQ aj rowS hx 2 Z ((H.later hw').ent (i:=4) Z) Z)<|aw Z Z Z Z Z (fun w' hw'=>Yp Z)<|aw Z Z Z Z Z (fun w' hw'=>aI Z)<|aw Z Z Z Z Z (fun w' hw'=>Zf yy Z)<|aw Z Z Z Z Z (fun w' hw'=>bQ cr rowS hx 4 Z ((H.later hw').ent (i:=4) Z) hl4)<|aw Z Z Z Z Z (fun w' hw'=>Zf dS Z)<|aw Z Z Z Z Z (fun w' hw'=>aV aj Z (aB ((H.later hw').ent (i:=1) Z) Z))<|aw Z Z Z Z Z (fun w' hw'=>cC (k:=n) aZ Z (congrArg (Value.int .i64) hna) (by first|omega|(simp only[ab];omega)))<|aw Z Z Z Z Z (fun w' hw'=>bQ aj rowq hq0 0 Z ((H.later hw').ent (i:=5) Z) Z)<|aw Z Z Z Z Z (fun w' hw'=>Yp Z)<|aw Z Z Z Z Z (fun w' hw'=>aI Z)<|aw Z Z Z Z Z (fun w' hw'=>Zf oo Z)<|aw Z Z Z Z Z (fun w' hw'=>bQ dR rowS hx 3 Z ((H.later hw').ent (i:=4) Z) Z)<|aw Z Z Z Z Z (fun w' hw'=>Zf AF Z)<|aw Z Z Z Z Z (fun w' hw'=>aV ba Z (aB ((H.later hw').ent (i:=1) Z) Z))<|aw Z Z Z Z Z (fun w' hw'=>bj (cs:= #[J (0),J (x.pid),J (x.ver),J (q),J (1),.bool (x.inn),.string (a.text)]) nW fU N)<|aw Z Z Z Z Z (fun w' hw'=>cC (k:=n) dN Z (congrArg (Value.int .i64) hna) (by first|omega|(simp only[ab];omega)))<|aU ?_
 intro w6 hw' hF
 replace H:=H.later hw';clear hw' hF
 refine kQ H 6 (⟨0,x.pid,x.ver,q,1,x.inn,a.text⟩) eM rowl he 0 Z Z Z Z Z Z N fun w8 cur7 row7 H=> ?_
 have hs9:(x.last.set n (⟨0,x.pid,x.ver,q,1,x.inn,a.text⟩))[n]? =some (⟨0,x.pid,x.ver,q,1,x.inn,a.text⟩):=am (cD he).1
 refine U ?_
 refine bD bZ [0,1,2,3,4,5,6,7,8,9] [10] [] [0,1,2,4,6,8,9] (sp []) N N N N Nq (cI _) ?_
 refine aw Z Z Z Z Z (fun w' hw'=>Yp Z)<|aw Z Z Z Z Z (fun w' hw'=>aI Z)<|aw Z Z Z Z Z (fun w' hw'=>Zf yy Z)<|aw Z Z Z Z Z (fun w' hw'=>bQ cr rowS hx 4 Z ((H.later hw').ent (i:=4) Z) hl4)<|aw Z Z Z Z Z (fun w' hw'=>Zf dS Z)<|aw Z Z Z Z Z (fun w' hw'=>aV aj Z (aB ((H.later hw').ent (i:=1) Z) Z))<|aw Z Z Z Z Z (fun w' hw'=>cC (k:=n) aZ Z (congrArg (Value.int .i64) hna) (by first|omega|(simp only[ab];omega)))<|aw Z Z Z Z Z (fun w' hw'=>bQ aj rowq hq0 0 Z ((H.later hw').ent (i:=5) Z) Z)<|aw Z Z Z Z Z (fun w' hw'=>bp Z Z I I)<|aw Z Z Z Z Z (fun w' hw'=>cC (k:=n) aZ Z (congrArg (Value.int .i64) hna) (by first|omega|(simp only[ab];omega)))<|aU ?_
 intro w10 hw' hF
 replace H:=H.later hw';clear hw' hF
 refine kQ H 5 ((q+1)) bI rowq hq0 0 Z Z Z Z Z Z N fun w12 cur11 row11 H=> ?_
 have hs13:(x.seqs.set n ((q+1)))[n]? =some ((q+1)):=am (cD hq0).1
 refine U<|W<|W ?_
 obtain⟨x1,hx1⟩: ∃ x1:Sn,{x with last:=x.last.set n ⟨0,x.pid,x.ver,q,1,x.inn,a.text⟩,seqs:=x.seqs.set n (q+1)}=x1:=⟨_,rfl⟩
 have hsA1:x1.sA=some ⟨gq,0,none⟩:=by rw[<-hx1];exact hsA
 have hlA1:x1.lA=some ⟨gl,0,none⟩:=by rw[<-hx1];exact hlA
 have rowq1:dU bS x1.seqs x1.sC cur11:=by rw[<-hx1];exact row11
 have rowl1:dU gz x1.last x1.lC cur7:=by rw[<-hx1];exact row7
 have rowS1:dU zx (sns.set i x1) snC uS:=dU.same rowS hx (by rw[<-hx1];simp only[zx,Sn.c,ab])
 have hll1:x1.last.length=ps.length:=by rw[<-hx1];simp only[ab];exact hll
 have hnm1:bM x1.name=true:=by rw[<-hx1];exact hnm
 refine Zr<|G (Zf jI Z)<|G (Zd aj H 1 Z Z Z) ?_
 refine cR (bh Z Z) Z Z Z (fun h102=> ?_) (fun h102=> ?_)
 ·
  refine U<|ZT Z<|W<|Zr<|cd bN (dQ 14 _) Z Z ?_
  rintro _ w14 ⟨rfl,hb⟩;replace H:=H.later hb;clear hb
  refine bl H 0 (#[J (14),J (0),.slice none 0 0]) aQ Z Z Z Z Z N N fun w15 H=>U<|Zt ?_
  exact eQ (cs0:= #[J (14),J (0),.slice none 0 0]) Z aP Z (H.ent (i:=0) Z) Z ⟨⟨ps,some ⟨gP,0,none⟩,pC,co,clo,chi,gr,glo,ghi,sns.set i x1,some ⟨gS,0,none⟩,snC⟩,by rw[nY hix hx (fun h=>by cases h) x1 (by rw[htn];exact(un hq0 _).trans hx1),if_pos h102];exact oK.plain _ _ _,by rw[nY hix hx (fun h=>by cases h) x1 (by rw[htn];exact(un hq0 _).trans hx1),if_pos h102];rfl,Bw.close (X:=[(b6,_),(b4,_)]) row rowS1 hset hsA1 hlA1 rowq1 rowl1 hco hgr hps (fun _ h=>h) H (by simp only[Bk.c,ab])⟩
 ·
  refine U<|ZF Z<|Zk<|W ?_
  refine mF bZ (fun w'=>w'.heap[b4]? =some (.cells #[J (a.kind),.string (a.name),J (a.part),J (a.n),J (a.m),.string (a.text),J (a.lost)] f5 (0,0))) ?_
  intro w16 hw';replace H:=H.later hw';clear hw'
  refine aN 0 N N N Z Z Z Z Nq (H.ent (i:=1) Z) (fun _ hS=>iP dP Z hS Z)<|aN 1 N N N Z Z Z Z Nq (H.ent (i:=1) Z) (fun _ hS=>Yp Z)<|aN 2 N N N Z Z Z Z Nq (H.ent (i:=1) Z) (fun _ hS=>Yp Z)<|aN 3 N N N Z Z Z Z Nq (H.ent (i:=1) Z) (fun _ hS=>Zf dS Z)<|aN 4 N N N Z Z Z Z Nq (H.ent (i:=1) Z) (fun _ hS=>aV aj Z (aB hS Z))<|r5 5 N Z ?_
  refine cd ls ((by have hA:=AJ (i:=i) (n:=n) (k:=k) (sns:=sns.set i x1) (x:=x1) (by simp only[ab];exact H.perm ((ai _ (ai _ (ai _ (ai _ (al _ _ _))))).trans ((ai _ (ai _ (ai _ (al _ _ _)))).trans ((ai _ (ai _ (al _ _ _))).trans ((ai _ (al _ _ _)).trans ((al _ _ _).trans ((ai _ (ai _ (ai _ (ai _ (ai _ (al _ _ _)))))).trans ((ai _ (ai _ (ai _ (ai _ (al _ _ _))))).trans ((ai _ (ai _ (ai _ (al _ _ _)))).trans ((ai _ (ai _ (al _ _ _))).trans (ai _ (al _ _ _)))))))))))) row rowS1 rowl1 (am (cD hx).1) hlA1 hco hps I I I hnm1 hcb hpk;rw[<-hna]at hA;exact hA)) Z Z ?_
  rintro _ w17 ⟨ps',uP',co',clo',chi',F',hAn,hW,row',hlen',hco',hps',hF',H⟩
  replace H:=H.perm ((ai _ (al _ _ _)).trans ((al _ _ _).trans ((ai _ (ai _ (al _ _ _))).trans ((ai _ (al _ _ _)).trans ((ai _ (ai _ (ai _ (al _ _ _)))).trans ((ai _ (ai _ (al _ _ _))).trans ((ai _ (ai _ (ai _ (ai _ (al _ _ _))))).trans ((ai _ (ai _ (ai _ (al _ _ _)))).trans ((ai _ (ai _ (ai _ (ai _ (ai _ (al _ _ _)))))).trans (ai _ (ai _ (ai _ (ai _ (al _ _ _))))))))))))))
  obtain⟨A1,c1,rfl⟩:=hAn.p (kp ..)
  refine U ?_
  refine⟨(H.ent (i:=1) Z),?_⟩
  refine r5 6 N Z<|cd kz (Da a (ej (Wa.mk (ps.map fun q=>q.p.a) co.a gr.a ((sns.set i x1).map Sn.a)) x1.a n).2.code (ej (Wa.mk (ps.map fun q=>q.p.a) co.a gr.a ((sns.set i x1).map Sn.a)) x1.a n).2.n A1 0 c1 _) Z Z ?_
  rintro _ w18 ⟨ht,hb⟩;replace H:=H.later hb;clear hb
  obtain⟨A2,c2,rfl⟩:=J8 ht
  refine U ?_
  refine⟨(H.ent (i:=1) Z),?_⟩
  refine r5 7 N Z<|bl H 0 (#[J ((f4 a (ej (Wa.mk (ps.map fun q=>q.p.a) co.a gr.a ((sns.set i x1).map Sn.a)) x1.a n).2).code),J ((f4 a (ej (Wa.mk (ps.map fun q=>q.p.a) co.a gr.a ((sns.set i x1).map Sn.a)) x1.a n).2).n),.slice A2 0 c2]) aQ Z Z Z Z Z N N fun w19 H=>U ?_
  refine⟨(H.ent (i:=1) Z),?_⟩
  refine jP N<|Zt ?_
  exact eQ (cs0:= #[J ((f4 a (ej (Wa.mk (ps.map fun q=>q.p.a) co.a gr.a ((sns.set i x1).map Sn.a)) x1.a n).2).code),J ((f4 a (ej (Wa.mk (ps.map fun q=>q.p.a) co.a gr.a ((sns.set i x1).map Sn.a)) x1.a n).2).n),.slice A2 0 c2]) Z aP Z (H.ent (i:=0) Z) Z ⟨⟨ps',some ⟨gP,0,none⟩,pC,co',clo',chi',gr,glo,ghi,sns.set i x1,some ⟨gS,0,none⟩,snC⟩,by rw[nY hix hx (fun h=>by cases h) x1 (by rw[htn];exact(un hq0 _).trans hx1),if_neg h102,htn];exact oK.of (lz _ (kp ..)),by rw[nY hix hx (fun h=>by cases h) x1 (by rw[htn];exact(un hq0 _).trans hx1),if_neg h102,htn];exact hW.symm,Bw.close (X:=[(b6,_),(b4,_)]) row' rowS1 hset hsA1 hlA1 rowq1 rowl1 hco' (hF' _ hgr) hps' hF' H (by simp only[Bk.c,ab])⟩
theorem wN {b:Bk} {a:Act} (hix:fg b.sns a.name=none):jW b.a a=(b.a,⟨5,0,[]⟩):=by
 unfold jW
 rw[show b.a.sns=b.sns.map Sn.a from rfl,De hix]
 rfl
theorem iW {b:Bk} {a:Act} {i:Nat} {x:Sn} (hix:fg b.sns a.name=some i) (hx:b.sns[i]? =some x):jW b.a a=if x.inn=false then lZ b.a 12 else if a.lost=1 then lZ b.a 14 else
  if(kT b.co.a x.name x.ver (decide (a.n=1))).2=0 then({b.a with co:=(kT b.co.a x.name x.ver (decide (a.n=1))).1,sns:=if a.lost=0 then(b.sns.set i (vQ x)).map Sn.a else b.sns.map Sn.a},f4 a ⟨0,0,[]⟩)else(b.a,f4 a ⟨(kT b.co.a x.name x.ver (decide (a.n=1))).2,0,[]⟩):=by
 unfold jW
 rw[show b.a.sns=b.sns.map Sn.a from rfl,wk hix hx,cy]
 rfl
def zT (e:cH):cH:=if e.txn then mR else e
theorem Jx (x:Sn):vQ x={x with inn:=false,last:=x.last.map zT}:=rfl
theorem J1 {l:List cH} {i:Nat} {e:cH} (he:l[i]? =some e):((l.take i).map zT++l.drop i).set i (zT e)=(l.take (i+1)).map zT++l.drop (i+1):=by
 have hi:=(cD he).1
 have h1:((l.take i).map zT).length=i:=by simp;omega
 rw[i9 _ _ I,h1,me,eL he,bk,aD]
 congr 1
 rw[mO hi]
 rfl
theorem C5 {l:List cH} {i:Nat} {e:cH} (he:l[i]? =some e):((l.take i).map zT++l.drop i)[i]? =some e:=by
 have hi:=(cD he).1
 rw[cw (by simp;omega)]
 simp only[bC,aH,br (mf hi),me]
 rw[dK]
 exact he
theorem FG {w0 w:World} {bb:Nat} {b:Bk} {gP:Nat} {uP:Array Value} {Ls Lo K:List (Nat×Obj)} {F:List ci} (a:Act) (B:Bw w0 w bb b gP uP Ls Lo K F) (hsl:b.sns.length<=1000000) (hix:fg b.sns a.name=none):dd aa jx [.pointer (Qd bb),a.v] w fun v w2=> ∃ b':Bk,oK (jW b.a a).2 v w2/\b'.a=(jW b.a a).1/\xj w0 w2 bb b' K F:=by
 refine aE lR Z Z ?_
 obtain⟨ps,pA,pC,co,clo,chi,gr,glo,ghi,sns,snA,snC⟩:=b
 obtain⟨hpA,row,hsn,hown,hco,hgr,hps,H⟩:=B
 dsimp only at hpA row hsn hown hco hgr hps
 subst hpA
 replace H:Hp w0 w ((bb,.cells #[.slice (Qd gP) ps.length pC,J (co.clock),J (co.next),J (co.wait),.slice co.A co.txs.length co.cap,J (gr.clock),J (gr.wait),J (gr.gen),.slice gr.mA gr.ms.length gr.mC,.slice gr.oA gr.os.length gr.oC,.slice snA sns.length snC] bK (0,0))::(gP,.cells uP bz (0,0))::(Ls++(Lo++K))) F:=H
 dsimp only at hix hsl
 show CW _ _ _ _ (args [.pointer (Qd bb),.agg #[J (a.kind),.string (a.name),J (a.part),J (a.n),J (a.m),.string (a.text),J (a.lost)]]) w
 refine W<|Zr<|fS H Z Z fun w1 b3 H=>eC H dn Z fun w2 b4 H=>U<|W<|Zr<|G (Yp Z)<|G (Zf fb Z)<|G (Zd ba H 1 Z Z Z)<|cd dz (js bb ⟨ps,some ⟨gP,0,none⟩,pC,co,clo,chi,gr,glo,ghi,sns,snA,snC⟩ (a.name) Ls _ (H.ent (i:=2) Z) hsn (fun q hq=>(H.ents q (by simp only[av,ar];grind)).1) hsl) Z Z ?_
 rintro _ w3 ⟨rfl,hb⟩;replace H:=H.later hb;clear hb
 rw[hix]
 refine G (Wp Z)<|U<|W<|Zb<|W<|Zr<|G (Yp Z)<|G (xw iN Z)<|G (Wb Z)<|U<|ZT Z<|W<|Zr<|cd bN (dQ 5 _) Z Z ?_
 rintro _ w4 ⟨rfl,hb⟩;replace H:=H.later hb;clear hb
 refine bl H 0 (#[J (5),J (0),.slice none 0 0]) aQ Z Z Z Z Z N N fun w5 H=>U<|Zt ?_
 exact eQ (cs0:= #[J (5),J (0),.slice none 0 0]) Z aP Z (H.ent (i:=0) Z) Z ⟨⟨ps,some ⟨gP,0,none⟩,pC,co,clo,chi,gr,glo,ghi,sns,snA,snC⟩,by rw[wN hix];exact oK.plain _ _ _,by rw[wN hix],Bw.shut (X:=[(b4,_),(b3,_)]) row hsn hown hco hgr hps (fun _ h=>h) H Z⟩
theorem FF {w0 w:World} {bb:Nat} {b:Bk} {gP:Nat} {uP:Array Value} {Ls Lo K:List (Nat×Obj)} {F:List ci} (a:Act) (B:Bw w0 w bb b gP uP Ls Lo K F) (hsl:b.sns.length<=1000000) {k i:Nat} {x:Sn} (hix:fg b.sns a.name=some i) (hx:b.sns[i]? =some x) (hlo:0<=a.lost/\a.lost<=2) (hn1:0<=a.n/\a.n<=1) (hll:x.last.length<=4) (hnm:bM x.name=true) (hcb:oJ k b.co):dd aa jx [.pointer (Qd bb),a.v] w fun v w2=> ∃ b':Bk,oK (jW b.a a).2 v w2/\b'.a=(jW b.a a).1/\xj w0 w2 bb b' K F:=by
 refine aE lR Z Z ?_
 obtain⟨ps,pA,pC,co,clo,chi,gr,glo,ghi,sns,snA,snC⟩:=b
 obtain⟨hpA,row,hsn,hown,hco,hgr,hps,H⟩:=B
 dsimp only at hpA row hsn hown hco hgr hps
 subst hpA
 dsimp only at hix hx
 obtain⟨gS,uS,hgS,hLs,rowS⟩:=hsn.row (by have:=(cD hx).1;omega)
 subst hgS;subst hLs
 obtain⟨gq,uq,gl,ul,La,Lb,hsA,hlA,rowq,rowl,hLo,hset⟩:=hown.at_ hx
 subst hLo
 replace H:Hp w0 w ((bb,.cells #[.slice (Qd gP) ps.length pC,J (co.clock),J (co.next),J (co.wait),.slice co.A co.txs.length co.cap,J (gr.clock),J (gr.wait),J (gr.gen),.slice gr.mA gr.ms.length gr.mC,.slice gr.oA gr.os.length gr.oC,.slice (Qd gS) sns.length snC] bK (0,0))::(gP,.cells uP bz (0,0))::(gS,.cells uS fz (0,0))::(gq,.cells uq cW (0,0))::(gl,.cells ul dh (0,0))::(La++(Lb++K))) F:=H.perm (CD [(bb,_),(gP,_),(gS,_)] _ _ La Lb K)
 dsimp only at hsl hcb
 have hl5:(zx.f x)[5]? =some (.slice (some ⟨gl,0,none⟩) x.last.length x.lC):=by rw[<-hlA];rfl
 show CW _ _ _ _ (args [.pointer (Qd bb),.agg #[J (a.kind),.string (a.name),J (a.part),J (a.n),J (a.m),.string (a.text),J (a.lost)]]) w
 refine W<|Zr<|fS H Z Z fun w1 b3 H=>eC H dn Z fun w2 b4 H=>U<|W<|Zr<|G (Yp Z)<|G (Zf fb Z)<|G (Zd ba H 1 Z Z Z)<|cd dz (js bb ⟨ps,some ⟨gP,0,none⟩,pC,co,clo,chi,gr,glo,ghi,sns,some ⟨gS,0,none⟩,snC⟩ (a.name) _ _ (H.ent (i:=2) Z) (dU.own rowS) (fun q hq=>by rw[aq.1 hq];exact(H.ent (i:=4) Z)) hsl) Z Z ?_
 rintro _ w3 ⟨rfl,hb⟩;replace H:=H.later hb;clear hb
 rw[hix]
 refine G (Wp Z)<|U<|W<|Zb<|W<|Zr<|G (Yp Z)<|G (vD iN Z)<|G (Wb Z)<|U<|ZF Z<|W<|Zr<|G (Zf jI Z)<|G (Zd aj H 1 Z Z Z)<|G (cY Z Z I)<|G (Yb Z)<|ZG<|G (Zf jI Z)<|ZG<|G (Zd aj H 1 Z Z Z)<|ZG<|G (er Z Z I)<|G (N Z Z)<|G (Yb Z)<|ZG<|G (Zf eT Z)<|ZG<|G (Zd aj H 1 Z Z Z)<|ZG<|G (cY Z Z I)<|G (N Z Z)<|G (Yb Z)<|ZG<|G (Zf eT Z)<|ZG<|G (Zd aj H 1 Z Z Z)<|ZG<|G (er Z Z I)<|G (N Z Z) ?_
 refine G (Wb Z)<|U<|ZF Z<|W<|Zr<|G (Yp Z)<|G (aI Z)<|G (Zf oo Z) ?_
 refine wu (bQ dR rowS hx 3 Z (H.ent (i:=4) Z) Z) Z Z Z (fun h41=> ?_) (fun h41=> ?_)
 refine G (dO Z)<|G (Wb Z)<|U<|ZF Z<|W<|Zr<|G (Zf jI Z)<|G (Zd aj H 1 Z Z Z) ?_
 refine cR (bh Z Z) Z Z Z (fun h47=> ?_) (fun h47=> ?_)
 refine G (Wb Z)<|U<|ZT Z<|W<|Zr<|cd bN (dQ 14 _) Z Z ?_
 rintro _ w4 ⟨rfl,hb⟩;replace H:=H.later hb;clear hb
 refine bl H 0 (#[J (14),J (0),.slice none 0 0]) aQ Z Z Z Z Z N N fun w5 H=>U<|Zt ?_
 exact eQ (cs0:= #[J (14),J (0),.slice none 0 0]) Z aP Z (H.ent (i:=0) Z) Z ⟨⟨ps,some ⟨gP,0,none⟩,pC,co,clo,chi,gr,glo,ghi,sns.set i x,some ⟨gS,0,none⟩,snC⟩,by rw[iW hix hx,if_neg (by rw[h41];decide),if_pos h47];exact oK.plain _ _ _,by rw[iW hix hx,if_neg (by rw[h41];decide),if_pos h47,fa hx];rfl,Bw.close (X:=[(b4,_),(b3,_)]) row (by rw[fa hx];exact rowS) hset hsA hlA rowq rowl hco hgr hps (fun _ h=>h) H (by rw[fa hx];rfl)⟩
 refine G (Wb Z)<|U<|ZF Z<|Zk<|W ?_
 refine eu (τ:=Co×Nat×Nat×Nat) [6,7,49,50,51,52,53,54,55,56,57,58,59,60,61,62,63,64,65,66,67,68] (fun(_,b6,_,_)=>[(6,.pointer (Qd b6)),(7,J (kT co.a x.name x.ver (decide (a.n=1))).2)]) (fun(c3,b6,lo,hi) w'=>c3.a=(kT co.a x.name x.ver (decide (a.n=1))).1/\Hp w0 w' ((b6,.cells #[J (c3.clock),J (c3.next),J (c3.wait),.slice c3.A c3.txs.length c3.cap] bf (0,0))::(b4,.cells #[J (0),J (0),.slice none 0 0] d9 (0,0))::(b3,.cells #[J (a.kind),.string (a.name),J (a.part),J (a.n),J (a.m),.string (a.text),J (a.lost)] f5 (0,0))::(bb,.cells #[.slice (Qd gP) ps.length pC,J (co.clock),J (co.next),J (co.wait),.slice co.A co.txs.length co.cap,J (gr.clock),J (gr.wait),J (gr.gen),.slice gr.mA gr.ms.length gr.mC,.slice gr.oA gr.os.length gr.oC,.slice (Qd gS) sns.length snC] bK (0,0))::(gP,.cells uP bz (0,0))::(gS,.cells uS fz (0,0))::(gq,.cells uq cW (0,0))::(gl,.cells ul dh (0,0))::La++(Lb++K)) (xi w0 lo hi c3::F)) ?_ ?_
 refine ow bZ 20 16 [16,17,18,19,21,22] [20] [0,1,2,3,5,6,7,9,10,11,13,15] [20,21,22] [16] [0,1,2,3,5,6,7,9,10,11,13,15,17,18,19] (sp [(20,Sp.blk w3.heap.size (.agg #[J 0,J 0,J 0,.slice none 0 0]) bf)]) (sp [(16,Sp.deep w3.heap.size Ml (fun c:Co=>c.c.toArray) (fun cs=> .tuple #[.agg cs,J (kT co.a x.name x.ver (decide (a.n=1))).2]) (fun cq:Co=>cq.a=(kT co.a x.name x.ver (decide (a.n=1))).1))]) N N N N (cI _) (cI _) ?_ ?_
 refine jA [0,1,2,3,4,5,6,7,8,9,10,11,12,13,14,15,20] [16,17,18,19,21,22] [20] [0,1,2,3,5,6,7,9,10,11,13,15] 5 (sp [(20,Sp.blk w3.heap.size (.agg #[J 0,J 0,J 0,.slice none 0 0]) bf)]) N N N Nq<|aw Z Z Z Z Z (fun w' hw'=>Yp Z)<|aw Z Z Z Z Z (fun w' hw'=>aI Z)<|aw Z Z Z Z Z (fun w' hw'=>Zf aW Z)<|aw Z Z Z Z Z (fun w' hw'=>Zf eA Z)<|aw Z Z Z Z Z (fun w' hw'=>jG 1 [J (co.clock),J (co.next),J (co.wait),.slice co.A co.txs.length co.cap] ax Z Z ((H.later hw').ent (i:=2) Z) Z)<|aw Z Z Z Z Z (fun w' hw'=>Yp Z)<|aw Z Z Z Z Z (fun w' hw'=>aI Z)<|aw Z Z Z Z Z (fun w' hw'=>Zf oq Z)<|aw Z Z Z Z Z (fun w' hw'=>bQ ba rowS hx 0 Z ((H.later hw').ent (i:=4) Z) Z)<|aw Z Z Z Z Z (fun w' hw'=>Yp Z)<|aw Z Z Z Z Z (fun w' hw'=>aI Z)<|aw Z Z Z Z Z (fun w' hw'=>Zf tU Z)<|aw Z Z Z Z Z (fun w' hw'=>bQ aj rowS hx 2 Z ((H.later hw').ent (i:=4) Z) Z)<|aw Z Z Z Z Z (fun w' hw'=>Zf eT Z)<|aw Z Z Z Z Z (fun w' hw'=>aV aj Z (aB ((H.later hw').ent (i:=1) Z) Z))<|aw Z Z Z Z Z (fun w' hw'=>bh Z Z)<|xd cK Z Z Z Z Z (fun w' hw'=>hw'.size) fun b6=>aU ?_
 intro w6 hw' hF
 obtain⟨hF,bq,eq,hge6,hbl6⟩:=hF;cases eq
 replace H:=H.adoptNew hw' hbl6 hge6
 clear hw' hF
 refine da 16 N Z<|cd wX (FL co x.name x.ver (decide (a.n=1)) k _ (Hp.coM H hco) hcb hnm) Z Z ?_
 rintro _ w7 ⟨c3,rfl,hac3,hnc3⟩;replace H:=H.learn hnc3.2 (xi w0 w6.heap.size w7.heap.size c3) ⟨H.size,hnc3.1⟩ (ao _) (ao _);clear hnc3
 refine U<|bw 17 N N N Z Z Z Z Nq (fun _=>Yu Z)<|bw 18 N N N Z Z Z Z Nq (fun _=>Xa Z Z)<|bw 19 N N N Z Z Z Z Nq (fun _=>Xi Z Z)<|da 21 N Z<|bl H 0 (#[J (c3.clock),J (c3.next),J (c3.wait),.slice c3.A c3.txs.length c3.cap]) aF Z Z Z Z Z N N fun w8 H=>U<|bw 22 N N N Z Z Z Z Nq (fun _=>Wi Z)<|cz N ?_
 exact⟨(c3,b6,_,_),⟨hac3,H⟩,kZ Z Z,Qg⟩
 refine jA [0,1,2,3,4,5,6,7,8,9,10,11,12,13,14,15,16,17,18,19] [20,21,22] [16] [0,1,2,3,5,6,7,9,10,11,13,15,17,18,19] 2 (sp [(16,Sp.deep w3.heap.size Ml (fun c:Co=>c.c.toArray) (fun cs=> .tuple #[.agg cs,J (kT co.a x.name x.ver (decide (a.n=1))).2]) (fun cq:Co=>cq.a=(kT co.a x.name x.ver (decide (a.n=1))).1))]) N N N Nq<|aw Z Z Z Z Z (fun w' hw'=>Yp Z)<|aw Z Z Z Z Z (fun w' hw'=>aI Z)<|aw Z Z Z Z Z (fun w' hw'=>Zf aW Z)<|aw Z Z Z Z Z (fun w' hw'=>Zf eA Z)<|aw Z Z Z Z Z (fun w' hw'=>jG 1 [J (co.clock),J (co.next),J (co.wait),.slice co.A co.txs.length co.cap] ax Z Z ((H.later hw').ent (i:=2) Z) Z)<|aw Z Z Z Z Z (fun w' hw'=>Yp Z)<|aw Z Z Z Z Z (fun w' hw'=>aI Z)<|aw Z Z Z Z Z (fun w' hw'=>Zf oq Z)<|aw Z Z Z Z Z (fun w' hw'=>bQ ba rowS hx 0 Z ((H.later hw').ent (i:=4) Z) Z)<|aw Z Z Z Z Z (fun w' hw'=>Yp Z)<|aw Z Z Z Z Z (fun w' hw'=>aI Z)<|aw Z Z Z Z Z (fun w' hw'=>Zf tU Z)<|aw Z Z Z Z Z (fun w' hw'=>bQ aj rowS hx 2 Z ((H.later hw').ent (i:=4) Z) Z)<|aw Z Z Z Z Z (fun w' hw'=>Zf eT Z)<|aw Z Z Z Z Z (fun w' hw'=>aV aj Z (aB ((H.later hw').ent (i:=1) Z) Z))<|aw Z Z Z Z Z (fun w' hw'=>bh Z Z)<|sN (gv:=(fun cs=> .tuple #[.agg cs,J (kT co.a x.name x.ver (decide (a.n=1))).2])) wX Z Z Z Z Z (fun w' hw'=>hw'.size) (fun w' hw'=>FL co x.name x.ver (decide (a.n=1)) k w' (Hp.coM (H.later hw') hco) hcb hnm) Z fun cs66=>aw Z Z Z Z Z (fun w' hw'=>Yu Z)<|aw Z Z Z Z Z (fun w' hw'=>Xa Z Z)<|aw Z Z Z Z Z (fun w' hw'=>Xi Z Z)<|aU ?_
 intro w9 hw' hF
 obtain⟨hF,c3,eq,hac3,hrd66⟩:=hF;cases eq
 replace H:=H.learn hw' (xi w0 w3.heap.size w9.heap.size c3) ⟨H.size,hrd66⟩ (ao _) (ao _)
 clear hw' hF
 refine da 20 N Z<|eC H cK Z fun w10 b6 H=>U<|da 21 N Z<|bl H 0 (#[J (c3.clock),J (c3.next),J (c3.wait),.slice c3.A c3.txs.length c3.cap]) aF Z Z Z Z Z N N fun w11 H=>U<|bw 22 N N N Z Z Z Z Nq (fun _=>Wi Z)<|cz N ?_
 exact⟨(c3,b6,_,_),⟨hac3,H⟩,kZ Z Z,Qg⟩
 rintro⟨c3,b6,lo,hi⟩ ρ1 w12 ⟨hac3,H⟩
 show CW _ _ _ _ (dv (gk _ _ ρ1) [(6,.pointer (Qd b6)),(7,J (kT co.a x.name x.ver (decide (a.n=1))).2)]) w12
 refine W<|W<|Zr<|G (Yi Z) ?_
 refine qU (i6 Z Z) Z Z Z (fun h70=> ?_) (fun h70=> ?_)
 refine U<|ZT Z<|W ?_
 refine bD bZ [0,1,2,3] [4] [2,3] [1] (sp [(2,Sp.one (.agg #[J (kT co.a x.name x.ver (decide (a.n=1))).2,J 0,.slice none 0 0])),(3,Sp.one (.agg #[J (f4 a ⟨(kT co.a x.name x.ver (decide (a.n=1))).2,0,[]⟩).code,J (f4 a ⟨(kT co.a x.name x.ver (decide (a.n=1))).2,0,[]⟩).n,.slice none 0 0]))]) N N N N Nq (cI _) ?_
 refine aw Z Z Z Z Z (fun w' hw'=>iP dP Z ((H.later hw').ent (i:=2) Z) Z)<|aw Z Z Z Z Z (fun w' hw'=>Yi Z)<|g7 bN Z Z Z Z Z (fun w' hw'=>dQ (kT co.a x.name x.ver (decide (a.n=1))).2 w') Z<|g7 kz Z Z Z Z Z (fun w' hw'=>Gc a ⟨(kT co.a x.name x.ver (decide (a.n=1))).2,0,[]⟩ w') Z<|aU ?_
 intro w13 hw' hF
 replace H:=H.later hw';clear hw' hF
 refine bl H 1 (#[J ((f4 a ⟨(kT co.a x.name x.ver (decide (a.n=1))).2,0,[]⟩).code),J ((f4 a ⟨(kT co.a x.name x.ver (decide (a.n=1))).2,0,[]⟩).n),.slice none 0 0]) aQ Z Z Z Z Z N N fun w14 H=>U<|Zt ?_
 exact eQ (cs0:= #[J ((f4 a ⟨(kT co.a x.name x.ver (decide (a.n=1))).2,0,[]⟩).code),J ((f4 a ⟨(kT co.a x.name x.ver (decide (a.n=1))).2,0,[]⟩).n),.slice none 0 0]) Z aP Z (H.ent (i:=1) Z) Z ⟨⟨ps,some ⟨gP,0,none⟩,pC,co,clo,chi,gr,glo,ghi,sns.set i x,some ⟨gS,0,none⟩,snC⟩,by rw[iW hix hx,if_neg (by rw[h41];decide),if_neg h47,if_neg h70];exact Ps.r ⟨lz _ Z,rfl⟩ _,by rw[iW hix hx,if_neg (by rw[h41];decide),if_neg h47,if_neg h70,fa hx],Bw.close (X:=[(b6,_),(b4,_),(b3,_)]) row (by rw[fa hx];exact rowS) hset hsA hlA rowq rowl (ak _ hco) (ak _ hgr) (fun q hq=>ak _ (hps q hq)) (fun f hf=>ak _ hf) H (by rw[fa hx];rfl)⟩
 refine U<|ZF Z<|Zk<|W ?_
 have hok3:(kT co.a x.name x.ver (decide (a.n=1))).2=0:=by simpa using h70
 refine Zr<|G (Yp Z)<|G (Zw ax H 0 Z Z Z)<|G (aI Z)<|G (Zf aW Z)<|G (Zf eA Z)<|bl H 3 (#[.slice (Qd gP) ps.length pC,J (c3.clock),J (c3.next),J (c3.wait),.slice c3.A c3.txs.length c3.cap,J (gr.clock),J (gr.wait),J (gr.gen),.slice gr.mA gr.ms.length gr.mC,.slice gr.oA gr.os.length gr.oC,.slice (Qd gS) sns.length snC]) aF Z Z Z Z Z N N fun w15 H=>U<|W<|W<|Zr<|G (Zf jI Z)<|G (Zd aj H 2 Z Z Z) ?_
 refine cR (bh Z Z) Z Z Z (fun h82=> ?_) (fun h82=> ?_)
 refine U<|ZT Z<|W<|Zr<|G (Yp Z)<|G (aI Z)<|G (Zf oo Z)<|kQ H 5 ({x with inn:=false}) iJ rowS hx 3 Z Z Z Z Z Z N fun w17 cur16 row16 H=> ?_
 have hs18:(sns.set i ({x with inn:=false}))[i]? =some ({x with inn:=false}):=am (cD hx).1
 refine U<|W<|Zr<|G (Yp Z)<|G (aI Z)<|G (Zf lT Z)<|G (bQ nc row16 hs18 5 Z (H.ent (i:=5) Z) hl5)<|G (bn eh Z)<|G (Yi Z)<|U<|Zb ?_
 refine cf (τ:=Nat×Array Value) [8,91,92,93,94,95,96,97,98,99,100,101,102,103,104,105,106,107,108,109] (fun(j,_)=>[(91,J (j:Nat))]) (fun(j,u) w'=>j<=x.last.length/\dU gz ((x.last.take j).map zT++x.last.drop j) x.lC u/\Hp w0 w' ((b6,.cells #[J (c3.clock),J (c3.next),J (c3.wait),.slice c3.A c3.txs.length c3.cap] bf (0,0))::(b4,.cells #[J (0),J (0),.slice none 0 0] d9 (0,0))::(b3,.cells #[J (a.kind),.string (a.name),J (a.part),J (a.n),J (a.m),.string (a.text),J (a.lost)] f5 (0,0))::(bb,.cells #[.slice (Qd gP) ps.length pC,J (c3.clock),J (c3.next),J (c3.wait),.slice c3.A c3.txs.length c3.cap,J (gr.clock),J (gr.wait),J (gr.gen),.slice gr.mA gr.ms.length gr.mC,.slice gr.oA gr.os.length gr.oC,.slice (Qd gS) sns.length snC] bK (0,0))::(gP,.cells uP bz (0,0))::(gS,.cells cur16 fz (0,0))::(gq,.cells uq cW (0,0))::(gl,.cells u dh (0,0))::La++(Lb++K)) (xi w0 lo hi c3::F)) (fun(j,_)=>x.last.length-j) (0,_) ⟨bA _,(by simpa using rowl),H⟩ (dF Z) ?_
 rintro⟨j,u⟩ ρ1 w19 ⟨hj,rowu,H⟩
 show CW _ _ _ _ (dv (gk _ _ ρ1) [(91,J (j:Nat))]) w19
 refine W<|Zr ?_
 refine cR (cG Z Z) Z Z Z (fun h92=> ?_) (fun h92=> ?_)
 refine U<|W<|ZT Z<|Zk<|W<|Zb<|W<|Zr<|G (Yi Z)<|G (Wi Z)<|U<|W ?_
 obtain⟨e,he⟩: ∃ e,x.last[j]? =some e:=⟨_,ah I⟩
 refine Zr<|G (Yp Z)<|G (aI Z)<|G (Zf lT Z)<|G (bQ nc row16 hs18 5 Z (H.ent (i:=5) Z) hl5)<|G (Yi Z)<|G (cC dN Z Z (by first|omega|(simp only[ab];omega)))<|G (Zf iY Z) ?_
 refine wu (bQ dR rowu (C5 he) 5 Z (H.ent (i:=7) Z) Z) Z Z Z (fun h101=> ?_) (fun h101=> ?_)
 refine U<|ZT Z<|Zr<|G (Yp Z)<|G (aI Z)<|G (Zf lT Z)<|G (bQ nc row16 hs18 5 Z (H.ent (i:=5) Z) hl5)<|G (Yi Z)<|G (bj (cs:= #[J (0),J (0),J (0),J (0),J (0),.bool (false),.string (⟨#[]⟩)]) nW fU N)<|G (cC dN Z Z (by first|omega|(simp only[ab];omega)))<|kQ H 7 (mR) eM rowu (C5 he) 0 Z Z Z Z Z Z N fun w21 cur20 row20 H=> ?_
 have hs22:((((x.last.take j).map zT++x.last.drop j)).set j (mR))[j]? =some (mR):=am (cD (C5 he)).1
 refine U<|Zr<|G (bp Z Z I I)<|G (Yi Z)<|U ?_
 refine⟨(j+1,_),⟨by omega,?_,H⟩,dF Z,Qg,by show x.last.length- (j+1)<x.last.length-j;omega⟩
 rw[<-J1 he]
 have hz:zT e=mR:=by unfold zT;rw[if_pos h101]
 rw[hz]
 exact row20
 refine U<|ZF Z<|Zk<|Zr<|G (bp Z Z I I)<|G (Yi Z)<|U ?_
 refine⟨(j+1,_),⟨by omega,?_,H⟩,dF Z,Qg,by show x.last.length- (j+1)<x.last.length-j;omega⟩
 rw[<-J1 he]
 have hz:zT e=e:=by unfold zT;rw[if_neg (by rw[h101];decide)]
 rw[hz,fa (C5 he)]
 exact rowu
 refine U<|W<|ZF Z<|Zx<|W ?_
 obtain rfl:j=x.last.length:=by omega
 rw[bV,fq,aY]at rowu
 obtain⟨x1,hx1⟩: ∃ x1:Sn,{x with inn:=false,last:=x.last.map zT}=x1:=⟨_,rfl⟩
 have hsA1:x1.sA=some ⟨gq,0,none⟩:=by rw[<-hx1];exact hsA
 have hlA1:x1.lA=some ⟨gl,0,none⟩:=by rw[<-hx1];exact hlA
 have rowq1:dU bS x1.seqs x1.sC uq:=by rw[<-hx1];exact rowq
 have rowl1:dU gz x1.last x1.lC u:=by rw[<-hx1];exact rowu
 have rowS1:dU zx (sns.set i x1) snC cur16:=by have:=dU.same (e':=x1) row16 hs18 (by rw[<-hx1];simp only[zx,Sn.c,bC]);rwa[fo]at this
 have hsn1:(if a.lost=0 then(sns.set i (vQ x)).map Sn.a else sns.map Sn.a)=(sns.set i x1).map Sn.a:=by rw[if_pos h82,<-hx1,Jx]
 refine Zr<|G (Zw dP H 2 Z Z Z)<|G (bj (cs:= #[J (0),J (0),.slice none 0 0]) iF dn N)<|cd kz (Gc a ⟨0,0,[]⟩ _) Z Z ?_
 rintro _ w23 ⟨rfl,hb⟩;replace H:=H.later hb;clear hb
 refine bl H 1 (#[J ((f4 a ⟨0,0,[]⟩).code),J ((f4 a ⟨0,0,[]⟩).n),.slice none 0 0]) aQ Z Z Z Z Z N N fun w24 H=>U<|Zt ?_
 exact eQ (cs0:= #[J ((f4 a ⟨0,0,[]⟩).code),J ((f4 a ⟨0,0,[]⟩).n),.slice none 0 0]) Z aP Z (H.ent (i:=1) Z) Z ⟨⟨ps,some ⟨gP,0,none⟩,pC,c3,lo,hi,gr,glo,ghi,sns.set i x1,some ⟨gS,0,none⟩,snC⟩,by rw[iW hix hx,if_neg (by rw[h41];decide),if_neg h47,if_pos hok3];exact Ps.r ⟨lz _ Z,rfl⟩ _,by rw[iW hix hx,if_neg (by rw[h41];decide),if_neg h47,if_pos hok3,<-hac3];show _=Wa.mk _ _ _ (if a.lost=0 then _ else _);rw[hsn1];rfl,Bw.close (X:=[(b6,_),(b4,_),(b3,_)]) row rowS1 hset hsA1 hlA1 rowq1 rowl1 (aA ..) (ak _ hgr) (fun q hq=>ak _ (hps q hq)) (fun f hf=>ak _ hf) H (by simp only[Bk.c,ab])⟩
 refine U<|ZF Z<|Zk<|W ?_
 obtain⟨x1,hx1⟩: ∃ x1:Sn,x=x1:=⟨_,rfl⟩
 have hsA1:x1.sA=some ⟨gq,0,none⟩:=by rw[<-hx1];exact hsA
 have hlA1:x1.lA=some ⟨gl,0,none⟩:=by rw[<-hx1];exact hlA
 have rowq1:dU bS x1.seqs x1.sC uq:=by rw[<-hx1];exact rowq
 have rowl1:dU gz x1.last x1.lC ul:=by rw[<-hx1];exact rowl
 have rowS1:dU zx (sns.set i x1) snC uS:=by rw[<-hx1,fa hx];exact rowS
 have hsn1:(if a.lost=0 then(sns.set i (vQ x)).map Sn.a else sns.map Sn.a)=(sns.set i x1).map Sn.a:=by rw[if_neg h82,<-hx1,fa hx]
 refine Zr<|G (Zw dP H 2 Z Z Z)<|G (bj (cs:= #[J (0),J (0),.slice none 0 0]) iF dn N)<|cd kz (Gc a ⟨0,0,[]⟩ _) Z Z ?_
 rintro _ w25 ⟨rfl,hb⟩;replace H:=H.later hb;clear hb
 refine bl H 1 (#[J ((f4 a ⟨0,0,[]⟩).code),J ((f4 a ⟨0,0,[]⟩).n),.slice none 0 0]) aQ Z Z Z Z Z N N fun w26 H=>U<|Zt ?_
 exact eQ (cs0:= #[J ((f4 a ⟨0,0,[]⟩).code),J ((f4 a ⟨0,0,[]⟩).n),.slice none 0 0]) Z aP Z (H.ent (i:=1) Z) Z ⟨⟨ps,some ⟨gP,0,none⟩,pC,c3,lo,hi,gr,glo,ghi,sns.set i x1,some ⟨gS,0,none⟩,snC⟩,by rw[iW hix hx,if_neg (by rw[h41];decide),if_neg h47,if_pos hok3];exact Ps.r ⟨lz _ Z,rfl⟩ _,by rw[iW hix hx,if_neg (by rw[h41];decide),if_neg h47,if_pos hok3,<-hac3];show _=Wa.mk _ _ _ (if a.lost=0 then _ else _);rw[hsn1];rfl,Bw.close (X:=[(b6,_),(b4,_),(b3,_)]) row rowS1 hset hsA1 hlA1 rowq1 rowl1 (aA ..) (ak _ hgr) (fun q hq=>ak _ (hps q hq)) (fun f hf=>ak _ hf) H (by simp only[Bk.c,ab])⟩
 refine G (dO Z)<|G (Wb Z)<|U<|ZT Z<|W<|Zr<|cd bN (dQ 12 _) Z Z ?_
 rintro _ w27 ⟨rfl,hb⟩;replace H:=H.later hb;clear hb
 refine bl H 0 (#[J (12),J (0),.slice none 0 0]) aQ Z Z Z Z Z N N fun w28 H=>U<|Zt ?_
 exact eQ (cs0:= #[J (12),J (0),.slice none 0 0]) Z aP Z (H.ent (i:=0) Z) Z ⟨⟨ps,some ⟨gP,0,none⟩,pC,co,clo,chi,gr,glo,ghi,sns.set i x,some ⟨gS,0,none⟩,snC⟩,by rw[iW hix hx,if_pos h41];exact oK.plain _ _ _,by rw[iW hix hx,if_pos h41,fa hx];rfl,Bw.close (X:=[(b4,_),(b3,_)]) row (by rw[fa hx];exact rowS) hset hsA hlA rowq rowl hco hgr hps (fun _ h=>h) H (by rw[fa hx];rfl)⟩
theorem uu {w:Wa} {a:Act} (h:(bT w.co a.name).2.2.2≠0):oY w a=lZ w (bT w.co a.name).2.2.2:=by
 unfold oY
 rw[if_neg h]
theorem CB {b:Bk} {a:Act} (hix:fg b.sns a.name=none) (h:(bT b.co.a a.name).2.2.2=0):oY b.a a=({b.a with co:=(bT b.co.a a.name).1,sns:=b.sns.map Sn.a++[u5 a.name (bT b.co.a a.name).2.1 (bT b.co.a a.name).2.2.1 b.ps.length]},⟨0,(bT b.co.a a.name).2.2.1,[]⟩):=by
 unfold oY ER
 rw[if_pos (show(bT b.a.co a.name).2.2.2=0 from h),show b.a.sns=b.sns.map Sn.a from rfl]
 dsimp only[u5]
 rw[y2,hix,show b.a.ps.length=b.ps.length by show(b.ps.map _).length=_;rw[bC]]
 rfl
theorem CA {b:Bk} {a:Act} {i:Nat} (hix:fg b.sns a.name=some i) (h:(bT b.co.a a.name).2.2.2=0):oY b.a a=({b.a with co:=(bT b.co.a a.name).1,sns:=(b.sns.map Sn.a).set i (u5 a.name (bT b.co.a a.name).2.1 (bT b.co.a a.name).2.2.1 b.ps.length)},⟨0,(bT b.co.a a.name).2.2.1,[]⟩):=by
 unfold oY ER
 rw[if_pos (show(bT b.a.co a.name).2.2.2=0 from h),show b.a.sns=b.sns.map Sn.a from rfl]
 dsimp only[u5]
 rw[y2,hix,show b.a.ps.length=b.ps.length by show(b.ps.map _).length=_;rw[bC]]
 rfl
theorem Nb (A Q Lo K:List (Nat×Obj)):(A++((Lo++Q)++K)).Perm (Q++(A++(Lo++K))):=by
 rw[show A++((Lo++Q)++K)=(A++Lo)++(Q++K) by simp,show A++(Lo++K)=(A++Lo)++K by simp]
 exact fT (A++Lo) Q K
def PF:Sn:=⟨⟨#[]⟩,0,0,false,[],none,0,[],none,0⟩
theorem HQ:(aa.info? 3).map (fun i=>(i.zero,i.size,i.bytes))=some (some (J 0),bS.sz,8):=by kernel_rfl
theorem Cv:(aa.info? 59).map (fun i=>(i.zero,i.size,i.bytes))=some (some (.agg #[J 0,J 0,J 0,J 0,J 0,.bool false,.string ⟨#[]⟩]),gz.sz,64):=by kernel_rfl
theorem Jg {w0 w:World} {bb:Nat} {b:Bk} {gP:Nat} {uP:Array Value} {Ls Lo K:List (Nat×Obj)} {F:List ci} (a:Act) (B:Bw w0 w bb b gP uP Ls Lo K F) (hsl:b.sns.length<=1000000) {k:Nat} (hnm:bM a.name=true) (hcb:oJ k b.co) (hk:k<=1000) (hnp:0<b.ps.length) (hp4:b.ps.length<=4) (hix:fg b.sns a.name=none):dd aa kc [.pointer (Qd bb),a.v] w fun v w2=> ∃ b':Bk,oK (oY b.a a).2 v w2/\b'.a=(oY b.a a).1/\xj w0 w2 bb b' K F:=by
 refine aE m1 Z Z ?_
 obtain⟨ps,pA,pC,co,clo,chi,gr,glo,ghi,sns,snA,snC⟩:=b
 obtain⟨hpA,row,hsn,hown,hco,hgr,hps,H⟩:=B
 dsimp only at hpA row hsn hown hco hgr hps
 subst hpA
 replace H:Hp w0 w ((bb,.cells #[.slice (Qd gP) ps.length pC,J (co.clock),J (co.next),J (co.wait),.slice co.A co.txs.length co.cap,J (gr.clock),J (gr.wait),J (gr.gen),.slice gr.mA gr.ms.length gr.mC,.slice gr.oA gr.os.length gr.oC,.slice snA sns.length snC] bK (0,0))::(gP,.cells uP bz (0,0))::(Ls++(Lo++K))) F:=H
 dsimp only at hix hsl hcb hnp hp4
 show CW _ _ _ _ (args [.pointer (Qd bb),.agg #[J (a.kind),.string (a.name),J (a.part),J (a.n),J (a.m),.string (a.text),J (a.lost)]]) w
 refine W<|Zr<|fS H Z Z fun w1 b3 H=>eC H dn Z fun w2 b4 H=>U<|W ?_
 refine eu (τ:=Co×Nat×Nat×Nat) [5,6,7,8,10,11,12,13,14,15,16,17,18,19,20,21,22] (fun(_,b5,_,_)=>[(5,.pointer (Qd b5)),(6,J (bT co.a a.name).2.1),(7,J (bT co.a a.name).2.2.1),(8,J (bT co.a a.name).2.2.2)]) (fun(c3,b5,lo,hi) w'=>c3.a=(bT co.a a.name).1/\Hp w0 w' ((b5,.cells #[J (c3.clock),J (c3.next),J (c3.wait),.slice c3.A c3.txs.length c3.cap] bf (0,0))::(b4,.cells #[J (0),J (0),.slice none 0 0] d9 (0,0))::(b3,.cells #[J (a.kind),.string (a.name),J (a.part),J (a.n),J (a.m),.string (a.text),J (a.lost)] f5 (0,0))::(bb,.cells #[.slice (Qd gP) ps.length pC,J (co.clock),J (co.next),J (co.wait),.slice co.A co.txs.length co.cap,J (gr.clock),J (gr.wait),J (gr.gen),.slice gr.mA gr.ms.length gr.mC,.slice gr.oA gr.os.length gr.oC,.slice snA sns.length snC] bK (0,0))::(gP,.cells uP bz (0,0))::(Ls++(Lo++K))) (xi w0 lo hi c3::F)) ?_ ?_
 refine ow bZ 13 7 [7,8,9,10,11,12,14,15,16,17] [13] [0,1,2,3,5] [13,14,15,16,17] [7] [0,1,2,3,5,8,9,10,11,12] (sp [(13,Sp.blk w2.heap.size (.agg #[J 0,J 0,J 0,.slice none 0 0]) bf)]) (sp [(7,Sp.deep w2.heap.size Ml (fun c:Co=>c.c.toArray) (fun cs=> .tuple #[.agg cs,J (bT co.a a.name).2.1,J (bT co.a a.name).2.2.1,J (bT co.a a.name).2.2.2]) (fun cq:Co=>cq.a=(bT co.a a.name).1))]) N N N N (cI _) (cI _) ?_ ?_
 refine jA [0,1,2,3,4,5,6,13] [7,8,9,10,11,12,14,15,16,17] [13] [0,1,2,3,5] 9 (sp [(13,Sp.blk w2.heap.size (.agg #[J 0,J 0,J 0,.slice none 0 0]) bf)]) N N N Nq<|aw Z Z Z Z Z (fun w' hw'=>Yp Z)<|aw Z Z Z Z Z (fun w' hw'=>aI Z)<|aw Z Z Z Z Z (fun w' hw'=>Zf aW Z)<|aw Z Z Z Z Z (fun w' hw'=>Zf eA Z)<|aw Z Z Z Z Z (fun w' hw'=>jG 1 [J (co.clock),J (co.next),J (co.wait),.slice co.A co.txs.length co.cap] ax Z Z ((H.later hw').ent (i:=2) Z) Z)<|aw Z Z Z Z Z (fun w' hw'=>Zf fb Z)<|aw Z Z Z Z Z (fun w' hw'=>aV ba Z (aB ((H.later hw').ent (i:=1) Z) Z))<|xd cK Z Z Z Z Z (fun w' hw'=>hw'.size) fun b5=>aU ?_
 intro w3 hw' hF
 obtain⟨hF,bq,eq,hge5,hbl5⟩:=hF;cases eq
 replace H:=H.adoptNew hw' hbl5 hge5
 clear hw' hF
 refine da 7 N Z<|cd nS (wy co a.name k _ (Hp.coM H hco) hcb hk hnm) Z Z ?_
 rintro _ w4 ⟨c3,rfl,hac3,hnc3⟩;replace H:=H.learn hnc3.2 (xi w0 w3.heap.size w4.heap.size c3) ⟨H.size,hnc3.1⟩ (ao _) (ao _);clear hnc3
 refine U<|bw 8 N N N Z Z Z Z Nq (fun _=>Yu Z)<|bw 9 N N N Z Z Z Z Nq (fun _=>Xa Z Z)<|bw 10 N N N Z Z Z Z Nq (fun _=>Xi Z Z)<|bw 11 N N N Z Z Z Z Nq (fun _=>Xi Z Z)<|bw 12 N N N Z Z Z Z Nq (fun _=>Xi Z Z)<|da 14 N Z<|bl H 0 (#[J (c3.clock),J (c3.next),J (c3.wait),.slice c3.A c3.txs.length c3.cap]) aF Z Z Z Z Z N N fun w5 H=>U<|bw 15 N N N Z Z Z Z Nq (fun _=>Wi Z)<|bw 16 N N N Z Z Z Z Nq (fun _=>Wi Z)<|bw 17 N N N Z Z Z Z Nq (fun _=>Wi Z)<|cz N ?_
 exact⟨(c3,b5,_,_),⟨hac3,H⟩,Py Z Z Z Z,Qg⟩
 refine jA [0,1,2,3,4,5,6,7,8,9,10,11,12] [13,14,15,16,17] [7] [0,1,2,3,5,8,9,10,11,12] 4 (sp [(7,Sp.deep w2.heap.size Ml (fun c:Co=>c.c.toArray) (fun cs=> .tuple #[.agg cs,J (bT co.a a.name).2.1,J (bT co.a a.name).2.2.1,J (bT co.a a.name).2.2.2]) (fun cq:Co=>cq.a=(bT co.a a.name).1))]) N N N Nq<|aw Z Z Z Z Z (fun w' hw'=>Yp Z)<|aw Z Z Z Z Z (fun w' hw'=>aI Z)<|aw Z Z Z Z Z (fun w' hw'=>Zf aW Z)<|aw Z Z Z Z Z (fun w' hw'=>Zf eA Z)<|aw Z Z Z Z Z (fun w' hw'=>jG 1 [J (co.clock),J (co.next),J (co.wait),.slice co.A co.txs.length co.cap] ax Z Z ((H.later hw').ent (i:=2) Z) Z)<|aw Z Z Z Z Z (fun w' hw'=>Zf fb Z)<|aw Z Z Z Z Z (fun w' hw'=>aV ba Z (aB ((H.later hw').ent (i:=1) Z) Z))<|sN (gv:=(fun cs=> .tuple #[.agg cs,J (bT co.a a.name).2.1,J (bT co.a a.name).2.2.1,J (bT co.a a.name).2.2.2])) nS Z Z Z Z Z (fun w' hw'=>hw'.size) (fun w' hw'=>wy co a.name k w' (Hp.coM (H.later hw') hco) hcb hk hnm) Z fun cs18=>aw Z Z Z Z Z (fun w' hw'=>Yu Z)<|aw Z Z Z Z Z (fun w' hw'=>Xa Z Z)<|aw Z Z Z Z Z (fun w' hw'=>Xi Z Z)<|aw Z Z Z Z Z (fun w' hw'=>Xi Z Z)<|aw Z Z Z Z Z (fun w' hw'=>Xi Z Z)<|aU ?_
 intro w6 hw' hF
 obtain⟨hF,c3,eq,hac3,hrd18⟩:=hF;cases eq
 replace H:=H.learn hw' (xi w0 w2.heap.size w6.heap.size c3) ⟨H.size,hrd18⟩ (ao _) (ao _)
 clear hw' hF
 refine da 13 N Z<|eC H cK Z fun w7 b5 H=>U<|da 14 N Z<|bl H 0 (#[J (c3.clock),J (c3.next),J (c3.wait),.slice c3.A c3.txs.length c3.cap]) aF Z Z Z Z Z N N fun w8 H=>U<|bw 15 N N N Z Z Z Z Nq (fun _=>Wi Z)<|bw 16 N N N Z Z Z Z Nq (fun _=>Wi Z)<|bw 17 N N N Z Z Z Z Nq (fun _=>Wi Z)<|cz N ?_
 exact⟨(c3,b5,_,_),⟨hac3,H⟩,Py Z Z Z Z,Qg⟩
 rintro⟨c3,b5,lo,hi⟩ ρ1 w9 ⟨hac3,H⟩
 show CW _ _ _ _ (dv (gk _ _ ρ1) [(5,.pointer (Qd b5)),(6,J (bT co.a a.name).2.1),(7,J (bT co.a a.name).2.2.1),(8,J (bT co.a a.name).2.2.2)]) w9
 refine W<|W<|Zr<|G (Yi Z) ?_
 refine qU (i6 Z Z) Z Z Z (fun h24=> ?_) (fun h24=> ?_)
 refine U<|ZT Z<|W<|Zr<|G (Yi Z)<|cd bN (dQ (bT co.a a.name).2.2.2 _) Z Z ?_
 rintro _ w10 ⟨rfl,hb⟩;replace H:=H.later hb;clear hb
 refine bl H 1 (#[J ((bT co.a a.name).2.2.2),J (0),.slice none 0 0]) aQ Z Z Z Z Z N N fun w11 H=>U<|Zt ?_
 exact eQ (cs0:= #[J ((bT co.a a.name).2.2.2),J (0),.slice none 0 0]) Z aP Z (H.ent (i:=1) Z) Z ⟨⟨ps,some ⟨gP,0,none⟩,pC,co,clo,chi,gr,glo,ghi,sns,snA,snC⟩,by rw[uu h24];exact oK.plain _ _ _,by rw[uu h24];rfl,Bw.shut (X:=[(b5,_),(b4,_),(b3,_)]) row hsn hown (ak _ hco) (ak _ hgr) (fun q hq=>ak _ (hps q hq)) (fun f hf=>ak _ hf) H Z⟩
 refine U<|ZF Z<|Zk<|W ?_
 have hok3:(bT co.a a.name).2.2.2=0:=by simpa using h24
 refine Zr<|G (Yp Z)<|G (Zw ax H 0 Z Z Z)<|G (aI Z)<|G (Zf aW Z)<|G (Zf eA Z)<|bl H 3 (#[.slice (Qd gP) ps.length pC,J (c3.clock),J (c3.next),J (c3.wait),.slice c3.A c3.txs.length c3.cap,J (gr.clock),J (gr.wait),J (gr.gen),.slice gr.mA gr.ms.length gr.mC,.slice gr.oA gr.os.length gr.oC,.slice snA sns.length snC]) aF Z Z Z Z Z N N fun w12 H=>U<|W<|Zr<|G (Yp Z)<|G (Zf fb Z)<|G (Zd ba H 2 Z Z Z)<|cd dz (js bb ⟨ps,some ⟨gP,0,none⟩,pC,c3,lo,hi,gr,glo,ghi,sns,snA,snC⟩ a.name Ls _ (H.ent (i:=3) Z) hsn (fun q hq=>(H.ents q (by simp only[List.set_cons_succ,Bj,av,ar];grind)).1) hsl) Z Z ?_
 rintro _ w13 ⟨rfl,hb⟩;replace H:=H.later hb;clear hb
 rw[hix]
 refine G (Wp Z)<|U<|W<|W<|Zr<|G (Yp Z)<|G (xw iN Z)<|U<|ZT Z<|W<|Zr<|G (Yp Z)<|G (Yp Z)<|G (aI Z)<|G (Zf aW Z)<|G (Zf ki Z)<|G (Zd j8 H 3 Z Z Z)<|G (bj (cs:= #[.string (⟨#[]⟩),J (0),J (0),.bool (false),.slice none 0 0,.slice none 0 0]) xu v9 N)<|sY (vs:=[.agg #[.string (⟨#[]⟩),J (0),J (0),.bool (false),.slice none 0 0,.slice none 0 0]]) H se v9 Z Z Z Z Z Z fun w14 b45 H=>vU (Y:=zx) Hq (K:=[(b45,_),(b5,_),(b4,_),(b3,_),(bb,_),(gP,_)]) (L:=Ls) (M:=Lo++K) H hsn (es:=sns) (news:=[PF]) Z Z Z (vY.row (m:=1) (sz:=zx.sz) (H.ent (i:=0) Z) Z) (by simp only[bP];omega) Z ?_
 intro A46 c46 w15 L46 h46 _ ho46 H
 obtain⟨sn2,hsn2⟩: ∃ l,sns++[PF]=l:=⟨_,rfl⟩
 rw[hsn2]at ho46 h46⊢
 have hl2:sn2.length=sns.length+1:=by rw[<-hsn2];simp
 have hx2:sn2[sns.length]? =some PF:=by rw[<-hsn2];simp
 have hlen2:((sn2.length:Nat):Int)-1=((sns.length:Nat):Int):=by omega
 obtain⟨gS,uS,rfl,rfl,rowS⟩:=ho46.row I
 replace H:Hp w0 w15 ((b45,.cells #[.string (⟨#[]⟩),J (0),J (0),.bool (false),.slice none 0 0,.slice none 0 0] fz (0,0))::(b5,.cells #[J (c3.clock),J (c3.next),J (c3.wait),.slice c3.A c3.txs.length c3.cap] bf (0,0))::(b4,.cells #[J (0),J (0),.slice none 0 0] d9 (0,0))::(b3,.cells #[J (a.kind),.string (a.name),J (a.part),J (a.n),J (a.m),.string (a.text),J (a.lost)] f5 (0,0))::(bb,.cells #[.slice (Qd gP) ps.length pC,J (c3.clock),J (c3.next),J (c3.wait),.slice c3.A c3.txs.length c3.cap,J (gr.clock),J (gr.wait),J (gr.gen),.slice gr.mA gr.ms.length gr.mC,.slice gr.oA gr.os.length gr.oC,.slice snA sns.length snC] bK (0,0))::(gP,.cells uP bz (0,0))::(gS,.cells uS fz (0,0))::(Lo++K)) (xi w0 lo hi c3::F):=H
 refine G (aI Z)<|G (Zf aW Z)<|G (Zf ki Z)<|bl H 4 (#[.slice (Qd gP) ps.length pC,J (c3.clock),J (c3.next),J (c3.wait),.slice c3.A c3.txs.length c3.cap,J (gr.clock),J (gr.wait),J (gr.gen),.slice gr.mA gr.ms.length gr.mC,.slice gr.oA gr.os.length gr.oC,.slice (Qd gS) sn2.length c46]) EG Z Z Z Z Z N N fun w16 H=>U ?_
 refine bD bZ [0,1,2,3,4,5,6,7,8,9,10,11,12,13] [] [] [0,1,2,3,5,6,7,8,10,11,12,13] (sp []) N N N N Nq (cI _) ?_
 refine aw Z Z Z Z Z (fun w' hw'=>Yp Z)<|aw Z Z Z Z Z (fun w' hw'=>aI Z)<|aw Z Z Z Z Z (fun w' hw'=>Zf aW Z)<|aw Z Z Z Z Z (fun w' hw'=>Zf ki Z)<|aw Z Z Z Z Z (fun w' hw'=>aV j8 Z (aB ((H.later hw').ent (i:=4) Z) Z))<|aw Z Z Z Z Z (fun w' hw'=>Yp Z)<|aw Z Z Z Z Z (fun w' hw'=>aI Z)<|aw Z Z Z Z Z (fun w' hw'=>Zf aW Z)<|aw Z Z Z Z Z (fun w' hw'=>Zf ki Z)<|aw Z Z Z Z Z (fun w' hw'=>aV j8 Z (aB ((H.later hw').ent (i:=4) Z) Z))<|aw Z Z Z Z Z (fun w' hw'=>bn tD Z)<|aw Z Z Z Z Z (fun w' hw'=>mX Z Z I I)<|aw Z Z Z Z Z (fun w' hw'=>cC (k:=sns.length) se Z (congrArg (Value.int .i64) hlen2) (by first|omega|(simp only[ab];omega)))<|aw Z Z Z Z Z (fun w' hw'=>Wp Z)<|aU ?_
 intro w17 hw' hF
 replace H:=H.later hw';clear hw' hF
 refine U<|W ?_
 refine bD bZ [0,1,2,3,4,5,6,7,8,9,10,12,13,14,15,16,17,11,18,19,20] [21] [11,18] [0,1,3,4,5,6,7,8,10,12,13,14,15,17,19,20] (sp [(11,Sp.orow w17.heap.size bS cW (au ps.length (0:Int))),(18,Sp.orow w17.heap.size gz dh (au ps.length mR))]) N N N N Nq (cI _) ?_
 refine aw Z Z Z Z Z (fun w' hw'=>Yp Z)<|aw Z Z Z Z Z (fun w' hw'=>Zf fb Z)<|aw Z Z Z Z Z (fun w' hw'=>aV ba Z (aB ((H.later hw').ent (i:=3) Z) Z))<|aw Z Z Z Z Z (fun w' hw'=>Yi Z)<|aw Z Z Z Z Z (fun w' hw'=>Yi Z)<|aw Z Z Z Z Z (fun w' hw'=>Yp Z)<|aw Z Z Z Z Z (fun w' hw'=>aI Z)<|aw Z Z Z Z Z (fun w' hw'=>Zf aW Z)<|aw Z Z Z Z Z (fun w' hw'=>Zf dC Z)<|aw Z Z Z Z Z (fun w' hw'=>aV d4 Z (aB ((H.later hw').ent (i:=4) Z) Z))<|aw Z Z Z Z Z (fun w' hw'=>bn kG Z)<|aw Z Z Z Z Z (fun w' hw'=>Yp Z)<|aw Z Z Z Z Z (fun w' hw'=>aI Z)<|aw Z Z Z Z Z (fun w' hw'=>Zf aW Z)<|aw Z Z Z Z Z (fun w' hw'=>Zf dC Z)<|aw Z Z Z Z Z (fun w' hw'=>aV d4 Z (aB ((H.later hw').ent (i:=4) Z) Z))<|aw Z Z Z Z Z (fun w' hw'=>bn kG Z)<|Ib (Y:=bS) ((0:Int)) ps.length aZ HQ Z Z Z Z Z Z (fun w' hw'=>hw'.size) Z Z I I fun A74 c74 hc74=>Ib (Y:=gz) (mR) ps.length dN Cv Z Z Z Z Z Z (fun w' hw'=>hw'.size) Z Z I I fun A81 c81 hc81=>aw Z Z Z Z Z (fun w' hw'=>bj (cs:= #[.string (a.name),J ((bT co.a a.name).2.1),J ((bT co.a a.name).2.2.1),.bool (false),.slice A74 (((au ps.length (0:Int))).length) c74,.slice A81 ((au ps.length mR).length) c81]) xu v9 N)<|aw Z Z Z Z Z (fun w' hw'=>aI Z)<|aU ?_
 intro w18 hw' hF
 obtain⟨hF,Aq,cq,L81,eq,hcq,hm81,ho81,he81,hn81⟩:=hF;cases eq;clear hcq
 obtain⟨hF,Aq,cq,L74,eq,hcq,hm74,ho74,he74,hn74⟩:=hF;cases eq;clear hcq
 obtain⟨nq,curq,rfl,rfl,rowq9⟩:=ho74.row (by simp only[bJ];exact hnp)
 obtain⟨nl,curl,rfl,rfl,rowl9⟩:=ho81.row (by simp only[bJ];exact hnp)
 have e74:=he74 _ (dH _)
 have e81:=he81 _ (dH _)
 replace H:=H.adopt2 hw' e74 e81 (rP e74.1 e81.1 Z)
 clear hw' hF
 refine kQ H 8 (⟨a.name,(bT co.a a.name).2.1,(bT co.a a.name).2.2.1,false,au ps.length 0,some ⟨nq,0,none⟩,c74,au ps.length mR,some ⟨nl,0,none⟩,c81⟩) zA rowS hx2 0 Z Z Z Z Z Z N fun w20 cur19 row19 H=> ?_
 have hs21:(sn2.set sns.length (⟨a.name,(bT co.a a.name).2.1,(bT co.a a.name).2.2.1,false,au ps.length 0,some ⟨nq,0,none⟩,c74,au ps.length mR,some ⟨nl,0,none⟩,c81⟩))[sns.length]? =some (⟨a.name,(bT co.a a.name).2.1,(bT co.a a.name).2.2.1,false,au ps.length 0,some ⟨nq,0,none⟩,c74,au ps.length mR,some ⟨nl,0,none⟩,c81⟩):=am (cD hx2).1
 refine U<|W<|Zr<|G (Yi Z)<|G (bj (cs:= #[J (0),J ((bT co.a a.name).2.2.1),.slice none 0 0]) iF dn N)<|bl H 4 (#[J (0),J ((bT co.a a.name).2.2.1),.slice none 0 0]) aQ Z Z Z Z Z N N fun w22 H=>U<|Zt ?_
 have hn7:=hown.snoc (s:=(⟨a.name,(bT co.a a.name).2.1,(bT co.a a.name).2.2.1,false,au ps.length 0,some ⟨nq,0,none⟩,c74,au ps.length mR,some ⟨nl,0,none⟩,c81⟩:Sn)) Z Z rowq9 rowl9
 have hs7:sn2.set sns.length (⟨a.name,(bT co.a a.name).2.1,(bT co.a a.name).2.2.1,false,au ps.length 0,some ⟨nq,0,none⟩,c74,au ps.length mR,some ⟨nl,0,none⟩,c81⟩:Sn)=sns++[⟨a.name,(bT co.a a.name).2.1,(bT co.a a.name).2.2.1,false,au ps.length 0,some ⟨nq,0,none⟩,c74,au ps.length mR,some ⟨nl,0,none⟩,c81⟩]:=by rw[<-hsn2,i9 _ _ (ao _),me];rfl
 have row7:=row19
 rw[hs7]at row7
 refine eQ (cs0:= #[J (0),J ((bT co.a a.name).2.2.1),.slice none 0 0]) Z aP Z (H.ent (i:=4) Z) Z ⟨⟨ps,some ⟨gP,0,none⟩,pC,c3,lo,hi,gr,glo,ghi,sns++[⟨a.name,(bT co.a a.name).2.1,(bT co.a a.name).2.2.1,false,au ps.length 0,some ⟨nq,0,none⟩,c74,au ps.length mR,some ⟨nl,0,none⟩,c81⟩],some ⟨gS,0,none⟩,c46⟩,by rw[CB hix hok3];exact oK.plain _ _ _,by rw[CB hix hok3,<-hac3];unfold Bk.a;rw[bk];rfl,⟨gP,uP,_,_,_,⟨rfl,row,dU.own row7,hn7,(aA ..),(ak _ hgr),(fun q hq=>ak _ (hps q hq)),?_⟩,(fun f hf=>ak _ hf)⟩⟩
 have H7:=H.forget (L':=(nq,_)::(nl,_)::(bb,_)::(gP,_)::(gS,_)::(Lo++K)) (.cons_cons _ (.cons_cons _ (cm [(b45,_),(b5,_),(b4,_),(b3,_)] _))) (fun _ h=>h)
 have hl7:sn2.length=(sns++[(⟨a.name,(bT co.a a.name).2.1,(bT co.a a.name).2.2.1,false,au ps.length 0,some ⟨nq,0,none⟩,c74,au ps.length mR,some ⟨nl,0,none⟩,c81⟩:Sn)]).length:=by rw[hl2,ay];rfl
 rw[hl7]at H7
 exact H7.perm (Nb [(bb,_),(gP,_),(gS,_)] [(nq,_),(nl,_)] Lo K)
theorem Jf {w0 w:World} {bb:Nat} {b:Bk} {gP:Nat} {uP:Array Value} {Ls Lo K:List (Nat×Obj)} {F:List ci} (a:Act) (B:Bw w0 w bb b gP uP Ls Lo K F) (hsl:b.sns.length<=1000000) {k:Nat} (hnm:bM a.name=true) (hcb:oJ k b.co) (hk:k<=1000) (hnp:0<b.ps.length) (hp4:b.ps.length<=4) {i:Nat} {x:Sn} (hix:fg b.sns a.name=some i) (hx:b.sns[i]? =some x):dd aa kc [.pointer (Qd bb),a.v] w fun v w2=> ∃ b':Bk,oK (oY b.a a).2 v w2/\b'.a=(oY b.a a).1/\xj w0 w2 bb b' K F:=by
 refine aE m1 Z Z ?_
 obtain⟨ps,pA,pC,co,clo,chi,gr,glo,ghi,sns,snA,snC⟩:=b
 obtain⟨hpA,row,hsn,hown,hco,hgr,hps,H⟩:=B
 dsimp only at hpA row hsn hown hco hgr hps
 subst hpA
 dsimp only at hix hx
 obtain⟨gS,uS,hgS,hLs,rowS⟩:=hsn.row (by have:=(cD hx).1;omega)
 subst hgS;subst hLs
 obtain⟨gq,uq,gl,ul,La,Lb,hsA,hlA,rowq,rowl,hLo,hset⟩:=hown.at_ hx
 subst hLo
 replace H:Hp w0 w ((bb,.cells #[.slice (Qd gP) ps.length pC,J (co.clock),J (co.next),J (co.wait),.slice co.A co.txs.length co.cap,J (gr.clock),J (gr.wait),J (gr.gen),.slice gr.mA gr.ms.length gr.mC,.slice gr.oA gr.os.length gr.oC,.slice (Qd gS) sns.length snC] bK (0,0))::(gP,.cells uP bz (0,0))::(gS,.cells uS fz (0,0))::(gq,.cells uq cW (0,0))::(gl,.cells ul dh (0,0))::(La++(Lb++K))) F:=H.perm (CD [(bb,_),(gP,_),(gS,_)] _ _ La Lb K)
 dsimp only at hsl hcb hnp hp4
 show CW _ _ _ _ (args [.pointer (Qd bb),.agg #[J (a.kind),.string (a.name),J (a.part),J (a.n),J (a.m),.string (a.text),J (a.lost)]]) w
 refine W<|Zr<|fS H Z Z fun w1 b3 H=>eC H dn Z fun w2 b4 H=>U<|W ?_
 refine eu (τ:=Co×Nat×Nat×Nat) [5,6,7,8,10,11,12,13,14,15,16,17,18,19,20,21,22] (fun(_,b5,_,_)=>[(5,.pointer (Qd b5)),(6,J (bT co.a a.name).2.1),(7,J (bT co.a a.name).2.2.1),(8,J (bT co.a a.name).2.2.2)]) (fun(c3,b5,lo,hi) w'=>c3.a=(bT co.a a.name).1/\Hp w0 w' ((b5,.cells #[J (c3.clock),J (c3.next),J (c3.wait),.slice c3.A c3.txs.length c3.cap] bf (0,0))::(b4,.cells #[J (0),J (0),.slice none 0 0] d9 (0,0))::(b3,.cells #[J (a.kind),.string (a.name),J (a.part),J (a.n),J (a.m),.string (a.text),J (a.lost)] f5 (0,0))::(bb,.cells #[.slice (Qd gP) ps.length pC,J (co.clock),J (co.next),J (co.wait),.slice co.A co.txs.length co.cap,J (gr.clock),J (gr.wait),J (gr.gen),.slice gr.mA gr.ms.length gr.mC,.slice gr.oA gr.os.length gr.oC,.slice (Qd gS) sns.length snC] bK (0,0))::(gP,.cells uP bz (0,0))::(gS,.cells uS fz (0,0))::(gq,.cells uq cW (0,0))::(gl,.cells ul dh (0,0))::La++(Lb++K)) (xi w0 lo hi c3::F)) ?_ ?_
 refine ow bZ 13 7 [7,8,9,10,11,12,14,15,16,17] [13] [0,1,2,3,5] [13,14,15,16,17] [7] [0,1,2,3,5,8,9,10,11,12] (sp [(13,Sp.blk w2.heap.size (.agg #[J 0,J 0,J 0,.slice none 0 0]) bf)]) (sp [(7,Sp.deep w2.heap.size Ml (fun c:Co=>c.c.toArray) (fun cs=> .tuple #[.agg cs,J (bT co.a a.name).2.1,J (bT co.a a.name).2.2.1,J (bT co.a a.name).2.2.2]) (fun cq:Co=>cq.a=(bT co.a a.name).1))]) N N N N (cI _) (cI _) ?_ ?_
 refine jA [0,1,2,3,4,5,6,13] [7,8,9,10,11,12,14,15,16,17] [13] [0,1,2,3,5] 9 (sp [(13,Sp.blk w2.heap.size (.agg #[J 0,J 0,J 0,.slice none 0 0]) bf)]) N N N Nq<|aw Z Z Z Z Z (fun w' hw'=>Yp Z)<|aw Z Z Z Z Z (fun w' hw'=>aI Z)<|aw Z Z Z Z Z (fun w' hw'=>Zf aW Z)<|aw Z Z Z Z Z (fun w' hw'=>Zf eA Z)<|aw Z Z Z Z Z (fun w' hw'=>jG 1 [J (co.clock),J (co.next),J (co.wait),.slice co.A co.txs.length co.cap] ax Z Z ((H.later hw').ent (i:=2) Z) Z)<|aw Z Z Z Z Z (fun w' hw'=>Zf fb Z)<|aw Z Z Z Z Z (fun w' hw'=>aV ba Z (aB ((H.later hw').ent (i:=1) Z) Z))<|xd cK Z Z Z Z Z (fun w' hw'=>hw'.size) fun b5=>aU ?_
 intro w3 hw' hF
 obtain⟨hF,bq,eq,hge5,hbl5⟩:=hF;cases eq
 replace H:=H.adoptNew hw' hbl5 hge5
 clear hw' hF
 refine da 7 N Z<|cd nS (wy co a.name k _ (Hp.coM H hco) hcb hk hnm) Z Z ?_
 rintro _ w4 ⟨c3,rfl,hac3,hnc3⟩;replace H:=H.learn hnc3.2 (xi w0 w3.heap.size w4.heap.size c3) ⟨H.size,hnc3.1⟩ (ao _) (ao _);clear hnc3
 refine U<|bw 8 N N N Z Z Z Z Nq (fun _=>Yu Z)<|bw 9 N N N Z Z Z Z Nq (fun _=>Xa Z Z)<|bw 10 N N N Z Z Z Z Nq (fun _=>Xi Z Z)<|bw 11 N N N Z Z Z Z Nq (fun _=>Xi Z Z)<|bw 12 N N N Z Z Z Z Nq (fun _=>Xi Z Z)<|da 14 N Z<|bl H 0 (#[J (c3.clock),J (c3.next),J (c3.wait),.slice c3.A c3.txs.length c3.cap]) aF Z Z Z Z Z N N fun w5 H=>U<|bw 15 N N N Z Z Z Z Nq (fun _=>Wi Z)<|bw 16 N N N Z Z Z Z Nq (fun _=>Wi Z)<|bw 17 N N N Z Z Z Z Nq (fun _=>Wi Z)<|cz N ?_
 exact⟨(c3,b5,_,_),⟨hac3,H⟩,Py Z Z Z Z,Qg⟩
 refine jA [0,1,2,3,4,5,6,7,8,9,10,11,12] [13,14,15,16,17] [7] [0,1,2,3,5,8,9,10,11,12] 4 (sp [(7,Sp.deep w2.heap.size Ml (fun c:Co=>c.c.toArray) (fun cs=> .tuple #[.agg cs,J (bT co.a a.name).2.1,J (bT co.a a.name).2.2.1,J (bT co.a a.name).2.2.2]) (fun cq:Co=>cq.a=(bT co.a a.name).1))]) N N N Nq<|aw Z Z Z Z Z (fun w' hw'=>Yp Z)<|aw Z Z Z Z Z (fun w' hw'=>aI Z)<|aw Z Z Z Z Z (fun w' hw'=>Zf aW Z)<|aw Z Z Z Z Z (fun w' hw'=>Zf eA Z)<|aw Z Z Z Z Z (fun w' hw'=>jG 1 [J (co.clock),J (co.next),J (co.wait),.slice co.A co.txs.length co.cap] ax Z Z ((H.later hw').ent (i:=2) Z) Z)<|aw Z Z Z Z Z (fun w' hw'=>Zf fb Z)<|aw Z Z Z Z Z (fun w' hw'=>aV ba Z (aB ((H.later hw').ent (i:=1) Z) Z))<|sN (gv:=(fun cs=> .tuple #[.agg cs,J (bT co.a a.name).2.1,J (bT co.a a.name).2.2.1,J (bT co.a a.name).2.2.2])) nS Z Z Z Z Z (fun w' hw'=>hw'.size) (fun w' hw'=>wy co a.name k w' (Hp.coM (H.later hw') hco) hcb hk hnm) Z fun cs18=>aw Z Z Z Z Z (fun w' hw'=>Yu Z)<|aw Z Z Z Z Z (fun w' hw'=>Xa Z Z)<|aw Z Z Z Z Z (fun w' hw'=>Xi Z Z)<|aw Z Z Z Z Z (fun w' hw'=>Xi Z Z)<|aw Z Z Z Z Z (fun w' hw'=>Xi Z Z)<|aU ?_
 intro w6 hw' hF
 obtain⟨hF,c3,eq,hac3,hrd18⟩:=hF;cases eq
 replace H:=H.learn hw' (xi w0 w2.heap.size w6.heap.size c3) ⟨H.size,hrd18⟩ (ao _) (ao _)
 clear hw' hF
 refine da 13 N Z<|eC H cK Z fun w7 b5 H=>U<|da 14 N Z<|bl H 0 (#[J (c3.clock),J (c3.next),J (c3.wait),.slice c3.A c3.txs.length c3.cap]) aF Z Z Z Z Z N N fun w8 H=>U<|bw 15 N N N Z Z Z Z Nq (fun _=>Wi Z)<|bw 16 N N N Z Z Z Z Nq (fun _=>Wi Z)<|bw 17 N N N Z Z Z Z Nq (fun _=>Wi Z)<|cz N ?_
 exact⟨(c3,b5,_,_),⟨hac3,H⟩,Py Z Z Z Z,Qg⟩
 rintro⟨c3,b5,lo,hi⟩ ρ1 w9 ⟨hac3,H⟩
 show CW _ _ _ _ (dv (gk _ _ ρ1) [(5,.pointer (Qd b5)),(6,J (bT co.a a.name).2.1),(7,J (bT co.a a.name).2.2.1),(8,J (bT co.a a.name).2.2.2)]) w9
 refine W<|W<|Zr<|G (Yi Z) ?_
 refine qU (i6 Z Z) Z Z Z (fun h24=> ?_) (fun h24=> ?_)
 refine U<|ZT Z<|W<|Zr<|G (Yi Z)<|cd bN (dQ (bT co.a a.name).2.2.2 _) Z Z ?_
 rintro _ w10 ⟨rfl,hb⟩;replace H:=H.later hb;clear hb
 refine bl H 1 (#[J ((bT co.a a.name).2.2.2),J (0),.slice none 0 0]) aQ Z Z Z Z Z N N fun w11 H=>U<|Zt ?_
 exact eQ (cs0:= #[J ((bT co.a a.name).2.2.2),J (0),.slice none 0 0]) Z aP Z (H.ent (i:=1) Z) Z ⟨⟨ps,some ⟨gP,0,none⟩,pC,co,clo,chi,gr,glo,ghi,sns.set i x,some ⟨gS,0,none⟩,snC⟩,by rw[uu h24];exact oK.plain _ _ _,by rw[uu h24,fa hx];rfl,Bw.close (X:=[(b5,_),(b4,_),(b3,_)]) row (by rw[fa hx];exact rowS) hset hsA hlA rowq rowl (ak _ hco) (ak _ hgr) (fun q hq=>ak _ (hps q hq)) (fun f hf=>ak _ hf) H (by rw[fa hx];rfl)⟩
 refine U<|ZF Z<|Zk<|W ?_
 have hok3:(bT co.a a.name).2.2.2=0:=by simpa using h24
 refine Zr<|G (Yp Z)<|G (Zw ax H 0 Z Z Z)<|G (aI Z)<|G (Zf aW Z)<|G (Zf eA Z)<|bl H 3 (#[.slice (Qd gP) ps.length pC,J (c3.clock),J (c3.next),J (c3.wait),.slice c3.A c3.txs.length c3.cap,J (gr.clock),J (gr.wait),J (gr.gen),.slice gr.mA gr.ms.length gr.mC,.slice gr.oA gr.os.length gr.oC,.slice (Qd gS) sns.length snC]) aF Z Z Z Z Z N N fun w12 H=>U<|W<|Zr<|G (Yp Z)<|G (Zf fb Z)<|G (Zd ba H 2 Z Z Z)<|cd dz (js bb ⟨ps,some ⟨gP,0,none⟩,pC,c3,lo,hi,gr,glo,ghi,sns,some ⟨gS,0,none⟩,snC⟩ a.name _ _ (H.ent (i:=3) Z) (dU.own rowS) (fun q hq=>by rw[aq.1 hq];exact(H.ent (i:=5) Z)) hsl) Z Z ?_
 rintro _ w13 ⟨rfl,hb⟩;replace H:=H.later hb;clear hb
 rw[hix]
 refine G (Wp Z)<|U<|W<|W<|Zr<|G (Yp Z)<|G (vD iN Z)<|U<|ZF Z<|Zk<|W ?_
 refine bD bZ [0,1,2,3,4,5,6,7,8,9,10,12,13,14,15,16,17,11,18,19,20] [21] [11,18] [0,1,3,4,5,6,7,8,10,12,13,14,15,17,19,20] (sp [(11,Sp.orow w13.heap.size bS cW (au ps.length (0:Int))),(18,Sp.orow w13.heap.size gz dh (au ps.length mR))]) N N N N Nq (cI _) ?_
 refine aw Z Z Z Z Z (fun w' hw'=>Yp Z)<|aw Z Z Z Z Z (fun w' hw'=>Zf fb Z)<|aw Z Z Z Z Z (fun w' hw'=>aV ba Z (aB ((H.later hw').ent (i:=2) Z) Z))<|aw Z Z Z Z Z (fun w' hw'=>Yi Z)<|aw Z Z Z Z Z (fun w' hw'=>Yi Z)<|aw Z Z Z Z Z (fun w' hw'=>Yp Z)<|aw Z Z Z Z Z (fun w' hw'=>aI Z)<|aw Z Z Z Z Z (fun w' hw'=>Zf aW Z)<|aw Z Z Z Z Z (fun w' hw'=>Zf dC Z)<|aw Z Z Z Z Z (fun w' hw'=>aV d4 Z (aB ((H.later hw').ent (i:=3) Z) Z))<|aw Z Z Z Z Z (fun w' hw'=>bn kG Z)<|aw Z Z Z Z Z (fun w' hw'=>Yp Z)<|aw Z Z Z Z Z (fun w' hw'=>aI Z)<|aw Z Z Z Z Z (fun w' hw'=>Zf aW Z)<|aw Z Z Z Z Z (fun w' hw'=>Zf dC Z)<|aw Z Z Z Z Z (fun w' hw'=>aV d4 Z (aB ((H.later hw').ent (i:=3) Z) Z))<|aw Z Z Z Z Z (fun w' hw'=>bn kG Z)<|Ib (Y:=bS) ((0:Int)) ps.length aZ HQ Z Z Z Z Z Z (fun w' hw'=>hw'.size) Z Z I I fun A74 c74 hc74=>Ib (Y:=gz) (mR) ps.length dN Cv Z Z Z Z Z Z (fun w' hw'=>hw'.size) Z Z I I fun A81 c81 hc81=>aw Z Z Z Z Z (fun w' hw'=>bj (cs:= #[.string (a.name),J ((bT co.a a.name).2.1),J ((bT co.a a.name).2.2.1),.bool (false),.slice A74 (((au ps.length (0:Int))).length) c74,.slice A81 ((au ps.length mR).length) c81]) xu v9 N)<|aw Z Z Z Z Z (fun w' hw'=>aI Z)<|aU ?_
 intro w14 hw' hF
 obtain⟨hF,Aq,cq,L81,eq,hcq,hm81,ho81,he81,hn81⟩:=hF;cases eq;clear hcq
 obtain⟨hF,Aq,cq,L74,eq,hcq,hm74,ho74,he74,hn74⟩:=hF;cases eq;clear hcq
 obtain⟨nq,curq,rfl,rfl,rowq9⟩:=ho74.row (by simp only[bJ];exact hnp)
 obtain⟨nl,curl,rfl,rfl,rowl9⟩:=ho81.row (by simp only[bJ];exact hnp)
 have e74:=he74 _ (dH _)
 have e81:=he81 _ (dH _)
 replace H:=H.adopt2 hw' e74 e81 (rP e74.1 e81.1 Z)
 clear hw' hF
 refine kQ H 7 (⟨a.name,(bT co.a a.name).2.1,(bT co.a a.name).2.2.1,false,au ps.length 0,some ⟨nq,0,none⟩,c74,au ps.length mR,some ⟨nl,0,none⟩,c81⟩) zA rowS hx 0 Z Z Z Z Z Z N fun w16 cur15 row15 H=> ?_
 have hs17:(sns.set i (⟨a.name,(bT co.a a.name).2.1,(bT co.a a.name).2.2.1,false,au ps.length 0,some ⟨nq,0,none⟩,c74,au ps.length mR,some ⟨nl,0,none⟩,c81⟩))[i]? =some (⟨a.name,(bT co.a a.name).2.1,(bT co.a a.name).2.2.1,false,au ps.length 0,some ⟨nq,0,none⟩,c74,au ps.length mR,some ⟨nl,0,none⟩,c81⟩):=am (cD hx).1
 refine U<|W<|Zr<|G (Yi Z)<|G (bj (cs:= #[J (0),J ((bT co.a a.name).2.2.1),.slice none 0 0]) iF dn N)<|bl H 3 (#[J (0),J ((bT co.a a.name).2.2.1),.slice none 0 0]) aQ Z Z Z Z Z N N fun w18 H=>U<|Zt ?_
 have H7:=H.forget (L':=(nq,_)::(nl,_)::(bb,_)::(gP,_)::(gS,_)::(La++(Lb++K))) (.cons_cons _ (.cons_cons _ ((ap _).trans (.trans (.cons_cons _ (.cons_cons _ (.cons_cons _ (.cons _ (.cons _ (ap _)))))) (cm [(b5,_),(b4,_),(b3,_)] _))))) (fun _ h=>h)
 have hm7:(sns.set i (⟨a.name,(bT co.a a.name).2.1,(bT co.a a.name).2.2.1,false,au ps.length 0,some ⟨nq,0,none⟩,c74,au ps.length mR,some ⟨nl,0,none⟩,c81⟩:Sn)).map Sn.a=(sns.map Sn.a).set i (u5 a.name (bT co.a a.name).2.1 (bT co.a a.name).2.2.1 ps.length):=by rw[cy];rfl
 replace H7:=H7.perm (fT [(bb,_),(gP,_),(gS,_)] [(nq,_),(nl,_)] _)
 exact eQ (cs0:= #[J (0),J ((bT co.a a.name).2.2.1),.slice none 0 0]) Z aP Z (H.ent (i:=3) Z) Z ⟨⟨ps,some ⟨gP,0,none⟩,pC,c3,lo,hi,gr,glo,ghi,sns.set i ⟨a.name,(bT co.a a.name).2.1,(bT co.a a.name).2.2.1,false,au ps.length 0,some ⟨nq,0,none⟩,c74,au ps.length mR,some ⟨nl,0,none⟩,c81⟩,some ⟨gS,0,none⟩,snC⟩,by rw[CA hix hok3];exact oK.plain _ _ _,by rw[CA hix hok3,<-hac3];show Wa.mk _ _ _ ((sns.set i ⟨a.name,(bT co.a a.name).2.1,(bT co.a a.name).2.2.1,false,au ps.length 0,some ⟨nq,0,none⟩,c74,au ps.length mR,some ⟨nl,0,none⟩,c81⟩).map Sn.a)=Wa.mk _ _ _ _;rw[hm7];rfl,Bw.close (X:=[]) row row15 hset Z Z rowq9 rowl9 (aA ..) (ak _ hgr) (fun q hq=>ak _ (hps q hq)) (fun f hf=>ak _ hf) H7 (by simp only[Bk.c,ab])⟩
theorem Lv {c:Co} (h:gB c=true) {t:Tx} (ht:t∈c.txs): ∃ i,fX c t.name=some (i,t):=by
 obtain⟨-,-,h3⟩:=gJ.1 h
 obtain⟨i,hi⟩:=aK.1 ht
 obtain⟨hl,he⟩:=cD hi
 have:(c.txs.findIdx? fun p=>decide (p.name=t.name))=some i:=by
  rw[bg]
  refine⟨hl,by rw[he];simp,fun j hj=> ?_⟩
  unfold vv at h3
  rw[jp,mN]at h3
  have:=(h3 j i I hl hj).1
  rw[he]at this
  simpa using this
 exact⟨i,by unfold fX;rw[this];simp[hi]⟩
theorem Ct {c:Co} (h:gB c=true) {n:Nat} {t:Tx} (ht:gZ c.txs n=some t):(∃ i,fX c t.name=some (i,t))/\(t.state=3∨t.state=4)/\t.parts.headD 0∈t.parts/\0<=t.parts.headD 0/\t.parts.headD 0<4:=by
 unfold gZ at ht
 obtain⟨hm,he⟩:=kP.1 (ae ht)
 have hs:t.state=3∨t.state=4:=by unfold gQ at he;simpa using he
 have hx:=cB.1 ((gJ.1 h).2.1 t hm)
 have hp:t.parts.headD 0∈t.parts:=by
  cases hp:t.parts with
  |nil=>have:=hx.2.2.2.2.2.2.2.2.2.2.2 (by rw[hp];rfl);omega
  |cons a l=>simp
 exact⟨Lv h hm,hs,hp,by have:=(fI hx.2.2.2.2.2.2.2.2.2.1).2 _ hp;omega⟩
theorem Hd {c:Co} {s:ByteArray} {p:Int} {i:Nat} {t:Tx} (hf:fX c s=some (i,t)) (h34:t.state=3∨t.state=4) (hp:p∈t.parts):(qH c s p).2=0:=by
 unfold qH
 rw[hf]
 dsimp only
 rw[if_pos h34,if_pos hp]
theorem GN {w:Wa} {a:Act} (h:gZ w.co.txs a.n.toNat=none):n8 w a=lZ w 15:=by
 unfold n8
 rw[h]
theorem KY {w:Wa} {a:Act} {t:Tx} {n:Nat} {p:gD} (h:gZ w.co.txs a.n.toNat=some t) (hn:t.parts.headD 0=(n:Nat)) (hp:w.ps[n]? =some p):n8 w a=if(eE p (cZ t)).2.2=0 then({w with ps:=w.ps.set n (eE p (cZ t)).1,co:=(qH w.co t.name (t.parts.headD 0)).1},⟨0,(eE p (cZ t)).2.1,[]⟩)else lZ w (eE p (cZ t)).2.2:=by
 unfold n8
 rw[h]
 dsimp only
 rw[show(t.parts.headD 0).toNat=n by omega,HH hp]
 split
 rename_i h0
 rw[if_pos (by rfl)]
 rename_i h0
 rw[if_neg (show¬ (lZ w (eE p (cZ t)).2.2).2.code=0 from h0)]
theorem I8 {w:Wa} {a:Act} {t:Tx} {n:Nat} (h:gZ w.co.txs a.n.toNat=some t) (hn:t.parts.headD 0=(n:Nat)) (hp:w.ps[n]? =none):n8 w a=lZ w 5:=by
 unfold n8 uD
 rw[h]
 dsimp only
 rw[show(t.parts.headD 0).toNat=n by omega,hp]
 dsimp only
 rw[if_neg (by show¬ (5:Int)=0;decide)]
theorem I7 {w0 w:World} {bb:Nat} {b:Bk} {gP:Nat} {uP:Array Value} {Ls Lo K:List (Nat×Obj)} {F:List ci} (a:Act) (B:Bw w0 w bb b gP uP Ls Lo K F) {k:Nat} (hcb:oJ k b.co) (hn:0<=a.n/\a.n<=1000) (hne:gZ b.co.a.txs a.n.toNat=none):dd aa kb [.pointer (Qd bb),a.v] w fun v w2=> ∃ b':Bk,oK (n8 b.a a).2 v w2/\b'.a=(n8 b.a a).1/\xj w0 w2 bb b' K F:=by
 refine aE m0 Z Z ?_
 have hsp:=GN (w:=b.a) hne
 obtain⟨ps,pA,pC,co,clo,chi,gr,glo,ghi,sns,snA,snC⟩:=b
 obtain⟨hpA,row,hsn,hown,hco,hgr,hps,H⟩:=B
 dsimp only at hpA row hsn hown hco hgr hps
 subst hpA
 replace H:Hp w0 w ((bb,.cells #[.slice (Qd gP) ps.length pC,J (co.clock),J (co.next),J (co.wait),.slice co.A co.txs.length co.cap,J (gr.clock),J (gr.wait),J (gr.gen),.slice gr.mA gr.ms.length gr.mC,.slice gr.oA gr.os.length gr.oC,.slice snA sns.length snC] bK (0,0))::(gP,.cells uP bz (0,0))::(Ls++(Lo++K))) F:=H
 dsimp only at hcb hne
 obtain⟨m,hnm⟩: ∃ m:Nat,a.n=(m:Int):=⟨a.n.toNat,by omega⟩
 have htm:a.n.toNat=m:=by omega
 rw[htm]at hne
 show CW _ _ _ _ (args [.pointer (Qd bb),.agg #[J (a.kind),.string (a.name),J (a.part),J (a.n),J (a.m),.string (a.text),J (a.lost)]]) w
 refine W<|Zr<|fS H Z Z fun w1 b3 H=>eC H dn Z fun w2 b4 H=>U<|W ?_
 refine bD bZ [0,1,2,3,4,5,6,7,8,9,10,11,12,13,14,15] [16,17] [7,13] [0,1,2,3,5,8,9,10,11,12,14,15] (sp [(7,Sp.one (ym none)),(13,Sp.blk w2.heap.size (.agg #[J 0,J 0,J 0,J 0,J 0,.bool false,.string ⟨#[]⟩]) dh)]) N N N N Nq (cI _) ?_
 refine aw Z Z Z Z Z (fun w' hw'=>Yp Z)<|aw Z Z Z Z Z (fun w' hw'=>aI Z)<|aw Z Z Z Z Z (fun w' hw'=>Zf aW Z)<|aw Z Z Z Z Z (fun w' hw'=>Zf eA Z)<|aw Z Z Z Z Z (fun w' hw'=>jG 1 [J (co.clock),J (co.next),J (co.wait),.slice co.A co.txs.length co.cap] ax Z Z ((H.later hw').ent (i:=2) Z) Z)<|aw Z Z Z Z Z (fun w' hw'=>Zf eT Z)<|aw Z Z Z Z Z (fun w' hw'=>aV aj Z (aB ((H.later hw').ent (i:=1) Z) Z))<|g7 vn Z Z Z Z Z (fun w' hw'=>(by have hA:=E6 co m w' (Hp.coM (H.later hw') hco) hcb.ok I;rw[show gZ co.a.txs m=_ from hne,<-hnm]at hA;exact hA)) Z<|aw Z Z Z Z Z (fun w' hw'=>Yu Z)<|aw Z Z Z Z Z (fun w' hw'=>NL Z Z)<|aw Z Z Z Z Z (fun w' hw'=>Xi Z Z)<|aw Z Z Z Z Z (fun w' hw'=>Xa Z Z)<|aw Z Z Z Z Z (fun w' hw'=>Xi Z Z)<|xd fU Z Z Z Z Z (fun w' hw'=>hw'.size) fun b7=>aw Z Z Z Z Z (fun w' hw'=>Wt Z)<|aw Z Z Z Z Z (fun w' hw'=>Wi Z)<|aU ?_
 intro w3 hw' hF
 obtain⟨hF,bq,eq,hge7,hbl7⟩:=hF;cases eq
 obtain⟨hF,-⟩:=hF
 have Hb:=H
 replace H:=H.adoptNew hw' hbl7 hge7
 clear hw' hF
 refine bl H 0 (#[J (0),J (0),J (0),J (0),J (0),.bool (false),.string (⟨#[]⟩)]) eM Z Z Z Z Z N N fun w4 H=>G (Wi Z)<|U<|W<|W<|Zr<|G (Yi Z)<|G (j9 Z Z (by decide))<|U<|ZT Z<|W<|Zr<|G (Yi Z)<|cd bN (dQ 15 _) Z Z ?_
 rintro _ w5 ⟨rfl,hb⟩;replace H:=H.later hb;clear hb
 refine bl H 1 (#[J (15),J (0),.slice none 0 0]) aQ Z Z Z Z Z N N fun w6 H=>U<|Zt ?_
 exact eQ (cs0:= #[J (15),J (0),.slice none 0 0]) Z aP Z (H.ent (i:=1) Z) Z ⟨⟨ps,some ⟨gP,0,none⟩,pC,co,clo,chi,gr,glo,ghi,sns,snA,snC⟩,by rw[hsp];exact oK.plain _ _ _,by rw[hsp];rfl,Bw.shut (X:=[(b7,_),(b4,_),(b3,_)]) row hsn hown hco hgr hps (fun _ h=>h) H Z⟩
theorem I6 {w0 w:World} {bb:Nat} {b:Bk} {gP:Nat} {uP:Array Value} {Ls Lo K:List (Nat×Obj)} {F:List ci} (a:Act) (B:Bw w0 w bb b gP uP Ls Lo K F) {k:Nat} (hcb:oJ k b.co) (hn:0<=a.n/\a.n<=1000) (hpk: ∀ q∈b.ps,q.p.a.ok/\ ∀ (l:Nat) (y:eW),q.p.leader=l->q.p.reps[l]? =some y->y.es.length<400) {t:Tx} (hne:gZ b.co.a.txs a.n.toNat=some t):dd aa kb [.pointer (Qd bb),a.v] w fun v w2=> ∃ b':Bk,oK (n8 b.a a).2 v w2/\b'.a=(n8 b.a a).1/\xj w0 w2 bb b' K F:=by
 refine aE m0 Z Z ?_
 have hne0:gZ b.a.co.txs a.n.toNat=some t:=hne
 obtain⟨⟨ti,hf⟩,h34,hpt,hp0,hp4⟩:=Ct hcb.a.ok hne
 have hnmt:=(cB.1 (hcb.a.at_ (jf hf).2.1)).1
 obtain⟨n,hpn⟩: ∃ n:Nat,t.parts.headD 0=(n:Int):=⟨(t.parts.headD 0).toNat,by omega⟩
 have hn4:n<4:=by omega
 have hout:decide (0<=t.parts.headD 0/\t.parts.headD 0<(b.ps.length:Int))=false->n8 b.a a=lZ b.a 5:=fun h=>I8 hne0 hpn (by rw[show b.a.ps=b.ps.map fun q=>q.p.a from rfl,aM,cJ (by have:=of_decide_eq_false h;omega)];rfl)
 obtain⟨ps,pA,pC,co,clo,chi,gr,glo,ghi,sns,snA,snC⟩:=b
 obtain⟨hpA,row,hsn,hown,hco,hgr,hps,H⟩:=B
 dsimp only at hpA row hsn hown hco hgr hps
 subst hpA
 replace H:Hp w0 w ((bb,.cells #[.slice (Qd gP) ps.length pC,J (co.clock),J (co.next),J (co.wait),.slice co.A co.txs.length co.cap,J (gr.clock),J (gr.wait),J (gr.gen),.slice gr.mA gr.ms.length gr.mC,.slice gr.oA gr.os.length gr.oC,.slice snA sns.length snC] bK (0,0))::(gP,.cells uP bz (0,0))::(Ls++(Lo++K))) F:=H
 dsimp only at hcb hne hf hpk hout
 obtain⟨m,hnm⟩: ∃ m:Nat,a.n=(m:Int):=⟨a.n.toNat,by omega⟩
 have htm:a.n.toNat=m:=by omega
 rw[htm]at hne
 show CW _ _ _ _ (args [.pointer (Qd bb),.agg #[J (a.kind),.string (a.name),J (a.part),J (a.n),J (a.m),.string (a.text),J (a.lost)]]) w
 refine W<|Zr<|fS H Z Z fun w1 b3 H=>eC H dn Z fun w2 b4 H=>U<|W ?_
 refine bD bZ [0,1,2,3,4,5,6,7,8,9,10,11,12,13,14,15] [16,17] [7,13] [0,1,2,3,5,8,9,10,11,12,14,15] (sp [(7,Sp.one (ym (some t))),(13,Sp.blk w2.heap.size (.agg #[J 0,J 0,J 0,J 0,J 0,.bool false,.string ⟨#[]⟩]) dh)]) N N N N Nq (cI _) ?_
 refine aw Z Z Z Z Z (fun w' hw'=>Yp Z)<|aw Z Z Z Z Z (fun w' hw'=>aI Z)<|aw Z Z Z Z Z (fun w' hw'=>Zf aW Z)<|aw Z Z Z Z Z (fun w' hw'=>Zf eA Z)<|aw Z Z Z Z Z (fun w' hw'=>jG 1 [J (co.clock),J (co.next),J (co.wait),.slice co.A co.txs.length co.cap] ax Z Z ((H.later hw').ent (i:=2) Z) Z)<|aw Z Z Z Z Z (fun w' hw'=>Zf eT Z)<|aw Z Z Z Z Z (fun w' hw'=>aV aj Z (aB ((H.later hw').ent (i:=1) Z) Z))<|g7 vn Z Z Z Z Z (fun w' hw'=>(by have hA:=E6 co m w' (Hp.coM (H.later hw') hco) hcb.ok I;rw[show gZ co.a.txs m=_ from hne,<-hnm]at hA;exact hA)) Z<|aw Z Z Z Z Z (fun w' hw'=>Yu Z)<|aw Z Z Z Z Z (fun w' hw'=>NL Z Z)<|aw Z Z Z Z Z (fun w' hw'=>Xi Z Z)<|aw Z Z Z Z Z (fun w' hw'=>Xa Z Z)<|aw Z Z Z Z Z (fun w' hw'=>Xi Z Z)<|xd fU Z Z Z Z Z (fun w' hw'=>hw'.size) fun b7=>aw Z Z Z Z Z (fun w' hw'=>Wt Z)<|aw Z Z Z Z Z (fun w' hw'=>Wi Z)<|aU ?_
 intro w3 hw' hF
 obtain⟨hF,bq,eq,hge7,hbl7⟩:=hF;cases eq
 obtain⟨hF,-⟩:=hF
 have Hb:=H
 replace H:=H.adoptNew hw' hbl7 hge7
 clear hw' hF
 refine bl H 0 (#[J ((cZ t).epoch),J ((cZ t).pid),J ((cZ t).ver),J ((cZ t).seq),J ((cZ t).kind),.bool ((cZ t).txn),.string ((cZ t).text)]) eM Z Z Z Z Z N N fun w4 H=>G (Wi Z)<|U<|W<|W<|Zr<|G (Yi Z)<|G (bX Z Z (by decide))<|U<|ZF Z<|Zk<|W<|W<|Zr<|G (Yp Z)<|G (Yi Z)<|cd dW (n6 bb ⟨ps,some ⟨gP,0,none⟩,pC,co,clo,chi,gr,glo,ghi,sns,snA,snC⟩ (t.parts.headD 0) _ (H.ent (i:=3) Z)) Z Z ?_
 rintro _ w5 ⟨rfl,hb⟩;replace H:=H.later hb;clear hb
 refine mq 30 Z (fun h30=> ?_) (fun h30=> ?_)
 have hnp:n<ps.length:=by have:=of_decide_eq_true h30;dsimp only at this;omega
 obtain⟨q,hq⟩: ∃ q,ps[n]? =some q:=⟨_,ah hnp⟩
 have hqm:=ae hq
 have hsp:=KY hne0 hpn (p:=q.p.a) (by show(ps.map fun q=>q.p.a)[n]? =_;rw[aM,hq];rfl)
 refine G (dO Z)<|U<|ZF Z<|Zk<|W ?_
 refine eu (τ:=Pa×Nat×Nat×Nat) [8,9,10,33,34,35,36,37,38,39,40,41,42,43,44,45,46] (fun(_,b9,_,_)=>[(9,.pointer (Qd b9)),(10,J (eE q.p.a (cZ t)).2.1),(8,J (eE q.p.a (cZ t)).2.2)]) (fun(p2,b9,lo,hi) w'=>p2.a=(eE q.p.a (cZ t)).1/\Hp w0 w' ((b9,.cells #[J (p2.epoch),J (p2.leader),.slice p2.iA p2.isr.length p2.iC,.slice p2.kA p2.known.length p2.kC,.slice p2.rA p2.reps.length p2.rC,J (p2.few),J (p2.base)] bz (0,0))::(b7,.cells #[J ((cZ t).epoch),J ((cZ t).pid),J ((cZ t).ver),J ((cZ t).seq),J ((cZ t).kind),.bool ((cZ t).txn),.string ((cZ t).text)] dh (0,0))::(b4,.cells #[J (0),J (0),.slice none 0 0] d9 (0,0))::(b3,.cells #[J (a.kind),.string (a.name),J (a.part),J (a.n),J (a.m),.string (a.text),J (a.lost)] f5 (0,0))::(bb,.cells #[.slice (Qd gP) ps.length pC,J (co.clock),J (co.next),J (co.wait),.slice co.A co.txs.length co.cap,J (gr.clock),J (gr.wait),J (gr.gen),.slice gr.mA gr.ms.length gr.mC,.slice gr.oA gr.os.length gr.oC,.slice snA sns.length snC] bK (0,0))::(gP,.cells uP bz (0,0))::(Ls++(Lo++K))) (tk w0 lo hi p2::F)) ?_ ?_
 refine ow bZ 14 9 [9,10,11,12,13,15,16,17] [14] [0,1,2,3,5,6] [14,15,16,17] [9] [0,1,2,3,5,6,10,11,12,13] (sp [(14,Sp.blk w5.heap.size (.agg #[J 0,J 0,.slice none 0 0,.slice none 0 0,.slice none 0 0,J 0,J 0]) bz)]) (sp [(9,Sp.deep w5.heap.size Pz (fun p:Pa=>p.c.toArray) (fun cs=> .tuple #[.agg cs,J (eE q.p.a (cZ t)).2.1,J (eE q.p.a (cZ t)).2.2]) (fun cq:Pa=>cq.a=(eE q.p.a (cZ t)).1))]) N N N N (cI _) (cI _) ?_ ?_
 refine jA [0,1,2,3,4,5,6,7,8,14] [9,10,11,12,13,15,16,17] [14] [0,1,2,3,5,6] 7 (sp [(14,Sp.blk w5.heap.size (.agg #[J 0,J 0,.slice none 0 0,.slice none 0 0,.slice none 0 0,J 0,J 0]) bz)]) N N N Nq<|aw Z Z Z Z Z (fun w' hw'=>Yp Z)<|aw Z Z Z Z Z (fun w' hw'=>aI Z)<|aw Z Z Z Z Z (fun w' hw'=>Zf aW Z)<|aw Z Z Z Z Z (fun w' hw'=>Zf dC Z)<|aw Z Z Z Z Z (fun w' hw'=>aV d4 Z (aB ((H.later hw').ent (i:=3) Z) Z))<|aw Z Z Z Z Z (fun w' hw'=>Yi Z)<|aw Z Z Z Z Z (fun w' hw'=>cC (k:=n) gU Z (congrArg (Value.int .i64) hpn) (by first|omega|(simp only[ab];omega)))<|aw Z Z Z Z Z (fun w' hw'=>oN aG row hq Z Z ((H.later hw').ent (i:=4) Z))<|aw Z Z Z Z Z (fun w' hw'=>iP dB Z ((H.later hw').ent (i:=0) Z) Z)<|xd bo Z Z Z Z Z (fun w' hw'=>hw'.size) fun b9=>aU ?_
 intro w6 hw' hF
 obtain⟨hF,bq,eq,hge9,hbl9⟩:=hF;cases eq
 replace H:=H.adoptNew hw' hbl9 hge9
 clear hw' hF
 refine da 9 N Z<|cd qK (y5 q.p (cZ t) _ (Hp.paM H (hps q hqm)) (hpk q hqm).1 (hpk q hqm).2) Z Z ?_
 rintro _ w7 ⟨p2,rfl,hap2,hnp2⟩;replace H:=H.learn hnp2.2 (tk w0 w6.heap.size w7.heap.size p2) ⟨H.size,hnp2.1⟩ (ao _) (ao _);clear hnp2
 refine U<|bw 10 N N N Z Z Z Z Nq (fun _=>Yu Z)<|bw 11 N N N Z Z Z Z Nq (fun _=>Xa Z Z)<|bw 12 N N N Z Z Z Z Nq (fun _=>Xi Z Z)<|bw 13 N N N Z Z Z Z Nq (fun _=>Xi Z Z)<|da 15 N Z<|bl H 0 (#[J (p2.epoch),J (p2.leader),.slice p2.iA p2.isr.length p2.iC,.slice p2.kA p2.known.length p2.kC,.slice p2.rA p2.reps.length p2.rC,J (p2.few),J (p2.base)]) aL Z Z Z Z Z N N fun w8 H=>U<|bw 16 N N N Z Z Z Z Nq (fun _=>Wi Z)<|bw 17 N N N Z Z Z Z Nq (fun _=>Wi Z)<|cz N ?_
 exact⟨(p2,b9,_,_),⟨hap2,H⟩,NC Z Z Z,Qg⟩
 refine jA [0,1,2,3,4,5,6,7,8,9,10,11,12,13] [14,15,16,17] [9] [0,1,2,3,5,6,10,11,12,13] 3 (sp [(9,Sp.deep w5.heap.size Pz (fun p:Pa=>p.c.toArray) (fun cs=> .tuple #[.agg cs,J (eE q.p.a (cZ t)).2.1,J (eE q.p.a (cZ t)).2.2]) (fun cq:Pa=>cq.a=(eE q.p.a (cZ t)).1))]) N N N Nq<|aw Z Z Z Z Z (fun w' hw'=>Yp Z)<|aw Z Z Z Z Z (fun w' hw'=>aI Z)<|aw Z Z Z Z Z (fun w' hw'=>Zf aW Z)<|aw Z Z Z Z Z (fun w' hw'=>Zf dC Z)<|aw Z Z Z Z Z (fun w' hw'=>aV d4 Z (aB ((H.later hw').ent (i:=3) Z) Z))<|aw Z Z Z Z Z (fun w' hw'=>Yi Z)<|aw Z Z Z Z Z (fun w' hw'=>cC (k:=n) gU Z (congrArg (Value.int .i64) hpn) (by first|omega|(simp only[ab];omega)))<|aw Z Z Z Z Z (fun w' hw'=>oN aG row hq Z Z ((H.later hw').ent (i:=4) Z))<|aw Z Z Z Z Z (fun w' hw'=>iP dB Z ((H.later hw').ent (i:=0) Z) Z)<|sN (gv:=(fun cs=> .tuple #[.agg cs,J (eE q.p.a (cZ t)).2.1,J (eE q.p.a (cZ t)).2.2])) qK Z Z Z Z Z (fun w' hw'=>hw'.size) (fun w' hw'=>y5 q.p (cZ t) w' (Hp.paM (H.later hw') (hps q hqm)) (hpk q hqm).1 (hpk q hqm).2) Z fun cs43=>aw Z Z Z Z Z (fun w' hw'=>Yu Z)<|aw Z Z Z Z Z (fun w' hw'=>Xa Z Z)<|aw Z Z Z Z Z (fun w' hw'=>Xi Z Z)<|aw Z Z Z Z Z (fun w' hw'=>Xi Z Z)<|aU ?_
 intro w9 hw' hF
 obtain⟨hF,p2,eq,hap2,hrd43⟩:=hF;cases eq
 replace H:=H.learn hw' (tk w0 w5.heap.size w9.heap.size p2) ⟨H.size,hrd43⟩ (ao _) (ao _)
 clear hw' hF
 refine da 14 N Z<|eC H bo Z fun w10 b9 H=>U<|da 15 N Z<|bl H 0 (#[J (p2.epoch),J (p2.leader),.slice p2.iA p2.isr.length p2.iC,.slice p2.kA p2.known.length p2.kC,.slice p2.rA p2.reps.length p2.rC,J (p2.few),J (p2.base)]) aL Z Z Z Z Z N N fun w11 H=>U<|bw 16 N N N Z Z Z Z Nq (fun _=>Wi Z)<|bw 17 N N N Z Z Z Z Nq (fun _=>Wi Z)<|cz N ?_
 exact⟨(p2,b9,_,_),⟨hap2,H⟩,NC Z Z Z,Qg⟩
 rintro⟨p2,b9,lo,hi⟩ ρ1 w12 ⟨hap2,H⟩
 show CW _ _ _ _ (dv (gk _ _ ρ1) [(9,.pointer (Qd b9)),(10,J (eE q.p.a (cZ t)).2.1),(8,J (eE q.p.a (cZ t)).2.2)]) w12
 refine W<|W<|Zr<|G (Yi Z) ?_
 refine qU (i6 Z Z) Z Z Z (fun h48=> ?_) (fun h48=> ?_)
 refine U<|ZT Z<|W<|Zr<|G (Yi Z)<|cd bN (dQ (eE q.p.a (cZ t)).2.2 _) Z Z ?_
 rintro _ w13 ⟨rfl,hb⟩;replace H:=H.later hb;clear hb
 refine bl H 2 (#[J ((eE q.p.a (cZ t)).2.2),J (0),.slice none 0 0]) aQ Z Z Z Z Z N N fun w14 H=>U<|Zt ?_
 exact eQ (cs0:= #[J ((eE q.p.a (cZ t)).2.2),J (0),.slice none 0 0]) Z aP Z (H.ent (i:=2) Z) Z ⟨⟨ps,some ⟨gP,0,none⟩,pC,co,clo,chi,gr,glo,ghi,sns,snA,snC⟩,by rw[hsp,if_neg h48];exact oK.plain _ _ _,by rw[hsp,if_neg h48];rfl,Bw.shut (X:=[(b9,_),(b7,_),(b4,_),(b3,_)]) row hsn hown (ak _ hco) (ak _ hgr) (fun q hq=>ak _ (hps q hq)) (fun f hf=>ak _ hf) H Z⟩
 refine U<|ZF Z<|Zk<|W ?_
 refine bD bZ [0,1,2,3,4,5,6,7] [8] [] [0,1,2,3,5,7] (sp []) N N N N Nq (cI _) ?_
 refine aw Z Z Z Z Z (fun w' hw'=>Yp Z)<|aw Z Z Z Z Z (fun w' hw'=>aI Z)<|aw Z Z Z Z Z (fun w' hw'=>Zf aW Z)<|aw Z Z Z Z Z (fun w' hw'=>Zf dC Z)<|aw Z Z Z Z Z (fun w' hw'=>aV d4 Z (aB ((H.later hw').ent (i:=4) Z) Z))<|aw Z Z Z Z Z (fun w' hw'=>Yi Z)<|aw Z Z Z Z Z (fun w' hw'=>iP aG Z ((H.later hw').ent (i:=0) Z) Z)<|aw Z Z Z Z Z (fun w' hw'=>cC (k:=n) gU Z (congrArg (Value.int .i64) hpn) (by first|omega|(simp only[ab];omega)))<|aU ?_
 intro w15 hw' hF
 replace H:=H.later hw';clear hw' hF
 refine kQ H 5 (⟨p2,lo,hi⟩) aL row hq 0 Z Z Z Z Z Z N fun w17 cur16 row16 H=> ?_
 have hs18:(ps.set n (⟨p2,lo,hi⟩))[n]? =some (⟨p2,lo,hi⟩):=am (cD hq).1
 refine U<|W<|Zr<|G (Yp Z)<|G (Yp Z)<|G (aI Z)<|G (Zf aW Z)<|G (Zf eA Z)<|G (jG 1 [J (co.clock),J (co.next),J (co.wait),.slice co.A co.txs.length co.cap] ax Z Z (H.ent (i:=4) Z) Z)<|G (Yt Z)<|G (Yi Z)<|cd B2 (Jy co t.name (t.parts.headD 0) k ti t _ (Hp.coM H (ak _ hco)) hcb hnmt hf h34 hpt) Z Z ?_
 rintro _ w19 ⟨c4,rfl,hac4,hnc4⟩;replace H:=H.learn hnc4.2 (xi w0 w17.heap.size w19.heap.size c4) ⟨H.size,hnc4.1⟩ (ao _) (ao _);clear hnc4
 refine G (Yu Z)<|G (Xa Z Z)<|G (Xi Z Z)<|G (aI Z)<|G (Zf aW Z)<|G (Zf eA Z)<|bl H 4 (#[.slice (Qd gP) ps.length pC,J (c4.clock),J (c4.next),J (c4.wait),.slice c4.A c4.txs.length c4.cap,J (gr.clock),J (gr.wait),J (gr.gen),.slice gr.mA gr.ms.length gr.mC,.slice gr.oA gr.os.length gr.oC,.slice snA sns.length snC]) aF Z Z Z Z Z N N fun w20 H=>U<|W<|Zr<|G (Yi Z)<|G (bj (cs:= #[J (0),J ((eE q.p.a (cZ t)).2.1),.slice none 0 0]) iF dn N)<|bl H 2 (#[J (0),J ((eE q.p.a (cZ t)).2.1),.slice none 0 0]) aQ Z Z Z Z Z N N fun w21 H=>U<|Zt ?_
 have hz:(eE q.p.a (cZ t)).2.2=0:=by simpa using h48
 exact eQ (cs0:= #[J (0),J ((eE q.p.a (cZ t)).2.1),.slice none 0 0]) Z aP Z (H.ent (i:=2) Z) Z ⟨⟨ps.set n ⟨p2,lo,hi⟩,some ⟨gP,0,none⟩,pC,c4,w17.heap.size,w19.heap.size,gr,glo,ghi,sns,snA,snC⟩,by rw[hsp,if_pos hz];exact oK.plain _ _ _,by rw[hsp,if_pos hz];unfold Bk.a;simp only[cy,hap2,hac4],Bw.shut (X:=[(b9,_),(b7,_),(b4,_),(b3,_)]) row16 hsn hown (aA ..) (ak _ (ak _ hgr)) (fun y hy=>by rcases zR hy with hy|hy;exact ak _ (ak _ (hps y hy));rw[hy];exact ak _ (aA ..)) (fun f hf=>ak _ (ak _ hf)) H (by simp only[Bk.c,ab])⟩
 refine G (dO Z)<|U<|ZT Z<|W<|Zr<|cd bN (dQ 5 _) Z Z ?_
 rintro _ w22 ⟨rfl,hb⟩;replace H:=H.later hb;clear hb
 refine bl H 1 (#[J (5),J (0),.slice none 0 0]) aQ Z Z Z Z Z N N fun w23 H=>U<|Zt ?_
 exact eQ (cs0:= #[J (5),J (0),.slice none 0 0]) Z aP Z (H.ent (i:=1) Z) Z ⟨⟨ps,some ⟨gP,0,none⟩,pC,co,clo,chi,gr,glo,ghi,sns,snA,snC⟩,by rw[hout h30];exact oK.plain _ _ _,by rw[hout h30];rfl,Bw.shut (X:=[(b7,_),(b4,_),(b3,_)]) row hsn hown hco hgr hps (fun _ h=>h) H Z⟩
theorem Kc (b:Bk) (a:Act):ye b.a a=({b.a with co:=(jc b.co.a a.n).1,gr:=pN b.gr.a a.n b.ps.length},⟨0,(jc b.co.a a.n).1.clock,[]⟩):=by
 unfold ye
 rw[show b.a.ps.length=b.ps.length by show(b.ps.map _).length=_;rw[bC]]
 rfl
theorem Ka {w0 w:World} {bb:Nat} {b:Bk} {gP:Nat} {uP:Array Value} {Ls Lo K:List (Nat×Obj)} {F:List ci} (a:Act) (B:Bw w0 w bb b gP uP Ls Lo K F) {k np:Nat} {wt:Int} (hcb:oJ k b.co) (hk:k<=1000) (hn:0<=a.n/\a.n<=1000) (hgi:qP (fun _=>True) wt np k b.gr) (hp4:b.ps.length<=4):dd aa og [.pointer (Qd bb),a.v] w fun v w2=> ∃ b':Bk,oK (ye b.a a).2 v w2/\b'.a=(ye b.a a).1/\xj w0 w2 bb b' K F:=by
 refine aE td Z Z ?_
 have hsp:=Kc b a
 obtain⟨ps,pA,pC,co,clo,chi,gr,glo,ghi,sns,snA,snC⟩:=b
 obtain⟨hpA,row,hsn,hown,hco,hgr,hps,H⟩:=B
 dsimp only at hpA row hsn hown hco hgr hps
 subst hpA
 replace H:Hp w0 w ((bb,.cells #[.slice (Qd gP) ps.length pC,J (co.clock),J (co.next),J (co.wait),.slice co.A co.txs.length co.cap,J (gr.clock),J (gr.wait),J (gr.gen),.slice gr.mA gr.ms.length gr.mC,.slice gr.oA gr.os.length gr.oC,.slice snA sns.length snC] bK (0,0))::(gP,.cells uP bz (0,0))::(Ls++(Lo++K))) F:=H
 dsimp only at hcb hgi hp4 hsp
 have h2z:(jc co.a a.n).2=0:=by unfold jc;rw[if_neg I]
 show CW _ _ _ _ (args [.pointer (Qd bb),.agg #[J (a.kind),.string (a.name),J (a.part),J (a.n),J (a.m),.string (a.text),J (a.lost)]]) w
 refine W<|Zr<|fS H Z Z fun w1 b3 H=>eC H dn Z fun w2 b4 H=>U<|W ?_
 refine eu (τ:=Co×Nat×Nat×Nat) [5,6,8,9,10,11,12,13,14,15,16,17,18] (fun(_,b5,_,_)=>[(5,.pointer (Qd b5)),(6,J (jc co.a a.n).2)]) (fun(c3,b5,lo,hi) w'=>c3.a=(jc co.a a.n).1/\Hp w0 w' ((b5,.cells #[J (c3.clock),J (c3.next),J (c3.wait),.slice c3.A c3.txs.length c3.cap] bf (0,0))::(b4,.cells #[J (0),J (0),.slice none 0 0] d9 (0,0))::(b3,.cells #[J (a.kind),.string (a.name),J (a.part),J (a.n),J (a.m),.string (a.text),J (a.lost)] f5 (0,0))::(bb,.cells #[.slice (Qd gP) ps.length pC,J (co.clock),J (co.next),J (co.wait),.slice co.A co.txs.length co.cap,J (gr.clock),J (gr.wait),J (gr.gen),.slice gr.mA gr.ms.length gr.mC,.slice gr.oA gr.os.length gr.oC,.slice snA sns.length snC] bK (0,0))::(gP,.cells uP bz (0,0))::(Ls++(Lo++K))) (xi w0 lo hi c3::F)) ?_ ?_
 refine ow bZ 11 7 [7,8,9,10,12,13] [11] [0,1,2,3,5] [11,12,13] [7] [0,1,2,3,5,8,9,10] (sp [(11,Sp.blk w2.heap.size (.agg #[J 0,J 0,J 0,.slice none 0 0]) bf)]) (sp [(7,Sp.deep w2.heap.size Ml (fun c:Co=>c.c.toArray) (fun cs=> .tuple #[.agg cs,J (jc co.a a.n).2]) (fun cq:Co=>cq.a=(jc co.a a.n).1))]) N N N N (cI _) (cI _) ?_ ?_
 refine jA [0,1,2,3,4,5,6,11] [7,8,9,10,12,13] [11] [0,1,2,3,5] 5 (sp [(11,Sp.blk w2.heap.size (.agg #[J 0,J 0,J 0,.slice none 0 0]) bf)]) N N N Nq<|aw Z Z Z Z Z (fun w' hw'=>Yp Z)<|aw Z Z Z Z Z (fun w' hw'=>aI Z)<|aw Z Z Z Z Z (fun w' hw'=>Zf aW Z)<|aw Z Z Z Z Z (fun w' hw'=>Zf eA Z)<|aw Z Z Z Z Z (fun w' hw'=>jG 1 [J (co.clock),J (co.next),J (co.wait),.slice co.A co.txs.length co.cap] ax Z Z ((H.later hw').ent (i:=2) Z) Z)<|aw Z Z Z Z Z (fun w' hw'=>Zf eT Z)<|aw Z Z Z Z Z (fun w' hw'=>aV aj Z (aB ((H.later hw').ent (i:=1) Z) Z))<|xd cK Z Z Z Z Z (fun w' hw'=>hw'.size) fun b5=>aU ?_
 intro w3 hw' hF
 obtain⟨hF,bq,eq,hge5,hbl5⟩:=hF;cases eq
 replace H:=H.adoptNew hw' hbl5 hge5
 clear hw' hF
 refine da 7 N Z<|cd vm (Cg co a.n k _ (Hp.coM H hco) hcb hk hn.1) Z Z ?_
 rintro _ w4 ⟨c3,rfl,hac3,hnc3⟩;replace H:=H.learn hnc3.2 (xi w0 w3.heap.size w4.heap.size c3) ⟨H.size,hnc3.1⟩ (ao _) (ao _);clear hnc3
 refine U<|bw 8 N N N Z Z Z Z Nq (fun _=>Yu Z)<|bw 9 N N N Z Z Z Z Nq (fun _=>Xa Z Z)<|bw 10 N N N Z Z Z Z Nq (fun _=>Xi Z Z)<|da 12 N Z<|bl H 0 (#[J (c3.clock),J (c3.next),J (c3.wait),.slice c3.A c3.txs.length c3.cap]) aF Z Z Z Z Z N N fun w5 H=>U<|bw 13 N N N Z Z Z Z Nq (fun _=>Wi Z)<|cz N ?_
 exact⟨(c3,b5,_,_),⟨hac3,H⟩,kZ Z Z,Qg⟩
 refine jA [0,1,2,3,4,5,6,7,8,9,10] [11,12,13] [7] [0,1,2,3,5,8,9,10] 2 (sp [(7,Sp.deep w2.heap.size Ml (fun c:Co=>c.c.toArray) (fun cs=> .tuple #[.agg cs,J (jc co.a a.n).2]) (fun cq:Co=>cq.a=(jc co.a a.n).1))]) N N N Nq<|aw Z Z Z Z Z (fun w' hw'=>Yp Z)<|aw Z Z Z Z Z (fun w' hw'=>aI Z)<|aw Z Z Z Z Z (fun w' hw'=>Zf aW Z)<|aw Z Z Z Z Z (fun w' hw'=>Zf eA Z)<|aw Z Z Z Z Z (fun w' hw'=>jG 1 [J (co.clock),J (co.next),J (co.wait),.slice co.A co.txs.length co.cap] ax Z Z ((H.later hw').ent (i:=2) Z) Z)<|aw Z Z Z Z Z (fun w' hw'=>Zf eT Z)<|aw Z Z Z Z Z (fun w' hw'=>aV aj Z (aB ((H.later hw').ent (i:=1) Z) Z))<|sN (gv:=(fun cs=> .tuple #[.agg cs,J (jc co.a a.n).2])) vm Z Z Z Z Z (fun w' hw'=>hw'.size) (fun w' hw'=>Cg co a.n k w' (Hp.coM (H.later hw') hco) hcb hk hn.1) Z fun cs16=>aw Z Z Z Z Z (fun w' hw'=>Yu Z)<|aw Z Z Z Z Z (fun w' hw'=>Xa Z Z)<|aw Z Z Z Z Z (fun w' hw'=>Xi Z Z)<|aU ?_
 intro w6 hw' hF
 obtain⟨hF,c3,eq,hac3,hrd16⟩:=hF;cases eq
 replace H:=H.learn hw' (xi w0 w2.heap.size w6.heap.size c3) ⟨H.size,hrd16⟩ (ao _) (ao _)
 clear hw' hF
 refine da 11 N Z<|eC H cK Z fun w7 b5 H=>U<|da 12 N Z<|bl H 0 (#[J (c3.clock),J (c3.next),J (c3.wait),.slice c3.A c3.txs.length c3.cap]) aF Z Z Z Z Z N N fun w8 H=>U<|bw 13 N N N Z Z Z Z Nq (fun _=>Wi Z)<|cz N ?_
 exact⟨(c3,b5,_,_),⟨hac3,H⟩,kZ Z Z,Qg⟩
 rintro⟨c3,b5,lo,hi⟩ ρ1 w9 ⟨hac3,H⟩
 show CW _ _ _ _ (dv (gk _ _ ρ1) [(5,.pointer (Qd b5)),(6,J (jc co.a a.n).2)]) w9
 refine W<|W<|Zr<|G (Yi Z)<|G (bX Z Z I)<|U<|ZF Z<|Zk<|W ?_
 refine eu (τ:=Gr×Nat×Nat×Nat) [6,7,23,24,25,26,27,28,29,30,31,32,33,34,35,36,37,38,39] (fun(_,b7,_,_)=>[(7,.pointer (Qd b7)),(6,J 0)]) (fun(g3,b7,lo2,hi2) w'=>g3.a=((pN gr.a a.n ps.length,(0:Int))).1/\Hp w0 w' ((b7,.cells #[J (g3.clock),J (g3.wait),J (g3.gen),.slice g3.mA g3.ms.length g3.mC,.slice g3.oA g3.os.length g3.oC] cM (0,0))::(b5,.cells #[J (c3.clock),J (c3.next),J (c3.wait),.slice c3.A c3.txs.length c3.cap] bf (0,0))::(b4,.cells #[J (0),J (0),.slice none 0 0] d9 (0,0))::(b3,.cells #[J (a.kind),.string (a.name),J (a.part),J (a.n),J (a.m),.string (a.text),J (a.lost)] f5 (0,0))::(bb,.cells #[.slice (Qd gP) ps.length pC,J (co.clock),J (co.next),J (co.wait),.slice co.A co.txs.length co.cap,J (gr.clock),J (gr.wait),J (gr.gen),.slice gr.mA gr.ms.length gr.mC,.slice gr.oA gr.os.length gr.oC,.slice snA sns.length snC] bK (0,0))::(gP,.cells uP bz (0,0))::(Ls++(Lo++K))) (JS w0 lo2 hi2 g3::xi w0 lo hi c3::F)) ?_ ?_
 refine ow bZ 17 13 [13,14,15,16,18,19] [17] [0,1,2,3,5,7,8,9,10,12] [17,18,19] [13] [0,1,2,3,5,7,8,9,10,12,14,15,16] (sp [(17,Sp.blk w9.heap.size (.agg #[J 0,J 0,J 0,.slice none 0 0,.slice none 0 0]) cM)]) (sp [(13,Sp.deep w9.heap.size PU (fun g:Gr=>g.c.toArray) (fun cs=> .tuple #[.agg cs,J ((pN gr.a a.n ps.length,(0:Int))).2]) (fun cq:Gr=>cq.a=((pN gr.a a.n ps.length,(0:Int))).1))]) N N N N (cI _) (cI _) ?_ ?_
 refine jA [0,1,2,3,4,5,6,7,8,9,10,11,12,17] [13,14,15,16,18,19] [17] [0,1,2,3,5,7,8,9,10,12] 5 (sp [(17,Sp.blk w9.heap.size (.agg #[J 0,J 0,J 0,.slice none 0 0,.slice none 0 0]) cM)]) N N N Nq<|aw Z Z Z Z Z (fun w' hw'=>Yp Z)<|aw Z Z Z Z Z (fun w' hw'=>aI Z)<|aw Z Z Z Z Z (fun w' hw'=>Zf aW Z)<|aw Z Z Z Z Z (fun w' hw'=>Zf jy Z)<|aw Z Z Z Z Z (fun w' hw'=>jG 5 [J (gr.clock),J (gr.wait),J (gr.gen),.slice gr.mA gr.ms.length gr.mC,.slice gr.oA gr.os.length gr.oC] aR Z Z ((H.later hw').ent (i:=3) Z) Z)<|aw Z Z Z Z Z (fun w' hw'=>Zf eT Z)<|aw Z Z Z Z Z (fun w' hw'=>aV aj Z (aB ((H.later hw').ent (i:=2) Z) Z))<|aw Z Z Z Z Z (fun w' hw'=>Yp Z)<|aw Z Z Z Z Z (fun w' hw'=>aI Z)<|aw Z Z Z Z Z (fun w' hw'=>Zf aW Z)<|aw Z Z Z Z Z (fun w' hw'=>Zf dC Z)<|aw Z Z Z Z Z (fun w' hw'=>aV d4 Z (aB ((H.later hw').ent (i:=3) Z) Z))<|aw Z Z Z Z Z (fun w' hw'=>bn kG Z)<|xd dZ Z Z Z Z Z (fun w' hw'=>hw'.size) fun b7=>aU ?_
 intro w10 hw' hF
 obtain⟨hF,bq,eq,hge7,hbl7⟩:=hF;cases eq
 replace H:=H.adoptNew hw' hbl7 hge7
 clear hw' hF
 refine da 13 N Z<|cd vk (Fw gr a.n ps.length _ (Hp.grM H (ak _ hgr)) hgi.ok hp4 (by have:=hgi.gen;omega) hn.1 hn.2 (by have:=hgi.clock;omega)) Z Z ?_
 rintro _ w11 ⟨g3,rfl,hag3,hng3⟩;replace H:=H.learn hng3.2 (JS w0 w10.heap.size w11.heap.size g3) ⟨H.size,hng3.1⟩ (ao _) (ao _);clear hng3
 refine U<|bw 14 N N N Z Z Z Z Nq (fun _=>Yu Z)<|bw 15 N N N Z Z Z Z Nq (fun _=>Xa Z Z)<|bw 16 N N N Z Z Z Z Nq (fun _=>Xi Z Z)<|da 18 N Z<|bl H 0 (#[J (g3.clock),J (g3.wait),J (g3.gen),.slice g3.mA g3.ms.length g3.mC,.slice g3.oA g3.os.length g3.oC]) bF Z Z Z Z Z N N fun w12 H=>U<|bw 19 N N N Z Z Z Z Nq (fun _=>Wi Z)<|cz N ?_
 exact⟨(g3,b7,_,_),⟨hag3,H⟩,kZ Z Z,Qg⟩
 refine jA [0,1,2,3,4,5,6,7,8,9,10,11,12,13,14,15,16] [17,18,19] [13] [0,1,2,3,5,7,8,9,10,12,14,15,16] 2 (sp [(13,Sp.deep w9.heap.size PU (fun g:Gr=>g.c.toArray) (fun cs=> .tuple #[.agg cs,J ((pN gr.a a.n ps.length,(0:Int))).2]) (fun cq:Gr=>cq.a=((pN gr.a a.n ps.length,(0:Int))).1))]) N N N Nq<|aw Z Z Z Z Z (fun w' hw'=>Yp Z)<|aw Z Z Z Z Z (fun w' hw'=>aI Z)<|aw Z Z Z Z Z (fun w' hw'=>Zf aW Z)<|aw Z Z Z Z Z (fun w' hw'=>Zf jy Z)<|aw Z Z Z Z Z (fun w' hw'=>jG 5 [J (gr.clock),J (gr.wait),J (gr.gen),.slice gr.mA gr.ms.length gr.mC,.slice gr.oA gr.os.length gr.oC] aR Z Z ((H.later hw').ent (i:=3) Z) Z)<|aw Z Z Z Z Z (fun w' hw'=>Zf eT Z)<|aw Z Z Z Z Z (fun w' hw'=>aV aj Z (aB ((H.later hw').ent (i:=2) Z) Z))<|aw Z Z Z Z Z (fun w' hw'=>Yp Z)<|aw Z Z Z Z Z (fun w' hw'=>aI Z)<|aw Z Z Z Z Z (fun w' hw'=>Zf aW Z)<|aw Z Z Z Z Z (fun w' hw'=>Zf dC Z)<|aw Z Z Z Z Z (fun w' hw'=>aV d4 Z (aB ((H.later hw').ent (i:=3) Z) Z))<|aw Z Z Z Z Z (fun w' hw'=>bn kG Z)<|sN (gv:=(fun cs=> .tuple #[.agg cs,J ((pN gr.a a.n ps.length,(0:Int))).2])) vk Z Z Z Z Z (fun w' hw'=>hw'.size) (fun w' hw'=>Fw gr a.n ps.length w' (Hp.grM (H.later hw') (ak _ hgr)) hgi.ok hp4 (by have:=hgi.gen;omega) hn.1 hn.2 (by have:=hgi.clock;omega)) Z fun cs37=>aw Z Z Z Z Z (fun w' hw'=>Yu Z)<|aw Z Z Z Z Z (fun w' hw'=>Xa Z Z)<|aw Z Z Z Z Z (fun w' hw'=>Xi Z Z)<|aU ?_
 intro w13 hw' hF
 obtain⟨hF,g3,eq,hag3,hrd37⟩:=hF;cases eq
 replace H:=H.learn hw' (JS w0 w9.heap.size w13.heap.size g3) ⟨H.size,hrd37⟩ (ao _) (ao _)
 clear hw' hF
 refine da 17 N Z<|eC H dZ Z fun w14 b7 H=>U<|da 18 N Z<|bl H 0 (#[J (g3.clock),J (g3.wait),J (g3.gen),.slice g3.mA g3.ms.length g3.mC,.slice g3.oA g3.os.length g3.oC]) bF Z Z Z Z Z N N fun w15 H=>U<|bw 19 N N N Z Z Z Z Nq (fun _=>Wi Z)<|cz N ?_
 exact⟨(g3,b7,_,_),⟨hag3,H⟩,kZ Z Z,Qg⟩
 rintro⟨g3,b7,lo2,hi2⟩ ρ1 w16 ⟨hag3,H⟩
 show CW _ _ _ _ (dv (gk _ _ ρ1) [(7,.pointer (Qd b7)),(6,J 0)]) w16
 refine W<|W<|Zr<|G (Yi Z)<|G (bX Z Z (by decide))<|U<|ZF Z<|Zk<|W ?_
 refine mF bZ (fun w'=>w'.heap[b5]? =some (.cells #[J (c3.clock),J (c3.next),J (c3.wait),.slice c3.A c3.txs.length c3.cap] bf (0,0))/\w'.heap[b7]? =some (.cells #[J (g3.clock),J (g3.wait),J (g3.gen),.slice g3.mA g3.ms.length g3.mC,.slice g3.oA g3.os.length g3.oC] cM (0,0))) ?_
 intro w17 hw';replace H:=H.later hw';clear hw'
 refine aN 0 N N N Z Z Z Z Nq ⟨H.ent (i:=1) Z,H.ent (i:=0) Z⟩ (fun _ hS=>Yp Z)<|aN 1 N N N Z Z Z Z Nq ⟨H.ent (i:=1) Z,H.ent (i:=0) Z⟩ (fun _ hS=>Yp Z)<|aN 2 N N N Z Z Z Z Nq ⟨H.ent (i:=1) Z,H.ent (i:=0) Z⟩ (fun _ hS=>iP ax Z hS.1 Z)<|aN 3 N N N Z Z Z Z Nq ⟨H.ent (i:=1) Z,H.ent (i:=0) Z⟩ (fun _ hS=>iP aR Z hS.2 Z)<|aN 4 N N N Z Z Z Z Nq ⟨H.ent (i:=1) Z,H.ent (i:=0) Z⟩ (fun _ hS=>aI Z)<|aN 5 N N N Z Z Z Z Nq ⟨H.ent (i:=1) Z,H.ent (i:=0) Z⟩ (fun _ hS=>Zf aW Z)<|aN 6 N N N Z Z Z Z Nq ⟨H.ent (i:=1) Z,H.ent (i:=0) Z⟩ (fun _ hS=>Zf eA Z)<|r5 7 N Z<|bl H 4 (#[.slice (Qd gP) ps.length pC,J (c3.clock),J (c3.next),J (c3.wait),.slice c3.A c3.txs.length c3.cap,J (gr.clock),J (gr.wait),J (gr.gen),.slice gr.mA gr.ms.length gr.mC,.slice gr.oA gr.os.length gr.oC,.slice snA sns.length snC]) aF Z Z Z Z Z N N fun w18 H=>U ?_
 refine⟨⟨H.ent (i:=1) Z,H.ent (i:=0) Z⟩,?_⟩
 refine aN 8 N N N Z Z Z Z Nq ⟨H.ent (i:=1) Z,H.ent (i:=0) Z⟩ (fun _ hS=>aI Z)<|aN 9 N N N Z Z Z Z Nq ⟨H.ent (i:=1) Z,H.ent (i:=0) Z⟩ (fun _ hS=>Zf aW Z)<|aN 10 N N N Z Z Z Z Nq ⟨H.ent (i:=1) Z,H.ent (i:=0) Z⟩ (fun _ hS=>Zf jy Z)<|r5 11 N Z<|bl H 4 (#[.slice (Qd gP) ps.length pC,J (c3.clock),J (c3.next),J (c3.wait),.slice c3.A c3.txs.length c3.cap,J (g3.clock),J (g3.wait),J (g3.gen),.slice g3.mA g3.ms.length g3.mC,.slice g3.oA g3.os.length g3.oC,.slice snA sns.length snC]) bF Z Z Z Z Z N N fun w19 H=>U ?_
 refine⟨⟨H.ent (i:=1) Z,H.ent (i:=0) Z⟩,?_⟩
 refine jP N<|W<|Zr<|G (Zf km Z)<|G (Zd aj H 1 Z Z Z)<|G (bj (cs:= #[J (0),J (c3.clock),.slice none 0 0]) iF dn N)<|bl H 2 (#[J (0),J (c3.clock),.slice none 0 0]) aQ Z Z Z Z Z N N fun w20 H=>U<|Zt ?_
 have hck:c3.clock=(jc co.a a.n).1.clock:=by rw[<-hac3];rfl
 exact eQ (cs0:= #[J (0),J (c3.clock),.slice none 0 0]) Z aP Z (H.ent (i:=2) Z) Z ⟨⟨ps,some ⟨gP,0,none⟩,pC,c3,lo,hi,g3,lo2,hi2,sns,snA,snC⟩,by rw[hsp,<-hck];exact oK.plain _ _ _,by rw[hsp,<-hac3];unfold Bk.a;rw[hag3],Bw.shut (X:=[(b7,_),(b5,_),(b4,_),(b3,_)]) row hsn hown (ak _ (aA ..)) (aA ..) (fun q hq=>ak _ (ak _ (hps q hq))) (fun f hf=>ak _ (ak _ hf)) H Z⟩
theorem Kx {w:Wa} {a:Act} {p:gD} (hp:w.ps[a.part.toNat]? =some p):uZ w a=if(lJ p a).2.2=0 then({w with ps:=w.ps.set a.part.toNat (lJ p a).1},⟨0,(lJ p a).2.1,[]⟩)else lZ w (lJ p a).2.2:=by
 unfold uZ
 rw[hp]
theorem Kw {w0 w:World} {bb:Nat} {b:Bk} {gP:Nat} {uP:Array Value} {Ls Lo K:List (Nat×Obj)} {F:List ci} (a:Act) (B:Bw w0 w bb b gP uP Ls Lo K F) (hpn:0<=a.part/\a.part<b.ps.length) (hn:0<=a.n/\ ∀ q∈b.ps,a.n<q.p.reps.length) (hm:0<=a.m/\a.m<=1000) (hpk: ∀ q∈b.ps,q.p.a.ok):dd aa lg [.pointer (Qd bb),a.v] w fun v w2=> ∃ b':Bk,oK (uZ b.a a).2 v w2/\b'.a=(uZ b.a a).1/\xj w0 w2 bb b' K F:=by
 refine aE qv Z Z ?_
 obtain⟨n,hna⟩: ∃ n:Nat,a.part=(n:Int):=⟨a.part.toNat,by omega⟩
 have htn:a.part.toNat=n:=by omega
 obtain⟨r,hnr⟩: ∃ r:Nat,a.n=(r:Int):=⟨a.n.toNat,by omega⟩
 have htr:a.n.toNat=r:=by omega
 obtain⟨mm,hmm⟩: ∃ r:Nat,a.m=(r:Int):=⟨a.m.toNat,by omega⟩
 have htm:a.m.toNat=mm:=by omega
 obtain⟨q,hq⟩: ∃ q,b.ps[n]? =some q:=⟨_,ah I⟩
 have hqm:=ae hq
 have hok:=hpk q hqm
 have hr:r<q.p.reps.length:=by have:=hn.2 q hqm;omega
 have hsp:=Kx (w:=b.a) (a:=a) (p:=q.p.a) (by rw[htn];show(b.ps.map fun q=>q.p.a)[n]? =_;rw[aM,hq];rfl)
 obtain⟨z,hz⟩: ∃ z,lJ q.p.a a=z:=⟨_,rfl⟩
 obtain⟨ps,pA,pC,co,clo,chi,gr,glo,ghi,sns,snA,snC⟩:=b
 obtain⟨hpA,row,hsn,hown,hco,hgr,hps,H⟩:=B
 dsimp only at hpA row hsn hown hco hgr hps
 subst hpA
 replace H:Hp w0 w ((bb,.cells #[.slice (Qd gP) ps.length pC,J (co.clock),J (co.next),J (co.wait),.slice co.A co.txs.length co.cap,J (gr.clock),J (gr.wait),J (gr.gen),.slice gr.mA gr.ms.length gr.mC,.slice gr.oA gr.os.length gr.oC,.slice snA sns.length snC] bK (0,0))::(gP,.cells uP bz (0,0))::(Ls++(Lo++K))) F:=H
 dsimp only at hpn hq hqm
 show CW _ _ _ _ (args [.pointer (Qd bb),.agg #[J (a.kind),.string (a.name),J (a.part),J (a.n),J (a.m),.string (a.text),J (a.lost)]]) w
 refine W<|Zr<|fS H Z Z fun w1 b3 H=>eC H dn Z fun w2 b4 H=>U<|W<|W<|Zr<|G (Yp Z)<|G (Zf dS Z)<|G (Zd aj H 1 Z Z Z)<|cd dW (n6 bb ⟨ps,some ⟨gP,0,none⟩,pC,co,clo,chi,gr,glo,ghi,sns,snA,snC⟩ a.part _ (H.ent (i:=2) Z)) Z Z ?_
 rintro _ w3 ⟨rfl,hb⟩;replace H:=H.later hb;clear hb
 rw[decide_eq_true hpn]
 refine G (dO Z)<|U<|ZF Z<|Zk<|W ?_
 refine bD bZ [0,1,2,3,4,5,6,7,8,9] [10] [9] [0,1,2,3,5,7] (sp [(9,Sp.blk w3.heap.size (.agg #[J 0,J 0,.slice none 0 0,.slice none 0 0,.slice none 0 0,J 0,J 0]) bz)]) N N N N Nq (cI _) ?_
 refine aw Z Z Z Z Z (fun w' hw'=>Yp Z)<|aw Z Z Z Z Z (fun w' hw'=>aI Z)<|aw Z Z Z Z Z (fun w' hw'=>Zf aW Z)<|aw Z Z Z Z Z (fun w' hw'=>Zf dC Z)<|aw Z Z Z Z Z (fun w' hw'=>aV d4 Z (aB ((H.later hw').ent (i:=2) Z) Z))<|aw Z Z Z Z Z (fun w' hw'=>Zf dS Z)<|aw Z Z Z Z Z (fun w' hw'=>aV aj Z (aB ((H.later hw').ent (i:=1) Z) Z))<|aw Z Z Z Z Z (fun w' hw'=>cC (k:=n) gU Z (congrArg (Value.int .i64) hna) (by first|omega|(simp only[ab];omega)))<|aw Z Z Z Z Z (fun w' hw'=>oN aG row hq Z Z ((H.later hw').ent (i:=3) Z))<|xd bo Z Z Z Z Z (fun w' hw'=>hw'.size) fun b5=>aU ?_
 intro w4 hw' hF
 obtain⟨hF,bq,eq,hge5,hbl5⟩:=hF;cases eq
 have Hb:=H
 replace H:=H.adoptNew hw' hbl5 hge5
 clear hw' hF
 refine bl H 0 (#[J (q.p.epoch),J (q.p.leader),.slice q.p.iA q.p.isr.length q.p.iC,.slice q.p.kA q.p.known.length q.p.kC,.slice q.p.rA q.p.reps.length q.p.rC,J (q.p.few),J (q.p.base)]) aL Z Z Z Z Z N N fun w5 H=>U<|W<|Zr<|G (Wi Z)<|U<|W<|Zr<|G (Wi Z)<|U<|W<|W<|Zr<|G (Zf mE Z)<|G (Zd aj H 2 Z Z Z)<|U ?_
 refine eu (τ:=Pa×Nat×Nat) [6,7,25,26,27,28,29,30,31,32,33,34,35,36,37,38,39,40,41,42,43,44,45,46,47,48,49,50,51,52,53,54,55,56,57,58,59,60,61,62,63,64,65,66,67,68,69,70,71,72,73,74,75,76,77,78,79,80,81,82,83,84,85,86,87,88,89,90,91,92,93,94,95,96,97] (fun _=>[(6,J z.2.1),(7,J z.2.2)]) (fun(p2,lo,hi) w'=>p2.a=z.1/\Hp w0 w' ((b5,.cells #[J (p2.epoch),J (p2.leader),.slice p2.iA p2.isr.length p2.iC,.slice p2.kA p2.known.length p2.kC,.slice p2.rA p2.reps.length p2.rC,J (p2.few),J (p2.base)] bz (0,0))::(b4,.cells #[J (0),J (0),.slice none 0 0] d9 (0,0))::(b3,.cells #[J (a.kind),.string (a.name),J (a.part),J (a.n),J (a.m),.string (a.text),J (a.lost)] f5 (0,0))::(bb,.cells #[.slice (Qd gP) ps.length pC,J (co.clock),J (co.next),J (co.wait),.slice co.A co.txs.length co.cap,J (gr.clock),J (gr.wait),J (gr.gen),.slice gr.mA gr.ms.length gr.mC,.slice gr.oA gr.os.length gr.oC,.slice snA sns.length snC] bK (0,0))::(gP,.cells uP bz (0,0))::(Ls++(Lo++K))) (tk w0 lo hi p2::F)) ?_ ?_
 refine Zb<|W<|Zr ?_
 refine cR (bh Z Z) Z Z Z (fun h33=> ?_) (fun h33=> ?_)
 refine G (Wb Z)<|U<|ZT Z<|Zr<|G (Zw aG H 0 Z Z Z)<|G (Zf eT Z)<|G (Zd aj H 2 Z Z Z)<|cd BX ((by have hA:=IY q.p r _ (Hp.paM H (hps q hqm)) hok hr;rw[<-hnr]at hA;exact hA)) Z Z ?_
 rintro _ w6 ⟨p2,rfl,hap2,hnp2⟩;replace H:=H.learn hnp2.2 (tk w0 w5.heap.size w6.heap.size p2) ⟨H.size,hnp2.1⟩ (ao _) (ao _);clear hnp2
 refine G (Yu Z)<|G (Xa Z Z)<|G (Xi Z Z)<|G (Xi Z Z)<|bl H 0 (#[J (p2.epoch),J (p2.leader),.slice p2.iA p2.isr.length p2.iC,.slice p2.kA p2.known.length p2.kC,.slice p2.rA p2.reps.length p2.rC,J (p2.few),J (p2.base)]) aL Z Z Z Z Z N N fun w7 H=>G (Wi Z)<|G (Wi Z)<|U ?_
 obtain rfl:z=iX q.p.a r:=by rw[<-hz];unfold lJ;rw[if_pos h33,htr]
 exact⟨(p2,_,_),⟨hap2,H⟩,kZ Z Z,Qg⟩
 refine G (Wb Z)<|U<|ZF Z<|W<|Zr ?_
 refine cR (bh Z Z) Z Z Z (fun h43=> ?_) (fun h43=> ?_)
 refine G (Wb Z)<|U<|ZT Z<|Zr<|G (Zw aG H 0 Z Z Z)<|G (Zf eT Z)<|G (Zd aj H 2 Z Z Z)<|cd D6 ((by have hA:=KG q.p r _ (Hp.paM H (hps q hqm)) hok hr;rw[<-hnr]at hA;exact hA)) Z Z ?_
 rintro _ w8 ⟨p2,rfl,hap2,hnp2⟩;replace H:=H.learn hnp2.2 (tk w0 w5.heap.size w8.heap.size p2) ⟨H.size,hnp2.1⟩ (ao _) (ao _);clear hnp2
 refine G (Yu Z)<|G (Xa Z Z)<|G (Xi Z Z)<|bl H 0 (#[J (p2.epoch),J (p2.leader),.slice p2.iA p2.isr.length p2.iC,.slice p2.kA p2.known.length p2.kC,.slice p2.rA p2.reps.length p2.rC,J (p2.few),J (p2.base)]) aL Z Z Z Z Z N N fun w9 H=>G (Wi Z)<|U ?_
 obtain rfl:z=((nV q.p.a r).1,0,(nV q.p.a r).2):=by rw[<-hz];unfold lJ;rw[if_neg h33,if_pos h43,htr]
 exact⟨(p2,_,_),⟨hap2,H⟩,kZ Z Z,Qg⟩
 refine G (Wb Z)<|U<|ZF Z<|W<|Zr ?_
 refine cR (bh Z Z) Z Z Z (fun h52=> ?_) (fun h52=> ?_)
 refine G (Wb Z)<|U<|ZT Z<|Zr<|G (Zw aG H 0 Z Z Z)<|G (Zf eT Z)<|G (Zd aj H 2 Z Z Z)<|G (Zf FK Z)<|G (Zd aj H 2 Z Z Z)<|cd BZ ((by have hA:=I0 q.p r mm _ (Hp.paM H (hps q hqm)) hok hr I;rw[<-hnr,<-hmm]at hA;exact hA)) Z Z ?_
 rintro _ w10 ⟨p2,rfl,hap2,hnp2⟩;replace H:=H.learn hnp2.2 (tk w0 w5.heap.size w10.heap.size p2) ⟨H.size,hnp2.1⟩ (ao _) (ao _);clear hnp2
 refine G (Yu Z)<|G (Xa Z Z)<|G (Xi Z Z)<|bl H 0 (#[J (p2.epoch),J (p2.leader),.slice p2.iA p2.isr.length p2.iC,.slice p2.kA p2.known.length p2.kC,.slice p2.rA p2.reps.length p2.rC,J (p2.few),J (p2.base)]) aL Z Z Z Z Z N N fun w11 H=>G (Wi Z)<|U ?_
 obtain rfl:z=((kr q.p.a r mm).1,0,(kr q.p.a r mm).2):=by rw[<-hz];unfold lJ;rw[if_neg h33,if_neg h43,if_pos h52,htr,htm]
 exact⟨(p2,_,_),⟨hap2,H⟩,kZ Z Z,Qg⟩
 refine G (Wb Z)<|U<|ZF Z<|W<|Zr ?_
 refine cR (bh Z Z) Z Z Z (fun h63=> ?_) (fun h63=> ?_)
 refine G (Wb Z)<|U<|ZT Z<|Zr<|G (Zw aG H 0 Z Z Z)<|G (Zf eT Z)<|G (Zd aj H 2 Z Z Z)<|cd D7 ((by have hA:=KH q.p r _ (Hp.paM H (hps q hqm)) hok hr;rw[<-hnr]at hA;exact hA)) Z Z ?_
 rintro _ w12 ⟨p2,rfl,hap2,hnp2⟩;replace H:=H.learn hnp2.2 (tk w0 w5.heap.size w12.heap.size p2) ⟨H.size,hnp2.1⟩ (ao _) (ao _);clear hnp2
 refine G (Yu Z)<|G (Xa Z Z)<|G (Xi Z Z)<|bl H 0 (#[J (p2.epoch),J (p2.leader),.slice p2.iA p2.isr.length p2.iC,.slice p2.kA p2.known.length p2.kC,.slice p2.rA p2.reps.length p2.rC,J (p2.few),J (p2.base)]) aL Z Z Z Z Z N N fun w13 H=>G (Wi Z)<|U ?_
 obtain rfl:z=((pO q.p.a r).1,0,(pO q.p.a r).2):=by rw[<-hz];unfold lJ;rw[if_neg h33,if_neg h43,if_neg h52,if_pos h63,htr]
 exact⟨(p2,_,_),⟨hap2,H⟩,kZ Z Z,Qg⟩
 refine G (Wb Z)<|U<|ZF Z<|W<|Zr ?_
 refine cR (bh Z Z) Z Z Z (fun h72=> ?_) (fun h72=> ?_)
 refine G (Wb Z)<|U<|ZT Z<|Zr<|G (Zw aG H 0 Z Z Z)<|G (Zf eT Z)<|G (Zd aj H 2 Z Z Z)<|cd D5 ((by have hA:=KF q.p r _ (Hp.paM H (hps q hqm)) hok hr;rw[<-hnr]at hA;exact hA)) Z Z ?_
 rintro _ w14 ⟨p2,rfl,hap2,hnp2⟩;replace H:=H.learn hnp2.2 (tk w0 w5.heap.size w14.heap.size p2) ⟨H.size,hnp2.1⟩ (ao _) (ao _);clear hnp2
 refine G (Yu Z)<|G (Xa Z Z)<|G (Xi Z Z)<|bl H 0 (#[J (p2.epoch),J (p2.leader),.slice p2.iA p2.isr.length p2.iC,.slice p2.kA p2.known.length p2.kC,.slice p2.rA p2.reps.length p2.rC,J (p2.few),J (p2.base)]) aL Z Z Z Z Z N N fun w15 H=>G (Wi Z)<|U ?_
 obtain rfl:z=((nT q.p.a r).1,0,(nT q.p.a r).2):=by rw[<-hz];unfold lJ;rw[if_neg h33,if_neg h43,if_neg h52,if_neg h63,if_pos h72,htr]
 exact⟨(p2,_,_),⟨hap2,H⟩,kZ Z Z,Qg⟩
 refine G (Wb Z)<|U<|ZF Z<|W<|Zr ?_
 refine cR (bh Z Z) Z Z Z (fun h81=> ?_) (fun h81=> ?_)
 refine G (Wb Z)<|U<|ZT Z<|Zr<|G (Zw aG H 0 Z Z Z)<|G (Zf eT Z)<|G (Zd aj H 2 Z Z Z)<|cd BY ((by have hA:=IZ q.p r _ (Hp.paM H (hps q hqm)) hok hr;rw[<-hnr]at hA;exact hA)) Z Z ?_
 rintro _ w16 ⟨p2,rfl,hap2,hnp2⟩;replace H:=H.learn hnp2.2 (tk w0 w5.heap.size w16.heap.size p2) ⟨H.size,hnp2.1⟩ (ao _) (ao _);clear hnp2
 refine G (Yu Z)<|G (Xa Z Z)<|G (Xi Z Z)<|bl H 0 (#[J (p2.epoch),J (p2.leader),.slice p2.iA p2.isr.length p2.iC,.slice p2.kA p2.known.length p2.kC,.slice p2.rA p2.reps.length p2.rC,J (p2.few),J (p2.base)]) aL Z Z Z Z Z N N fun w17 H=>G (Wi Z)<|U ?_
 obtain rfl:z=((iZ q.p.a r).1,0,(iZ q.p.a r).2):=by rw[<-hz];unfold lJ;rw[if_neg h33,if_neg h43,if_neg h52,if_neg h63,if_neg h72,if_pos h81,htr]
 exact⟨(p2,_,_),⟨hap2,H⟩,kZ Z Z,Qg⟩
 refine G (Wb Z)<|U<|ZF Z<|W<|Zr ?_
 refine cR (bh Z Z) Z Z Z (fun h90=> ?_) (fun h90=> ?_)
 refine G (Wb Z)<|U<|ZT Z<|Zr<|G (Zw aG H 0 Z Z Z)<|G (Zf eT Z)<|G (Zd aj H 2 Z Z Z)<|cd AO ((by have hA:=GB q.p r _ (Hp.paM H (hps q hqm)) hok hr;rw[<-hnr]at hA;exact hA)) Z Z ?_
 rintro _ w18 ⟨p2,rfl,hap2,hnp2⟩;replace H:=H.learn hnp2.2 (tk w0 w5.heap.size w18.heap.size p2) ⟨H.size,hnp2.1⟩ (ao _) (ao _);clear hnp2
 refine G (Yu Z)<|G (Xa Z Z)<|G (Xi Z Z)<|bl H 0 (#[J (p2.epoch),J (p2.leader),.slice p2.iA p2.isr.length p2.iC,.slice p2.kA p2.known.length p2.kC,.slice p2.rA p2.reps.length p2.rC,J (p2.few),J (p2.base)]) aL Z Z Z Z Z N N fun w19 H=>G (Wi Z)<|U ?_
 obtain rfl:z=((gY q.p.a r).1,0,(gY q.p.a r).2):=by rw[<-hz];unfold lJ;rw[if_neg h33,if_neg h43,if_neg h52,if_neg h63,if_neg h72,if_neg h81,if_pos h90,htr]
 exact⟨(p2,_,_),⟨hap2,H⟩,kZ Z Z,Qg⟩
 refine G (Wb Z)<|U<|ZF Z<|Zr<|G (Zw aG H 0 Z Z Z)<|G (Zf eT Z)<|G (Zd aj H 2 Z Z Z)<|cd AP ((by have hA:=GD q.p r _ (Hp.paM H (hps q hqm)) hok hr;rw[<-hnr]at hA;exact hA)) Z Z ?_
 rintro _ w20 ⟨p2,rfl,hap2,hnp2⟩;replace H:=H.learn hnp2.2 (tk w0 w5.heap.size w20.heap.size p2) ⟨H.size,hnp2.1⟩ (ao _) (ao _);clear hnp2
 refine G (Yu Z)<|G (Xa Z Z)<|G (Xi Z Z)<|bl H 0 (#[J (p2.epoch),J (p2.leader),.slice p2.iA p2.isr.length p2.iC,.slice p2.kA p2.known.length p2.kC,.slice p2.rA p2.reps.length p2.rC,J (p2.few),J (p2.base)]) aL Z Z Z Z Z N N fun w21 H=>G (Wi Z)<|U ?_
 obtain rfl:z=((fK q.p.a r).1,0,(fK q.p.a r).2):=by rw[<-hz];unfold lJ;rw[if_neg h33,if_neg h43,if_neg h52,if_neg h63,if_neg h72,if_neg h81,if_neg h90,htr]
 exact⟨(p2,_,_),⟨hap2,H⟩,kZ Z Z,Qg⟩
 rintro⟨p2,lo,hi⟩ ρ1 w22 ⟨hap2,H⟩
 show CW _ _ _ _ (dv (gk _ _ ρ1) [(6,J z.2.1),(7,J z.2.2)]) w22
 refine W<|W<|Zr<|G (Yi Z) ?_
 refine qU (i6 Z Z) Z Z Z (fun h99=> ?_) (fun h99=> ?_)
 refine U<|ZT Z<|W<|Zr<|G (Yi Z)<|cd bN (dQ z.2.2 _) Z Z ?_
 rintro _ w23 ⟨rfl,hb⟩;replace H:=H.later hb;clear hb
 refine bl H 1 (#[J (z.2.2),J (0),.slice none 0 0]) aQ Z Z Z Z Z N N fun w24 H=>U<|Zt ?_
 exact eQ (cs0:= #[J (z.2.2),J (0),.slice none 0 0]) Z aP Z (H.ent (i:=1) Z) Z ⟨⟨ps,some ⟨gP,0,none⟩,pC,co,clo,chi,gr,glo,ghi,sns,snA,snC⟩,by rw[hsp,hz,if_neg h99];exact oK.plain _ _ _,by rw[hsp,hz,if_neg h99];rfl,Bw.shut (X:=[(b5,_),(b4,_),(b3,_)]) row hsn hown (ak _ hco) (ak _ hgr) (fun q hq=>ak _ (hps q hq)) (fun f hf=>ak _ hf) H Z⟩
 refine U<|ZF Z<|Zk<|W ?_
 refine bD bZ [0,1,2,3,4,5,6,7,8] [9] [] [0,1,2,3,5,8] (sp []) N N N N Nq (cI _) ?_
 refine aw Z Z Z Z Z (fun w' hw'=>Yp Z)<|aw Z Z Z Z Z (fun w' hw'=>aI Z)<|aw Z Z Z Z Z (fun w' hw'=>Zf aW Z)<|aw Z Z Z Z Z (fun w' hw'=>Zf dC Z)<|aw Z Z Z Z Z (fun w' hw'=>aV d4 Z (aB ((H.later hw').ent (i:=3) Z) Z))<|aw Z Z Z Z Z (fun w' hw'=>Zf dS Z)<|aw Z Z Z Z Z (fun w' hw'=>aV aj Z (aB ((H.later hw').ent (i:=2) Z) Z))<|aw Z Z Z Z Z (fun w' hw'=>iP aG Z ((H.later hw').ent (i:=0) Z) Z)<|aw Z Z Z Z Z (fun w' hw'=>cC (k:=n) gU Z (congrArg (Value.int .i64) hna) (by first|omega|(simp only[ab];omega)))<|aU ?_
 intro w25 hw' hF
 replace H:=H.later hw';clear hw' hF
 refine kQ H 4 (⟨p2,lo,hi⟩) aL row hq 0 Z Z Z Z Z Z N fun w27 cur26 row26 H=> ?_
 have hs28:(ps.set n (⟨p2,lo,hi⟩))[n]? =some (⟨p2,lo,hi⟩):=am (cD hq).1
 refine U<|W<|Zr<|G (Yi Z)<|G (bj (cs:= #[J (0),J (z.2.1),.slice none 0 0]) iF dn N)<|bl H 1 (#[J (0),J (z.2.1),.slice none 0 0]) aQ Z Z Z Z Z N N fun w29 H=>U<|Zt ?_
 have hz0:z.2.2=0:=by simpa using h99
 exact eQ (cs0:= #[J (0),J (z.2.1),.slice none 0 0]) Z aP Z (H.ent (i:=1) Z) Z ⟨⟨ps.set n ⟨p2,lo,hi⟩,some ⟨gP,0,none⟩,pC,co,clo,chi,gr,glo,ghi,sns,snA,snC⟩,by rw[hsp,hz,if_pos hz0];exact oK.plain _ _ _,by rw[hsp,hz,if_pos hz0,htn];unfold Bk.a;simp only[cy,hap2],Bw.shut (X:=[(b5,_),(b4,_),(b3,_)]) row26 hsn hown (ak _ hco) (ak _ hgr) (fun y hy=>by rcases zR hy with hy|hy;exact ak _ (hps y hy);rw[hy];exact aA ..) (fun f hf=>ak _ hf) H (by simp only[Bk.c,ab])⟩
theorem MY {b:Bk} {a:Act} {z:Gr×Int} (hz:(if a.kind=16 then sT b.gr.a a.name b.ps.length else if a.kind=18 then xc b.gr.a a.name a.n else sa b.gr.a a.name a.n a.part a.m)=z):Bu b.a a=if z.2=0 then({b.a with gr:=z.1},⟨0,z.1.gen,[]⟩)else lZ b.a z.2:=by
 subst hz
 unfold Bu GK
 rw[show b.a.ps.length=b.ps.length by show(b.ps.map _).length=_;rw[bC]]
 rfl
theorem MX {w0 w:World} {bb:Nat} {b:Bk} {gP:Nat} {uP:Array Value} {Ls Lo K:List (Nat×Obj)} {F:List ci} (a:Act) (B:Bw w0 w bb b gP uP Ls Lo K F) {k np:Nat} {wt:Int} (hk:k<=1000) (h17:a.kind≠17) (hnm:bM a.name=true) (hm:0<=a.m/\a.m<=1000) (hgi:qP (fun _=>True) wt np k b.gr) (hp4:b.ps.length<=4):dd aa lP [.pointer (Qd bb),a.v] w fun v w2=> ∃ b':Bk,oK (Bu b.a a).2 v w2/\b'.a=(Bu b.a a).1/\xj w0 w2 bb b' K F:=by
 refine aE rp Z Z ?_
 obtain⟨z,hz⟩: ∃ z,(if a.kind=16 then sT b.gr.a a.name b.ps.length else if a.kind=18 then xc b.gr.a a.name a.n else sa b.gr.a a.name a.n a.part a.m)=z:=⟨_,rfl⟩
 have hsp:=MY hz
 obtain⟨ps,pA,pC,co,clo,chi,gr,glo,ghi,sns,snA,snC⟩:=b
 obtain⟨hpA,row,hsn,hown,hco,hgr,hps,H⟩:=B
 dsimp only at hpA row hsn hown hco hgr hps
 subst hpA
 replace H:Hp w0 w ((bb,.cells #[.slice (Qd gP) ps.length pC,J (co.clock),J (co.next),J (co.wait),.slice co.A co.txs.length co.cap,J (gr.clock),J (gr.wait),J (gr.gen),.slice gr.mA gr.ms.length gr.mC,.slice gr.oA gr.os.length gr.oC,.slice snA sns.length snC] bK (0,0))::(gP,.cells uP bz (0,0))::(Ls++(Lo++K))) F:=H
 dsimp only at hgi hp4 hz
 show CW _ _ _ _ (args [.pointer (Qd bb),.agg #[J (a.kind),.string (a.name),J (a.part),J (a.n),J (a.m),.string (a.text),J (a.lost)]]) w
 refine W<|Zr<|fS H Z Z fun w1 b3 H=>eC H dn Z fun w2 b4 H=>U<|W<|Zr<|G (Yp Z)<|G (aI Z)<|G (Zf aW Z)<|G (Zf jy Z)<|G (jG 5 [J (gr.clock),J (gr.wait),J (gr.gen),.slice gr.mA gr.ms.length gr.mC,.slice gr.oA gr.os.length gr.oC] aR Z Z (H.ent (i:=2) Z) Z)<|eC H dZ Z fun w3 b5 H=>bl H 0 (#[J (gr.clock),J (gr.wait),J (gr.gen),.slice gr.mA gr.ms.length gr.mC,.slice gr.oA gr.os.length gr.oC]) bF Z Z Z Z Z N N fun w4 H=>U<|W<|Zr<|G (Wi Z)<|U<|W<|W<|Zr<|G (Zf mE Z)<|G (Zd aj H 2 Z Z Z)<|U ?_
 refine eu (τ:=Gr×Nat×Nat) [6,14,15,16,17,18,19,20,21,22,23,24,25,26,27,28,29,30,31,32,33,34,35,36,37,38,39,40,41,42,43,44,45,46,47,48,49,50,51,52,53,54,55,56,57,58,59,60,61,62,63,64,65,66,67] (fun _=>[(6,J z.2)]) (fun(g3,lo,hi) w'=>g3.a=z.1/\Hp w0 w' ((b5,.cells #[J (g3.clock),J (g3.wait),J (g3.gen),.slice g3.mA g3.ms.length g3.mC,.slice g3.oA g3.os.length g3.oC] cM (0,0))::(b4,.cells #[J (0),J (0),.slice none 0 0] d9 (0,0))::(b3,.cells #[J (a.kind),.string (a.name),J (a.part),J (a.n),J (a.m),.string (a.text),J (a.lost)] f5 (0,0))::(bb,.cells #[.slice (Qd gP) ps.length pC,J (co.clock),J (co.next),J (co.wait),.slice co.A co.txs.length co.cap,J (gr.clock),J (gr.wait),J (gr.gen),.slice gr.mA gr.ms.length gr.mC,.slice gr.oA gr.os.length gr.oC,.slice snA sns.length snC] bK (0,0))::(gP,.cells uP bz (0,0))::(Ls++(Lo++K))) (JS w0 lo hi g3::F)) ?_ ?_
 refine Zb<|W<|Zr ?_
 refine cR (bh Z Z) Z Z Z (fun h28=> ?_) (fun h28=> ?_)
 refine G (Wb Z)<|U<|ZT Z ?_
 refine bD bZ [0,1,2,3,4,5,6,7,8,9,10,11,12] [13,14] [9] [1,3,4,5,6,8,10,11,12] (sp [(9,Sp.deep w4.heap.size PU (fun g:Gr=>g.c.toArray) (fun cs=> .tuple #[.agg cs,J (sT gr.a a.name ps.length).2]) (fun cq:Gr=>cq.a=(sT gr.a a.name ps.length).1))]) N N N N Nq (cI _) ?_
 refine aw Z Z Z Z Z (fun w' hw'=>iP aR Z ((H.later hw').ent (i:=0) Z) Z)<|aw Z Z Z Z Z (fun w' hw'=>Zf fb Z)<|aw Z Z Z Z Z (fun w' hw'=>aV ba Z (aB ((H.later hw').ent (i:=2) Z) Z))<|aw Z Z Z Z Z (fun w' hw'=>Yp Z)<|aw Z Z Z Z Z (fun w' hw'=>aI Z)<|aw Z Z Z Z Z (fun w' hw'=>Zf aW Z)<|aw Z Z Z Z Z (fun w' hw'=>Zf dC Z)<|aw Z Z Z Z Z (fun w' hw'=>aV d4 Z (aB ((H.later hw').ent (i:=3) Z) Z))<|aw Z Z Z Z Z (fun w' hw'=>bn kG Z)<|sN (gv:=(fun cs=> .tuple #[.agg cs,J (sT gr.a a.name ps.length).2])) B0 Z Z Z Z Z (fun w' hw'=>hw'.size) (fun w' hw'=>Jc gr a.name ps.length w' (Hp.grM (H.later hw') hgr) hgi.ok hnm hp4 (by have:=hgi.gen;omega)) Z fun cs39=>aw Z Z Z Z Z (fun w' hw'=>Yu Z)<|aw Z Z Z Z Z (fun w' hw'=>Xa Z Z)<|aw Z Z Z Z Z (fun w' hw'=>Xi Z Z)<|aU ?_
 intro w5 hw' hF
 obtain⟨hF,g3,eq,hag3,hrd39⟩:=hF;cases eq
 replace H:=H.learn hw' (JS w0 w4.heap.size w5.heap.size g3) ⟨H.size,hrd39⟩ (ao _) (ao _)
 clear hw' hF
 refine bl H 0 (#[J (g3.clock),J (g3.wait),J (g3.gen),.slice g3.mA g3.ms.length g3.mC,.slice g3.oA g3.os.length g3.oC]) bF Z Z Z Z Z N N fun w6 H=>G (Wi Z)<|U ?_
 obtain rfl:z=sT gr.a a.name ps.length:=by rw[<-hz,if_pos h28]
 exact⟨(g3,_,_),⟨hag3,H⟩,dF Z,Qg⟩
 refine G (Wb Z)<|U<|ZF Z<|W<|Zr<|G (nC Z Z h17)<|G (Wb Z)<|U<|ZF Z<|W<|Zr ?_
 refine cR (bh Z Z) Z Z Z (fun h58=> ?_) (fun h58=> ?_)
 refine G (Wb Z)<|U<|ZT Z<|Zr<|G (Zw aR H 0 Z Z Z)<|G (Zf fb Z)<|G (Zd ba H 2 Z Z Z)<|G (Zf eT Z)<|G (Zd aj H 2 Z Z Z)<|cd B1 (JG gr a.name a.n _ (Hp.grM H hgr) hgi.ok hnm) Z Z ?_
 rintro _ w7 ⟨g3,rfl,hag3,hng3⟩;replace H:=H.learn hng3.2 (JS w0 w4.heap.size w7.heap.size g3) ⟨H.size,hng3.1⟩ (ao _) (ao _);clear hng3
 refine G (Yu Z)<|G (Xa Z Z)<|G (Xi Z Z)<|bl H 0 (#[J (g3.clock),J (g3.wait),J (g3.gen),.slice g3.mA g3.ms.length g3.mC,.slice g3.oA g3.os.length g3.oC]) bF Z Z Z Z Z N N fun w8 H=>G (Wi Z)<|U ?_
 obtain rfl:z=xc gr.a a.name a.n:=by rw[<-hz,if_neg h28,if_pos h58]
 exact⟨(g3,_,_),⟨hag3,H⟩,dF Z,Qg⟩
 refine G (Wb Z)<|U<|ZF Z<|Zr<|G (Zw aR H 0 Z Z Z)<|G (Zf fb Z)<|G (Zd ba H 2 Z Z Z)<|G (Zf eT Z)<|G (Zd aj H 2 Z Z Z)<|G (Zf dS Z)<|G (Zd aj H 2 Z Z Z)<|G (Zf FK Z)<|G (Zd aj H 2 Z Z Z)<|cd AQ (Gi gr a.name a.n a.part a.m _ (Hp.grM H hgr) hgi.ok hnm hm.1) Z Z ?_
 rintro _ w9 ⟨g3,rfl,hag3,hng3⟩;replace H:=H.learn hng3.2 (JS w0 w4.heap.size w9.heap.size g3) ⟨H.size,hng3.1⟩ (ao _) (ao _);clear hng3
 refine G (Yu Z)<|G (Xa Z Z)<|G (Xi Z Z)<|bl H 0 (#[J (g3.clock),J (g3.wait),J (g3.gen),.slice g3.mA g3.ms.length g3.mC,.slice g3.oA g3.os.length g3.oC]) bF Z Z Z Z Z N N fun w10 H=>G (Wi Z)<|U ?_
 obtain rfl:z=sa gr.a a.name a.n a.part a.m:=by rw[<-hz,if_neg h28,if_neg h58]
 exact⟨(g3,_,_),⟨hag3,H⟩,dF Z,Qg⟩
 rintro⟨g3,lo,hi⟩ ρ1 w11 ⟨hag3,H⟩
 show CW _ _ _ _ (dv (gk _ _ ρ1) [(6,J z.2)]) w11
 refine W<|W<|Zr<|G (Yi Z) ?_
 refine qU (i6 Z Z) Z Z Z (fun h69=> ?_) (fun h69=> ?_)
 refine U<|ZT Z<|W<|Zr<|G (Yi Z)<|cd bN (dQ z.2 _) Z Z ?_
 rintro _ w12 ⟨rfl,hb⟩;replace H:=H.later hb;clear hb
 refine bl H 1 (#[J (z.2),J (0),.slice none 0 0]) aQ Z Z Z Z Z N N fun w13 H=>U<|Zt ?_
 exact eQ (cs0:= #[J (z.2),J (0),.slice none 0 0]) Z aP Z (H.ent (i:=1) Z) Z ⟨⟨ps,some ⟨gP,0,none⟩,pC,co,clo,chi,gr,glo,ghi,sns,snA,snC⟩,by rw[hsp,if_neg h69];exact oK.plain _ _ _,by rw[hsp,if_neg h69];rfl,Bw.shut (X:=[(b5,_),(b4,_),(b3,_)]) row hsn hown (ak _ hco) (ak _ hgr) (fun q hq=>ak _ (hps q hq)) (fun f hf=>ak _ hf) H Z⟩
 refine U<|ZF Z<|Zk<|W<|Zr<|G (Yp Z)<|G (Zw aR H 0 Z Z Z)<|G (aI Z)<|G (Zf aW Z)<|G (Zf jy Z)<|bl H 3 (#[.slice (Qd gP) ps.length pC,J (co.clock),J (co.next),J (co.wait),.slice co.A co.txs.length co.cap,J (g3.clock),J (g3.wait),J (g3.gen),.slice g3.mA g3.ms.length g3.mC,.slice g3.oA g3.os.length g3.oC,.slice snA sns.length snC]) bF Z Z Z Z Z N N fun w14 H=>U<|W<|Zr<|G (Zf kj Z)<|G (Zd aj H 0 Z Z Z)<|G (bj (cs:= #[J (0),J (g3.gen),.slice none 0 0]) iF dn N)<|bl H 1 (#[J (0),J (g3.gen),.slice none 0 0]) aQ Z Z Z Z Z N N fun w15 H=>U<|Zt ?_
 have hz0:z.2=0:=by simpa using h69
 have hgn:z.1.gen=g3.gen:=by rw[<-hag3];rfl
 exact eQ (cs0:= #[J (0),J (g3.gen),.slice none 0 0]) Z aP Z (H.ent (i:=1) Z) Z ⟨⟨ps,some ⟨gP,0,none⟩,pC,co,clo,chi,g3,lo,hi,sns,snA,snC⟩,by rw[hsp,if_pos hz0,hgn];exact oK.plain _ _ _,by rw[hsp,if_pos hz0,<-hag3];rfl,Bw.shut (X:=[(b5,_),(b4,_),(b3,_)]) row hsn hown (ak _ hco) (aA ..) (fun q hq=>ak _ (hps q hq)) (fun f hf=>ak _ hf) H Z⟩
theorem xj.nil {w0 w:World} {bb:Nat} {b:Bk} {K:List (Nat×Obj)} {F:List ci} (h:xj w0 w bb b K F) (A:Option Addr):xj w0 w bb b K (dG m8 0 0 A []::F):=by
 obtain⟨gP,uP,Ls,Lo,F',B,hF⟩:=h
 exact⟨gP,uP,Ls,Lo,dG m8 0 0 A []::F',⟨B.pA,B.row,B.sn,B.own,ak _ B.co,ak _ B.gr,fun q hq=>ak _ (B.ps q hq),B.H.learnNil 0 (bA _) A⟩,fun f hf=>by
  rcases av.1 hf with rfl|hf
  exact aA ..
  exact ak _ (hF f hf)⟩
theorem Cb {g:Gr} (h:lh g=true) (s:ByteArray) (p:Int):0<=(eP g s p).1:=by
 unfold eP
 split
 exact ic 0
 split
 show 0<=tp g.os p
 unfold tp
 split
 rename_i o ho
 exact((dx.1 h).2.2.1 o (List.mem_of_find?_eq_some ho)).2.2.1
 exact ic 0
 exact ic 0
theorem MJ {w0 w:World} {bb:Nat} {b:Bk} {gP:Nat} {uP:Array Value} {Ls Lo K:List (Nat×Obj)} {F:List ci} (a:Act) (B:Bw w0 w bb b gP uP Ls Lo K F) (hnm:bM a.name=true) (hpn:0<=a.part/\a.part<b.ps.length) {k np:Nat} {wt:Int} (hgi:qP (fun _=>True) wt np k b.gr) (hw:(eP b.gr.a a.name a.part).2≠0):dd aa gu [.pointer (Qd bb),a.v] w fun v w2=> ∃ (x:An) (A:Option Addr) (c lo hi:Nat),qM b.a a x/\v=.agg #[J x.code,J x.n,.slice A x.texts.length c]/\x.texts.length<=c/\xj w0 w2 bb b K (dG m8 lo hi A x.texts::F):=by
 refine aE iq Z Z ?_
 have hP:qM b.a a _:=.no hw
 obtain⟨ps,pA,pC,co,clo,chi,gr,glo,ghi,sns,snA,snC⟩:=b
 obtain⟨hpA,row,hsn,hown,hco,hgr,hps,H⟩:=B
 dsimp only at hpA row hsn hown hco hgr hps
 subst hpA
 replace H:Hp w0 w ((bb,.cells #[.slice (Qd gP) ps.length pC,J (co.clock),J (co.next),J (co.wait),.slice co.A co.txs.length co.cap,J (gr.clock),J (gr.wait),J (gr.gen),.slice gr.mA gr.ms.length gr.mC,.slice gr.oA gr.os.length gr.oC,.slice snA sns.length snC] bK (0,0))::(gP,.cells uP bz (0,0))::(Ls++(Lo++K))) F:=H
 dsimp only at hpn hgi hw
 show CW _ _ _ _ (args [.pointer (Qd bb),.agg #[J (a.kind),.string (a.name),J (a.part),J (a.n),J (a.m),.string (a.text),J (a.lost)]]) w
 refine W<|Zr<|fS H Z Z fun w1 b3 H=>eC H dn Z fun w2 b4 H=>U<|W<|W<|Zr<|G (Yp Z)<|G (Zf dS Z)<|G (Zd aj H 1 Z Z Z)<|cd dW (n6 bb ⟨ps,some ⟨gP,0,none⟩,pC,co,clo,chi,gr,glo,ghi,sns,snA,snC⟩ a.part _ (H.ent (i:=2) Z)) Z Z ?_
 rintro _ w3 ⟨rfl,hb⟩;replace H:=H.later hb;clear hb
 rw[decide_eq_true hpn]
 refine G (dO Z)<|U<|ZF Z<|Zk<|W ?_
 refine bD bZ [0,1,2,3,4,5,6,7,8,9,10,11,12,13,14] [] [9] [0,1,2,3,5,7,10,11,12,13,14] (sp [(9,Sp.one (.tuple #[J (eP gr.a a.name a.part).1,J (eP gr.a a.name a.part).2]))]) N N N N Nq (cI _) ?_
 refine aw Z Z Z Z Z (fun w' hw'=>Yp Z)<|aw Z Z Z Z Z (fun w' hw'=>aI Z)<|aw Z Z Z Z Z (fun w' hw'=>Zf aW Z)<|aw Z Z Z Z Z (fun w' hw'=>Zf jy Z)<|aw Z Z Z Z Z (fun w' hw'=>jG 5 [J (gr.clock),J (gr.wait),J (gr.gen),.slice gr.mA gr.ms.length gr.mC,.slice gr.oA gr.os.length gr.oC] aR Z Z ((H.later hw').ent (i:=2) Z) Z)<|aw Z Z Z Z Z (fun w' hw'=>Zf fb Z)<|aw Z Z Z Z Z (fun w' hw'=>aV ba Z (aB ((H.later hw').ent (i:=1) Z) Z))<|aw Z Z Z Z Z (fun w' hw'=>Zf dS Z)<|aw Z Z Z Z Z (fun w' hw'=>aV aj Z (aB ((H.later hw').ent (i:=1) Z) Z))<|g7 mJ Z Z Z Z Z (fun w' hw'=>r8 gr a.name a.part w' (Hp.grM (H.later hw') hgr) hgi.ok hnm) Z<|aw Z Z Z Z Z (fun w' hw'=>Yu Z)<|aw Z Z Z Z Z (fun w' hw'=>Xi Z Z)<|aw Z Z Z Z Z (fun w' hw'=>Xi Z Z)<|aw Z Z Z Z Z (fun w' hw'=>Wi Z)<|aw Z Z Z Z Z (fun w' hw'=>Wi Z)<|aU ?_
 intro w4 hw' hF
 replace H:=H.later hw';clear hw' hF
 refine U<|W<|W<|Zr<|G (Yi Z)<|G (j9 Z Z hw)<|U<|ZT Z<|W<|Zr<|G (Yi Z)<|cd bN (dQ (eP gr.a a.name a.part).2 _) Z Z ?_
 rintro _ w5 ⟨rfl,hb⟩;replace H:=H.later hb;clear hb
 refine bl H 0 (#[J ((eP gr.a a.name a.part).2),J (0),.slice none 0 0]) aQ Z Z Z Z Z N N fun w6 H=>U<|Zt ?_
 exact eQ (cs0:= #[J ((eP gr.a a.name a.part).2),J (0),.slice none 0 0]) Z aP Z (H.ent (i:=0) Z) Z ⟨_,none,0,0,0,hP,rfl,ao _,xj.nil (Bw.shut (X:=[(b4,_),(b3,_)]) row hsn hown hco hgr hps (fun _ h=>h) H Z) none⟩
theorem IU {w0 w:World} {bb:Nat} {b:Bk} {gP:Nat} {uP:Array Value} {Ls Lo K:List (Nat×Obj)} {F:List ci} (a:Act) (B:Bw w0 w bb b gP uP Ls Lo K F) (hnm:bM a.name=true) (hpn:0<=a.part/\a.part<b.ps.length) (hn:1<=a.n/\a.n<=20) {k np:Nat} {wt:Int} (hgi:qP (fun _=>True) wt np k b.gr) (hpk: ∀ q∈b.ps,q.p.a.ok) (hw:(eP b.gr.a a.name a.part).2=0) (hl: ∀ q,b.ps[a.part.toNat]? =some q->q.p.leader<0):dd aa gu [.pointer (Qd bb),a.v] w fun v w2=> ∃ (x:An) (A:Option Addr) (c lo hi:Nat),qM b.a a x/\v=.agg #[J x.code,J x.n,.slice A x.texts.length c]/\x.texts.length<=c/\xj w0 w2 bb b K (dG m8 lo hi A x.texts::F):=by
 refine aE iq Z Z ?_
 obtain⟨n,hna⟩: ∃ n:Nat,a.part=(n:Int):=⟨a.part.toNat,by omega⟩
 have htn:a.part.toNat=n:=by omega
 obtain⟨m,hnm2⟩: ∃ m:Nat,a.n=(m:Int):=⟨a.n.toNat,by omega⟩
 have htm:a.n.toNat=m:=by omega
 obtain⟨q,hq⟩: ∃ q,b.ps[n]? =some q:=⟨_,ah I⟩
 have hqm:=ae hq
 have hok:=hpk q hqm
 have hqa:b.a.ps[a.part.toNat]? =some q.p.a:=by rw[htn];show(b.ps.map fun q=>q.p.a)[n]? =_;rw[aM,hq];rfl
 have hlq:=hl q (by rw[htn];exact hq)
 have hP:qM b.a a _:=.yes q.p.a _ hw hqa (.none hlq)
 obtain⟨ps,pA,pC,co,clo,chi,gr,glo,ghi,sns,snA,snC⟩:=b
 obtain⟨hpA,row,hsn,hown,hco,hgr,hps,H⟩:=B
 dsimp only at hpA row hsn hown hco hgr hps
 subst hpA
 replace H:Hp w0 w ((bb,.cells #[.slice (Qd gP) ps.length pC,J (co.clock),J (co.next),J (co.wait),.slice co.A co.txs.length co.cap,J (gr.clock),J (gr.wait),J (gr.gen),.slice gr.mA gr.ms.length gr.mC,.slice gr.oA gr.os.length gr.oC,.slice snA sns.length snC] bK (0,0))::(gP,.cells uP bz (0,0))::(Ls++(Lo++K))) F:=H
 dsimp only at hpn hgi hw hq hqm
 show CW _ _ _ _ (args [.pointer (Qd bb),.agg #[J (a.kind),.string (a.name),J (a.part),J (a.n),J (a.m),.string (a.text),J (a.lost)]]) w
 refine W<|Zr<|fS H Z Z fun w1 b3 H=>eC H dn Z fun w2 b4 H=>U<|W<|W<|Zr<|G (Yp Z)<|G (Zf dS Z)<|G (Zd aj H 1 Z Z Z)<|cd dW (n6 bb ⟨ps,some ⟨gP,0,none⟩,pC,co,clo,chi,gr,glo,ghi,sns,snA,snC⟩ a.part _ (H.ent (i:=2) Z)) Z Z ?_
 rintro _ w3 ⟨rfl,hb⟩;replace H:=H.later hb;clear hb
 rw[decide_eq_true hpn]
 refine G (dO Z)<|U<|ZF Z<|Zk<|W ?_
 refine bD bZ [0,1,2,3,4,5,6,7,8,9,10,11,12,13,14] [] [9] [0,1,2,3,5,7,10,11,12,13,14] (sp [(9,Sp.one (.tuple #[J (eP gr.a a.name a.part).1,J (eP gr.a a.name a.part).2]))]) N N N N Nq (cI _) ?_
 refine aw Z Z Z Z Z (fun w' hw'=>Yp Z)<|aw Z Z Z Z Z (fun w' hw'=>aI Z)<|aw Z Z Z Z Z (fun w' hw'=>Zf aW Z)<|aw Z Z Z Z Z (fun w' hw'=>Zf jy Z)<|aw Z Z Z Z Z (fun w' hw'=>jG 5 [J (gr.clock),J (gr.wait),J (gr.gen),.slice gr.mA gr.ms.length gr.mC,.slice gr.oA gr.os.length gr.oC] aR Z Z ((H.later hw').ent (i:=2) Z) Z)<|aw Z Z Z Z Z (fun w' hw'=>Zf fb Z)<|aw Z Z Z Z Z (fun w' hw'=>aV ba Z (aB ((H.later hw').ent (i:=1) Z) Z))<|aw Z Z Z Z Z (fun w' hw'=>Zf dS Z)<|aw Z Z Z Z Z (fun w' hw'=>aV aj Z (aB ((H.later hw').ent (i:=1) Z) Z))<|g7 mJ Z Z Z Z Z (fun w' hw'=>r8 gr a.name a.part w' (Hp.grM (H.later hw') hgr) hgi.ok hnm) Z<|aw Z Z Z Z Z (fun w' hw'=>Yu Z)<|aw Z Z Z Z Z (fun w' hw'=>Xi Z Z)<|aw Z Z Z Z Z (fun w' hw'=>Xi Z Z)<|aw Z Z Z Z Z (fun w' hw'=>Wi Z)<|aw Z Z Z Z Z (fun w' hw'=>Wi Z)<|aU ?_
 intro w4 hw' hF
 replace H:=H.later hw';clear hw' hF
 refine U<|W<|W<|Zr<|G (Yi Z)<|G (bX Z Z I)<|U<|ZF Z<|Zk<|W ?_
 refine Hf bZ [12,13,14,15,16,17,18,19] [] [0,1,2,3,5,7,9,10]<|jA [0,1,2,3,4,5,6,7,8,9,10,11] [12,13,14,15,16,17,18,19] [] [0,1,2,3,5,7,9,10] 7 _ N N N Nq<|aw Z Z Z Z Z (fun w' hw'=>Yp Z)<|aw Z Z Z Z Z (fun w' hw'=>aI Z)<|aw Z Z Z Z Z (fun w' hw'=>Zf aW Z)<|aw Z Z Z Z Z (fun w' hw'=>Zf dC Z)<|aw Z Z Z Z Z (fun w' hw'=>aV d4 Z (aB ((H.later hw').ent (i:=2) Z) Z))<|aw Z Z Z Z Z (fun w' hw'=>Zf dS Z)<|aw Z Z Z Z Z (fun w' hw'=>aV aj Z (aB ((H.later hw').ent (i:=1) Z) Z))<|aw Z Z Z Z Z (fun w' hw'=>cC (k:=n) gU Z (congrArg (Value.int .i64) hna) (by first|omega|(simp only[ab];omega)))<|aw Z Z Z Z Z (fun w' hw'=>oN aG row hq Z Z ((H.later hw').ent (i:=3) Z))<|aw Z Z Z Z Z (fun w' hw'=>Yi Z)<|aw Z Z Z Z Z (fun w' hw'=>Zf eT Z)<|aw Z Z Z Z Z (fun w' hw'=>aV aj Z (aB ((H.later hw').ent (i:=1) Z) Z))<|aU ?_
 intro w5 hw' _;replace H:=H.later hw';clear hw'
 refine da 12 N Z<|cd sL (GC q.p (eP gr.a a.name a.part).1 a.n _ (Hp.paM H (hps q hqm)) hok hlq) Z Z ?_
 rintro _ w6 ⟨rfl,hb⟩;replace H:=H.later hb;clear hb
 refine U<|bw 13 N N N Z Z Z Z Nq (fun _=>Yu Z)<|bw 14 N N N Z Z Z Z Nq (fun _=>Xs Z Z)<|bw 15 N N N Z Z Z Z Nq (fun _=>Xi Z Z)<|bw 16 N N N Z Z Z Z Nq (fun _=>Xi Z Z)<|bw 17 N N N Z Z Z Z Nq (fun _=>Ws Z)<|bw 18 N N N Z Z Z Z Nq (fun _=>Wi Z)<|bw 19 N N N Z Z Z Z Nq (fun _=>Wi Z)<|cz N<|W<|W<|Zr<|G (Yi Z)<|G (j9 Z Z (by decide))<|U<|ZT Z<|W<|Zr<|G (Yi Z)<|cd bN (dQ 8 _) Z Z ?_
 rintro _ w7 ⟨rfl,hb⟩;replace H:=H.later hb;clear hb
 refine bl H 0 (#[J (8),J (0),.slice none 0 0]) aQ Z Z Z Z Z N N fun w8 H=>U<|Zt ?_
 exact eQ (cs0:= #[J (8),J (0),.slice none 0 0]) Z aP Z (H.ent (i:=0) Z) Z ⟨_,none,0,0,0,hP,rfl,ao _,xj.nil (Bw.shut (X:=[(b4,_),(b3,_)]) row hsn hown hco hgr hps (fun _ h=>h) H Z) none⟩
theorem Gy {w0 w:World} {bb:Nat} {b:Bk} {gP:Nat} {uP:Array Value} {Ls Lo K:List (Nat×Obj)} {F:List ci} (a:Act) (B:Bw w0 w bb b gP uP Ls Lo K F) (hnm:bM a.name=true) (hpn:0<=a.part/\a.part<b.ps.length) (hn:1<=a.n/\a.n<=20) {k np:Nat} {wt:Int} (hgi:qP (fun _=>True) wt np k b.gr) (hpk: ∀ q∈b.ps,q.p.a.ok) (hw:(eP b.gr.a a.name a.part).2=0) {l:Nat} {r:eW} (hld: ∀ q,b.ps[a.part.toNat]? =some q->q.p.leader=l/\q.p.reps[l]? =some r) (hr:r.es.length<(eP b.gr.a a.name a.part).1.toNat):dd aa gu [.pointer (Qd bb),a.v] w fun v w2=> ∃ (x:An) (A:Option Addr) (c lo hi:Nat),qM b.a a x/\v=.agg #[J x.code,J x.n,.slice A x.texts.length c]/\x.texts.length<=c/\xj w0 w2 bb b K (dG m8 lo hi A x.texts::F):=by
 refine aE iq Z Z ?_
 obtain⟨n,hna⟩: ∃ n:Nat,a.part=(n:Int):=⟨a.part.toNat,by omega⟩
 have htn:a.part.toNat=n:=by omega
 obtain⟨m,hnm2⟩: ∃ m:Nat,a.n=(m:Int):=⟨a.n.toNat,by omega⟩
 have htm:a.n.toNat=m:=by omega
 obtain⟨q,hq⟩: ∃ q,b.ps[n]? =some q:=⟨_,ah I⟩
 have hqm:=ae hq
 have hok:=hpk q hqm
 have hqa:b.a.ps[a.part.toNat]? =some q.p.a:=by rw[htn];show(b.ps.map fun q=>q.p.a)[n]? =_;rw[aM,hq];rfl
 obtain⟨hl1,hl2⟩:=hld q (by rw[htn];exact hq)
 have hra:q.p.a.reps[l]? =some r.a:=by show(q.p.reps.map eW.a)[l]? =_;rw[aM,hl2];rfl
 obtain⟨fr,hfr⟩: ∃ f:Nat,(eP b.gr.a a.name a.part).1=(f:Int):=⟨(eP b.gr.a a.name a.part).1.toNat,by have:=Cb (g:=b.gr.a) ((DI _).2 hgi.ok) a.name a.part;omega⟩
 have htf:(eP b.a.gr a.name a.part).1.toNat=fr:=by show(eP b.gr.a a.name a.part).1.toNat=fr;omega
 have hP:qM b.a a _:=.yes q.p.a _ hw hqa (.range l r.a hl1 hra hr)
 obtain⟨ps,pA,pC,co,clo,chi,gr,glo,ghi,sns,snA,snC⟩:=b
 obtain⟨hpA,row,hsn,hown,hco,hgr,hps,H⟩:=B
 dsimp only at hpA row hsn hown hco hgr hps
 subst hpA
 replace H:Hp w0 w ((bb,.cells #[.slice (Qd gP) ps.length pC,J (co.clock),J (co.next),J (co.wait),.slice co.A co.txs.length co.cap,J (gr.clock),J (gr.wait),J (gr.gen),.slice gr.mA gr.ms.length gr.mC,.slice gr.oA gr.os.length gr.oC,.slice snA sns.length snC] bK (0,0))::(gP,.cells uP bz (0,0))::(Ls++(Lo++K))) F:=H
 dsimp only at hpn hgi hw hq hqm hfr hr
 show CW _ _ _ _ (args [.pointer (Qd bb),.agg #[J (a.kind),.string (a.name),J (a.part),J (a.n),J (a.m),.string (a.text),J (a.lost)]]) w
 refine W<|Zr<|fS H Z Z fun w1 b3 H=>eC H dn Z fun w2 b4 H=>U<|W<|W<|Zr<|G (Yp Z)<|G (Zf dS Z)<|G (Zd aj H 1 Z Z Z)<|cd dW (n6 bb ⟨ps,some ⟨gP,0,none⟩,pC,co,clo,chi,gr,glo,ghi,sns,snA,snC⟩ a.part _ (H.ent (i:=2) Z)) Z Z ?_
 rintro _ w3 ⟨rfl,hb⟩;replace H:=H.later hb;clear hb
 rw[decide_eq_true hpn]
 refine G (dO Z)<|U<|ZF Z<|Zk<|W ?_
 refine bD bZ [0,1,2,3,4,5,6,7,8,9,10,11,12,13,14] [] [9] [0,1,2,3,5,7,10,11,12,13,14] (sp [(9,Sp.one (.tuple #[J (eP gr.a a.name a.part).1,J (eP gr.a a.name a.part).2]))]) N N N N Nq (cI _) ?_
 refine aw Z Z Z Z Z (fun w' hw'=>Yp Z)<|aw Z Z Z Z Z (fun w' hw'=>aI Z)<|aw Z Z Z Z Z (fun w' hw'=>Zf aW Z)<|aw Z Z Z Z Z (fun w' hw'=>Zf jy Z)<|aw Z Z Z Z Z (fun w' hw'=>jG 5 [J (gr.clock),J (gr.wait),J (gr.gen),.slice gr.mA gr.ms.length gr.mC,.slice gr.oA gr.os.length gr.oC] aR Z Z ((H.later hw').ent (i:=2) Z) Z)<|aw Z Z Z Z Z (fun w' hw'=>Zf fb Z)<|aw Z Z Z Z Z (fun w' hw'=>aV ba Z (aB ((H.later hw').ent (i:=1) Z) Z))<|aw Z Z Z Z Z (fun w' hw'=>Zf dS Z)<|aw Z Z Z Z Z (fun w' hw'=>aV aj Z (aB ((H.later hw').ent (i:=1) Z) Z))<|g7 mJ Z Z Z Z Z (fun w' hw'=>r8 gr a.name a.part w' (Hp.grM (H.later hw') hgr) hgi.ok hnm) Z<|aw Z Z Z Z Z (fun w' hw'=>Yu Z)<|aw Z Z Z Z Z (fun w' hw'=>Xi Z Z)<|aw Z Z Z Z Z (fun w' hw'=>Xi Z Z)<|aw Z Z Z Z Z (fun w' hw'=>Wi Z)<|aw Z Z Z Z Z (fun w' hw'=>Wi Z)<|aU ?_
 intro w4 hw' hF
 replace H:=H.later hw';clear hw' hF
 refine U<|W<|W<|Zr<|G (Yi Z)<|G (bX Z Z I)<|U<|ZF Z<|Zk<|W ?_
 refine Hf bZ [12,13,14,15,16,17,18,19] [] [0,1,2,3,5,7,9,10]<|jA [0,1,2,3,4,5,6,7,8,9,10,11] [12,13,14,15,16,17,18,19] [] [0,1,2,3,5,7,9,10] 7 _ N N N Nq<|aw Z Z Z Z Z (fun w' hw'=>Yp Z)<|aw Z Z Z Z Z (fun w' hw'=>aI Z)<|aw Z Z Z Z Z (fun w' hw'=>Zf aW Z)<|aw Z Z Z Z Z (fun w' hw'=>Zf dC Z)<|aw Z Z Z Z Z (fun w' hw'=>aV d4 Z (aB ((H.later hw').ent (i:=2) Z) Z))<|aw Z Z Z Z Z (fun w' hw'=>Zf dS Z)<|aw Z Z Z Z Z (fun w' hw'=>aV aj Z (aB ((H.later hw').ent (i:=1) Z) Z))<|aw Z Z Z Z Z (fun w' hw'=>cC (k:=n) gU Z (congrArg (Value.int .i64) hna) (by first|omega|(simp only[ab];omega)))<|aw Z Z Z Z Z (fun w' hw'=>oN aG row hq Z Z ((H.later hw').ent (i:=3) Z))<|aw Z Z Z Z Z (fun w' hw'=>Yi Z)<|aw Z Z Z Z Z (fun w' hw'=>Zf eT Z)<|aw Z Z Z Z Z (fun w' hw'=>aV aj Z (aB ((H.later hw').ent (i:=1) Z) Z))<|aU ?_
 intro w5 hw' _;replace H:=H.later hw';clear hw'
 refine da 12 N Z<|cd sL ((by have hA:=EX q.p fr m l r _ (Hp.paM H (hps q hqm)) hok hl1 hl2 I;rw[<-hfr,<-hnm2]at hA;exact hA)) Z Z ?_
 rintro _ w6 ⟨rfl,hb⟩;replace H:=H.later hb;clear hb
 refine U<|bw 13 N N N Z Z Z Z Nq (fun _=>Yu Z)<|bw 14 N N N Z Z Z Z Nq (fun _=>Xs Z Z)<|bw 15 N N N Z Z Z Z Nq (fun _=>Xi Z Z)<|bw 16 N N N Z Z Z Z Nq (fun _=>Xi Z Z)<|bw 17 N N N Z Z Z Z Nq (fun _=>Ws Z)<|bw 18 N N N Z Z Z Z Nq (fun _=>Wi Z)<|bw 19 N N N Z Z Z Z Nq (fun _=>Wi Z)<|cz N<|W<|W<|Zr<|G (Yi Z)<|G (j9 Z Z (by decide))<|U<|ZT Z<|W<|Zr<|G (Yi Z)<|cd bN (dQ 2 _) Z Z ?_
 rintro _ w7 ⟨rfl,hb⟩;replace H:=H.later hb;clear hb
 refine bl H 0 (#[J (2),J (0),.slice none 0 0]) aQ Z Z Z Z Z N N fun w8 H=>U<|Zt ?_
 exact eQ (cs0:= #[J (2),J (0),.slice none 0 0]) Z aP Z (H.ent (i:=0) Z) Z ⟨_,none,0,0,0,hP,rfl,ao _,xj.nil (Bw.shut (X:=[(b4,_),(b3,_)]) row hsn hown hco hgr hps (fun _ h=>h) H Z) none⟩
theorem MI {w0 w:World} {bb:Nat} {b:Bk} {gP:Nat} {uP:Array Value} {Ls Lo K:List (Nat×Obj)} {F:List ci} (a:Act) (B:Bw w0 w bb b gP uP Ls Lo K F) (hnm:bM a.name=true) (hpn:0<=a.part/\a.part<b.ps.length) (hn:1<=a.n/\a.n<=20) {k np:Nat} {wt:Int} (hgi:qP (fun _=>True) wt np k b.gr) (hpk: ∀ q∈b.ps,q.p.a.ok) (hw:(eP b.gr.a a.name a.part).2=0) {l:Nat} {r:eW} (hld: ∀ q,b.ps[a.part.toNat]? =some q->q.p.leader=l/\q.p.reps[l]? =some r) (hr:(eP b.gr.a a.name a.part).1.toNat<=r.es.length):dd aa gu [.pointer (Qd bb),a.v] w fun v w2=> ∃ (x:An) (A:Option Addr) (c lo hi:Nat),qM b.a a x/\v=.agg #[J x.code,J x.n,.slice A x.texts.length c]/\x.texts.length<=c/\xj w0 w2 bb b K (dG m8 lo hi A x.texts::F):=by
 refine aE iq Z Z ?_
 obtain⟨n,hna⟩: ∃ n:Nat,a.part=(n:Int):=⟨a.part.toNat,by omega⟩
 have htn:a.part.toNat=n:=by omega
 obtain⟨m,hnm2⟩: ∃ m:Nat,a.n=(m:Int):=⟨a.n.toNat,by omega⟩
 have htm:a.n.toNat=m:=by omega
 obtain⟨q,hq⟩: ∃ q,b.ps[n]? =some q:=⟨_,ah I⟩
 have hqm:=ae hq
 have hok:=hpk q hqm
 have hqa:b.a.ps[a.part.toNat]? =some q.p.a:=by rw[htn];show(b.ps.map fun q=>q.p.a)[n]? =_;rw[aM,hq];rfl
 obtain⟨hl1,hl2⟩:=hld q (by rw[htn];exact hq)
 have hra:q.p.a.reps[l]? =some r.a:=by show(q.p.reps.map eW.a)[l]? =_;rw[aM,hl2];rfl
 obtain⟨fr,hfr⟩: ∃ f:Nat,(eP b.gr.a a.name a.part).1=(f:Int):=⟨(eP b.gr.a a.name a.part).1.toNat,by have:=Cb (g:=b.gr.a) ((DI _).2 hgi.ok) a.name a.part;omega⟩
 have htf:(eP b.a.gr a.name a.part).1.toNat=fr:=by show(eP b.gr.a a.name a.part).1.toNat=fr;omega
 have hP: ∀ st out bt,tH (r.es.take r.high.toNat) st->Bc r.es r.high.toNat st fr m out bt->qM b.a a ⟨0,(bt:Nat),out⟩:=fun st out bt h1 h2=> .yes q.p.a _ hw hqa (.ok l r.a st out bt hl1 hra (by rw[htf];show fr<=r.es.length;omega) h1 (by rw[htf,htm];exact h2))
 obtain⟨ps,pA,pC,co,clo,chi,gr,glo,ghi,sns,snA,snC⟩:=b
 obtain⟨hpA,row,hsn,hown,hco,hgr,hps,H⟩:=B
 dsimp only at hpA row hsn hown hco hgr hps
 subst hpA
 replace H:Hp w0 w ((bb,.cells #[.slice (Qd gP) ps.length pC,J (co.clock),J (co.next),J (co.wait),.slice co.A co.txs.length co.cap,J (gr.clock),J (gr.wait),J (gr.gen),.slice gr.mA gr.ms.length gr.mC,.slice gr.oA gr.os.length gr.oC,.slice snA sns.length snC] bK (0,0))::(gP,.cells uP bz (0,0))::(Ls++(Lo++K))) F:=H
 dsimp only at hpn hgi hw hq hqm hfr hr hP
 show CW _ _ _ _ (args [.pointer (Qd bb),.agg #[J (a.kind),.string (a.name),J (a.part),J (a.n),J (a.m),.string (a.text),J (a.lost)]]) w
 refine W<|Zr<|fS H Z Z fun w1 b3 H=>eC H dn Z fun w2 b4 H=>U<|W<|W<|Zr<|G (Yp Z)<|G (Zf dS Z)<|G (Zd aj H 1 Z Z Z)<|cd dW (n6 bb ⟨ps,some ⟨gP,0,none⟩,pC,co,clo,chi,gr,glo,ghi,sns,snA,snC⟩ a.part _ (H.ent (i:=2) Z)) Z Z ?_
 rintro _ w3 ⟨rfl,hb⟩;replace H:=H.later hb;clear hb
 rw[decide_eq_true hpn]
 refine G (dO Z)<|U<|ZF Z<|Zk<|W ?_
 refine bD bZ [0,1,2,3,4,5,6,7,8,9,10,11,12,13,14] [] [9] [0,1,2,3,5,7,10,11,12,13,14] (sp [(9,Sp.one (.tuple #[J (eP gr.a a.name a.part).1,J (eP gr.a a.name a.part).2]))]) N N N N Nq (cI _) ?_
 refine aw Z Z Z Z Z (fun w' hw'=>Yp Z)<|aw Z Z Z Z Z (fun w' hw'=>aI Z)<|aw Z Z Z Z Z (fun w' hw'=>Zf aW Z)<|aw Z Z Z Z Z (fun w' hw'=>Zf jy Z)<|aw Z Z Z Z Z (fun w' hw'=>jG 5 [J (gr.clock),J (gr.wait),J (gr.gen),.slice gr.mA gr.ms.length gr.mC,.slice gr.oA gr.os.length gr.oC] aR Z Z ((H.later hw').ent (i:=2) Z) Z)<|aw Z Z Z Z Z (fun w' hw'=>Zf fb Z)<|aw Z Z Z Z Z (fun w' hw'=>aV ba Z (aB ((H.later hw').ent (i:=1) Z) Z))<|aw Z Z Z Z Z (fun w' hw'=>Zf dS Z)<|aw Z Z Z Z Z (fun w' hw'=>aV aj Z (aB ((H.later hw').ent (i:=1) Z) Z))<|g7 mJ Z Z Z Z Z (fun w' hw'=>r8 gr a.name a.part w' (Hp.grM (H.later hw') hgr) hgi.ok hnm) Z<|aw Z Z Z Z Z (fun w' hw'=>Yu Z)<|aw Z Z Z Z Z (fun w' hw'=>Xi Z Z)<|aw Z Z Z Z Z (fun w' hw'=>Xi Z Z)<|aw Z Z Z Z Z (fun w' hw'=>Wi Z)<|aw Z Z Z Z Z (fun w' hw'=>Wi Z)<|aU ?_
 intro w4 hw' hF
 replace H:=H.later hw';clear hw' hF
 refine U<|W<|W<|Zr<|G (Yi Z)<|G (bX Z Z I)<|U<|ZF Z<|Zk<|W ?_
 refine Hf bZ [12,13,14,15,16,17,18,19] [] [0,1,2,3,5,7,9,10]<|jA [0,1,2,3,4,5,6,7,8,9,10,11] [12,13,14,15,16,17,18,19] [] [0,1,2,3,5,7,9,10] 7 _ N N N Nq<|aw Z Z Z Z Z (fun w' hw'=>Yp Z)<|aw Z Z Z Z Z (fun w' hw'=>aI Z)<|aw Z Z Z Z Z (fun w' hw'=>Zf aW Z)<|aw Z Z Z Z Z (fun w' hw'=>Zf dC Z)<|aw Z Z Z Z Z (fun w' hw'=>aV d4 Z (aB ((H.later hw').ent (i:=2) Z) Z))<|aw Z Z Z Z Z (fun w' hw'=>Zf dS Z)<|aw Z Z Z Z Z (fun w' hw'=>aV aj Z (aB ((H.later hw').ent (i:=1) Z) Z))<|aw Z Z Z Z Z (fun w' hw'=>cC (k:=n) gU Z (congrArg (Value.int .i64) hna) (by first|omega|(simp only[ab];omega)))<|aw Z Z Z Z Z (fun w' hw'=>oN aG row hq Z Z ((H.later hw').ent (i:=3) Z))<|aw Z Z Z Z Z (fun w' hw'=>Yi Z)<|aw Z Z Z Z Z (fun w' hw'=>Zf eT Z)<|aw Z Z Z Z Z (fun w' hw'=>aV aj Z (aB ((H.later hw').ent (i:=1) Z) Z))<|aU ?_
 intro w5 hw' _;replace H:=H.later hw';clear hw'
 refine da 12 N Z<|cd sL ((by have hA:=KI q.p fr m l r _ (Hp.paM H (hps q hqm)) hok hl1 hl2 I I I;rw[<-hfr,<-hnm2]at hA;exact hA)) Z Z ?_
 rintro _ w6 ⟨sb,out,bt,A7,c7,hst7,hrd7,rfl,hr7,hc7,hb7⟩;replace H:=H.learnRd hb7 hr7;clear hr7 hb7
 refine U<|bw 13 N N N Z Z Z Z Nq (fun _=>Yu Z)<|bw 14 N N N Z Z Z Z Nq (fun _=>Xs Z Z)<|bw 15 N N N Z Z Z Z Nq (fun _=>Xi Z Z)<|bw 16 N N N Z Z Z Z Nq (fun _=>Xi Z Z)<|bw 17 N N N Z Z Z Z Nq (fun _=>Ws Z)<|bw 18 N N N Z Z Z Z Nq (fun _=>Wi Z)<|bw 19 N N N Z Z Z Z Nq (fun _=>Wi Z)<|cz N<|W<|W<|Zr<|G (Yi Z)<|G (bX Z Z (by decide))<|U<|ZF Z<|Zk<|W<|Zr<|G (Yi Z)<|G (Ys Z)<|G (bj (cs:= #[J (0),J ((bt:Nat)),.slice A7 out.length c7]) iF dn N)<|bl H 0 (#[J (0),J ((bt:Nat)),.slice A7 out.length c7]) aQ Z Z Z Z Z N N fun w7 H=>U<|Zt ?_
 exact eQ (cs0:= #[J (0),J ((bt:Nat)),.slice A7 out.length c7]) Z aP Z (H.ent (i:=0) Z) Z ⟨_,A7,c7,_,_,hP _ _ _ hst7 hrd7,rfl,hc7,Bw.shut (X:=[(b4,_),(b3,_)]) row hsn hown (ak _ hco) (ak _ hgr) (fun q hq=>ak _ (hps q hq)) (fun _ h=>h) H Z⟩
section
/-- an act that the laws play -/
structure ue (np nr:Nat) (a:Act):Prop where
 kind:1<=a.kind/\a.kind<=20/\a.kind≠17
 name:a.kind=1∨a.kind=16∨a.kind=18∨a.kind=19∨a.kind=20->bM a.name=true
 part:0<=a.part/\a.part<np
 n:0<=a.n/\a.n<=1000
 rep:8<=a.kind->a.kind<=15->a.n<nr
 fin:a.kind=5->a.n<=1
 poll:a.kind=19->1<=a.n/\a.n<=20
 m:0<=a.m/\a.m<=1000
 text:a.text.size<=40
 lost:0<=a.lost/\a.lost<=2
def xg (w:Wa) (a:Act):Wa×An:=
 if a.kind=1 then oY w a else if a.kind=2 then kV w a else if a.kind=3∨a.kind=4 then mY w a (decide (a.kind=4))else if a.kind=5 then jW w a else
 if a.kind=6 then n8 w a else if a.kind=7 then ye w a else if a.kind<=15 then uZ w a else Bu w a
inductive Em (w:Wa) (a:Act):Wa->An->Prop
 |poll (x:An):a.kind=19->qM w a x->Em w a w x
 |other:a.kind≠19->Em w a (xg w a).1 (xg w a).2
def JW (p:gD):Prop:= ∀ (i:Nat) (x:RA),p.reps[i]? =some x->yb x.es
theorem JW.set {p:gD} (h:JW p) {r:Nat} {x':RA} (hx:yb x'.es):JW {p with reps:=p.reps.set r x'}:=fun i y hy=>by
 rcases eX hy with⟨_,rfl⟩|⟨_,hy⟩
 exact hx
 exact h i y hy
theorem JW.adv {p:gD} (h:JW p):JW (nK p):=fun i y hy=>by
 obtain⟨z,hz,he,-,-⟩:=Eg hy
 rw[he];exact h i z hz
def Gt (K:List cH) (m n:Nat) (few:Int) (p:gD):Prop:=Gd (fun _=>True) K m n few p/\JW p
theorem GM {K:List cH} {p:gD} (h:y1 K p) {i j:Nat} {x y:RA} (hx:p.reps[i]? =some x) (hy:p.reps[j]? =some y):x.es.take (ed x.es y.es)=y.es.take (ed x.es y.es):=by
 cases hc:ed x.es y.es with
 |zero=>simp
 |succ c=>
  obtain⟨e,f,h1,h2,h3⟩:=vF (a:=x.es) (b:=y.es) (k:=c) I
  exact h.lm i j x y c e f hx hy h1 h2 h3
theorem Jo {K:List cH} {p:gD} {r:Nat} (hp:p.ok) (hi:y1 K p) (h:JW p) (he:(iX p r).2.2=0):JW (iX p r).1:=by
 obtain⟨x,y,l,hx,hl,hne,hu,hy⟩:=CI hp he
 rw[uy hx hl hne hu hy]
 have hm:=GM hi hx hy
 intro i z hz
 rcases eX hz with⟨_,rfl⟩|⟨_,hz⟩
 unfold jX
 split
 rename_i z hz
 dsimp only
 rw[hm,<-eL hz];exact(h l y hy).take _
 dsimp only
 exact(h r x hx).take _
 rcases eX hz with⟨_,rfl⟩|⟨_,hz⟩
 exact h l y hy
 exact h i z hz
variable {K:List cH} {m n:Nat} {few:Int} {p:gD} {r:Nat}
theorem N7 {e:cH} (h:Gt K m n few p) (hm:m<400) (he:(eE p e).2.2=0): ∃ K',K<+:K'/\Gt K' (m+1) n few (eE p e).1:=by
 obtain⟨K',h1,h2⟩:=N8 h.1 trivial hm he
 refine⟨K',h1,h2,?_⟩
 obtain⟨x,l,hl,hx,hg,hv,hS⟩:=HG he
 rcases hS with⟨-,hS,-⟩|⟨hv1,-,hS,-⟩
 rw[hS];exact h.2
 rw[hS];exact h.2.set (.snoc (h.2 l x hx) hv hv1)
theorem MD {a:Act} (h:Gt K m n few p) (he:(lJ p a).2.2=0): ∃ K',K<+:K'/\Gt K' m n few (lJ p a).1:=by
 unfold lJ at he⊢
 split at he
 rename_i c;rw[if_pos c]
 obtain⟨K',h1,h2⟩:=LA h.1 he
 exact⟨K',h1,h2,Jo h.1.ok h.1.inv h.2 he⟩
 rename_i c;rw[if_neg c];clear c
 split at he
 rename_i c;rw[if_pos c]
 obtain⟨K',h1,h2⟩:=Mt h.1 he
 refine⟨K',h1,h2,?_⟩
 obtain⟨x,hx,hu,hS⟩:=Ey he
 dsimp only at hS⊢
 rw[hS]
 have:=h.2 _ x hx
 split
 exact JW.adv (fun i y hy=>by
  rcases eX hy with⟨_,rfl⟩|⟨_,hy⟩
  exact this
  exact h.2 i y hy)
 exact h.2.set this
 rename_i c;rw[if_neg c];clear c
 split at he
 rename_i c;rw[if_pos c]
 obtain⟨K',h1,h2⟩:=LQ h.1 he
 refine⟨K',h1,h2,?_⟩
 obtain⟨x,hx,hu,hS⟩:=CN he
 dsimp only at hS⊢
 rw[hS]
 intro i y hy
 rcases eX hy with⟨_,rfl⟩|⟨_,hy⟩
 exact(h.2 _ x hx).take _
 exact h.2 i y hy
 rename_i c;rw[if_neg c];clear c
 split at he
 rename_i c;rw[if_pos c]
 obtain⟨K',h1,h2⟩:=MB h.1 he
 refine⟨K',h1,h2,?_⟩
 obtain⟨x,hx,hu,hS⟩:=EQ he
 dsimp only at hS⊢
 rw[hS]
 exact h.2.set (h.2 _ x hx)
 rename_i c;rw[if_neg c];clear c
 split at he
 rename_i c;rw[if_pos c]
 obtain⟨K',h1,h2⟩:=Mo h.1 he
 refine⟨K',h1,h2,?_⟩
 obtain⟨x,hx,hu,-,hS⟩:=En he
 dsimp only at hS⊢
 rw[hS]
 intro i y hy
 rcases eX hy with⟨_,rfl⟩|⟨_,hy⟩
 exact .nil
 exact h.2 i y hy
 rename_i c;rw[if_neg c];clear c
 split at he
 rename_i c;rw[if_pos c]
 obtain⟨K',h1,h2⟩:=LL h.1 he
 refine⟨K',h1,h2,?_⟩
 obtain⟨x,hx,-,-,-,-,hS⟩:=CL h.1.ok.isrl he
 dsimp only at hS⊢
 rw[hS]
 exact JW.adv fun i y hy=>h.2 i y hy
 rename_i c;rw[if_neg c];clear c
 split at he
 rename_i c;rw[if_pos c]
 obtain⟨K',h1,h2⟩:=IE h.1 he
 refine⟨K',h1,h2,?_⟩
 obtain⟨-,-,hS⟩:=zE he
 dsimp only at hS⊢
 rw[hS]
 exact JW.adv fun i y hy=>h.2 i y hy
 rename_i c;rw[if_neg c]
 obtain⟨K',h1,h2⟩:=Jp h.1 he
 refine⟨K',h1,h2,?_⟩
 obtain⟨x,-,-,-,-,-,hS⟩:=AG he
 dsimp only at hS⊢
 rw[hS]
 exact fun i y hy=>h.2 i y hy
structure Mi (np nr:Nat) (few:Int) (k:Nat) (K:Nat->List cH) (ps:List gD):Prop where
 len:ps.length=np
 gt: ∀ (n:Nat) (p:gD),ps[n]? =some p->Gt (K n) k nr few p
theorem Gt.mono (h:Gt K m n few p) {m':Nat} (hm:m<=m'):Gt K m' n few p:=⟨h.1.mono hm,h.2⟩
theorem Mi.more {np nr k k':Nat} {few:Int} {K:Nat->List cH} {ps:List gD} (h:Mi np nr few k K ps) (hk:k<=k'):Mi np nr few k' K ps:=⟨h.len,fun n p hp=>(h.gt n p hp).mono hk⟩
def Up (K K':Nat->List cH):Prop:= ∀ n,K n<+:K' n
theorem Up.refl (K:Nat->List cH):Up K K:=fun _=>fp _
theorem Up.trans {K K' K2:Nat->List cH} (h:Up K K') (h':Up K' K2):Up K K2:=fun n=>(h n).trans (h' n)
theorem Mi.set {np nr k:Nat} {few:Int} {K:Nat->List cH} {ps:List gD} (h:Mi np nr few k K ps) {n:Nat} {p':gD} (hg: ∃ K',K n<+:K'/\Gt K' k nr few p'): ∃ K',Up K K'/\Mi np nr few k K' (ps.set n p'):=by
 obtain⟨K1,h1,h2⟩:=hg
 refine⟨fun i=>if i=n then K1 else K i,fun i=> ?_,by rw[ab];exact h.len,fun i q hq=> ?_⟩
 dsimp only
 split
 rename_i hi;rw[hi];exact h1
 exact fp _
 rcases eX hq with⟨rfl,rfl⟩|⟨hi,hq⟩
 rw[if_pos Z];exact h2
 rw[if_neg hi];exact h.gt i q hq
structure JX (np k:Nat) (s:Sn):Prop where
 nm:bM s.name=true
 sl:s.seqs.length=np
 ll:s.last.length=np
 sq: ∀ q∈s.seqs,0<=q/\q<=k
structure B5 (np k:Nat) (l:List Sn):Prop where
 each: ∀ s∈l,JX np k s
 few:l.length<=k
theorem JX.more {np k k':Nat} {s:Sn} (h:JX np k s) (hk:k<=k'):JX np k' s:=⟨h.nm,h.sl,h.ll,fun q hq=>by have:=h.sq q hq;omega⟩
theorem B5.more {np k k':Nat} {l:List Sn} (h:B5 np k l) (hk:k<=k'):B5 np k' l:=⟨fun s hs=>(h.each s hs).more hk,aT h.few hk⟩
theorem B5.set {np k i:Nat} {l:List Sn} {s:Sn} (h:B5 np k l) (hs:JX np k s):B5 np k (l.set i s):=⟨fun x hx=>by
 rcases bH hx with hx|rfl
 exact h.each x hx
 exact hs,by rw[ab];exact h.few⟩
structure WI (np nr:Nat) (few wt:Int) (k:Nat) (K:Nat->List cH) (w:Wa):Prop where
 ps:Mi np nr few k K w.ps
 co:oJ k w.co
 gr:qP (fun _=>True) wt np k w.gr
 sns:B5 np k w.sns
theorem WI.more {np nr k k':Nat} {few wt:Int} {K:Nat->List cH} {w:Wa} (h:WI np nr few wt k K w) (hk:k<=k'):WI np nr few wt k' K w:=⟨h.ps.more hk,h.co.more hk,h.gr.more hk,h.sns.more hk⟩
theorem DX {l:List Sn} {s:ByteArray} {i:Nat} {x:Sn} (h:((fg l s).bind fun i=>l[i]?.map fun s=>(i,s))=some (i,x)):l[i]? =some x/\x.name=s:=by
 cases hf:fg l s with
 |none=>rw[hf]at h;cases h
 |some j=>
  rw[hf]at h
  obtain⟨hl,h1,-⟩:=bg.1 hf
  simp only[fm,ah hl,eD,jo,Prod.mk.injEq]at h
  obtain⟨rfl,rfl⟩:=h
  exact⟨ah hl,by simpa using h1⟩
end
abbrev QE:ByteArray:=⟨#[100,101,101]⟩
def wt2 (k:Nat):Co:=⟨0,2,k,[⟨QE,1,0,2,[1],0,0,none,0⟩],none,0⟩
section
variable {np nr k:Nat} {few wt:Int} {K:Nat->List cH} {w:Wa} {a:Act}
theorem MV {s:ByteArray} (h:bM s=true) (pid ver:Int) (np k:Nat):JX np k (u5 s pid ver np):=⟨h,by simp[u5],by simp[u5],fun q hq=>by
 have:q=0:=by
  unfold u5 at hq
  exact fE hq
 omega⟩
theorem MG {l:List Sn} {s:Sn} (h:B5 np k l) (hs:JX np (k+1) s):B5 np (k+1) (ER l s):=by
 unfold ER
 split
 refine⟨fun x hx=> ?_,by have:=h.few;simp;omega⟩
 rcases ar.1 hx with hx|hx
 exact(h.each x hx).more (bE k)
 rw[aq.1 hx];exact hs
 exact(h.more (bE k)).set hs
theorem oM (h:WI np nr few wt k K w) (e:Int): ∃ K',Up K K'/\WI np nr few wt (k+1) K' (lZ w e).1:=⟨K,Up.refl K,h.more (bE k)⟩
theorem M9 (h:WI np nr few wt k K w) (hk:k<400) (hn:bM a.name=true): ∃ K',Up K K'/\WI np nr few wt (k+1) K' (oY w a).1:=by
 unfold oY
 split
 rename_i h0
 exact⟨K,Up.refl K,h.ps.more (bE k),HT h.co I hn h0,h.gr.more (bE k),MG h.sns (by rw[h.ps.len];exact MV hn ..)⟩
 exact oM h _
theorem LT (h:WI np nr few wt k K w): ∃ K',Up K K'/\WI np nr few wt (k+1) K' (kV w a).1:=by
 unfold kV
 split
 exact oM h _
 rename_i i s hf
 split
 exact oM h _
 have hs:=h.sns.each s (ae (DX hf).1)
 exact⟨K,Up.refl K,h.ps.more (bE k),h.co.more (bE k),h.gr.more (bE k),(h.sns.set (s:={s with inn:=true}) ⟨hs.nm,hs.sl,hs.ll,hs.sq⟩).more (bE k)⟩
theorem KB (h:Mi np nr few k K w.ps) (hk:k<400) (n:Nat) (x:cH):(∃ K',Up K K'/\Mi np nr few (k+1) K' (uD w n x).1.ps)/\(uD w n x).1.co=w.co/\(uD w n x).1.gr=w.gr/\(uD w n x).1.sns=w.sns:=by
 unfold uD
 split
 exact⟨⟨K,Up.refl K,h.more (bE k)⟩,rfl,rfl,rfl⟩
 rename_i p hp
 split
 rename_i h0
 exact⟨(h.more (bE k)).set (N7 (h.gt n p hp) hk h0),rfl,rfl,rfl⟩
 exact⟨⟨K,Up.refl K,h.more (bE k)⟩,rfl,rfl,rfl⟩
theorem Jz (h:Mi np nr few k K w.ps) (hc:oJ k w.co) (hk:k<400) (s:Sn) {n:Nat} (hn:n<4):(∃ K',Up K K'/\Mi np nr few (k+1) K' (ej w s n).1.ps)/\oJ (k+1) (ej w s n).1.co/\(ej w s n).1.gr=w.gr/\(ej w s n).1.sns=w.sns:=by
 unfold ej
 split
 exact⟨⟨K,Up.refl K,h.more (bE k)⟩,hc.more (bE k),rfl,rfl⟩
 rename_i x hx
 split
 rename_i h0
 obtain⟨h1,h2,h3,h4⟩:=KB (w:={w with co:=(rS w s n x).1}) h hk n x
 refine⟨h1,?_,h3,h4⟩
 rw[h2]
 show oJ (k+1) (rS w s n x).1
 unfold rS at h0⊢
 split
 rename_i ht
 rw[if_pos ht]at h0
 exact Ij hc I I h0
 exact hc.more (bE k)
 exact⟨⟨K,Up.refl K,h.more (bE k)⟩,hc.more (bE k),rfl,rfl⟩
theorem KX {s:Sn} (h:JX np k s) (n:Nat) (t:ByteArray):JX np (k+1) (pS s n t):=⟨h.nm,by unfold pS;simp[h.sl],by unfold pS;simp[h.ll],fun q hq=>by
 rcases bH hq with hq|rfl
 have:=h.sq q hq;omega
 by_cases hn:n<s.seqs.length
 have:=h.sq (s.seqs.getD n 0) (by rw[bY,ah hn];exact mh hn);omega
 have:s.seqs.getD n 0=0:=by rw[bY,cJ I];rfl
 omega⟩
theorem Mz (h:WI np nr few wt k K w) (hk:k<400) (hp:0<=a.part/\a.part<np) (h4:np<=4) (again:Bool): ∃ K',Up K K'/\WI np nr few wt (k+1) K' (mY w a again).1:=by
 unfold mY
 split
 exact oM h _
 rename_i i s hf
 split
 exact oM h _
 have hs:=h.sns.each s (ae (DX hf).1)
 have hs1:JX np (k+1) (if again then s else pS s a.part.toNat a.text):=by
  split
  exact hs.more (bE k)
  exact KX hs _ _
 generalize (if again then s else pS s a.part.toNat a.text)=s1 at hs1
 have hl:B5 np (k+1) (w.sns.set i s1):=(h.sns.more (bE k)).set hs1
 dsimp only
 split
 exact⟨K,Up.refl K,h.ps.more (bE k),h.co.more (bE k),h.gr.more (bE k),hl⟩
 obtain⟨⟨K',h1,h2⟩,h3,h5,h6⟩:=Jz (w:={w with sns:=w.sns.set i s1}) h.ps h.co hk s1 (n:=a.part.toNat) I
 exact⟨K',h1,h2,h3,by rw[h5];exact h.gr.more (bE k),by rw[h6];exact hl⟩
theorem LN {s:Sn} (h:JX np k s):JX np k (vQ s):=⟨h.nm,h.sl,by unfold vQ;simp[h.ll],h.sq⟩
theorem Jn (h:WI np nr few wt k K w): ∃ K',Up K K'/\WI np nr few wt (k+1) K' (jW w a).1:=by
 unfold jW
 split
 exact oM h _
 rename_i i s hf
 split
 exact oM h _
 split
 exact oM h _
 have hs:=h.sns.each s (ae (DX hf).1)
 split
 rename_i h0
 refine⟨K,Up.refl K,h.ps.more (bE k),HY h.co h0,h.gr.more (bE k),?_⟩
 dsimp only
 split
 exact(h.sns.set (LN hs)).more (bE k)
 exact h.sns.more (bE k)
 exact⟨K,Up.refl K,h.more (bE k)⟩
theorem MZ (h:WI np nr few wt k K w) (hk:k<400): ∃ K',Up K K'/\WI np nr few wt (k+1) K' (n8 w a).1:=by
 unfold n8
 split
 exact oM h _
 rename_i t ht
 obtain⟨⟨i,hf⟩,h34,hp,h0,h4⟩:=Ct h.co.ok ht
 obtain⟨⟨K',h1,h2⟩,h3,h5,h6⟩:=KB h.ps hk (t.parts.headD 0).toNat (cZ t)
 split
 exact⟨K',h1,h2,FP h.co (Hd hf h34 hp),by rw[h5];exact h.gr.more (bE k),by rw[h6];exact h.sns.more (bE k)⟩
 exact⟨K',h1,h2,by rw[h3];exact h.co.more (bE k),by rw[h5];exact h.gr.more (bE k),by rw[h6];exact h.sns.more (bE k)⟩
theorem Mr (h:WI np nr few wt k K w) (hk:k<400) (h4:np<=4) (hn:0<=a.n/\a.n<=1000): ∃ K',Up K K'/\WI np nr few wt (k+1) K' (ye w a).1:=by
 unfold ye
 exact⟨K,Up.refl K,h.ps.more (bE k),Ex h.co I hn.1 (by unfold jc;rw[if_neg I]),by dsimp only;rw[h.ps.len];exact h.gr.tick h4 I hn.1 hn.2,h.sns.more (bE k)⟩
theorem MC (h:WI np nr few wt k K w): ∃ K',Up K K'/\WI np nr few wt (k+1) K' (uZ w a).1:=by
 unfold uZ
 split
 exact oM h _
 rename_i p hp
 split
 rename_i h0
 obtain⟨K',h1,h2⟩:=h.ps.set (MD (h.ps.gt _ p hp) h0)
 exact⟨K',h1,h2.more (bE k),h.co.more (bE k),h.gr.more (bE k),h.sns.more (bE k)⟩
 exact oM h _
theorem Of (h:WI np nr few wt k K w) (hk:k<400) (h4:np<=4) (hn:a.kind=16->bM a.name=true) (hm:0<=a.m): ∃ K',Up K K'/\WI np nr few wt (k+1) K' (Bu w a).1:=by
 unfold Bu
 split
 rename_i h0
 refine⟨K,Up.refl K,h.ps.more (bE k),h.co.more (bE k),?_,h.sns.more (bE k)⟩
 show qP _ wt np (k+1) (GK w a).1
 unfold GK at h0⊢
 rw[h.ps.len]at h0⊢
 split
 rename_i c
 rw[if_pos c]at h0
 exact h.gr.join h4 I (hn c) trivial h0
 rename_i c;rw[if_neg c]at h0
 split
 rename_i c2
 rw[if_pos c2]at h0
 exact h.gr.beat h0
 rename_i c2
 rw[if_neg c2]at h0
 exact h.gr.store hm h0
 exact oM h _
theorem OJ (h:WI np nr few wt k K w) (hk:k<400) (h4:np<=4) (g:ue np nr a) {w':Wa} {x:An} (hA:Em w a w' x): ∃ K',Up K K'/\WI np nr few wt (k+1) K' w':=by
 cases hA with
 |poll x h19 hp=>exact⟨K,Up.refl K,h.more (bE k)⟩
 |other h19=>
  unfold xg
  split
  rename_i c;exact M9 h hk (g.name (.inl c))
  split
  exact LT h
  split
  exact Mz h hk g.part h4 _
  split
  exact Jn h
  split
  exact MZ h hk
  split
  exact Mr h hk h4 g.n
  split
  exact MC h
  exact Of h hk h4 (fun c=>g.name (.inr (.inl c))) g.m.1
def sm (np nr:Nat) (few wt:Int):Wa:=⟨au np (nf nr few.toNat),⟨0,1,wt,[],none,0⟩,⟨0,wt,0,[],none,0,[],none,0⟩,[]⟩
theorem HP {few:Nat} (n1:1<=nr) (n5:nr<=5) (f1:1<=few) (f2:few<=nr) (w1:1<=wt) (w2:wt<=1000):WI np nr few wt 0 (fun _=>[]) (sm np nr few wt):=by
 refine⟨⟨by simp[sm],fun n p hp=> ?_⟩,⟨gJ.2 ⟨⟨(by decide:iQ 0=true),by simp[sm],by simp[sm],w1,w2,by simp[sm]⟩,by simp[sm],by simp[sm,vv]⟩,by simp[sm],by simp[sm],by simp[sm]⟩,MW _ np w1 w2,⟨by simp[sm],by simp[sm]⟩⟩
 have hpe:p=nf nr few:=by
  unfold sm at hp
  simp only[fQ]at hp
  split at hp
  cases hp;simp
  cases hp
 rw[hpe]
 refine⟨Dn n1 n5 f1 f2,?_⟩
 intro i x hx
 unfold nf at hx
 simp only[fQ]at hx
 split at hx
 cases hx;exact .nil
 cases hx
end
section
theorem IP {es:List cH} {n st a most b b':Nat} {out out':List ByteArray} (h:Bc es n st a most out b) (h':Bc es n st a most out' b'):out=out'/\b=b':=by
 obtain⟨h1,h2,h3,h4,h5,h6⟩:=h
 obtain⟨g1,g2,g3,g4,g5,g6⟩:=h'
 have hb:b=b':=by
  rcases Nat.lt_trichotomy b b' with hlt|he|hlt
  have:=g6 b h1 hlt
  rw[<-h3]at this
  omega
  exact he
  have:=h6 b' g1 hlt
  rw[<-g3]at this
  omega
 subst hb
 exact⟨h3.trans g3.symm,rfl⟩
theorem IQ {p:gD} {a most:Nat} {x y:An} (h:CV p a most x) (h':CV p a most y):x=y:=by
 cases h with
 |none h1=>
  cases h' with
  |none=>rfl
  |range l r g1=>omega
  |ok l r st out b g1=>omega
 |range l r h1 h2 h3=>
  cases h' with
  |none g1=>omega
  |range=>rfl
  |ok l' r' st out b g1 g2 g3=>
   have:l'=l:=by omega
   subst this
   rw[h2]at g2;cases g2;omega
 |ok l r st out b h1 h2 h3 h4 h5=>
  cases h' with
  |none g1=>omega
  |range l' r' g1 g2 g3=>
   have:l'=l:=by omega
   subst this
   rw[h2]at g2;cases g2;omega
  |ok l' r' st' out' b' g1 g2 g3 g4 g5=>
   have:l'=l:=by omega
   subst this
   rw[h2]at g2;cases g2
   have:=GV h4 g4
   subst this
   obtain⟨rfl,rfl⟩:=IP h5 g5
   rfl
theorem IV {w:Wa} {a:Act} {x y:An} (h:qM w a x) (h':qM w a y):x=y:=by
 cases h with
 |no h1=>
  cases h' with
  |no=>rfl
  |yes p x g1=>exact absurd g1 h1
 |yes p x h1 h2 h3=>
  cases h' with
  |no g1=>exact absurd h1 g1
  |yes p' y g1 g2 g3=>
   rw[h2]at g2;cases g2
   exact IQ h3 g3
theorem Mg {w:Wa} {a:Act} {w1 w2:Wa} {x y:An} (h:Em w a w1 x) (h':Em w a w2 y):w1=w2/\x=y:=by
 cases h with
 |poll x h1 h2=>
  cases h' with
  |poll y g1 g2=>exact⟨rfl,IV h2 g2⟩
  |other g1=>exact absurd h1 g1
 |other h1=>
  cases h' with
  |poll y g1 g2=>exact absurd g1 h1
  |other g1=>exact⟨rfl,rfl⟩
inductive nL:Wa->List Act->List An->Wa->Prop
 |nil (w:Wa):nL w [] [] w
 |cons {w w1 w2:Wa} {a:Act} {x:An} {l:List Act} {xs:List An}:Em w a w1 x->nL w1 l xs w2->nL w (a::l) (x::xs) w2
theorem nL.app {w w1 w2:Wa} {l m:List Act} {xs ys:List An} (h:nL w l xs w1) (h':nL w1 m ys w2):nL w (l++m) (xs++ys) w2:=by
 induction h with
 |nil=>exact h'
 |cons h1 _ ih=>exact .cons h1 (ih h')
theorem nL.snoc {w w1 w2:Wa} {l:List Act} {a:Act} {xs:List An} {x:An} (h:nL w l xs w1) (h':Em w1 a w2 x):nL w (l++[a]) (xs++[x]) w2:=h.app (.cons h' (.nil _))
theorem nL.len {w w1:Wa} {l:List Act} {xs:List An} (h:nL w l xs w1):xs.length=l.length:=by
 induction h with
 |nil=>rfl
 |cons _ _ ih=>simp[ih]
theorem nL.det {w w1 w2:Wa} {l:List Act} {xs ys:List An} (h:nL w l xs w1) (h':nL w l ys w2):xs=ys/\w1=w2:=by
 induction h generalizing ys w2 with
 |nil=>cases h';exact⟨rfl,rfl⟩
 |cons h1 _ ih=>
  cases h' with
  |cons g1 g2=>
   obtain⟨rfl,rfl⟩:=Mg h1 g1
   obtain⟨rfl,rfl⟩:=ih g2
   exact⟨rfl,rfl⟩
theorem nL.split {w w2:Wa} {l m:List Act} {xs:List An} (h:nL w (l++m) xs w2): ∃ ys zs w1,xs=ys++zs/\nL w l ys w1/\nL w1 m zs w2:=by
 induction l generalizing w xs with
 |nil=>exact⟨[],xs,w,rfl,.nil w,h⟩
 |cons a l ih=>
  cases h with
  |cons h1 h2=>
   obtain⟨ys,zs,w1,rfl,h3,h4⟩:=ih h2
   exact⟨_::ys,zs,w1,rfl,.cons h1 h3,h4⟩
theorem nL.later {w w1 w2:Wa} {l m:List Act} {xs ys:List An} (h:nL w l xs w1) (h':nL w (l++m) ys w2): ∃ zs,ys=xs++zs:=by
 obtain⟨us,zs,w3,rfl,h1,h2⟩:=h'.split
 obtain⟨rfl,-⟩:=h.det h1
 exact⟨zs,rfl⟩
variable {np nr k:Nat} {few wt:Int} {K:Nat->List cH} {w:Wa}
theorem Ks {w w1:Wa} {l:List Act} {xs:List An} (h:nL w l xs w1): ∀ {k:Nat} {K:Nat->List cH},WI np nr few wt k K w->k+l.length<=400->np<=4->(∀ a∈l,ue np nr a)-> ∃ K',Up K K'/\WI np nr few wt (k+l.length) K' w1:=by
 induction h with
 |nil=>intro k K hw _ _ _;exact⟨K,Up.refl K,hw⟩
 |@cons w wa wb a x l xs h1 _ ih=>
  intro k K hw hk h4 hg
  simp only[bO]at hk
  obtain⟨K1,u1,i1⟩:=OJ hw I h4 (hg a (aA ..)) h1
  obtain⟨K2,u2,i2⟩:=ih i1 I h4 fun b hb=>hg b (ak _ hb)
  exact⟨K2,u1.trans u2,by simpa [kX,r3 1]using i2⟩
theorem HA (h:WI np nr few wt k K w):(∀ p∈w.ps,p.ok)/\w.ps.length=np/\gB w.co=true/\lh w.gr=true:=
 ⟨fun p hp=>by obtain⟨n,hn⟩:=aK.1 hp;exact(h.ps.gt n p hn).1.ok,h.ps.len,h.co.ok,h.gr.ok⟩
theorem IH {es:List cH} (h:yb es) {i j:Nat} {e f:cH} (hij:i<j) (hi:es[i]? =some e) (hj:es[j]? =some f) (h0:f.pid≠0) (hk:f.kind=1) (hke:e.kind=1): ¬ (e.pid=f.pid/\e.ver=f.ver/\e.seq=f.seq):=by
 rintro⟨h1,h2,h3⟩
 have a1:=EK h hj h0 hk
 have a2:=EK h hi (by rw[h1];exact h0) hke
 rw[h1,h2]at a2
 have:=LR (es:=es) (show i+1<=j by omega) f.pid f.ver
 rw[eL hi,wS,if_pos ⟨hke,h1,h2⟩]at this
 omega
end
section
/-- what an act yields -/
def Bf (b:Bk) (a:Act) (w0:World) (bb:Nat) (K:List (Nat×Obj)) (F:List ci) (v:Value) (w2:World):Prop:=
 ∃ (b':Bk) (x:An) (A:Option Addr) (c lo hi:Nat),Em b.a a b'.a x/\v=.agg #[J x.code,J x.n,.slice A x.texts.length c]/\x.texts.length<=c/\xj w0 w2 bb b' K (dG m8 lo hi A x.texts::F)
theorem ua {b:Bk} {a:Act} {w0 w:World} {bb:Nat} {K:List (Nat×Obj)} {F:List ci} {f:FuncId} {args:List Value} {s:Wa×An} (h19:a.kind≠19) (hs:xg b.a a=s) (ht:s.2.texts=[]) (h:dd aa f args w fun v w2=> ∃ b':Bk,oK s.2 v w2/\b'.a=s.1/\xj w0 w2 bb b' K F):dd aa f args w (Bf b a w0 bb K F):=
 h.mono fun v w2 ⟨b',⟨A,c,h1,h2,_⟩,h4,h5⟩=>⟨b',s.2,A,c,0,0,by rw[h4,<-hs];exact .other h19,h1,h2,by rw[ht];exact h5.nil A⟩
variable {w0 w:World} {bb gP:Nat} {b:Bk} {uP:Array Value} {Ls Lo K:List (Nat×Obj)} {F:List ci} {np nr k:Nat} {few wt:Int} {M:Nat->List cH} {a:Act}
theorem Bw.facts (_:Bw w0 w bb b gP uP Ls Lo K F) (hw:WI np nr few wt k M b.a) (hk:k<400):b.ps.length=np/\b.sns.length<=1000000/\oJ k b.co/\qP (fun _=>True) wt np k b.gr/\ ∀ q∈b.ps,q.p.a.ok/\q.p.reps.length=nr/\ ∀ (l:Nat) (y:eW),q.p.leader=l->q.p.reps[l]? =some y->y.es.length<400:=by
 have h1:=hw.ps.len
 have h2:=hw.sns.few
 rw[show b.a.ps=b.ps.map fun q=>q.p.a from rfl,bC]at h1
 rw[show b.a.sns=b.sns.map Sn.a from rfl,bC]at h2
 refine⟨h1,by omega,oJ.of_a hw.co,qP.of_a hw.gr,fun q hq=> ?_⟩
 obtain⟨n,hn⟩:=aK.1 hq
 have hg:=(hw.ps.gt n q.p.a (by rw[show b.a.ps=b.ps.map fun q=>q.p.a from rfl,aM,hn];rfl)).1
 refine⟨hg.ok,by have:=hg.len;rwa[show q.p.a.reps=q.p.reps.map eW.a from rfl,bC]at this,fun l y _ hy=> ?_⟩
 have:=hg.small l y.a (by rw[show q.p.a.reps=q.p.reps.map eW.a from rfl,aM,hy];rfl)
 have:y.es.length<=k:=this
 omega
theorem Bw.sender (hw:WI np nr few wt k M b.a) {i:Nat} {x:Sn} (hx:b.sns[i]? =some x):bM x.name=true/\x.seqs.length=np/\x.last.length=np/\ ∀ q∈x.seqs,0<=q/\q<=k:=by
 have h:=hw.sns.each x.a (bL (f:=Sn.a) (ae hx))
 exact⟨h.nm,h.sl,h.ll,h.sq⟩
theorem yt (w:Wa) (a:Act):(oY w a).2.texts=[]:=by unfold oY;split<;>rfl
theorem xb (w:Wa) (a:Act):(kV w a).2.texts=[]:=by
 unfold kV
 split
 rfl
 split<;>rfl
theorem yg (w:Wa) (a:Act) (ag:Bool):(mY w a ag).2.texts=[]:=by
 unfold mY
 split
 rfl
 split
 rfl
 dsimp only
 split
 rfl
 exact lz _ (kp ..)
theorem vg (w:Wa) (a:Act):(jW w a).2.texts=[]:=by
 unfold jW
 split
 rfl
 split
 rfl
 split
 rfl
 split<;>exact lz _ Z
theorem yo (w:Wa) (a:Act):(n8 w a).2.texts=[]:=by
 unfold n8
 split
 rfl
 split<;>exact zI ..
theorem yj (w:Wa) (a:Act):(uZ w a).2.texts=[]:=by
 unfold uZ
 split
 rfl
 split<;>rfl
theorem zW (w:Wa) (a:Act):(Bu w a).2.texts=[]:=by unfold Bu;split<;>rfl
theorem pJ (a:Act) (w:Wa):(a.kind=1->xg w a=oY w a)/\(a.kind=2->xg w a=kV w a)/\(a.kind=3∨a.kind=4->xg w a=mY w a (decide (a.kind=4)))/\(a.kind=5->xg w a=jW w a)/\(a.kind=6->xg w a=n8 w a)/\(a.kind=7->xg w a=ye w a)/\(8<=a.kind/\a.kind<=15->xg w a=uZ w a)/\(16<=a.kind->xg w a=Bu w a):=by
 unfold xg
 refine⟨fun h=> ?_,fun h=> ?_,fun h=> ?_,fun h=> ?_,fun h=> ?_,fun h=> ?_,fun h=> ?_,fun h=> ?_⟩<;>(repeat (first|rw[if_pos I]|rw[if_neg I]))
theorem Ol (A B C X K:List (Nat×Obj)):(A++(B++(C++(X++K)))).Perm (X++(A++(B++(C++K)))):=by
 rw[show A++(B++(C++(X++K)))=(A++B++C)++(X++K) by simp,show A++(B++(C++K))=(A++B++C)++K by simp]
 exact fT (A++B++C) X K
theorem Bw.into {w2:World} (B:Bw w0 w bb b gP uP Ls Lo K F) (X:List (Nat×Obj)) (H:Hp w0 w2 (X++((bb,.cells b.c.toArray bK (0,0))::(gP,.cells uP bz (0,0))::(Ls++(Lo++K)))) F):Bw w0 w2 bb b gP uP Ls Lo (X++K) F:=
 ⟨B.pA,B.row,B.sn,B.own,B.co,B.gr,B.ps,H.perm (Ol [(bb,_),(gP,_)] Ls Lo X K)⟩
theorem Bw.out {X:List (Nat×Obj)} (B:Bw w0 w bb b gP uP Ls Lo (X++K) F):Hp w0 w (X++((bb,.cells b.c.toArray bK (0,0))::(gP,.cells uP bz (0,0))::(Ls++(Lo++K)))) F:=B.H.perm (Ol [(bb,_),(gP,_)] Ls Lo X K).symm
theorem Bw.at_ {w2:World} {K1:List (Nat×Obj)} (B:Bw w0 w bb b gP uP Ls Lo K1 F) (X:List (Nat×Obj)) (H:Hp w0 w2 (X++((bb,.cells b.c.toArray bK (0,0))::(gP,.cells uP bz (0,0))::(Ls++(Lo++K)))) F):Bw w0 w2 bb b gP uP Ls Lo K F:=
 ⟨B.pA,B.row,B.sn,B.own,B.co,B.gr,B.ps,H.forget (cm X _) (fun _ h=>h)⟩
theorem zd {l:List Sn} {s:ByteArray} {i:Nat} (h:fg l s=some i): ∃ x,l[i]? =some x:=by
 obtain⟨x,h1,-⟩:=Gk h
 exact⟨x,h1⟩
theorem Le (B:Bw w0 w bb b gP uP Ls Lo K F) (hw:WI np nr few wt k M b.a) (hk:k<400) (h4:np<=4) (g:ue np nr a) (h1:1<=np) (hkd:a.kind=1):dd aa kc [.pointer (Qd bb),a.v] w (Bf b a w0 bb K F):=by
 obtain⟨hln,hsl,hcb,hgi,hpk⟩:=B.facts hw hk
 refine ua I ((pJ a b.a).1 hkd) (yt ..) ?_
 cases hix:fg b.sns a.name with
 |none=>exact Jg a B hsl (g.name (.inl hkd)) hcb I I I hix
 |some i=>
  obtain⟨x,hx⟩:=zd hix
  exact Jf a B hsl (g.name (.inl hkd)) hcb I I I hix hx
theorem JE (B:Bw w0 w bb b gP uP Ls Lo K F) (hw:WI np nr few wt k M b.a) (hk:k<400) (_:np<=4) (_:ue np nr a) (hkd:a.kind=2):dd aa jR [.pointer (Qd bb),a.v] w (Bf b a w0 bb K F):=by
 obtain⟨-,hsl,-⟩:=B.facts hw hk
 refine ua I ((pJ a b.a).2.1 hkd) (xb ..) ?_
 cases hix:fg b.sns a.name with
 |none=>exact Hj a B hsl hix
 |some i=>
  obtain⟨x,hx⟩:=zd hix
  exact Hi a B hsl hix hx
theorem EL (B:Bw w0 w bb b gP uP Ls Lo K F) (hw:WI np nr few wt k M b.a) (hk:k<400) (h4:np<=4) (g:ue np nr a) (hkd:a.kind=3∨a.kind=4):dd aa iR [.pointer (Qd bb),a.v,.bool (decide (a.kind=4))] w (Bf b a w0 bb K F):=by
 obtain⟨hln,hsl,hcb,-,hpk⟩:=B.facts hw hk
 refine ua I ((pJ a b.a).2.2.1 hkd) (yg ..) ?_
 have hpn:=g.part
 cases hix:fg b.sns a.name with
 |none=>exact IK a B hsl (decide (a.kind=4)) hix
 |some i=>
  obtain⟨x,hx⟩:=zd hix
  obtain⟨s1,s2,s3,s4⟩:=Bw.sender hw hx
  have hpk2:=fun(q:Pq) hq=>(⟨(hpk q hq).1,(hpk q hq).2.2⟩:q.p.a.ok/\ ∀ (l:Nat) (y:eW),q.p.leader=(l:Int)->q.p.reps[l]? =some y->y.es.length<400)
  by_cases h4k:a.kind=4
  rw[decide_eq_true h4k]
  exact Gp a B hsl hix hx I g.lost I I I s1 hcb hpk2
  rw[decide_eq_false h4k]
  exact Kr a B hsl hix hx I g.lost I I I s1 hcb hpk2 g.text (fun q hq=>by have:=s4 q hq;omega)
theorem AB (B:Bw w0 w bb b gP uP Ls Lo K F) (hw:WI np nr few wt k M b.a) (hk:k<400) (h4:np<=4) (g:ue np nr a) (hkd:a.kind=5):dd aa jx [.pointer (Qd bb),a.v] w (Bf b a w0 bb K F):=by
 obtain⟨-,hsl,hcb,-⟩:=B.facts hw hk
 refine ua I ((pJ a b.a).2.2.2.1 hkd) (vg ..) ?_
 cases hix:fg b.sns a.name with
 |none=>exact FG a B hsl hix
 |some i=>
  obtain⟨x,hx⟩:=zd hix
  obtain⟨s1,-,s3,-⟩:=Bw.sender hw hx
  exact FF a B hsl hix hx g.lost ⟨g.n.1,g.fin hkd⟩ I s1 hcb
theorem Fa (B:Bw w0 w bb b gP uP Ls Lo K F) (hw:WI np nr few wt k M b.a) (hk:k<400) (_:np<=4) (g:ue np nr a) (hkd:a.kind=6):dd aa kb [.pointer (Qd bb),a.v] w (Bf b a w0 bb K F):=by
 obtain⟨-,-,hcb,-,hpk⟩:=B.facts hw hk
 refine ua I ((pJ a b.a).2.2.2.2.1 hkd) (yo ..) ?_
 have hpk2:=fun(q:Pq) hq=>(⟨(hpk q hq).1,(hpk q hq).2.2⟩:q.p.a.ok/\ ∀ (l:Nat) (y:eW),q.p.leader=(l:Int)->q.p.reps[l]? =some y->y.es.length<400)
 cases hne:gZ b.co.a.txs a.n.toNat with
 |none=>exact I7 a B hcb g.n hne
 |some t=>exact I6 a B hcb g.n hpk2 hne
theorem Ew (B:Bw w0 w bb b gP uP Ls Lo K F) (hw:WI np nr few wt k M b.a) (hk:k<400) (h4:np<=4) (g:ue np nr a) (hkd:a.kind=7):dd aa og [.pointer (Qd bb),a.v] w (Bf b a w0 bb K F):=by
 obtain⟨hln,-,hcb,hgi,-⟩:=B.facts hw hk
 refine ua I ((pJ a b.a).2.2.2.2.2.1 hkd) Z ?_
 exact Ka a B hcb I g.n hgi I
theorem wo (B:Bw w0 w bb b gP uP Ls Lo K F) (hw:WI np nr few wt k M b.a) (hk:k<400) (_:np<=4) (g:ue np nr a) (hkd:8<=a.kind/\a.kind<=15):dd aa lg [.pointer (Qd bb),a.v] w (Bf b a w0 bb K F):=by
 obtain⟨hln,-,-,-,hpk⟩:=B.facts hw hk
 refine ua I ((pJ a b.a).2.2.2.2.2.2.1 hkd) (yj ..) ?_
 have hpn:=g.part
 exact Kw a B I ⟨g.n.1,fun q hq=>by have:=g.rep hkd.1 hkd.2;have:=(hpk q hq).2.1;omega⟩ g.m (fun q hq=>(hpk q hq).1)
theorem qD (B:Bw w0 w bb b gP uP Ls Lo K F) (hw:WI np nr few wt k M b.a) (hk:k<400) (h4:np<=4) (g:ue np nr a) (hkd:a.kind=16∨a.kind=18∨a.kind=20):dd aa lP [.pointer (Qd bb),a.v] w (Bf b a w0 bb K F):=by
 obtain⟨hln,-,-,hgi,-⟩:=B.facts hw hk
 refine ua I ((pJ a b.a).2.2.2.2.2.2.2 I) (zW ..) ?_
 exact MX a B I I (g.name I) g.m hgi I
theorem nZ (B:Bw w0 w bb b gP uP Ls Lo K F) (hw:WI np nr few wt k M b.a) (hk:k<400) (_:np<=4) (g:ue np nr a) (hkd:a.kind=19):dd aa gu [.pointer (Qd bb),a.v] w (Bf b a w0 bb K F):=by
 obtain⟨hln,-,-,hgi,hpk⟩:=B.facts hw hk
 have hpn:=g.part
 have hnm:=g.name I
 have hpo:=fun q hq=>(hpk q hq).1
 have hq: ∃ q,b.ps[a.part.toNat]? =some q:=⟨_,ah I⟩
 obtain⟨q,hq⟩:=hq
 refine dd.mono (R:=fun v w2=> ∃ (x:An) (A:Option Addr) (c lo hi:Nat),qM b.a a x/\v=.agg #[J x.code,J x.n,.slice A x.texts.length c]/\x.texts.length<=c/\xj w0 w2 bb b K (dG m8 lo hi A x.texts::F)) ?_ fun v w2 ⟨x,A,c,lo,hi,h1,h2,h3,h4⟩=>⟨b,x,A,c,lo,hi,.poll x hkd h1,h2,h3,h4⟩
 by_cases hw0:(eP b.gr.a a.name a.part).2=0
 have hqok:=(hpk q (ae hq)).1
 by_cases hl:q.p.leader<0
 exact IU a B hnm I (g.poll hkd) hgi hpo hw0 (fun q' h=>by rw[hq]at h;cases h;exact hl)
 obtain⟨l,hl2⟩: ∃ l:Nat,q.p.leader=l:=⟨q.p.leader.toNat,by omega⟩
 have hld1:q.p.leader<((q.p.reps.map eW.a).length:Nat):=hqok.ld1
 rw[bC]at hld1
 obtain⟨y,hy⟩: ∃ y,q.p.reps[l]? =some y:=⟨_,ah I⟩
 have hld: ∀ q',b.ps[a.part.toNat]? =some q'->q'.p.leader=l/\q'.p.reps[l]? =some y:=fun q' h=>by rw[hq]at h;cases h;exact⟨hl2,hy⟩
 by_cases hle:(eP b.gr.a a.name a.part).1.toNat<=y.es.length
 exact MI a B hnm I (g.poll hkd) hgi hpo hw0 hld hle
 exact Gy a B hnm I (g.poll hkd) hgi hpo hw0 hld I
 exact MJ a B hnm I hgi hw0
end
theorem OK {w0 w:World} {bb gP:Nat} {b:Bk} {uP:Array Value} {Ls Lo K:List (Nat×Obj)} {F:List ci} {np nr k:Nat} {few wt:Int} {M:Nat->List cH} {a:Act} (B:Bw w0 w bb b gP uP Ls Lo K F) (hw:WI np nr few wt k M b.a) (hk:k<400) (h1:1<=np) (h4:np<=4) (g:ue np nr a):dd aa uJ [.pointer (Qd bb),a.v] w (Bf b a w0 bb K F):=by
 refine aE tR Z Z ?_
 have hkd:=g.kind
 have H:=B.H
 show CW _ _ _ _ (args [.pointer (Qd bb),.agg #[J (a.kind),.string (a.name),J (a.part),J (a.n),J (a.m),.string (a.text),J (a.lost)]]) w
 refine W<|Zr<|fS H Z Z fun w1 b3 H=>eC H dn Z fun w2 b4 H=>U<|W<|W<|Zr<|G (Zf mE Z)<|G (Zd aj H 1 Z Z Z)<|U<|Zb<|W<|Zr ?_
 refine cR (bh Z Z) Z Z Z (fun h8=> ?_) (fun h8=> ?_)
 refine G (Wb Z)<|U<|ZT Z<|W<|Zr<|G (Yp Z)<|G (Zw dP H 1 Z Z Z)<|cd tf (Le (B.into [(b4,_),(b3,_)] H) hw hk h4 g h1 h8) Z Z ?_
 rintro _ w3 ⟨b2,x2,A9,c9,lo9,hi9,hA9,rfl,hc9,gP9,uP9,Ls9,Lo9,F9,B9,hF9⟩
 replace H:=B9.out (X:=[(b4,_),(b3,_)])
 refine bl H 0 (#[J (x2.code),J (x2.n),.slice A9 x2.texts.length c9]) aQ Z Z Z Z Z N N fun w4 H=>U<|Zt ?_
 exact eQ (cs0:= #[J (x2.code),J (x2.n),.slice A9 x2.texts.length c9]) Z aP Z (H.ent (i:=0) Z) Z ⟨b2,x2,A9,c9,lo9,hi9,hA9,rfl,hc9,gP9,uP9,Ls9,Lo9,F9,B9.at_ [(b4,_),(b3,_)] H,hF9⟩
 refine G (Wb Z)<|U<|ZF Z<|W<|Zr ?_
 refine cR (bh Z Z) Z Z Z (fun h13=> ?_) (fun h13=> ?_)
 refine G (Wb Z)<|U<|ZT Z<|W<|Zr<|G (Yp Z)<|G (Zw dP H 1 Z Z Z)<|cd sM (JE (B.into [(b4,_),(b3,_)] H) hw hk h4 g h13) Z Z ?_
 rintro _ w5 ⟨b2,x2,A9,c9,lo9,hi9,hA9,rfl,hc9,gP9,uP9,Ls9,Lo9,F9,B9,hF9⟩
 replace H:=B9.out (X:=[(b4,_),(b3,_)])
 refine bl H 0 (#[J (x2.code),J (x2.n),.slice A9 x2.texts.length c9]) aQ Z Z Z Z Z N N fun w6 H=>U<|Zt ?_
 exact eQ (cs0:= #[J (x2.code),J (x2.n),.slice A9 x2.texts.length c9]) Z aP Z (H.ent (i:=0) Z) Z ⟨b2,x2,A9,c9,lo9,hi9,hA9,rfl,hc9,gP9,uP9,Ls9,Lo9,F9,B9.at_ [(b4,_),(b3,_)] H,hF9⟩
 refine G (Wb Z)<|U<|ZF Z<|W<|W<|Zr ?_
 refine cR (bh Z Z) Z Z Z (fun h18=> ?_) (fun h18=> ?_)
 refine G (Wb Z)<|U ?_
 refine eu (τ:=Unit) [17,19] (fun _=>[(17,.bool (decide (a.kind=3∨a.kind=4)))]) (fun _ w'=>Hp w0 w' ((b4,.cells #[J (0),J (0),.slice none 0 0] d9 (0,0))::(b3,.cells #[J (a.kind),.string (a.name),J (a.part),J (a.n),J (a.m),.string (a.text),J (a.lost)] f5 (0,0))::(bb,.cells b.c.toArray bK (0,0))::(gP,.cells uP bz (0,0))::(Ls++(Lo++K))) F) ?_ ?_
 refine ZT Z<|Zk ?_
 exact⟨(),H,dF (congrArg Value.bool (decide_eq_true I)).symm,Qg⟩
 rintro _ ρ1 w7 H
 show CW _ _ _ _ (dv (gk _ _ ρ1) [(17,.bool (decide (a.kind=3∨a.kind=4)))]) w7
 refine jm Z (fun hc17=> ?_) (fun hc17=> ?_)
 refine W<|Zr<|G (Yp Z)<|G (Zw dP H 1 Z Z Z)<|G (Zf mE Z)<|G (Zd aj H 1 Z Z Z)<|G (bh Z Z)<|cd m4 (EL (B.into [(b4,_),(b3,_)] H) hw hk h4 g (of_decide_eq_true hc17)) Z Z ?_
 rintro _ w8 ⟨b2,x2,A9,c9,lo9,hi9,hA9,rfl,hc9,gP9,uP9,Ls9,Lo9,F9,B9,hF9⟩
 replace H:=B9.out (X:=[(b4,_),(b3,_)])
 refine bl H 0 (#[J (x2.code),J (x2.n),.slice A9 x2.texts.length c9]) aQ Z Z Z Z Z N N fun w9 H=>U<|Zt ?_
 exact eQ (cs0:= #[J (x2.code),J (x2.n),.slice A9 x2.texts.length c9]) Z aP Z (H.ent (i:=0) Z) Z ⟨b2,x2,A9,c9,lo9,hi9,hA9,rfl,hc9,gP9,uP9,Ls9,Lo9,F9,B9.at_ [(b4,_),(b3,_)] H,hF9⟩
 refine W<|Zr ?_
 refine cR (bh Z Z) Z Z Z (fun h27=> ?_) (fun h27=> ?_)
 refine G (Wb Z)<|U<|ZT Z<|W<|Zr<|G (Yp Z)<|G (Zw dP H 1 Z Z Z)<|cd lU (AB (B.into [(b4,_),(b3,_)] H) hw hk h4 g h27) Z Z ?_
 rintro _ w10 ⟨b2,x2,A9,c9,lo9,hi9,hA9,rfl,hc9,gP9,uP9,Ls9,Lo9,F9,B9,hF9⟩
 replace H:=B9.out (X:=[(b4,_),(b3,_)])
 refine bl H 0 (#[J (x2.code),J (x2.n),.slice A9 x2.texts.length c9]) aQ Z Z Z Z Z N N fun w11 H=>U<|Zt ?_
 exact eQ (cs0:= #[J (x2.code),J (x2.n),.slice A9 x2.texts.length c9]) Z aP Z (H.ent (i:=0) Z) Z ⟨b2,x2,A9,c9,lo9,hi9,hA9,rfl,hc9,gP9,uP9,Ls9,Lo9,F9,B9.at_ [(b4,_),(b3,_)] H,hF9⟩
 refine G (Wb Z)<|U<|ZF Z<|W<|Zr ?_
 refine cR (bh Z Z) Z Z Z (fun h32=> ?_) (fun h32=> ?_)
 refine G (Wb Z)<|U<|ZT Z<|W<|Zr<|G (Yp Z)<|G (Zw dP H 1 Z Z Z)<|cd m5 (Fa (B.into [(b4,_),(b3,_)] H) hw hk h4 g h32) Z Z ?_
 rintro _ w12 ⟨b2,x2,A9,c9,lo9,hi9,hA9,rfl,hc9,gP9,uP9,Ls9,Lo9,F9,B9,hF9⟩
 replace H:=B9.out (X:=[(b4,_),(b3,_)])
 refine bl H 0 (#[J (x2.code),J (x2.n),.slice A9 x2.texts.length c9]) aQ Z Z Z Z Z N N fun w13 H=>U<|Zt ?_
 exact eQ (cs0:= #[J (x2.code),J (x2.n),.slice A9 x2.texts.length c9]) Z aP Z (H.ent (i:=0) Z) Z ⟨b2,x2,A9,c9,lo9,hi9,hA9,rfl,hc9,gP9,uP9,Ls9,Lo9,F9,B9.at_ [(b4,_),(b3,_)] H,hF9⟩
 refine G (Wb Z)<|U<|ZF Z<|W<|Zr ?_
 refine cR (bh Z Z) Z Z Z (fun h37=> ?_) (fun h37=> ?_)
 refine G (Wb Z)<|U<|ZT Z<|W<|Zr<|G (Yp Z)<|G (Zw dP H 1 Z Z Z)<|cd m3 (Ew (B.into [(b4,_),(b3,_)] H) hw hk h4 g h37) Z Z ?_
 rintro _ w14 ⟨b2,x2,A9,c9,lo9,hi9,hA9,rfl,hc9,gP9,uP9,Ls9,Lo9,F9,B9,hF9⟩
 replace H:=B9.out (X:=[(b4,_),(b3,_)])
 refine bl H 0 (#[J (x2.code),J (x2.n),.slice A9 x2.texts.length c9]) aQ Z Z Z Z Z N N fun w15 H=>U<|Zt ?_
 exact eQ (cs0:= #[J (x2.code),J (x2.n),.slice A9 x2.texts.length c9]) Z aP Z (H.ent (i:=0) Z) Z ⟨b2,x2,A9,c9,lo9,hi9,hA9,rfl,hc9,gP9,uP9,Ls9,Lo9,F9,B9.at_ [(b4,_),(b3,_)] H,hF9⟩
 refine G (Wb Z)<|U<|ZF Z<|W<|W<|Zr ?_
 refine cR (bh Z Z) Z Z Z (fun h42=> ?_) (fun h42=> ?_)
 refine G (Wb Z)<|U ?_
 refine eu (τ:=Unit) [41,43,44,45,46,47,48,49] (fun _=>[(41,.bool (decide (8<=a.kind/\a.kind<=15)))]) (fun _ w'=>Hp w0 w' ((b4,.cells #[J (0),J (0),.slice none 0 0] d9 (0,0))::(b3,.cells #[J (a.kind),.string (a.name),J (a.part),J (a.n),J (a.m),.string (a.text),J (a.lost)] f5 (0,0))::(bb,.cells b.c.toArray bK (0,0))::(gP,.cells uP bz (0,0))::(Ls++(Lo++K))) F) ?_ ?_
 refine ZT Z<|Zk ?_
 exact⟨(),H,dF (congrArg Value.bool (decide_eq_true I)).symm,Qg⟩
 rintro _ ρ1 w16 H
 show CW _ _ _ _ (dv (gk _ _ ρ1) [(41,.bool (decide (8<=a.kind/\a.kind<=15)))]) w16
 refine jm Z (fun hc41=> ?_) (fun hc41=> ?_)
 refine W<|Zr<|G (Yp Z)<|G (Zw dP H 1 Z Z Z)<|cd fV (wo (B.into [(b4,_),(b3,_)] H) hw hk h4 g (of_decide_eq_true hc41)) Z Z ?_
 rintro _ w17 ⟨b2,x2,A9,c9,lo9,hi9,hA9,rfl,hc9,gP9,uP9,Ls9,Lo9,F9,B9,hF9⟩
 replace H:=B9.out (X:=[(b4,_),(b3,_)])
 refine bl H 0 (#[J (x2.code),J (x2.n),.slice A9 x2.texts.length c9]) aQ Z Z Z Z Z N N fun w18 H=>U<|Zt ?_
 exact eQ (cs0:= #[J (x2.code),J (x2.n),.slice A9 x2.texts.length c9]) Z aP Z (H.ent (i:=0) Z) Z ⟨b2,x2,A9,c9,lo9,hi9,hA9,rfl,hc9,gP9,uP9,Ls9,Lo9,F9,B9.at_ [(b4,_),(b3,_)] H,hF9⟩
 refine W<|W<|Zr ?_
 refine cR (bh Z Z) Z Z Z (fun h54=> ?_) (fun h54=> ?_)
 refine G (Wb Z)<|U ?_
 refine eu (τ:=Unit) [53,55,56,57] (fun _=>[(53,.bool (decide (a.kind=16∨a.kind=18∨a.kind=20)))]) (fun _ w'=>Hp w0 w' ((b4,.cells #[J (0),J (0),.slice none 0 0] d9 (0,0))::(b3,.cells #[J (a.kind),.string (a.name),J (a.part),J (a.n),J (a.m),.string (a.text),J (a.lost)] f5 (0,0))::(bb,.cells b.c.toArray bK (0,0))::(gP,.cells uP bz (0,0))::(Ls++(Lo++K))) F) ?_ ?_
 refine ZT Z<|Zk ?_
 exact⟨(),H,dF (congrArg Value.bool (decide_eq_true I)).symm,Qg⟩
 rintro _ ρ1 w19 H
 show CW _ _ _ _ (dv (gk _ _ ρ1) [(53,.bool (decide (a.kind=16∨a.kind=18∨a.kind=20)))]) w19
 refine jm Z (fun hc53=> ?_) (fun hc53=> ?_)
 refine W<|Zr<|G (Yp Z)<|G (Zw dP H 1 Z Z Z)<|cd dM (qD (B.into [(b4,_),(b3,_)] H) hw hk h4 g (of_decide_eq_true hc53)) Z Z ?_
 rintro _ w20 ⟨b2,x2,A9,c9,lo9,hi9,hA9,rfl,hc9,gP9,uP9,Ls9,Lo9,F9,B9,hF9⟩
 replace H:=B9.out (X:=[(b4,_),(b3,_)])
 refine bl H 0 (#[J (x2.code),J (x2.n),.slice A9 x2.texts.length c9]) aQ Z Z Z Z Z N N fun w21 H=>U<|Zt ?_
 exact eQ (cs0:= #[J (x2.code),J (x2.n),.slice A9 x2.texts.length c9]) Z aP Z (H.ent (i:=0) Z) Z ⟨b2,x2,A9,c9,lo9,hi9,hA9,rfl,hc9,gP9,uP9,Ls9,Lo9,F9,B9.at_ [(b4,_),(b3,_)] H,hF9⟩
 refine W<|Zr ?_
 refine cR (bh Z Z) Z Z Z (fun h62=> ?_) (fun h62=> ?_)
 refine G (Wb Z)<|U<|ZT Z<|W<|Zr<|G (Yp Z)<|G (Zw dP H 1 Z Z Z)<|cd ee (nZ (B.into [(b4,_),(b3,_)] H) hw hk h4 g h62) Z Z ?_
 rintro _ w22 ⟨b2,x2,A9,c9,lo9,hi9,hA9,rfl,hc9,gP9,uP9,Ls9,Lo9,F9,B9,hF9⟩
 replace H:=B9.out (X:=[(b4,_),(b3,_)])
 refine bl H 0 (#[J (x2.code),J (x2.n),.slice A9 x2.texts.length c9]) aQ Z Z Z Z Z N N fun w23 H=>U<|Zt ?_
 exact eQ (cs0:= #[J (x2.code),J (x2.n),.slice A9 x2.texts.length c9]) Z aP Z (H.ent (i:=0) Z) Z ⟨b2,x2,A9,c9,lo9,hi9,hA9,rfl,hc9,gP9,uP9,Ls9,Lo9,F9,B9.at_ [(b4,_),(b3,_)] H,hF9⟩
 exfalso;have h41:=of_decide_eq_false hc41;have h53:=of_decide_eq_false hc53;have h17:=of_decide_eq_false hc17;omega
 refine G (Wb Z)<|U ?_
 refine eu (τ:=Unit) [53,55,56,57] (fun _=>[(53,.bool (decide (a.kind=16∨a.kind=18∨a.kind=20)))]) (fun _ w'=>Hp w0 w' ((b4,.cells #[J (0),J (0),.slice none 0 0] d9 (0,0))::(b3,.cells #[J (a.kind),.string (a.name),J (a.part),J (a.n),J (a.m),.string (a.text),J (a.lost)] f5 (0,0))::(bb,.cells b.c.toArray bK (0,0))::(gP,.cells uP bz (0,0))::(Ls++(Lo++K))) F) ?_ ?_
 refine ZF Z<|W<|Zr ?_
 refine cR (bh Z Z) Z Z Z (fun h55=> ?_) (fun h55=> ?_)
 exact absurd h55 hkd.2.2
 refine G (Wb Z)<|U<|ZF Z<|W<|Zr ?_
 refine cR (bh Z Z) Z Z Z (fun h56=> ?_) (fun h56=> ?_)
 refine G (Wb Z)<|U<|ZT Z<|Zk ?_
 exact⟨(),H,dF (congrArg Value.bool (decide_eq_true I)).symm,Qg⟩
 refine G (Wb Z)<|U<|ZF Z<|Zr ?_
 refine cR (bh Z Z) Z Z Z (fun h57=> ?_) (fun h57=> ?_)
 refine G (Wb Z)<|U ?_
 exact⟨(),H,dF (congrArg Value.bool (decide_eq_true I)).symm,Qg⟩
 refine G (Wb Z)<|U ?_
 exact⟨(),H,dF (congrArg Value.bool (decide_eq_false I)).symm,Qg⟩
 rintro _ ρ1 w24 H
 show CW _ _ _ _ (dv (gk _ _ ρ1) [(53,.bool (decide (a.kind=16∨a.kind=18∨a.kind=20)))]) w24
 refine jm Z (fun hc53=> ?_) (fun hc53=> ?_)
 refine W<|Zr<|G (Yp Z)<|G (Zw dP H 1 Z Z Z)<|cd dM (qD (B.into [(b4,_),(b3,_)] H) hw hk h4 g (of_decide_eq_true hc53)) Z Z ?_
 rintro _ w25 ⟨b2,x2,A9,c9,lo9,hi9,hA9,rfl,hc9,gP9,uP9,Ls9,Lo9,F9,B9,hF9⟩
 replace H:=B9.out (X:=[(b4,_),(b3,_)])
 refine bl H 0 (#[J (x2.code),J (x2.n),.slice A9 x2.texts.length c9]) aQ Z Z Z Z Z N N fun w26 H=>U<|Zt ?_
 exact eQ (cs0:= #[J (x2.code),J (x2.n),.slice A9 x2.texts.length c9]) Z aP Z (H.ent (i:=0) Z) Z ⟨b2,x2,A9,c9,lo9,hi9,hA9,rfl,hc9,gP9,uP9,Ls9,Lo9,F9,B9.at_ [(b4,_),(b3,_)] H,hF9⟩
 refine W<|Zr ?_
 refine cR (bh Z Z) Z Z Z (fun h62=> ?_) (fun h62=> ?_)
 refine G (Wb Z)<|U<|ZT Z<|W<|Zr<|G (Yp Z)<|G (Zw dP H 1 Z Z Z)<|cd ee (nZ (B.into [(b4,_),(b3,_)] H) hw hk h4 g h62) Z Z ?_
 rintro _ w27 ⟨b2,x2,A9,c9,lo9,hi9,hA9,rfl,hc9,gP9,uP9,Ls9,Lo9,F9,B9,hF9⟩
 replace H:=B9.out (X:=[(b4,_),(b3,_)])
 refine bl H 0 (#[J (x2.code),J (x2.n),.slice A9 x2.texts.length c9]) aQ Z Z Z Z Z N N fun w28 H=>U<|Zt ?_
 exact eQ (cs0:= #[J (x2.code),J (x2.n),.slice A9 x2.texts.length c9]) Z aP Z (H.ent (i:=0) Z) Z ⟨b2,x2,A9,c9,lo9,hi9,hA9,rfl,hc9,gP9,uP9,Ls9,Lo9,F9,B9.at_ [(b4,_),(b3,_)] H,hF9⟩
 exfalso;have h41:=of_decide_eq_false hc41;have h53:=of_decide_eq_false hc53;have h17:=of_decide_eq_false hc17;omega
 refine G (Wb Z)<|U ?_
 refine eu (τ:=Unit) [41,43,44,45,46,47,48,49] (fun _=>[(41,.bool (decide (8<=a.kind/\a.kind<=15)))]) (fun _ w'=>Hp w0 w' ((b4,.cells #[J (0),J (0),.slice none 0 0] d9 (0,0))::(b3,.cells #[J (a.kind),.string (a.name),J (a.part),J (a.n),J (a.m),.string (a.text),J (a.lost)] f5 (0,0))::(bb,.cells b.c.toArray bK (0,0))::(gP,.cells uP bz (0,0))::(Ls++(Lo++K))) F) ?_ ?_
 refine ZF Z<|W<|Zr ?_
 refine cR (bh Z Z) Z Z Z (fun h43=> ?_) (fun h43=> ?_)
 refine G (Wb Z)<|U<|ZT Z<|Zk ?_
 exact⟨(),H,dF (congrArg Value.bool (decide_eq_true I)).symm,Qg⟩
 refine G (Wb Z)<|U<|ZF Z<|W<|Zr ?_
 refine cR (bh Z Z) Z Z Z (fun h44=> ?_) (fun h44=> ?_)
 refine G (Wb Z)<|U<|ZT Z<|Zk ?_
 exact⟨(),H,dF (congrArg Value.bool (decide_eq_true I)).symm,Qg⟩
 refine G (Wb Z)<|U<|ZF Z<|W<|Zr ?_
 refine cR (bh Z Z) Z Z Z (fun h45=> ?_) (fun h45=> ?_)
 refine G (Wb Z)<|U<|ZT Z<|Zk ?_
 exact⟨(),H,dF (congrArg Value.bool (decide_eq_true I)).symm,Qg⟩
 refine G (Wb Z)<|U<|ZF Z<|W<|Zr ?_
 refine cR (bh Z Z) Z Z Z (fun h46=> ?_) (fun h46=> ?_)
 refine G (Wb Z)<|U<|ZT Z<|Zk ?_
 exact⟨(),H,dF (congrArg Value.bool (decide_eq_true I)).symm,Qg⟩
 refine G (Wb Z)<|U<|ZF Z<|W<|Zr ?_
 refine cR (bh Z Z) Z Z Z (fun h47=> ?_) (fun h47=> ?_)
 refine G (Wb Z)<|U<|ZT Z<|Zk ?_
 exact⟨(),H,dF (congrArg Value.bool (decide_eq_true I)).symm,Qg⟩
 refine G (Wb Z)<|U<|ZF Z<|W<|Zr ?_
 refine cR (bh Z Z) Z Z Z (fun h48=> ?_) (fun h48=> ?_)
 refine G (Wb Z)<|U<|ZT Z<|Zk ?_
 exact⟨(),H,dF (congrArg Value.bool (decide_eq_true I)).symm,Qg⟩
 refine G (Wb Z)<|U<|ZF Z<|Zr ?_
 refine cR (bh Z Z) Z Z Z (fun h49=> ?_) (fun h49=> ?_)
 refine G (Wb Z)<|U ?_
 exact⟨(),H,dF (congrArg Value.bool (decide_eq_true I)).symm,Qg⟩
 refine G (Wb Z)<|U ?_
 exact⟨(),H,dF (congrArg Value.bool (decide_eq_false I)).symm,Qg⟩
 rintro _ ρ1 w29 H
 show CW _ _ _ _ (dv (gk _ _ ρ1) [(41,.bool (decide (8<=a.kind/\a.kind<=15)))]) w29
 refine jm Z (fun hc41=> ?_) (fun hc41=> ?_)
 refine W<|Zr<|G (Yp Z)<|G (Zw dP H 1 Z Z Z)<|cd fV (wo (B.into [(b4,_),(b3,_)] H) hw hk h4 g (of_decide_eq_true hc41)) Z Z ?_
 rintro _ w30 ⟨b2,x2,A9,c9,lo9,hi9,hA9,rfl,hc9,gP9,uP9,Ls9,Lo9,F9,B9,hF9⟩
 replace H:=B9.out (X:=[(b4,_),(b3,_)])
 refine bl H 0 (#[J (x2.code),J (x2.n),.slice A9 x2.texts.length c9]) aQ Z Z Z Z Z N N fun w31 H=>U<|Zt ?_
 exact eQ (cs0:= #[J (x2.code),J (x2.n),.slice A9 x2.texts.length c9]) Z aP Z (H.ent (i:=0) Z) Z ⟨b2,x2,A9,c9,lo9,hi9,hA9,rfl,hc9,gP9,uP9,Ls9,Lo9,F9,B9.at_ [(b4,_),(b3,_)] H,hF9⟩
 refine W<|W<|Zr ?_
 refine cR (bh Z Z) Z Z Z (fun h54=> ?_) (fun h54=> ?_)
 refine G (Wb Z)<|U ?_
 refine eu (τ:=Unit) [53,55,56,57] (fun _=>[(53,.bool (decide (a.kind=16∨a.kind=18∨a.kind=20)))]) (fun _ w'=>Hp w0 w' ((b4,.cells #[J (0),J (0),.slice none 0 0] d9 (0,0))::(b3,.cells #[J (a.kind),.string (a.name),J (a.part),J (a.n),J (a.m),.string (a.text),J (a.lost)] f5 (0,0))::(bb,.cells b.c.toArray bK (0,0))::(gP,.cells uP bz (0,0))::(Ls++(Lo++K))) F) ?_ ?_
 refine ZT Z<|Zk ?_
 exact⟨(),H,dF (congrArg Value.bool (decide_eq_true I)).symm,Qg⟩
 rintro _ ρ1 w32 H
 show CW _ _ _ _ (dv (gk _ _ ρ1) [(53,.bool (decide (a.kind=16∨a.kind=18∨a.kind=20)))]) w32
 refine jm Z (fun hc53=> ?_) (fun hc53=> ?_)
 refine W<|Zr<|G (Yp Z)<|G (Zw dP H 1 Z Z Z)<|cd dM (qD (B.into [(b4,_),(b3,_)] H) hw hk h4 g (of_decide_eq_true hc53)) Z Z ?_
 rintro _ w33 ⟨b2,x2,A9,c9,lo9,hi9,hA9,rfl,hc9,gP9,uP9,Ls9,Lo9,F9,B9,hF9⟩
 replace H:=B9.out (X:=[(b4,_),(b3,_)])
 refine bl H 0 (#[J (x2.code),J (x2.n),.slice A9 x2.texts.length c9]) aQ Z Z Z Z Z N N fun w34 H=>U<|Zt ?_
 exact eQ (cs0:= #[J (x2.code),J (x2.n),.slice A9 x2.texts.length c9]) Z aP Z (H.ent (i:=0) Z) Z ⟨b2,x2,A9,c9,lo9,hi9,hA9,rfl,hc9,gP9,uP9,Ls9,Lo9,F9,B9.at_ [(b4,_),(b3,_)] H,hF9⟩
 refine W<|Zr ?_
 refine cR (bh Z Z) Z Z Z (fun h62=> ?_) (fun h62=> ?_)
 refine G (Wb Z)<|U<|ZT Z<|W<|Zr<|G (Yp Z)<|G (Zw dP H 1 Z Z Z)<|cd ee (nZ (B.into [(b4,_),(b3,_)] H) hw hk h4 g h62) Z Z ?_
 rintro _ w35 ⟨b2,x2,A9,c9,lo9,hi9,hA9,rfl,hc9,gP9,uP9,Ls9,Lo9,F9,B9,hF9⟩
 replace H:=B9.out (X:=[(b4,_),(b3,_)])
 refine bl H 0 (#[J (x2.code),J (x2.n),.slice A9 x2.texts.length c9]) aQ Z Z Z Z Z N N fun w36 H=>U<|Zt ?_
 exact eQ (cs0:= #[J (x2.code),J (x2.n),.slice A9 x2.texts.length c9]) Z aP Z (H.ent (i:=0) Z) Z ⟨b2,x2,A9,c9,lo9,hi9,hA9,rfl,hc9,gP9,uP9,Ls9,Lo9,F9,B9.at_ [(b4,_),(b3,_)] H,hF9⟩
 exfalso;have h41:=of_decide_eq_false hc41;have h53:=of_decide_eq_false hc53;have h17:=of_decide_eq_false hc17;omega
 refine G (Wb Z)<|U ?_
 refine eu (τ:=Unit) [53,55,56,57] (fun _=>[(53,.bool (decide (a.kind=16∨a.kind=18∨a.kind=20)))]) (fun _ w'=>Hp w0 w' ((b4,.cells #[J (0),J (0),.slice none 0 0] d9 (0,0))::(b3,.cells #[J (a.kind),.string (a.name),J (a.part),J (a.n),J (a.m),.string (a.text),J (a.lost)] f5 (0,0))::(bb,.cells b.c.toArray bK (0,0))::(gP,.cells uP bz (0,0))::(Ls++(Lo++K))) F) ?_ ?_
 refine ZF Z<|W<|Zr ?_
 refine cR (bh Z Z) Z Z Z (fun h55=> ?_) (fun h55=> ?_)
 exact absurd h55 hkd.2.2
 refine G (Wb Z)<|U<|ZF Z<|W<|Zr ?_
 refine cR (bh Z Z) Z Z Z (fun h56=> ?_) (fun h56=> ?_)
 refine G (Wb Z)<|U<|ZT Z<|Zk ?_
 exact⟨(),H,dF (congrArg Value.bool (decide_eq_true I)).symm,Qg⟩
 refine G (Wb Z)<|U<|ZF Z<|Zr ?_
 refine cR (bh Z Z) Z Z Z (fun h57=> ?_) (fun h57=> ?_)
 refine G (Wb Z)<|U ?_
 exact⟨(),H,dF (congrArg Value.bool (decide_eq_true I)).symm,Qg⟩
 refine G (Wb Z)<|U ?_
 exact⟨(),H,dF (congrArg Value.bool (decide_eq_false I)).symm,Qg⟩
 rintro _ ρ1 w37 H
 show CW _ _ _ _ (dv (gk _ _ ρ1) [(53,.bool (decide (a.kind=16∨a.kind=18∨a.kind=20)))]) w37
 refine jm Z (fun hc53=> ?_) (fun hc53=> ?_)
 refine W<|Zr<|G (Yp Z)<|G (Zw dP H 1 Z Z Z)<|cd dM (qD (B.into [(b4,_),(b3,_)] H) hw hk h4 g (of_decide_eq_true hc53)) Z Z ?_
 rintro _ w38 ⟨b2,x2,A9,c9,lo9,hi9,hA9,rfl,hc9,gP9,uP9,Ls9,Lo9,F9,B9,hF9⟩
 replace H:=B9.out (X:=[(b4,_),(b3,_)])
 refine bl H 0 (#[J (x2.code),J (x2.n),.slice A9 x2.texts.length c9]) aQ Z Z Z Z Z N N fun w39 H=>U<|Zt ?_
 exact eQ (cs0:= #[J (x2.code),J (x2.n),.slice A9 x2.texts.length c9]) Z aP Z (H.ent (i:=0) Z) Z ⟨b2,x2,A9,c9,lo9,hi9,hA9,rfl,hc9,gP9,uP9,Ls9,Lo9,F9,B9.at_ [(b4,_),(b3,_)] H,hF9⟩
 refine W<|Zr ?_
 refine cR (bh Z Z) Z Z Z (fun h62=> ?_) (fun h62=> ?_)
 refine G (Wb Z)<|U<|ZT Z<|W<|Zr<|G (Yp Z)<|G (Zw dP H 1 Z Z Z)<|cd ee (nZ (B.into [(b4,_),(b3,_)] H) hw hk h4 g h62) Z Z ?_
 rintro _ w40 ⟨b2,x2,A9,c9,lo9,hi9,hA9,rfl,hc9,gP9,uP9,Ls9,Lo9,F9,B9,hF9⟩
 replace H:=B9.out (X:=[(b4,_),(b3,_)])
 refine bl H 0 (#[J (x2.code),J (x2.n),.slice A9 x2.texts.length c9]) aQ Z Z Z Z Z N N fun w41 H=>U<|Zt ?_
 exact eQ (cs0:= #[J (x2.code),J (x2.n),.slice A9 x2.texts.length c9]) Z aP Z (H.ent (i:=0) Z) Z ⟨b2,x2,A9,c9,lo9,hi9,hA9,rfl,hc9,gP9,uP9,Ls9,Lo9,F9,B9.at_ [(b4,_),(b3,_)] H,hF9⟩
 exfalso;have h41:=of_decide_eq_false hc41;have h53:=of_decide_eq_false hc53;have h17:=of_decide_eq_false hc17;omega
 refine G (Wb Z)<|U ?_
 refine eu (τ:=Unit) [17,19] (fun _=>[(17,.bool (decide (a.kind=3∨a.kind=4)))]) (fun _ w'=>Hp w0 w' ((b4,.cells #[J (0),J (0),.slice none 0 0] d9 (0,0))::(b3,.cells #[J (a.kind),.string (a.name),J (a.part),J (a.n),J (a.m),.string (a.text),J (a.lost)] f5 (0,0))::(bb,.cells b.c.toArray bK (0,0))::(gP,.cells uP bz (0,0))::(Ls++(Lo++K))) F) ?_ ?_
 refine ZF Z<|Zr ?_
 refine cR (bh Z Z) Z Z Z (fun h19=> ?_) (fun h19=> ?_)
 refine G (Wb Z)<|U ?_
 exact⟨(),H,dF (congrArg Value.bool (decide_eq_true I)).symm,Qg⟩
 refine G (Wb Z)<|U ?_
 exact⟨(),H,dF (congrArg Value.bool (decide_eq_false I)).symm,Qg⟩
 rintro _ ρ1 w42 H
 show CW _ _ _ _ (dv (gk _ _ ρ1) [(17,.bool (decide (a.kind=3∨a.kind=4)))]) w42
 refine jm Z (fun hc17=> ?_) (fun hc17=> ?_)
 refine W<|Zr<|G (Yp Z)<|G (Zw dP H 1 Z Z Z)<|G (Zf mE Z)<|G (Zd aj H 1 Z Z Z)<|G (bh Z Z)<|cd m4 (EL (B.into [(b4,_),(b3,_)] H) hw hk h4 g (of_decide_eq_true hc17)) Z Z ?_
 rintro _ w43 ⟨b2,x2,A9,c9,lo9,hi9,hA9,rfl,hc9,gP9,uP9,Ls9,Lo9,F9,B9,hF9⟩
 replace H:=B9.out (X:=[(b4,_),(b3,_)])
 refine bl H 0 (#[J (x2.code),J (x2.n),.slice A9 x2.texts.length c9]) aQ Z Z Z Z Z N N fun w44 H=>U<|Zt ?_
 exact eQ (cs0:= #[J (x2.code),J (x2.n),.slice A9 x2.texts.length c9]) Z aP Z (H.ent (i:=0) Z) Z ⟨b2,x2,A9,c9,lo9,hi9,hA9,rfl,hc9,gP9,uP9,Ls9,Lo9,F9,B9.at_ [(b4,_),(b3,_)] H,hF9⟩
 refine W<|Zr ?_
 refine cR (bh Z Z) Z Z Z (fun h27=> ?_) (fun h27=> ?_)
 refine G (Wb Z)<|U<|ZT Z<|W<|Zr<|G (Yp Z)<|G (Zw dP H 1 Z Z Z)<|cd lU (AB (B.into [(b4,_),(b3,_)] H) hw hk h4 g h27) Z Z ?_
 rintro _ w45 ⟨b2,x2,A9,c9,lo9,hi9,hA9,rfl,hc9,gP9,uP9,Ls9,Lo9,F9,B9,hF9⟩
 replace H:=B9.out (X:=[(b4,_),(b3,_)])
 refine bl H 0 (#[J (x2.code),J (x2.n),.slice A9 x2.texts.length c9]) aQ Z Z Z Z Z N N fun w46 H=>U<|Zt ?_
 exact eQ (cs0:= #[J (x2.code),J (x2.n),.slice A9 x2.texts.length c9]) Z aP Z (H.ent (i:=0) Z) Z ⟨b2,x2,A9,c9,lo9,hi9,hA9,rfl,hc9,gP9,uP9,Ls9,Lo9,F9,B9.at_ [(b4,_),(b3,_)] H,hF9⟩
 refine G (Wb Z)<|U<|ZF Z<|W<|Zr ?_
 refine cR (bh Z Z) Z Z Z (fun h32=> ?_) (fun h32=> ?_)
 refine G (Wb Z)<|U<|ZT Z<|W<|Zr<|G (Yp Z)<|G (Zw dP H 1 Z Z Z)<|cd m5 (Fa (B.into [(b4,_),(b3,_)] H) hw hk h4 g h32) Z Z ?_
 rintro _ w47 ⟨b2,x2,A9,c9,lo9,hi9,hA9,rfl,hc9,gP9,uP9,Ls9,Lo9,F9,B9,hF9⟩
 replace H:=B9.out (X:=[(b4,_),(b3,_)])
 refine bl H 0 (#[J (x2.code),J (x2.n),.slice A9 x2.texts.length c9]) aQ Z Z Z Z Z N N fun w48 H=>U<|Zt ?_
 exact eQ (cs0:= #[J (x2.code),J (x2.n),.slice A9 x2.texts.length c9]) Z aP Z (H.ent (i:=0) Z) Z ⟨b2,x2,A9,c9,lo9,hi9,hA9,rfl,hc9,gP9,uP9,Ls9,Lo9,F9,B9.at_ [(b4,_),(b3,_)] H,hF9⟩
 refine G (Wb Z)<|U<|ZF Z<|W<|Zr ?_
 refine cR (bh Z Z) Z Z Z (fun h37=> ?_) (fun h37=> ?_)
 refine G (Wb Z)<|U<|ZT Z<|W<|Zr<|G (Yp Z)<|G (Zw dP H 1 Z Z Z)<|cd m3 (Ew (B.into [(b4,_),(b3,_)] H) hw hk h4 g h37) Z Z ?_
 rintro _ w49 ⟨b2,x2,A9,c9,lo9,hi9,hA9,rfl,hc9,gP9,uP9,Ls9,Lo9,F9,B9,hF9⟩
 replace H:=B9.out (X:=[(b4,_),(b3,_)])
 refine bl H 0 (#[J (x2.code),J (x2.n),.slice A9 x2.texts.length c9]) aQ Z Z Z Z Z N N fun w50 H=>U<|Zt ?_
 exact eQ (cs0:= #[J (x2.code),J (x2.n),.slice A9 x2.texts.length c9]) Z aP Z (H.ent (i:=0) Z) Z ⟨b2,x2,A9,c9,lo9,hi9,hA9,rfl,hc9,gP9,uP9,Ls9,Lo9,F9,B9.at_ [(b4,_),(b3,_)] H,hF9⟩
 refine G (Wb Z)<|U<|ZF Z<|W<|W<|Zr ?_
 refine cR (bh Z Z) Z Z Z (fun h42=> ?_) (fun h42=> ?_)
 refine G (Wb Z)<|U ?_
 refine eu (τ:=Unit) [41,43,44,45,46,47,48,49] (fun _=>[(41,.bool (decide (8<=a.kind/\a.kind<=15)))]) (fun _ w'=>Hp w0 w' ((b4,.cells #[J (0),J (0),.slice none 0 0] d9 (0,0))::(b3,.cells #[J (a.kind),.string (a.name),J (a.part),J (a.n),J (a.m),.string (a.text),J (a.lost)] f5 (0,0))::(bb,.cells b.c.toArray bK (0,0))::(gP,.cells uP bz (0,0))::(Ls++(Lo++K))) F) ?_ ?_
 refine ZT Z<|Zk ?_
 exact⟨(),H,dF (congrArg Value.bool (decide_eq_true I)).symm,Qg⟩
 rintro _ ρ1 w51 H
 show CW _ _ _ _ (dv (gk _ _ ρ1) [(41,.bool (decide (8<=a.kind/\a.kind<=15)))]) w51
 refine jm Z (fun hc41=> ?_) (fun hc41=> ?_)
 refine W<|Zr<|G (Yp Z)<|G (Zw dP H 1 Z Z Z)<|cd fV (wo (B.into [(b4,_),(b3,_)] H) hw hk h4 g (of_decide_eq_true hc41)) Z Z ?_
 rintro _ w52 ⟨b2,x2,A9,c9,lo9,hi9,hA9,rfl,hc9,gP9,uP9,Ls9,Lo9,F9,B9,hF9⟩
 replace H:=B9.out (X:=[(b4,_),(b3,_)])
 refine bl H 0 (#[J (x2.code),J (x2.n),.slice A9 x2.texts.length c9]) aQ Z Z Z Z Z N N fun w53 H=>U<|Zt ?_
 exact eQ (cs0:= #[J (x2.code),J (x2.n),.slice A9 x2.texts.length c9]) Z aP Z (H.ent (i:=0) Z) Z ⟨b2,x2,A9,c9,lo9,hi9,hA9,rfl,hc9,gP9,uP9,Ls9,Lo9,F9,B9.at_ [(b4,_),(b3,_)] H,hF9⟩
 refine W<|W<|Zr ?_
 refine cR (bh Z Z) Z Z Z (fun h54=> ?_) (fun h54=> ?_)
 refine G (Wb Z)<|U ?_
 refine eu (τ:=Unit) [53,55,56,57] (fun _=>[(53,.bool (decide (a.kind=16∨a.kind=18∨a.kind=20)))]) (fun _ w'=>Hp w0 w' ((b4,.cells #[J (0),J (0),.slice none 0 0] d9 (0,0))::(b3,.cells #[J (a.kind),.string (a.name),J (a.part),J (a.n),J (a.m),.string (a.text),J (a.lost)] f5 (0,0))::(bb,.cells b.c.toArray bK (0,0))::(gP,.cells uP bz (0,0))::(Ls++(Lo++K))) F) ?_ ?_
 refine ZT Z<|Zk ?_
 exact⟨(),H,dF (congrArg Value.bool (decide_eq_true I)).symm,Qg⟩
 rintro _ ρ1 w54 H
 show CW _ _ _ _ (dv (gk _ _ ρ1) [(53,.bool (decide (a.kind=16∨a.kind=18∨a.kind=20)))]) w54
 refine jm Z (fun hc53=> ?_) (fun hc53=> ?_)
 refine W<|Zr<|G (Yp Z)<|G (Zw dP H 1 Z Z Z)<|cd dM (qD (B.into [(b4,_),(b3,_)] H) hw hk h4 g (of_decide_eq_true hc53)) Z Z ?_
 rintro _ w55 ⟨b2,x2,A9,c9,lo9,hi9,hA9,rfl,hc9,gP9,uP9,Ls9,Lo9,F9,B9,hF9⟩
 replace H:=B9.out (X:=[(b4,_),(b3,_)])
 refine bl H 0 (#[J (x2.code),J (x2.n),.slice A9 x2.texts.length c9]) aQ Z Z Z Z Z N N fun w56 H=>U<|Zt ?_
 exact eQ (cs0:= #[J (x2.code),J (x2.n),.slice A9 x2.texts.length c9]) Z aP Z (H.ent (i:=0) Z) Z ⟨b2,x2,A9,c9,lo9,hi9,hA9,rfl,hc9,gP9,uP9,Ls9,Lo9,F9,B9.at_ [(b4,_),(b3,_)] H,hF9⟩
 refine W<|Zr ?_
 refine cR (bh Z Z) Z Z Z (fun h62=> ?_) (fun h62=> ?_)
 refine G (Wb Z)<|U<|ZT Z<|W<|Zr<|G (Yp Z)<|G (Zw dP H 1 Z Z Z)<|cd ee (nZ (B.into [(b4,_),(b3,_)] H) hw hk h4 g h62) Z Z ?_
 rintro _ w57 ⟨b2,x2,A9,c9,lo9,hi9,hA9,rfl,hc9,gP9,uP9,Ls9,Lo9,F9,B9,hF9⟩
 replace H:=B9.out (X:=[(b4,_),(b3,_)])
 refine bl H 0 (#[J (x2.code),J (x2.n),.slice A9 x2.texts.length c9]) aQ Z Z Z Z Z N N fun w58 H=>U<|Zt ?_
 exact eQ (cs0:= #[J (x2.code),J (x2.n),.slice A9 x2.texts.length c9]) Z aP Z (H.ent (i:=0) Z) Z ⟨b2,x2,A9,c9,lo9,hi9,hA9,rfl,hc9,gP9,uP9,Ls9,Lo9,F9,B9.at_ [(b4,_),(b3,_)] H,hF9⟩
 exfalso;have h41:=of_decide_eq_false hc41;have h53:=of_decide_eq_false hc53;have h17:=of_decide_eq_false hc17;omega
 refine G (Wb Z)<|U ?_
 refine eu (τ:=Unit) [53,55,56,57] (fun _=>[(53,.bool (decide (a.kind=16∨a.kind=18∨a.kind=20)))]) (fun _ w'=>Hp w0 w' ((b4,.cells #[J (0),J (0),.slice none 0 0] d9 (0,0))::(b3,.cells #[J (a.kind),.string (a.name),J (a.part),J (a.n),J (a.m),.string (a.text),J (a.lost)] f5 (0,0))::(bb,.cells b.c.toArray bK (0,0))::(gP,.cells uP bz (0,0))::(Ls++(Lo++K))) F) ?_ ?_
 refine ZF Z<|W<|Zr ?_
 refine cR (bh Z Z) Z Z Z (fun h55=> ?_) (fun h55=> ?_)
 exact absurd h55 hkd.2.2
 refine G (Wb Z)<|U<|ZF Z<|W<|Zr ?_
 refine cR (bh Z Z) Z Z Z (fun h56=> ?_) (fun h56=> ?_)
 refine G (Wb Z)<|U<|ZT Z<|Zk ?_
 exact⟨(),H,dF (congrArg Value.bool (decide_eq_true I)).symm,Qg⟩
 refine G (Wb Z)<|U<|ZF Z<|Zr ?_
 refine cR (bh Z Z) Z Z Z (fun h57=> ?_) (fun h57=> ?_)
 refine G (Wb Z)<|U ?_
 exact⟨(),H,dF (congrArg Value.bool (decide_eq_true I)).symm,Qg⟩
 refine G (Wb Z)<|U ?_
 exact⟨(),H,dF (congrArg Value.bool (decide_eq_false I)).symm,Qg⟩
 rintro _ ρ1 w59 H
 show CW _ _ _ _ (dv (gk _ _ ρ1) [(53,.bool (decide (a.kind=16∨a.kind=18∨a.kind=20)))]) w59
 refine jm Z (fun hc53=> ?_) (fun hc53=> ?_)
 refine W<|Zr<|G (Yp Z)<|G (Zw dP H 1 Z Z Z)<|cd dM (qD (B.into [(b4,_),(b3,_)] H) hw hk h4 g (of_decide_eq_true hc53)) Z Z ?_
 rintro _ w60 ⟨b2,x2,A9,c9,lo9,hi9,hA9,rfl,hc9,gP9,uP9,Ls9,Lo9,F9,B9,hF9⟩
 replace H:=B9.out (X:=[(b4,_),(b3,_)])
 refine bl H 0 (#[J (x2.code),J (x2.n),.slice A9 x2.texts.length c9]) aQ Z Z Z Z Z N N fun w61 H=>U<|Zt ?_
 exact eQ (cs0:= #[J (x2.code),J (x2.n),.slice A9 x2.texts.length c9]) Z aP Z (H.ent (i:=0) Z) Z ⟨b2,x2,A9,c9,lo9,hi9,hA9,rfl,hc9,gP9,uP9,Ls9,Lo9,F9,B9.at_ [(b4,_),(b3,_)] H,hF9⟩
 refine W<|Zr ?_
 refine cR (bh Z Z) Z Z Z (fun h62=> ?_) (fun h62=> ?_)
 refine G (Wb Z)<|U<|ZT Z<|W<|Zr<|G (Yp Z)<|G (Zw dP H 1 Z Z Z)<|cd ee (nZ (B.into [(b4,_),(b3,_)] H) hw hk h4 g h62) Z Z ?_
 rintro _ w62 ⟨b2,x2,A9,c9,lo9,hi9,hA9,rfl,hc9,gP9,uP9,Ls9,Lo9,F9,B9,hF9⟩
 replace H:=B9.out (X:=[(b4,_),(b3,_)])
 refine bl H 0 (#[J (x2.code),J (x2.n),.slice A9 x2.texts.length c9]) aQ Z Z Z Z Z N N fun w63 H=>U<|Zt ?_
 exact eQ (cs0:= #[J (x2.code),J (x2.n),.slice A9 x2.texts.length c9]) Z aP Z (H.ent (i:=0) Z) Z ⟨b2,x2,A9,c9,lo9,hi9,hA9,rfl,hc9,gP9,uP9,Ls9,Lo9,F9,B9.at_ [(b4,_),(b3,_)] H,hF9⟩
 exfalso;have h41:=of_decide_eq_false hc41;have h53:=of_decide_eq_false hc53;have h17:=of_decide_eq_false hc17;omega
 refine G (Wb Z)<|U ?_
 refine eu (τ:=Unit) [41,43,44,45,46,47,48,49] (fun _=>[(41,.bool (decide (8<=a.kind/\a.kind<=15)))]) (fun _ w'=>Hp w0 w' ((b4,.cells #[J (0),J (0),.slice none 0 0] d9 (0,0))::(b3,.cells #[J (a.kind),.string (a.name),J (a.part),J (a.n),J (a.m),.string (a.text),J (a.lost)] f5 (0,0))::(bb,.cells b.c.toArray bK (0,0))::(gP,.cells uP bz (0,0))::(Ls++(Lo++K))) F) ?_ ?_
 refine ZF Z<|W<|Zr ?_
 refine cR (bh Z Z) Z Z Z (fun h43=> ?_) (fun h43=> ?_)
 refine G (Wb Z)<|U<|ZT Z<|Zk ?_
 exact⟨(),H,dF (congrArg Value.bool (decide_eq_true I)).symm,Qg⟩
 refine G (Wb Z)<|U<|ZF Z<|W<|Zr ?_
 refine cR (bh Z Z) Z Z Z (fun h44=> ?_) (fun h44=> ?_)
 refine G (Wb Z)<|U<|ZT Z<|Zk ?_
 exact⟨(),H,dF (congrArg Value.bool (decide_eq_true I)).symm,Qg⟩
 refine G (Wb Z)<|U<|ZF Z<|W<|Zr ?_
 refine cR (bh Z Z) Z Z Z (fun h45=> ?_) (fun h45=> ?_)
 refine G (Wb Z)<|U<|ZT Z<|Zk ?_
 exact⟨(),H,dF (congrArg Value.bool (decide_eq_true I)).symm,Qg⟩
 refine G (Wb Z)<|U<|ZF Z<|W<|Zr ?_
 refine cR (bh Z Z) Z Z Z (fun h46=> ?_) (fun h46=> ?_)
 refine G (Wb Z)<|U<|ZT Z<|Zk ?_
 exact⟨(),H,dF (congrArg Value.bool (decide_eq_true I)).symm,Qg⟩
 refine G (Wb Z)<|U<|ZF Z<|W<|Zr ?_
 refine cR (bh Z Z) Z Z Z (fun h47=> ?_) (fun h47=> ?_)
 refine G (Wb Z)<|U<|ZT Z<|Zk ?_
 exact⟨(),H,dF (congrArg Value.bool (decide_eq_true I)).symm,Qg⟩
 refine G (Wb Z)<|U<|ZF Z<|W<|Zr ?_
 refine cR (bh Z Z) Z Z Z (fun h48=> ?_) (fun h48=> ?_)
 refine G (Wb Z)<|U<|ZT Z<|Zk ?_
 exact⟨(),H,dF (congrArg Value.bool (decide_eq_true I)).symm,Qg⟩
 refine G (Wb Z)<|U<|ZF Z<|Zr ?_
 refine cR (bh Z Z) Z Z Z (fun h49=> ?_) (fun h49=> ?_)
 refine G (Wb Z)<|U ?_
 exact⟨(),H,dF (congrArg Value.bool (decide_eq_true I)).symm,Qg⟩
 refine G (Wb Z)<|U ?_
 exact⟨(),H,dF (congrArg Value.bool (decide_eq_false I)).symm,Qg⟩
 rintro _ ρ1 w64 H
 show CW _ _ _ _ (dv (gk _ _ ρ1) [(41,.bool (decide (8<=a.kind/\a.kind<=15)))]) w64
 refine jm Z (fun hc41=> ?_) (fun hc41=> ?_)
 refine W<|Zr<|G (Yp Z)<|G (Zw dP H 1 Z Z Z)<|cd fV (wo (B.into [(b4,_),(b3,_)] H) hw hk h4 g (of_decide_eq_true hc41)) Z Z ?_
 rintro _ w65 ⟨b2,x2,A9,c9,lo9,hi9,hA9,rfl,hc9,gP9,uP9,Ls9,Lo9,F9,B9,hF9⟩
 replace H:=B9.out (X:=[(b4,_),(b3,_)])
 refine bl H 0 (#[J (x2.code),J (x2.n),.slice A9 x2.texts.length c9]) aQ Z Z Z Z Z N N fun w66 H=>U<|Zt ?_
 exact eQ (cs0:= #[J (x2.code),J (x2.n),.slice A9 x2.texts.length c9]) Z aP Z (H.ent (i:=0) Z) Z ⟨b2,x2,A9,c9,lo9,hi9,hA9,rfl,hc9,gP9,uP9,Ls9,Lo9,F9,B9.at_ [(b4,_),(b3,_)] H,hF9⟩
 refine W<|W<|Zr ?_
 refine cR (bh Z Z) Z Z Z (fun h54=> ?_) (fun h54=> ?_)
 refine G (Wb Z)<|U ?_
 refine eu (τ:=Unit) [53,55,56,57] (fun _=>[(53,.bool (decide (a.kind=16∨a.kind=18∨a.kind=20)))]) (fun _ w'=>Hp w0 w' ((b4,.cells #[J (0),J (0),.slice none 0 0] d9 (0,0))::(b3,.cells #[J (a.kind),.string (a.name),J (a.part),J (a.n),J (a.m),.string (a.text),J (a.lost)] f5 (0,0))::(bb,.cells b.c.toArray bK (0,0))::(gP,.cells uP bz (0,0))::(Ls++(Lo++K))) F) ?_ ?_
 refine ZT Z<|Zk ?_
 exact⟨(),H,dF (congrArg Value.bool (decide_eq_true I)).symm,Qg⟩
 rintro _ ρ1 w67 H
 show CW _ _ _ _ (dv (gk _ _ ρ1) [(53,.bool (decide (a.kind=16∨a.kind=18∨a.kind=20)))]) w67
 refine jm Z (fun hc53=> ?_) (fun hc53=> ?_)
 refine W<|Zr<|G (Yp Z)<|G (Zw dP H 1 Z Z Z)<|cd dM (qD (B.into [(b4,_),(b3,_)] H) hw hk h4 g (of_decide_eq_true hc53)) Z Z ?_
 rintro _ w68 ⟨b2,x2,A9,c9,lo9,hi9,hA9,rfl,hc9,gP9,uP9,Ls9,Lo9,F9,B9,hF9⟩
 replace H:=B9.out (X:=[(b4,_),(b3,_)])
 refine bl H 0 (#[J (x2.code),J (x2.n),.slice A9 x2.texts.length c9]) aQ Z Z Z Z Z N N fun w69 H=>U<|Zt ?_
 exact eQ (cs0:= #[J (x2.code),J (x2.n),.slice A9 x2.texts.length c9]) Z aP Z (H.ent (i:=0) Z) Z ⟨b2,x2,A9,c9,lo9,hi9,hA9,rfl,hc9,gP9,uP9,Ls9,Lo9,F9,B9.at_ [(b4,_),(b3,_)] H,hF9⟩
 refine W<|Zr ?_
 refine cR (bh Z Z) Z Z Z (fun h62=> ?_) (fun h62=> ?_)
 refine G (Wb Z)<|U<|ZT Z<|W<|Zr<|G (Yp Z)<|G (Zw dP H 1 Z Z Z)<|cd ee (nZ (B.into [(b4,_),(b3,_)] H) hw hk h4 g h62) Z Z ?_
 rintro _ w70 ⟨b2,x2,A9,c9,lo9,hi9,hA9,rfl,hc9,gP9,uP9,Ls9,Lo9,F9,B9,hF9⟩
 replace H:=B9.out (X:=[(b4,_),(b3,_)])
 refine bl H 0 (#[J (x2.code),J (x2.n),.slice A9 x2.texts.length c9]) aQ Z Z Z Z Z N N fun w71 H=>U<|Zt ?_
 exact eQ (cs0:= #[J (x2.code),J (x2.n),.slice A9 x2.texts.length c9]) Z aP Z (H.ent (i:=0) Z) Z ⟨b2,x2,A9,c9,lo9,hi9,hA9,rfl,hc9,gP9,uP9,Ls9,Lo9,F9,B9.at_ [(b4,_),(b3,_)] H,hF9⟩
 exfalso;have h41:=of_decide_eq_false hc41;have h53:=of_decide_eq_false hc53;have h17:=of_decide_eq_false hc17;omega
 refine G (Wb Z)<|U ?_
 refine eu (τ:=Unit) [53,55,56,57] (fun _=>[(53,.bool (decide (a.kind=16∨a.kind=18∨a.kind=20)))]) (fun _ w'=>Hp w0 w' ((b4,.cells #[J (0),J (0),.slice none 0 0] d9 (0,0))::(b3,.cells #[J (a.kind),.string (a.name),J (a.part),J (a.n),J (a.m),.string (a.text),J (a.lost)] f5 (0,0))::(bb,.cells b.c.toArray bK (0,0))::(gP,.cells uP bz (0,0))::(Ls++(Lo++K))) F) ?_ ?_
 refine ZF Z<|W<|Zr ?_
 refine cR (bh Z Z) Z Z Z (fun h55=> ?_) (fun h55=> ?_)
 exact absurd h55 hkd.2.2
 refine G (Wb Z)<|U<|ZF Z<|W<|Zr ?_
 refine cR (bh Z Z) Z Z Z (fun h56=> ?_) (fun h56=> ?_)
 refine G (Wb Z)<|U<|ZT Z<|Zk ?_
 exact⟨(),H,dF (congrArg Value.bool (decide_eq_true I)).symm,Qg⟩
 refine G (Wb Z)<|U<|ZF Z<|Zr ?_
 refine cR (bh Z Z) Z Z Z (fun h57=> ?_) (fun h57=> ?_)
 refine G (Wb Z)<|U ?_
 exact⟨(),H,dF (congrArg Value.bool (decide_eq_true I)).symm,Qg⟩
 refine G (Wb Z)<|U ?_
 exact⟨(),H,dF (congrArg Value.bool (decide_eq_false I)).symm,Qg⟩
 rintro _ ρ1 w72 H
 show CW _ _ _ _ (dv (gk _ _ ρ1) [(53,.bool (decide (a.kind=16∨a.kind=18∨a.kind=20)))]) w72
 refine jm Z (fun hc53=> ?_) (fun hc53=> ?_)
 refine W<|Zr<|G (Yp Z)<|G (Zw dP H 1 Z Z Z)<|cd dM (qD (B.into [(b4,_),(b3,_)] H) hw hk h4 g (of_decide_eq_true hc53)) Z Z ?_
 rintro _ w73 ⟨b2,x2,A9,c9,lo9,hi9,hA9,rfl,hc9,gP9,uP9,Ls9,Lo9,F9,B9,hF9⟩
 replace H:=B9.out (X:=[(b4,_),(b3,_)])
 refine bl H 0 (#[J (x2.code),J (x2.n),.slice A9 x2.texts.length c9]) aQ Z Z Z Z Z N N fun w74 H=>U<|Zt ?_
 exact eQ (cs0:= #[J (x2.code),J (x2.n),.slice A9 x2.texts.length c9]) Z aP Z (H.ent (i:=0) Z) Z ⟨b2,x2,A9,c9,lo9,hi9,hA9,rfl,hc9,gP9,uP9,Ls9,Lo9,F9,B9.at_ [(b4,_),(b3,_)] H,hF9⟩
 refine W<|Zr ?_
 refine cR (bh Z Z) Z Z Z (fun h62=> ?_) (fun h62=> ?_)
 refine G (Wb Z)<|U<|ZT Z<|W<|Zr<|G (Yp Z)<|G (Zw dP H 1 Z Z Z)<|cd ee (nZ (B.into [(b4,_),(b3,_)] H) hw hk h4 g h62) Z Z ?_
 rintro _ w75 ⟨b2,x2,A9,c9,lo9,hi9,hA9,rfl,hc9,gP9,uP9,Ls9,Lo9,F9,B9,hF9⟩
 replace H:=B9.out (X:=[(b4,_),(b3,_)])
 refine bl H 0 (#[J (x2.code),J (x2.n),.slice A9 x2.texts.length c9]) aQ Z Z Z Z Z N N fun w76 H=>U<|Zt ?_
 exact eQ (cs0:= #[J (x2.code),J (x2.n),.slice A9 x2.texts.length c9]) Z aP Z (H.ent (i:=0) Z) Z ⟨b2,x2,A9,c9,lo9,hi9,hA9,rfl,hc9,gP9,uP9,Ls9,Lo9,F9,B9.at_ [(b4,_),(b3,_)] H,hF9⟩
 exfalso;have h41:=of_decide_eq_false hc41;have h53:=of_decide_eq_false hc53;have h17:=of_decide_eq_false hc17;omega
end Go.Proofs.YtclibalpdhhhfaaGreat
