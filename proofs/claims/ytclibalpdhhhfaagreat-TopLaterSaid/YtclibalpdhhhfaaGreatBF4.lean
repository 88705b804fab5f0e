/- Part 4 of the proofs over this seat: what its theorems say holds for every input that they name. -/
import Derived.Test.YtclibalpdhhhfaaGreatBF3
namespace Go.Proofs.YtclibalpdhhhfaaGreat
open Go Go.Eng Go.RowKit
open Go.Eng renaming nk→U, AV→W, JB→Zr, Nj→Zk, PC→Zt, O0→Zb, Pj→Zx, PK→Yi, PL→Yb, PI→Ys, PJ→Yp, PH→Yt, PG→Yu, PZ→Wi, P0→Wb, PX→Ws, PY→Wp, PW→Wt, PO→Zf, PR→Xi, PU→Xa, PQ→Xs, Ps→Kt, Pt→N, pL→ZT, oD→ZF
open Go.Proofs.Tryz renaming prog→aa
open _root_.List renaming length_set→ab,mem_of_getElem?→ae,getElem?_eq_getElem→ah,mem_cons_of_mem→ak,getElem?_set_self→am,mem_singleton→aq,mem_append→ar,replicate→au,mem_cons→ax,length_append→ay,mem_cons_self→az,append_assoc→aE,length_take→aH,getElem?_map→aL,mem_iff_getElem?→aX,append_nil→aY,findIdx?_eq_some_iff_getElem→bg,map_append→bk,mem_map→bw,length_map→bA,mem_or_eq_of_mem_set→bF,length_replicate→bH,take_length→bJ,mem_map_of_mem→bL,mem_nil_iff→bO,length_singleton→bP,eq_nil_of_length_eq_zero→bT,getD_eq_getElem?_getD→bZ,sublist_append_right→cm,getElem?_append_right→cv,map_set→cz,length_cons→cE,getElem?_eq_none→cJ,findIdx?_eq_none_iff→dn,getElem?_drop→dL,mem_singleton_self→dX,pairwise_cons→ek,map_cons→eI,ext_getElem?→eJ,set_set→fm,prefix_refl→fo,drop_length→fp,eq_of_mem_replicate→fB,getElem?_replicate→fR,perm_append_comm_assoc→fU,set_append_right→i8,pairwise_map→jn,mem_filter→kQ,getElem?_set→lw,pairwise_append→l7,map_nil→mn,pairwise_iff_getElem→mR,drop_eq_getElem_cons→mS,map_map→sg,getElem_mem→vH,set_cons_zero→Bu,findIdx?_map→C9,any_eq_false→Da
open _root_.List.Perm renaming cons→ai,swap→al
open _root_.Nat renaming le_refl→ao,le_trans→aT,min_eq_left→bu,le_succ→bB,zero_le→bG,add_assoc→kX,sub_self→mj,le_of_lt→ml,add_comm→sf
open _root_.List.Sublist renaming refl→ap
open _root_.Bool renaming and_eq_true→aR,not_eq_true'→pi
open _root_.Option.some renaming inj→bj,injEq→lv
open _root_.Option renaming map_some→eU,bind_some→fQ,map_eq_some_iff→iG
open _root_.Int renaming le_refl→iV
set_option maxHeartbeats 4000000
set_option maxRecDepth 20000
set_option linter.unusedSimpArgs false
set_option linter.unusedVariables false
set_option linter.unusedSectionVars false
theorem Co.rd.st {c:Co} {lo hi:Nat} {w w':World} (hk: ∀ k,lo<=k->k<hi->w'.heap[k]? =w.heap[k]?) (h:c.rd lo hi w):c.rd lo hi w':=
 ⟨h.row.st hk,fun t ht=>(h.parts t ht).st hk,h.cap,h.few,h.fewP⟩
theorem Co.rd.mono {c:Co} {lo hi lo' hi':Nat} {w:World} (h:c.rd lo hi w) (hl:lo'<=lo) (hh:hi<=hi'):c.rd lo' hi' w:=
 ⟨h.row.mono hl hh,fun t ht=>(h.parts t ht).mono hl hh,h.cap,h.few,h.fewP⟩
def Qv (lo hi:Nat) (c:Co):cr:=⟨lo,hi,c.rd lo hi,fun _ _ hk h=>h.st hk⟩
theorem Hp.co {w0 w:World} {L:List (Nat×Obj)} {F:List cr} {lo hi:Nat} {c:Co} (H:Hp w0 w L F) (i:Nat) (hF:F[i]? =some (Qv lo hi c)):c.rd 0 w.heap.size w:=
 Co.rd.mono (H.fact hF) (bG _) (H.facts _ (ae hF)).2.1
def un (w w2:World) (c:Co):Prop:=c.rd w.heap.size w2.heap.size w2/\Below w.heap.size w w2
theorem HD.new {w w2:World} {c:Co} (h:HD w w2 c) (h1:c.txs.length<=8) (h2: ∀ t∈c.txs,t.parts.length<=4):un w w2 c:=
 ⟨⟨h.row,h.parts,h.cap,by omega,fun t ht=>⟨by have:=h2 t ht;omega,h.caps t ht⟩⟩,h.below⟩
theorem pp {w w2:World} (h:Below w.heap.size w w2):un w w2 yW:=(NP h).new (by simp[yW]) (by simp[yW])
theorem E3 {l:List Int} (h:cS (-1) l=true):l.length<=4:=by have:=mq h;omega
theorem Cp {ck nx:Int}: ∀ {l pre:List Tx},nY ck nx pre l=true↔(∀ t∈l,fD ck nx t=true)/\(∀ t∈l,∀ p∈pre,sv t p=false)/\l.Pairwise (fun p t=>sv t p=false)
 |[],pre=>by simp[nY]
 |t::l,pre=>by
  unfold nY
  rw[aR,aR,Cp,ek]
  simp only[ax,ar,aq,forall_eq_or_imp,pi,Da]
  constructor
  rintro⟨⟨h1,h2⟩,h3,h4,h5⟩
  exact⟨⟨h1,h3⟩,⟨fun p hp=>by simpa using h2 p hp,fun a ha p hp=>h4 a ha p (.inl hp)⟩,fun a ha=>h4 a ha t (by simp),h5⟩
  rintro⟨⟨h1,h3⟩,⟨h2,h4⟩,h5,h6⟩
  exact⟨⟨h1,fun p hp=>by simpa using h2 p hp⟩,h3,fun a ha p hp=>hp.elim (h4 a ha p) (fun h=>by have:=h5 a ha;simp at h;rwa[h]),h6⟩
def vJ (l:List Tx):Prop:=(l.map fun t=>(t.name,t.pid)).Pairwise fun p t=>p.1≠t.1/\p.2≠t.2
theorem JL {l:List Tx}:vJ l↔l.Pairwise (fun p t=>sv t p=false):=by
 unfold vJ
 rw[jn]
 constructor<;>intro h<;>refine h.imp fun{a b} hab=> ?_
 simpa [sv]using hab
 simpa [sv]using hab
theorem gG {c:Co}:gD c=true↔(iQ c.clock=true/\1<=c.next/\c.next<=1073741824/\1<=c.wait/\c.wait<=1000/\(c.txs.length:Int)<=8)/\(∀ t∈c.txs,fD c.clock c.next t=true)/\vJ c.txs:=by
 rw[iU,Cp,JL]
 constructor
 rintro⟨h1,h2,h3,h4,h5,h6,h7,h8,h9⟩;exact⟨⟨h1,h2,h3,h4,h5,h6⟩,h7,h9⟩
 rintro⟨⟨h1,h2,h3,h4,h5,h6⟩,h7,h9⟩;exact⟨h1,h2,h3,h4,h5,h6,h7,by simp,h9⟩
theorem Hq {c:Co} (h:gD c=true):c.txs.length<=8/\ ∀ t∈c.txs,t.parts.length<=4:=by
 obtain⟨⟨_,_,_,_,_,h6⟩,h7,_⟩:=gG.1 h
 exact⟨by omega,fun t ht=>E3 (cC.1 (h7 t ht)).2.2.2.2.2.2.2.2.2.1⟩
theorem qm.new {w w2:World} {ca c':Co} {Lr Lp:List (Nat×Obj)} (h:qm w w2 ca c' Lr Lp) (hok:gD ca=true):un w w2 c':=by
 have h1:gD c'=true:=by rw[sR,h.1];exact hok
 obtain⟨h2,h3⟩:=Hq h1
 exact h.read.new h2 h3
def fZ (c:Co) (s:ByteArray):Option (Nat×Tx):=(c.txs.findIdx? fun p=>decide (p.name=s)).bind fun i=>c.txs[i]?.map fun t=>(i,t)
def qF (c:Co) (i:Nat) (t:Tx):Co:={c with txs:=c.txs.set i t}
theorem uJ {c:Co} {s:ByteArray} (h:fZ c s=none):fH c s= -1:=by
 unfold fZ at h
 unfold fH
 cases hi:c.txs.findIdx? fun p=>decide (p.name=s)with
 |none=>rfl
 |some i=>
  obtain⟨hl,-⟩:=bg.1 hi
  rw[hi]at h
  simp[ah hl]at h
theorem jg {c:Co} {s:ByteArray} {i:Nat} {t:Tx} (h:fZ c s=some (i,t)):fH c s=i/\c.txs[i]? =some t/\t.name=s:=by
 unfold fZ at h
 unfold fH
 cases hi:c.txs.findIdx? fun p=>decide (p.name=s)with
 |none=>rw[hi]at h;cases h
 |some j=>
  obtain⟨hl,hn,-⟩:=bg.1 hi
  rw[hi]at h
  simp only[fQ,ah hl,eU,lv,Prod.mk.injEq]at h
  obtain⟨rfl,rfl⟩:=h
  exact⟨rfl,ah hl,by simpa using hn⟩
theorem AO (c:Co) (s:ByteArray):fZ c.a s=(fZ c s).map fun(i,t)=>(i,t.a):=by
 have e:c.a.txs.findIdx? (fun p=>decide (p.name=s))=c.txs.findIdx? fun p=>decide (p.name=s):=by
  show(c.txs.map Tx.a).findIdx? _=_
  rw[C9]
  rfl
 unfold fZ
 rw[e]
 cases c.txs.findIdx? fun p=>decide (p.name=s)with
 |none=>rfl
 |some i=>
  show(c.txs.map Tx.a)[i]?.map _=(c.txs[i]?.map _).map _
  rw[aL]
  cases c.txs[i]? <;>rfl
theorem zh (c:Co) (i:Nat) (t:Tx):(qF c i t).a=qF c.a i t.a:=by
 unfold qF Co.a
 simp only[cz]
theorem JD (c:Co) (s:ByteArray):(qg c s).a=qg c.a s:=by
 unfold qg Co.a
 simp only[bk,eI,mn]
 rfl
def bS (c:Co) (s:ByteArray):Co×Int×Int×Int:=match fZ c s with
 |none=>if c.txs.length=8 then(yW,0,0,16)else(qg c s,c.next,0,0)
 |some (i,t)=>if t.state=3∨t.state=4 then(yW,0,0,12)else(qF c i (jf t),t.pid,t.ver+1,0)
def oI (c:Co) (s:ByteArray) (ver p:Int):Co×Int:=match fZ c s with
 |none=>(yW,5)
 |some (i,t)=>if t.ver≠ver then(yW,10)else if t.state=1∨t.state=2 then(qF c i (iy c.clock p t),0)else(yW,12)
def kU (c:Co) (s:ByteArray) (ver:Int) (b:Bool):Co×Int:=match fZ c s with
 |none=>(yW,5)
 |some (i,t)=>if t.ver≠ver then(yW,10)else match eH (vL b) t with
  |none=>(yW,12)
  |some t'=>(qF c i t',0)
def qN (c:Co) (s:ByteArray) (p:Int):Co×Int:=match fZ c s with
 |none=>(yW,5)
 |some (i,t)=>if t.state=3∨t.state=4 then if p∈t.parts then(qF c i (gw p t),0)else(yW,5)else(yW,12)
def jc (c:Co) (n:Int):Co×Int:=if 1000<n then(yW,2)else(vM c n,0)
structure oO (k:Nat) (c:Co):Prop where
 ok:gD c=true
 clock:c.clock<=1000*k
 next:c.next<=k+1
 ver: ∀ t∈c.txs,t.ver<=k
theorem oO.more {k m:Nat} {c:Co} (h:oO k c) (hm:k<=m):oO m c:=⟨h.ok,by have:=h.clock;omega,by have:=h.next;omega,fun t ht=>by have:=h.ver t ht;omega⟩
theorem DB {α:Type} {l:List α} {i:Nat} {a x:α} (h:x∈l.set i a):x∈l∨x=a:=bF h
theorem JK {l:List Tx} {i:Nat} {t t':Tx} (h:vJ l) (hi:l[i]? =some t) (hn:t'.name=t.name) (hp:t'.pid=t.pid):vJ (l.set i t'):=by
 unfold vJ at h⊢
 rw[cz,hn,hp,iK (by rw[aL,hi];rfl)]
 exact h
theorem oO.set {k:Nat} {c:Co} {i:Nat} {t t':Tx} (h:oO k c) (hi:c.txs[i]? =some t) (hn:t'.name=t.name) (hp:t'.pid=t.pid) (hok:fD c.clock c.next t'=true) (hv:t'.ver<=k+1):oO (k+1) (qF c i t'):=by
 obtain⟨h1,h2,h3⟩:=gG.1 h.ok
 refine⟨gG.2 ⟨?_,fun x hx=> ?_,JK h3 hi hn hp⟩,?_,?_,fun x hx=> ?_⟩
 simpa [qF]using h1
 rcases DB hx with hx|rfl
 exact h2 x hx
 exact hok
 have:=h.clock;show c.clock<=_;omega
 have:=h.next;show c.next<=_;omega
 rcases DB hx with hx|rfl
 have:=h.ver x hx;omega
 omega
theorem OV:(1:Int)<=1:=by decide
theorem Py:(1:Int)<=2:=by decide
theorem M4:(1:Int)<=4:=by decide
theorem Px:(2:Int)<=4:=by decide
theorem OU:(4:Int)<=4:=by decide
theorem OW:(1:Int)=1↔([]:List Int).length=0:=by decide
theorem jH {n:Int}:iQ n=true↔0<=n/\n<=1073741824:=by unfold iQ;simp
theorem HY {k:Nat} {c:Co} {s:ByteArray} (h:oO k c) (hk:k<=1000) (hn:bM s=true) (h0:(bS c s).2.2.2=0):oO (k+1) (bS c s).1:=by
 have hb:=h
 obtain⟨⟨h1,h2,h3,h4,h5,h6⟩,h7,h8⟩:=gG.1 h.ok
 unfold bS at h0⊢
 cases hf:fZ c s with
 |none=>
  rw[hf]at h0
  dsimp only at h0⊢
  by_cases hl:c.txs.length=8
  rw[if_pos hl]at h0;cases h0
  rw[if_neg hl]at h0⊢
  have hnx:=h.next
  have hck:=h.clock
  have hni:=uJ hf
  refine⟨gG.2 ⟨⟨h1,?_,?_,h4,h5,?_⟩,fun t ht=> ?_,?_⟩,?_,?_,fun t ht=> ?_⟩
  show 1<=c.next+1;omega
  show c.next+1<=_;omega
  show((c.txs++[_]).length:Int)<=8
  rw[ay,bP];omega
  rcases ar.1 ht with ht|ht
  have:=cC.1 (h7 t ht)
  exact cC.2 ⟨this.1,this.2.1,by show t.pid<c.next+1;have:=this.2.2.1;omega,this.2.2.2⟩
  rw[aq.1 ht]
  exact cC.2 ⟨hn,h2,by show c.next<c.next+1;omega,by kernel_rfl,OV,M4,by show(0:Int)<=0;omega,by show(0:Int)<=c.clock;exact(jH.1 h1).1,.inl Z,rfl,OW⟩
  unfold vJ at h8⊢
  show((c.txs++[iN s c.next]).map _).Pairwise _
  rw[bk,l7]
  refine⟨h8,by simp,fun a ha b hb=> ?_⟩
  obtain⟨t,ht,rfl⟩:=bw.1 ha
  simp only[eI,mn,aq]at hb
  subst hb
  refine⟨fun he=> ?_,fun he=> ?_⟩
  have:(c.txs.findIdx? fun p=>decide (p.name=s))=none:=by
   cases hi:c.txs.findIdx? fun p=>decide (p.name=s)with
   |none=>rfl
   |some j=>unfold fH at hni;rw[hi]at hni;simp[lG]at hni
  rw[dn]at this
  have:=this t ht
  simp[show t.name=s from he]at this
  have:=(cC.1 (h7 t ht)).2.2.1
  have he':t.pid=c.next:=he
  omega
  show c.clock<=_;omega
  show c.next+1<=_;omega
  rcases ar.1 ht with ht|ht
  have:=h.ver t ht;omega
  rw[aq.1 ht];show(0:Int)<=_;omega
 |some x=>
  obtain⟨i,t⟩:=x
  rw[hf]at h0
  dsimp only at h0⊢
  obtain⟨hi,ht,-⟩:=jg hf
  by_cases hs:t.state=3∨t.state=4
  rw[if_pos hs]at h0;cases h0
  rw[if_neg hs]at h0⊢
  have hm:=ae ht
  have hv:=h.ver t hm
  obtain⟨a1,a2,a3,a4,a5,a6,a7,a8,a9,a10,a11⟩:=cC.1 (h7 t hm)
  have hv0:=(jH.1 a4).1
  refine h.set ht ?_ ?_ ?_ ?_
  unfold jf;split<;>rfl
  unfold jf;split<;>rfl
  unfold jf
  split
  rename_i h2'
  exact cC.2 ⟨a1,a2,a3,jH.2 ⟨by show 0<=t.ver+1;omega,by show t.ver+1<=_;omega⟩,M4,OU,a7,a8,a9,a10,by constructor;intro h;cases h;intro h;have:=a11.2 h;omega⟩
  exact cC.2 ⟨a1,a2,a3,jH.2 ⟨by show 0<=t.ver+1;omega,by show t.ver+1<=_;omega⟩,a5,a6,a7,a8,a9,a10,a11⟩
  unfold jf;split<;>(show t.ver+1<=_;omega)
theorem Gb {l:List Int} {p:Int} (h:cS (-1) l=true) (h0:0<=p) (h3:p<4):cS (-1) (kD l p)=true/\(kD l p).length≠0:=by
 have key: ∀ (l:List Int) (a:Int),l.Pairwise (· < ·)->(∀ q∈l,a<q/\q<4)->cS a l=true:=by
  intro l
  induction l with
  |nil=>intro a _ _;rfl
  |cons x l ih=>
   intro a hp hq
   obtain⟨h1,h2⟩:=ek.1 hp
   unfold cS
   have:=hq x (az ..)
   rw[ih x h2 fun q hq'=>⟨h1 q hq',(hq q (ak _ hq')).2⟩]
   simp[this.1,this.2]
 obtain⟨hp,hq⟩:=fG h
 unfold kD
 split
 rename_i hm
 refine⟨h,fun h0=> ?_⟩
 rw[bT h0]at hm;cases hm
 rename_i hm
 refine⟨key _ _ ?_ ?_,by simp⟩
 rw[aE,l7]
 refine⟨hp.filter _,?_,?_⟩
 rw[l7]
 refine⟨by simp,hp.filter _,fun a ha b hb=> ?_⟩
 rw[aq.1 ha]
 simp only[kQ,decide_eq_true_eq]at hb
 have:b≠p:=fun h=>hm (h▸hb.1)
 omega
 intro a ha b hb
 simp only[kQ,decide_eq_true_eq]at ha
 rcases ar.1 hb with hb|hb
 rw[aq.1 hb];exact ha.2
 simp only[kQ,decide_eq_true_eq]at hb;omega
 intro q hq'
 simp only[ar,kQ,aq,decide_eq_true_eq]at hq'
 rcases hq' with(hq'|rfl)|hq'
 exact hq q hq'.1
 omega
 exact hq q hq'.1
theorem Ma {ck nx p:Int} {t:Tx} (h:fD ck nx t=true) (hc:iQ ck=true) (h0:0<=p) (h3:p<4):fD ck nx (iy ck p t)=true:=by
 obtain⟨a1,a2,a3,a4,a5,a6,a7,a8,a9,a10,a11⟩:=cC.1 h
 obtain⟨b1,b2⟩:=Gb a10 h0 h3
 have hc0:=(jH.1 hc).1
 unfold iy
 split
 exact cC.2 ⟨a1,a2,a3,a4,Py,Px,hc0,iV _,a9,b1,by constructor;intro h;cases h;intro h;exact absurd h b2⟩
 rename_i h1
 exact cC.2 ⟨a1,a2,a3,a4,a5,a6,a7,a8,a9,b1,by constructor;intro h;exact absurd h h1;intro h;exact absurd h b2⟩
theorem In {k:Nat} {c:Co} {s:ByteArray} {ver p:Int} (h:oO k c) (h0:0<=p) (h3:p<4) (he:(oI c s ver p).2=0):oO (k+1) (oI c s ver p).1:=by
 obtain⟨⟨h1,-⟩,h7,-⟩:=gG.1 h.ok
 unfold oI at he⊢
 cases hf:fZ c s with
 |none=>rw[hf]at he;cases he
 |some x=>
  obtain⟨i,t⟩:=x
  rw[hf]at he
  dsimp only at he⊢
  obtain⟨-,ht,-⟩:=jg hf
  split at he
  cases he
  rename_i hv
  rw[if_neg hv]
  split at he
  rename_i hs
  rw[if_pos hs]
  have hm:=ae ht
  refine h.set ht ?_ ?_ (Ma (h7 t hm) h1 h0 h3) ?_
  unfold iy;split<;>rfl
  unfold iy;split<;>rfl
  have:=h.ver t hm
  unfold iy;split<;>(show t.ver<=_;omega)
  cases he
theorem LH {ck nx w:Int} {t t':Tx} (h:fD ck nx t=true) (hw:w=3∨w=4) (he:eH w t=some t'):fD ck nx t'=true/\t'.name=t.name/\t'.pid=t.pid/\t'.ver=t.ver:=by
 obtain⟨a1,a2,a3,a4,a5,a6,a7,a8,a9,a10,a11⟩:=cC.1 h
 unfold eH at he
 split at he
 injection he with he;subst he
 refine⟨cC.2 ⟨a1,a2,a3,a4,by show 1<=w;omega,by show w<=4;omega,a7,a8,a9,a10,?_⟩,rfl,rfl,rfl⟩
 constructor
 intro h;have h':w=1:=h;omega
 intro h;have:=a11.2 h;omega
 split at he
 injection he with he;subst he
 exact⟨cC.2 ⟨a1,a2,a3,a4,a5,a6,a7,a8,.inr hw,a10,a11⟩,rfl,rfl,rfl⟩
 split at he
 injection he with he;subst he
 exact⟨h,rfl,rfl,rfl⟩
 cases he
theorem Ix (b:Bool):vL b=3∨vL b=4:=by cases b<;>simp[vL]
theorem Id {k:Nat} {c:Co} {s:ByteArray} {ver:Int} {b:Bool} (h:oO k c) (he:(kU c s ver b).2=0):oO (k+1) (kU c s ver b).1:=by
 obtain⟨-,h7,-⟩:=gG.1 h.ok
 unfold kU at he⊢
 cases hf:fZ c s with
 |none=>rw[hf]at he;cases he
 |some x=>
  obtain⟨i,t⟩:=x
  rw[hf]at he
  dsimp only at he⊢
  obtain⟨-,ht,-⟩:=jg hf
  split at he
  cases he
  rename_i hv
  rw[if_neg hv]
  have hm:=ae ht
  cases hx:eH (vL b) t with
  |none=>rw[hx]at he;cases he
  |some t'=>
   obtain⟨b1,b2,b3,b4⟩:=LH (h7 t hm) (Ix b) hx
   refine h.set ht b2 b3 b1 ?_
   have:=h.ver t hm;omega
theorem zW {l:List Int} (h:cS (-1) l=true) (f:Int->Bool):cS (-1) (l.filter f)=true:=by
 have key: ∀ (l:List Int) (a:Int),l.Pairwise (· < ·)->(∀ q∈l,a<q/\q<4)->cS a l=true:=by
  intro l
  induction l with
  |nil=>intro a _ _;rfl
  |cons x l ih=>
   intro a hp hq
   obtain⟨h1,h2⟩:=ek.1 hp
   unfold cS
   have:=hq x (az ..)
   rw[ih x h2 fun q hq'=>⟨h1 q hq',(hq q (ak _ hq')).2⟩]
   simp[this.1,this.2]
 obtain⟨hp,hq⟩:=fG h
 exact key _ _ (hp.filter _) fun q hq'=>hq q ((kQ.1 hq').1)
theorem Jx {ck nx p:Int} {t:Tx} (h:fD ck nx t=true) (hs:t.state=3∨t.state=4):fD ck nx (gw p t)=true/\(gw p t).name=t.name/\(gw p t).pid=t.pid/\(gw p t).ver=t.ver:=by
 obtain⟨a1,a2,a3,a4,a5,a6,a7,a8,a9,a10,a11⟩:=cC.1 h
 unfold gw
 split
 exact⟨cC.2 ⟨a1,a2,a3,a4,OV,M4,a7,a8,.inr hs,rfl,OW⟩,rfl,rfl,rfl⟩
 rename_i hl
 refine⟨cC.2 ⟨a1,a2,a3,a4,a5,a6,a7,a8,a9,zW a10 _,?_⟩,rfl,rfl,rfl⟩
 constructor
 intro h;have h':t.state=1:=h;omega
 intro h;exact absurd h hl
theorem FW {k:Nat} {c:Co} {s:ByteArray} {p:Int} (h:oO k c) (he:(qN c s p).2=0):oO (k+1) (qN c s p).1:=by
 obtain⟨-,h7,-⟩:=gG.1 h.ok
 unfold qN at he⊢
 cases hf:fZ c s with
 |none=>rw[hf]at he;cases he
 |some x=>
  obtain⟨i,t⟩:=x
  rw[hf]at he
  dsimp only at he⊢
  obtain⟨-,ht,-⟩:=jg hf
  split at he
  rename_i hs
  rw[if_pos hs]
  split at he
  rename_i hp
  rw[if_pos hp]
  have hm:=ae ht
  obtain⟨b1,b2,b3,b4⟩:=Jx (p:=p) (h7 t hm) hs
  refine h.set ht b2 b3 b1 ?_
  have:=h.ver t hm;omega
  cases he
  cases he
theorem xG {ck ck2 nx wt:Int} {t:Tx} (h:fD ck nx t=true) (hc:ck<=ck2):fD ck2 nx (fj ck2 wt t)=true/\(fj ck2 wt t).name=t.name/\(fj ck2 wt t).pid=t.pid/\(fj ck2 wt t).ver<=t.ver+1:=by
 obtain⟨a1,a2,a3,a4,a5,a6,a7,a8,a9,a10,a11⟩:=cC.1 h
 have hv:=jH.1 a4
 unfold fj
 split
 rename_i h2
 refine⟨cC.2 ⟨a1,a2,a3,jH.2 ⟨by show 0<=t.ver+1;omega,by show t.ver+1<=_;omega⟩,M4,OU,a7,by show t.since<=ck2;omega,a9,a10,?_⟩,rfl,rfl,iV _⟩
 constructor
 intro h;cases h
 intro h;have:=a11.2 h;omega
 exact⟨cC.2 ⟨a1,a2,a3,a4,a5,a6,a7,by omega,a9,a10,a11⟩,rfl,rfl,by omega⟩
theorem EH {k:Nat} {c:Co} {n:Int} (h:oO k c) (hk:k<=1000) (hn:0<=n) (he:(jc c n).2=0):oO (k+1) (jc c n).1:=by
 obtain⟨⟨h1,h2,h3,h4,h5,h6⟩,h7,h8⟩:=gG.1 h.ok
 have hck:=h.clock
 have hc0:=(jH.1 h1).1
 unfold jc at he⊢
 split at he
 cases he
 rename_i hn1
 rw[if_neg hn1]
 unfold vM
 refine⟨gG.2 ⟨⟨jH.2 ⟨by show 0<=c.clock+n;omega,by show c.clock+n<=_;omega⟩,h2,h3,h4,h5,by simpa using h6⟩,fun t ht=> ?_,?_⟩,by show c.clock+n<=1000*((k+1:Nat):Int);omega,by have:=h.next;show c.next<=_;omega,fun t ht=> ?_⟩
 obtain⟨x,hx,rfl⟩:=bw.1 ht
 exact(xG (h7 x hx) (show c.clock<=c.clock+n by omega)).1
 unfold vJ at h8⊢
 dsimp only
 rw[sg]
 rw[List.map_congr_left (g:=fun t=>(t.name,t.pid)) fun t ht=>by
  obtain⟨-,e1,e2,-⟩:=xG (ck2:=c.clock+n) (wt:=c.wait) (h7 t ht) I
  show((fj _ _ t).name,(fj _ _ t).pid)=_
  rw[e1,e2]]
 exact h8
 obtain⟨x,hx,rfl⟩:=bw.1 ht
 obtain⟨-,-,-,e3⟩:=xG (ck2:=c.clock+n) (wt:=c.wait) (h7 x hx) I
 have:=h.ver x hx
 omega
theorem oO.a {k:Nat} {c:Co} (h:oO k c):oO k c.a:=⟨by rw[<-sR];exact h.ok,h.clock,h.next,fun t ht=>by
 obtain⟨x,hx,rfl⟩:=bw.1 (show t∈c.txs.map Tx.a from ht)
 exact h.ver x hx⟩
theorem oO.of_a {k:Nat} {c:Co} (h:oO k c.a):oO k c:=⟨by rw[sR];exact h.ok,h.clock,h.next,fun t ht=>h.ver t.a (bL (f:=Tx.a) ht)⟩
theorem oO.at_ {k:Nat} {c:Co} (h:oO k c) {i:Nat} {t:Tx} (ht:c.txs[i]? =some t):fD c.clock c.next t=true:=(gG.1 h.ok).2.1 t (ae ht)
theorem Dn {c:Co} {s:ByteArray} {i:Nat} {t:Tx} (h:fZ c s=some (i,t)):fZ c.a s=some (i,t.a):=by rw[AO,h];rfl
theorem GR {c:Co} {s:ByteArray} (h:fZ c s=none):fZ c.a s=none:=by rw[AO,h];rfl
theorem Lc (t:Tx):jf t.a=(jf t).a:=by
 unfold jf
 by_cases h:t.state=2
 rw[if_pos (show t.a.state=2 from h),if_pos h];rfl
 rw[if_neg (show¬ t.a.state=2 from h),if_neg h];rfl
theorem wM (c:Co) (s:ByteArray) (k:Nat) (w:World) (h:c.rd 0 w.heap.size w) (hb:oO k c) (hk:k<=1000) (hn:bM s=true):db aa mB [c.v,.string s] w fun v w2=> ∃ c':Co,v=.tuple #[c'.v,J (bS c.a s).2.1,J (bS c.a s).2.2.1,J (bS c.a s).2.2.2]/\c'.a=(bS c.a s).1/\un w w2 c':=by
 have hnx:=hb.next
 have hpost:(bS c s).2.2.2=0->oO (k+1) (bS c s).1:=HY hb hk hn
 cases hf:fZ c s with
 |none=>
  have hi:=uJ hf
  have ha:=GR hf
  unfold bS at hpost⊢
  rw[ha]
  rw[hf]at hpost
  dsimp only at hpost⊢
  by_cases hl:c.txs.length=8
  rw[if_pos (show c.a.txs.length=8 by simpa [Co.a]using hl)]
  exact(FZ c s w h hb.ok hn I hl).mono fun v w2 ⟨h1,h2⟩=>⟨yW,h1,rfl,pp h2⟩
  rw[if_neg (show¬ c.a.txs.length=8 by simpa [Co.a]using hl)]
  rw[if_neg hl]at hpost
  exact(Ji c s w h hb.ok hn I hl I).mono fun v w2 ⟨c',Lr,Lp,h1,h2⟩=>⟨c',h1,h2.1,h2.new (by rw[<-JD,<-sR];exact(hpost Z).ok)⟩
 |some x=>
  obtain⟨i,t⟩:=x
  obtain⟨hi,ht,-⟩:=jg hf
  have ha:=Dn hf
  have hm:=ae ht
  have hv0:=jH.1 (cC.1 (hb.at_ ht)).2.2.2.1
  have hv:=hb.ver t hm
  unfold bS at hpost⊢
  rw[ha]
  rw[hf]at hpost
  dsimp only at hpost⊢
  by_cases hs:t.state=3∨t.state=4
  rw[if_pos (show t.a.state=3∨t.a.state=4 from hs)]
  exact(G6 c s i t w h hb.ok hn hi ht hs).mono fun v w2 ⟨h1,h2⟩=>⟨yW,h1,rfl,pp h2⟩
  rw[if_neg (show¬ (t.a.state=3∨t.a.state=4)from hs)]
  rw[if_neg hs]at hpost
  exact(G7 c s i t w h hb.ok hn hi ht (fun h=>hs (.inl h)) (fun h=>hs (.inr h)) hv0.1 I).mono fun v w2 ⟨c',Lr,Lp,h1,h2⟩=>⟨c',h1,h2.1.trans (by rw[show({c with txs:=c.txs.set i (jf t)}:Co)=qF c i (jf t)from rfl,zh,Lc]),h2.new (by rw[<-sR];exact(hpost Z).ok)⟩
theorem Mb (ck p:Int) (t:Tx):iy ck p t.a=(iy ck p t).a:=by
 unfold iy
 by_cases h:t.state=1
 rw[if_pos (show t.a.state=1 from h),if_pos h];rfl
 rw[if_neg (show¬ t.a.state=1 from h),if_neg h];rfl
theorem Ga (c:Co) (s:ByteArray) (ver p:Int) (k:Nat) (w:World) (h:c.rd 0 w.heap.size w) (hb:oO k c) (hn:bM s=true) (h0:0<=p) (h3:p<4):db aa oo [c.v,.string s,J ver,J p] w fun v w2=> ∃ c':Co,v=.tuple #[c'.v,J (oI c.a s ver p).2]/\c'.a=(oI c.a s ver p).1/\un w w2 c':=by
 have hpost:(oI c s ver p).2=0->oO (k+1) (oI c s ver p).1:=In hb h0 h3
 cases hf:fZ c s with
 |none=>
  have hi:=uJ hf
  have ha:=GR hf
  unfold oI
  rw[ha]
  exact(L7 c s ver p w h hb.ok hn hi).mono fun v w2 ⟨h1,h2⟩=>⟨yW,h1,rfl,pp h2⟩
 |some x=>
  obtain⟨i,t⟩:=x
  obtain⟨hi,ht,-⟩:=jg hf
  have ha:=Dn hf
  unfold oI at hpost⊢
  rw[ha]
  rw[hf]at hpost
  dsimp only at hpost⊢
  by_cases hv:t.ver=ver
  rw[if_neg (show¬ t.a.ver≠ver from fun h=>h hv)]
  rw[if_neg (fun h=>h hv)]at hpost
  by_cases hs:t.state=1∨t.state=2
  rw[if_pos (show t.a.state=1∨t.a.state=2 from hs)]
  rw[if_pos hs]at hpost
  exact(OC c s ver p i t w h hb.ok hn hi ht hv h0 h3 hs (cC.1 (hb.at_ ht)).2.2.2.2.2.2.2.2.2.1).mono fun v w2 ⟨c',Lr,Lp,h1,h2⟩=>⟨c',h1,h2.1.trans (by rw[show({c with txs:=c.txs.set i (iy c.clock p t)}:Co)=qF c i (iy c.clock p t)from rfl,zh,Mb];rfl),h2.new (by rw[<-sR];exact(hpost Z).ok)⟩
  rw[if_neg (show¬ (t.a.state=1∨t.a.state=2)from hs)]
  exact(JP c s ver p i t w h hb.ok hn hi ht hv h0 h3 (fun h=>hs (.inl h)) (fun h=>hs (.inr h))).mono fun v w2 ⟨h1,h2⟩=>⟨yW,h1,rfl,pp h2⟩
  rw[if_pos (show t.a.ver≠ver from hv)]
  exact(JQ c s ver p i t w h hb.ok hn hi ht hv).mono fun v w2 ⟨h1,h2⟩=>⟨yW,h1,rfl,pp h2⟩
theorem Ng (w:Int) (t:Tx):eH w t.a=(eH w t).map Tx.a:=by
 unfold eH
 by_cases h1:t.state=2
 rw[if_pos (show t.a.state=2 from h1),if_pos h1];rfl
 rw[if_neg (show¬ t.a.state=2 from h1),if_neg h1]
 by_cases h2:t.state=1/\t.done=0
 rw[if_pos (show t.a.state=1/\t.a.done=0 from h2),if_pos h2];rfl
 rw[if_neg (show¬ (t.a.state=1/\t.a.done=0)from h2),if_neg h2]
 by_cases h3:t.state=w∨(t.state=1/\t.done=w)
 rw[if_pos (show t.a.state=w∨(t.a.state=1/\t.a.done=w)from h3),if_pos h3];rfl
 rw[if_neg (show¬ (t.a.state=w∨(t.a.state=1/\t.a.done=w))from h3),if_neg h3];rfl
theorem FS (c:Co) (s:ByteArray) (ver:Int) (b:Bool) (k:Nat) (w:World) (h:c.rd 0 w.heap.size w) (hb:oO k c) (hn:bM s=true):db aa lU [c.v,.string s,J ver,.bool b] w fun v w2=> ∃ c':Co,v=.tuple #[c'.v,J (kU c.a s ver b).2]/\c'.a=(kU c.a s ver b).1/\un w w2 c':=by
 have hpost:(kU c s ver b).2=0->oO (k+1) (kU c s ver b).1:=Id hb
 cases hf:fZ c s with
 |none=>
  have hi:=uJ hf
  have ha:=GR hf
  unfold kU
  rw[ha]
  exact(LG c s ver b w h hb.ok hn hi).mono fun v w2 ⟨h1,h2⟩=>⟨yW,h1,rfl,pp h2⟩
 |some x=>
  obtain⟨i,t⟩:=x
  obtain⟨hi,ht,-⟩:=jg hf
  have ha:=Dn hf
  unfold kU at hpost⊢
  rw[ha]
  rw[hf]at hpost
  dsimp only at hpost⊢
  by_cases hv:t.ver=ver
  rw[if_neg (show¬ t.a.ver≠ver from fun h=>h hv),Ng]
  rw[if_neg (fun h=>h hv)]at hpost
  have main:db aa lU [c.v,.string s,J ver,.bool b] w fun v w2=>match eH (vL b) t with|none=>v=.tuple #[.agg #[J 0,J 0,J 0,.slice none 0 0],J 12]/\Below w.heap.size w w2|some t'=> ∃ (c':Co) (Lr Lp:List (Nat×Obj)),v=.tuple #[c'.v,J 0]/\qm w w2 (Co.a {c with txs:=c.txs.set i t'}) c' Lr Lp:=by
   cases b
   exact Jt c s ver i t w h hb.ok hn hi ht hv
   exact LF c s ver i t w h hb.ok hn hi ht hv
  cases hx:eH (vL b) t with
  |none=>
   rw[hx]at main
   exact main.mono fun v w2 ⟨h1,h2⟩=>⟨yW,h1,rfl,pp h2⟩
  |some t'=>
   rw[hx]at main hpost
   exact main.mono fun v w2 ⟨c',Lr,Lp,h1,h2⟩=>⟨c',h1,h2.1.trans (by rw[show({c with txs:=c.txs.set i t'}:Co)=qF c i t' from rfl,zh];rfl),h2.new (by rw[<-sR];exact(hpost Z).ok)⟩
  rw[if_pos (show t.a.ver≠ver from hv)]
  exact(Js c s ver b i t w h hb.ok hn hi ht hv).mono fun v w2 ⟨h1,h2⟩=>⟨yW,h1,rfl,pp h2⟩
theorem LJ (p:Int) (t:Tx):gw p t.a=(gw p t).a:=by
 unfold gw
 by_cases h:(t.parts.filter fun q=>decide (q≠p)).length=0
 rw[if_pos (show(t.a.parts.filter fun q=>decide (q≠p)).length=0 from h),if_pos h];rfl
 rw[if_neg (show¬ (t.a.parts.filter fun q=>decide (q≠p)).length=0 from h),if_neg h];rfl
theorem Jz (c:Co) (s:ByteArray) (p:Int) (k i:Nat) (t:Tx) (w:World) (h:c.rd 0 w.heap.size w) (hb:oO k c) (hn:bM s=true) (hf:fZ c.a s=some (i,t)) (h34:t.state=3∨t.state=4) (hp:p∈t.parts):db aa wT [c.v,.string s,J p] w fun v w2=> ∃ c':Co,v=.tuple #[c'.v,J 0]/\c'.a=(qN c.a s p).1/\un w w2 c':=by
 have hpost:(qN c s p).2=0->oO (k+1) (qN c s p).1:=FW hb
 rw[AO]at hf
 obtain⟨⟨j,x⟩,hg,he⟩:=iG.1 hf
 clear hf
 simp only[Prod.mk.injEq]at he
 obtain⟨rfl,rfl⟩:=he
 obtain⟨hi,ht,-⟩:=jg hg
 have ha:=Dn hg
 unfold qN at hpost⊢
 rw[ha]
 rw[hg]at hpost
 dsimp only at hpost⊢
 rw[if_pos h34,if_pos hp]
 rw[if_pos (show x.state=3∨x.state=4 from h34),if_pos (show p∈x.parts from hp)]at hpost
 exact(Nh c s p i x w h hb.ok hn hi ht h34 hp (cC.1 (hb.at_ ht)).2.2.2.2.2.2.2.2.2.1).mono fun v w2 ⟨c',Lr,Lp,h1,h2⟩=>⟨c',h1,h2.1.trans (by rw[show({c with txs:=c.txs.set i (gw p x)}:Co)=qF c i (gw p x)from rfl,zh,LJ]),h2.new (by rw[<-sR];exact(hpost Z).ok)⟩
theorem LE (t:Tx):gM t.a=gM t:=rfl
theorem KM (l:List Tx) (n:Nat):gX (l.map Tx.a) n=(gX l n).map Tx.a:=by
 unfold gX
 rw[List.filter_map,show(gM∘Tx.a)=gM from funext LE,aL]
theorem Fg (c:Co) (n:Nat) (w:World) (h:c.rd 0 w.heap.size w) (hok:gD c=true) (hn:n<=1000):db aa wS [c.v,J (n:Nat)] w fun v w2=>v=yz (gX c.a.txs n)/\Below w.heap.size w w2:=by
 refine(MT c n w h hok hn).mono fun v w2 ⟨h1,h2⟩=>⟨?_,h2⟩
 rw[h1,show c.a.txs=c.txs.map Tx.a from rfl,KM]
 cases gX c.txs n<;>rfl
theorem IB (c:Co) (n:Int):(vM c n).a=vM c.a n:=by
 unfold vM Co.a
 simp only[sg]
 congr 1
 exact List.map_congr_left fun t _=>Ka _ _ t
theorem Cr (c:Co) (n:Int) (k:Nat) (w:World) (h:c.rd 0 w.heap.size w) (hb:oO k c) (hk:k<=1000) (hn:0<=n):db aa sH [c.v,J n] w fun v w2=> ∃ c':Co,v=.tuple #[c'.v,J (jc c.a n).2]/\c'.a=(jc c.a n).1/\un w w2 c':=by
 have hpost:(jc c n).2=0->oO (k+1) (jc c n).1:=EH hb hk hn
 have hck:=hb.clock
 unfold jc at hpost⊢
 by_cases hf:1000<n
 rw[if_pos hf]
 exact(J8 c n w h hb.ok hf).mono fun v w2 ⟨h1,h2⟩=>⟨yW,h1,rfl,pp h2⟩
 rw[if_neg hf]
 rw[if_neg hf]at hpost
 exact(Mp c n w h hb.ok hn I I).mono fun v w2 ⟨c',Lr,Lp,h1,h2⟩=>⟨c',h1,h2.1,h2.new (by rw[<-IB,<-sR];exact(hpost Z).ok)⟩
theorem GE (es:List cO) (A:Option Addr) (c n a most:Nat) (w:World) (hr:Rd gL 0 w.heap.size A es w) (hc:es.length<=c) (hb:es.length<=1000000) (hn:n<=es.length) (ha:es.length<a):
  db aa yH [.slice A es.length c,J (n:Nat),J (a:Nat),J (most:Nat)] w fun v w2=>v=.tuple #[.slice none 0 0,J 0,J 2]/\Below w.heap.size w w2:=by
 refine aD wY Z Z ?_
 have H:=Hp.startRd hr
 refine W<|Zr<|G (Ws Z)<|G (Wi Z)<|G (Wi Z)<|U<|W<|Zr<|G (Ys Z)<|G (Yi Z)<|bY ud (Cv es _ _ n _ (H.rd0 0 Z) hc hb hn) Z Z ?_
 rintro _ w1 ⟨st,hst,rfl,hb2⟩;replace H:=H.later hb2;clear hb2
 refine G (Yu Z)<|G (Xi Z Z)<|G (Xi Z Z)<|G (Wi Z)<|G (Wi Z)<|U<|W<|W<|Zr<|G (Yi Z)<|G (bW Z Z Z)<|U<|ZF Z<|Zk<|W<|W<|Zr<|G (Yi Z)<|G (cZ Z Z I)<|G (Yb Z)<|ZG<|G (Yi Z)<|ZG<|G (Ys Z)<|ZG<|G (bn ez Z)<|ZG<|G (He Z Z I)<|G (N Z Z)<|G (Yb Z)<|ZN<|ZN<|G (Kt Z Z)<|G (Yb Z)<|ZN<|ZN<|G (Kt Z Z)<|U<|ZT Z<|W ?_
 refine Zr<|G (Ws Z)<|G (Wi Z)<|G (Wi Z)<|U<|Zt ?_
 exact Hi Z Z Z Z ⟨rfl,H.below⟩
theorem E6 (p:Pa) (a most l:Nat) (r:fd) (w:World) (h:p.rd 0 w.heap.size w) (hok:p.a.ok) (hld:p.leader=l) (hr:p.reps[l]? =some r) (ha:r.es.length<a):db aa tU [p.v,J (a:Nat),J (most:Nat)] w fun v w2=>v=.tuple #[.slice none 0 0,J 0,J 2]/\Below w.heap.size w w2:=by
 refine aD sM Z Z ?_
 obtain⟨hn1,hn2,hil,hkl,hf1,hf2,he0,he1,hl0,hl1,hb0,hb1,hsm⟩:=Pa.facts hok
 have hkn:=hok.known
 have hiC:=h.iC
 have hkC:=h.kC
 have hrC:=h.rC
 have hfew:=h.few
 have H:=Hp.startPa h
 obtain⟨ep,ld,isr,iA,iC,kn,kA,kC,reps,rA,rC,fw,bs⟩:=p
 simp only[Pa.a]at hkn
 dsimp only at H hn1 hn2 hil hkl hf1 hf2 he0 he1 hl0 hl1 hb0 hb1 hsm hiC hkC hrC hfew
 dsimp only at hld hr
 have hll:=(cF hr).1
 show CW _ _ _ _ (args [.agg #[J (ep),J (ld),.slice iA isr.length iC,.slice kA kn.length kC,.slice rA reps.length rC,J (fw),J (bs)],J (((a:Nat):Int)),J (((most:Nat):Int))]) w
 refine W<|Zr<|fT H Z Z fun w1 b3 H=>G (Ws Z)<|G (Wi Z)<|G (Wi Z)<|U<|W<|W<|Zr<|G (Zw aG H 0 Z Z Z)<|bY lr (rL ⟨ep,ld,isr,iA,iC,kn,kA,kC,reps,rA,rC,fw,bs⟩ _ (Hp.pa H 0 Z) hok) Z Z ?_
 rintro _ w2 ⟨rfl,hb⟩;replace H:=H.later hb;clear hb
 refine G (Wi Z)<|U<|W<|Zr<|G (Yi Z)<|G (bW Z Z Z)<|U<|ZF Z<|Zk<|W<|W<|Zr<|G (Zf dq Z)<|G (Zd aj H 0 Z Z Z)<|G (cZ Z Z I)<|U<|ZF Z<|Zk<|W<|Zr<|G (Zf cT Z)<|G (Zd bU H 0 Z Z Z)<|G (Zf dq Z)<|G (Zd aj H 0 Z Z Z)<|qu (k:=l) H 3 Z bv Z (congrArg (Value.int .i64) hld) I I Z fun bq3 o3 x3 e3=> ?_
 obtain rfl:x3=r:=by have:=e3.at_;rw[hr]at this;exact(bj this).symm
 obtain⟨n,hnn⟩: ∃ n:Nat,x3.high=n:=⟨x3.high.toNat,by have:=(Pa.repOk hok (i:=l) hr).2.1;omega⟩
 refine G (jT (xs:=fd.c x3) oH Z Z e3.cl)<|eE H pO Z fun w4 b10 H=>bo H 0 (#[.bool (x3.up),.slice x3.A ((bh x3.es).length) x3.cap,J (((fJ x3.es x3.s:Nat):Int)),J (x3.high)]) lO Z Z Z Z Z N N fun w5 H=>U<|W<|Zr<|G (Zf dx Z)<|G (jS 1 [.slice x3.A ((bh x3.es).length) x3.cap,J (((fJ x3.es x3.s:Nat):Int))] eR Z Z (H.ent (i:=0) Z) Z)<|bY gx (g7 x3.A x3.cap x3.es x3.s _ (Pa.log (Hp.pa H 0 Z) hok (i:=l) hr)) Z Z ?_
 have hloen:=H.size
 rintro _ w6 ⟨Aen,cen,rfl,hren,hcen,hben⟩;replace H:=H.learnRd hben hren;clear hren hben
 refine G (Yu Z)<|G (Xs Z Z)<|G (Xi Z Z)<|G (Xi Z Z)<|G (Ws Z)<|G (Wi Z)<|G (Wi Z)<|U<|W<|Zr<|G (Ys Z)<|G (Zf dV Z)<|G (Zd aj H 0 Z Z Z)<|G (Yi Z)<|G (Yi Z)<|bY xj ((by have hA:=GE x3.es Aen cen n a most _ (H.rd0 0 Z) hcen (by have:=(Pa.repOk hok (i:=l) hr).1.len;omega) (by have:=(Pa.repOk hok (i:=l) hr).2.2;omega) ha;rw[<-hnn]at hA;exact hA)) Z Z ?_
 rintro _ w7 ⟨rfl,hb⟩;replace H:=H.later hb;clear hb
 refine G (Xs Z Z)<|G (Xi Z Z)<|G (Xi Z Z)<|G (Ws Z)<|G (Wi Z)<|G (Wi Z)<|U<|Zt ?_
 exact Hi Z Z Z Z ⟨rfl,H.below⟩

/-- an act of a script -/
structure Act where
 kind:Int
 name:ByteArray
 part:Int
 n:Int
 m:Int
 text:ByteArray
 lost:Int
def Act.c (a:Act):List Value:=[J a.kind,.string a.name,J a.part,J a.n,J a.m,.string a.text,J a.lost]
abbrev Act.v (a:Act):Value:=.agg a.c.toArray
def mO:fi Act:=⟨Act.c,7,fun _=>rfl,by decide,fun a u hu=>by
 simp only[Act.c,ax,bO,or_false]at hu
 rcases hu with h|h|h|h|h|h|h<;>subst h<;>rfl⟩
structure An where
 code:Int
 n:Int
 texts:List ByteArray
structure Sn where
 name:ByteArray
 pid:Int
 ver:Int
 inn:Bool
 seqs:List Int
 sA:Option Addr
 sC:Nat
 last:List cO
 lA:Option Addr
 lC:Nat
def Sn.c (s:Sn):List Value:=[.string s.name,J s.pid,J s.ver,.bool s.inn,.slice s.sA s.seqs.length s.sC,.slice s.lA s.last.length s.lC]
def zH:fi Sn:=⟨Sn.c,6,fun _=>rfl,by decide,fun a u hu=>by
 simp only[Sn.c,ax,bO,or_false]at hu
 rcases hu with h|h|h|h|h|h<;>subst h<;>rfl⟩
def Sn.a (s:Sn):Sn:={s with sA:=none,sC:=0,lA:=none,lC:=0}
structure Pq where
 p:Pa
 lo:Nat
 hi:Nat
def E1:fi Pq:=⟨fun q=>q.p.c,7,fun _=>rfl,by decide,fun a u hu=>by
 simp only[Pa.c,ax,bO,or_false]at hu
 rcases hu with h|h|h|h|h|h|h<;>subst h<;>rfl⟩
structure Bk where
 ps:List Pq
 pA:Option Addr
 pC:Nat
 co:Co
 clo:Nat
 chi:Nat
 gr:Gr
 glo:Nat
 ghi:Nat
 sns:List Sn
 snA:Option Addr
 snC:Nat
def Bk.c (b:Bk):List Value:=[.slice b.pA b.ps.length b.pC,J b.co.clock,J b.co.next,J b.co.wait,.slice b.co.A b.co.txs.length b.co.cap,J b.gr.clock,J b.gr.wait,J b.gr.gen,.slice b.gr.mA b.gr.ms.length b.gr.mC,.slice b.gr.oA b.gr.os.length b.gr.oC,.slice b.snA b.sns.length b.snC]
structure Wa where
 ps:List gz
 co:Co
 gr:Gr
 sns:List Sn
def Bk.a (b:Bk):Wa:=⟨b.ps.map fun q=>q.p.a,b.co.a,b.gr.a,b.sns.map Sn.a⟩
def ql:List Sn->List (Nat×Obj)->Prop
 |[],L=>L=[]
 |s::l,L=> ∃ gq uq gl ul L',s.sA=some ⟨gq,0,none⟩/\s.lA=some ⟨gl,0,none⟩/\dU bR s.seqs s.sC uq/\dU gL s.last s.lC ul/\L=(gq,.cells uq cY (0,0))::(gl,.cells ul du (0,0))::L'/\ql l L'
theorem ql.at_: ∀ {l:List Sn} {L:List (Nat×Obj)} {i:Nat} {s:Sn},ql l L->l[i]? =some s-> ∃ gq uq gl ul La Lb,s.sA=some ⟨gq,0,none⟩/\s.lA=some ⟨gl,0,none⟩/\dU bR s.seqs s.sC uq/\dU gL s.last s.lC ul/\L=La++((gq,.cells uq cY (0,0))::(gl,.cells ul du (0,0))::Lb)/\ ∀ (s':Sn) (gq':Nat) (uq':Array Value) (gl':Nat) (ul':Array Value),s'.sA=some ⟨gq',0,none⟩->s'.lA=some ⟨gl',0,none⟩->dU bR s'.seqs s'.sC uq'->dU gL s'.last s'.lC ul'->ql (l.set i s') (La++((gq',.cells uq' cY (0,0))::(gl',.cells ul' du (0,0))::Lb))
 |[],_,_,_,_,h=>by simp at h
 |x::l,L,0,s,h,hi=>by
  obtain⟨gq,uq,gl,ul,L',h1,h2,h3,h4,rfl,h6⟩:=h
  have:x=s:=by simpa using hi
  subst this
  exact⟨gq,uq,gl,ul,[],L',h1,h2,h3,h4,rfl,fun s' gq' uq' gl' ul' a1 a2 a3 a4=>⟨gq',uq',gl',ul',L',a1,a2,a3,a4,rfl,h6⟩⟩
 |x::l,L,i+1,s,h,hi=>by
  obtain⟨gq,uq,gl,ul,L',h1,h2,h3,h4,rfl,h6⟩:=h
  obtain⟨kq,vq,kl,vl,La,Lb,b1,b2,b3,b4,rfl,b6⟩:=ql.at_ (i:=i) h6 (by simpa using hi)
  exact⟨kq,vq,kl,vl,(gq,.cells uq cY (0,0))::(gl,.cells ul du (0,0))::La,Lb,b1,b2,b3,b4,rfl,fun s' gq' uq' gl' ul' a1 a2 a3 a4=>⟨gq,uq,gl,ul,_,h1,h2,h3,h4,rfl,b6 s' gq' uq' gl' ul' a1 a2 a3 a4⟩⟩
theorem ql.snoc: ∀ {l:List Sn} {L:List (Nat×Obj)} {s:Sn} {gq gl:Nat} {uq ul:Array Value},ql l L->s.sA=some ⟨gq,0,none⟩->s.lA=some ⟨gl,0,none⟩->dU bR s.seqs s.sC uq->dU gL s.last s.lC ul->ql (l++[s]) (L++[(gq,.cells uq cY (0,0)),(gl,.cells ul du (0,0))])
 |[],L,s,gq,gl,uq,ul,h,a1,a2,a3,a4=>by
  have:L=[]:=h
  subst this
  exact⟨gq,uq,gl,ul,[],a1,a2,a3,a4,rfl,rfl⟩
 |x::l,L,s,gq,gl,uq,ul,h,a1,a2,a3,a4=>by
  obtain⟨kq,vq,kl,vl,L',h1,h2,h3,h4,rfl,h6⟩:=h
  exact⟨kq,vq,kl,vl,_,h1,h2,h3,h4,rfl,h6.snoc a1 a2 a3 a4⟩
def xx (w0:World) (lo hi:Nat) (c:Co):cr:=⟨lo,hi,fun w=>w0.heap.size<=lo/\c.rd lo hi w,fun _ _ hk h=>⟨h.1,h.2.st hk⟩⟩
def JT (w0:World) (lo hi:Nat) (g:Gr):cr:=⟨lo,hi,fun w=>w0.heap.size<=lo/\g.rd lo hi w,fun _ _ hk h=>⟨h.1,h.2.st hk⟩⟩
def tz (w0:World) (lo hi:Nat) (p:Pa):cr:=⟨lo,hi,fun w=>w0.heap.size<=lo/\p.rd lo hi w,fun _ _ hk h=>⟨h.1,h.2.st hk⟩⟩
structure Bw (w0 w:World) (bb:Nat) (b:Bk) (gP:Nat) (uP:Array Value) (Ls Lo K:List (Nat×Obj)) (F:List cr):Prop where
 pA:b.pA=some ⟨gP,0,none⟩
 row:dU E1 b.ps b.pC uP
 sn:fW zH (.slice b.snA b.sns.length b.snC) fx b.sns Ls
 own:ql b.sns Lo
 co:xx w0 b.clo b.chi b.co∈F
 gr:JT w0 b.glo b.ghi b.gr∈F
 ps: ∀ q∈b.ps,tz w0 q.lo q.hi q.p∈F
 H:Hp w0 w ((bb,.cells b.c.toArray bK (0,0))::(gP,.cells uP bE (0,0))::(Ls++(Lo++K))) F
def xy (w0 w:World) (bb:Nat) (b:Bk) (K:List (Nat×Obj)) (F:List cr):Prop:= ∃ gP uP Ls Lo F',Bw w0 w bb b gP uP Ls Lo K F'/\ ∀ f∈F,f∈F'
theorem Hp.coM {w1 w0 w:World} {L:List (Nat×Obj)} {F:List cr} {lo hi:Nat} {c:Co} (H:Hp w0 w L F) (h:xx w1 lo hi c∈F):c.rd 0 w.heap.size w:=by
 obtain⟨h1,h2,-⟩:=H.facts _ h
 exact Co.rd.mono h1.2 (bG _) h2
theorem Hp.grM {w1 w0 w:World} {L:List (Nat×Obj)} {F:List cr} {lo hi:Nat} {g:Gr} (H:Hp w0 w L F) (h:JT w1 lo hi g∈F):g.rd 0 w.heap.size w:=by
 obtain⟨h1,h2,-⟩:=H.facts _ h
 exact Gr.rd.mono h1.2 (bG _) h2
theorem Hp.paM {w1 w0 w:World} {L:List (Nat×Obj)} {F:List cr} {lo hi:Nat} {p:Pa} (H:Hp w0 w L F) (h:tz w1 lo hi p∈F):p.rd 0 w.heap.size w:=by
 obtain⟨h1,h2,-⟩:=H.facts _ h
 exact Pa.rd.mono h1.2 (bG _) h2
def oP (x:An) (v:Value) (w:World):Prop:= ∃ A c,v=.agg #[J x.code,J x.n,.slice A x.texts.length c]/\x.texts.length<=c/\Rd lf 0 w.heap.size A x.texts w
theorem oP.plain (e n:Int) (w:World):oP ⟨e,n,[]⟩ (.agg #[J e,J n,.slice none 0 0]) w:=⟨none,0,rfl,ao _,Rd.nil⟩
def l9 (w:Wa) (e:Int):Wa×An:=(w,⟨e,0,[]⟩)
def f7 (a:Act) (x:An):An:=if a.lost=0 then x else⟨14,0,[]⟩
def fh (l:List Sn) (s:ByteArray):Option Nat:=l.findIdx? fun x=>decide (x.name=s)
def mV:cO:=⟨0,0,0,0,0,false,⟨#[]⟩⟩
def vm (s:ByteArray) (pid ver:Int) (np:Nat):Sn:=⟨s,pid,ver,false,au np 0,none,0,au np mV,none,0⟩
def EZ (l:List Sn) (s:Sn):List Sn:=match fh l s.name with
 |none=>l++[s]
 |some i=>l.set i s
def pd (w:Wa) (a:Act):Wa×An:=if(bS w.co a.name).2.2.2=0 then({w with co:=(bS w.co a.name).1,sns:=EZ w.sns (vm a.name (bS w.co a.name).2.1 (bS w.co a.name).2.2.1 w.ps.length)},⟨0,(bS w.co a.name).2.2.1,[]⟩)else l9 w (bS w.co a.name).2.2.2
def kW (w:Wa) (a:Act):Wa×An:=match (fh w.sns a.name).bind fun i=>w.sns[i]?.map fun s=>(i,s)with
 |none=>l9 w 5
 |some (i,s)=>if s.inn then l9 w 6 else({w with sns:=w.sns.set i {s with inn:=true}},⟨0,0,[]⟩)
def uR (w:Wa) (n:Nat) (x:cO):Wa×An:=match w.ps[n]? with
 |none=>l9 w 5
 |some p=>if(eD p x).2.2=0 then({w with ps:=w.ps.set n (eD p x).1},⟨0,(eD p x).2.1,[]⟩)else l9 w (eD p x).2.2
def r4 (w:Wa) (s:Sn) (n:Nat) (x:cO):Co×Int:=if x.txn then oI w.co s.name x.ver n else(w.co,0)
def ej (w:Wa) (s:Sn) (n:Nat):Wa×An:=match s.last[n]? with
 |none=>l9 w 5
 |some x=>if(r4 w s n x).2=0 then uR {w with co:=(r4 w s n x).1} n x else l9 w (r4 w s n x).2
def pW (s:Sn) (n:Nat) (t:ByteArray):Sn:={s with last:=s.last.set n ⟨0,s.pid,s.ver,s.seqs.getD n 0,1,s.inn,t⟩,seqs:=s.seqs.set n (s.seqs.getD n 0+1)}
def m4 (w:Wa) (a:Act) (again:Bool):Wa×An:=match (fh w.sns a.name).bind fun i=>w.sns[i]?.map fun s=>(i,s)with
 |none=>l9 w 5
 |some (i,s)=>if again=true/\(s.last.getD a.part.toNat mV).kind=0 then l9 w 15 else
  let s1:=if again then s else pW s a.part.toNat a.text
  let w1:={w with sns:=w.sns.set i s1}
  if a.lost=1 then l9 w1 14 else((ej w1 s1 a.part.toNat).1,f7 a (ej w1 s1 a.part.toNat).2)
def v9 (s:Sn):Sn:={s with inn:=false,last:=s.last.map fun e=>if e.txn then mV else e}
def jU (w:Wa) (a:Act):Wa×An:=match (fh w.sns a.name).bind fun i=>w.sns[i]?.map fun s=>(i,s)with
 |none=>l9 w 5
 |some (i,s)=>if s.inn=false then l9 w 12 else if a.lost=1 then l9 w 14 else
  if(kU w.co s.name s.ver (decide (a.n=1))).2=0 then({w with co:=(kU w.co s.name s.ver (decide (a.n=1))).1,sns:=if a.lost=0 then w.sns.set i (v9 s)else w.sns},f7 a ⟨0,0,[]⟩)else(w,f7 a ⟨(kU w.co s.name s.ver (decide (a.n=1))).2,0,[]⟩)
def da (t:Tx):cO:=⟨0,t.pid,t.ver,0,if t.state=4 then 3 else 2,true,⟨#[]⟩⟩
def oc (w:Wa) (a:Act):Wa×An:=match gX w.co.txs a.n.toNat with
 |none=>l9 w 15
 |some t=>if(uR w (t.parts.headD 0).toNat (da t)).2.code=0 then({(uR w (t.parts.headD 0).toNat (da t)).1 with co:=(qN w.co t.name (t.parts.headD 0)).1},(uR w (t.parts.headD 0).toNat (da t)).2)else uR w (t.parts.headD 0).toNat (da t)
def yr (w:Wa) (a:Act):Wa×An:=({w with co:=(jc w.co a.n).1,gr:=pS w.gr a.n w.ps.length},⟨0,(jc w.co a.n).1.clock,[]⟩)
def lP (p:gz) (a:Act):gz×Int×Int:=
 if a.kind=8 then iY p a.n.toNat else if a.kind=9 then((nZ p a.n.toNat).1,0,(nZ p a.n.toNat).2)else if a.kind=10 then((kp p a.n.toNat a.m.toNat).1,0,(kp p a.n.toNat a.m.toNat).2)else
 if a.kind=11 then((pT p a.n.toNat).1,0,(pT p a.n.toNat).2)else if a.kind=12 then((nX p a.n.toNat).1,0,(nX p a.n.toNat).2)else if a.kind=13 then((i4 p a.n.toNat).1,0,(i4 p a.n.toNat).2)else
 if a.kind=14 then((gW p a.n.toNat).1,0,(gW p a.n.toNat).2)else((fI p a.n.toNat).1,0,(fI p a.n.toNat).2)
def vk (w:Wa) (a:Act):Wa×An:=match w.ps[a.part.toNat]? with
 |none=>l9 w 5
 |some p=>if(lP p a).2.2=0 then({w with ps:=w.ps.set a.part.toNat (lP p a).1},⟨0,(lP p a).2.1,[]⟩)else l9 w (lP p a).2.2
inductive C6 (p:gz) (a most:Nat):An->Prop
 |none:p.leader<0->C6 p a most ⟨8,0,[]⟩
 |range (l:Nat) (r:RA):p.leader=l->p.reps[l]? =some r->r.es.length<a->C6 p a most ⟨2,0,[]⟩
 |ok (l:Nat) (r:RA) (st:Nat) (out:List ByteArray) (b:Nat):p.leader=l->p.reps[l]? =some r->a<=r.es.length->tR (r.es.take r.high.toNat) st->Bp r.es r.high.toNat st a most out b->C6 p a most ⟨0,(b:Nat),out⟩
inductive qS (w:Wa) (a:Act):An->Prop
 |no:(eN w.gr a.name a.part).2≠0->qS w a ⟨(eN w.gr a.name a.part).2,0,[]⟩
 |yes (p:gz) (x:An):(eN w.gr a.name a.part).2=0->w.ps[a.part.toNat]? =some p->C6 p (eN w.gr a.name a.part).1.toNat a.n.toNat x->qS w a x
def GU (w:Wa) (a:Act):Gr×Int:=if a.kind=16 then s6 w.gr a.name w.ps.length else if a.kind=18 then xq w.gr a.name a.n else sm w.gr a.name a.n a.part a.m
def BF (w:Wa) (a:Act):Wa×An:=if(GU w a).2=0 then({w with gr:=(GU w a).1},⟨0,(GU w a).1.gen,[]⟩)else l9 w (GU w a).2
theorem Gx {l:List Sn} {s:ByteArray} {i:Nat} (h:fh l s=some i): ∃ x,l[i]? =some x/\x.name=s:=by
 obtain⟨hl,h1,-⟩:=bg.1 h
 exact⟨_,ah hl,by simpa using h1⟩
theorem Km {l:List Sn} {s:ByteArray} {i:Nat} {x:Sn} (hx:l[i]? =some x) (hn:x.name=s) (hno: ∀ y∈l.take i,y.name≠s):fh l s=some i:=by
 unfold fh
 obtain⟨hl,rfl⟩:=cF hx
 rw[bg]
 refine⟨hl,by simpa using hn,fun j hj=> ?_⟩
 have:=hno l[j] (List.mem_take_iff_getElem.2 ⟨j,by omega,rfl⟩)
 simpa using this
theorem Gy {l:List Sn} {s:ByteArray} (hno: ∀ y∈l,y.name≠s):fh l s=none:=by
 unfold fh
 rw[dn]
 intro x hx
 simpa using hno x hx
def OO (g:Nat):Option Nat->Value
 |none=> .pointer none
 |some i=> .pointer (some ⟨g,i*zH.sz,none⟩)
theorem dP (e:Int) (w:World):db aa xU [J e] w fun v w2=>v=.agg #[J e,J 0,.slice none 0 0]/\Below w.heap.size w w2:=by
 refine aD xc Z Z ?_
 have H:=Hp.start w
 refine W<|Zr<|eE H dm Z fun w1 b2 H=>U<|W<|Zr<|G (Yi Z)<|G (bi (cs:= #[J (e),J (0),.slice none 0 0]) iE dm N)<|bo H 0 (#[J (e),J (0),.slice none 0 0]) aP Z Z Z Z Z N N fun w2 H=>U<|Zt ?_
 exact eO (cs0:= #[J e,J 0,.slice none 0 0]) Z aN Z (H.ent (i:=0) Z) Z ⟨rfl,H.below⟩
theorem Dk (a:Act) (c n:Int) (A:Option Addr) (l k:Nat) (w:World):db aa vp [a.v,.agg #[J c,J n,.slice A l k]] w fun v w2=>v=(if a.lost=0 then .agg #[J c,J n,.slice A l k]else .agg #[J 14,J 0,.slice none 0 0])/\Below w.heap.size w w2:=by
 refine aD AL Z Z ?_
 have H:=Hp.start w
 show CW _ _ _ _ (args [.agg #[J (a.kind),.string (a.name),J (a.part),J (a.n),J (a.m),.string (a.text),J (a.lost)],.agg #[J c,J n,.slice A l k]]) w
 refine W<|Zr<|fT H Z Z fun w1 b2 H=>fT H Z Z fun w2 b3 H=>eE H dm Z fun w3 b4 H=>U<|W<|W<|Zr<|G (Zf jE Z)<|G (Zd aj H 2 Z Z Z) ?_
 refine qt (iO Z Z) Z Z Z (fun h7=> ?_) (fun h7=> ?_)
 refine U<|ZT Z<|W<|Zr<|bY bN (dP 14 _) Z Z ?_
 rintro _ w4 ⟨rfl,hb⟩;replace H:=H.later hb;clear hb
 refine bo H 0 (#[J (14),J (0),.slice none 0 0]) aP Z Z Z Z Z N N fun w5 H=>U<|Zt ?_
 exact eO (cs0:= #[J 14,J 0,.slice none 0 0]) Z aN Z (H.ent (i:=0) Z) Z ⟨(if_neg h7).symm,H.below⟩
 refine U<|ZF Z<|Zk<|W<|Zr<|G (Zw aN H 1 Z Z Z)<|bo H 0 (#[J (c),J (n),.slice A l k]) aP Z Z Z Z Z N N fun w6 H=>U<|Zt ?_
 exact eO (cs0:= #[J c,J n,.slice A l k]) Z aN Z (H.ent (i:=0) Z) Z ⟨(if_pos (by simpa using h7)).symm,H.below⟩
theorem oa (bb:Nat) (b:Bk) (n:Int) (w:World) (hb:w.heap[bb]? =some (.cells b.c.toArray bK (0,0))):db aa tm [.pointer (Qd bb),J n] w fun v w2=>v=.bool (decide (0<=n/\n<(b.ps.length:Int)))/\Below w.heap.size w w2:=by
 refine aD sN Z Z ?_
 have H:=Hp.start w
 have hbl:=cd hb
 refine W<|Zr<|G (Wb Z)<|U<|W<|Zr<|G (Yi Z) ?_
 refine cU (ke Z Z) Z Z Z (fun h6=> ?_) (fun h6=> ?_)
 refine G (Yb Z)<|ZG<|G (Yi Z)<|ZG<|G (Yp Z)<|ZG<|G (aI Z)<|ZG<|G (Zf aV Z)<|ZG<|G (Zf dJ Z)<|ZG<|G (aU ei Z ((H.below.cell (p:=⟨bb,_,none⟩) hbl).trans (aB (j:=0) hb Z)))<|ZG<|G (bn lS Z)<|ZG ?_
 refine cU (cH Z Z) Z Z Z (fun h15=> ?_) (fun h15=> ?_)
 refine G (Kt Z Z)<|G (Wb Z)<|U<|Zt ?_
 exact cy (v:=.bool true) Z Z ⟨by congr 1;simp only[Bool.true_eq,Bool.false_eq,decide_eq_true_eq,decide_eq_false_iff_not];omega,H.below⟩
 refine G (Kt Z Z)<|G (Wb Z)<|U<|Zt ?_
 exact cy (v:=.bool false) Z Z ⟨by congr 1;simp only[Bool.true_eq,Bool.false_eq,decide_eq_true_eq,decide_eq_false_iff_not];omega,H.below⟩
 refine G (Yb Z)<|ZN<|ZN<|ZN<|ZN<|ZN<|ZN<|ZN<|ZN<|G (N Z Z)<|G (Wb Z)<|U<|Zt ?_
 exact cy (v:=.bool false) Z Z ⟨by congr 1;simp only[Bool.true_eq,Bool.false_eq,decide_eq_true_eq,decide_eq_false_iff_not];omega,H.below⟩
theorem Gz (bb:Nat) (b:Bk) (s:ByteArray) (w:World) (hb:w.heap[bb]? =some (.cells b.c.toArray bK (0,0))) (h0:b.sns=[]):db aa jt [.pointer (Qd bb),.string s] w fun v w2=>v=.pointer none/\Below w.heap.size w w2:=by
 refine aD lW Z Z ?_
 have H:=Hp.start w
 have hbl:=cd hb
 have hl0:b.sns.length=0:=by rw[h0];rfl
 refine W<|Zr<|G (Wp Z)<|U<|W<|W<|Zr<|G (Yp Z)<|G (aI Z)<|G (Zf aV Z)<|G (Zf ki Z)<|G (aU j7 Z ((H.below.cell (p:=⟨bb,_,none⟩) hbl).trans (aB (j:=10) hb Z)))<|G (bn tN Z)<|G (Yi Z)<|U<|Zb ?_
 refine cf (τ:=Unit) [4,5,12,13,14,15,16,17,18,19,20,21,22,23,24,25,26,27,28,29,30,31,32,33] (fun _=>[(12,J 0)]) (fun _ w'=>Hp w w' [] []) (fun _=>0) () H (dI Z) ?_
 rintro _ ρ1 w1 H
 show CW _ _ _ _ (dA (gC _ _ ρ1) [(12,J 0)]) w1
 refine W<|Zr<|G (cZ Z Z I)<|U<|W<|ZF Z<|Zx<|W<|Zr<|G (Wp Z)<|U<|Zt ?_
 exact cy (v:=.pointer none) Z Z ⟨rfl,H.below⟩
theorem IK (bb:Nat) (b:Bk) (s:ByteArray) (g:Nat) (u:Array Value) (w:World) (hb:w.heap[bb]? =some (.cells b.c.toArray bK (0,0))) (hA:b.snA=some ⟨g,0,none⟩) (row:dU zH b.sns b.snC u) (hg:w.heap[g]? =some (.cells u fx (0,0))) (hl:b.sns.length<=1000000):db aa jt [.pointer (Qd bb),.string s] w fun v w2=>v=OO g (fh b.sns s)/\Below w.heap.size w w2:=by
 refine aD lW Z Z ?_
 have H:=Hp.start w
 have hbl:=cd hb
 have hgl:=cd hg
 obtain⟨ps,pA,pC,co,clo,chi,gr,glo,ghi,sns,snA,snC⟩:=b
 dsimp only at hA row hl
 subst hA
 replace hb:w.heap[bb]? =some (.cells #[.slice pA ps.length pC,J (co.clock),J (co.next),J (co.wait),.slice co.A co.txs.length co.cap,J (gr.clock),J (gr.wait),J (gr.gen),.slice gr.mA gr.ms.length gr.mC,.slice gr.oA gr.os.length gr.oC,.slice (Qd g) sns.length snC] bK (0,0)):=hb
 refine W<|Zr<|G (Wp Z)<|U<|W<|W<|Zr<|G (Yp Z)<|G (aI Z)<|G (Zf aV Z)<|G (Zf ki Z)<|G (aU j7 Z ((H.below.cell (p:=⟨bb,_,none⟩) hbl).trans (aB (j:=10) hb Z)))<|G (bn tN Z)<|G (Yi Z)<|U<|Zb ?_
 refine cf (τ:=Nat) [4,5,12,13,14,15,16,17,18,19,20,21,22,23,24,25,26,27,28,29,30,31,32,33] (fun i=>[(12,J (i:Nat))]) (fun i w'=>i<=sns.length/\(∀ y∈sns.take i,y.name≠s)/\Hp w w' [] []) (fun i=>sns.length-i) 0 ⟨by omega,by simp,H⟩ (dI Z) ?_
 rintro i ρ1 w1 ⟨hi,hno,H⟩
 show CW _ _ _ _ (dA (gC _ _ ρ1) [(12,J (i:Nat))]) w1
 refine W<|Zr ?_
 refine cU (cH Z Z) Z Z Z (fun h13=> ?_) (fun h13=> ?_)
 refine U<|W<|ZT Z<|Zk<|W<|Zb<|W ?_
 obtain⟨x,hx⟩: ∃ x,sns[i]? =some x:=⟨_,ah I⟩
 refine Zr<|G (Yi Z)<|G (Wi Z)<|U<|W<|Zr<|G (Yp Z)<|G (aI Z)<|G (Zf aV Z)<|G (Zf ki Z)<|G (aU j7 Z ((H.below.cell (p:=⟨bb,_,none⟩) hbl).trans (aB (j:=10) hb Z)))<|G (Yi Z)<|G (cD ss Z Z I)<|G (Zf ox Z)<|G (bQ aZ row hx 0 Z ((H.below.block _ hgl).trans hg) Z)<|G (Yt Z) ?_
 refine cU (vO Z Z) Z Z Z (fun h25=> ?_) (fun h25=> ?_)
 refine U<|ZT Z<|W<|Zr<|G (Yp Z)<|G (aI Z)<|G (Zf aV Z)<|G (Zf ki Z)<|G (aU j7 Z ((H.below.cell (p:=⟨bb,_,none⟩) hbl).trans (aB (j:=10) hb Z)))<|G (Yi Z)<|G (cD ss Z Z I)<|G (Wp Z)<|U<|Zt ?_
 exact cy (v:=.pointer (some ⟨g,i*zH.sz,none⟩)) Z Z ⟨by dsimp only;rw[Km hx h25 hno];rfl,H.below⟩
 refine U<|ZF Z<|Zk<|Zr<|G (br Z Z I I)<|G (Yi Z)<|U ?_
 refine⟨i+1,⟨by omega,fun y hy=> ?_,H⟩,dI Z,Qg,by show sns.length- (i+1)<sns.length-i;omega⟩
 rw[eK hx]at hy
 rcases ar.1 hy with hy|hy
 exact hno y hy
 rw[aq.1 hy];exact h25
 refine U<|W<|ZF Z<|Zx<|W<|Zr<|G (Wp Z)<|U<|Zt ?_
 obtain rfl:i=sns.length:=by omega
 rw[bJ]at hno
 exact cy (v:=.pointer none) Z Z ⟨by dsimp only;rw[Gy hno];rfl,H.below⟩
def O6:Option Addr->Nat
 |some A=>A.block
 |none=>0
theorem jq (bb:Nat) (b:Bk) (s:ByteArray) (Ls:List (Nat×Obj)) (w:World) (hb:w.heap[bb]? =some (.cells b.c.toArray bK (0,0))) (hsn:fW zH (.slice b.snA b.sns.length b.snC) fx b.sns Ls) (hLs: ∀ q∈Ls,w.heap[q.1]? =some q.2) (hl:b.sns.length<=1000000):db aa jt [.pointer (Qd bb),.string s] w fun v w2=>v=OO (O6 b.snA) (fh b.sns s)/\Below w.heap.size w w2:=by
 by_cases h0:b.sns=[]
 refine(Gz bb b s w hb h0).mono fun v w2 ⟨h1,h2⟩=>⟨?_,h2⟩
 rw[h1,h0];rfl
 obtain⟨g,u,hA,hL,row⟩:=hsn.row (List.length_pos_iff.2 h0)
 subst hL
 refine(IK bb b s g u w hb hA row (hLs _ (aq.2 Z)) hl).mono fun v w2 ⟨h1,h2⟩=>⟨?_,h2⟩
 rw[h1,hA];rfl
theorem CO (X:List (Nat×Obj)) (a b:Nat×Obj) (La Lb K:List (Nat×Obj)):(X++(a::b::(La++(Lb++K)))).Perm (X++((La++(a::b::Lb))++K)):=by
 refine List.Perm.append_left _ ?_
 rw[show(La++(a::b::Lb))++K=La++([a,b]++(Lb++K)) by simp]
 exact fU [a,b] La (Lb++K)
theorem Bw.close {w0 w':World} {bb gP gS gq gl pC snC clo chi glo ghi i:Nat} {uP uS uq ul:Array Value} {La Lb K X:List (Nat×Obj)} {F0 F':List cr} {ps:List Pq} {co:Co} {gr:Gr} {sns:List Sn} {s:Sn} {C:Array Value} (row:dU E1 ps pC uP) (rowS:dU zH (sns.set i s) snC uS) (hset: ∀ (s':Sn) (gq':Nat) (uq':Array Value) (gl':Nat) (ul':Array Value),s'.sA=some ⟨gq',0,none⟩->s'.lA=some ⟨gl',0,none⟩->dU bR s'.seqs s'.sC uq'->dU gL s'.last s'.lC ul'->ql (sns.set i s') (La++((gq',.cells uq' cY (0,0))::(gl',.cells ul' du (0,0))::Lb)))
  (hsA:s.sA=some ⟨gq,0,none⟩) (hlA:s.lA=some ⟨gl,0,none⟩) (rowq:dU bR s.seqs s.sC uq) (rowl:dU gL s.last s.lC ul) (hco:xx w0 clo chi co∈F') (hgr:JT w0 glo ghi gr∈F') (hps: ∀ q∈ps,tz w0 q.lo q.hi q.p∈F') (hF: ∀ f∈F0,f∈F')
  (H:Hp w0 w' (X++((bb,.cells C bK (0,0))::(gP,.cells uP bE (0,0))::(gS,.cells uS fx (0,0))::(gq,.cells uq cY (0,0))::(gl,.cells ul du (0,0))::(La++(Lb++K)))) F') (hC:C=(Bk.mk ps (Qd gP) pC co clo chi gr glo ghi (sns.set i s) (Qd gS) snC).c.toArray):xy w0 w' bb ⟨ps,some ⟨gP,0,none⟩,pC,co,clo,chi,gr,glo,ghi,sns.set i s,some ⟨gS,0,none⟩,snC⟩ K F0:=by
 subst hC
 refine⟨gP,uP,_,_,F',⟨rfl,row,dU.own rowS,hset s gq uq gl ul hsA hlA rowq rowl,hco,hgr,hps,?_⟩,hF⟩
 have H1:=H.forget (cm X _) (fun _ h=>h)
 exact H1.perm (CO [(bb,_),(gP,_),(gS,_)] _ _ La Lb K).symm
theorem zg (l:List Sn) (s:ByteArray):fh (l.map Sn.a) s=fh l s:=by
 unfold fh
 rw[C9]
 rfl
theorem wB {l:List Sn} {s:ByteArray} {i:Nat} {x:Sn} (hix:fh l s=some i) (hx:l[i]? =some x):((fh (l.map Sn.a) s).bind fun i=>(l.map Sn.a)[i]?.map fun s=>(i,s))=some (i,x.a):=by
 rw[zg,hix]
 simp[hx]
theorem Do {l:List Sn} {s:ByteArray} (hix:fh l s=none):((fh (l.map Sn.a) s).bind fun i=>(l.map Sn.a)[i]?.map fun s=>(i,s))=none:=by
 rw[zg,hix]
 rfl
theorem Bw.shut {w0 w':World} {bb gP pC snC clo chi glo ghi:Nat} {uP:Array Value} {Ls Lo K X:List (Nat×Obj)} {F0 F':List cr} {ps:List Pq} {co:Co} {gr:Gr} {sns:List Sn} {snA:Option Addr} {C:Array Value} (row:dU E1 ps pC uP) (hsn:fW zH (.slice snA sns.length snC) fx sns Ls) (hown:ql sns Lo) (hco:xx w0 clo chi co∈F') (hgr:JT w0 glo ghi gr∈F') (hps: ∀ q∈ps,tz w0 q.lo q.hi q.p∈F') (hF: ∀ f∈F0,f∈F')
  (H:Hp w0 w' (X++((bb,.cells C bK (0,0))::(gP,.cells uP bE (0,0))::(Ls++(Lo++K)))) F') (hC:C=(Bk.mk ps (Qd gP) pC co clo chi gr glo ghi sns snA snC).c.toArray):xy w0 w' bb ⟨ps,some ⟨gP,0,none⟩,pC,co,clo,chi,gr,glo,ghi,sns,snA,snC⟩ K F0:=by
 subst hC
 exact⟨gP,uP,_,_,F',⟨rfl,row,hsn,hown,hco,hgr,hps,H.forget (cm X _) (fun _ h=>h)⟩,hF⟩
theorem xo {b:Bk} {a:Act} {i:Nat} {x:Sn} (hix:fh b.sns a.name=some i) (hx:b.sns[i]? =some x) (h:x.inn=true):kW b.a a=(b.a,⟨6,0,[]⟩):=by
 unfold kW
 rw[show b.a.sns=b.sns.map Sn.a from rfl,wB hix hx]
 dsimp only
 rw[if_pos (show x.a.inn=true from h)]
 rfl
theorem C2 {b:Bk} {a:Act} {i:Nat} {x:Sn} (hix:fh b.sns a.name=some i) (hx:b.sns[i]? =some x) (h:x.inn=false):kW b.a a=({b.a with sns:=(b.sns.set i {x with inn:=true}).map Sn.a},⟨0,0,[]⟩):=by
 unfold kW
 rw[show b.a.sns=b.sns.map Sn.a from rfl,wB hix hx]
 dsimp only
 rw[if_neg (show¬ x.a.inn=true by show¬ x.inn=true;rw[h];decide),cz]
 rfl
theorem yP {b:Bk} {a:Act} (hix:fh b.sns a.name=none):kW b.a a=(b.a,⟨5,0,[]⟩):=by
 unfold kW
 rw[show b.a.sns=b.sns.map Sn.a from rfl,Do hix]
 rfl
theorem eY {α:Type} {l:List α} {k:Nat} {a:α} (h:l[k]? =some a):l.set k a=l:=by
 apply eJ
 intro j
 rw[lw]
 split
 rename_i hj
 subst hj
 split
 exact h.symm
 rename_i hl
 rw[cJ I]at h;cases h
 rfl
theorem Hu {w0 w:World} {bb:Nat} {b:Bk} {gP:Nat} {uP:Array Value} {Ls Lo K:List (Nat×Obj)} {F:List cr} (a:Act) (B:Bw w0 w bb b gP uP Ls Lo K F) (hsl:b.sns.length<=1000000) (hix:fh b.sns a.name=none):db aa jN [.pointer (Qd bb),a.v] w fun v w2=> ∃ b':Bk,oP (kW b.a a).2 v w2/\b'.a=(kW b.a a).1/\xy w0 w2 bb b' K F:=by
 refine aD mF Z Z ?_
 obtain⟨ps,pA,pC,co,clo,chi,gr,glo,ghi,sns,snA,snC⟩:=b
 obtain⟨hpA,row,hsn,hown,hco,hgr,hps,H⟩:=B
 dsimp only at hpA row hsn hown hco hgr hps
 subst hpA
 replace H:Hp w0 w ((bb,.cells #[.slice (Qd gP) ps.length pC,J (co.clock),J (co.next),J (co.wait),.slice co.A co.txs.length co.cap,J (gr.clock),J (gr.wait),J (gr.gen),.slice gr.mA gr.ms.length gr.mC,.slice gr.oA gr.os.length gr.oC,.slice snA sns.length snC] bK (0,0))::(gP,.cells uP bE (0,0))::(Ls++(Lo++K))) F:=H
 dsimp only at hix hsl
 show CW _ _ _ _ (args [.pointer (Qd bb),.agg #[J (a.kind),.string (a.name),J (a.part),J (a.n),J (a.m),.string (a.text),J (a.lost)]]) w
 refine W<|Zr<|fT H Z Z fun w1 b3 H=>eE H dm Z fun w2 b4 H=>U<|W<|Zr<|G (Yp Z)<|G (Zf fb Z)<|G (Zd aZ H 1 Z Z Z)<|bY dy (jq bb ⟨ps,some ⟨gP,0,none⟩,pC,co,clo,chi,gr,glo,ghi,sns,snA,snC⟩ (a.name) Ls _ (H.ent (i:=2) Z) hsn (fun q hq=>(H.ents q (by simp only[ax,ar];grind)).1) hsl) Z Z ?_
 rintro _ w3 ⟨rfl,hb⟩;replace H:=H.later hb;clear hb
 rw[hix]
 refine G (Wp Z)<|U<|W<|Zb<|W<|Zr<|G (Yp Z)<|G (xJ iM Z)<|G (Wb Z)<|U<|ZT Z<|W<|Zr<|bY bN (dP 5 _) Z Z ?_
 rintro _ w4 ⟨rfl,hb⟩;replace H:=H.later hb;clear hb
 refine bo H 0 (#[J (5),J (0),.slice none 0 0]) aP Z Z Z Z Z N N fun w5 H=>U<|Zt ?_
 exact eO (cs0:= #[J (5),J (0),.slice none 0 0]) Z aN Z (H.ent (i:=0) Z) Z ⟨⟨ps,some ⟨gP,0,none⟩,pC,co,clo,chi,gr,glo,ghi,sns,snA,snC⟩,by rw[yP hix];exact oP.plain _ _ _,by rw[yP hix],Bw.shut (X:=[(b4,_),(b3,_)]) row hsn hown hco hgr hps (fun _ h=>h) H Z⟩
theorem Ht {w0 w:World} {bb:Nat} {b:Bk} {gP:Nat} {uP:Array Value} {Ls Lo K:List (Nat×Obj)} {F:List cr} (a:Act) (B:Bw w0 w bb b gP uP Ls Lo K F) (hsl:b.sns.length<=1000000) {i:Nat} {x:Sn} (hix:fh b.sns a.name=some i) (hx:b.sns[i]? =some x):db aa jN [.pointer (Qd bb),a.v] w fun v w2=> ∃ b':Bk,oP (kW b.a a).2 v w2/\b'.a=(kW b.a a).1/\xy w0 w2 bb b' K F:=by
 refine aD mF Z Z ?_
 obtain⟨ps,pA,pC,co,clo,chi,gr,glo,ghi,sns,snA,snC⟩:=b
 obtain⟨hpA,row,hsn,hown,hco,hgr,hps,H⟩:=B
 dsimp only at hpA row hsn hown hco hgr hps
 subst hpA
 dsimp only at hix hx
 obtain⟨gS,uS,hgS,hLs,rowS⟩:=hsn.row (by have:=(cF hx).1;omega)
 subst hgS;subst hLs
 obtain⟨gq,uq,gl,ul,La,Lb,hsA,hlA,rowq,rowl,hLo,hset⟩:=hown.at_ hx
 subst hLo
 replace H:Hp w0 w ((bb,.cells #[.slice (Qd gP) ps.length pC,J (co.clock),J (co.next),J (co.wait),.slice co.A co.txs.length co.cap,J (gr.clock),J (gr.wait),J (gr.gen),.slice gr.mA gr.ms.length gr.mC,.slice gr.oA gr.os.length gr.oC,.slice (Qd gS) sns.length snC] bK (0,0))::(gP,.cells uP bE (0,0))::(gS,.cells uS fx (0,0))::(gq,.cells uq cY (0,0))::(gl,.cells ul du (0,0))::(La++(Lb++K))) F:=H.perm (CO [(bb,_),(gP,_),(gS,_)] _ _ La Lb K)
 dsimp only at hsl
 show CW _ _ _ _ (args [.pointer (Qd bb),.agg #[J (a.kind),.string (a.name),J (a.part),J (a.n),J (a.m),.string (a.text),J (a.lost)]]) w
 refine W<|Zr<|fT H Z Z fun w1 b3 H=>eE H dm Z fun w2 b4 H=>U<|W<|Zr<|G (Yp Z)<|G (Zf fb Z)<|G (Zd aZ H 1 Z Z Z)<|bY dy (jq bb ⟨ps,some ⟨gP,0,none⟩,pC,co,clo,chi,gr,glo,ghi,sns,some ⟨gS,0,none⟩,snC⟩ (a.name) _ _ (H.ent (i:=2) Z) (dU.own rowS) (fun q hq=>by rw[aq.1 hq];exact(H.ent (i:=4) Z)) hsl) Z Z ?_
 rintro _ w3 ⟨rfl,hb⟩;replace H:=H.later hb;clear hb
 rw[hix]
 refine G (Wp Z)<|U<|W<|Zb<|W<|Zr<|G (Yp Z)<|G (vQ iM Z)<|G (Wb Z)<|U<|ZF Z<|W<|Zr<|G (Yp Z)<|G (aI Z)<|G (Zf ow Z) ?_
 refine wm (bQ dQ rowS hx 3 Z (H.ent (i:=4) Z) Z) Z Z Z (fun h18=> ?_) (fun h18=> ?_)
 refine G (Wb Z)<|U<|ZT Z<|W<|Zr<|bY bN (dP 6 _) Z Z ?_
 rintro _ w4 ⟨rfl,hb⟩;replace H:=H.later hb;clear hb
 refine bo H 0 (#[J (6),J (0),.slice none 0 0]) aP Z Z Z Z Z N N fun w5 H=>U<|Zt ?_
 exact eO (cs0:= #[J (6),J (0),.slice none 0 0]) Z aN Z (H.ent (i:=0) Z) Z ⟨⟨ps,some ⟨gP,0,none⟩,pC,co,clo,chi,gr,glo,ghi,sns.set i x,some ⟨gS,0,none⟩,snC⟩,by rw[xo hix hx h18];exact oP.plain _ _ _,by rw[xo hix hx h18,eY hx],Bw.close (X:=[(b4,_),(b3,_)]) row (by rw[eY hx];exact rowS) hset hsA hlA rowq rowl hco hgr hps (fun _ h=>h) H (by rw[eY hx];rfl)⟩
 refine G (Wb Z)<|U<|ZF Z<|Zk<|W<|Zr<|G (Yp Z)<|G (aI Z)<|G (Zf ow Z)<|kR H 4 ({x with inn:=true}) iI rowS hx 3 Z Z Z Z Z Z N fun w7 cur6 row6 H=> ?_
 have hs8:(sns.set i ({x with inn:=true}))[i]? =some ({x with inn:=true}):=am (cF hx).1
 refine U<|W<|Zr<|G (bi (cs:= #[J (0),J (0),.slice none 0 0]) iE dm N)<|bo H 0 (#[J (0),J (0),.slice none 0 0]) aP Z Z Z Z Z N N fun w9 H=>U<|Zt ?_
 exact eO (cs0:= #[J (0),J (0),.slice none 0 0]) Z aN Z (H.ent (i:=0) Z) Z ⟨⟨ps,some ⟨gP,0,none⟩,pC,co,clo,chi,gr,glo,ghi,sns.set i {x with inn:=true},some ⟨gS,0,none⟩,snC⟩,by rw[C2 hix hx h18];exact oP.plain _ _ _,by rw[C2 hix hx h18];rfl,Bw.close (X:=[(b4,_),(b3,_)]) row row6 hset hsA hlA rowq rowl hco hgr hps (fun _ h=>h) H (by simp only[Bk.c,ab])⟩
def Mi:Deep Co:=⟨fun c=>c.rd,fun _ _ _ _ _ hk h=>h.st hk,fun _ _ _ _ _ _ h h1 h2=>h.mono h1 h2⟩
def pV:Nat->ByteArray
 |0=>⟨#[97,110,110]⟩
 |1=>⟨#[98,111,98]⟩
 |_=>⟨#[99,121]⟩
theorem MS:bM ⟨#[97,110,110]⟩=true:=by kernel_rfl
theorem MR:bM ⟨#[98,111,98]⟩=true:=by kernel_rfl
theorem zl:bM ⟨#[99,121]⟩=true:=by kernel_rfl
theorem qY: ∀ m:Nat,bM (pV m)=true
 |0=>MS
 |1=>MR
 |_+2=>zl
theorem KR {m:Nat} (h:m<3):(qc [.string ⟨#[97,110,110]⟩,.string ⟨#[98,111,98]⟩,.string ⟨#[99,121]⟩]).toArray[0+((m:Nat):Int).toNat*1]? =some (.string (pV m)):=by
 match m,h with
 |0,_=>rfl
 |1,_=>rfl
 |2,_=>rfl
def Ch (P:ByteArray->Prop) (wt:Int) (c:Co):Prop:=c.wait=wt/\ ∀ t∈c.txs,P t.name
theorem Ch.set {P:ByteArray->Prop} {wt:Int} {c:Co} {i:Nat} {t t':Tx} (h:Ch P wt c) (hi:c.txs[i]? =some t) (hn:t'.name=t.name):Ch P wt (qF c i t'):=⟨h.1,fun x hx=>by
 rcases DB hx with hx|rfl
 exact h.2 x hx
 rw[hn];exact h.2 t (ae hi)⟩
theorem Ch.add {P:ByteArray->Prop} {wt:Int} {c:Co} {s:ByteArray} {ver p:Int} (h:Ch P wt c) (he:(oI c s ver p).2=0):Ch P wt (oI c s ver p).1:=by
 unfold oI at he⊢
 split
 rename_i hf;rw[hf]at he;cases he
 rename_i i t hf
 rw[hf]at he
 dsimp only at he
 split at he
 cases he
 rename_i hv
 rw[if_neg hv]
 split at he
 rename_i h1
 rw[if_pos h1]
 exact h.set (jg hf).2.1 (by unfold iy;split<;>rfl)
 cases he
theorem Ch.done {P:ByteArray->Prop} {wt:Int} {c:Co} {s:ByteArray} {p:Int} (h:Ch P wt c) (he:(qN c s p).2=0):Ch P wt (qN c s p).1:=by
 unfold qN at he⊢
 split
 rename_i hf;rw[hf]at he;cases he
 rename_i i t hf
 rw[hf]at he
 dsimp only at he
 split at he
 rename_i h1
 rw[if_pos h1]
 split at he
 rename_i h2
 rw[if_pos h2]
 exact h.set (jg hf).2.1 (by unfold gw;split<;>rfl)
 cases he
 cases he
theorem Ch.tick {P:ByteArray->Prop} {wt:Int} {c:Co} {n:Int} (h:Ch P wt c) (he:(jc c n).2=0):Ch P wt (jc c n).1:=by
 unfold jc at he⊢
 split at he
 cases he
 rename_i h1
 rw[if_neg h1]
 refine⟨h.1,fun t ht=> ?_⟩
 obtain⟨x,hx,rfl⟩:=bw.1 (show t∈c.txs.map _ from ht)
 have:(fj (c.clock+n) c.wait x).name=x.name:=by unfold fj;split<;>rfl
 rw[this];exact h.2 x hx
theorem Ch.a {P:ByteArray->Prop} {wt:Int} {c:Co} (h:Ch P wt c):Ch P wt c.a:=⟨h.1,fun t ht=>by
 obtain⟨x,hx,rfl⟩:=bw.1 (show t∈c.txs.map Tx.a from ht)
 exact h.2 x hx⟩
theorem Ch.of_a {P:ByteArray->Prop} {wt:Int} {c:Co} (h:Ch P wt c.a):Ch P wt c:=⟨h.1,fun t ht=>h.2 t.a (bL (f:=Tx.a) ht)⟩
def Nz (s:ByteArray):Prop:= ∃ m,s=pV m
def P2 (k:Nat) (c:Co):Prop:=oO k c/\Ch Nz 10 c
theorem P2.next {k:Nat} {r:Co×Int} {c':Co} (h1:r.2=0->oO (k+1) r.1) (h2:r.2=0->Ch Nz 10 r.1) (ha:c'.a=r.1):r.2=0->P2 (k+1) c':=fun h=>⟨oO.of_a (ha▸h1 h),Ch.of_a (ha▸h2 h)⟩
theorem K6 (n:Int) (w:World) (hn:i64 n):db aa uW [J n] w fun v w2=>v=.string (pV (pk n 3))/\Below w.heap.size w w2:=by
 refine aD tX Z Z ?_
 have H:=Hp.start w
 refine W<|Zr<|G (Wt Z)<|U<|W<|Zr<|tb (vs:=[.string ⟨#[97,110,110]⟩,.string ⟨#[98,111,98]⟩,.string ⟨#[99,121]⟩]) H fX wr Z Z Z Z Z Z fun w1 b3 H=>G (Yi Z)<|bY aJ (di n 3 _ hn.1 hn.2 I I) Z Z ?_
 rintro _ w2 ⟨rfl,hb⟩;replace H:=H.later hb;clear hb
 have hm:=i6 n (show 0<3 by omega)
 refine G (s7 fX Z Z I I)<|G (aU aZ Z (aB (H.ent (i:=0) Z) (KR hm)))<|G (Wt Z)<|U<|Zt ?_
 exact cy Z Z ⟨rfl,H.below⟩
theorem HO {w:Wa} {n:Nat} {x:cO} {p:gz} (h:w.ps[n]? =some p):uR w n x=if(eD p x).2.2=0 then({w with ps:=w.ps.set n (eD p x).1},⟨0,(eD p x).2.1,[]⟩)else l9 w (eD p x).2.2:=by
 unfold uR
 rw[h]
theorem z6 {ps:List Pq} {n:Nat} {q y:Pq} (h:y∈ps.set n q):y∈ps∨y=q:=bF h
theorem AU {w0 w:World} {bb gP gS gq gl pC snC clo chi k i n:Nat} {uP uS uq ul:Array Value} {R:List (Nat×Obj)} {F:List cr} {ps:List Pq} {co:Co} {gr:Gr} {sns:List Sn} {x:Sn} (H:Hp w0 w ((bb,.cells #[.slice (Qd gP) ps.length pC,J (co.clock),J (co.next),J (co.wait),.slice co.A co.txs.length co.cap,J (gr.clock),J (gr.wait),J (gr.gen),.slice gr.mA gr.ms.length gr.mC,.slice gr.oA gr.os.length gr.oC,.slice (Qd gS) sns.length snC] bK (0,0))::(gP,.cells uP bE (0,0))::(gS,.cells uS fx (0,0))::(gq,.cells uq cY (0,0))::(gl,.cells ul du (0,0))::R) F) (row:dU E1 ps pC uP) (rowS:dU zH sns snC uS) (rowl:dU gL x.last x.lC ul) (hx:sns[i]? =some x) (hlA:x.lA=some ⟨gl,0,none⟩) (hco:xx w0 clo chi co∈F) (hps: ∀ q∈ps,tz w0 q.lo q.hi q.p∈F) (hn:n<x.last.length) (hnp:n<ps.length) (hn4:n<4) (hnm:bM x.name=true) (hcb:oO k co) (hpk: ∀ q∈ps,q.p.a.ok/\ ∀ (l:Nat) (y:fd),q.p.leader=l->q.p.reps[l]? =some y->y.es.length<400):db aa rT [.pointer (Qd bb),.pointer (some ⟨gS,i*zH.sz,none⟩),J (n:Nat)] w fun v w2=> ∃ (ps':List Pq) (uP':Array Value) (co':Co) (clo' chi':Nat) (F':List cr),oP (ej (Wa.mk (ps.map fun q=>q.p.a) co.a gr.a (sns.map Sn.a)) x.a n).2 v w2/\(ej (Wa.mk (ps.map fun q=>q.p.a) co.a gr.a (sns.map Sn.a)) x.a n).1=Wa.mk (ps'.map fun q=>q.p.a) co'.a gr.a (sns.map Sn.a)/\dU E1 ps' pC uP'/\ps'.length=ps.length/\xx w0 clo' chi' co'∈F'/\(∀ q∈ps',tz w0 q.lo q.hi q.p∈F')/\(∀ f∈F,f∈F')/\Hp w0 w2 ((bb,.cells #[.slice (Qd gP) ps'.length pC,J (co'.clock),J (co'.next),J (co'.wait),.slice co'.A co'.txs.length co'.cap,J (gr.clock),J (gr.wait),J (gr.gen),.slice gr.mA gr.ms.length gr.mC,.slice gr.oA gr.os.length gr.oC,.slice (Qd gS) sns.length snC] bK (0,0))::(gP,.cells uP' bE (0,0))::(gS,.cells uS fx (0,0))::(gq,.cells uq cY (0,0))::(gl,.cells ul du (0,0))::R) F':=by
 refine aD ry Z Z ?_
 obtain⟨e,he⟩: ∃ e,x.last[n]? =some e:=⟨_,ah hn⟩
 have hl5:(zH.f x)[5]? =some (.slice (some ⟨gl,0,none⟩) x.last.length x.lC):=by rw[<-hlA];rfl
 obtain⟨q,hq⟩: ∃ q,ps[n]? =some q:=⟨_,ah hnp⟩
 have hqm:=ae hq
 have hpC:=row.le
 have hD:ej (Wa.mk (ps.map fun q=>q.p.a) co.a gr.a (sns.map Sn.a)) x.a n=if(r4 (Wa.mk (ps.map fun q=>q.p.a) co.a gr.a (sns.map Sn.a)) x.a n e).2=0 then uR (Wa.mk (ps.map fun q=>q.p.a) (r4 (Wa.mk (ps.map fun q=>q.p.a) co.a gr.a (sns.map Sn.a)) x.a n e).1 gr.a (sns.map Sn.a)) n e else l9 (Wa.mk (ps.map fun q=>q.p.a) co.a gr.a (sns.map Sn.a)) (r4 (Wa.mk (ps.map fun q=>q.p.a) co.a gr.a (sns.map Sn.a)) x.a n e).2:=by unfold ej;rw[show x.a.last[n]? =some e from he]
 rw[hD]
 have hP:=HO (w:=Wa.mk (ps.map fun q=>q.p.a) (r4 (Wa.mk (ps.map fun q=>q.p.a) co.a gr.a (sns.map Sn.a)) x.a n e).1 gr.a (sns.map Sn.a)) (n:=n) (x:=e) (p:=q.p.a) (by rw[aL,hq];rfl)
 refine W<|Zr<|eE H dm Z fun w1 b6 H=>U<|W<|Zr<|G (Yp Z)<|G (aI Z)<|G (Zf lZ Z)<|G (bQ ng rowS hx 5 Z (H.ent (i:=3) Z) hl5)<|G (Yi Z)<|G (cD dS Z Z (by first|omega|(simp only[ab];omega)))<|G (oR dG rowl he Z Z (H.ent (i:=5) Z))<|eE H gd Z fun w2 b7 H=>bo H 0 (#[J (e.epoch),J (e.pid),J (e.ver),J (e.seq),J (e.kind),.bool (e.txn),.string (e.text)]) eS Z Z Z Z Z N N fun w3 H=>U<|W<|W<|Zr<|G (Zf iZ Z)<|G (Zd dQ H 0 Z Z Z)<|U ?_
 refine eC (τ:=Co×Nat×Nat×List cr) [8,9,22,23,24,25,26,27,28,29,30,31,32,33,34,35,36,37,38,39,40,41,42,43,44,45,46] (fun _=>[]) (fun(c2,l2,h2,F2) w'=>c2.a=(r4 (Wa.mk (ps.map fun q=>q.p.a) co.a gr.a (sns.map Sn.a)) x.a n e).1/\(r4 (Wa.mk (ps.map fun q=>q.p.a) co.a gr.a (sns.map Sn.a)) x.a n e).2=0/\xx w0 l2 h2 c2∈F2/\(∀ f∈F,f∈F2)/\Hp w0 w' ((b7,.cells #[J (e.epoch),J (e.pid),J (e.ver),J (e.seq),J (e.kind),.bool (e.txn),.string (e.text)] du (0,0))::(b6,.cells #[J (0),J (0),.slice none 0 0] ec (0,0))::(bb,.cells #[.slice (Qd gP) ps.length pC,J (c2.clock),J (c2.next),J (c2.wait),.slice c2.A c2.txs.length c2.cap,J (gr.clock),J (gr.wait),J (gr.gen),.slice gr.mA gr.ms.length gr.mC,.slice gr.oA gr.os.length gr.oC,.slice (Qd gS) sns.length snC] bK (0,0))::(gP,.cells uP bE (0,0))::(gS,.cells uS fx (0,0))::(gq,.cells uq cY (0,0))::(gl,.cells ul du (0,0))::R) F2) ?_ ?_
 refine jl Z (fun hc21=> ?_) (fun hc21=> ?_)
 refine W ?_
 refine eC (τ:=Co×Nat×Nat×Nat) [8,9,22,23,24,25,26,27,28,29,30,31,32,33,34,35,36,37] (fun(_,b8,_,_)=>[(8,.pointer (Qd b8)),(9,J (oI co.a x.name e.ver n).2)]) (fun(c3,b8,lo,hi) w'=>c3.a=(oI co.a x.name e.ver n).1/\Hp w0 w' ((b8,.cells #[J (c3.clock),J (c3.next),J (c3.wait),.slice c3.A c3.txs.length c3.cap] bd (0,0))::(b7,.cells #[J (e.epoch),J (e.pid),J (e.ver),J (e.seq),J (e.kind),.bool (e.txn),.string (e.text)] du (0,0))::(b6,.cells #[J (0),J (0),.slice none 0 0] ec (0,0))::(bb,.cells #[.slice (Qd gP) ps.length pC,J (co.clock),J (co.next),J (co.wait),.slice co.A co.txs.length co.cap,J (gr.clock),J (gr.wait),J (gr.gen),.slice gr.mA gr.ms.length gr.mC,.slice gr.oA gr.os.length gr.oC,.slice (Qd gS) sns.length snC] bK (0,0))::(gP,.cells uP bE (0,0))::(gS,.cells uS fx (0,0))::(gq,.cells uq cY (0,0))::(gl,.cells ul du (0,0))::R) (xx w0 lo hi c3::F)) ?_ ?_
 refine oB bX 16 12 [12,13,14,15,17,18] [16] [0,1,2,3,5,6,7,9,11] [16,17,18] [12] [0,1,2,3,5,6,7,9,11,13,14,15] (sp [(16,Sp.blk w3.heap.size (.agg #[J 0,J 0,J 0,.slice none 0 0]) bd)]) (sp [(12,Sp.deep w3.heap.size Mi (fun c:Co=>c.c.toArray) (fun cs=> .tuple #[.agg cs,J (oI co.a x.name e.ver n).2]) (fun cq:Co=>cq.a=(oI co.a x.name e.ver n).1))]) N N N N (cG _) (cG _) ?_ ?_
 refine jx [0,1,2,3,4,5,6,7,8,9,10,11,16] [12,13,14,15,17,18] [16] [0,1,2,3,5,6,7,9,11] 5 (sp [(16,Sp.blk w3.heap.size (.agg #[J 0,J 0,J 0,.slice none 0 0]) bd)]) N N N Nq<|aw Z Z Z Z Z (fun w' hw'=>Yp Z)<|aw Z Z Z Z Z (fun w' hw'=>aI Z)<|aw Z Z Z Z Z (fun w' hw'=>Zf aV Z)<|aw Z Z Z Z Z (fun w' hw'=>Zf eA Z)<|aw Z Z Z Z Z (fun w' hw'=>jS 1 [J (co.clock),J (co.next),J (co.wait),.slice co.A co.txs.length co.cap] av Z Z ((H.later hw').ent (i:=2) Z) Z)<|aw Z Z Z Z Z (fun w' hw'=>Yp Z)<|aw Z Z Z Z Z (fun w' hw'=>aI Z)<|aw Z Z Z Z Z (fun w' hw'=>Zf ox Z)<|aw Z Z Z Z Z (fun w' hw'=>bQ aZ rowS hx 0 Z ((H.later hw').ent (i:=4) Z) Z)<|aw Z Z Z Z Z (fun w' hw'=>Zf eB Z)<|aw Z Z Z Z Z (fun w' hw'=>aU aj Z (aB ((H.later hw').ent (i:=0) Z) Z))<|aw Z Z Z Z Z (fun w' hw'=>Yi Z)<|xr cK Z Z Z Z Z (fun w' hw'=>hw'.size) fun b8=>aS ?_
 intro w4 hw' hF
 obtain⟨hF,bq,eq,hge8,hbl8⟩:=hF;cases eq
 replace H:=H.adoptNew hw' hbl8 hge8
 clear hw' hF
 refine dd 12 N Z<|bY xn (Ga co x.name e.ver n k _ (Hp.coM H hco) hcb hnm I I) Z Z ?_
 rintro _ w5 ⟨c3,rfl,hac3,hnc3⟩;replace H:=H.learn hnc3.2 (xx w0 w4.heap.size w5.heap.size c3) ⟨H.size,hnc3.1⟩ (ao _) (ao _);clear hnc3
 refine U<|bx 13 N N N Z Z Z Z Nq (fun _=>Yu Z)<|bx 14 N N N Z Z Z Z Nq (fun _=>Xa Z Z)<|bx 15 N N N Z Z Z Z Nq (fun _=>Xi Z Z)<|dd 17 N Z<|bo H 0 (#[J (c3.clock),J (c3.next),J (c3.wait),.slice c3.A c3.txs.length c3.cap]) aF Z Z Z Z Z N N fun w6 H=>U<|bx 18 N N N Z Z Z Z Nq (fun _=>Wi Z)<|cB N ?_
 exact⟨(c3,b8,_,_),⟨hac3,H⟩,kZ Z Z,Qg⟩
 refine jx [0,1,2,3,4,5,6,7,8,9,10,11,12,13,14,15] [16,17,18] [12] [0,1,2,3,5,6,7,9,11,13,14,15] 2 (sp [(12,Sp.deep w3.heap.size Mi (fun c:Co=>c.c.toArray) (fun cs=> .tuple #[.agg cs,J (oI co.a x.name e.ver n).2]) (fun cq:Co=>cq.a=(oI co.a x.name e.ver n).1))]) N N N Nq<|aw Z Z Z Z Z (fun w' hw'=>Yp Z)<|aw Z Z Z Z Z (fun w' hw'=>aI Z)<|aw Z Z Z Z Z (fun w' hw'=>Zf aV Z)<|aw Z Z Z Z Z (fun w' hw'=>Zf eA Z)<|aw Z Z Z Z Z (fun w' hw'=>jS 1 [J (co.clock),J (co.next),J (co.wait),.slice co.A co.txs.length co.cap] av Z Z ((H.later hw').ent (i:=2) Z) Z)<|aw Z Z Z Z Z (fun w' hw'=>Yp Z)<|aw Z Z Z Z Z (fun w' hw'=>aI Z)<|aw Z Z Z Z Z (fun w' hw'=>Zf ox Z)<|aw Z Z Z Z Z (fun w' hw'=>bQ aZ rowS hx 0 Z ((H.later hw').ent (i:=4) Z) Z)<|aw Z Z Z Z Z (fun w' hw'=>Zf eB Z)<|aw Z Z Z Z Z (fun w' hw'=>aU aj Z (aB ((H.later hw').ent (i:=0) Z) Z))<|aw Z Z Z Z Z (fun w' hw'=>Yi Z)<|sW (gv:=(fun cs=> .tuple #[.agg cs,J (oI co.a x.name e.ver n).2])) xn Z Z Z Z Z (fun w' hw'=>hw'.size) (fun w' hw'=>Ga co x.name e.ver n k w' (Hp.coM (H.later hw') hco) hcb hnm I I) Z fun cs35=>aw Z Z Z Z Z (fun w' hw'=>Yu Z)<|aw Z Z Z Z Z (fun w' hw'=>Xa Z Z)<|aw Z Z Z Z Z (fun w' hw'=>Xi Z Z)<|aS ?_
 intro w7 hw' hF
 obtain⟨hF,c3,eq,hac3,hrd35⟩:=hF;cases eq
 replace H:=H.learn hw' (xx w0 w3.heap.size w7.heap.size c3) ⟨H.size,hrd35⟩ (ao _) (ao _)
 clear hw' hF
 refine dd 16 N Z<|eE H cK Z fun w8 b8 H=>U<|dd 17 N Z<|bo H 0 (#[J (c3.clock),J (c3.next),J (c3.wait),.slice c3.A c3.txs.length c3.cap]) aF Z Z Z Z Z N N fun w9 H=>U<|bx 18 N N N Z Z Z Z Nq (fun _=>Wi Z)<|cB N ?_
 exact⟨(c3,b8,_,_),⟨hac3,H⟩,kZ Z Z,Qg⟩
 rintro⟨c3,b8,lo,hi⟩ ρ1 w10 ⟨hac3,H⟩
 show CW _ _ _ _ (dA (gC _ _ ρ1) [(8,.pointer (Qd b8)),(9,J (oI co.a x.name e.ver n).2)]) w10
 refine W<|W<|Zr<|G (Yi Z) ?_
 refine qt (iO Z Z) Z Z Z (fun h39=> ?_) (fun h39=> ?_)
 have hadd: ¬ (r4 (Wa.mk (ps.map fun q=>q.p.a) co.a gr.a (sns.map Sn.a)) x.a n e).2=0:=by unfold r4;rw[if_pos hc21];exact h39
 have hadd2:(r4 (Wa.mk (ps.map fun q=>q.p.a) co.a gr.a (sns.map Sn.a)) x.a n e).2=(oI co.a x.name e.ver n).2:=by unfold r4;rw[if_pos hc21];rfl
 refine U<|ZT Z<|W<|Zr<|G (Yi Z)<|bY bN (dP (oI co.a x.name e.ver n).2 _) Z Z ?_
 rintro _ w11 ⟨rfl,hb⟩;replace H:=H.later hb;clear hb
 refine bo H 2 (#[J ((oI co.a x.name e.ver n).2),J (0),.slice none 0 0]) aP Z Z Z Z Z N N fun w12 H=>U<|Zt ?_
 exact eO (cs0:= #[J ((oI co.a x.name e.ver n).2),J (0),.slice none 0 0]) Z aN Z (H.ent (i:=2) Z) Z ⟨ps,uP,co,clo,chi,xx w0 lo hi c3::F,by rw[if_neg hadd,hadd2];exact oP.plain _ _ _,by rw[if_neg hadd];rfl,row,rfl,ak _ hco,fun q hq=>ak _ (hps q hq),fun f hf=>ak _ hf,H.forget (cm [(b8,_),(b7,_),(b6,_)] _) (fun _ h=>h)⟩
 refine U<|ZF Z<|Zk<|Zr<|G (Yp Z)<|G (Zw av H 0 Z Z Z)<|G (aI Z)<|G (Zf aV Z)<|G (Zf eA Z)<|bo H 3 (#[.slice (Qd gP) ps.length pC,J (c3.clock),J (c3.next),J (c3.wait),.slice c3.A c3.txs.length c3.cap,J (gr.clock),J (gr.wait),J (gr.gen),.slice gr.mA gr.ms.length gr.mC,.slice gr.oA gr.os.length gr.oC,.slice (Qd gS) sns.length snC]) aF Z Z Z Z Z N N fun w13 H=>U ?_
 exact⟨(c3,_,_,_),⟨by rw[hac3];unfold r4;rw[if_pos hc21];rfl,by unfold r4;rw[if_pos hc21];exact(by simpa using h39:(oI co.a x.name e.ver n).2=0),az ..,fun f hf=>ak _ hf,H.forget (.cons _ (ap _)) (fun _ h=>h)⟩,wl,Qg⟩
 refine Zk ?_
 exact⟨(co,clo,chi,F),⟨by unfold r4;rw[if_neg (by rw[hc21];decide)],by unfold r4;rw[if_neg (by rw[hc21];decide)],hco,fun _ h=>h,H⟩,wl,Qg⟩
 rintro⟨c2,l2,h2,F2⟩ ρ1 w14 ⟨hc2,hok2,hco2,hF2,H⟩
 show CW _ _ _ _ (dA (gC _ _ ρ1) []) w14
 refine W ?_
 refine eC (τ:=Pa×Nat×Nat×Nat) [10,11,12,47,48,49,50,51,52,53,54,55,56,57,58,59,60] (fun(_,b10,_,_)=>[(10,.pointer (Qd b10)),(11,J (eD q.p.a e).2.1),(12,J (eD q.p.a e).2.2)]) (fun(p2,b10,lo,hi) w'=>p2.a=(eD q.p.a e).1/\Hp w0 w' ((b10,.cells #[J (p2.epoch),J (p2.leader),.slice p2.iA p2.isr.length p2.iC,.slice p2.kA p2.known.length p2.kC,.slice p2.rA p2.reps.length p2.rC,J (p2.few),J (p2.base)] bE (0,0))::(b7,.cells #[J (e.epoch),J (e.pid),J (e.ver),J (e.seq),J (e.kind),.bool (e.txn),.string (e.text)] du (0,0))::(b6,.cells #[J (0),J (0),.slice none 0 0] ec (0,0))::(bb,.cells #[.slice (Qd gP) ps.length pC,J (c2.clock),J (c2.next),J (c2.wait),.slice c2.A c2.txs.length c2.cap,J (gr.clock),J (gr.wait),J (gr.gen),.slice gr.mA gr.ms.length gr.mC,.slice gr.oA gr.os.length gr.oC,.slice (Qd gS) sns.length snC] bK (0,0))::(gP,.cells uP bE (0,0))::(gS,.cells uS fx (0,0))::(gq,.cells uq cY (0,0))::(gl,.cells ul du (0,0))::R) (tz w0 lo hi p2::F2)) ?_ ?_
 refine oB bX 14 9 [9,10,11,12,13,15,16,17] [14] [0,1,2,3,5,6] [14,15,16,17] [9] [0,1,2,3,5,6,10,11,12,13] (sp [(14,Sp.blk w14.heap.size (.agg #[J 0,J 0,.slice none 0 0,.slice none 0 0,.slice none 0 0,J 0,J 0]) bE)]) (sp [(9,Sp.deep w14.heap.size Pi (fun p:Pa=>p.c.toArray) (fun cs=> .tuple #[.agg cs,J (eD q.p.a e).2.1,J (eD q.p.a e).2.2]) (fun cq:Pa=>cq.a=(eD q.p.a e).1))]) N N N N (cG _) (cG _) ?_ ?_
 refine jx [0,1,2,3,4,5,6,7,8,14] [9,10,11,12,13,15,16,17] [14] [0,1,2,3,5,6] 7 (sp [(14,Sp.blk w14.heap.size (.agg #[J 0,J 0,.slice none 0 0,.slice none 0 0,.slice none 0 0,J 0,J 0]) bE)]) N N N Nq<|aw Z Z Z Z Z (fun w' hw'=>Yp Z)<|aw Z Z Z Z Z (fun w' hw'=>aI Z)<|aw Z Z Z Z Z (fun w' hw'=>Zf aV Z)<|aw Z Z Z Z Z (fun w' hw'=>Zf dJ Z)<|aw Z Z Z Z Z (fun w' hw'=>aU ei Z (aB ((H.later hw').ent (i:=2) Z) Z))<|aw Z Z Z Z Z (fun w' hw'=>Yi Z)<|aw Z Z Z Z Z (fun w' hw'=>cD ig Z Z (by first|omega|(simp only[ab];omega)))<|aw Z Z Z Z Z (fun w' hw'=>oR aG row hq Z Z ((H.later hw').ent (i:=3) Z))<|aw Z Z Z Z Z (fun w' hw'=>je dG Z ((H.later hw').ent (i:=0) Z) Z)<|xr bp Z Z Z Z Z (fun w' hw'=>hw'.size) fun b10=>aS ?_
 intro w15 hw' hF
 obtain⟨hF,bq,eq,hge10,hbl10⟩:=hF;cases eq
 replace H:=H.adoptNew hw' hbl10 hge10
 clear hw' hF
 refine dd 9 N Z<|bY qQ (zj q.p e _ (Hp.paM H (hF2 _ (hps q hqm))) (hpk q hqm).1 (hpk q hqm).2) Z Z ?_
 rintro _ w16 ⟨p2,rfl,hap2,hnp2⟩;replace H:=H.learn hnp2.2 (tz w0 w15.heap.size w16.heap.size p2) ⟨H.size,hnp2.1⟩ (ao _) (ao _);clear hnp2
 refine U<|bx 10 N N N Z Z Z Z Nq (fun _=>Yu Z)<|bx 11 N N N Z Z Z Z Nq (fun _=>Xa Z Z)<|bx 12 N N N Z Z Z Z Nq (fun _=>Xi Z Z)<|bx 13 N N N Z Z Z Z Nq (fun _=>Xi Z Z)<|dd 15 N Z<|bo H 0 (#[J (p2.epoch),J (p2.leader),.slice p2.iA p2.isr.length p2.iC,.slice p2.kA p2.known.length p2.kC,.slice p2.rA p2.reps.length p2.rC,J (p2.few),J (p2.base)]) aK Z Z Z Z Z N N fun w17 H=>U<|bx 16 N N N Z Z Z Z Nq (fun _=>Wi Z)<|bx 17 N N N Z Z Z Z Nq (fun _=>Wi Z)<|cB N ?_
 exact⟨(p2,b10,_,_),⟨hap2,H⟩,Mv Z Z Z,Qg⟩
 refine jx [0,1,2,3,4,5,6,7,8,9,10,11,12,13] [14,15,16,17] [9] [0,1,2,3,5,6,10,11,12,13] 3 (sp [(9,Sp.deep w14.heap.size Pi (fun p:Pa=>p.c.toArray) (fun cs=> .tuple #[.agg cs,J (eD q.p.a e).2.1,J (eD q.p.a e).2.2]) (fun cq:Pa=>cq.a=(eD q.p.a e).1))]) N N N Nq<|aw Z Z Z Z Z (fun w' hw'=>Yp Z)<|aw Z Z Z Z Z (fun w' hw'=>aI Z)<|aw Z Z Z Z Z (fun w' hw'=>Zf aV Z)<|aw Z Z Z Z Z (fun w' hw'=>Zf dJ Z)<|aw Z Z Z Z Z (fun w' hw'=>aU ei Z (aB ((H.later hw').ent (i:=2) Z) Z))<|aw Z Z Z Z Z (fun w' hw'=>Yi Z)<|aw Z Z Z Z Z (fun w' hw'=>cD ig Z Z (by first|omega|(simp only[ab];omega)))<|aw Z Z Z Z Z (fun w' hw'=>oR aG row hq Z Z ((H.later hw').ent (i:=3) Z))<|aw Z Z Z Z Z (fun w' hw'=>je dG Z ((H.later hw').ent (i:=0) Z) Z)<|sW (gv:=(fun cs=> .tuple #[.agg cs,J (eD q.p.a e).2.1,J (eD q.p.a e).2.2])) qQ Z Z Z Z Z (fun w' hw'=>hw'.size) (fun w' hw'=>zj q.p e w' (Hp.paM (H.later hw') (hF2 _ (hps q hqm))) (hpk q hqm).1 (hpk q hqm).2) Z fun cs57=>aw Z Z Z Z Z (fun w' hw'=>Yu Z)<|aw Z Z Z Z Z (fun w' hw'=>Xa Z Z)<|aw Z Z Z Z Z (fun w' hw'=>Xi Z Z)<|aw Z Z Z Z Z (fun w' hw'=>Xi Z Z)<|aS ?_
 intro w18 hw' hF
 obtain⟨hF,p2,eq,hap2,hrd57⟩:=hF;cases eq
 replace H:=H.learn hw' (tz w0 w14.heap.size w18.heap.size p2) ⟨H.size,hrd57⟩ (ao _) (ao _)
 clear hw' hF
 refine dd 14 N Z<|eE H bp Z fun w19 b10 H=>U<|dd 15 N Z<|bo H 0 (#[J (p2.epoch),J (p2.leader),.slice p2.iA p2.isr.length p2.iC,.slice p2.kA p2.known.length p2.kC,.slice p2.rA p2.reps.length p2.rC,J (p2.few),J (p2.base)]) aK Z Z Z Z Z N N fun w20 H=>U<|bx 16 N N N Z Z Z Z Nq (fun _=>Wi Z)<|bx 17 N N N Z Z Z Z Nq (fun _=>Wi Z)<|cB N ?_
 exact⟨(p2,b10,_,_),⟨hap2,H⟩,Mv Z Z Z,Qg⟩
 rintro⟨p2,b10,lo,hi⟩ ρ1 w21 ⟨hap2,H⟩
 show CW _ _ _ _ (dA (gC _ _ ρ1) [(10,.pointer (Qd b10)),(11,J (eD q.p.a e).2.1),(12,J (eD q.p.a e).2.2)]) w21
 refine W<|W<|Zr<|G (Yi Z) ?_
 refine qt (iO Z Z) Z Z Z (fun h62=> ?_) (fun h62=> ?_)
 refine U<|ZT Z<|W<|Zr<|G (Yi Z)<|bY bN (dP (eD q.p.a e).2.2 _) Z Z ?_
 rintro _ w22 ⟨rfl,hb⟩;replace H:=H.later hb;clear hb
 refine bo H 2 (#[J ((eD q.p.a e).2.2),J (0),.slice none 0 0]) aP Z Z Z Z Z N N fun w23 H=>U<|Zt ?_
 exact eO (cs0:= #[J ((eD q.p.a e).2.2),J (0),.slice none 0 0]) Z aN Z (H.ent (i:=2) Z) Z ⟨ps,uP,c2,l2,h2,tz w0 lo hi p2::F2,by rw[if_pos hok2,hP,if_neg h62];exact oP.plain _ _ _,by rw[if_pos hok2,hP,if_neg h62,<-hc2];rfl,row,rfl,ak _ hco2,fun q hq=>ak _ (hF2 _ (hps q hq)),fun f hf=>ak _ (hF2 f hf),H.forget (cm [(b10,_),(b7,_),(b6,_)] _) (fun _ h=>h)⟩
 refine U<|ZF Z<|Zk<|W ?_
 refine bz bX [0,1,2,3,4,5,6,7] [8] [] [0,1,2,3,5,7] (sp []) N N N N Nq (cG _) ?_
 refine aw Z Z Z Z Z (fun w' hw'=>Yp Z)<|aw Z Z Z Z Z (fun w' hw'=>aI Z)<|aw Z Z Z Z Z (fun w' hw'=>Zf aV Z)<|aw Z Z Z Z Z (fun w' hw'=>Zf dJ Z)<|aw Z Z Z Z Z (fun w' hw'=>aU ei Z (aB ((H.later hw').ent (i:=3) Z) Z))<|aw Z Z Z Z Z (fun w' hw'=>Yi Z)<|aw Z Z Z Z Z (fun w' hw'=>je aG Z ((H.later hw').ent (i:=0) Z) Z)<|aw Z Z Z Z Z (fun w' hw'=>cD ig Z Z (by first|omega|(simp only[ab];omega)))<|aS ?_
 intro w24 hw' hF
 replace H:=H.later hw';clear hw' hF
 refine kR H 4 (⟨p2,lo,hi⟩) aK row hq 0 Z Z Z Z Z Z N fun w26 cur25 row25 H=> ?_
 have hs27:(ps.set n (⟨p2,lo,hi⟩))[n]? =some (⟨p2,lo,hi⟩):=am (cF hq).1
 refine U<|W<|Zr<|G (Yi Z)<|G (bi (cs:= #[J (0),J ((eD q.p.a e).2.1),.slice none 0 0]) iE dm N)<|bo H 2 (#[J (0),J ((eD q.p.a e).2.1),.slice none 0 0]) aP Z Z Z Z Z N N fun w28 H=>U<|Zt ?_
 have hz:(eD q.p.a e).2.2=0:=by simpa using h62
 have hz2:=hz
 exact eO (cs0:= #[J (0),J ((eD q.p.a e).2.1),.slice none 0 0]) Z aN Z (H.ent (i:=2) Z) Z ⟨ps.set n ⟨p2,lo,hi⟩,_,c2,l2,h2,tz w0 lo hi p2::F2,by rw[if_pos hok2,hP,if_pos hz];exact oP.plain _ _ _,by rw[if_pos hok2,hP,if_pos hz,<-hc2];simp only[cz,hap2],row25,ab ..,ak _ hco2,fun y hy=>by rcases z6 hy with hy|hy;exact ak _ (hF2 _ (hps y hy));rw[hy];exact az ..,fun f hf=>ak _ (hF2 f hf),by rw[ab];exact H.forget (cm [(b10,_),(b7,_),(b6,_)] _) (fun _ h=>h)⟩
/-- an answer without texts -/
def Pb (x:An) (v:Value):Prop:=x.texts=[]/\v=.agg #[J x.code,J x.n,.slice none 0 0]
theorem Pb.r {x:An} {v:Value} (h:Pb x v) (w:World):oP x v w:=by
 obtain⟨c,n,t⟩:=x
 obtain⟨h1,rfl⟩:=h
 dsimp only at h1
 subst h1
 exact oP.plain c n w
theorem Gm (a:Act) (x:An) (w:World):db aa vp [a.v,.agg #[J x.code,J x.n,.slice none 0 0]] w fun v w2=>v=.agg #[J (f7 a x).code,J (f7 a x).n,.slice none 0 0]/\Below w.heap.size w w2:=
 (Dk a x.code x.n none 0 0 w).mono fun v w2 ⟨h1,h2⟩=>⟨by rw[h1];unfold f7;split<;>rfl,h2⟩
theorem lE (a:Act) {x:An} (hx:x.texts=[]):(f7 a x).texts=[]:=by
 unfold f7
 split
 exact hx
 rfl
theorem zS (w:Wa) (n:Nat) (x:cO):(uR w n x).2.texts=[]:=by
 unfold uR
 split
 rfl
 split<;>rfl
theorem ko (w:Wa) (s:Sn) (n:Nat):(ej w s n).2.texts=[]:=by
 unfold ej
 split
 rfl
 split
 exact zS ..
 rfl
theorem oP.p {x:An} {v:Value} {w:World} (h:oP x v w) (hx:x.texts=[]): ∃ A c,v=.agg #[J x.code,J x.n,.slice A 0 c]:=by
 obtain⟨A,c,h1,-,-⟩:=h
 rw[hx]at h1
 exact⟨A,c,h1⟩
theorem zP {b:Bk} {a:Act} {ag:Bool} (hix:fh b.sns a.name=none):m4 b.a a ag=(b.a,⟨5,0,[]⟩):=by
 unfold m4
 rw[show b.a.sns=b.sns.map Sn.a from rfl,Do hix]
 rfl
theorem zQ {b:Bk} {a:Act} {i:Nat} {x:Sn} {e:cO} (hix:fh b.sns a.name=some i) (hx:b.sns[i]? =some x) (he:x.last[a.part.toNat]? =some e) (hk:e.kind=0):m4 b.a a true=(b.a,⟨15,0,[]⟩):=by
 unfold m4
 rw[show b.a.sns=b.sns.map Sn.a from rfl,wB hix hx]
 dsimp only
 rw[if_pos ⟨rfl,by rw[bZ,show x.a.last=x.last from rfl,he];exact hk⟩]
 rfl
theorem n8 {b:Bk} {a:Act} {i:Nat} {x:Sn} {ag:Bool} (hix:fh b.sns a.name=some i) (hx:b.sns[i]? =some x) (hk:ag=true-> ∃ e,x.last[a.part.toNat]? =some e/\e.kind≠0) (s1:Sn) (hs:(if ag then x else pW x a.part.toNat a.text)=s1):m4 b.a a ag=if a.lost=1 then({b.a with sns:=(b.sns.set i s1).map Sn.a},⟨14,0,[]⟩)else((ej {b.a with sns:=(b.sns.set i s1).map Sn.a} s1.a a.part.toNat).1,f7 a (ej {b.a with sns:=(b.sns.set i s1).map Sn.a} s1.a a.part.toNat).2):=by
 subst hs
 unfold m4
 rw[show b.a.sns=b.sns.map Sn.a from rfl,wB hix hx]
 dsimp only
 rw[if_neg (fun h=>by
  obtain⟨e,he,hne⟩:=hk h.1
  have h2:=h.2
  rw[bZ,show x.a.last=x.last from rfl,he]at h2
  exact hne h2)]
 have:(if ag=true then x.a else pW x.a a.part.toNat a.text)=(if ag=true then x else pW x a.part.toNat a.text).a:=by split<;>rfl
 rw[this,cz]
 rfl
theorem uC {x:Sn} {n:Nat} {q:Int} (h:x.seqs[n]? =some q) (t:ByteArray):pW x n t={x with last:=x.last.set n ⟨0,x.pid,x.ver,q,1,x.inn,t⟩,seqs:=x.seqs.set n (q+1)}:=by
 unfold pW
 rw[bZ,h]
 rfl
theorem dU.same {α:Type} {Y:fi α} {es:List α} {c k:Nat} {cur:Array Value} {e e':α} (h:dU Y es c cur) (hk:es[k]? =some e) (he:Y.f e'=Y.f e):dU Y (es.set k e') c cur:=by
 refine⟨h.size,?_,by rw[ab];exact h.le,h.max⟩
 rw[ab,h.all]
 unfold fi.all
 have:(es.set k e').map Y.f=es.map Y.f:=by rw[cz,he];exact eY (by rw[aL,hk];rfl)
 simp only[List.flatMap_def,this]
theorem IL {w0 w:World} {bb:Nat} {b:Bk} {gP:Nat} {uP:Array Value} {Ls Lo K:List (Nat×Obj)} {F:List cr} (a:Act) (B:Bw w0 w bb b gP uP Ls Lo K F) (hsl:b.sns.length<=1000000) (ag:Bool) (hix:fh b.sns a.name=none):db aa iR [.pointer (Qd bb),a.v,.bool ag] w fun v w2=> ∃ b':Bk,oP (m4 b.a a ag).2 v w2/\b'.a=(m4 b.a a ag).1/\xy w0 w2 bb b' K F:=by
 refine aD jO Z Z ?_
 obtain⟨ps,pA,pC,co,clo,chi,gr,glo,ghi,sns,snA,snC⟩:=b
 obtain⟨hpA,row,hsn,hown,hco,hgr,hps,H⟩:=B
 dsimp only at hpA row hsn hown hco hgr hps
 subst hpA
 replace H:Hp w0 w ((bb,.cells #[.slice (Qd gP) ps.length pC,J (co.clock),J (co.next),J (co.wait),.slice co.A co.txs.length co.cap,J (gr.clock),J (gr.wait),J (gr.gen),.slice gr.mA gr.ms.length gr.mC,.slice gr.oA gr.os.length gr.oC,.slice snA sns.length snC] bK (0,0))::(gP,.cells uP bE (0,0))::(Ls++(Lo++K))) F:=H
 dsimp only at hix hsl
 show CW _ _ _ _ (args [.pointer (Qd bb),.agg #[J (a.kind),.string (a.name),J (a.part),J (a.n),J (a.m),.string (a.text),J (a.lost)],.bool ag]) w
 refine W<|Zr<|fT H Z Z fun w1 b4 H=>eE H dm Z fun w2 b6 H=>U<|W<|Zr<|G (Yp Z)<|G (Zf fb Z)<|G (Zd aZ H 1 Z Z Z)<|bY dy (jq bb ⟨ps,some ⟨gP,0,none⟩,pC,co,clo,chi,gr,glo,ghi,sns,snA,snC⟩ (a.name) Ls _ (H.ent (i:=2) Z) hsn (fun q hq=>(H.ents q (by simp only[ax,ar];grind)).1) hsl) Z Z ?_
 rintro _ w3 ⟨rfl,hb⟩;replace H:=H.later hb;clear hb
 rw[hix]
 refine G (Wp Z)<|U<|W<|Zb<|W<|Zr<|G (Yp Z)<|G (xJ iM Z)<|G (Yb Z)<|ZN<|ZN<|ZN<|ZN<|ZN<|G (Kt Z Z)<|G (Wb Z)<|U<|ZT Z<|W<|Zr<|bY bN (dP 5 _) Z Z ?_
 rintro _ w4 ⟨rfl,hb⟩;replace H:=H.later hb;clear hb
 refine bo H 0 (#[J (5),J (0),.slice none 0 0]) aP Z Z Z Z Z N N fun w5 H=>U<|Zt ?_
 exact eO (cs0:= #[J (5),J (0),.slice none 0 0]) Z aN Z (H.ent (i:=0) Z) Z ⟨⟨ps,some ⟨gP,0,none⟩,pC,co,clo,chi,gr,glo,ghi,sns,snA,snC⟩,by rw[zP hix];exact oP.plain _ _ _,by rw[zP hix],Bw.shut (X:=[(b6,_),(b4,_)]) row hsn hown hco hgr hps (fun _ h=>h) H Z⟩
theorem J7 {a:Act} {x:An} {A:Option Addr} {c:Nat} {v:Value} (h:v=if a.lost=0 then .agg #[J x.code,J x.n,.slice A 0 c]else .agg #[J 14,J 0,.slice none 0 0]): ∃ A2 c2,v=.agg #[J (f7 a x).code,J (f7 a x).n,.slice A2 0 c2]:=by
 unfold f7
 split at h
 rename_i h0;rw[if_pos h0];exact⟨_,_,h⟩
 rename_i h0;rw[if_neg h0];exact⟨_,_,h⟩
theorem oP.of {x:An} {A:Option Addr} {c:Nat} {w:World} (hx:x.texts=[]):oP x (.agg #[J x.code,J x.n,.slice A 0 c]) w:=⟨A,c,by rw[hx];rfl,by rw[hx];exact bG _,by rw[hx];exact Rd.nil⟩
theorem GA {w0 w:World} {bb:Nat} {b:Bk} {gP:Nat} {uP:Array Value} {Ls Lo K:List (Nat×Obj)} {F:List cr} (a:Act) (B:Bw w0 w bb b gP uP Ls Lo K F) (hsl:b.sns.length<=1000000) {k i:Nat} {x:Sn} (hix:fh b.sns a.name=some i) (hx:b.sns[i]? =some x) (hpn:0<=a.part/\a.part<b.ps.length) (hlo:0<=a.lost/\a.lost<=2) (hll:x.last.length=b.ps.length) (hsq:x.seqs.length=b.ps.length) (h4:b.ps.length<=4) (hnm:bM x.name=true) (hcb:oO k b.co) (hpk: ∀ q∈b.ps,q.p.a.ok/\ ∀ (l:Nat) (y:fd),q.p.leader=l->q.p.reps[l]? =some y->y.es.length<400):db aa iR [.pointer (Qd bb),a.v,.bool true] w fun v w2=> ∃ b':Bk,oP (m4 b.a a true).2 v w2/\b'.a=(m4 b.a a true).1/\xy w0 w2 bb b' K F:=by
 refine aD jO Z Z ?_
 obtain⟨ps,pA,pC,co,clo,chi,gr,glo,ghi,sns,snA,snC⟩:=b
 obtain⟨hpA,row,hsn,hown,hco,hgr,hps,H⟩:=B
 dsimp only at hpA row hsn hown hco hgr hps
 subst hpA
 dsimp only at hix hx
 obtain⟨gS,uS,hgS,hLs,rowS⟩:=hsn.row (by have:=(cF hx).1;omega)
 subst hgS;subst hLs
 obtain⟨gq,uq,gl,ul,La,Lb,hsA,hlA,rowq,rowl,hLo,hset⟩:=hown.at_ hx
 subst hLo
 replace H:Hp w0 w ((bb,.cells #[.slice (Qd gP) ps.length pC,J (co.clock),J (co.next),J (co.wait),.slice co.A co.txs.length co.cap,J (gr.clock),J (gr.wait),J (gr.gen),.slice gr.mA gr.ms.length gr.mC,.slice gr.oA gr.os.length gr.oC,.slice (Qd gS) sns.length snC] bK (0,0))::(gP,.cells uP bE (0,0))::(gS,.cells uS fx (0,0))::(gq,.cells uq cY (0,0))::(gl,.cells ul du (0,0))::(La++(Lb++K))) F:=H.perm (CO [(bb,_),(gP,_),(gS,_)] _ _ La Lb K)
 dsimp only at hsl hpn hll hsq h4 hcb hpk
 obtain⟨n,hna⟩: ∃ n:Nat,a.part=(n:Int):=⟨a.part.toNat,by omega⟩
 have htn:a.part.toNat=n:=by omega
 have hl5:(zH.f x)[5]? =some (.slice (some ⟨gl,0,none⟩) x.last.length x.lC):=by rw[<-hlA];rfl
 have hl4:(zH.f x)[4]? =some (.slice (some ⟨gq,0,none⟩) x.seqs.length x.sC):=by rw[<-hsA];rfl
 obtain⟨e,he⟩: ∃ e,x.last[n]? =some e:=⟨_,ah I⟩
 have rS2:dU zH (sns.set i x) snC uS:=by rw[eY hx];exact rowS
 show CW _ _ _ _ (args [.pointer (Qd bb),.agg #[J (a.kind),.string (a.name),J (a.part),J (a.n),J (a.m),.string (a.text),J (a.lost)],.bool true]) w
 refine W<|Zr<|fT H Z Z fun w1 b4 H=>eE H dm Z fun w2 b6 H=>U<|W<|Zr<|G (Yp Z)<|G (Zf fb Z)<|G (Zd aZ H 1 Z Z Z)<|bY dy (jq bb ⟨ps,some ⟨gP,0,none⟩,pC,co,clo,chi,gr,glo,ghi,sns,some ⟨gS,0,none⟩,snC⟩ (a.name) _ _ (H.ent (i:=2) Z) (dU.own rowS) (fun q hq=>by rw[aq.1 hq];exact(H.ent (i:=4) Z)) hsl) Z Z ?_
 rintro _ w3 ⟨rfl,hb⟩;replace H:=H.later hb;clear hb
 rw[hix]
 refine G (Wp Z)<|U<|W<|Zb<|W<|Zr<|G (Yp Z)<|G (vQ iM Z)<|G (Yb Z)<|ZG<|G (Yp Z)<|ZG<|G (Zf dR Z)<|ZG<|G (Zd aj H 1 Z Z Z)<|ZG<|bY dW (oa bb ⟨ps,some ⟨gP,0,none⟩,pC,co,clo,chi,gr,glo,ghi,sns,some ⟨gS,0,none⟩,snC⟩ a.part _ (H.ent (i:=2) Z)) Z Z ?_
 rintro _ w4 ⟨rfl,hb⟩;replace H:=H.later hb;clear hb
 rw[decide_eq_true hpn]
 refine ZG<|G (dF Z)<|G (N Z Z)<|G (Wb Z)<|U<|ZF Z<|W<|Zr<|G (Zf jE Z)<|G (Zd aj H 1 Z Z Z)<|G (cZ Z Z I)<|G (Yb Z)<|ZG<|G (Zf jE Z)<|ZG<|G (Zd aj H 1 Z Z Z)<|ZG<|G (er Z Z I)<|G (N Z Z)<|G (Wb Z)<|U<|ZF Z<|W ?_
 refine bz bX [0,1,2,3,4,5,6,7,8,9,10,11,12,13] [] [] [0,1,2,3,4,6,8,9,11,12,13] (sp []) N N N N Nq (cG _) ?_
 refine aw Z Z Z Z Z (fun w' hw'=>Yb Z)<|aw Z Z Z Z Z (fun w' hw'=>Yb Z)<|aw Z Z Z Z Z (fun w' hw'=>Yp Z)<|aw Z Z Z Z Z (fun w' hw'=>aI Z)<|aw Z Z Z Z Z (fun w' hw'=>Zf lZ Z)<|aw Z Z Z Z Z (fun w' hw'=>bQ ng rowS hx 5 Z ((H.later hw').ent (i:=4) Z) hl5)<|aw Z Z Z Z Z (fun w' hw'=>Zf dR Z)<|aw Z Z Z Z Z (fun w' hw'=>aU aj Z (aB ((H.later hw').ent (i:=1) Z) Z))<|aw Z Z Z Z Z (fun w' hw'=>cD (k:=n) dS Z (congrArg (Value.int .i64) hna) (by first|omega|(simp only[ab];omega)))<|aw Z Z Z Z Z (fun w' hw'=>Zf eZ Z)<|aw Z Z Z Z Z (fun w' hw'=>bQ aj rowl he 4 Z ((H.later hw').ent (i:=6) Z) Z) ?_
 refine Bt Z Z Z Z Z (fun w' hw'=>bl Z Z) (fun h45=> ?_) (fun h45=> ?_)
 ·
  refine aw Z Z Z Z Z (fun w' hw'=>Kt Z Z)<|aw Z Z Z Z Z (fun w' hw'=>Wb Z)<|aS ?_
  intro w5 hw' hF
  replace H:=H.later hw';clear hw' hF
  refine U<|ZT Z<|W<|Zr<|bY bN (dP 15 _) Z Z ?_
  rintro _ w6 ⟨rfl,hb⟩;replace H:=H.later hb;clear hb
  refine bo H 0 (#[J (15),J (0),.slice none 0 0]) aP Z Z Z Z Z N N fun w7 H=>U<|Zt ?_
  rw[<-htn]at he
  exact eO (cs0:= #[J (15),J (0),.slice none 0 0]) Z aN Z (H.ent (i:=0) Z) Z ⟨⟨ps,some ⟨gP,0,none⟩,pC,co,clo,chi,gr,glo,ghi,sns.set i x,some ⟨gS,0,none⟩,snC⟩,by rw[zQ hix hx he h45];exact oP.plain _ _ _,by rw[zQ hix hx he h45,eY hx],Bw.close (X:=[(b6,_),(b4,_)]) row (by rw[eY hx];exact rowS) hset hsA hlA rowq rowl hco hgr hps (fun _ h=>h) H (by rw[eY hx];rfl)⟩
 ·
  refine aw Z Z Z Z Z (fun w' hw'=>Kt Z Z)<|aw Z Z Z Z Z (fun w' hw'=>Wb Z)<|aS ?_
  intro w8 hw' hF
  replace H:=H.later hw';clear hw' hF
  refine U<|ZF Z<|W<|Zr<|G (Yb Z)<|G (dF Z)<|G (Yb Z)<|ZN<|ZN<|ZN<|ZN<|G (N Z Z)<|G (Wb Z)<|U<|ZF Z<|Zk<|W<|W<|Zr<|G (Yb Z)<|G (dF Z)<|U<|ZF Z<|Zk<|W<|W<|Zr<|G (Zf jE Z)<|G (Zd aj H 1 Z Z Z) ?_
  refine cU (bl Z Z) Z Z Z (fun h102=> ?_) (fun h102=> ?_)
  ·
   refine U<|ZT Z<|W<|Zr<|bY bN (dP 14 _) Z Z ?_
   rintro _ w9 ⟨rfl,hb⟩;replace H:=H.later hb;clear hb
   refine bo H 0 (#[J (14),J (0),.slice none 0 0]) aP Z Z Z Z Z N N fun w10 H=>U<|Zt ?_
   exact eO (cs0:= #[J (14),J (0),.slice none 0 0]) Z aN Z (H.ent (i:=0) Z) Z ⟨⟨ps,some ⟨gP,0,none⟩,pC,co,clo,chi,gr,glo,ghi,sns.set i x,some ⟨gS,0,none⟩,snC⟩,by rw[n8 hix hx (fun _=>⟨e,by rw[htn];exact he,h45⟩) x Z,if_pos h102];exact oP.plain _ _ _,by rw[n8 hix hx (fun _=>⟨e,by rw[htn];exact he,h45⟩) x Z,if_pos h102];rfl,Bw.close (X:=[(b6,_),(b4,_)]) row rS2 hset hsA hlA rowq rowl hco hgr hps (fun _ h=>h) H (by simp only[Bk.c,ab])⟩
  ·
   refine U<|ZF Z<|Zk<|W ?_
   refine nU bX (fun w'=>w'.heap[b4]? =some (.cells #[J (a.kind),.string (a.name),J (a.part),J (a.n),J (a.m),.string (a.text),J (a.lost)] fP (0,0))) ?_
   intro w11 hw';replace H:=H.later hw';clear hw'
   refine aM 0 N N N Z Z Z Z Nq (H.ent (i:=1) Z) (fun _ hS=>je dO Z hS Z)<|aM 1 N N N Z Z Z Z Nq (H.ent (i:=1) Z) (fun _ hS=>Yp Z)<|aM 2 N N N Z Z Z Z Nq (H.ent (i:=1) Z) (fun _ hS=>Yp Z)<|aM 3 N N N Z Z Z Z Nq (H.ent (i:=1) Z) (fun _ hS=>Zf dR Z)<|aM 4 N N N Z Z Z Z Nq (H.ent (i:=1) Z) (fun _ hS=>aU aj Z (aB hS Z))<|r9 5 N Z ?_
   refine bY ls ((by have hA:=AU (i:=i) (n:=n) (k:=k) (sns:=sns.set i x) (x:=x) (by simp only[ab];exact H.perm ((ai _ (ai _ (ai _ (ai _ (al _ _ _))))).trans ((ai _ (ai _ (ai _ (al _ _ _)))).trans ((ai _ (ai _ (al _ _ _))).trans ((ai _ (al _ _ _)).trans ((al _ _ _).trans ((ai _ (ai _ (ai _ (ai _ (ai _ (al _ _ _)))))).trans ((ai _ (ai _ (ai _ (ai _ (al _ _ _))))).trans ((ai _ (ai _ (ai _ (al _ _ _)))).trans ((ai _ (ai _ (al _ _ _))).trans (ai _ (al _ _ _)))))))))))) row rS2 rowl (am (cF hx).1) hlA hco hps I I I hnm hcb hpk;rw[<-hna]at hA;exact hA)) Z Z ?_
   rintro _ w12 ⟨ps',uP',co',clo',chi',F',hAn,hW,row',hlen',hco',hps',hF',H⟩
   replace H:=H.perm ((ai _ (al _ _ _)).trans ((al _ _ _).trans ((ai _ (ai _ (al _ _ _))).trans ((ai _ (al _ _ _)).trans ((ai _ (ai _ (ai _ (al _ _ _)))).trans ((ai _ (ai _ (al _ _ _))).trans ((ai _ (ai _ (ai _ (ai _ (al _ _ _))))).trans ((ai _ (ai _ (ai _ (al _ _ _)))).trans ((ai _ (ai _ (ai _ (ai _ (ai _ (al _ _ _)))))).trans (ai _ (ai _ (ai _ (ai _ (al _ _ _))))))))))))))
   obtain⟨A1,c1,rfl⟩:=hAn.p (ko ..)
   refine U ?_
   refine⟨(H.ent (i:=1) Z),?_⟩
   refine r9 6 N Z<|bY kz (Dk a (ej (Wa.mk (ps.map fun q=>q.p.a) co.a gr.a ((sns.set i x).map Sn.a)) x.a n).2.code (ej (Wa.mk (ps.map fun q=>q.p.a) co.a gr.a ((sns.set i x).map Sn.a)) x.a n).2.n A1 0 c1 _) Z Z ?_
   rintro _ w13 ⟨ht,hb⟩;replace H:=H.later hb;clear hb
   obtain⟨A2,c2,rfl⟩:=J7 ht
   refine U ?_
   refine⟨(H.ent (i:=1) Z),?_⟩
   refine r9 7 N Z<|bo H 0 (#[J ((f7 a (ej (Wa.mk (ps.map fun q=>q.p.a) co.a gr.a ((sns.set i x).map Sn.a)) x.a n).2).code),J ((f7 a (ej (Wa.mk (ps.map fun q=>q.p.a) co.a gr.a ((sns.set i x).map Sn.a)) x.a n).2).n),.slice A2 0 c2]) aP Z Z Z Z Z N N fun w14 H=>U ?_
   refine⟨(H.ent (i:=1) Z),?_⟩
   refine jZ N<|Zt ?_
   exact eO (cs0:= #[J ((f7 a (ej (Wa.mk (ps.map fun q=>q.p.a) co.a gr.a ((sns.set i x).map Sn.a)) x.a n).2).code),J ((f7 a (ej (Wa.mk (ps.map fun q=>q.p.a) co.a gr.a ((sns.set i x).map Sn.a)) x.a n).2).n),.slice A2 0 c2]) Z aN Z (H.ent (i:=0) Z) Z ⟨⟨ps',some ⟨gP,0,none⟩,pC,co',clo',chi',gr,glo,ghi,sns.set i x,some ⟨gS,0,none⟩,snC⟩,by rw[n8 hix hx (fun _=>⟨e,by rw[htn];exact he,h45⟩) x Z,if_neg h102,htn];exact oP.of (lE _ (ko ..)),by rw[n8 hix hx (fun _=>⟨e,by rw[htn];exact he,h45⟩) x Z,if_neg h102,htn];exact hW.symm,Bw.close (X:=[(b6,_),(b4,_)]) row' rS2 hset hsA hlA rowq rowl hco' (hF' _ hgr) hps' hF' H (by simp only[Bk.c,ab])⟩
theorem Ko {w0 w:World} {bb:Nat} {b:Bk} {gP:Nat} {uP:Array Value} {Ls Lo K:List (Nat×Obj)} {F:List cr} (a:Act) (B:Bw w0 w bb b gP uP Ls Lo K F) (hsl:b.sns.length<=1000000) {k i:Nat} {x:Sn} (hix:fh b.sns a.name=some i) (hx:b.sns[i]? =some x) (hpn:0<=a.part/\a.part<b.ps.length) (hlo:0<=a.lost/\a.lost<=2) (hll:x.last.length=b.ps.length) (hsq:x.seqs.length=b.ps.length) (h4:b.ps.length<=4) (hnm:bM x.name=true) (hcb:oO k b.co) (hpk: ∀ q∈b.ps,q.p.a.ok/\ ∀ (l:Nat) (y:fd),q.p.leader=l->q.p.reps[l]? =some y->y.es.length<400) (htx:a.text.size<=40) (hsb: ∀ q∈x.seqs,0<=q/\q<=400):db aa iR [.pointer (Qd bb),a.v,.bool false] w fun v w2=> ∃ b':Bk,oP (m4 b.a a false).2 v w2/\b'.a=(m4 b.a a false).1/\xy w0 w2 bb b' K F:=by
 refine aD jO Z Z ?_
 obtain⟨ps,pA,pC,co,clo,chi,gr,glo,ghi,sns,snA,snC⟩:=b
 obtain⟨hpA,row,hsn,hown,hco,hgr,hps,H⟩:=B
 dsimp only at hpA row hsn hown hco hgr hps
 subst hpA
 dsimp only at hix hx
 obtain⟨gS,uS,hgS,hLs,rowS⟩:=hsn.row (by have:=(cF hx).1;omega)
 subst hgS;subst hLs
 obtain⟨gq,uq,gl,ul,La,Lb,hsA,hlA,rowq,rowl,hLo,hset⟩:=hown.at_ hx
 subst hLo
 replace H:Hp w0 w ((bb,.cells #[.slice (Qd gP) ps.length pC,J (co.clock),J (co.next),J (co.wait),.slice co.A co.txs.length co.cap,J (gr.clock),J (gr.wait),J (gr.gen),.slice gr.mA gr.ms.length gr.mC,.slice gr.oA gr.os.length gr.oC,.slice (Qd gS) sns.length snC] bK (0,0))::(gP,.cells uP bE (0,0))::(gS,.cells uS fx (0,0))::(gq,.cells uq cY (0,0))::(gl,.cells ul du (0,0))::(La++(Lb++K))) F:=H.perm (CO [(bb,_),(gP,_),(gS,_)] _ _ La Lb K)
 dsimp only at hsl hpn hll hsq h4 hcb hpk
 obtain⟨n,hna⟩: ∃ n:Nat,a.part=(n:Int):=⟨a.part.toNat,by omega⟩
 have htn:a.part.toNat=n:=by omega
 have hl5:(zH.f x)[5]? =some (.slice (some ⟨gl,0,none⟩) x.last.length x.lC):=by rw[<-hlA];rfl
 have hl4:(zH.f x)[4]? =some (.slice (some ⟨gq,0,none⟩) x.seqs.length x.sC):=by rw[<-hsA];rfl
 obtain⟨e,he⟩: ∃ e,x.last[n]? =some e:=⟨_,ah I⟩
 obtain⟨q,hq0⟩: ∃ q,x.seqs[n]? =some q:=⟨_,ah I⟩
 have hqb:=hsb q (ae hq0)
 show CW _ _ _ _ (args [.pointer (Qd bb),.agg #[J (a.kind),.string (a.name),J (a.part),J (a.n),J (a.m),.string (a.text),J (a.lost)],.bool false]) w
 refine W<|Zr<|fT H Z Z fun w1 b4 H=>eE H dm Z fun w2 b6 H=>U<|W<|Zr<|G (Yp Z)<|G (Zf fb Z)<|G (Zd aZ H 1 Z Z Z)<|bY dy (jq bb ⟨ps,some ⟨gP,0,none⟩,pC,co,clo,chi,gr,glo,ghi,sns,some ⟨gS,0,none⟩,snC⟩ (a.name) _ _ (H.ent (i:=2) Z) (dU.own rowS) (fun q hq=>by rw[aq.1 hq];exact(H.ent (i:=4) Z)) hsl) Z Z ?_
 rintro _ w3 ⟨rfl,hb⟩;replace H:=H.later hb;clear hb
 rw[hix]
 refine G (Wp Z)<|U<|W<|Zb<|W<|Zr<|G (Yp Z)<|G (vQ iM Z)<|G (Yb Z)<|ZG<|G (Yp Z)<|ZG<|G (Zf dR Z)<|ZG<|G (Zd aj H 1 Z Z Z)<|ZG<|bY dW (oa bb ⟨ps,some ⟨gP,0,none⟩,pC,co,clo,chi,gr,glo,ghi,sns,some ⟨gS,0,none⟩,snC⟩ a.part _ (H.ent (i:=2) Z)) Z Z ?_
 rintro _ w4 ⟨rfl,hb⟩;replace H:=H.later hb;clear hb
 rw[decide_eq_true hpn]
 refine ZG<|G (dF Z)<|G (N Z Z)<|G (Wb Z)<|U<|ZF Z<|W<|Zr<|G (Zf jE Z)<|G (Zd aj H 1 Z Z Z)<|G (cZ Z Z I)<|G (Yb Z)<|ZG<|G (Zf jE Z)<|ZG<|G (Zd aj H 1 Z Z Z)<|ZG<|G (er Z Z I)<|G (N Z Z)<|G (Wb Z)<|U<|ZF Z<|W ?_
 refine bz bX [0,1,2,3,4,5,6,7,8,9,10,11,12,13] [] [] [0,1,2,3,4,6,8,9,11,12,13] (sp []) N N N N Nq (cG _) ?_
 refine aw Z Z Z Z Z (fun w' hw'=>Yb Z)<|aw Z Z Z Z Z (fun w' hw'=>Yb Z)<|eQ Z Z Z Z<|eQ Z Z Z Z<|eQ Z Z Z Z<|eQ Z Z Z Z<|eQ Z Z Z Z<|eQ Z Z Z Z<|eQ Z Z Z Z<|eQ Z Z Z Z<|eQ Z Z Z Z<|eQ Z Z Z Z<|aw Z Z Z Z Z (fun w' hw'=>N Z Z)<|aw Z Z Z Z Z (fun w' hw'=>Wb Z)<|aS ?_
 intro w5 hw' hF
 replace H:=H.later hw';clear hw' hF
 refine U<|ZF Z<|W<|Zr<|G (Yb Z)<|G (dF Z)<|G (Yb Z)<|ZG<|G (Zf AQ Z)<|ZG<|G (Zd aZ H 1 Z Z Z)<|ZG<|G (G0 jo Z)<|ZG<|G (er Z Z I)<|G (Kt Z Z)<|G (Wb Z)<|U<|ZF Z<|Zk<|W<|W<|Zr<|G (Yb Z)<|G (dF Z)<|U<|ZT Z<|W ?_
 refine bz bX [0,1,2,3,4,5,6,7,8,9,10,11,12,13,14,15,16,17,18,19,20,21,22,23,24,25,26,27,28,29] [30] [] [0,1,2,4,6,7,8,10,11,12,14,15,16,18,20,22,23,24,26,28,29] (sp []) N N N N Nq (cG _) ?_
 refine aw Z Z Z Z Z (fun w' hw'=>Yp Z)<|aw Z Z Z Z Z (fun w' hw'=>aI Z)<|aw Z Z Z Z Z (fun w' hw'=>Zf lZ Z)<|aw Z Z Z Z Z (fun w' hw'=>bQ ng rowS hx 5 Z ((H.later hw').ent (i:=4) Z) hl5)<|aw Z Z Z Z Z (fun w' hw'=>Zf dR Z)<|aw Z Z Z Z Z (fun w' hw'=>aU aj Z (aB ((H.later hw').ent (i:=1) Z) Z))<|aw Z Z Z Z Z (fun w' hw'=>Yp Z)<|aw Z Z Z Z Z (fun w' hw'=>aI Z)<|aw Z Z Z Z Z (fun w' hw'=>Zf FQ Z)<|aw Z Z Z Z Z (fun w' hw'=>bQ aj rowS hx 1 Z ((H.later hw').ent (i:=4) Z) Z)<|aw Z Z Z Z Z (fun w' hw'=>Yp Z)<|aw Z Z Z Z Z (fun w' hw'=>aI Z)<|aw Z Z Z Z Z (fun w' hw'=>Zf t8 Z)<|aw Z Z Z Z Z (fun w' hw'=>bQ aj rowS hx 2 Z ((H.later hw').ent (i:=4) Z) Z)<|aw Z Z Z Z Z (fun w' hw'=>Yp Z)<|aw Z Z Z Z Z (fun w' hw'=>aI Z)<|aw Z Z Z Z Z (fun w' hw'=>Zf yL Z)<|aw Z Z Z Z Z (fun w' hw'=>bQ cn rowS hx 4 Z ((H.later hw').ent (i:=4) Z) hl4)<|aw Z Z Z Z Z (fun w' hw'=>Zf dR Z)<|aw Z Z Z Z Z (fun w' hw'=>aU aj Z (aB ((H.later hw').ent (i:=1) Z) Z))<|aw Z Z Z Z Z (fun w' hw'=>cD (k:=n) ba Z (congrArg (Value.int .i64) hna) (by first|omega|(simp only[ab];omega)))<|aw Z Z Z Z Z (fun w' hw'=>bQ aj rowq hq0 0 Z ((H.later hw').ent (i:=5) Z) Z)<|aw Z Z Z Z Z (fun w' hw'=>Yp Z)<|aw Z Z Z Z Z (fun w' hw'=>aI Z)<|aw Z Z Z Z Z (fun w' hw'=>Zf ow Z)<|aw Z Z Z Z Z (fun w' hw'=>bQ dQ rowS hx 3 Z ((H.later hw').ent (i:=4) Z) Z)<|aw Z Z Z Z Z (fun w' hw'=>Zf AQ Z)<|aw Z Z Z Z Z (fun w' hw'=>aU aZ Z (aB ((H.later hw').ent (i:=1) Z) Z))<|aw Z Z Z Z Z (fun w' hw'=>bi (cs:= #[J (0),J (x.pid),J (x.ver),J (q),J (1),.bool (x.inn),.string (a.text)]) n6 gd N)<|aw Z Z Z Z Z (fun w' hw'=>cD (k:=n) dS Z (congrArg (Value.int .i64) hna) (by first|omega|(simp only[ab];omega)))<|aS ?_
 intro w6 hw' hF
 replace H:=H.later hw';clear hw' hF
 refine kR H 6 (⟨0,x.pid,x.ver,q,1,x.inn,a.text⟩) eS rowl he 0 Z Z Z Z Z Z N fun w8 cur7 row7 H=> ?_
 have hs9:(x.last.set n (⟨0,x.pid,x.ver,q,1,x.inn,a.text⟩))[n]? =some (⟨0,x.pid,x.ver,q,1,x.inn,a.text⟩):=am (cF he).1
 refine U ?_
 refine bz bX [0,1,2,3,4,5,6,7,8,9] [10] [] [0,1,2,4,6,8,9] (sp []) N N N N Nq (cG _) ?_
 refine aw Z Z Z Z Z (fun w' hw'=>Yp Z)<|aw Z Z Z Z Z (fun w' hw'=>aI Z)<|aw Z Z Z Z Z (fun w' hw'=>Zf yL Z)<|aw Z Z Z Z Z (fun w' hw'=>bQ cn rowS hx 4 Z ((H.later hw').ent (i:=4) Z) hl4)<|aw Z Z Z Z Z (fun w' hw'=>Zf dR Z)<|aw Z Z Z Z Z (fun w' hw'=>aU aj Z (aB ((H.later hw').ent (i:=1) Z) Z))<|aw Z Z Z Z Z (fun w' hw'=>cD (k:=n) ba Z (congrArg (Value.int .i64) hna) (by first|omega|(simp only[ab];omega)))<|aw Z Z Z Z Z (fun w' hw'=>bQ aj rowq hq0 0 Z ((H.later hw').ent (i:=5) Z) Z)<|aw Z Z Z Z Z (fun w' hw'=>br Z Z I I)<|aw Z Z Z Z Z (fun w' hw'=>cD (k:=n) ba Z (congrArg (Value.int .i64) hna) (by first|omega|(simp only[ab];omega)))<|aS ?_
 intro w10 hw' hF
 replace H:=H.later hw';clear hw' hF
 refine kR H 5 ((q+1)) bI rowq hq0 0 Z Z Z Z Z Z N fun w12 cur11 row11 H=> ?_
 have hs13:(x.seqs.set n ((q+1)))[n]? =some ((q+1)):=am (cF hq0).1
 refine U<|W<|W ?_
 obtain⟨x1,hx1⟩: ∃ x1:Sn,{x with last:=x.last.set n ⟨0,x.pid,x.ver,q,1,x.inn,a.text⟩,seqs:=x.seqs.set n (q+1)}=x1:=⟨_,rfl⟩
 have hsA1:x1.sA=some ⟨gq,0,none⟩:=by rw[<-hx1];exact hsA
 have hlA1:x1.lA=some ⟨gl,0,none⟩:=by rw[<-hx1];exact hlA
 have rowq1:dU bR x1.seqs x1.sC cur11:=by rw[<-hx1];exact row11
 have rowl1:dU gL x1.last x1.lC cur7:=by rw[<-hx1];exact row7
 have rowS1:dU zH (sns.set i x1) snC uS:=dU.same rowS hx (by rw[<-hx1];simp only[zH,Sn.c,ab])
 have hll1:x1.last.length=ps.length:=by rw[<-hx1];simp only[ab];exact hll
 have hnm1:bM x1.name=true:=by rw[<-hx1];exact hnm
 refine Zr<|G (Zf jE Z)<|G (Zd aj H 1 Z Z Z) ?_
 refine cU (bl Z Z) Z Z Z (fun h102=> ?_) (fun h102=> ?_)
 ·
  refine U<|ZT Z<|W<|Zr<|bY bN (dP 14 _) Z Z ?_
  rintro _ w14 ⟨rfl,hb⟩;replace H:=H.later hb;clear hb
  refine bo H 0 (#[J (14),J (0),.slice none 0 0]) aP Z Z Z Z Z N N fun w15 H=>U<|Zt ?_
  exact eO (cs0:= #[J (14),J (0),.slice none 0 0]) Z aN Z (H.ent (i:=0) Z) Z ⟨⟨ps,some ⟨gP,0,none⟩,pC,co,clo,chi,gr,glo,ghi,sns.set i x1,some ⟨gS,0,none⟩,snC⟩,by rw[n8 hix hx (fun h=>by cases h) x1 (by rw[htn];exact(uC hq0 _).trans hx1),if_pos h102];exact oP.plain _ _ _,by rw[n8 hix hx (fun h=>by cases h) x1 (by rw[htn];exact(uC hq0 _).trans hx1),if_pos h102];rfl,Bw.close (X:=[(b6,_),(b4,_)]) row rowS1 hset hsA1 hlA1 rowq1 rowl1 hco hgr hps (fun _ h=>h) H (by simp only[Bk.c,ab])⟩
 ·
  refine U<|ZF Z<|Zk<|W ?_
  refine nU bX (fun w'=>w'.heap[b4]? =some (.cells #[J (a.kind),.string (a.name),J (a.part),J (a.n),J (a.m),.string (a.text),J (a.lost)] fP (0,0))) ?_
  intro w16 hw';replace H:=H.later hw';clear hw'
  refine aM 0 N N N Z Z Z Z Nq (H.ent (i:=1) Z) (fun _ hS=>je dO Z hS Z)<|aM 1 N N N Z Z Z Z Nq (H.ent (i:=1) Z) (fun _ hS=>Yp Z)<|aM 2 N N N Z Z Z Z Nq (H.ent (i:=1) Z) (fun _ hS=>Yp Z)<|aM 3 N N N Z Z Z Z Nq (H.ent (i:=1) Z) (fun _ hS=>Zf dR Z)<|aM 4 N N N Z Z Z Z Nq (H.ent (i:=1) Z) (fun _ hS=>aU aj Z (aB hS Z))<|r9 5 N Z ?_
  refine bY ls ((by have hA:=AU (i:=i) (n:=n) (k:=k) (sns:=sns.set i x1) (x:=x1) (by simp only[ab];exact H.perm ((ai _ (ai _ (ai _ (ai _ (al _ _ _))))).trans ((ai _ (ai _ (ai _ (al _ _ _)))).trans ((ai _ (ai _ (al _ _ _))).trans ((ai _ (al _ _ _)).trans ((al _ _ _).trans ((ai _ (ai _ (ai _ (ai _ (ai _ (al _ _ _)))))).trans ((ai _ (ai _ (ai _ (ai _ (al _ _ _))))).trans ((ai _ (ai _ (ai _ (al _ _ _)))).trans ((ai _ (ai _ (al _ _ _))).trans (ai _ (al _ _ _)))))))))))) row rowS1 rowl1 (am (cF hx).1) hlA1 hco hps I I I hnm1 hcb hpk;rw[<-hna]at hA;exact hA)) Z Z ?_
  rintro _ w17 ⟨ps',uP',co',clo',chi',F',hAn,hW,row',hlen',hco',hps',hF',H⟩
  replace H:=H.perm ((ai _ (al _ _ _)).trans ((al _ _ _).trans ((ai _ (ai _ (al _ _ _))).trans ((ai _ (al _ _ _)).trans ((ai _ (ai _ (ai _ (al _ _ _)))).trans ((ai _ (ai _ (al _ _ _))).trans ((ai _ (ai _ (ai _ (ai _ (al _ _ _))))).trans ((ai _ (ai _ (ai _ (al _ _ _)))).trans ((ai _ (ai _ (ai _ (ai _ (ai _ (al _ _ _)))))).trans (ai _ (ai _ (ai _ (ai _ (al _ _ _))))))))))))))
  obtain⟨A1,c1,rfl⟩:=hAn.p (ko ..)
  refine U ?_
  refine⟨(H.ent (i:=1) Z),?_⟩
  refine r9 6 N Z<|bY kz (Dk a (ej (Wa.mk (ps.map fun q=>q.p.a) co.a gr.a ((sns.set i x1).map Sn.a)) x1.a n).2.code (ej (Wa.mk (ps.map fun q=>q.p.a) co.a gr.a ((sns.set i x1).map Sn.a)) x1.a n).2.n A1 0 c1 _) Z Z ?_
  rintro _ w18 ⟨ht,hb⟩;replace H:=H.later hb;clear hb
  obtain⟨A2,c2,rfl⟩:=J7 ht
  refine U ?_
  refine⟨(H.ent (i:=1) Z),?_⟩
  refine r9 7 N Z<|bo H 0 (#[J ((f7 a (ej (Wa.mk (ps.map fun q=>q.p.a) co.a gr.a ((sns.set i x1).map Sn.a)) x1.a n).2).code),J ((f7 a (ej (Wa.mk (ps.map fun q=>q.p.a) co.a gr.a ((sns.set i x1).map Sn.a)) x1.a n).2).n),.slice A2 0 c2]) aP Z Z Z Z Z N N fun w19 H=>U ?_
  refine⟨(H.ent (i:=1) Z),?_⟩
  refine jZ N<|Zt ?_
  exact eO (cs0:= #[J ((f7 a (ej (Wa.mk (ps.map fun q=>q.p.a) co.a gr.a ((sns.set i x1).map Sn.a)) x1.a n).2).code),J ((f7 a (ej (Wa.mk (ps.map fun q=>q.p.a) co.a gr.a ((sns.set i x1).map Sn.a)) x1.a n).2).n),.slice A2 0 c2]) Z aN Z (H.ent (i:=0) Z) Z ⟨⟨ps',some ⟨gP,0,none⟩,pC,co',clo',chi',gr,glo,ghi,sns.set i x1,some ⟨gS,0,none⟩,snC⟩,by rw[n8 hix hx (fun h=>by cases h) x1 (by rw[htn];exact(uC hq0 _).trans hx1),if_neg h102,htn];exact oP.of (lE _ (ko ..)),by rw[n8 hix hx (fun h=>by cases h) x1 (by rw[htn];exact(uC hq0 _).trans hx1),if_neg h102,htn];exact hW.symm,Bw.close (X:=[(b6,_),(b4,_)]) row' rowS1 hset hsA1 hlA1 rowq1 rowl1 hco' (hF' _ hgr) hps' hF' H (by simp only[Bk.c,ab])⟩
theorem xd {b:Bk} {a:Act} (hix:fh b.sns a.name=none):jU b.a a=(b.a,⟨5,0,[]⟩):=by
 unfold jU
 rw[show b.a.sns=b.sns.map Sn.a from rfl,Do hix]
 rfl
theorem iX {b:Bk} {a:Act} {i:Nat} {x:Sn} (hix:fh b.sns a.name=some i) (hx:b.sns[i]? =some x):jU b.a a=if x.inn=false then l9 b.a 12 else if a.lost=1 then l9 b.a 14 else
  if(kU b.co.a x.name x.ver (decide (a.n=1))).2=0 then({b.a with co:=(kU b.co.a x.name x.ver (decide (a.n=1))).1,sns:=if a.lost=0 then(b.sns.set i (v9 x)).map Sn.a else b.sns.map Sn.a},f7 a ⟨0,0,[]⟩)else(b.a,f7 a ⟨(kU b.co.a x.name x.ver (decide (a.n=1))).2,0,[]⟩):=by
 unfold jU
 rw[show b.a.sns=b.sns.map Sn.a from rfl,wB hix hx,cz]
 rfl
def zT (e:cO):cO:=if e.txn then mV else e
theorem Jy (x:Sn):v9 x={x with inn:=false,last:=x.last.map zT}:=rfl
theorem J1 {l:List cO} {i:Nat} {e:cO} (he:l[i]? =some e):((l.take i).map zT++l.drop i).set i (zT e)=(l.take (i+1)).map zT++l.drop (i+1):=by
 have hi:=(cF he).1
 have h1:((l.take i).map zT).length=i:=by simp;omega
 rw[i8 _ _ I,h1,mj,eK he,bk,aE]
 congr 1
 rw[mS hi]
 rfl
theorem Df {l:List cO} {i:Nat} {e:cO} (he:l[i]? =some e):((l.take i).map zT++l.drop i)[i]? =some e:=by
 have hi:=(cF he).1
 rw[cv (by simp;omega)]
 simp only[bA,aH,bu (ml hi),mj]
 rw[dL]
 exact he
theorem FN {w0 w:World} {bb:Nat} {b:Bk} {gP:Nat} {uP:Array Value} {Ls Lo K:List (Nat×Obj)} {F:List cr} (a:Act) (B:Bw w0 w bb b gP uP Ls Lo K F) (hsl:b.sns.length<=1000000) (hix:fh b.sns a.name=none):db aa ju [.pointer (Qd bb),a.v] w fun v w2=> ∃ b':Bk,oP (jU b.a a).2 v w2/\b'.a=(jU b.a a).1/\xy w0 w2 bb b' K F:=by
 refine aD lX Z Z ?_
 obtain⟨ps,pA,pC,co,clo,chi,gr,glo,ghi,sns,snA,snC⟩:=b
 obtain⟨hpA,row,hsn,hown,hco,hgr,hps,H⟩:=B
 dsimp only at hpA row hsn hown hco hgr hps
 subst hpA
 replace H:Hp w0 w ((bb,.cells #[.slice (Qd gP) ps.length pC,J (co.clock),J (co.next),J (co.wait),.slice co.A co.txs.length co.cap,J (gr.clock),J (gr.wait),J (gr.gen),.slice gr.mA gr.ms.length gr.mC,.slice gr.oA gr.os.length gr.oC,.slice snA sns.length snC] bK (0,0))::(gP,.cells uP bE (0,0))::(Ls++(Lo++K))) F:=H
 dsimp only at hix hsl
 show CW _ _ _ _ (args [.pointer (Qd bb),.agg #[J (a.kind),.string (a.name),J (a.part),J (a.n),J (a.m),.string (a.text),J (a.lost)]]) w
 refine W<|Zr<|fT H Z Z fun w1 b3 H=>eE H dm Z fun w2 b4 H=>U<|W<|Zr<|G (Yp Z)<|G (Zf fb Z)<|G (Zd aZ H 1 Z Z Z)<|bY dy (jq bb ⟨ps,some ⟨gP,0,none⟩,pC,co,clo,chi,gr,glo,ghi,sns,snA,snC⟩ (a.name) Ls _ (H.ent (i:=2) Z) hsn (fun q hq=>(H.ents q (by simp only[ax,ar];grind)).1) hsl) Z Z ?_
 rintro _ w3 ⟨rfl,hb⟩;replace H:=H.later hb;clear hb
 rw[hix]
 refine G (Wp Z)<|U<|W<|Zb<|W<|Zr<|G (Yp Z)<|G (xJ iM Z)<|G (Wb Z)<|U<|ZT Z<|W<|Zr<|bY bN (dP 5 _) Z Z ?_
 rintro _ w4 ⟨rfl,hb⟩;replace H:=H.later hb;clear hb
 refine bo H 0 (#[J (5),J (0),.slice none 0 0]) aP Z Z Z Z Z N N fun w5 H=>U<|Zt ?_
 exact eO (cs0:= #[J (5),J (0),.slice none 0 0]) Z aN Z (H.ent (i:=0) Z) Z ⟨⟨ps,some ⟨gP,0,none⟩,pC,co,clo,chi,gr,glo,ghi,sns,snA,snC⟩,by rw[xd hix];exact oP.plain _ _ _,by rw[xd hix],Bw.shut (X:=[(b4,_),(b3,_)]) row hsn hown hco hgr hps (fun _ h=>h) H Z⟩
theorem FM {w0 w:World} {bb:Nat} {b:Bk} {gP:Nat} {uP:Array Value} {Ls Lo K:List (Nat×Obj)} {F:List cr} (a:Act) (B:Bw w0 w bb b gP uP Ls Lo K F) (hsl:b.sns.length<=1000000) {k i:Nat} {x:Sn} (hix:fh b.sns a.name=some i) (hx:b.sns[i]? =some x) (hlo:0<=a.lost/\a.lost<=2) (hn1:0<=a.n/\a.n<=1) (hll:x.last.length<=4) (hnm:bM x.name=true) (hcb:oO k b.co):db aa ju [.pointer (Qd bb),a.v] w fun v w2=> ∃ b':Bk,oP (jU b.a a).2 v w2/\b'.a=(jU b.a a).1/\xy w0 w2 bb b' K F:=by
 refine aD lX Z Z ?_
 obtain⟨ps,pA,pC,co,clo,chi,gr,glo,ghi,sns,snA,snC⟩:=b
 obtain⟨hpA,row,hsn,hown,hco,hgr,hps,H⟩:=B
 dsimp only at hpA row hsn hown hco hgr hps
 subst hpA
 dsimp only at hix hx
 obtain⟨gS,uS,hgS,hLs,rowS⟩:=hsn.row (by have:=(cF hx).1;omega)
 subst hgS;subst hLs
 obtain⟨gq,uq,gl,ul,La,Lb,hsA,hlA,rowq,rowl,hLo,hset⟩:=hown.at_ hx
 subst hLo
 replace H:Hp w0 w ((bb,.cells #[.slice (Qd gP) ps.length pC,J (co.clock),J (co.next),J (co.wait),.slice co.A co.txs.length co.cap,J (gr.clock),J (gr.wait),J (gr.gen),.slice gr.mA gr.ms.length gr.mC,.slice gr.oA gr.os.length gr.oC,.slice (Qd gS) sns.length snC] bK (0,0))::(gP,.cells uP bE (0,0))::(gS,.cells uS fx (0,0))::(gq,.cells uq cY (0,0))::(gl,.cells ul du (0,0))::(La++(Lb++K))) F:=H.perm (CO [(bb,_),(gP,_),(gS,_)] _ _ La Lb K)
 dsimp only at hsl hcb
 have hl5:(zH.f x)[5]? =some (.slice (some ⟨gl,0,none⟩) x.last.length x.lC):=by rw[<-hlA];rfl
 show CW _ _ _ _ (args [.pointer (Qd bb),.agg #[J (a.kind),.string (a.name),J (a.part),J (a.n),J (a.m),.string (a.text),J (a.lost)]]) w
 refine W<|Zr<|fT H Z Z fun w1 b3 H=>eE H dm Z fun w2 b4 H=>U<|W<|Zr<|G (Yp Z)<|G (Zf fb Z)<|G (Zd aZ H 1 Z Z Z)<|bY dy (jq bb ⟨ps,some ⟨gP,0,none⟩,pC,co,clo,chi,gr,glo,ghi,sns,some ⟨gS,0,none⟩,snC⟩ (a.name) _ _ (H.ent (i:=2) Z) (dU.own rowS) (fun q hq=>by rw[aq.1 hq];exact(H.ent (i:=4) Z)) hsl) Z Z ?_
 rintro _ w3 ⟨rfl,hb⟩;replace H:=H.later hb;clear hb
 rw[hix]
 refine G (Wp Z)<|U<|W<|Zb<|W<|Zr<|G (Yp Z)<|G (vQ iM Z)<|G (Wb Z)<|U<|ZF Z<|W<|Zr<|G (Zf jE Z)<|G (Zd aj H 1 Z Z Z)<|G (cZ Z Z I)<|G (Yb Z)<|ZG<|G (Zf jE Z)<|ZG<|G (Zd aj H 1 Z Z Z)<|ZG<|G (er Z Z I)<|G (N Z Z)<|G (Yb Z)<|ZG<|G (Zf eP Z)<|ZG<|G (Zd aj H 1 Z Z Z)<|ZG<|G (cZ Z Z I)<|G (N Z Z)<|G (Yb Z)<|ZG<|G (Zf eP Z)<|ZG<|G (Zd aj H 1 Z Z Z)<|ZG<|G (er Z Z I)<|G (N Z Z) ?_
 refine G (Wb Z)<|U<|ZF Z<|W<|Zr<|G (Yp Z)<|G (aI Z)<|G (Zf ow Z) ?_
 refine wm (bQ dQ rowS hx 3 Z (H.ent (i:=4) Z) Z) Z Z Z (fun h41=> ?_) (fun h41=> ?_)
 refine G (dF Z)<|G (Wb Z)<|U<|ZF Z<|W<|Zr<|G (Zf jE Z)<|G (Zd aj H 1 Z Z Z) ?_
 refine cU (bl Z Z) Z Z Z (fun h47=> ?_) (fun h47=> ?_)
 refine G (Wb Z)<|U<|ZT Z<|W<|Zr<|bY bN (dP 14 _) Z Z ?_
 rintro _ w4 ⟨rfl,hb⟩;replace H:=H.later hb;clear hb
 refine bo H 0 (#[J (14),J (0),.slice none 0 0]) aP Z Z Z Z Z N N fun w5 H=>U<|Zt ?_
 exact eO (cs0:= #[J (14),J (0),.slice none 0 0]) Z aN Z (H.ent (i:=0) Z) Z ⟨⟨ps,some ⟨gP,0,none⟩,pC,co,clo,chi,gr,glo,ghi,sns.set i x,some ⟨gS,0,none⟩,snC⟩,by rw[iX hix hx,if_neg (by rw[h41];decide),if_pos h47];exact oP.plain _ _ _,by rw[iX hix hx,if_neg (by rw[h41];decide),if_pos h47,eY hx];rfl,Bw.close (X:=[(b4,_),(b3,_)]) row (by rw[eY hx];exact rowS) hset hsA hlA rowq rowl hco hgr hps (fun _ h=>h) H (by rw[eY hx];rfl)⟩
 refine G (Wb Z)<|U<|ZF Z<|Zk<|W ?_
 refine eC (τ:=Co×Nat×Nat×Nat) [6,7,49,50,51,52,53,54,55,56,57,58,59,60,61,62,63,64,65,66,67,68] (fun(_,b6,_,_)=>[(6,.pointer (Qd b6)),(7,J (kU co.a x.name x.ver (decide (a.n=1))).2)]) (fun(c3,b6,lo,hi) w'=>c3.a=(kU co.a x.name x.ver (decide (a.n=1))).1/\Hp w0 w' ((b6,.cells #[J (c3.clock),J (c3.next),J (c3.wait),.slice c3.A c3.txs.length c3.cap] bd (0,0))::(b4,.cells #[J (0),J (0),.slice none 0 0] ec (0,0))::(b3,.cells #[J (a.kind),.string (a.name),J (a.part),J (a.n),J (a.m),.string (a.text),J (a.lost)] fP (0,0))::(bb,.cells #[.slice (Qd gP) ps.length pC,J (co.clock),J (co.next),J (co.wait),.slice co.A co.txs.length co.cap,J (gr.clock),J (gr.wait),J (gr.gen),.slice gr.mA gr.ms.length gr.mC,.slice gr.oA gr.os.length gr.oC,.slice (Qd gS) sns.length snC] bK (0,0))::(gP,.cells uP bE (0,0))::(gS,.cells uS fx (0,0))::(gq,.cells uq cY (0,0))::(gl,.cells ul du (0,0))::La++(Lb++K)) (xx w0 lo hi c3::F)) ?_ ?_
 refine oB bX 20 16 [16,17,18,19,21,22] [20] [0,1,2,3,5,6,7,9,10,11,13,15] [20,21,22] [16] [0,1,2,3,5,6,7,9,10,11,13,15,17,18,19] (sp [(20,Sp.blk w3.heap.size (.agg #[J 0,J 0,J 0,.slice none 0 0]) bd)]) (sp [(16,Sp.deep w3.heap.size Mi (fun c:Co=>c.c.toArray) (fun cs=> .tuple #[.agg cs,J (kU co.a x.name x.ver (decide (a.n=1))).2]) (fun cq:Co=>cq.a=(kU co.a x.name x.ver (decide (a.n=1))).1))]) N N N N (cG _) (cG _) ?_ ?_
 refine jx [0,1,2,3,4,5,6,7,8,9,10,11,12,13,14,15,20] [16,17,18,19,21,22] [20] [0,1,2,3,5,6,7,9,10,11,13,15] 5 (sp [(20,Sp.blk w3.heap.size (.agg #[J 0,J 0,J 0,.slice none 0 0]) bd)]) N N N Nq<|aw Z Z Z Z Z (fun w' hw'=>Yp Z)<|aw Z Z Z Z Z (fun w' hw'=>aI Z)<|aw Z Z Z Z Z (fun w' hw'=>Zf aV Z)<|aw Z Z Z Z Z (fun w' hw'=>Zf eA Z)<|aw Z Z Z Z Z (fun w' hw'=>jS 1 [J (co.clock),J (co.next),J (co.wait),.slice co.A co.txs.length co.cap] av Z Z ((H.later hw').ent (i:=2) Z) Z)<|aw Z Z Z Z Z (fun w' hw'=>Yp Z)<|aw Z Z Z Z Z (fun w' hw'=>aI Z)<|aw Z Z Z Z Z (fun w' hw'=>Zf ox Z)<|aw Z Z Z Z Z (fun w' hw'=>bQ aZ rowS hx 0 Z ((H.later hw').ent (i:=4) Z) Z)<|aw Z Z Z Z Z (fun w' hw'=>Yp Z)<|aw Z Z Z Z Z (fun w' hw'=>aI Z)<|aw Z Z Z Z Z (fun w' hw'=>Zf t8 Z)<|aw Z Z Z Z Z (fun w' hw'=>bQ aj rowS hx 2 Z ((H.later hw').ent (i:=4) Z) Z)<|aw Z Z Z Z Z (fun w' hw'=>Zf eP Z)<|aw Z Z Z Z Z (fun w' hw'=>aU aj Z (aB ((H.later hw').ent (i:=1) Z) Z))<|aw Z Z Z Z Z (fun w' hw'=>bl Z Z)<|xr cK Z Z Z Z Z (fun w' hw'=>hw'.size) fun b6=>aS ?_
 intro w6 hw' hF
 obtain⟨hF,bq,eq,hge6,hbl6⟩:=hF;cases eq
 replace H:=H.adoptNew hw' hbl6 hge6
 clear hw' hF
 refine dd 16 N Z<|bY xl (FS co x.name x.ver (decide (a.n=1)) k _ (Hp.coM H hco) hcb hnm) Z Z ?_
 rintro _ w7 ⟨c3,rfl,hac3,hnc3⟩;replace H:=H.learn hnc3.2 (xx w0 w6.heap.size w7.heap.size c3) ⟨H.size,hnc3.1⟩ (ao _) (ao _);clear hnc3
 refine U<|bx 17 N N N Z Z Z Z Nq (fun _=>Yu Z)<|bx 18 N N N Z Z Z Z Nq (fun _=>Xa Z Z)<|bx 19 N N N Z Z Z Z Nq (fun _=>Xi Z Z)<|dd 21 N Z<|bo H 0 (#[J (c3.clock),J (c3.next),J (c3.wait),.slice c3.A c3.txs.length c3.cap]) aF Z Z Z Z Z N N fun w8 H=>U<|bx 22 N N N Z Z Z Z Nq (fun _=>Wi Z)<|cB N ?_
 exact⟨(c3,b6,_,_),⟨hac3,H⟩,kZ Z Z,Qg⟩
 refine jx [0,1,2,3,4,5,6,7,8,9,10,11,12,13,14,15,16,17,18,19] [20,21,22] [16] [0,1,2,3,5,6,7,9,10,11,13,15,17,18,19] 2 (sp [(16,Sp.deep w3.heap.size Mi (fun c:Co=>c.c.toArray) (fun cs=> .tuple #[.agg cs,J (kU co.a x.name x.ver (decide (a.n=1))).2]) (fun cq:Co=>cq.a=(kU co.a x.name x.ver (decide (a.n=1))).1))]) N N N Nq<|aw Z Z Z Z Z (fun w' hw'=>Yp Z)<|aw Z Z Z Z Z (fun w' hw'=>aI Z)<|aw Z Z Z Z Z (fun w' hw'=>Zf aV Z)<|aw Z Z Z Z Z (fun w' hw'=>Zf eA Z)<|aw Z Z Z Z Z (fun w' hw'=>jS 1 [J (co.clock),J (co.next),J (co.wait),.slice co.A co.txs.length co.cap] av Z Z ((H.later hw').ent (i:=2) Z) Z)<|aw Z Z Z Z Z (fun w' hw'=>Yp Z)<|aw Z Z Z Z Z (fun w' hw'=>aI Z)<|aw Z Z Z Z Z (fun w' hw'=>Zf ox Z)<|aw Z Z Z Z Z (fun w' hw'=>bQ aZ rowS hx 0 Z ((H.later hw').ent (i:=4) Z) Z)<|aw Z Z Z Z Z (fun w' hw'=>Yp Z)<|aw Z Z Z Z Z (fun w' hw'=>aI Z)<|aw Z Z Z Z Z (fun w' hw'=>Zf t8 Z)<|aw Z Z Z Z Z (fun w' hw'=>bQ aj rowS hx 2 Z ((H.later hw').ent (i:=4) Z) Z)<|aw Z Z Z Z Z (fun w' hw'=>Zf eP Z)<|aw Z Z Z Z Z (fun w' hw'=>aU aj Z (aB ((H.later hw').ent (i:=1) Z) Z))<|aw Z Z Z Z Z (fun w' hw'=>bl Z Z)<|sW (gv:=(fun cs=> .tuple #[.agg cs,J (kU co.a x.name x.ver (decide (a.n=1))).2])) xl Z Z Z Z Z (fun w' hw'=>hw'.size) (fun w' hw'=>FS co x.name x.ver (decide (a.n=1)) k w' (Hp.coM (H.later hw') hco) hcb hnm) Z fun cs66=>aw Z Z Z Z Z (fun w' hw'=>Yu Z)<|aw Z Z Z Z Z (fun w' hw'=>Xa Z Z)<|aw Z Z Z Z Z (fun w' hw'=>Xi Z Z)<|aS ?_
 intro w9 hw' hF
 obtain⟨hF,c3,eq,hac3,hrd66⟩:=hF;cases eq
 replace H:=H.learn hw' (xx w0 w3.heap.size w9.heap.size c3) ⟨H.size,hrd66⟩ (ao _) (ao _)
 clear hw' hF
 refine dd 20 N Z<|eE H cK Z fun w10 b6 H=>U<|dd 21 N Z<|bo H 0 (#[J (c3.clock),J (c3.next),J (c3.wait),.slice c3.A c3.txs.length c3.cap]) aF Z Z Z Z Z N N fun w11 H=>U<|bx 22 N N N Z Z Z Z Nq (fun _=>Wi Z)<|cB N ?_
 exact⟨(c3,b6,_,_),⟨hac3,H⟩,kZ Z Z,Qg⟩
 rintro⟨c3,b6,lo,hi⟩ ρ1 w12 ⟨hac3,H⟩
 show CW _ _ _ _ (dA (gC _ _ ρ1) [(6,.pointer (Qd b6)),(7,J (kU co.a x.name x.ver (decide (a.n=1))).2)]) w12
 refine W<|W<|Zr<|G (Yi Z) ?_
 refine qt (iO Z Z) Z Z Z (fun h70=> ?_) (fun h70=> ?_)
 refine U<|ZT Z<|W ?_
 refine bz bX [0,1,2,3] [4] [2,3] [1] (sp [(2,Sp.one (.agg #[J (kU co.a x.name x.ver (decide (a.n=1))).2,J 0,.slice none 0 0])),(3,Sp.one (.agg #[J (f7 a ⟨(kU co.a x.name x.ver (decide (a.n=1))).2,0,[]⟩).code,J (f7 a ⟨(kU co.a x.name x.ver (decide (a.n=1))).2,0,[]⟩).n,.slice none 0 0]))]) N N N N Nq (cG _) ?_
 refine aw Z Z Z Z Z (fun w' hw'=>je dO Z ((H.later hw').ent (i:=2) Z) Z)<|aw Z Z Z Z Z (fun w' hw'=>Yi Z)<|gN bN Z Z Z Z Z (fun w' hw'=>dP (kU co.a x.name x.ver (decide (a.n=1))).2 w') Z<|gN kz Z Z Z Z Z (fun w' hw'=>Gm a ⟨(kU co.a x.name x.ver (decide (a.n=1))).2,0,[]⟩ w') Z<|aS ?_
 intro w13 hw' hF
 replace H:=H.later hw';clear hw' hF
 refine bo H 1 (#[J ((f7 a ⟨(kU co.a x.name x.ver (decide (a.n=1))).2,0,[]⟩).code),J ((f7 a ⟨(kU co.a x.name x.ver (decide (a.n=1))).2,0,[]⟩).n),.slice none 0 0]) aP Z Z Z Z Z N N fun w14 H=>U<|Zt ?_
 exact eO (cs0:= #[J ((f7 a ⟨(kU co.a x.name x.ver (decide (a.n=1))).2,0,[]⟩).code),J ((f7 a ⟨(kU co.a x.name x.ver (decide (a.n=1))).2,0,[]⟩).n),.slice none 0 0]) Z aN Z (H.ent (i:=1) Z) Z ⟨⟨ps,some ⟨gP,0,none⟩,pC,co,clo,chi,gr,glo,ghi,sns.set i x,some ⟨gS,0,none⟩,snC⟩,by rw[iX hix hx,if_neg (by rw[h41];decide),if_neg h47,if_neg h70];exact Pb.r ⟨lE _ Z,rfl⟩ _,by rw[iX hix hx,if_neg (by rw[h41];decide),if_neg h47,if_neg h70,eY hx],Bw.close (X:=[(b6,_),(b4,_),(b3,_)]) row (by rw[eY hx];exact rowS) hset hsA hlA rowq rowl (ak _ hco) (ak _ hgr) (fun q hq=>ak _ (hps q hq)) (fun f hf=>ak _ hf) H (by rw[eY hx];rfl)⟩
 refine U<|ZF Z<|Zk<|W ?_
 have hok3:(kU co.a x.name x.ver (decide (a.n=1))).2=0:=by simpa using h70
 refine Zr<|G (Yp Z)<|G (Zw av H 0 Z Z Z)<|G (aI Z)<|G (Zf aV Z)<|G (Zf eA Z)<|bo H 3 (#[.slice (Qd gP) ps.length pC,J (c3.clock),J (c3.next),J (c3.wait),.slice c3.A c3.txs.length c3.cap,J (gr.clock),J (gr.wait),J (gr.gen),.slice gr.mA gr.ms.length gr.mC,.slice gr.oA gr.os.length gr.oC,.slice (Qd gS) sns.length snC]) aF Z Z Z Z Z N N fun w15 H=>U<|W<|W<|Zr<|G (Zf jE Z)<|G (Zd aj H 2 Z Z Z) ?_
 refine cU (bl Z Z) Z Z Z (fun h82=> ?_) (fun h82=> ?_)
 refine U<|ZT Z<|W<|Zr<|G (Yp Z)<|G (aI Z)<|G (Zf ow Z)<|kR H 5 ({x with inn:=false}) iI rowS hx 3 Z Z Z Z Z Z N fun w17 cur16 row16 H=> ?_
 have hs18:(sns.set i ({x with inn:=false}))[i]? =some ({x with inn:=false}):=am (cF hx).1
 refine U<|W<|Zr<|G (Yp Z)<|G (aI Z)<|G (Zf lZ Z)<|G (bQ ng row16 hs18 5 Z (H.ent (i:=5) Z) hl5)<|G (bn ez Z)<|G (Yi Z)<|U<|Zb ?_
 refine cf (τ:=Nat×Array Value) [8,91,92,93,94,95,96,97,98,99,100,101,102,103,104,105,106,107,108,109] (fun(j,_)=>[(91,J (j:Nat))]) (fun(j,u) w'=>j<=x.last.length/\dU gL ((x.last.take j).map zT++x.last.drop j) x.lC u/\Hp w0 w' ((b6,.cells #[J (c3.clock),J (c3.next),J (c3.wait),.slice c3.A c3.txs.length c3.cap] bd (0,0))::(b4,.cells #[J (0),J (0),.slice none 0 0] ec (0,0))::(b3,.cells #[J (a.kind),.string (a.name),J (a.part),J (a.n),J (a.m),.string (a.text),J (a.lost)] fP (0,0))::(bb,.cells #[.slice (Qd gP) ps.length pC,J (c3.clock),J (c3.next),J (c3.wait),.slice c3.A c3.txs.length c3.cap,J (gr.clock),J (gr.wait),J (gr.gen),.slice gr.mA gr.ms.length gr.mC,.slice gr.oA gr.os.length gr.oC,.slice (Qd gS) sns.length snC] bK (0,0))::(gP,.cells uP bE (0,0))::(gS,.cells cur16 fx (0,0))::(gq,.cells uq cY (0,0))::(gl,.cells u du (0,0))::La++(Lb++K)) (xx w0 lo hi c3::F)) (fun(j,_)=>x.last.length-j) (0,_) ⟨bG _,(by simpa using rowl),H⟩ (dI Z) ?_
 rintro⟨j,u⟩ ρ1 w19 ⟨hj,rowu,H⟩
 show CW _ _ _ _ (dA (gC _ _ ρ1) [(91,J (j:Nat))]) w19
 refine W<|Zr ?_
 refine cU (cH Z Z) Z Z Z (fun h92=> ?_) (fun h92=> ?_)
 refine U<|W<|ZT Z<|Zk<|W<|Zb<|W<|Zr<|G (Yi Z)<|G (Wi Z)<|U<|W ?_
 obtain⟨e,he⟩: ∃ e,x.last[j]? =some e:=⟨_,ah I⟩
 refine Zr<|G (Yp Z)<|G (aI Z)<|G (Zf lZ Z)<|G (bQ ng row16 hs18 5 Z (H.ent (i:=5) Z) hl5)<|G (Yi Z)<|G (cD dS Z Z (by first|omega|(simp only[ab];omega)))<|G (Zf iZ Z) ?_
 refine wm (bQ dQ rowu (Df he) 5 Z (H.ent (i:=7) Z) Z) Z Z Z (fun h101=> ?_) (fun h101=> ?_)
 refine U<|ZT Z<|Zr<|G (Yp Z)<|G (aI Z)<|G (Zf lZ Z)<|G (bQ ng row16 hs18 5 Z (H.ent (i:=5) Z) hl5)<|G (Yi Z)<|G (bi (cs:= #[J (0),J (0),J (0),J (0),J (0),.bool (false),.string (⟨#[]⟩)]) n6 gd N)<|G (cD dS Z Z (by first|omega|(simp only[ab];omega)))<|kR H 7 (mV) eS rowu (Df he) 0 Z Z Z Z Z Z N fun w21 cur20 row20 H=> ?_
 have hs22:((((x.last.take j).map zT++x.last.drop j)).set j (mV))[j]? =some (mV):=am (cF (Df he)).1
 refine U<|Zr<|G (br Z Z I I)<|G (Yi Z)<|U ?_
 refine⟨(j+1,_),⟨by omega,?_,H⟩,dI Z,Qg,by show x.last.length- (j+1)<x.last.length-j;omega⟩
 rw[<-J1 he]
 have hz:zT e=mV:=by unfold zT;rw[if_pos h101]
 rw[hz]
 exact row20
 refine U<|ZF Z<|Zk<|Zr<|G (br Z Z I I)<|G (Yi Z)<|U ?_
 refine⟨(j+1,_),⟨by omega,?_,H⟩,dI Z,Qg,by show x.last.length- (j+1)<x.last.length-j;omega⟩
 rw[<-J1 he]
 have hz:zT e=e:=by unfold zT;rw[if_neg (by rw[h101];decide)]
 rw[hz,eY (Df he)]
 exact rowu
 refine U<|W<|ZF Z<|Zx<|W ?_
 obtain rfl:j=x.last.length:=by omega
 rw[bJ,fp,aY]at rowu
 obtain⟨x1,hx1⟩: ∃ x1:Sn,{x with inn:=false,last:=x.last.map zT}=x1:=⟨_,rfl⟩
 have hsA1:x1.sA=some ⟨gq,0,none⟩:=by rw[<-hx1];exact hsA
 have hlA1:x1.lA=some ⟨gl,0,none⟩:=by rw[<-hx1];exact hlA
 have rowq1:dU bR x1.seqs x1.sC uq:=by rw[<-hx1];exact rowq
 have rowl1:dU gL x1.last x1.lC u:=by rw[<-hx1];exact rowu
 have rowS1:dU zH (sns.set i x1) snC cur16:=by have:=dU.same (e':=x1) row16 hs18 (by rw[<-hx1];simp only[zH,Sn.c,bA]);rwa[fm]at this
 have hsn1:(if a.lost=0 then(sns.set i (v9 x)).map Sn.a else sns.map Sn.a)=(sns.set i x1).map Sn.a:=by rw[if_pos h82,<-hx1,Jy]
 refine Zr<|G (Zw dO H 2 Z Z Z)<|G (bi (cs:= #[J (0),J (0),.slice none 0 0]) iE dm N)<|bY kz (Gm a ⟨0,0,[]⟩ _) Z Z ?_
 rintro _ w23 ⟨rfl,hb⟩;replace H:=H.later hb;clear hb
 refine bo H 1 (#[J ((f7 a ⟨0,0,[]⟩).code),J ((f7 a ⟨0,0,[]⟩).n),.slice none 0 0]) aP Z Z Z Z Z N N fun w24 H=>U<|Zt ?_
 exact eO (cs0:= #[J ((f7 a ⟨0,0,[]⟩).code),J ((f7 a ⟨0,0,[]⟩).n),.slice none 0 0]) Z aN Z (H.ent (i:=1) Z) Z ⟨⟨ps,some ⟨gP,0,none⟩,pC,c3,lo,hi,gr,glo,ghi,sns.set i x1,some ⟨gS,0,none⟩,snC⟩,by rw[iX hix hx,if_neg (by rw[h41];decide),if_neg h47,if_pos hok3];exact Pb.r ⟨lE _ Z,rfl⟩ _,by rw[iX hix hx,if_neg (by rw[h41];decide),if_neg h47,if_pos hok3,<-hac3];show _=Wa.mk _ _ _ (if a.lost=0 then _ else _);rw[hsn1];rfl,Bw.close (X:=[(b6,_),(b4,_),(b3,_)]) row rowS1 hset hsA1 hlA1 rowq1 rowl1 (az ..) (ak _ hgr) (fun q hq=>ak _ (hps q hq)) (fun f hf=>ak _ hf) H (by simp only[Bk.c,ab])⟩
 refine U<|ZF Z<|Zk<|W ?_
 obtain⟨x1,hx1⟩: ∃ x1:Sn,x=x1:=⟨_,rfl⟩
 have hsA1:x1.sA=some ⟨gq,0,none⟩:=by rw[<-hx1];exact hsA
 have hlA1:x1.lA=some ⟨gl,0,none⟩:=by rw[<-hx1];exact hlA
 have rowq1:dU bR x1.seqs x1.sC uq:=by rw[<-hx1];exact rowq
 have rowl1:dU gL x1.last x1.lC ul:=by rw[<-hx1];exact rowl
 have rowS1:dU zH (sns.set i x1) snC uS:=by rw[<-hx1,eY hx];exact rowS
 have hsn1:(if a.lost=0 then(sns.set i (v9 x)).map Sn.a else sns.map Sn.a)=(sns.set i x1).map Sn.a:=by rw[if_neg h82,<-hx1,eY hx]
 refine Zr<|G (Zw dO H 2 Z Z Z)<|G (bi (cs:= #[J (0),J (0),.slice none 0 0]) iE dm N)<|bY kz (Gm a ⟨0,0,[]⟩ _) Z Z ?_
 rintro _ w25 ⟨rfl,hb⟩;replace H:=H.later hb;clear hb
 refine bo H 1 (#[J ((f7 a ⟨0,0,[]⟩).code),J ((f7 a ⟨0,0,[]⟩).n),.slice none 0 0]) aP Z Z Z Z Z N N fun w26 H=>U<|Zt ?_
 exact eO (cs0:= #[J ((f7 a ⟨0,0,[]⟩).code),J ((f7 a ⟨0,0,[]⟩).n),.slice none 0 0]) Z aN Z (H.ent (i:=1) Z) Z ⟨⟨ps,some ⟨gP,0,none⟩,pC,c3,lo,hi,gr,glo,ghi,sns.set i x1,some ⟨gS,0,none⟩,snC⟩,by rw[iX hix hx,if_neg (by rw[h41];decide),if_neg h47,if_pos hok3];exact Pb.r ⟨lE _ Z,rfl⟩ _,by rw[iX hix hx,if_neg (by rw[h41];decide),if_neg h47,if_pos hok3,<-hac3];show _=Wa.mk _ _ _ (if a.lost=0 then _ else _);rw[hsn1];rfl,Bw.close (X:=[(b6,_),(b4,_),(b3,_)]) row rowS1 hset hsA1 hlA1 rowq1 rowl1 (az ..) (ak _ hgr) (fun q hq=>ak _ (hps q hq)) (fun f hf=>ak _ hf) H (by simp only[Bk.c,ab])⟩
 refine G (dF Z)<|G (Wb Z)<|U<|ZT Z<|W<|Zr<|bY bN (dP 12 _) Z Z ?_
 rintro _ w27 ⟨rfl,hb⟩;replace H:=H.later hb;clear hb
 refine bo H 0 (#[J (12),J (0),.slice none 0 0]) aP Z Z Z Z Z N N fun w28 H=>U<|Zt ?_
 exact eO (cs0:= #[J (12),J (0),.slice none 0 0]) Z aN Z (H.ent (i:=0) Z) Z ⟨⟨ps,some ⟨gP,0,none⟩,pC,co,clo,chi,gr,glo,ghi,sns.set i x,some ⟨gS,0,none⟩,snC⟩,by rw[iX hix hx,if_pos h41];exact oP.plain _ _ _,by rw[iX hix hx,if_pos h41,eY hx];rfl,Bw.close (X:=[(b4,_),(b3,_)]) row (by rw[eY hx];exact rowS) hset hsA hlA rowq rowl hco hgr hps (fun _ h=>h) H (by rw[eY hx];rfl)⟩
theorem uG {w:Wa} {a:Act} (h:(bS w.co a.name).2.2.2≠0):pd w a=l9 w (bS w.co a.name).2.2.2:=by
 unfold pd
 rw[if_neg h]
theorem CM {b:Bk} {a:Act} (hix:fh b.sns a.name=none) (h:(bS b.co.a a.name).2.2.2=0):pd b.a a=({b.a with co:=(bS b.co.a a.name).1,sns:=b.sns.map Sn.a++[vm a.name (bS b.co.a a.name).2.1 (bS b.co.a a.name).2.2.1 b.ps.length]},⟨0,(bS b.co.a a.name).2.2.1,[]⟩):=by
 unfold pd EZ
 rw[if_pos (show(bS b.a.co a.name).2.2.2=0 from h),show b.a.sns=b.sns.map Sn.a from rfl]
 dsimp only[vm]
 rw[zg,hix,show b.a.ps.length=b.ps.length by show(b.ps.map _).length=_;rw[bA]]
 rfl
theorem CL {b:Bk} {a:Act} {i:Nat} (hix:fh b.sns a.name=some i) (h:(bS b.co.a a.name).2.2.2=0):pd b.a a=({b.a with co:=(bS b.co.a a.name).1,sns:=(b.sns.map Sn.a).set i (vm a.name (bS b.co.a a.name).2.1 (bS b.co.a a.name).2.2.1 b.ps.length)},⟨0,(bS b.co.a a.name).2.2.1,[]⟩):=by
 unfold pd EZ
 rw[if_pos (show(bS b.a.co a.name).2.2.2=0 from h),show b.a.sns=b.sns.map Sn.a from rfl]
 dsimp only[vm]
 rw[zg,hix,show b.a.ps.length=b.ps.length by show(b.ps.map _).length=_;rw[bA]]
 rfl
theorem Na (A Q Lo K:List (Nat×Obj)):(A++((Lo++Q)++K)).Perm (Q++(A++(Lo++K))):=by
 rw[show A++((Lo++Q)++K)=(A++Lo)++(Q++K) by simp,show A++(Lo++K)=(A++Lo)++K by simp]
 exact fU (A++Lo) Q K
def Pm:Sn:=⟨⟨#[]⟩,0,0,false,[],none,0,[],none,0⟩
theorem HU:(aa.info? 3).map (fun i=>(i.zero,i.size,i.bytes))=some (some (J 0),bR.sz,8):=by kernel_rfl
theorem CG:(aa.info? 59).map (fun i=>(i.zero,i.size,i.bytes))=some (some (.agg #[J 0,J 0,J 0,J 0,J 0,.bool false,.string ⟨#[]⟩]),gL.sz,64):=by kernel_rfl
theorem Jh {w0 w:World} {bb:Nat} {b:Bk} {gP:Nat} {uP:Array Value} {Ls Lo K:List (Nat×Obj)} {F:List cr} (a:Act) (B:Bw w0 w bb b gP uP Ls Lo K F) (hsl:b.sns.length<=1000000) {k:Nat} (hnm:bM a.name=true) (hcb:oO k b.co) (hk:k<=1000) (hnp:0<b.ps.length) (hp4:b.ps.length<=4) (hix:fh b.sns a.name=none):db aa kb [.pointer (Qd bb),a.v] w fun v w2=> ∃ b':Bk,oP (pd b.a a).2 v w2/\b'.a=(pd b.a a).1/\xy w0 w2 bb b' K F:=by
 refine aD m7 Z Z ?_
 obtain⟨ps,pA,pC,co,clo,chi,gr,glo,ghi,sns,snA,snC⟩:=b
 obtain⟨hpA,row,hsn,hown,hco,hgr,hps,H⟩:=B
 dsimp only at hpA row hsn hown hco hgr hps
 subst hpA
 replace H:Hp w0 w ((bb,.cells #[.slice (Qd gP) ps.length pC,J (co.clock),J (co.next),J (co.wait),.slice co.A co.txs.length co.cap,J (gr.clock),J (gr.wait),J (gr.gen),.slice gr.mA gr.ms.length gr.mC,.slice gr.oA gr.os.length gr.oC,.slice snA sns.length snC] bK (0,0))::(gP,.cells uP bE (0,0))::(Ls++(Lo++K))) F:=H
 dsimp only at hix hsl hcb hnp hp4
 show CW _ _ _ _ (args [.pointer (Qd bb),.agg #[J (a.kind),.string (a.name),J (a.part),J (a.n),J (a.m),.string (a.text),J (a.lost)]]) w
 refine W<|Zr<|fT H Z Z fun w1 b3 H=>eE H dm Z fun w2 b4 H=>U<|W ?_
 refine eC (τ:=Co×Nat×Nat×Nat) [5,6,7,8,10,11,12,13,14,15,16,17,18,19,20,21,22] (fun(_,b5,_,_)=>[(5,.pointer (Qd b5)),(6,J (bS co.a a.name).2.1),(7,J (bS co.a a.name).2.2.1),(8,J (bS co.a a.name).2.2.2)]) (fun(c3,b5,lo,hi) w'=>c3.a=(bS co.a a.name).1/\Hp w0 w' ((b5,.cells #[J (c3.clock),J (c3.next),J (c3.wait),.slice c3.A c3.txs.length c3.cap] bd (0,0))::(b4,.cells #[J (0),J (0),.slice none 0 0] ec (0,0))::(b3,.cells #[J (a.kind),.string (a.name),J (a.part),J (a.n),J (a.m),.string (a.text),J (a.lost)] fP (0,0))::(bb,.cells #[.slice (Qd gP) ps.length pC,J (co.clock),J (co.next),J (co.wait),.slice co.A co.txs.length co.cap,J (gr.clock),J (gr.wait),J (gr.gen),.slice gr.mA gr.ms.length gr.mC,.slice gr.oA gr.os.length gr.oC,.slice snA sns.length snC] bK (0,0))::(gP,.cells uP bE (0,0))::(Ls++(Lo++K))) (xx w0 lo hi c3::F)) ?_ ?_
 refine oB bX 13 7 [7,8,9,10,11,12,14,15,16,17] [13] [0,1,2,3,5] [13,14,15,16,17] [7] [0,1,2,3,5,8,9,10,11,12] (sp [(13,Sp.blk w2.heap.size (.agg #[J 0,J 0,J 0,.slice none 0 0]) bd)]) (sp [(7,Sp.deep w2.heap.size Mi (fun c:Co=>c.c.toArray) (fun cs=> .tuple #[.agg cs,J (bS co.a a.name).2.1,J (bS co.a a.name).2.2.1,J (bS co.a a.name).2.2.2]) (fun cq:Co=>cq.a=(bS co.a a.name).1))]) N N N N (cG _) (cG _) ?_ ?_
 refine jx [0,1,2,3,4,5,6,13] [7,8,9,10,11,12,14,15,16,17] [13] [0,1,2,3,5] 9 (sp [(13,Sp.blk w2.heap.size (.agg #[J 0,J 0,J 0,.slice none 0 0]) bd)]) N N N Nq<|aw Z Z Z Z Z (fun w' hw'=>Yp Z)<|aw Z Z Z Z Z (fun w' hw'=>aI Z)<|aw Z Z Z Z Z (fun w' hw'=>Zf aV Z)<|aw Z Z Z Z Z (fun w' hw'=>Zf eA Z)<|aw Z Z Z Z Z (fun w' hw'=>jS 1 [J (co.clock),J (co.next),J (co.wait),.slice co.A co.txs.length co.cap] av Z Z ((H.later hw').ent (i:=2) Z) Z)<|aw Z Z Z Z Z (fun w' hw'=>Zf fb Z)<|aw Z Z Z Z Z (fun w' hw'=>aU aZ Z (aB ((H.later hw').ent (i:=1) Z) Z))<|xr cK Z Z Z Z Z (fun w' hw'=>hw'.size) fun b5=>aS ?_
 intro w3 hw' hF
 obtain⟨hF,bq,eq,hge5,hbl5⟩:=hF;cases eq
 replace H:=H.adoptNew hw' hbl5 hge5
 clear hw' hF
 refine dd 7 N Z<|bY nW (wM co a.name k _ (Hp.coM H hco) hcb hk hnm) Z Z ?_
 rintro _ w4 ⟨c3,rfl,hac3,hnc3⟩;replace H:=H.learn hnc3.2 (xx w0 w3.heap.size w4.heap.size c3) ⟨H.size,hnc3.1⟩ (ao _) (ao _);clear hnc3
 refine U<|bx 8 N N N Z Z Z Z Nq (fun _=>Yu Z)<|bx 9 N N N Z Z Z Z Nq (fun _=>Xa Z Z)<|bx 10 N N N Z Z Z Z Nq (fun _=>Xi Z Z)<|bx 11 N N N Z Z Z Z Nq (fun _=>Xi Z Z)<|bx 12 N N N Z Z Z Z Nq (fun _=>Xi Z Z)<|dd 14 N Z<|bo H 0 (#[J (c3.clock),J (c3.next),J (c3.wait),.slice c3.A c3.txs.length c3.cap]) aF Z Z Z Z Z N N fun w5 H=>U<|bx 15 N N N Z Z Z Z Nq (fun _=>Wi Z)<|bx 16 N N N Z Z Z Z Nq (fun _=>Wi Z)<|bx 17 N N N Z Z Z Z Nq (fun _=>Wi Z)<|cB N ?_
 exact⟨(c3,b5,_,_),⟨hac3,H⟩,Ph Z Z Z Z,Qg⟩
 refine jx [0,1,2,3,4,5,6,7,8,9,10,11,12] [13,14,15,16,17] [7] [0,1,2,3,5,8,9,10,11,12] 4 (sp [(7,Sp.deep w2.heap.size Mi (fun c:Co=>c.c.toArray) (fun cs=> .tuple #[.agg cs,J (bS co.a a.name).2.1,J (bS co.a a.name).2.2.1,J (bS co.a a.name).2.2.2]) (fun cq:Co=>cq.a=(bS co.a a.name).1))]) N N N Nq<|aw Z Z Z Z Z (fun w' hw'=>Yp Z)<|aw Z Z Z Z Z (fun w' hw'=>aI Z)<|aw Z Z Z Z Z (fun w' hw'=>Zf aV Z)<|aw Z Z Z Z Z (fun w' hw'=>Zf eA Z)<|aw Z Z Z Z Z (fun w' hw'=>jS 1 [J (co.clock),J (co.next),J (co.wait),.slice co.A co.txs.length co.cap] av Z Z ((H.later hw').ent (i:=2) Z) Z)<|aw Z Z Z Z Z (fun w' hw'=>Zf fb Z)<|aw Z Z Z Z Z (fun w' hw'=>aU aZ Z (aB ((H.later hw').ent (i:=1) Z) Z))<|sW (gv:=(fun cs=> .tuple #[.agg cs,J (bS co.a a.name).2.1,J (bS co.a a.name).2.2.1,J (bS co.a a.name).2.2.2])) nW Z Z Z Z Z (fun w' hw'=>hw'.size) (fun w' hw'=>wM co a.name k w' (Hp.coM (H.later hw') hco) hcb hk hnm) Z fun cs18=>aw Z Z Z Z Z (fun w' hw'=>Yu Z)<|aw Z Z Z Z Z (fun w' hw'=>Xa Z Z)<|aw Z Z Z Z Z (fun w' hw'=>Xi Z Z)<|aw Z Z Z Z Z (fun w' hw'=>Xi Z Z)<|aw Z Z Z Z Z (fun w' hw'=>Xi Z Z)<|aS ?_
 intro w6 hw' hF
 obtain⟨hF,c3,eq,hac3,hrd18⟩:=hF;cases eq
 replace H:=H.learn hw' (xx w0 w2.heap.size w6.heap.size c3) ⟨H.size,hrd18⟩ (ao _) (ao _)
 clear hw' hF
 refine dd 13 N Z<|eE H cK Z fun w7 b5 H=>U<|dd 14 N Z<|bo H 0 (#[J (c3.clock),J (c3.next),J (c3.wait),.slice c3.A c3.txs.length c3.cap]) aF Z Z Z Z Z N N fun w8 H=>U<|bx 15 N N N Z Z Z Z Nq (fun _=>Wi Z)<|bx 16 N N N Z Z Z Z Nq (fun _=>Wi Z)<|bx 17 N N N Z Z Z Z Nq (fun _=>Wi Z)<|cB N ?_
 exact⟨(c3,b5,_,_),⟨hac3,H⟩,Ph Z Z Z Z,Qg⟩
 rintro⟨c3,b5,lo,hi⟩ ρ1 w9 ⟨hac3,H⟩
 show CW _ _ _ _ (dA (gC _ _ ρ1) [(5,.pointer (Qd b5)),(6,J (bS co.a a.name).2.1),(7,J (bS co.a a.name).2.2.1),(8,J (bS co.a a.name).2.2.2)]) w9
 refine W<|W<|Zr<|G (Yi Z) ?_
 refine qt (iO Z Z) Z Z Z (fun h24=> ?_) (fun h24=> ?_)
 refine U<|ZT Z<|W<|Zr<|G (Yi Z)<|bY bN (dP (bS co.a a.name).2.2.2 _) Z Z ?_
 rintro _ w10 ⟨rfl,hb⟩;replace H:=H.later hb;clear hb
 refine bo H 1 (#[J ((bS co.a a.name).2.2.2),J (0),.slice none 0 0]) aP Z Z Z Z Z N N fun w11 H=>U<|Zt ?_
 exact eO (cs0:= #[J ((bS co.a a.name).2.2.2),J (0),.slice none 0 0]) Z aN Z (H.ent (i:=1) Z) Z ⟨⟨ps,some ⟨gP,0,none⟩,pC,co,clo,chi,gr,glo,ghi,sns,snA,snC⟩,by rw[uG h24];exact oP.plain _ _ _,by rw[uG h24];rfl,Bw.shut (X:=[(b5,_),(b4,_),(b3,_)]) row hsn hown (ak _ hco) (ak _ hgr) (fun q hq=>ak _ (hps q hq)) (fun f hf=>ak _ hf) H Z⟩
 refine U<|ZF Z<|Zk<|W ?_
 have hok3:(bS co.a a.name).2.2.2=0:=by simpa using h24
 refine Zr<|G (Yp Z)<|G (Zw av H 0 Z Z Z)<|G (aI Z)<|G (Zf aV Z)<|G (Zf eA Z)<|bo H 3 (#[.slice (Qd gP) ps.length pC,J (c3.clock),J (c3.next),J (c3.wait),.slice c3.A c3.txs.length c3.cap,J (gr.clock),J (gr.wait),J (gr.gen),.slice gr.mA gr.ms.length gr.mC,.slice gr.oA gr.os.length gr.oC,.slice snA sns.length snC]) aF Z Z Z Z Z N N fun w12 H=>U<|W<|Zr<|G (Yp Z)<|G (Zf fb Z)<|G (Zd aZ H 2 Z Z Z)<|bY dy (jq bb ⟨ps,some ⟨gP,0,none⟩,pC,c3,lo,hi,gr,glo,ghi,sns,snA,snC⟩ a.name Ls _ (H.ent (i:=3) Z) hsn (fun q hq=>(H.ents q (by simp only[List.set_cons_succ,Bu,ax,ar];grind)).1) hsl) Z Z ?_
 rintro _ w13 ⟨rfl,hb⟩;replace H:=H.later hb;clear hb
 rw[hix]
 refine G (Wp Z)<|U<|W<|W<|Zr<|G (Yp Z)<|G (xJ iM Z)<|U<|ZT Z<|W<|Zr<|G (Yp Z)<|G (Yp Z)<|G (aI Z)<|G (Zf aV Z)<|G (Zf ki Z)<|G (Zd j7 H 3 Z Z Z)<|G (bi (cs:= #[.string (⟨#[]⟩),J (0),J (0),.bool (false),.slice none 0 0,.slice none 0 0]) xI wv N)<|tb (vs:=[.agg #[.string (⟨#[]⟩),J (0),J (0),.bool (false),.slice none 0 0,.slice none 0 0]]) H ss wv Z Z Z Z Z Z fun w14 b45 H=>vc (Y:=zH) HA (K:=[(b45,_),(b5,_),(b4,_),(b3,_),(bb,_),(gP,_)]) (L:=Ls) (M:=Lo++K) H hsn (es:=sns) (news:=[Pm]) Z Z Z (wn.row (m:=1) (sz:=zH.sz) (H.ent (i:=0) Z) Z) (by simp only[bP];omega) Z ?_
 intro A46 c46 w15 L46 h46 _ ho46 H
 obtain⟨sn2,hsn2⟩: ∃ l,sns++[Pm]=l:=⟨_,rfl⟩
 rw[hsn2]at ho46 h46⊢
 have hl2:sn2.length=sns.length+1:=by rw[<-hsn2];simp
 have hx2:sn2[sns.length]? =some Pm:=by rw[<-hsn2];simp
 have hlen2:((sn2.length:Nat):Int)-1=((sns.length:Nat):Int):=by omega
 obtain⟨gS,uS,rfl,rfl,rowS⟩:=ho46.row I
 replace H:Hp w0 w15 ((b45,.cells #[.string (⟨#[]⟩),J (0),J (0),.bool (false),.slice none 0 0,.slice none 0 0] fx (0,0))::(b5,.cells #[J (c3.clock),J (c3.next),J (c3.wait),.slice c3.A c3.txs.length c3.cap] bd (0,0))::(b4,.cells #[J (0),J (0),.slice none 0 0] ec (0,0))::(b3,.cells #[J (a.kind),.string (a.name),J (a.part),J (a.n),J (a.m),.string (a.text),J (a.lost)] fP (0,0))::(bb,.cells #[.slice (Qd gP) ps.length pC,J (c3.clock),J (c3.next),J (c3.wait),.slice c3.A c3.txs.length c3.cap,J (gr.clock),J (gr.wait),J (gr.gen),.slice gr.mA gr.ms.length gr.mC,.slice gr.oA gr.os.length gr.oC,.slice snA sns.length snC] bK (0,0))::(gP,.cells uP bE (0,0))::(gS,.cells uS fx (0,0))::(Lo++K)) (xx w0 lo hi c3::F):=H
 refine G (aI Z)<|G (Zf aV Z)<|G (Zf ki Z)<|bo H 4 (#[.slice (Qd gP) ps.length pC,J (c3.clock),J (c3.next),J (c3.wait),.slice c3.A c3.txs.length c3.cap,J (gr.clock),J (gr.wait),J (gr.gen),.slice gr.mA gr.ms.length gr.mC,.slice gr.oA gr.os.length gr.oC,.slice (Qd gS) sn2.length c46]) ER Z Z Z Z Z N N fun w16 H=>U ?_
 refine bz bX [0,1,2,3,4,5,6,7,8,9,10,11,12,13] [] [] [0,1,2,3,5,6,7,8,10,11,12,13] (sp []) N N N N Nq (cG _) ?_
 refine aw Z Z Z Z Z (fun w' hw'=>Yp Z)<|aw Z Z Z Z Z (fun w' hw'=>aI Z)<|aw Z Z Z Z Z (fun w' hw'=>Zf aV Z)<|aw Z Z Z Z Z (fun w' hw'=>Zf ki Z)<|aw Z Z Z Z Z (fun w' hw'=>aU j7 Z (aB ((H.later hw').ent (i:=4) Z) Z))<|aw Z Z Z Z Z (fun w' hw'=>Yp Z)<|aw Z Z Z Z Z (fun w' hw'=>aI Z)<|aw Z Z Z Z Z (fun w' hw'=>Zf aV Z)<|aw Z Z Z Z Z (fun w' hw'=>Zf ki Z)<|aw Z Z Z Z Z (fun w' hw'=>aU j7 Z (aB ((H.later hw').ent (i:=4) Z) Z))<|aw Z Z Z Z Z (fun w' hw'=>bn tN Z)<|aw Z Z Z Z Z (fun w' hw'=>m3 Z Z I I)<|aw Z Z Z Z Z (fun w' hw'=>cD (k:=sns.length) ss Z (congrArg (Value.int .i64) hlen2) (by first|omega|(simp only[ab];omega)))<|aw Z Z Z Z Z (fun w' hw'=>Wp Z)<|aS ?_
 intro w17 hw' hF
 replace H:=H.later hw';clear hw' hF
 refine U<|W ?_
 refine bz bX [0,1,2,3,4,5,6,7,8,9,10,12,13,14,15,16,17,11,18,19,20] [21] [11,18] [0,1,3,4,5,6,7,8,10,12,13,14,15,17,19,20] (sp [(11,Sp.orow w17.heap.size bR cY (au ps.length (0:Int))),(18,Sp.orow w17.heap.size gL du (au ps.length mV))]) N N N N Nq (cG _) ?_
 refine aw Z Z Z Z Z (fun w' hw'=>Yp Z)<|aw Z Z Z Z Z (fun w' hw'=>Zf fb Z)<|aw Z Z Z Z Z (fun w' hw'=>aU aZ Z (aB ((H.later hw').ent (i:=3) Z) Z))<|aw Z Z Z Z Z (fun w' hw'=>Yi Z)<|aw Z Z Z Z Z (fun w' hw'=>Yi Z)<|aw Z Z Z Z Z (fun w' hw'=>Yp Z)<|aw Z Z Z Z Z (fun w' hw'=>aI Z)<|aw Z Z Z Z Z (fun w' hw'=>Zf aV Z)<|aw Z Z Z Z Z (fun w' hw'=>Zf dJ Z)<|aw Z Z Z Z Z (fun w' hw'=>aU ei Z (aB ((H.later hw').ent (i:=4) Z) Z))<|aw Z Z Z Z Z (fun w' hw'=>bn lS Z)<|aw Z Z Z Z Z (fun w' hw'=>Yp Z)<|aw Z Z Z Z Z (fun w' hw'=>aI Z)<|aw Z Z Z Z Z (fun w' hw'=>Zf aV Z)<|aw Z Z Z Z Z (fun w' hw'=>Zf dJ Z)<|aw Z Z Z Z Z (fun w' hw'=>aU ei Z (aB ((H.later hw').ent (i:=4) Z) Z))<|aw Z Z Z Z Z (fun w' hw'=>bn lS Z)<|Ig (Y:=bR) ((0:Int)) ps.length ba HU Z Z Z Z Z Z (fun w' hw'=>hw'.size) Z Z I I fun A74 c74 hc74=>Ig (Y:=gL) (mV) ps.length dS CG Z Z Z Z Z Z (fun w' hw'=>hw'.size) Z Z I I fun A81 c81 hc81=>aw Z Z Z Z Z (fun w' hw'=>bi (cs:= #[.string (a.name),J ((bS co.a a.name).2.1),J ((bS co.a a.name).2.2.1),.bool (false),.slice A74 (((au ps.length (0:Int))).length) c74,.slice A81 ((au ps.length mV).length) c81]) xI wv N)<|aw Z Z Z Z Z (fun w' hw'=>aI Z)<|aS ?_
 intro w18 hw' hF
 obtain⟨hF,Aq,cq,L81,eq,hcq,hm81,ho81,he81,hn81⟩:=hF;cases eq;clear hcq
 obtain⟨hF,Aq,cq,L74,eq,hcq,hm74,ho74,he74,hn74⟩:=hF;cases eq;clear hcq
 obtain⟨nq,curq,rfl,rfl,rowq9⟩:=ho74.row (by simp only[bH];exact hnp)
 obtain⟨nl,curl,rfl,rfl,rowl9⟩:=ho81.row (by simp only[bH];exact hnp)
 have e74:=he74 _ (dX _)
 have e81:=he81 _ (dX _)
 replace H:=H.adopt2 hw' e74 e81 (rY e74.1 e81.1 Z)
 clear hw' hF
 refine kR H 8 (⟨a.name,(bS co.a a.name).2.1,(bS co.a a.name).2.2.1,false,au ps.length 0,some ⟨nq,0,none⟩,c74,au ps.length mV,some ⟨nl,0,none⟩,c81⟩) zK rowS hx2 0 Z Z Z Z Z Z N fun w20 cur19 row19 H=> ?_
 have hs21:(sn2.set sns.length (⟨a.name,(bS co.a a.name).2.1,(bS co.a a.name).2.2.1,false,au ps.length 0,some ⟨nq,0,none⟩,c74,au ps.length mV,some ⟨nl,0,none⟩,c81⟩))[sns.length]? =some (⟨a.name,(bS co.a a.name).2.1,(bS co.a a.name).2.2.1,false,au ps.length 0,some ⟨nq,0,none⟩,c74,au ps.length mV,some ⟨nl,0,none⟩,c81⟩):=am (cF hx2).1
 refine U<|W<|Zr<|G (Yi Z)<|G (bi (cs:= #[J (0),J ((bS co.a a.name).2.2.1),.slice none 0 0]) iE dm N)<|bo H 4 (#[J (0),J ((bS co.a a.name).2.2.1),.slice none 0 0]) aP Z Z Z Z Z N N fun w22 H=>U<|Zt ?_
 have hn7:=hown.snoc (s:=(⟨a.name,(bS co.a a.name).2.1,(bS co.a a.name).2.2.1,false,au ps.length 0,some ⟨nq,0,none⟩,c74,au ps.length mV,some ⟨nl,0,none⟩,c81⟩:Sn)) Z Z rowq9 rowl9
 have hs7:sn2.set sns.length (⟨a.name,(bS co.a a.name).2.1,(bS co.a a.name).2.2.1,false,au ps.length 0,some ⟨nq,0,none⟩,c74,au ps.length mV,some ⟨nl,0,none⟩,c81⟩:Sn)=sns++[⟨a.name,(bS co.a a.name).2.1,(bS co.a a.name).2.2.1,false,au ps.length 0,some ⟨nq,0,none⟩,c74,au ps.length mV,some ⟨nl,0,none⟩,c81⟩]:=by rw[<-hsn2,i8 _ _ (ao _),mj];rfl
 have row7:=row19
 rw[hs7]at row7
 refine eO (cs0:= #[J (0),J ((bS co.a a.name).2.2.1),.slice none 0 0]) Z aN Z (H.ent (i:=4) Z) Z ⟨⟨ps,some ⟨gP,0,none⟩,pC,c3,lo,hi,gr,glo,ghi,sns++[⟨a.name,(bS co.a a.name).2.1,(bS co.a a.name).2.2.1,false,au ps.length 0,some ⟨nq,0,none⟩,c74,au ps.length mV,some ⟨nl,0,none⟩,c81⟩],some ⟨gS,0,none⟩,c46⟩,by rw[CM hix hok3];exact oP.plain _ _ _,by rw[CM hix hok3,<-hac3];unfold Bk.a;rw[bk];rfl,⟨gP,uP,_,_,_,⟨rfl,row,dU.own row7,hn7,(az ..),(ak _ hgr),(fun q hq=>ak _ (hps q hq)),?_⟩,(fun f hf=>ak _ hf)⟩⟩
 have H7:=H.forget (L':=(nq,_)::(nl,_)::(bb,_)::(gP,_)::(gS,_)::(Lo++K)) (.cons_cons _ (.cons_cons _ (cm [(b45,_),(b5,_),(b4,_),(b3,_)] _))) (fun _ h=>h)
 have hl7:sn2.length=(sns++[(⟨a.name,(bS co.a a.name).2.1,(bS co.a a.name).2.2.1,false,au ps.length 0,some ⟨nq,0,none⟩,c74,au ps.length mV,some ⟨nl,0,none⟩,c81⟩:Sn)]).length:=by rw[hl2,ay];rfl
 rw[hl7]at H7
 exact H7.perm (Na [(bb,_),(gP,_),(gS,_)] [(nq,_),(nl,_)] Lo K)
theorem Jg {w0 w:World} {bb:Nat} {b:Bk} {gP:Nat} {uP:Array Value} {Ls Lo K:List (Nat×Obj)} {F:List cr} (a:Act) (B:Bw w0 w bb b gP uP Ls Lo K F) (hsl:b.sns.length<=1000000) {k:Nat} (hnm:bM a.name=true) (hcb:oO k b.co) (hk:k<=1000) (hnp:0<b.ps.length) (hp4:b.ps.length<=4) {i:Nat} {x:Sn} (hix:fh b.sns a.name=some i) (hx:b.sns[i]? =some x):db aa kb [.pointer (Qd bb),a.v] w fun v w2=> ∃ b':Bk,oP (pd b.a a).2 v w2/\b'.a=(pd b.a a).1/\xy w0 w2 bb b' K F:=by
 refine aD m7 Z Z ?_
 obtain⟨ps,pA,pC,co,clo,chi,gr,glo,ghi,sns,snA,snC⟩:=b
 obtain⟨hpA,row,hsn,hown,hco,hgr,hps,H⟩:=B
 dsimp only at hpA row hsn hown hco hgr hps
 subst hpA
 dsimp only at hix hx
 obtain⟨gS,uS,hgS,hLs,rowS⟩:=hsn.row (by have:=(cF hx).1;omega)
 subst hgS;subst hLs
 obtain⟨gq,uq,gl,ul,La,Lb,hsA,hlA,rowq,rowl,hLo,hset⟩:=hown.at_ hx
 subst hLo
 replace H:Hp w0 w ((bb,.cells #[.slice (Qd gP) ps.length pC,J (co.clock),J (co.next),J (co.wait),.slice co.A co.txs.length co.cap,J (gr.clock),J (gr.wait),J (gr.gen),.slice gr.mA gr.ms.length gr.mC,.slice gr.oA gr.os.length gr.oC,.slice (Qd gS) sns.length snC] bK (0,0))::(gP,.cells uP bE (0,0))::(gS,.cells uS fx (0,0))::(gq,.cells uq cY (0,0))::(gl,.cells ul du (0,0))::(La++(Lb++K))) F:=H.perm (CO [(bb,_),(gP,_),(gS,_)] _ _ La Lb K)
 dsimp only at hsl hcb hnp hp4
 show CW _ _ _ _ (args [.pointer (Qd bb),.agg #[J (a.kind),.string (a.name),J (a.part),J (a.n),J (a.m),.string (a.text),J (a.lost)]]) w
 refine W<|Zr<|fT H Z Z fun w1 b3 H=>eE H dm Z fun w2 b4 H=>U<|W ?_
 refine eC (τ:=Co×Nat×Nat×Nat) [5,6,7,8,10,11,12,13,14,15,16,17,18,19,20,21,22] (fun(_,b5,_,_)=>[(5,.pointer (Qd b5)),(6,J (bS co.a a.name).2.1),(7,J (bS co.a a.name).2.2.1),(8,J (bS co.a a.name).2.2.2)]) (fun(c3,b5,lo,hi) w'=>c3.a=(bS co.a a.name).1/\Hp w0 w' ((b5,.cells #[J (c3.clock),J (c3.next),J (c3.wait),.slice c3.A c3.txs.length c3.cap] bd (0,0))::(b4,.cells #[J (0),J (0),.slice none 0 0] ec (0,0))::(b3,.cells #[J (a.kind),.string (a.name),J (a.part),J (a.n),J (a.m),.string (a.text),J (a.lost)] fP (0,0))::(bb,.cells #[.slice (Qd gP) ps.length pC,J (co.clock),J (co.next),J (co.wait),.slice co.A co.txs.length co.cap,J (gr.clock),J (gr.wait),J (gr.gen),.slice gr.mA gr.ms.length gr.mC,.slice gr.oA gr.os.length gr.oC,.slice (Qd gS) sns.length snC] bK (0,0))::(gP,.cells uP bE (0,0))::(gS,.cells uS fx (0,0))::(gq,.cells uq cY (0,0))::(gl,.cells ul du (0,0))::La++(Lb++K)) (xx w0 lo hi c3::F)) ?_ ?_
 refine oB bX 13 7 [7,8,9,10,11,12,14,15,16,17] [13] [0,1,2,3,5] [13,14,15,16,17] [7] [0,1,2,3,5,8,9,10,11,12] (sp [(13,Sp.blk w2.heap.size (.agg #[J 0,J 0,J 0,.slice none 0 0]) bd)]) (sp [(7,Sp.deep w2.heap.size Mi (fun c:Co=>c.c.toArray) (fun cs=> .tuple #[.agg cs,J (bS co.a a.name).2.1,J (bS co.a a.name).2.2.1,J (bS co.a a.name).2.2.2]) (fun cq:Co=>cq.a=(bS co.a a.name).1))]) N N N N (cG _) (cG _) ?_ ?_
 refine jx [0,1,2,3,4,5,6,13] [7,8,9,10,11,12,14,15,16,17] [13] [0,1,2,3,5] 9 (sp [(13,Sp.blk w2.heap.size (.agg #[J 0,J 0,J 0,.slice none 0 0]) bd)]) N N N Nq<|aw Z Z Z Z Z (fun w' hw'=>Yp Z)<|aw Z Z Z Z Z (fun w' hw'=>aI Z)<|aw Z Z Z Z Z (fun w' hw'=>Zf aV Z)<|aw Z Z Z Z Z (fun w' hw'=>Zf eA Z)<|aw Z Z Z Z Z (fun w' hw'=>jS 1 [J (co.clock),J (co.next),J (co.wait),.slice co.A co.txs.length co.cap] av Z Z ((H.later hw').ent (i:=2) Z) Z)<|aw Z Z Z Z Z (fun w' hw'=>Zf fb Z)<|aw Z Z Z Z Z (fun w' hw'=>aU aZ Z (aB ((H.later hw').ent (i:=1) Z) Z))<|xr cK Z Z Z Z Z (fun w' hw'=>hw'.size) fun b5=>aS ?_
 intro w3 hw' hF
 obtain⟨hF,bq,eq,hge5,hbl5⟩:=hF;cases eq
 replace H:=H.adoptNew hw' hbl5 hge5
 clear hw' hF
 refine dd 7 N Z<|bY nW (wM co a.name k _ (Hp.coM H hco) hcb hk hnm) Z Z ?_
 rintro _ w4 ⟨c3,rfl,hac3,hnc3⟩;replace H:=H.learn hnc3.2 (xx w0 w3.heap.size w4.heap.size c3) ⟨H.size,hnc3.1⟩ (ao _) (ao _);clear hnc3
 refine U<|bx 8 N N N Z Z Z Z Nq (fun _=>Yu Z)<|bx 9 N N N Z Z Z Z Nq (fun _=>Xa Z Z)<|bx 10 N N N Z Z Z Z Nq (fun _=>Xi Z Z)<|bx 11 N N N Z Z Z Z Nq (fun _=>Xi Z Z)<|bx 12 N N N Z Z Z Z Nq (fun _=>Xi Z Z)<|dd 14 N Z<|bo H 0 (#[J (c3.clock),J (c3.next),J (c3.wait),.slice c3.A c3.txs.length c3.cap]) aF Z Z Z Z Z N N fun w5 H=>U<|bx 15 N N N Z Z Z Z Nq (fun _=>Wi Z)<|bx 16 N N N Z Z Z Z Nq (fun _=>Wi Z)<|bx 17 N N N Z Z Z Z Nq (fun _=>Wi Z)<|cB N ?_
 exact⟨(c3,b5,_,_),⟨hac3,H⟩,Ph Z Z Z Z,Qg⟩
 refine jx [0,1,2,3,4,5,6,7,8,9,10,11,12] [13,14,15,16,17] [7] [0,1,2,3,5,8,9,10,11,12] 4 (sp [(7,Sp.deep w2.heap.size Mi (fun c:Co=>c.c.toArray) (fun cs=> .tuple #[.agg cs,J (bS co.a a.name).2.1,J (bS co.a a.name).2.2.1,J (bS co.a a.name).2.2.2]) (fun cq:Co=>cq.a=(bS co.a a.name).1))]) N N N Nq<|aw Z Z Z Z Z (fun w' hw'=>Yp Z)<|aw Z Z Z Z Z (fun w' hw'=>aI Z)<|aw Z Z Z Z Z (fun w' hw'=>Zf aV Z)<|aw Z Z Z Z Z (fun w' hw'=>Zf eA Z)<|aw Z Z Z Z Z (fun w' hw'=>jS 1 [J (co.clock),J (co.next),J (co.wait),.slice co.A co.txs.length co.cap] av Z Z ((H.later hw').ent (i:=2) Z) Z)<|aw Z Z Z Z Z (fun w' hw'=>Zf fb Z)<|aw Z Z Z Z Z (fun w' hw'=>aU aZ Z (aB ((H.later hw').ent (i:=1) Z) Z))<|sW (gv:=(fun cs=> .tuple #[.agg cs,J (bS co.a a.name).2.1,J (bS co.a a.name).2.2.1,J (bS co.a a.name).2.2.2])) nW Z Z Z Z Z (fun w' hw'=>hw'.size) (fun w' hw'=>wM co a.name k w' (Hp.coM (H.later hw') hco) hcb hk hnm) Z fun cs18=>aw Z Z Z Z Z (fun w' hw'=>Yu Z)<|aw Z Z Z Z Z (fun w' hw'=>Xa Z Z)<|aw Z Z Z Z Z (fun w' hw'=>Xi Z Z)<|aw Z Z Z Z Z (fun w' hw'=>Xi Z Z)<|aw Z Z Z Z Z (fun w' hw'=>Xi Z Z)<|aS ?_
 intro w6 hw' hF
 obtain⟨hF,c3,eq,hac3,hrd18⟩:=hF;cases eq
 replace H:=H.learn hw' (xx w0 w2.heap.size w6.heap.size c3) ⟨H.size,hrd18⟩ (ao _) (ao _)
 clear hw' hF
 refine dd 13 N Z<|eE H cK Z fun w7 b5 H=>U<|dd 14 N Z<|bo H 0 (#[J (c3.clock),J (c3.next),J (c3.wait),.slice c3.A c3.txs.length c3.cap]) aF Z Z Z Z Z N N fun w8 H=>U<|bx 15 N N N Z Z Z Z Nq (fun _=>Wi Z)<|bx 16 N N N Z Z Z Z Nq (fun _=>Wi Z)<|bx 17 N N N Z Z Z Z Nq (fun _=>Wi Z)<|cB N ?_
 exact⟨(c3,b5,_,_),⟨hac3,H⟩,Ph Z Z Z Z,Qg⟩
 rintro⟨c3,b5,lo,hi⟩ ρ1 w9 ⟨hac3,H⟩
 show CW _ _ _ _ (dA (gC _ _ ρ1) [(5,.pointer (Qd b5)),(6,J (bS co.a a.name).2.1),(7,J (bS co.a a.name).2.2.1),(8,J (bS co.a a.name).2.2.2)]) w9
 refine W<|W<|Zr<|G (Yi Z) ?_
 refine qt (iO Z Z) Z Z Z (fun h24=> ?_) (fun h24=> ?_)
 refine U<|ZT Z<|W<|Zr<|G (Yi Z)<|bY bN (dP (bS co.a a.name).2.2.2 _) Z Z ?_
 rintro _ w10 ⟨rfl,hb⟩;replace H:=H.later hb;clear hb
 refine bo H 1 (#[J ((bS co.a a.name).2.2.2),J (0),.slice none 0 0]) aP Z Z Z Z Z N N fun w11 H=>U<|Zt ?_
 exact eO (cs0:= #[J ((bS co.a a.name).2.2.2),J (0),.slice none 0 0]) Z aN Z (H.ent (i:=1) Z) Z ⟨⟨ps,some ⟨gP,0,none⟩,pC,co,clo,chi,gr,glo,ghi,sns.set i x,some ⟨gS,0,none⟩,snC⟩,by rw[uG h24];exact oP.plain _ _ _,by rw[uG h24,eY hx];rfl,Bw.close (X:=[(b5,_),(b4,_),(b3,_)]) row (by rw[eY hx];exact rowS) hset hsA hlA rowq rowl (ak _ hco) (ak _ hgr) (fun q hq=>ak _ (hps q hq)) (fun f hf=>ak _ hf) H (by rw[eY hx];rfl)⟩
 refine U<|ZF Z<|Zk<|W ?_
 have hok3:(bS co.a a.name).2.2.2=0:=by simpa using h24
 refine Zr<|G (Yp Z)<|G (Zw av H 0 Z Z Z)<|G (aI Z)<|G (Zf aV Z)<|G (Zf eA Z)<|bo H 3 (#[.slice (Qd gP) ps.length pC,J (c3.clock),J (c3.next),J (c3.wait),.slice c3.A c3.txs.length c3.cap,J (gr.clock),J (gr.wait),J (gr.gen),.slice gr.mA gr.ms.length gr.mC,.slice gr.oA gr.os.length gr.oC,.slice (Qd gS) sns.length snC]) aF Z Z Z Z Z N N fun w12 H=>U<|W<|Zr<|G (Yp Z)<|G (Zf fb Z)<|G (Zd aZ H 2 Z Z Z)<|bY dy (jq bb ⟨ps,some ⟨gP,0,none⟩,pC,c3,lo,hi,gr,glo,ghi,sns,some ⟨gS,0,none⟩,snC⟩ a.name _ _ (H.ent (i:=3) Z) (dU.own rowS) (fun q hq=>by rw[aq.1 hq];exact(H.ent (i:=5) Z)) hsl) Z Z ?_
 rintro _ w13 ⟨rfl,hb⟩;replace H:=H.later hb;clear hb
 rw[hix]
 refine G (Wp Z)<|U<|W<|W<|Zr<|G (Yp Z)<|G (vQ iM Z)<|U<|ZF Z<|Zk<|W ?_
 refine bz bX [0,1,2,3,4,5,6,7,8,9,10,12,13,14,15,16,17,11,18,19,20] [21] [11,18] [0,1,3,4,5,6,7,8,10,12,13,14,15,17,19,20] (sp [(11,Sp.orow w13.heap.size bR cY (au ps.length (0:Int))),(18,Sp.orow w13.heap.size gL du (au ps.length mV))]) N N N N Nq (cG _) ?_
 refine aw Z Z Z Z Z (fun w' hw'=>Yp Z)<|aw Z Z Z Z Z (fun w' hw'=>Zf fb Z)<|aw Z Z Z Z Z (fun w' hw'=>aU aZ Z (aB ((H.later hw').ent (i:=2) Z) Z))<|aw Z Z Z Z Z (fun w' hw'=>Yi Z)<|aw Z Z Z Z Z (fun w' hw'=>Yi Z)<|aw Z Z Z Z Z (fun w' hw'=>Yp Z)<|aw Z Z Z Z Z (fun w' hw'=>aI Z)<|aw Z Z Z Z Z (fun w' hw'=>Zf aV Z)<|aw Z Z Z Z Z (fun w' hw'=>Zf dJ Z)<|aw Z Z Z Z Z (fun w' hw'=>aU ei Z (aB ((H.later hw').ent (i:=3) Z) Z))<|aw Z Z Z Z Z (fun w' hw'=>bn lS Z)<|aw Z Z Z Z Z (fun w' hw'=>Yp Z)<|aw Z Z Z Z Z (fun w' hw'=>aI Z)<|aw Z Z Z Z Z (fun w' hw'=>Zf aV Z)<|aw Z Z Z Z Z (fun w' hw'=>Zf dJ Z)<|aw Z Z Z Z Z (fun w' hw'=>aU ei Z (aB ((H.later hw').ent (i:=3) Z) Z))<|aw Z Z Z Z Z (fun w' hw'=>bn lS Z)<|Ig (Y:=bR) ((0:Int)) ps.length ba HU Z Z Z Z Z Z (fun w' hw'=>hw'.size) Z Z I I fun A74 c74 hc74=>Ig (Y:=gL) (mV) ps.length dS CG Z Z Z Z Z Z (fun w' hw'=>hw'.size) Z Z I I fun A81 c81 hc81=>aw Z Z Z Z Z (fun w' hw'=>bi (cs:= #[.string (a.name),J ((bS co.a a.name).2.1),J ((bS co.a a.name).2.2.1),.bool (false),.slice A74 (((au ps.length (0:Int))).length) c74,.slice A81 ((au ps.length mV).length) c81]) xI wv N)<|aw Z Z Z Z Z (fun w' hw'=>aI Z)<|aS ?_
 intro w14 hw' hF
 obtain⟨hF,Aq,cq,L81,eq,hcq,hm81,ho81,he81,hn81⟩:=hF;cases eq;clear hcq
 obtain⟨hF,Aq,cq,L74,eq,hcq,hm74,ho74,he74,hn74⟩:=hF;cases eq;clear hcq
 obtain⟨nq,curq,rfl,rfl,rowq9⟩:=ho74.row (by simp only[bH];exact hnp)
 obtain⟨nl,curl,rfl,rfl,rowl9⟩:=ho81.row (by simp only[bH];exact hnp)
 have e74:=he74 _ (dX _)
 have e81:=he81 _ (dX _)
 replace H:=H.adopt2 hw' e74 e81 (rY e74.1 e81.1 Z)
 clear hw' hF
 refine kR H 7 (⟨a.name,(bS co.a a.name).2.1,(bS co.a a.name).2.2.1,false,au ps.length 0,some ⟨nq,0,none⟩,c74,au ps.length mV,some ⟨nl,0,none⟩,c81⟩) zK rowS hx 0 Z Z Z Z Z Z N fun w16 cur15 row15 H=> ?_
 have hs17:(sns.set i (⟨a.name,(bS co.a a.name).2.1,(bS co.a a.name).2.2.1,false,au ps.length 0,some ⟨nq,0,none⟩,c74,au ps.length mV,some ⟨nl,0,none⟩,c81⟩))[i]? =some (⟨a.name,(bS co.a a.name).2.1,(bS co.a a.name).2.2.1,false,au ps.length 0,some ⟨nq,0,none⟩,c74,au ps.length mV,some ⟨nl,0,none⟩,c81⟩):=am (cF hx).1
 refine U<|W<|Zr<|G (Yi Z)<|G (bi (cs:= #[J (0),J ((bS co.a a.name).2.2.1),.slice none 0 0]) iE dm N)<|bo H 3 (#[J (0),J ((bS co.a a.name).2.2.1),.slice none 0 0]) aP Z Z Z Z Z N N fun w18 H=>U<|Zt ?_
 have H7:=H.forget (L':=(nq,_)::(nl,_)::(bb,_)::(gP,_)::(gS,_)::(La++(Lb++K))) (.cons_cons _ (.cons_cons _ ((ap _).trans (.trans (.cons_cons _ (.cons_cons _ (.cons_cons _ (.cons _ (.cons _ (ap _)))))) (cm [(b5,_),(b4,_),(b3,_)] _))))) (fun _ h=>h)
 have hm7:(sns.set i (⟨a.name,(bS co.a a.name).2.1,(bS co.a a.name).2.2.1,false,au ps.length 0,some ⟨nq,0,none⟩,c74,au ps.length mV,some ⟨nl,0,none⟩,c81⟩:Sn)).map Sn.a=(sns.map Sn.a).set i (vm a.name (bS co.a a.name).2.1 (bS co.a a.name).2.2.1 ps.length):=by rw[cz];rfl
 replace H7:=H7.perm (fU [(bb,_),(gP,_),(gS,_)] [(nq,_),(nl,_)] _)
 exact eO (cs0:= #[J (0),J ((bS co.a a.name).2.2.1),.slice none 0 0]) Z aN Z (H.ent (i:=3) Z) Z ⟨⟨ps,some ⟨gP,0,none⟩,pC,c3,lo,hi,gr,glo,ghi,sns.set i ⟨a.name,(bS co.a a.name).2.1,(bS co.a a.name).2.2.1,false,au ps.length 0,some ⟨nq,0,none⟩,c74,au ps.length mV,some ⟨nl,0,none⟩,c81⟩,some ⟨gS,0,none⟩,snC⟩,by rw[CL hix hok3];exact oP.plain _ _ _,by rw[CL hix hok3,<-hac3];show Wa.mk _ _ _ ((sns.set i ⟨a.name,(bS co.a a.name).2.1,(bS co.a a.name).2.2.1,false,au ps.length 0,some ⟨nq,0,none⟩,c74,au ps.length mV,some ⟨nl,0,none⟩,c81⟩).map Sn.a)=Wa.mk _ _ _ _;rw[hm7];rfl,Bw.close (X:=[]) row row15 hset Z Z rowq9 rowl9 (az ..) (ak _ hgr) (fun q hq=>ak _ (hps q hq)) (fun f hf=>ak _ hf) H7 (by simp only[Bk.c,ab])⟩
theorem Lj {c:Co} (h:gD c=true) {t:Tx} (ht:t∈c.txs): ∃ i,fZ c t.name=some (i,t):=by
 obtain⟨-,-,h3⟩:=gG.1 h
 obtain⟨i,hi⟩:=aX.1 ht
 obtain⟨hl,he⟩:=cF hi
 have:(c.txs.findIdx? fun p=>decide (p.name=t.name))=some i:=by
  rw[bg]
  refine⟨hl,by rw[he];simp,fun j hj=> ?_⟩
  unfold vJ at h3
  rw[jn,mR]at h3
  have:=(h3 j i I hl hj).1
  rw[he]at this
  simpa using this
 exact⟨i,by unfold fZ;rw[this];simp[hi]⟩
theorem CF {c:Co} (h:gD c=true) {n:Nat} {t:Tx} (ht:gX c.txs n=some t):(∃ i,fZ c t.name=some (i,t))/\(t.state=3∨t.state=4)/\t.parts.headD 0∈t.parts/\0<=t.parts.headD 0/\t.parts.headD 0<4:=by
 unfold gX at ht
 obtain⟨hm,he⟩:=kQ.1 (ae ht)
 have hs:t.state=3∨t.state=4:=by unfold gM at he;simpa using he
 have hx:=cC.1 ((gG.1 h).2.1 t hm)
 have hp:t.parts.headD 0∈t.parts:=by
  cases hp:t.parts with
  |nil=>have:=hx.2.2.2.2.2.2.2.2.2.2.2 (by rw[hp];rfl);omega
  |cons a l=>simp
 exact⟨Lj h hm,hs,hp,by have:=(fG hx.2.2.2.2.2.2.2.2.2.1).2 _ hp;omega⟩
theorem Hm {c:Co} {s:ByteArray} {p:Int} {i:Nat} {t:Tx} (hf:fZ c s=some (i,t)) (h34:t.state=3∨t.state=4) (hp:p∈t.parts):(qN c s p).2=0:=by
 unfold qN
 rw[hf]
 dsimp only
 rw[if_pos h34,if_pos hp]
theorem GW {w:Wa} {a:Act} (h:gX w.co.txs a.n.toNat=none):oc w a=l9 w 15:=by
 unfold oc
 rw[h]
theorem KV {w:Wa} {a:Act} {t:Tx} {n:Nat} {p:gz} (h:gX w.co.txs a.n.toNat=some t) (hn:t.parts.headD 0=(n:Nat)) (hp:w.ps[n]? =some p):oc w a=if(eD p (da t)).2.2=0 then({w with ps:=w.ps.set n (eD p (da t)).1,co:=(qN w.co t.name (t.parts.headD 0)).1},⟨0,(eD p (da t)).2.1,[]⟩)else l9 w (eD p (da t)).2.2:=by
 unfold oc
 rw[h]
 dsimp only
 rw[show(t.parts.headD 0).toNat=n by omega,HO hp]
 split
 rename_i h0
 rw[if_pos (by rfl)]
 rename_i h0
 rw[if_neg (show¬ (l9 w (eD p (da t)).2.2).2.code=0 from h0)]
theorem I9 {w:Wa} {a:Act} {t:Tx} {n:Nat} (h:gX w.co.txs a.n.toNat=some t) (hn:t.parts.headD 0=(n:Nat)) (hp:w.ps[n]? =none):oc w a=l9 w 5:=by
 unfold oc uR
 rw[h]
 dsimp only
 rw[show(t.parts.headD 0).toNat=n by omega,hp]
 dsimp only
 rw[if_neg (by show¬ (5:Int)=0;decide)]
theorem I8 {w0 w:World} {bb:Nat} {b:Bk} {gP:Nat} {uP:Array Value} {Ls Lo K:List (Nat×Obj)} {F:List cr} (a:Act) (B:Bw w0 w bb b gP uP Ls Lo K F) {k:Nat} (hcb:oO k b.co) (hn:0<=a.n/\a.n<=1000) (hne:gX b.co.a.txs a.n.toNat=none):db aa ka [.pointer (Qd bb),a.v] w fun v w2=> ∃ b':Bk,oP (oc b.a a).2 v w2/\b'.a=(oc b.a a).1/\xy w0 w2 bb b' K F:=by
 refine aD m6 Z Z ?_
 have hsp:=GW (w:=b.a) hne
 obtain⟨ps,pA,pC,co,clo,chi,gr,glo,ghi,sns,snA,snC⟩:=b
 obtain⟨hpA,row,hsn,hown,hco,hgr,hps,H⟩:=B
 dsimp only at hpA row hsn hown hco hgr hps
 subst hpA
 replace H:Hp w0 w ((bb,.cells #[.slice (Qd gP) ps.length pC,J (co.clock),J (co.next),J (co.wait),.slice co.A co.txs.length co.cap,J (gr.clock),J (gr.wait),J (gr.gen),.slice gr.mA gr.ms.length gr.mC,.slice gr.oA gr.os.length gr.oC,.slice snA sns.length snC] bK (0,0))::(gP,.cells uP bE (0,0))::(Ls++(Lo++K))) F:=H
 dsimp only at hcb hne
 obtain⟨m,hnm⟩: ∃ m:Nat,a.n=(m:Int):=⟨a.n.toNat,by omega⟩
 have htm:a.n.toNat=m:=by omega
 rw[htm]at hne
 show CW _ _ _ _ (args [.pointer (Qd bb),.agg #[J (a.kind),.string (a.name),J (a.part),J (a.n),J (a.m),.string (a.text),J (a.lost)]]) w
 refine W<|Zr<|fT H Z Z fun w1 b3 H=>eE H dm Z fun w2 b4 H=>U<|W ?_
 refine bz bX [0,1,2,3,4,5,6,7,8,9,10,11,12,13,14,15] [16,17] [7,13] [0,1,2,3,5,8,9,10,11,12,14,15] (sp [(7,Sp.one (yz none)),(13,Sp.blk w2.heap.size (.agg #[J 0,J 0,J 0,J 0,J 0,.bool false,.string ⟨#[]⟩]) du)]) N N N N Nq (cG _) ?_
 refine aw Z Z Z Z Z (fun w' hw'=>Yp Z)<|aw Z Z Z Z Z (fun w' hw'=>aI Z)<|aw Z Z Z Z Z (fun w' hw'=>Zf aV Z)<|aw Z Z Z Z Z (fun w' hw'=>Zf eA Z)<|aw Z Z Z Z Z (fun w' hw'=>jS 1 [J (co.clock),J (co.next),J (co.wait),.slice co.A co.txs.length co.cap] av Z Z ((H.later hw').ent (i:=2) Z) Z)<|aw Z Z Z Z Z (fun w' hw'=>Zf eP Z)<|aw Z Z Z Z Z (fun w' hw'=>aU aj Z (aB ((H.later hw').ent (i:=1) Z) Z))<|gN vC Z Z Z Z Z (fun w' hw'=>(by have hA:=Fg co m w' (Hp.coM (H.later hw') hco) hcb.ok I;rw[show gX co.a.txs m=_ from hne,<-hnm]at hA;exact hA)) Z<|aw Z Z Z Z Z (fun w' hw'=>Yu Z)<|aw Z Z Z Z Z (fun w' hw'=>NK Z Z)<|aw Z Z Z Z Z (fun w' hw'=>Xi Z Z)<|aw Z Z Z Z Z (fun w' hw'=>Xa Z Z)<|aw Z Z Z Z Z (fun w' hw'=>Xi Z Z)<|xr gd Z Z Z Z Z (fun w' hw'=>hw'.size) fun b7=>aw Z Z Z Z Z (fun w' hw'=>Wt Z)<|aw Z Z Z Z Z (fun w' hw'=>Wi Z)<|aS ?_
 intro w3 hw' hF
 obtain⟨hF,bq,eq,hge7,hbl7⟩:=hF;cases eq
 obtain⟨hF,-⟩:=hF
 have Hb:=H
 replace H:=H.adoptNew hw' hbl7 hge7
 clear hw' hF
 refine bo H 0 (#[J (0),J (0),J (0),J (0),J (0),.bool (false),.string (⟨#[]⟩)]) eS Z Z Z Z Z N N fun w4 H=>G (Wi Z)<|U<|W<|W<|Zr<|G (Yi Z)<|G (j8 Z Z (by decide))<|U<|ZT Z<|W<|Zr<|G (Yi Z)<|bY bN (dP 15 _) Z Z ?_
 rintro _ w5 ⟨rfl,hb⟩;replace H:=H.later hb;clear hb
 refine bo H 1 (#[J (15),J (0),.slice none 0 0]) aP Z Z Z Z Z N N fun w6 H=>U<|Zt ?_
 exact eO (cs0:= #[J (15),J (0),.slice none 0 0]) Z aN Z (H.ent (i:=1) Z) Z ⟨⟨ps,some ⟨gP,0,none⟩,pC,co,clo,chi,gr,glo,ghi,sns,snA,snC⟩,by rw[hsp];exact oP.plain _ _ _,by rw[hsp];rfl,Bw.shut (X:=[(b7,_),(b4,_),(b3,_)]) row hsn hown hco hgr hps (fun _ h=>h) H Z⟩
theorem I7 {w0 w:World} {bb:Nat} {b:Bk} {gP:Nat} {uP:Array Value} {Ls Lo K:List (Nat×Obj)} {F:List cr} (a:Act) (B:Bw w0 w bb b gP uP Ls Lo K F) {k:Nat} (hcb:oO k b.co) (hn:0<=a.n/\a.n<=1000) (hpk: ∀ q∈b.ps,q.p.a.ok/\ ∀ (l:Nat) (y:fd),q.p.leader=l->q.p.reps[l]? =some y->y.es.length<400) {t:Tx} (hne:gX b.co.a.txs a.n.toNat=some t):db aa ka [.pointer (Qd bb),a.v] w fun v w2=> ∃ b':Bk,oP (oc b.a a).2 v w2/\b'.a=(oc b.a a).1/\xy w0 w2 bb b' K F:=by
 refine aD m6 Z Z ?_
 have hne0:gX b.a.co.txs a.n.toNat=some t:=hne
 obtain⟨⟨ti,hf⟩,h34,hpt,hp0,hp4⟩:=CF hcb.a.ok hne
 have hnmt:=(cC.1 (hcb.a.at_ (jg hf).2.1)).1
 obtain⟨n,hpn⟩: ∃ n:Nat,t.parts.headD 0=(n:Int):=⟨(t.parts.headD 0).toNat,by omega⟩
 have hn4:n<4:=by omega
 have hout:decide (0<=t.parts.headD 0/\t.parts.headD 0<(b.ps.length:Int))=false->oc b.a a=l9 b.a 5:=fun h=>I9 hne0 hpn (by rw[show b.a.ps=b.ps.map fun q=>q.p.a from rfl,aL,cJ (by have:=of_decide_eq_false h;omega)];rfl)
 obtain⟨ps,pA,pC,co,clo,chi,gr,glo,ghi,sns,snA,snC⟩:=b
 obtain⟨hpA,row,hsn,hown,hco,hgr,hps,H⟩:=B
 dsimp only at hpA row hsn hown hco hgr hps
 subst hpA
 replace H:Hp w0 w ((bb,.cells #[.slice (Qd gP) ps.length pC,J (co.clock),J (co.next),J (co.wait),.slice co.A co.txs.length co.cap,J (gr.clock),J (gr.wait),J (gr.gen),.slice gr.mA gr.ms.length gr.mC,.slice gr.oA gr.os.length gr.oC,.slice snA sns.length snC] bK (0,0))::(gP,.cells uP bE (0,0))::(Ls++(Lo++K))) F:=H
 dsimp only at hcb hne hf hpk hout
 obtain⟨m,hnm⟩: ∃ m:Nat,a.n=(m:Int):=⟨a.n.toNat,by omega⟩
 have htm:a.n.toNat=m:=by omega
 rw[htm]at hne
 show CW _ _ _ _ (args [.pointer (Qd bb),.agg #[J (a.kind),.string (a.name),J (a.part),J (a.n),J (a.m),.string (a.text),J (a.lost)]]) w
 refine W<|Zr<|fT H Z Z fun w1 b3 H=>eE H dm Z fun w2 b4 H=>U<|W ?_
 refine bz bX [0,1,2,3,4,5,6,7,8,9,10,11,12,13,14,15] [16,17] [7,13] [0,1,2,3,5,8,9,10,11,12,14,15] (sp [(7,Sp.one (yz (some t))),(13,Sp.blk w2.heap.size (.agg #[J 0,J 0,J 0,J 0,J 0,.bool false,.string ⟨#[]⟩]) du)]) N N N N Nq (cG _) ?_
 refine aw Z Z Z Z Z (fun w' hw'=>Yp Z)<|aw Z Z Z Z Z (fun w' hw'=>aI Z)<|aw Z Z Z Z Z (fun w' hw'=>Zf aV Z)<|aw Z Z Z Z Z (fun w' hw'=>Zf eA Z)<|aw Z Z Z Z Z (fun w' hw'=>jS 1 [J (co.clock),J (co.next),J (co.wait),.slice co.A co.txs.length co.cap] av Z Z ((H.later hw').ent (i:=2) Z) Z)<|aw Z Z Z Z Z (fun w' hw'=>Zf eP Z)<|aw Z Z Z Z Z (fun w' hw'=>aU aj Z (aB ((H.later hw').ent (i:=1) Z) Z))<|gN vC Z Z Z Z Z (fun w' hw'=>(by have hA:=Fg co m w' (Hp.coM (H.later hw') hco) hcb.ok I;rw[show gX co.a.txs m=_ from hne,<-hnm]at hA;exact hA)) Z<|aw Z Z Z Z Z (fun w' hw'=>Yu Z)<|aw Z Z Z Z Z (fun w' hw'=>NK Z Z)<|aw Z Z Z Z Z (fun w' hw'=>Xi Z Z)<|aw Z Z Z Z Z (fun w' hw'=>Xa Z Z)<|aw Z Z Z Z Z (fun w' hw'=>Xi Z Z)<|xr gd Z Z Z Z Z (fun w' hw'=>hw'.size) fun b7=>aw Z Z Z Z Z (fun w' hw'=>Wt Z)<|aw Z Z Z Z Z (fun w' hw'=>Wi Z)<|aS ?_
 intro w3 hw' hF
 obtain⟨hF,bq,eq,hge7,hbl7⟩:=hF;cases eq
 obtain⟨hF,-⟩:=hF
 have Hb:=H
 replace H:=H.adoptNew hw' hbl7 hge7
 clear hw' hF
 refine bo H 0 (#[J ((da t).epoch),J ((da t).pid),J ((da t).ver),J ((da t).seq),J ((da t).kind),.bool ((da t).txn),.string ((da t).text)]) eS Z Z Z Z Z N N fun w4 H=>G (Wi Z)<|U<|W<|W<|Zr<|G (Yi Z)<|G (bW Z Z (by decide))<|U<|ZF Z<|Zk<|W<|W<|Zr<|G (Yp Z)<|G (Yi Z)<|bY dW (oa bb ⟨ps,some ⟨gP,0,none⟩,pC,co,clo,chi,gr,glo,ghi,sns,snA,snC⟩ (t.parts.headD 0) _ (H.ent (i:=3) Z)) Z Z ?_
 rintro _ w5 ⟨rfl,hb⟩;replace H:=H.later hb;clear hb
 refine mw 30 Z (fun h30=> ?_) (fun h30=> ?_)
 have hnp:n<ps.length:=by have:=of_decide_eq_true h30;dsimp only at this;omega
 obtain⟨q,hq⟩: ∃ q,ps[n]? =some q:=⟨_,ah hnp⟩
 have hqm:=ae hq
 have hsp:=KV hne0 hpn (p:=q.p.a) (by show(ps.map fun q=>q.p.a)[n]? =_;rw[aL,hq];rfl)
 refine G (dF Z)<|U<|ZF Z<|Zk<|W ?_
 refine eC (τ:=Pa×Nat×Nat×Nat) [8,9,10,33,34,35,36,37,38,39,40,41,42,43,44,45,46] (fun(_,b9,_,_)=>[(9,.pointer (Qd b9)),(10,J (eD q.p.a (da t)).2.1),(8,J (eD q.p.a (da t)).2.2)]) (fun(p2,b9,lo,hi) w'=>p2.a=(eD q.p.a (da t)).1/\Hp w0 w' ((b9,.cells #[J (p2.epoch),J (p2.leader),.slice p2.iA p2.isr.length p2.iC,.slice p2.kA p2.known.length p2.kC,.slice p2.rA p2.reps.length p2.rC,J (p2.few),J (p2.base)] bE (0,0))::(b7,.cells #[J ((da t).epoch),J ((da t).pid),J ((da t).ver),J ((da t).seq),J ((da t).kind),.bool ((da t).txn),.string ((da t).text)] du (0,0))::(b4,.cells #[J (0),J (0),.slice none 0 0] ec (0,0))::(b3,.cells #[J (a.kind),.string (a.name),J (a.part),J (a.n),J (a.m),.string (a.text),J (a.lost)] fP (0,0))::(bb,.cells #[.slice (Qd gP) ps.length pC,J (co.clock),J (co.next),J (co.wait),.slice co.A co.txs.length co.cap,J (gr.clock),J (gr.wait),J (gr.gen),.slice gr.mA gr.ms.length gr.mC,.slice gr.oA gr.os.length gr.oC,.slice snA sns.length snC] bK (0,0))::(gP,.cells uP bE (0,0))::(Ls++(Lo++K))) (tz w0 lo hi p2::F)) ?_ ?_
 refine oB bX 14 9 [9,10,11,12,13,15,16,17] [14] [0,1,2,3,5,6] [14,15,16,17] [9] [0,1,2,3,5,6,10,11,12,13] (sp [(14,Sp.blk w5.heap.size (.agg #[J 0,J 0,.slice none 0 0,.slice none 0 0,.slice none 0 0,J 0,J 0]) bE)]) (sp [(9,Sp.deep w5.heap.size Pi (fun p:Pa=>p.c.toArray) (fun cs=> .tuple #[.agg cs,J (eD q.p.a (da t)).2.1,J (eD q.p.a (da t)).2.2]) (fun cq:Pa=>cq.a=(eD q.p.a (da t)).1))]) N N N N (cG _) (cG _) ?_ ?_
 refine jx [0,1,2,3,4,5,6,7,8,14] [9,10,11,12,13,15,16,17] [14] [0,1,2,3,5,6] 7 (sp [(14,Sp.blk w5.heap.size (.agg #[J 0,J 0,.slice none 0 0,.slice none 0 0,.slice none 0 0,J 0,J 0]) bE)]) N N N Nq<|aw Z Z Z Z Z (fun w' hw'=>Yp Z)<|aw Z Z Z Z Z (fun w' hw'=>aI Z)<|aw Z Z Z Z Z (fun w' hw'=>Zf aV Z)<|aw Z Z Z Z Z (fun w' hw'=>Zf dJ Z)<|aw Z Z Z Z Z (fun w' hw'=>aU ei Z (aB ((H.later hw').ent (i:=3) Z) Z))<|aw Z Z Z Z Z (fun w' hw'=>Yi Z)<|aw Z Z Z Z Z (fun w' hw'=>cD (k:=n) ig Z (congrArg (Value.int .i64) hpn) (by first|omega|(simp only[ab];omega)))<|aw Z Z Z Z Z (fun w' hw'=>oR aG row hq Z Z ((H.later hw').ent (i:=4) Z))<|aw Z Z Z Z Z (fun w' hw'=>je dG Z ((H.later hw').ent (i:=0) Z) Z)<|xr bp Z Z Z Z Z (fun w' hw'=>hw'.size) fun b9=>aS ?_
 intro w6 hw' hF
 obtain⟨hF,bq,eq,hge9,hbl9⟩:=hF;cases eq
 replace H:=H.adoptNew hw' hbl9 hge9
 clear hw' hF
 refine dd 9 N Z<|bY qQ (zj q.p (da t) _ (Hp.paM H (hps q hqm)) (hpk q hqm).1 (hpk q hqm).2) Z Z ?_
 rintro _ w7 ⟨p2,rfl,hap2,hnp2⟩;replace H:=H.learn hnp2.2 (tz w0 w6.heap.size w7.heap.size p2) ⟨H.size,hnp2.1⟩ (ao _) (ao _);clear hnp2
 refine U<|bx 10 N N N Z Z Z Z Nq (fun _=>Yu Z)<|bx 11 N N N Z Z Z Z Nq (fun _=>Xa Z Z)<|bx 12 N N N Z Z Z Z Nq (fun _=>Xi Z Z)<|bx 13 N N N Z Z Z Z Nq (fun _=>Xi Z Z)<|dd 15 N Z<|bo H 0 (#[J (p2.epoch),J (p2.leader),.slice p2.iA p2.isr.length p2.iC,.slice p2.kA p2.known.length p2.kC,.slice p2.rA p2.reps.length p2.rC,J (p2.few),J (p2.base)]) aK Z Z Z Z Z N N fun w8 H=>U<|bx 16 N N N Z Z Z Z Nq (fun _=>Wi Z)<|bx 17 N N N Z Z Z Z Nq (fun _=>Wi Z)<|cB N ?_
 exact⟨(p2,b9,_,_),⟨hap2,H⟩,Mv Z Z Z,Qg⟩
 refine jx [0,1,2,3,4,5,6,7,8,9,10,11,12,13] [14,15,16,17] [9] [0,1,2,3,5,6,10,11,12,13] 3 (sp [(9,Sp.deep w5.heap.size Pi (fun p:Pa=>p.c.toArray) (fun cs=> .tuple #[.agg cs,J (eD q.p.a (da t)).2.1,J (eD q.p.a (da t)).2.2]) (fun cq:Pa=>cq.a=(eD q.p.a (da t)).1))]) N N N Nq<|aw Z Z Z Z Z (fun w' hw'=>Yp Z)<|aw Z Z Z Z Z (fun w' hw'=>aI Z)<|aw Z Z Z Z Z (fun w' hw'=>Zf aV Z)<|aw Z Z Z Z Z (fun w' hw'=>Zf dJ Z)<|aw Z Z Z Z Z (fun w' hw'=>aU ei Z (aB ((H.later hw').ent (i:=3) Z) Z))<|aw Z Z Z Z Z (fun w' hw'=>Yi Z)<|aw Z Z Z Z Z (fun w' hw'=>cD (k:=n) ig Z (congrArg (Value.int .i64) hpn) (by first|omega|(simp only[ab];omega)))<|aw Z Z Z Z Z (fun w' hw'=>oR aG row hq Z Z ((H.later hw').ent (i:=4) Z))<|aw Z Z Z Z Z (fun w' hw'=>je dG Z ((H.later hw').ent (i:=0) Z) Z)<|sW (gv:=(fun cs=> .tuple #[.agg cs,J (eD q.p.a (da t)).2.1,J (eD q.p.a (da t)).2.2])) qQ Z Z Z Z Z (fun w' hw'=>hw'.size) (fun w' hw'=>zj q.p (da t) w' (Hp.paM (H.later hw') (hps q hqm)) (hpk q hqm).1 (hpk q hqm).2) Z fun cs43=>aw Z Z Z Z Z (fun w' hw'=>Yu Z)<|aw Z Z Z Z Z (fun w' hw'=>Xa Z Z)<|aw Z Z Z Z Z (fun w' hw'=>Xi Z Z)<|aw Z Z Z Z Z (fun w' hw'=>Xi Z Z)<|aS ?_
 intro w9 hw' hF
 obtain⟨hF,p2,eq,hap2,hrd43⟩:=hF;cases eq
 replace H:=H.learn hw' (tz w0 w5.heap.size w9.heap.size p2) ⟨H.size,hrd43⟩ (ao _) (ao _)
 clear hw' hF
 refine dd 14 N Z<|eE H bp Z fun w10 b9 H=>U<|dd 15 N Z<|bo H 0 (#[J (p2.epoch),J (p2.leader),.slice p2.iA p2.isr.length p2.iC,.slice p2.kA p2.known.length p2.kC,.slice p2.rA p2.reps.length p2.rC,J (p2.few),J (p2.base)]) aK Z Z Z Z Z N N fun w11 H=>U<|bx 16 N N N Z Z Z Z Nq (fun _=>Wi Z)<|bx 17 N N N Z Z Z Z Nq (fun _=>Wi Z)<|cB N ?_
 exact⟨(p2,b9,_,_),⟨hap2,H⟩,Mv Z Z Z,Qg⟩
 rintro⟨p2,b9,lo,hi⟩ ρ1 w12 ⟨hap2,H⟩
 show CW _ _ _ _ (dA (gC _ _ ρ1) [(9,.pointer (Qd b9)),(10,J (eD q.p.a (da t)).2.1),(8,J (eD q.p.a (da t)).2.2)]) w12
 refine W<|W<|Zr<|G (Yi Z) ?_
 refine qt (iO Z Z) Z Z Z (fun h48=> ?_) (fun h48=> ?_)
 refine U<|ZT Z<|W<|Zr<|G (Yi Z)<|bY bN (dP (eD q.p.a (da t)).2.2 _) Z Z ?_
 rintro _ w13 ⟨rfl,hb⟩;replace H:=H.later hb;clear hb
 refine bo H 2 (#[J ((eD q.p.a (da t)).2.2),J (0),.slice none 0 0]) aP Z Z Z Z Z N N fun w14 H=>U<|Zt ?_
 exact eO (cs0:= #[J ((eD q.p.a (da t)).2.2),J (0),.slice none 0 0]) Z aN Z (H.ent (i:=2) Z) Z ⟨⟨ps,some ⟨gP,0,none⟩,pC,co,clo,chi,gr,glo,ghi,sns,snA,snC⟩,by rw[hsp,if_neg h48];exact oP.plain _ _ _,by rw[hsp,if_neg h48];rfl,Bw.shut (X:=[(b9,_),(b7,_),(b4,_),(b3,_)]) row hsn hown (ak _ hco) (ak _ hgr) (fun q hq=>ak _ (hps q hq)) (fun f hf=>ak _ hf) H Z⟩
 refine U<|ZF Z<|Zk<|W ?_
 refine bz bX [0,1,2,3,4,5,6,7] [8] [] [0,1,2,3,5,7] (sp []) N N N N Nq (cG _) ?_
 refine aw Z Z Z Z Z (fun w' hw'=>Yp Z)<|aw Z Z Z Z Z (fun w' hw'=>aI Z)<|aw Z Z Z Z Z (fun w' hw'=>Zf aV Z)<|aw Z Z Z Z Z (fun w' hw'=>Zf dJ Z)<|aw Z Z Z Z Z (fun w' hw'=>aU ei Z (aB ((H.later hw').ent (i:=4) Z) Z))<|aw Z Z Z Z Z (fun w' hw'=>Yi Z)<|aw Z Z Z Z Z (fun w' hw'=>je aG Z ((H.later hw').ent (i:=0) Z) Z)<|aw Z Z Z Z Z (fun w' hw'=>cD (k:=n) ig Z (congrArg (Value.int .i64) hpn) (by first|omega|(simp only[ab];omega)))<|aS ?_
 intro w15 hw' hF
 replace H:=H.later hw';clear hw' hF
 refine kR H 5 (⟨p2,lo,hi⟩) aK row hq 0 Z Z Z Z Z Z N fun w17 cur16 row16 H=> ?_
 have hs18:(ps.set n (⟨p2,lo,hi⟩))[n]? =some (⟨p2,lo,hi⟩):=am (cF hq).1
 refine U<|W<|Zr<|G (Yp Z)<|G (Yp Z)<|G (aI Z)<|G (Zf aV Z)<|G (Zf eA Z)<|G (jS 1 [J (co.clock),J (co.next),J (co.wait),.slice co.A co.txs.length co.cap] av Z Z (H.ent (i:=4) Z) Z)<|G (Yt Z)<|G (Yi Z)<|bY Cd (Jz co t.name (t.parts.headD 0) k ti t _ (Hp.coM H (ak _ hco)) hcb hnmt hf h34 hpt) Z Z ?_
 rintro _ w19 ⟨c4,rfl,hac4,hnc4⟩;replace H:=H.learn hnc4.2 (xx w0 w17.heap.size w19.heap.size c4) ⟨H.size,hnc4.1⟩ (ao _) (ao _);clear hnc4
 refine G (Yu Z)<|G (Xa Z Z)<|G (Xi Z Z)<|G (aI Z)<|G (Zf aV Z)<|G (Zf eA Z)<|bo H 4 (#[.slice (Qd gP) ps.length pC,J (c4.clock),J (c4.next),J (c4.wait),.slice c4.A c4.txs.length c4.cap,J (gr.clock),J (gr.wait),J (gr.gen),.slice gr.mA gr.ms.length gr.mC,.slice gr.oA gr.os.length gr.oC,.slice snA sns.length snC]) aF Z Z Z Z Z N N fun w20 H=>U<|W<|Zr<|G (Yi Z)<|G (bi (cs:= #[J (0),J ((eD q.p.a (da t)).2.1),.slice none 0 0]) iE dm N)<|bo H 2 (#[J (0),J ((eD q.p.a (da t)).2.1),.slice none 0 0]) aP Z Z Z Z Z N N fun w21 H=>U<|Zt ?_
 have hz:(eD q.p.a (da t)).2.2=0:=by simpa using h48
 exact eO (cs0:= #[J (0),J ((eD q.p.a (da t)).2.1),.slice none 0 0]) Z aN Z (H.ent (i:=2) Z) Z ⟨⟨ps.set n ⟨p2,lo,hi⟩,some ⟨gP,0,none⟩,pC,c4,w17.heap.size,w19.heap.size,gr,glo,ghi,sns,snA,snC⟩,by rw[hsp,if_pos hz];exact oP.plain _ _ _,by rw[hsp,if_pos hz];unfold Bk.a;simp only[cz,hap2,hac4],Bw.shut (X:=[(b9,_),(b7,_),(b4,_),(b3,_)]) row16 hsn hown (az ..) (ak _ (ak _ hgr)) (fun y hy=>by rcases z6 hy with hy|hy;exact ak _ (ak _ (hps y hy));rw[hy];exact ak _ (az ..)) (fun f hf=>ak _ (ak _ hf)) H (by simp only[Bk.c,ab])⟩
 refine G (dF Z)<|U<|ZT Z<|W<|Zr<|bY bN (dP 5 _) Z Z ?_
 rintro _ w22 ⟨rfl,hb⟩;replace H:=H.later hb;clear hb
 refine bo H 1 (#[J (5),J (0),.slice none 0 0]) aP Z Z Z Z Z N N fun w23 H=>U<|Zt ?_
 exact eO (cs0:= #[J (5),J (0),.slice none 0 0]) Z aN Z (H.ent (i:=1) Z) Z ⟨⟨ps,some ⟨gP,0,none⟩,pC,co,clo,chi,gr,glo,ghi,sns,snA,snC⟩,by rw[hout h30];exact oP.plain _ _ _,by rw[hout h30];rfl,Bw.shut (X:=[(b7,_),(b4,_),(b3,_)]) row hsn hown hco hgr hps (fun _ h=>h) H Z⟩
theorem Kb (b:Bk) (a:Act):yr b.a a=({b.a with co:=(jc b.co.a a.n).1,gr:=pS b.gr.a a.n b.ps.length},⟨0,(jc b.co.a a.n).1.clock,[]⟩):=by
 unfold yr
 rw[show b.a.ps.length=b.ps.length by show(b.ps.map _).length=_;rw[bA]]
 rfl
theorem J9 {w0 w:World} {bb:Nat} {b:Bk} {gP:Nat} {uP:Array Value} {Ls Lo K:List (Nat×Obj)} {F:List cr} (a:Act) (B:Bw w0 w bb b gP uP Ls Lo K F) {k np:Nat} {wt:Int} (hcb:oO k b.co) (hk:k<=1000) (hn:0<=a.n/\a.n<=1000) (hgi:qV (fun _=>True) wt np k b.gr) (hp4:b.ps.length<=4):db aa oq [.pointer (Qd bb),a.v] w fun v w2=> ∃ b':Bk,oP (yr b.a a).2 v w2/\b'.a=(yr b.a a).1/\xy w0 w2 bb b' K F:=by
 refine aD tr Z Z ?_
 have hsp:=Kb b a
 obtain⟨ps,pA,pC,co,clo,chi,gr,glo,ghi,sns,snA,snC⟩:=b
 obtain⟨hpA,row,hsn,hown,hco,hgr,hps,H⟩:=B
 dsimp only at hpA row hsn hown hco hgr hps
 subst hpA
 replace H:Hp w0 w ((bb,.cells #[.slice (Qd gP) ps.length pC,J (co.clock),J (co.next),J (co.wait),.slice co.A co.txs.length co.cap,J (gr.clock),J (gr.wait),J (gr.gen),.slice gr.mA gr.ms.length gr.mC,.slice gr.oA gr.os.length gr.oC,.slice snA sns.length snC] bK (0,0))::(gP,.cells uP bE (0,0))::(Ls++(Lo++K))) F:=H
 dsimp only at hcb hgi hp4 hsp
 have h2z:(jc co.a a.n).2=0:=by unfold jc;rw[if_neg I]
 show CW _ _ _ _ (args [.pointer (Qd bb),.agg #[J (a.kind),.string (a.name),J (a.part),J (a.n),J (a.m),.string (a.text),J (a.lost)]]) w
 refine W<|Zr<|fT H Z Z fun w1 b3 H=>eE H dm Z fun w2 b4 H=>U<|W ?_
 refine eC (τ:=Co×Nat×Nat×Nat) [5,6,8,9,10,11,12,13,14,15,16,17,18] (fun(_,b5,_,_)=>[(5,.pointer (Qd b5)),(6,J (jc co.a a.n).2)]) (fun(c3,b5,lo,hi) w'=>c3.a=(jc co.a a.n).1/\Hp w0 w' ((b5,.cells #[J (c3.clock),J (c3.next),J (c3.wait),.slice c3.A c3.txs.length c3.cap] bd (0,0))::(b4,.cells #[J (0),J (0),.slice none 0 0] ec (0,0))::(b3,.cells #[J (a.kind),.string (a.name),J (a.part),J (a.n),J (a.m),.string (a.text),J (a.lost)] fP (0,0))::(bb,.cells #[.slice (Qd gP) ps.length pC,J (co.clock),J (co.next),J (co.wait),.slice co.A co.txs.length co.cap,J (gr.clock),J (gr.wait),J (gr.gen),.slice gr.mA gr.ms.length gr.mC,.slice gr.oA gr.os.length gr.oC,.slice snA sns.length snC] bK (0,0))::(gP,.cells uP bE (0,0))::(Ls++(Lo++K))) (xx w0 lo hi c3::F)) ?_ ?_
 refine oB bX 11 7 [7,8,9,10,12,13] [11] [0,1,2,3,5] [11,12,13] [7] [0,1,2,3,5,8,9,10] (sp [(11,Sp.blk w2.heap.size (.agg #[J 0,J 0,J 0,.slice none 0 0]) bd)]) (sp [(7,Sp.deep w2.heap.size Mi (fun c:Co=>c.c.toArray) (fun cs=> .tuple #[.agg cs,J (jc co.a a.n).2]) (fun cq:Co=>cq.a=(jc co.a a.n).1))]) N N N N (cG _) (cG _) ?_ ?_
 refine jx [0,1,2,3,4,5,6,11] [7,8,9,10,12,13] [11] [0,1,2,3,5] 5 (sp [(11,Sp.blk w2.heap.size (.agg #[J 0,J 0,J 0,.slice none 0 0]) bd)]) N N N Nq<|aw Z Z Z Z Z (fun w' hw'=>Yp Z)<|aw Z Z Z Z Z (fun w' hw'=>aI Z)<|aw Z Z Z Z Z (fun w' hw'=>Zf aV Z)<|aw Z Z Z Z Z (fun w' hw'=>Zf eA Z)<|aw Z Z Z Z Z (fun w' hw'=>jS 1 [J (co.clock),J (co.next),J (co.wait),.slice co.A co.txs.length co.cap] av Z Z ((H.later hw').ent (i:=2) Z) Z)<|aw Z Z Z Z Z (fun w' hw'=>Zf eP Z)<|aw Z Z Z Z Z (fun w' hw'=>aU aj Z (aB ((H.later hw').ent (i:=1) Z) Z))<|xr cK Z Z Z Z Z (fun w' hw'=>hw'.size) fun b5=>aS ?_
 intro w3 hw' hF
 obtain⟨hF,bq,eq,hge5,hbl5⟩:=hF;cases eq
 replace H:=H.adoptNew hw' hbl5 hge5
 clear hw' hF
 refine dd 7 N Z<|bY vB (Cr co a.n k _ (Hp.coM H hco) hcb hk hn.1) Z Z ?_
 rintro _ w4 ⟨c3,rfl,hac3,hnc3⟩;replace H:=H.learn hnc3.2 (xx w0 w3.heap.size w4.heap.size c3) ⟨H.size,hnc3.1⟩ (ao _) (ao _);clear hnc3
 refine U<|bx 8 N N N Z Z Z Z Nq (fun _=>Yu Z)<|bx 9 N N N Z Z Z Z Nq (fun _=>Xa Z Z)<|bx 10 N N N Z Z Z Z Nq (fun _=>Xi Z Z)<|dd 12 N Z<|bo H 0 (#[J (c3.clock),J (c3.next),J (c3.wait),.slice c3.A c3.txs.length c3.cap]) aF Z Z Z Z Z N N fun w5 H=>U<|bx 13 N N N Z Z Z Z Nq (fun _=>Wi Z)<|cB N ?_
 exact⟨(c3,b5,_,_),⟨hac3,H⟩,kZ Z Z,Qg⟩
 refine jx [0,1,2,3,4,5,6,7,8,9,10] [11,12,13] [7] [0,1,2,3,5,8,9,10] 2 (sp [(7,Sp.deep w2.heap.size Mi (fun c:Co=>c.c.toArray) (fun cs=> .tuple #[.agg cs,J (jc co.a a.n).2]) (fun cq:Co=>cq.a=(jc co.a a.n).1))]) N N N Nq<|aw Z Z Z Z Z (fun w' hw'=>Yp Z)<|aw Z Z Z Z Z (fun w' hw'=>aI Z)<|aw Z Z Z Z Z (fun w' hw'=>Zf aV Z)<|aw Z Z Z Z Z (fun w' hw'=>Zf eA Z)<|aw Z Z Z Z Z (fun w' hw'=>jS 1 [J (co.clock),J (co.next),J (co.wait),.slice co.A co.txs.length co.cap] av Z Z ((H.later hw').ent (i:=2) Z) Z)<|aw Z Z Z Z Z (fun w' hw'=>Zf eP Z)<|aw Z Z Z Z Z (fun w' hw'=>aU aj Z (aB ((H.later hw').ent (i:=1) Z) Z))<|sW (gv:=(fun cs=> .tuple #[.agg cs,J (jc co.a a.n).2])) vB Z Z Z Z Z (fun w' hw'=>hw'.size) (fun w' hw'=>Cr co a.n k w' (Hp.coM (H.later hw') hco) hcb hk hn.1) Z fun cs16=>aw Z Z Z Z Z (fun w' hw'=>Yu Z)<|aw Z Z Z Z Z (fun w' hw'=>Xa Z Z)<|aw Z Z Z Z Z (fun w' hw'=>Xi Z Z)<|aS ?_
 intro w6 hw' hF
 obtain⟨hF,c3,eq,hac3,hrd16⟩:=hF;cases eq
 replace H:=H.learn hw' (xx w0 w2.heap.size w6.heap.size c3) ⟨H.size,hrd16⟩ (ao _) (ao _)
 clear hw' hF
 refine dd 11 N Z<|eE H cK Z fun w7 b5 H=>U<|dd 12 N Z<|bo H 0 (#[J (c3.clock),J (c3.next),J (c3.wait),.slice c3.A c3.txs.length c3.cap]) aF Z Z Z Z Z N N fun w8 H=>U<|bx 13 N N N Z Z Z Z Nq (fun _=>Wi Z)<|cB N ?_
 exact⟨(c3,b5,_,_),⟨hac3,H⟩,kZ Z Z,Qg⟩
 rintro⟨c3,b5,lo,hi⟩ ρ1 w9 ⟨hac3,H⟩
 show CW _ _ _ _ (dA (gC _ _ ρ1) [(5,.pointer (Qd b5)),(6,J (jc co.a a.n).2)]) w9
 refine W<|W<|Zr<|G (Yi Z)<|G (bW Z Z I)<|U<|ZF Z<|Zk<|W ?_
 refine eC (τ:=Gr×Nat×Nat×Nat) [6,7,23,24,25,26,27,28,29,30,31,32,33,34,35,36,37,38,39] (fun(_,b7,_,_)=>[(7,.pointer (Qd b7)),(6,J 0)]) (fun(g3,b7,lo2,hi2) w'=>g3.a=((pS gr.a a.n ps.length,(0:Int))).1/\Hp w0 w' ((b7,.cells #[J (g3.clock),J (g3.wait),J (g3.gen),.slice g3.mA g3.ms.length g3.mC,.slice g3.oA g3.os.length g3.oC] cM (0,0))::(b5,.cells #[J (c3.clock),J (c3.next),J (c3.wait),.slice c3.A c3.txs.length c3.cap] bd (0,0))::(b4,.cells #[J (0),J (0),.slice none 0 0] ec (0,0))::(b3,.cells #[J (a.kind),.string (a.name),J (a.part),J (a.n),J (a.m),.string (a.text),J (a.lost)] fP (0,0))::(bb,.cells #[.slice (Qd gP) ps.length pC,J (co.clock),J (co.next),J (co.wait),.slice co.A co.txs.length co.cap,J (gr.clock),J (gr.wait),J (gr.gen),.slice gr.mA gr.ms.length gr.mC,.slice gr.oA gr.os.length gr.oC,.slice snA sns.length snC] bK (0,0))::(gP,.cells uP bE (0,0))::(Ls++(Lo++K))) (JT w0 lo2 hi2 g3::xx w0 lo hi c3::F)) ?_ ?_
 refine oB bX 17 13 [13,14,15,16,18,19] [17] [0,1,2,3,5,7,8,9,10,12] [17,18,19] [13] [0,1,2,3,5,7,8,9,10,12,14,15,16] (sp [(17,Sp.blk w9.heap.size (.agg #[J 0,J 0,J 0,.slice none 0 0,.slice none 0 0]) cM)]) (sp [(13,Sp.deep w9.heap.size PA (fun g:Gr=>g.c.toArray) (fun cs=> .tuple #[.agg cs,J ((pS gr.a a.n ps.length,(0:Int))).2]) (fun cq:Gr=>cq.a=((pS gr.a a.n ps.length,(0:Int))).1))]) N N N N (cG _) (cG _) ?_ ?_
 refine jx [0,1,2,3,4,5,6,7,8,9,10,11,12,17] [13,14,15,16,18,19] [17] [0,1,2,3,5,7,8,9,10,12] 5 (sp [(17,Sp.blk w9.heap.size (.agg #[J 0,J 0,J 0,.slice none 0 0,.slice none 0 0]) cM)]) N N N Nq<|aw Z Z Z Z Z (fun w' hw'=>Yp Z)<|aw Z Z Z Z Z (fun w' hw'=>aI Z)<|aw Z Z Z Z Z (fun w' hw'=>Zf aV Z)<|aw Z Z Z Z Z (fun w' hw'=>Zf jv Z)<|aw Z Z Z Z Z (fun w' hw'=>jS 5 [J (gr.clock),J (gr.wait),J (gr.gen),.slice gr.mA gr.ms.length gr.mC,.slice gr.oA gr.os.length gr.oC] aQ Z Z ((H.later hw').ent (i:=3) Z) Z)<|aw Z Z Z Z Z (fun w' hw'=>Zf eP Z)<|aw Z Z Z Z Z (fun w' hw'=>aU aj Z (aB ((H.later hw').ent (i:=2) Z) Z))<|aw Z Z Z Z Z (fun w' hw'=>Yp Z)<|aw Z Z Z Z Z (fun w' hw'=>aI Z)<|aw Z Z Z Z Z (fun w' hw'=>Zf aV Z)<|aw Z Z Z Z Z (fun w' hw'=>Zf dJ Z)<|aw Z Z Z Z Z (fun w' hw'=>aU ei Z (aB ((H.later hw').ent (i:=3) Z) Z))<|aw Z Z Z Z Z (fun w' hw'=>bn lS Z)<|xr d4 Z Z Z Z Z (fun w' hw'=>hw'.size) fun b7=>aS ?_
 intro w10 hw' hF
 obtain⟨hF,bq,eq,hge7,hbl7⟩:=hF;cases eq
 replace H:=H.adoptNew hw' hbl7 hge7
 clear hw' hF
 refine dd 13 N Z<|bY vA (FD gr a.n ps.length _ (Hp.grM H (ak _ hgr)) hgi.ok hp4 (by have:=hgi.gen;omega) hn.1 hn.2 (by have:=hgi.clock;omega)) Z Z ?_
 rintro _ w11 ⟨g3,rfl,hag3,hng3⟩;replace H:=H.learn hng3.2 (JT w0 w10.heap.size w11.heap.size g3) ⟨H.size,hng3.1⟩ (ao _) (ao _);clear hng3
 refine U<|bx 14 N N N Z Z Z Z Nq (fun _=>Yu Z)<|bx 15 N N N Z Z Z Z Nq (fun _=>Xa Z Z)<|bx 16 N N N Z Z Z Z Nq (fun _=>Xi Z Z)<|dd 18 N Z<|bo H 0 (#[J (g3.clock),J (g3.wait),J (g3.gen),.slice g3.mA g3.ms.length g3.mC,.slice g3.oA g3.os.length g3.oC]) bC Z Z Z Z Z N N fun w12 H=>U<|bx 19 N N N Z Z Z Z Nq (fun _=>Wi Z)<|cB N ?_
 exact⟨(g3,b7,_,_),⟨hag3,H⟩,kZ Z Z,Qg⟩
 refine jx [0,1,2,3,4,5,6,7,8,9,10,11,12,13,14,15,16] [17,18,19] [13] [0,1,2,3,5,7,8,9,10,12,14,15,16] 2 (sp [(13,Sp.deep w9.heap.size PA (fun g:Gr=>g.c.toArray) (fun cs=> .tuple #[.agg cs,J ((pS gr.a a.n ps.length,(0:Int))).2]) (fun cq:Gr=>cq.a=((pS gr.a a.n ps.length,(0:Int))).1))]) N N N Nq<|aw Z Z Z Z Z (fun w' hw'=>Yp Z)<|aw Z Z Z Z Z (fun w' hw'=>aI Z)<|aw Z Z Z Z Z (fun w' hw'=>Zf aV Z)<|aw Z Z Z Z Z (fun w' hw'=>Zf jv Z)<|aw Z Z Z Z Z (fun w' hw'=>jS 5 [J (gr.clock),J (gr.wait),J (gr.gen),.slice gr.mA gr.ms.length gr.mC,.slice gr.oA gr.os.length gr.oC] aQ Z Z ((H.later hw').ent (i:=3) Z) Z)<|aw Z Z Z Z Z (fun w' hw'=>Zf eP Z)<|aw Z Z Z Z Z (fun w' hw'=>aU aj Z (aB ((H.later hw').ent (i:=2) Z) Z))<|aw Z Z Z Z Z (fun w' hw'=>Yp Z)<|aw Z Z Z Z Z (fun w' hw'=>aI Z)<|aw Z Z Z Z Z (fun w' hw'=>Zf aV Z)<|aw Z Z Z Z Z (fun w' hw'=>Zf dJ Z)<|aw Z Z Z Z Z (fun w' hw'=>aU ei Z (aB ((H.later hw').ent (i:=3) Z) Z))<|aw Z Z Z Z Z (fun w' hw'=>bn lS Z)<|sW (gv:=(fun cs=> .tuple #[.agg cs,J ((pS gr.a a.n ps.length,(0:Int))).2])) vA Z Z Z Z Z (fun w' hw'=>hw'.size) (fun w' hw'=>FD gr a.n ps.length w' (Hp.grM (H.later hw') (ak _ hgr)) hgi.ok hp4 (by have:=hgi.gen;omega) hn.1 hn.2 (by have:=hgi.clock;omega)) Z fun cs37=>aw Z Z Z Z Z (fun w' hw'=>Yu Z)<|aw Z Z Z Z Z (fun w' hw'=>Xa Z Z)<|aw Z Z Z Z Z (fun w' hw'=>Xi Z Z)<|aS ?_
 intro w13 hw' hF
 obtain⟨hF,g3,eq,hag3,hrd37⟩:=hF;cases eq
 replace H:=H.learn hw' (JT w0 w9.heap.size w13.heap.size g3) ⟨H.size,hrd37⟩ (ao _) (ao _)
 clear hw' hF
 refine dd 17 N Z<|eE H d4 Z fun w14 b7 H=>U<|dd 18 N Z<|bo H 0 (#[J (g3.clock),J (g3.wait),J (g3.gen),.slice g3.mA g3.ms.length g3.mC,.slice g3.oA g3.os.length g3.oC]) bC Z Z Z Z Z N N fun w15 H=>U<|bx 19 N N N Z Z Z Z Nq (fun _=>Wi Z)<|cB N ?_
 exact⟨(g3,b7,_,_),⟨hag3,H⟩,kZ Z Z,Qg⟩
 rintro⟨g3,b7,lo2,hi2⟩ ρ1 w16 ⟨hag3,H⟩
 show CW _ _ _ _ (dA (gC _ _ ρ1) [(7,.pointer (Qd b7)),(6,J 0)]) w16
 refine W<|W<|Zr<|G (Yi Z)<|G (bW Z Z (by decide))<|U<|ZF Z<|Zk<|W ?_
 refine nU bX (fun w'=>w'.heap[b5]? =some (.cells #[J (c3.clock),J (c3.next),J (c3.wait),.slice c3.A c3.txs.length c3.cap] bd (0,0))/\w'.heap[b7]? =some (.cells #[J (g3.clock),J (g3.wait),J (g3.gen),.slice g3.mA g3.ms.length g3.mC,.slice g3.oA g3.os.length g3.oC] cM (0,0))) ?_
 intro w17 hw';replace H:=H.later hw';clear hw'
 refine aM 0 N N N Z Z Z Z Nq ⟨H.ent (i:=1) Z,H.ent (i:=0) Z⟩ (fun _ hS=>Yp Z)<|aM 1 N N N Z Z Z Z Nq ⟨H.ent (i:=1) Z,H.ent (i:=0) Z⟩ (fun _ hS=>Yp Z)<|aM 2 N N N Z Z Z Z Nq ⟨H.ent (i:=1) Z,H.ent (i:=0) Z⟩ (fun _ hS=>je av Z hS.1 Z)<|aM 3 N N N Z Z Z Z Nq ⟨H.ent (i:=1) Z,H.ent (i:=0) Z⟩ (fun _ hS=>je aQ Z hS.2 Z)<|aM 4 N N N Z Z Z Z Nq ⟨H.ent (i:=1) Z,H.ent (i:=0) Z⟩ (fun _ hS=>aI Z)<|aM 5 N N N Z Z Z Z Nq ⟨H.ent (i:=1) Z,H.ent (i:=0) Z⟩ (fun _ hS=>Zf aV Z)<|aM 6 N N N Z Z Z Z Nq ⟨H.ent (i:=1) Z,H.ent (i:=0) Z⟩ (fun _ hS=>Zf eA Z)<|r9 7 N Z<|bo H 4 (#[.slice (Qd gP) ps.length pC,J (c3.clock),J (c3.next),J (c3.wait),.slice c3.A c3.txs.length c3.cap,J (gr.clock),J (gr.wait),J (gr.gen),.slice gr.mA gr.ms.length gr.mC,.slice gr.oA gr.os.length gr.oC,.slice snA sns.length snC]) aF Z Z Z Z Z N N fun w18 H=>U ?_
 refine⟨⟨H.ent (i:=1) Z,H.ent (i:=0) Z⟩,?_⟩
 refine aM 8 N N N Z Z Z Z Nq ⟨H.ent (i:=1) Z,H.ent (i:=0) Z⟩ (fun _ hS=>aI Z)<|aM 9 N N N Z Z Z Z Nq ⟨H.ent (i:=1) Z,H.ent (i:=0) Z⟩ (fun _ hS=>Zf aV Z)<|aM 10 N N N Z Z Z Z Nq ⟨H.ent (i:=1) Z,H.ent (i:=0) Z⟩ (fun _ hS=>Zf jv Z)<|r9 11 N Z<|bo H 4 (#[.slice (Qd gP) ps.length pC,J (c3.clock),J (c3.next),J (c3.wait),.slice c3.A c3.txs.length c3.cap,J (g3.clock),J (g3.wait),J (g3.gen),.slice g3.mA g3.ms.length g3.mC,.slice g3.oA g3.os.length g3.oC,.slice snA sns.length snC]) bC Z Z Z Z Z N N fun w19 H=>U ?_
 refine⟨⟨H.ent (i:=1) Z,H.ent (i:=0) Z⟩,?_⟩
 refine jZ N<|W<|Zr<|G (Zf km Z)<|G (Zd aj H 1 Z Z Z)<|G (bi (cs:= #[J (0),J (c3.clock),.slice none 0 0]) iE dm N)<|bo H 2 (#[J (0),J (c3.clock),.slice none 0 0]) aP Z Z Z Z Z N N fun w20 H=>U<|Zt ?_
 have hck:c3.clock=(jc co.a a.n).1.clock:=by rw[<-hac3];rfl
 exact eO (cs0:= #[J (0),J (c3.clock),.slice none 0 0]) Z aN Z (H.ent (i:=2) Z) Z ⟨⟨ps,some ⟨gP,0,none⟩,pC,c3,lo,hi,g3,lo2,hi2,sns,snA,snC⟩,by rw[hsp,<-hck];exact oP.plain _ _ _,by rw[hsp,<-hac3];unfold Bk.a;rw[hag3],Bw.shut (X:=[(b7,_),(b5,_),(b4,_),(b3,_)]) row hsn hown (ak _ (az ..)) (az ..) (fun q hq=>ak _ (ak _ (hps q hq))) (fun f hf=>ak _ (ak _ hf)) H Z⟩
theorem Ks {w:Wa} {a:Act} {p:gz} (hp:w.ps[a.part.toNat]? =some p):vk w a=if(lP p a).2.2=0 then({w with ps:=w.ps.set a.part.toNat (lP p a).1},⟨0,(lP p a).2.1,[]⟩)else l9 w (lP p a).2.2:=by
 unfold vk
 rw[hp]
theorem Kr {w0 w:World} {bb:Nat} {b:Bk} {gP:Nat} {uP:Array Value} {Ls Lo K:List (Nat×Obj)} {F:List cr} (a:Act) (B:Bw w0 w bb b gP uP Ls Lo K F) (hpn:0<=a.part/\a.part<b.ps.length) (hn:0<=a.n/\ ∀ q∈b.ps,a.n<q.p.reps.length) (hm:0<=a.m/\a.m<=1000) (hpk: ∀ q∈b.ps,q.p.a.ok):db aa lh [.pointer (Qd bb),a.v] w fun v w2=> ∃ b':Bk,oP (vk b.a a).2 v w2/\b'.a=(vk b.a a).1/\xy w0 w2 bb b' K F:=by
 refine aD qA Z Z ?_
 obtain⟨n,hna⟩: ∃ n:Nat,a.part=(n:Int):=⟨a.part.toNat,by omega⟩
 have htn:a.part.toNat=n:=by omega
 obtain⟨r,hnr⟩: ∃ r:Nat,a.n=(r:Int):=⟨a.n.toNat,by omega⟩
 have htr:a.n.toNat=r:=by omega
 obtain⟨mm,hmm⟩: ∃ r:Nat,a.m=(r:Int):=⟨a.m.toNat,by omega⟩
 have htm:a.m.toNat=mm:=by omega
 obtain⟨q,hq⟩: ∃ q,b.ps[n]? =some q:=⟨_,ah I⟩
 have hqm:=ae hq
 have hok:=hpk q hqm
 have hr:r<q.p.reps.length:=by have:=hn.2 q hqm;omega
 have hsp:=Ks (w:=b.a) (a:=a) (p:=q.p.a) (by rw[htn];show(b.ps.map fun q=>q.p.a)[n]? =_;rw[aL,hq];rfl)
 obtain⟨z,hz⟩: ∃ z,lP q.p.a a=z:=⟨_,rfl⟩
 obtain⟨ps,pA,pC,co,clo,chi,gr,glo,ghi,sns,snA,snC⟩:=b
 obtain⟨hpA,row,hsn,hown,hco,hgr,hps,H⟩:=B
 dsimp only at hpA row hsn hown hco hgr hps
 subst hpA
 replace H:Hp w0 w ((bb,.cells #[.slice (Qd gP) ps.length pC,J (co.clock),J (co.next),J (co.wait),.slice co.A co.txs.length co.cap,J (gr.clock),J (gr.wait),J (gr.gen),.slice gr.mA gr.ms.length gr.mC,.slice gr.oA gr.os.length gr.oC,.slice snA sns.length snC] bK (0,0))::(gP,.cells uP bE (0,0))::(Ls++(Lo++K))) F:=H
 dsimp only at hpn hq hqm
 show CW _ _ _ _ (args [.pointer (Qd bb),.agg #[J (a.kind),.string (a.name),J (a.part),J (a.n),J (a.m),.string (a.text),J (a.lost)]]) w
 refine W<|Zr<|fT H Z Z fun w1 b3 H=>eE H dm Z fun w2 b4 H=>U<|W<|W<|Zr<|G (Yp Z)<|G (Zf dR Z)<|G (Zd aj H 1 Z Z Z)<|bY dW (oa bb ⟨ps,some ⟨gP,0,none⟩,pC,co,clo,chi,gr,glo,ghi,sns,snA,snC⟩ a.part _ (H.ent (i:=2) Z)) Z Z ?_
 rintro _ w3 ⟨rfl,hb⟩;replace H:=H.later hb;clear hb
 rw[decide_eq_true hpn]
 refine G (dF Z)<|U<|ZF Z<|Zk<|W ?_
 refine bz bX [0,1,2,3,4,5,6,7,8,9] [10] [9] [0,1,2,3,5,7] (sp [(9,Sp.blk w3.heap.size (.agg #[J 0,J 0,.slice none 0 0,.slice none 0 0,.slice none 0 0,J 0,J 0]) bE)]) N N N N Nq (cG _) ?_
 refine aw Z Z Z Z Z (fun w' hw'=>Yp Z)<|aw Z Z Z Z Z (fun w' hw'=>aI Z)<|aw Z Z Z Z Z (fun w' hw'=>Zf aV Z)<|aw Z Z Z Z Z (fun w' hw'=>Zf dJ Z)<|aw Z Z Z Z Z (fun w' hw'=>aU ei Z (aB ((H.later hw').ent (i:=2) Z) Z))<|aw Z Z Z Z Z (fun w' hw'=>Zf dR Z)<|aw Z Z Z Z Z (fun w' hw'=>aU aj Z (aB ((H.later hw').ent (i:=1) Z) Z))<|aw Z Z Z Z Z (fun w' hw'=>cD (k:=n) ig Z (congrArg (Value.int .i64) hna) (by first|omega|(simp only[ab];omega)))<|aw Z Z Z Z Z (fun w' hw'=>oR aG row hq Z Z ((H.later hw').ent (i:=3) Z))<|xr bp Z Z Z Z Z (fun w' hw'=>hw'.size) fun b5=>aS ?_
 intro w4 hw' hF
 obtain⟨hF,bq,eq,hge5,hbl5⟩:=hF;cases eq
 have Hb:=H
 replace H:=H.adoptNew hw' hbl5 hge5
 clear hw' hF
 refine bo H 0 (#[J (q.p.epoch),J (q.p.leader),.slice q.p.iA q.p.isr.length q.p.iC,.slice q.p.kA q.p.known.length q.p.kC,.slice q.p.rA q.p.reps.length q.p.rC,J (q.p.few),J (q.p.base)]) aK Z Z Z Z Z N N fun w5 H=>U<|W<|Zr<|G (Wi Z)<|U<|W<|Zr<|G (Wi Z)<|U<|W<|W<|Zr<|G (Zf mI Z)<|G (Zd aj H 2 Z Z Z)<|U ?_
 refine eC (τ:=Pa×Nat×Nat) [6,7,25,26,27,28,29,30,31,32,33,34,35,36,37,38,39,40,41,42,43,44,45,46,47,48,49,50,51,52,53,54,55,56,57,58,59,60,61,62,63,64,65,66,67,68,69,70,71,72,73,74,75,76,77,78,79,80,81,82,83,84,85,86,87,88,89,90,91,92,93,94,95,96,97] (fun _=>[(6,J z.2.1),(7,J z.2.2)]) (fun(p2,lo,hi) w'=>p2.a=z.1/\Hp w0 w' ((b5,.cells #[J (p2.epoch),J (p2.leader),.slice p2.iA p2.isr.length p2.iC,.slice p2.kA p2.known.length p2.kC,.slice p2.rA p2.reps.length p2.rC,J (p2.few),J (p2.base)] bE (0,0))::(b4,.cells #[J (0),J (0),.slice none 0 0] ec (0,0))::(b3,.cells #[J (a.kind),.string (a.name),J (a.part),J (a.n),J (a.m),.string (a.text),J (a.lost)] fP (0,0))::(bb,.cells #[.slice (Qd gP) ps.length pC,J (co.clock),J (co.next),J (co.wait),.slice co.A co.txs.length co.cap,J (gr.clock),J (gr.wait),J (gr.gen),.slice gr.mA gr.ms.length gr.mC,.slice gr.oA gr.os.length gr.oC,.slice snA sns.length snC] bK (0,0))::(gP,.cells uP bE (0,0))::(Ls++(Lo++K))) (tz w0 lo hi p2::F)) ?_ ?_
 refine Zb<|W<|Zr ?_
 refine cU (bl Z Z) Z Z Z (fun h33=> ?_) (fun h33=> ?_)
 refine G (Wb Z)<|U<|ZT Z<|Zr<|G (Zw aG H 0 Z Z Z)<|G (Zf eP Z)<|G (Zd aj H 2 Z Z Z)<|bY B7 ((by have hA:=IZ q.p r _ (Hp.paM H (hps q hqm)) hok hr;rw[<-hnr]at hA;exact hA)) Z Z ?_
 rintro _ w6 ⟨p2,rfl,hap2,hnp2⟩;replace H:=H.learn hnp2.2 (tz w0 w5.heap.size w6.heap.size p2) ⟨H.size,hnp2.1⟩ (ao _) (ao _);clear hnp2
 refine G (Yu Z)<|G (Xa Z Z)<|G (Xi Z Z)<|G (Xi Z Z)<|bo H 0 (#[J (p2.epoch),J (p2.leader),.slice p2.iA p2.isr.length p2.iC,.slice p2.kA p2.known.length p2.kC,.slice p2.rA p2.reps.length p2.rC,J (p2.few),J (p2.base)]) aK Z Z Z Z Z N N fun w7 H=>G (Wi Z)<|G (Wi Z)<|U ?_
 obtain rfl:z=iY q.p.a r:=by rw[<-hz];unfold lP;rw[if_pos h33,htr]
 exact⟨(p2,_,_),⟨hap2,H⟩,kZ Z Z,Qg⟩
 refine G (Wb Z)<|U<|ZF Z<|W<|Zr ?_
 refine cU (bl Z Z) Z Z Z (fun h43=> ?_) (fun h43=> ?_)
 refine G (Wb Z)<|U<|ZT Z<|Zr<|G (Zw aG H 0 Z Z Z)<|G (Zf eP Z)<|G (Zd aj H 2 Z Z Z)<|bY Eg ((by have hA:=KC q.p r _ (Hp.paM H (hps q hqm)) hok hr;rw[<-hnr]at hA;exact hA)) Z Z ?_
 rintro _ w8 ⟨p2,rfl,hap2,hnp2⟩;replace H:=H.learn hnp2.2 (tz w0 w5.heap.size w8.heap.size p2) ⟨H.size,hnp2.1⟩ (ao _) (ao _);clear hnp2
 refine G (Yu Z)<|G (Xa Z Z)<|G (Xi Z Z)<|bo H 0 (#[J (p2.epoch),J (p2.leader),.slice p2.iA p2.isr.length p2.iC,.slice p2.kA p2.known.length p2.kC,.slice p2.rA p2.reps.length p2.rC,J (p2.few),J (p2.base)]) aK Z Z Z Z Z N N fun w9 H=>G (Wi Z)<|U ?_
 obtain rfl:z=((nZ q.p.a r).1,0,(nZ q.p.a r).2):=by rw[<-hz];unfold lP;rw[if_neg h33,if_pos h43,htr]
 exact⟨(p2,_,_),⟨hap2,H⟩,kZ Z Z,Qg⟩
 refine G (Wb Z)<|U<|ZF Z<|W<|Zr ?_
 refine cU (bl Z Z) Z Z Z (fun h52=> ?_) (fun h52=> ?_)
 refine G (Wb Z)<|U<|ZT Z<|Zr<|G (Zw aG H 0 Z Z Z)<|G (Zf eP Z)<|G (Zd aj H 2 Z Z Z)<|G (Zf FR Z)<|G (Zd aj H 2 Z Z Z)<|bY Ca ((by have hA:=I1 q.p r mm _ (Hp.paM H (hps q hqm)) hok hr I;rw[<-hnr,<-hmm]at hA;exact hA)) Z Z ?_
 rintro _ w10 ⟨p2,rfl,hap2,hnp2⟩;replace H:=H.learn hnp2.2 (tz w0 w5.heap.size w10.heap.size p2) ⟨H.size,hnp2.1⟩ (ao _) (ao _);clear hnp2
 refine G (Yu Z)<|G (Xa Z Z)<|G (Xi Z Z)<|bo H 0 (#[J (p2.epoch),J (p2.leader),.slice p2.iA p2.isr.length p2.iC,.slice p2.kA p2.known.length p2.kC,.slice p2.rA p2.reps.length p2.rC,J (p2.few),J (p2.base)]) aK Z Z Z Z Z N N fun w11 H=>G (Wi Z)<|U ?_
 obtain rfl:z=((kp q.p.a r mm).1,0,(kp q.p.a r mm).2):=by rw[<-hz];unfold lP;rw[if_neg h33,if_neg h43,if_pos h52,htr,htm]
 exact⟨(p2,_,_),⟨hap2,H⟩,kZ Z Z,Qg⟩
 refine G (Wb Z)<|U<|ZF Z<|W<|Zr ?_
 refine cU (bl Z Z) Z Z Z (fun h63=> ?_) (fun h63=> ?_)
 refine G (Wb Z)<|U<|ZT Z<|Zr<|G (Zw aG H 0 Z Z Z)<|G (Zf eP Z)<|G (Zd aj H 2 Z Z Z)<|bY Eh ((by have hA:=KD q.p r _ (Hp.paM H (hps q hqm)) hok hr;rw[<-hnr]at hA;exact hA)) Z Z ?_
 rintro _ w12 ⟨p2,rfl,hap2,hnp2⟩;replace H:=H.learn hnp2.2 (tz w0 w5.heap.size w12.heap.size p2) ⟨H.size,hnp2.1⟩ (ao _) (ao _);clear hnp2
 refine G (Yu Z)<|G (Xa Z Z)<|G (Xi Z Z)<|bo H 0 (#[J (p2.epoch),J (p2.leader),.slice p2.iA p2.isr.length p2.iC,.slice p2.kA p2.known.length p2.kC,.slice p2.rA p2.reps.length p2.rC,J (p2.few),J (p2.base)]) aK Z Z Z Z Z N N fun w13 H=>G (Wi Z)<|U ?_
 obtain rfl:z=((pT q.p.a r).1,0,(pT q.p.a r).2):=by rw[<-hz];unfold lP;rw[if_neg h33,if_neg h43,if_neg h52,if_pos h63,htr]
 exact⟨(p2,_,_),⟨hap2,H⟩,kZ Z Z,Qg⟩
 refine G (Wb Z)<|U<|ZF Z<|W<|Zr ?_
 refine cU (bl Z Z) Z Z Z (fun h72=> ?_) (fun h72=> ?_)
 refine G (Wb Z)<|U<|ZT Z<|Zr<|G (Zw aG H 0 Z Z Z)<|G (Zf eP Z)<|G (Zd aj H 2 Z Z Z)<|bY Ef ((by have hA:=KB q.p r _ (Hp.paM H (hps q hqm)) hok hr;rw[<-hnr]at hA;exact hA)) Z Z ?_
 rintro _ w14 ⟨p2,rfl,hap2,hnp2⟩;replace H:=H.learn hnp2.2 (tz w0 w5.heap.size w14.heap.size p2) ⟨H.size,hnp2.1⟩ (ao _) (ao _);clear hnp2
 refine G (Yu Z)<|G (Xa Z Z)<|G (Xi Z Z)<|bo H 0 (#[J (p2.epoch),J (p2.leader),.slice p2.iA p2.isr.length p2.iC,.slice p2.kA p2.known.length p2.kC,.slice p2.rA p2.reps.length p2.rC,J (p2.few),J (p2.base)]) aK Z Z Z Z Z N N fun w15 H=>G (Wi Z)<|U ?_
 obtain rfl:z=((nX q.p.a r).1,0,(nX q.p.a r).2):=by rw[<-hz];unfold lP;rw[if_neg h33,if_neg h43,if_neg h52,if_neg h63,if_pos h72,htr]
 exact⟨(p2,_,_),⟨hap2,H⟩,kZ Z Z,Qg⟩
 refine G (Wb Z)<|U<|ZF Z<|W<|Zr ?_
 refine cU (bl Z Z) Z Z Z (fun h81=> ?_) (fun h81=> ?_)
 refine G (Wb Z)<|U<|ZT Z<|Zr<|G (Zw aG H 0 Z Z Z)<|G (Zf eP Z)<|G (Zd aj H 2 Z Z Z)<|bY B8 ((by have hA:=I0 q.p r _ (Hp.paM H (hps q hqm)) hok hr;rw[<-hnr]at hA;exact hA)) Z Z ?_
 rintro _ w16 ⟨p2,rfl,hap2,hnp2⟩;replace H:=H.learn hnp2.2 (tz w0 w5.heap.size w16.heap.size p2) ⟨H.size,hnp2.1⟩ (ao _) (ao _);clear hnp2
 refine G (Yu Z)<|G (Xa Z Z)<|G (Xi Z Z)<|bo H 0 (#[J (p2.epoch),J (p2.leader),.slice p2.iA p2.isr.length p2.iC,.slice p2.kA p2.known.length p2.kC,.slice p2.rA p2.reps.length p2.rC,J (p2.few),J (p2.base)]) aK Z Z Z Z Z N N fun w17 H=>G (Wi Z)<|U ?_
 obtain rfl:z=((i4 q.p.a r).1,0,(i4 q.p.a r).2):=by rw[<-hz];unfold lP;rw[if_neg h33,if_neg h43,if_neg h52,if_neg h63,if_neg h72,if_pos h81,htr]
 exact⟨(p2,_,_),⟨hap2,H⟩,kZ Z Z,Qg⟩
 refine G (Wb Z)<|U<|ZF Z<|W<|Zr ?_
 refine cU (bl Z Z) Z Z Z (fun h90=> ?_) (fun h90=> ?_)
 refine G (Wb Z)<|U<|ZT Z<|Zr<|G (Zw aG H 0 Z Z Z)<|G (Zf eP Z)<|G (Zd aj H 2 Z Z Z)<|bY Bb ((by have hA:=GK q.p r _ (Hp.paM H (hps q hqm)) hok hr;rw[<-hnr]at hA;exact hA)) Z Z ?_
 rintro _ w18 ⟨p2,rfl,hap2,hnp2⟩;replace H:=H.learn hnp2.2 (tz w0 w5.heap.size w18.heap.size p2) ⟨H.size,hnp2.1⟩ (ao _) (ao _);clear hnp2
 refine G (Yu Z)<|G (Xa Z Z)<|G (Xi Z Z)<|bo H 0 (#[J (p2.epoch),J (p2.leader),.slice p2.iA p2.isr.length p2.iC,.slice p2.kA p2.known.length p2.kC,.slice p2.rA p2.reps.length p2.rC,J (p2.few),J (p2.base)]) aK Z Z Z Z Z N N fun w19 H=>G (Wi Z)<|U ?_
 obtain rfl:z=((gW q.p.a r).1,0,(gW q.p.a r).2):=by rw[<-hz];unfold lP;rw[if_neg h33,if_neg h43,if_neg h52,if_neg h63,if_neg h72,if_neg h81,if_pos h90,htr]
 exact⟨(p2,_,_),⟨hap2,H⟩,kZ Z Z,Qg⟩
 refine G (Wb Z)<|U<|ZF Z<|Zr<|G (Zw aG H 0 Z Z Z)<|G (Zf eP Z)<|G (Zd aj H 2 Z Z Z)<|bY Bc ((by have hA:=GN q.p r _ (Hp.paM H (hps q hqm)) hok hr;rw[<-hnr]at hA;exact hA)) Z Z ?_
 rintro _ w20 ⟨p2,rfl,hap2,hnp2⟩;replace H:=H.learn hnp2.2 (tz w0 w5.heap.size w20.heap.size p2) ⟨H.size,hnp2.1⟩ (ao _) (ao _);clear hnp2
 refine G (Yu Z)<|G (Xa Z Z)<|G (Xi Z Z)<|bo H 0 (#[J (p2.epoch),J (p2.leader),.slice p2.iA p2.isr.length p2.iC,.slice p2.kA p2.known.length p2.kC,.slice p2.rA p2.reps.length p2.rC,J (p2.few),J (p2.base)]) aK Z Z Z Z Z N N fun w21 H=>G (Wi Z)<|U ?_
 obtain rfl:z=((fI q.p.a r).1,0,(fI q.p.a r).2):=by rw[<-hz];unfold lP;rw[if_neg h33,if_neg h43,if_neg h52,if_neg h63,if_neg h72,if_neg h81,if_neg h90,htr]
 exact⟨(p2,_,_),⟨hap2,H⟩,kZ Z Z,Qg⟩
 rintro⟨p2,lo,hi⟩ ρ1 w22 ⟨hap2,H⟩
 show CW _ _ _ _ (dA (gC _ _ ρ1) [(6,J z.2.1),(7,J z.2.2)]) w22
 refine W<|W<|Zr<|G (Yi Z) ?_
 refine qt (iO Z Z) Z Z Z (fun h99=> ?_) (fun h99=> ?_)
 refine U<|ZT Z<|W<|Zr<|G (Yi Z)<|bY bN (dP z.2.2 _) Z Z ?_
 rintro _ w23 ⟨rfl,hb⟩;replace H:=H.later hb;clear hb
 refine bo H 1 (#[J (z.2.2),J (0),.slice none 0 0]) aP Z Z Z Z Z N N fun w24 H=>U<|Zt ?_
 exact eO (cs0:= #[J (z.2.2),J (0),.slice none 0 0]) Z aN Z (H.ent (i:=1) Z) Z ⟨⟨ps,some ⟨gP,0,none⟩,pC,co,clo,chi,gr,glo,ghi,sns,snA,snC⟩,by rw[hsp,hz,if_neg h99];exact oP.plain _ _ _,by rw[hsp,hz,if_neg h99];rfl,Bw.shut (X:=[(b5,_),(b4,_),(b3,_)]) row hsn hown (ak _ hco) (ak _ hgr) (fun q hq=>ak _ (hps q hq)) (fun f hf=>ak _ hf) H Z⟩
 refine U<|ZF Z<|Zk<|W ?_
 refine bz bX [0,1,2,3,4,5,6,7,8] [9] [] [0,1,2,3,5,8] (sp []) N N N N Nq (cG _) ?_
 refine aw Z Z Z Z Z (fun w' hw'=>Yp Z)<|aw Z Z Z Z Z (fun w' hw'=>aI Z)<|aw Z Z Z Z Z (fun w' hw'=>Zf aV Z)<|aw Z Z Z Z Z (fun w' hw'=>Zf dJ Z)<|aw Z Z Z Z Z (fun w' hw'=>aU ei Z (aB ((H.later hw').ent (i:=3) Z) Z))<|aw Z Z Z Z Z (fun w' hw'=>Zf dR Z)<|aw Z Z Z Z Z (fun w' hw'=>aU aj Z (aB ((H.later hw').ent (i:=2) Z) Z))<|aw Z Z Z Z Z (fun w' hw'=>je aG Z ((H.later hw').ent (i:=0) Z) Z)<|aw Z Z Z Z Z (fun w' hw'=>cD (k:=n) ig Z (congrArg (Value.int .i64) hna) (by first|omega|(simp only[ab];omega)))<|aS ?_
 intro w25 hw' hF
 replace H:=H.later hw';clear hw' hF
 refine kR H 4 (⟨p2,lo,hi⟩) aK row hq 0 Z Z Z Z Z Z N fun w27 cur26 row26 H=> ?_
 have hs28:(ps.set n (⟨p2,lo,hi⟩))[n]? =some (⟨p2,lo,hi⟩):=am (cF hq).1
 refine U<|W<|Zr<|G (Yi Z)<|G (bi (cs:= #[J (0),J (z.2.1),.slice none 0 0]) iE dm N)<|bo H 1 (#[J (0),J (z.2.1),.slice none 0 0]) aP Z Z Z Z Z N N fun w29 H=>U<|Zt ?_
 have hz0:z.2.2=0:=by simpa using h99
 exact eO (cs0:= #[J (0),J (z.2.1),.slice none 0 0]) Z aN Z (H.ent (i:=1) Z) Z ⟨⟨ps.set n ⟨p2,lo,hi⟩,some ⟨gP,0,none⟩,pC,co,clo,chi,gr,glo,ghi,sns,snA,snC⟩,by rw[hsp,hz,if_pos hz0];exact oP.plain _ _ _,by rw[hsp,hz,if_pos hz0,htn];unfold Bk.a;simp only[cz,hap2],Bw.shut (X:=[(b5,_),(b4,_),(b3,_)]) row26 hsn hown (ak _ hco) (ak _ hgr) (fun y hy=>by rcases z6 hy with hy|hy;exact ak _ (hps y hy);rw[hy];exact az ..) (fun f hf=>ak _ hf) H (by simp only[Bk.c,ab])⟩
theorem MY {b:Bk} {a:Act} {z:Gr×Int} (hz:(if a.kind=16 then s6 b.gr.a a.name b.ps.length else if a.kind=18 then xq b.gr.a a.name a.n else sm b.gr.a a.name a.n a.part a.m)=z):BF b.a a=if z.2=0 then({b.a with gr:=z.1},⟨0,z.1.gen,[]⟩)else l9 b.a z.2:=by
 subst hz
 unfold BF GU
 rw[show b.a.ps.length=b.ps.length by show(b.ps.map _).length=_;rw[bA]]
 rfl
theorem MX {w0 w:World} {bb:Nat} {b:Bk} {gP:Nat} {uP:Array Value} {Ls Lo K:List (Nat×Obj)} {F:List cr} (a:Act) (B:Bw w0 w bb b gP uP Ls Lo K F) {k np:Nat} {wt:Int} (hk:k<=1000) (h17:a.kind≠17) (hnm:bM a.name=true) (hm:0<=a.m/\a.m<=1000) (hgi:qV (fun _=>True) wt np k b.gr) (hp4:b.ps.length<=4):db aa lV [.pointer (Qd bb),a.v] w fun v w2=> ∃ b':Bk,oP (BF b.a a).2 v w2/\b'.a=(BF b.a a).1/\xy w0 w2 bb b' K F:=by
 refine aD rx Z Z ?_
 obtain⟨z,hz⟩: ∃ z,(if a.kind=16 then s6 b.gr.a a.name b.ps.length else if a.kind=18 then xq b.gr.a a.name a.n else sm b.gr.a a.name a.n a.part a.m)=z:=⟨_,rfl⟩
 have hsp:=MY hz
 obtain⟨ps,pA,pC,co,clo,chi,gr,glo,ghi,sns,snA,snC⟩:=b
 obtain⟨hpA,row,hsn,hown,hco,hgr,hps,H⟩:=B
 dsimp only at hpA row hsn hown hco hgr hps
 subst hpA
 replace H:Hp w0 w ((bb,.cells #[.slice (Qd gP) ps.length pC,J (co.clock),J (co.next),J (co.wait),.slice co.A co.txs.length co.cap,J (gr.clock),J (gr.wait),J (gr.gen),.slice gr.mA gr.ms.length gr.mC,.slice gr.oA gr.os.length gr.oC,.slice snA sns.length snC] bK (0,0))::(gP,.cells uP bE (0,0))::(Ls++(Lo++K))) F:=H
 dsimp only at hgi hp4 hz
 show CW _ _ _ _ (args [.pointer (Qd bb),.agg #[J (a.kind),.string (a.name),J (a.part),J (a.n),J (a.m),.string (a.text),J (a.lost)]]) w
 refine W<|Zr<|fT H Z Z fun w1 b3 H=>eE H dm Z fun w2 b4 H=>U<|W<|Zr<|G (Yp Z)<|G (aI Z)<|G (Zf aV Z)<|G (Zf jv Z)<|G (jS 5 [J (gr.clock),J (gr.wait),J (gr.gen),.slice gr.mA gr.ms.length gr.mC,.slice gr.oA gr.os.length gr.oC] aQ Z Z (H.ent (i:=2) Z) Z)<|eE H d4 Z fun w3 b5 H=>bo H 0 (#[J (gr.clock),J (gr.wait),J (gr.gen),.slice gr.mA gr.ms.length gr.mC,.slice gr.oA gr.os.length gr.oC]) bC Z Z Z Z Z N N fun w4 H=>U<|W<|Zr<|G (Wi Z)<|U<|W<|W<|Zr<|G (Zf mI Z)<|G (Zd aj H 2 Z Z Z)<|U ?_
 refine eC (τ:=Gr×Nat×Nat) [6,14,15,16,17,18,19,20,21,22,23,24,25,26,27,28,29,30,31,32,33,34,35,36,37,38,39,40,41,42,43,44,45,46,47,48,49,50,51,52,53,54,55,56,57,58,59,60,61,62,63,64,65,66,67] (fun _=>[(6,J z.2)]) (fun(g3,lo,hi) w'=>g3.a=z.1/\Hp w0 w' ((b5,.cells #[J (g3.clock),J (g3.wait),J (g3.gen),.slice g3.mA g3.ms.length g3.mC,.slice g3.oA g3.os.length g3.oC] cM (0,0))::(b4,.cells #[J (0),J (0),.slice none 0 0] ec (0,0))::(b3,.cells #[J (a.kind),.string (a.name),J (a.part),J (a.n),J (a.m),.string (a.text),J (a.lost)] fP (0,0))::(bb,.cells #[.slice (Qd gP) ps.length pC,J (co.clock),J (co.next),J (co.wait),.slice co.A co.txs.length co.cap,J (gr.clock),J (gr.wait),J (gr.gen),.slice gr.mA gr.ms.length gr.mC,.slice gr.oA gr.os.length gr.oC,.slice snA sns.length snC] bK (0,0))::(gP,.cells uP bE (0,0))::(Ls++(Lo++K))) (JT w0 lo hi g3::F)) ?_ ?_
 refine Zb<|W<|Zr ?_
 refine cU (bl Z Z) Z Z Z (fun h28=> ?_) (fun h28=> ?_)
 refine G (Wb Z)<|U<|ZT Z ?_
 refine bz bX [0,1,2,3,4,5,6,7,8,9,10,11,12] [13,14] [9] [1,3,4,5,6,8,10,11,12] (sp [(9,Sp.deep w4.heap.size PA (fun g:Gr=>g.c.toArray) (fun cs=> .tuple #[.agg cs,J (s6 gr.a a.name ps.length).2]) (fun cq:Gr=>cq.a=(s6 gr.a a.name ps.length).1))]) N N N N Nq (cG _) ?_
 refine aw Z Z Z Z Z (fun w' hw'=>je aQ Z ((H.later hw').ent (i:=0) Z) Z)<|aw Z Z Z Z Z (fun w' hw'=>Zf fb Z)<|aw Z Z Z Z Z (fun w' hw'=>aU aZ Z (aB ((H.later hw').ent (i:=2) Z) Z))<|aw Z Z Z Z Z (fun w' hw'=>Yp Z)<|aw Z Z Z Z Z (fun w' hw'=>aI Z)<|aw Z Z Z Z Z (fun w' hw'=>Zf aV Z)<|aw Z Z Z Z Z (fun w' hw'=>Zf dJ Z)<|aw Z Z Z Z Z (fun w' hw'=>aU ei Z (aB ((H.later hw').ent (i:=3) Z) Z))<|aw Z Z Z Z Z (fun w' hw'=>bn lS Z)<|sW (gv:=(fun cs=> .tuple #[.agg cs,J (s6 gr.a a.name ps.length).2])) Cb Z Z Z Z Z (fun w' hw'=>hw'.size) (fun w' hw'=>Jd gr a.name ps.length w' (Hp.grM (H.later hw') hgr) hgi.ok hnm hp4 (by have:=hgi.gen;omega)) Z fun cs39=>aw Z Z Z Z Z (fun w' hw'=>Yu Z)<|aw Z Z Z Z Z (fun w' hw'=>Xa Z Z)<|aw Z Z Z Z Z (fun w' hw'=>Xi Z Z)<|aS ?_
 intro w5 hw' hF
 obtain⟨hF,g3,eq,hag3,hrd39⟩:=hF;cases eq
 replace H:=H.learn hw' (JT w0 w4.heap.size w5.heap.size g3) ⟨H.size,hrd39⟩ (ao _) (ao _)
 clear hw' hF
 refine bo H 0 (#[J (g3.clock),J (g3.wait),J (g3.gen),.slice g3.mA g3.ms.length g3.mC,.slice g3.oA g3.os.length g3.oC]) bC Z Z Z Z Z N N fun w6 H=>G (Wi Z)<|U ?_
 obtain rfl:z=s6 gr.a a.name ps.length:=by rw[<-hz,if_pos h28]
 exact⟨(g3,_,_),⟨hag3,H⟩,dI Z,Qg⟩
 refine G (Wb Z)<|U<|ZF Z<|W<|Zr<|G (nF Z Z h17)<|G (Wb Z)<|U<|ZF Z<|W<|Zr ?_
 refine cU (bl Z Z) Z Z Z (fun h58=> ?_) (fun h58=> ?_)
 refine G (Wb Z)<|U<|ZT Z<|Zr<|G (Zw aQ H 0 Z Z Z)<|G (Zf fb Z)<|G (Zd aZ H 2 Z Z Z)<|G (Zf eP Z)<|G (Zd aj H 2 Z Z Z)<|bY Cc (JH gr a.name a.n _ (Hp.grM H hgr) hgi.ok hnm) Z Z ?_
 rintro _ w7 ⟨g3,rfl,hag3,hng3⟩;replace H:=H.learn hng3.2 (JT w0 w4.heap.size w7.heap.size g3) ⟨H.size,hng3.1⟩ (ao _) (ao _);clear hng3
 refine G (Yu Z)<|G (Xa Z Z)<|G (Xi Z Z)<|bo H 0 (#[J (g3.clock),J (g3.wait),J (g3.gen),.slice g3.mA g3.ms.length g3.mC,.slice g3.oA g3.os.length g3.oC]) bC Z Z Z Z Z N N fun w8 H=>G (Wi Z)<|U ?_
 obtain rfl:z=xq gr.a a.name a.n:=by rw[<-hz,if_neg h28,if_pos h58]
 exact⟨(g3,_,_),⟨hag3,H⟩,dI Z,Qg⟩
 refine G (Wb Z)<|U<|ZF Z<|Zr<|G (Zw aQ H 0 Z Z Z)<|G (Zf fb Z)<|G (Zd aZ H 2 Z Z Z)<|G (Zf eP Z)<|G (Zd aj H 2 Z Z Z)<|G (Zf dR Z)<|G (Zd aj H 2 Z Z Z)<|G (Zf FR Z)<|G (Zd aj H 2 Z Z Z)<|bY Bd (Gu gr a.name a.n a.part a.m _ (Hp.grM H hgr) hgi.ok hnm hm.1) Z Z ?_
 rintro _ w9 ⟨g3,rfl,hag3,hng3⟩;replace H:=H.learn hng3.2 (JT w0 w4.heap.size w9.heap.size g3) ⟨H.size,hng3.1⟩ (ao _) (ao _);clear hng3
 refine G (Yu Z)<|G (Xa Z Z)<|G (Xi Z Z)<|bo H 0 (#[J (g3.clock),J (g3.wait),J (g3.gen),.slice g3.mA g3.ms.length g3.mC,.slice g3.oA g3.os.length g3.oC]) bC Z Z Z Z Z N N fun w10 H=>G (Wi Z)<|U ?_
 obtain rfl:z=sm gr.a a.name a.n a.part a.m:=by rw[<-hz,if_neg h28,if_neg h58]
 exact⟨(g3,_,_),⟨hag3,H⟩,dI Z,Qg⟩
 rintro⟨g3,lo,hi⟩ ρ1 w11 ⟨hag3,H⟩
 show CW _ _ _ _ (dA (gC _ _ ρ1) [(6,J z.2)]) w11
 refine W<|W<|Zr<|G (Yi Z) ?_
 refine qt (iO Z Z) Z Z Z (fun h69=> ?_) (fun h69=> ?_)
 refine U<|ZT Z<|W<|Zr<|G (Yi Z)<|bY bN (dP z.2 _) Z Z ?_
 rintro _ w12 ⟨rfl,hb⟩;replace H:=H.later hb;clear hb
 refine bo H 1 (#[J (z.2),J (0),.slice none 0 0]) aP Z Z Z Z Z N N fun w13 H=>U<|Zt ?_
 exact eO (cs0:= #[J (z.2),J (0),.slice none 0 0]) Z aN Z (H.ent (i:=1) Z) Z ⟨⟨ps,some ⟨gP,0,none⟩,pC,co,clo,chi,gr,glo,ghi,sns,snA,snC⟩,by rw[hsp,if_neg h69];exact oP.plain _ _ _,by rw[hsp,if_neg h69];rfl,Bw.shut (X:=[(b5,_),(b4,_),(b3,_)]) row hsn hown (ak _ hco) (ak _ hgr) (fun q hq=>ak _ (hps q hq)) (fun f hf=>ak _ hf) H Z⟩
 refine U<|ZF Z<|Zk<|W<|Zr<|G (Yp Z)<|G (Zw aQ H 0 Z Z Z)<|G (aI Z)<|G (Zf aV Z)<|G (Zf jv Z)<|bo H 3 (#[.slice (Qd gP) ps.length pC,J (co.clock),J (co.next),J (co.wait),.slice co.A co.txs.length co.cap,J (g3.clock),J (g3.wait),J (g3.gen),.slice g3.mA g3.ms.length g3.mC,.slice g3.oA g3.os.length g3.oC,.slice snA sns.length snC]) bC Z Z Z Z Z N N fun w14 H=>U<|W<|Zr<|G (Zf kj Z)<|G (Zd aj H 0 Z Z Z)<|G (bi (cs:= #[J (0),J (g3.gen),.slice none 0 0]) iE dm N)<|bo H 1 (#[J (0),J (g3.gen),.slice none 0 0]) aP Z Z Z Z Z N N fun w15 H=>U<|Zt ?_
 have hz0:z.2=0:=by simpa using h69
 have hgn:z.1.gen=g3.gen:=by rw[<-hag3];rfl
 exact eO (cs0:= #[J (0),J (g3.gen),.slice none 0 0]) Z aN Z (H.ent (i:=1) Z) Z ⟨⟨ps,some ⟨gP,0,none⟩,pC,co,clo,chi,g3,lo,hi,sns,snA,snC⟩,by rw[hsp,if_pos hz0,hgn];exact oP.plain _ _ _,by rw[hsp,if_pos hz0,<-hag3];rfl,Bw.shut (X:=[(b5,_),(b4,_),(b3,_)]) row hsn hown (ak _ hco) (az ..) (fun q hq=>ak _ (hps q hq)) (fun f hf=>ak _ hf) H Z⟩
theorem xy.nil {w0 w:World} {bb:Nat} {b:Bk} {K:List (Nat×Obj)} {F:List cr} (h:xy w0 w bb b K F) (A:Option Addr):xy w0 w bb b K (dE lf 0 0 A []::F):=by
 obtain⟨gP,uP,Ls,Lo,F',B,hF⟩:=h
 exact⟨gP,uP,Ls,Lo,dE lf 0 0 A []::F',⟨B.pA,B.row,B.sn,B.own,ak _ B.co,ak _ B.gr,fun q hq=>ak _ (B.ps q hq),B.H.learnNil 0 (bG _) A⟩,fun f hf=>by
  rcases ax.1 hf with rfl|hf
  exact az ..
  exact ak _ (hF f hf)⟩
theorem Cl {g:Gr} (h:lH g=true) (s:ByteArray) (p:Int):0<=(eN g s p).1:=by
 unfold eN
 split
 exact iV 0
 split
 show 0<=tC g.os p
 unfold tC
 split
 rename_i o ho
 exact((dv.1 h).2.2.1 o (List.mem_of_find?_eq_some ho)).2.2.1
 exact iV 0
 exact iV 0
theorem MI {w0 w:World} {bb:Nat} {b:Bk} {gP:Nat} {uP:Array Value} {Ls Lo K:List (Nat×Obj)} {F:List cr} (a:Act) (B:Bw w0 w bb b gP uP Ls Lo K F) (hnm:bM a.name=true) (hpn:0<=a.part/\a.part<b.ps.length) {k np:Nat} {wt:Int} (hgi:qV (fun _=>True) wt np k b.gr) (hw:(eN b.gr.a a.name a.part).2≠0):db aa gk [.pointer (Qd bb),a.v] w fun v w2=> ∃ (x:An) (A:Option Addr) (c lo hi:Nat),qS b.a a x/\v=.agg #[J x.code,J x.n,.slice A x.texts.length c]/\x.texts.length<=c/\xy w0 w2 bb b K (dE lf lo hi A x.texts::F):=by
 refine aD iq Z Z ?_
 have hP:qS b.a a _:=.no hw
 obtain⟨ps,pA,pC,co,clo,chi,gr,glo,ghi,sns,snA,snC⟩:=b
 obtain⟨hpA,row,hsn,hown,hco,hgr,hps,H⟩:=B
 dsimp only at hpA row hsn hown hco hgr hps
 subst hpA
 replace H:Hp w0 w ((bb,.cells #[.slice (Qd gP) ps.length pC,J (co.clock),J (co.next),J (co.wait),.slice co.A co.txs.length co.cap,J (gr.clock),J (gr.wait),J (gr.gen),.slice gr.mA gr.ms.length gr.mC,.slice gr.oA gr.os.length gr.oC,.slice snA sns.length snC] bK (0,0))::(gP,.cells uP bE (0,0))::(Ls++(Lo++K))) F:=H
 dsimp only at hpn hgi hw
 show CW _ _ _ _ (args [.pointer (Qd bb),.agg #[J (a.kind),.string (a.name),J (a.part),J (a.n),J (a.m),.string (a.text),J (a.lost)]]) w
 refine W<|Zr<|fT H Z Z fun w1 b3 H=>eE H dm Z fun w2 b4 H=>U<|W<|W<|Zr<|G (Yp Z)<|G (Zf dR Z)<|G (Zd aj H 1 Z Z Z)<|bY dW (oa bb ⟨ps,some ⟨gP,0,none⟩,pC,co,clo,chi,gr,glo,ghi,sns,snA,snC⟩ a.part _ (H.ent (i:=2) Z)) Z Z ?_
 rintro _ w3 ⟨rfl,hb⟩;replace H:=H.later hb;clear hb
 rw[decide_eq_true hpn]
 refine G (dF Z)<|U<|ZF Z<|Zk<|W ?_
 refine bz bX [0,1,2,3,4,5,6,7,8,9,10,11,12,13,14] [] [9] [0,1,2,3,5,7,10,11,12,13,14] (sp [(9,Sp.one (.tuple #[J (eN gr.a a.name a.part).1,J (eN gr.a a.name a.part).2]))]) N N N N Nq (cG _) ?_
 refine aw Z Z Z Z Z (fun w' hw'=>Yp Z)<|aw Z Z Z Z Z (fun w' hw'=>aI Z)<|aw Z Z Z Z Z (fun w' hw'=>Zf aV Z)<|aw Z Z Z Z Z (fun w' hw'=>Zf jv Z)<|aw Z Z Z Z Z (fun w' hw'=>jS 5 [J (gr.clock),J (gr.wait),J (gr.gen),.slice gr.mA gr.ms.length gr.mC,.slice gr.oA gr.os.length gr.oC] aQ Z Z ((H.later hw').ent (i:=2) Z) Z)<|aw Z Z Z Z Z (fun w' hw'=>Zf fb Z)<|aw Z Z Z Z Z (fun w' hw'=>aU aZ Z (aB ((H.later hw').ent (i:=1) Z) Z))<|aw Z Z Z Z Z (fun w' hw'=>Zf dR Z)<|aw Z Z Z Z Z (fun w' hw'=>aU aj Z (aB ((H.later hw').ent (i:=1) Z) Z))<|gN mM Z Z Z Z Z (fun w' hw'=>sj gr a.name a.part w' (Hp.grM (H.later hw') hgr) hgi.ok hnm) Z<|aw Z Z Z Z Z (fun w' hw'=>Yu Z)<|aw Z Z Z Z Z (fun w' hw'=>Xi Z Z)<|aw Z Z Z Z Z (fun w' hw'=>Xi Z Z)<|aw Z Z Z Z Z (fun w' hw'=>Wi Z)<|aw Z Z Z Z Z (fun w' hw'=>Wi Z)<|aS ?_
 intro w4 hw' hF
 replace H:=H.later hw';clear hw' hF
 refine U<|W<|W<|Zr<|G (Yi Z)<|G (j8 Z Z hw)<|U<|ZT Z<|W<|Zr<|G (Yi Z)<|bY bN (dP (eN gr.a a.name a.part).2 _) Z Z ?_
 rintro _ w5 ⟨rfl,hb⟩;replace H:=H.later hb;clear hb
 refine bo H 0 (#[J ((eN gr.a a.name a.part).2),J (0),.slice none 0 0]) aP Z Z Z Z Z N N fun w6 H=>U<|Zt ?_
 exact eO (cs0:= #[J ((eN gr.a a.name a.part).2),J (0),.slice none 0 0]) Z aN Z (H.ent (i:=0) Z) Z ⟨_,none,0,0,0,hP,rfl,ao _,xy.nil (Bw.shut (X:=[(b4,_),(b3,_)]) row hsn hown hco hgr hps (fun _ h=>h) H Z) none⟩
theorem IV {w0 w:World} {bb:Nat} {b:Bk} {gP:Nat} {uP:Array Value} {Ls Lo K:List (Nat×Obj)} {F:List cr} (a:Act) (B:Bw w0 w bb b gP uP Ls Lo K F) (hnm:bM a.name=true) (hpn:0<=a.part/\a.part<b.ps.length) (hn:1<=a.n/\a.n<=20) {k np:Nat} {wt:Int} (hgi:qV (fun _=>True) wt np k b.gr) (hpk: ∀ q∈b.ps,q.p.a.ok) (hw:(eN b.gr.a a.name a.part).2=0) (hl: ∀ q,b.ps[a.part.toNat]? =some q->q.p.leader<0):db aa gk [.pointer (Qd bb),a.v] w fun v w2=> ∃ (x:An) (A:Option Addr) (c lo hi:Nat),qS b.a a x/\v=.agg #[J x.code,J x.n,.slice A x.texts.length c]/\x.texts.length<=c/\xy w0 w2 bb b K (dE lf lo hi A x.texts::F):=by
 refine aD iq Z Z ?_
 obtain⟨n,hna⟩: ∃ n:Nat,a.part=(n:Int):=⟨a.part.toNat,by omega⟩
 have htn:a.part.toNat=n:=by omega
 obtain⟨m,hnm2⟩: ∃ m:Nat,a.n=(m:Int):=⟨a.n.toNat,by omega⟩
 have htm:a.n.toNat=m:=by omega
 obtain⟨q,hq⟩: ∃ q,b.ps[n]? =some q:=⟨_,ah I⟩
 have hqm:=ae hq
 have hok:=hpk q hqm
 have hqa:b.a.ps[a.part.toNat]? =some q.p.a:=by rw[htn];show(b.ps.map fun q=>q.p.a)[n]? =_;rw[aL,hq];rfl
 have hlq:=hl q (by rw[htn];exact hq)
 have hP:qS b.a a _:=.yes q.p.a _ hw hqa (.none hlq)
 obtain⟨ps,pA,pC,co,clo,chi,gr,glo,ghi,sns,snA,snC⟩:=b
 obtain⟨hpA,row,hsn,hown,hco,hgr,hps,H⟩:=B
 dsimp only at hpA row hsn hown hco hgr hps
 subst hpA
 replace H:Hp w0 w ((bb,.cells #[.slice (Qd gP) ps.length pC,J (co.clock),J (co.next),J (co.wait),.slice co.A co.txs.length co.cap,J (gr.clock),J (gr.wait),J (gr.gen),.slice gr.mA gr.ms.length gr.mC,.slice gr.oA gr.os.length gr.oC,.slice snA sns.length snC] bK (0,0))::(gP,.cells uP bE (0,0))::(Ls++(Lo++K))) F:=H
 dsimp only at hpn hgi hw hq hqm
 show CW _ _ _ _ (args [.pointer (Qd bb),.agg #[J (a.kind),.string (a.name),J (a.part),J (a.n),J (a.m),.string (a.text),J (a.lost)]]) w
 refine W<|Zr<|fT H Z Z fun w1 b3 H=>eE H dm Z fun w2 b4 H=>U<|W<|W<|Zr<|G (Yp Z)<|G (Zf dR Z)<|G (Zd aj H 1 Z Z Z)<|bY dW (oa bb ⟨ps,some ⟨gP,0,none⟩,pC,co,clo,chi,gr,glo,ghi,sns,snA,snC⟩ a.part _ (H.ent (i:=2) Z)) Z Z ?_
 rintro _ w3 ⟨rfl,hb⟩;replace H:=H.later hb;clear hb
 rw[decide_eq_true hpn]
 refine G (dF Z)<|U<|ZF Z<|Zk<|W ?_
 refine bz bX [0,1,2,3,4,5,6,7,8,9,10,11,12,13,14] [] [9] [0,1,2,3,5,7,10,11,12,13,14] (sp [(9,Sp.one (.tuple #[J (eN gr.a a.name a.part).1,J (eN gr.a a.name a.part).2]))]) N N N N Nq (cG _) ?_
 refine aw Z Z Z Z Z (fun w' hw'=>Yp Z)<|aw Z Z Z Z Z (fun w' hw'=>aI Z)<|aw Z Z Z Z Z (fun w' hw'=>Zf aV Z)<|aw Z Z Z Z Z (fun w' hw'=>Zf jv Z)<|aw Z Z Z Z Z (fun w' hw'=>jS 5 [J (gr.clock),J (gr.wait),J (gr.gen),.slice gr.mA gr.ms.length gr.mC,.slice gr.oA gr.os.length gr.oC] aQ Z Z ((H.later hw').ent (i:=2) Z) Z)<|aw Z Z Z Z Z (fun w' hw'=>Zf fb Z)<|aw Z Z Z Z Z (fun w' hw'=>aU aZ Z (aB ((H.later hw').ent (i:=1) Z) Z))<|aw Z Z Z Z Z (fun w' hw'=>Zf dR Z)<|aw Z Z Z Z Z (fun w' hw'=>aU aj Z (aB ((H.later hw').ent (i:=1) Z) Z))<|gN mM Z Z Z Z Z (fun w' hw'=>sj gr a.name a.part w' (Hp.grM (H.later hw') hgr) hgi.ok hnm) Z<|aw Z Z Z Z Z (fun w' hw'=>Yu Z)<|aw Z Z Z Z Z (fun w' hw'=>Xi Z Z)<|aw Z Z Z Z Z (fun w' hw'=>Xi Z Z)<|aw Z Z Z Z Z (fun w' hw'=>Wi Z)<|aw Z Z Z Z Z (fun w' hw'=>Wi Z)<|aS ?_
 intro w4 hw' hF
 replace H:=H.later hw';clear hw' hF
 refine U<|W<|W<|Zr<|G (Yi Z)<|G (bW Z Z I)<|U<|ZF Z<|Zk<|W ?_
 refine Ho bX [12,13,14,15,16,17,18,19] [] [0,1,2,3,5,7,9,10]<|jx [0,1,2,3,4,5,6,7,8,9,10,11] [12,13,14,15,16,17,18,19] [] [0,1,2,3,5,7,9,10] 7 _ N N N Nq<|aw Z Z Z Z Z (fun w' hw'=>Yp Z)<|aw Z Z Z Z Z (fun w' hw'=>aI Z)<|aw Z Z Z Z Z (fun w' hw'=>Zf aV Z)<|aw Z Z Z Z Z (fun w' hw'=>Zf dJ Z)<|aw Z Z Z Z Z (fun w' hw'=>aU ei Z (aB ((H.later hw').ent (i:=2) Z) Z))<|aw Z Z Z Z Z (fun w' hw'=>Zf dR Z)<|aw Z Z Z Z Z (fun w' hw'=>aU aj Z (aB ((H.later hw').ent (i:=1) Z) Z))<|aw Z Z Z Z Z (fun w' hw'=>cD (k:=n) ig Z (congrArg (Value.int .i64) hna) (by first|omega|(simp only[ab];omega)))<|aw Z Z Z Z Z (fun w' hw'=>oR aG row hq Z Z ((H.later hw').ent (i:=3) Z))<|aw Z Z Z Z Z (fun w' hw'=>Yi Z)<|aw Z Z Z Z Z (fun w' hw'=>Zf eP Z)<|aw Z Z Z Z Z (fun w' hw'=>aU aj Z (aB ((H.later hw').ent (i:=1) Z) Z))<|aS ?_
 intro w5 hw' _;replace H:=H.later hw';clear hw'
 refine dd 12 N Z<|bY sU (GM q.p (eN gr.a a.name a.part).1 a.n _ (Hp.paM H (hps q hqm)) hok hlq) Z Z ?_
 rintro _ w6 ⟨rfl,hb⟩;replace H:=H.later hb;clear hb
 refine U<|bx 13 N N N Z Z Z Z Nq (fun _=>Yu Z)<|bx 14 N N N Z Z Z Z Nq (fun _=>Xs Z Z)<|bx 15 N N N Z Z Z Z Nq (fun _=>Xi Z Z)<|bx 16 N N N Z Z Z Z Nq (fun _=>Xi Z Z)<|bx 17 N N N Z Z Z Z Nq (fun _=>Ws Z)<|bx 18 N N N Z Z Z Z Nq (fun _=>Wi Z)<|bx 19 N N N Z Z Z Z Nq (fun _=>Wi Z)<|cB N<|W<|W<|Zr<|G (Yi Z)<|G (j8 Z Z (by decide))<|U<|ZT Z<|W<|Zr<|G (Yi Z)<|bY bN (dP 8 _) Z Z ?_
 rintro _ w7 ⟨rfl,hb⟩;replace H:=H.later hb;clear hb
 refine bo H 0 (#[J (8),J (0),.slice none 0 0]) aP Z Z Z Z Z N N fun w8 H=>U<|Zt ?_
 exact eO (cs0:= #[J (8),J (0),.slice none 0 0]) Z aN Z (H.ent (i:=0) Z) Z ⟨_,none,0,0,0,hP,rfl,ao _,xy.nil (Bw.shut (X:=[(b4,_),(b3,_)]) row hsn hown hco hgr hps (fun _ h=>h) H Z) none⟩
theorem GH {w0 w:World} {bb:Nat} {b:Bk} {gP:Nat} {uP:Array Value} {Ls Lo K:List (Nat×Obj)} {F:List cr} (a:Act) (B:Bw w0 w bb b gP uP Ls Lo K F) (hnm:bM a.name=true) (hpn:0<=a.part/\a.part<b.ps.length) (hn:1<=a.n/\a.n<=20) {k np:Nat} {wt:Int} (hgi:qV (fun _=>True) wt np k b.gr) (hpk: ∀ q∈b.ps,q.p.a.ok) (hw:(eN b.gr.a a.name a.part).2=0) {l:Nat} {r:fd} (hld: ∀ q,b.ps[a.part.toNat]? =some q->q.p.leader=l/\q.p.reps[l]? =some r) (hr:r.es.length<(eN b.gr.a a.name a.part).1.toNat):db aa gk [.pointer (Qd bb),a.v] w fun v w2=> ∃ (x:An) (A:Option Addr) (c lo hi:Nat),qS b.a a x/\v=.agg #[J x.code,J x.n,.slice A x.texts.length c]/\x.texts.length<=c/\xy w0 w2 bb b K (dE lf lo hi A x.texts::F):=by
 refine aD iq Z Z ?_
 obtain⟨n,hna⟩: ∃ n:Nat,a.part=(n:Int):=⟨a.part.toNat,by omega⟩
 have htn:a.part.toNat=n:=by omega
 obtain⟨m,hnm2⟩: ∃ m:Nat,a.n=(m:Int):=⟨a.n.toNat,by omega⟩
 have htm:a.n.toNat=m:=by omega
 obtain⟨q,hq⟩: ∃ q,b.ps[n]? =some q:=⟨_,ah I⟩
 have hqm:=ae hq
 have hok:=hpk q hqm
 have hqa:b.a.ps[a.part.toNat]? =some q.p.a:=by rw[htn];show(b.ps.map fun q=>q.p.a)[n]? =_;rw[aL,hq];rfl
 obtain⟨hl1,hl2⟩:=hld q (by rw[htn];exact hq)
 have hra:q.p.a.reps[l]? =some r.a:=by show(q.p.reps.map fd.a)[l]? =_;rw[aL,hl2];rfl
 obtain⟨fr,hfr⟩: ∃ f:Nat,(eN b.gr.a a.name a.part).1=(f:Int):=⟨(eN b.gr.a a.name a.part).1.toNat,by have:=Cl (g:=b.gr.a) ((DR _).2 hgi.ok) a.name a.part;omega⟩
 have htf:(eN b.a.gr a.name a.part).1.toNat=fr:=by show(eN b.gr.a a.name a.part).1.toNat=fr;omega
 have hP:qS b.a a _:=.yes q.p.a _ hw hqa (.range l r.a hl1 hra hr)
 obtain⟨ps,pA,pC,co,clo,chi,gr,glo,ghi,sns,snA,snC⟩:=b
 obtain⟨hpA,row,hsn,hown,hco,hgr,hps,H⟩:=B
 dsimp only at hpA row hsn hown hco hgr hps
 subst hpA
 replace H:Hp w0 w ((bb,.cells #[.slice (Qd gP) ps.length pC,J (co.clock),J (co.next),J (co.wait),.slice co.A co.txs.length co.cap,J (gr.clock),J (gr.wait),J (gr.gen),.slice gr.mA gr.ms.length gr.mC,.slice gr.oA gr.os.length gr.oC,.slice snA sns.length snC] bK (0,0))::(gP,.cells uP bE (0,0))::(Ls++(Lo++K))) F:=H
 dsimp only at hpn hgi hw hq hqm hfr hr
 show CW _ _ _ _ (args [.pointer (Qd bb),.agg #[J (a.kind),.string (a.name),J (a.part),J (a.n),J (a.m),.string (a.text),J (a.lost)]]) w
 refine W<|Zr<|fT H Z Z fun w1 b3 H=>eE H dm Z fun w2 b4 H=>U<|W<|W<|Zr<|G (Yp Z)<|G (Zf dR Z)<|G (Zd aj H 1 Z Z Z)<|bY dW (oa bb ⟨ps,some ⟨gP,0,none⟩,pC,co,clo,chi,gr,glo,ghi,sns,snA,snC⟩ a.part _ (H.ent (i:=2) Z)) Z Z ?_
 rintro _ w3 ⟨rfl,hb⟩;replace H:=H.later hb;clear hb
 rw[decide_eq_true hpn]
 refine G (dF Z)<|U<|ZF Z<|Zk<|W ?_
 refine bz bX [0,1,2,3,4,5,6,7,8,9,10,11,12,13,14] [] [9] [0,1,2,3,5,7,10,11,12,13,14] (sp [(9,Sp.one (.tuple #[J (eN gr.a a.name a.part).1,J (eN gr.a a.name a.part).2]))]) N N N N Nq (cG _) ?_
 refine aw Z Z Z Z Z (fun w' hw'=>Yp Z)<|aw Z Z Z Z Z (fun w' hw'=>aI Z)<|aw Z Z Z Z Z (fun w' hw'=>Zf aV Z)<|aw Z Z Z Z Z (fun w' hw'=>Zf jv Z)<|aw Z Z Z Z Z (fun w' hw'=>jS 5 [J (gr.clock),J (gr.wait),J (gr.gen),.slice gr.mA gr.ms.length gr.mC,.slice gr.oA gr.os.length gr.oC] aQ Z Z ((H.later hw').ent (i:=2) Z) Z)<|aw Z Z Z Z Z (fun w' hw'=>Zf fb Z)<|aw Z Z Z Z Z (fun w' hw'=>aU aZ Z (aB ((H.later hw').ent (i:=1) Z) Z))<|aw Z Z Z Z Z (fun w' hw'=>Zf dR Z)<|aw Z Z Z Z Z (fun w' hw'=>aU aj Z (aB ((H.later hw').ent (i:=1) Z) Z))<|gN mM Z Z Z Z Z (fun w' hw'=>sj gr a.name a.part w' (Hp.grM (H.later hw') hgr) hgi.ok hnm) Z<|aw Z Z Z Z Z (fun w' hw'=>Yu Z)<|aw Z Z Z Z Z (fun w' hw'=>Xi Z Z)<|aw Z Z Z Z Z (fun w' hw'=>Xi Z Z)<|aw Z Z Z Z Z (fun w' hw'=>Wi Z)<|aw Z Z Z Z Z (fun w' hw'=>Wi Z)<|aS ?_
 intro w4 hw' hF
 replace H:=H.later hw';clear hw' hF
 refine U<|W<|W<|Zr<|G (Yi Z)<|G (bW Z Z I)<|U<|ZF Z<|Zk<|W ?_
 refine Ho bX [12,13,14,15,16,17,18,19] [] [0,1,2,3,5,7,9,10]<|jx [0,1,2,3,4,5,6,7,8,9,10,11] [12,13,14,15,16,17,18,19] [] [0,1,2,3,5,7,9,10] 7 _ N N N Nq<|aw Z Z Z Z Z (fun w' hw'=>Yp Z)<|aw Z Z Z Z Z (fun w' hw'=>aI Z)<|aw Z Z Z Z Z (fun w' hw'=>Zf aV Z)<|aw Z Z Z Z Z (fun w' hw'=>Zf dJ Z)<|aw Z Z Z Z Z (fun w' hw'=>aU ei Z (aB ((H.later hw').ent (i:=2) Z) Z))<|aw Z Z Z Z Z (fun w' hw'=>Zf dR Z)<|aw Z Z Z Z Z (fun w' hw'=>aU aj Z (aB ((H.later hw').ent (i:=1) Z) Z))<|aw Z Z Z Z Z (fun w' hw'=>cD (k:=n) ig Z (congrArg (Value.int .i64) hna) (by first|omega|(simp only[ab];omega)))<|aw Z Z Z Z Z (fun w' hw'=>oR aG row hq Z Z ((H.later hw').ent (i:=3) Z))<|aw Z Z Z Z Z (fun w' hw'=>Yi Z)<|aw Z Z Z Z Z (fun w' hw'=>Zf eP Z)<|aw Z Z Z Z Z (fun w' hw'=>aU aj Z (aB ((H.later hw').ent (i:=1) Z) Z))<|aS ?_
 intro w5 hw' _;replace H:=H.later hw';clear hw'
 refine dd 12 N Z<|bY sU ((by have hA:=E6 q.p fr m l r _ (Hp.paM H (hps q hqm)) hok hl1 hl2 I;rw[<-hfr,<-hnm2]at hA;exact hA)) Z Z ?_
 rintro _ w6 ⟨rfl,hb⟩;replace H:=H.later hb;clear hb
 refine U<|bx 13 N N N Z Z Z Z Nq (fun _=>Yu Z)<|bx 14 N N N Z Z Z Z Nq (fun _=>Xs Z Z)<|bx 15 N N N Z Z Z Z Nq (fun _=>Xi Z Z)<|bx 16 N N N Z Z Z Z Nq (fun _=>Xi Z Z)<|bx 17 N N N Z Z Z Z Nq (fun _=>Ws Z)<|bx 18 N N N Z Z Z Z Nq (fun _=>Wi Z)<|bx 19 N N N Z Z Z Z Nq (fun _=>Wi Z)<|cB N<|W<|W<|Zr<|G (Yi Z)<|G (j8 Z Z (by decide))<|U<|ZT Z<|W<|Zr<|G (Yi Z)<|bY bN (dP 2 _) Z Z ?_
 rintro _ w7 ⟨rfl,hb⟩;replace H:=H.later hb;clear hb
 refine bo H 0 (#[J (2),J (0),.slice none 0 0]) aP Z Z Z Z Z N N fun w8 H=>U<|Zt ?_
 exact eO (cs0:= #[J (2),J (0),.slice none 0 0]) Z aN Z (H.ent (i:=0) Z) Z ⟨_,none,0,0,0,hP,rfl,ao _,xy.nil (Bw.shut (X:=[(b4,_),(b3,_)]) row hsn hown hco hgr hps (fun _ h=>h) H Z) none⟩
theorem MH {w0 w:World} {bb:Nat} {b:Bk} {gP:Nat} {uP:Array Value} {Ls Lo K:List (Nat×Obj)} {F:List cr} (a:Act) (B:Bw w0 w bb b gP uP Ls Lo K F) (hnm:bM a.name=true) (hpn:0<=a.part/\a.part<b.ps.length) (hn:1<=a.n/\a.n<=20) {k np:Nat} {wt:Int} (hgi:qV (fun _=>True) wt np k b.gr) (hpk: ∀ q∈b.ps,q.p.a.ok) (hw:(eN b.gr.a a.name a.part).2=0) {l:Nat} {r:fd} (hld: ∀ q,b.ps[a.part.toNat]? =some q->q.p.leader=l/\q.p.reps[l]? =some r) (hr:(eN b.gr.a a.name a.part).1.toNat<=r.es.length):db aa gk [.pointer (Qd bb),a.v] w fun v w2=> ∃ (x:An) (A:Option Addr) (c lo hi:Nat),qS b.a a x/\v=.agg #[J x.code,J x.n,.slice A x.texts.length c]/\x.texts.length<=c/\xy w0 w2 bb b K (dE lf lo hi A x.texts::F):=by
 refine aD iq Z Z ?_
 obtain⟨n,hna⟩: ∃ n:Nat,a.part=(n:Int):=⟨a.part.toNat,by omega⟩
 have htn:a.part.toNat=n:=by omega
 obtain⟨m,hnm2⟩: ∃ m:Nat,a.n=(m:Int):=⟨a.n.toNat,by omega⟩
 have htm:a.n.toNat=m:=by omega
 obtain⟨q,hq⟩: ∃ q,b.ps[n]? =some q:=⟨_,ah I⟩
 have hqm:=ae hq
 have hok:=hpk q hqm
 have hqa:b.a.ps[a.part.toNat]? =some q.p.a:=by rw[htn];show(b.ps.map fun q=>q.p.a)[n]? =_;rw[aL,hq];rfl
 obtain⟨hl1,hl2⟩:=hld q (by rw[htn];exact hq)
 have hra:q.p.a.reps[l]? =some r.a:=by show(q.p.reps.map fd.a)[l]? =_;rw[aL,hl2];rfl
 obtain⟨fr,hfr⟩: ∃ f:Nat,(eN b.gr.a a.name a.part).1=(f:Int):=⟨(eN b.gr.a a.name a.part).1.toNat,by have:=Cl (g:=b.gr.a) ((DR _).2 hgi.ok) a.name a.part;omega⟩
 have htf:(eN b.a.gr a.name a.part).1.toNat=fr:=by show(eN b.gr.a a.name a.part).1.toNat=fr;omega
 have hP: ∀ st out bt,tR (r.es.take r.high.toNat) st->Bp r.es r.high.toNat st fr m out bt->qS b.a a ⟨0,(bt:Nat),out⟩:=fun st out bt h1 h2=> .yes q.p.a _ hw hqa (.ok l r.a st out bt hl1 hra (by rw[htf];show fr<=r.es.length;omega) h1 (by rw[htf,htm];exact h2))
 obtain⟨ps,pA,pC,co,clo,chi,gr,glo,ghi,sns,snA,snC⟩:=b
 obtain⟨hpA,row,hsn,hown,hco,hgr,hps,H⟩:=B
 dsimp only at hpA row hsn hown hco hgr hps
 subst hpA
 replace H:Hp w0 w ((bb,.cells #[.slice (Qd gP) ps.length pC,J (co.clock),J (co.next),J (co.wait),.slice co.A co.txs.length co.cap,J (gr.clock),J (gr.wait),J (gr.gen),.slice gr.mA gr.ms.length gr.mC,.slice gr.oA gr.os.length gr.oC,.slice snA sns.length snC] bK (0,0))::(gP,.cells uP bE (0,0))::(Ls++(Lo++K))) F:=H
 dsimp only at hpn hgi hw hq hqm hfr hr hP
 show CW _ _ _ _ (args [.pointer (Qd bb),.agg #[J (a.kind),.string (a.name),J (a.part),J (a.n),J (a.m),.string (a.text),J (a.lost)]]) w
 refine W<|Zr<|fT H Z Z fun w1 b3 H=>eE H dm Z fun w2 b4 H=>U<|W<|W<|Zr<|G (Yp Z)<|G (Zf dR Z)<|G (Zd aj H 1 Z Z Z)<|bY dW (oa bb ⟨ps,some ⟨gP,0,none⟩,pC,co,clo,chi,gr,glo,ghi,sns,snA,snC⟩ a.part _ (H.ent (i:=2) Z)) Z Z ?_
 rintro _ w3 ⟨rfl,hb⟩;replace H:=H.later hb;clear hb
 rw[decide_eq_true hpn]
 refine G (dF Z)<|U<|ZF Z<|Zk<|W ?_
 refine bz bX [0,1,2,3,4,5,6,7,8,9,10,11,12,13,14] [] [9] [0,1,2,3,5,7,10,11,12,13,14] (sp [(9,Sp.one (.tuple #[J (eN gr.a a.name a.part).1,J (eN gr.a a.name a.part).2]))]) N N N N Nq (cG _) ?_
 refine aw Z Z Z Z Z (fun w' hw'=>Yp Z)<|aw Z Z Z Z Z (fun w' hw'=>aI Z)<|aw Z Z Z Z Z (fun w' hw'=>Zf aV Z)<|aw Z Z Z Z Z (fun w' hw'=>Zf jv Z)<|aw Z Z Z Z Z (fun w' hw'=>jS 5 [J (gr.clock),J (gr.wait),J (gr.gen),.slice gr.mA gr.ms.length gr.mC,.slice gr.oA gr.os.length gr.oC] aQ Z Z ((H.later hw').ent (i:=2) Z) Z)<|aw Z Z Z Z Z (fun w' hw'=>Zf fb Z)<|aw Z Z Z Z Z (fun w' hw'=>aU aZ Z (aB ((H.later hw').ent (i:=1) Z) Z))<|aw Z Z Z Z Z (fun w' hw'=>Zf dR Z)<|aw Z Z Z Z Z (fun w' hw'=>aU aj Z (aB ((H.later hw').ent (i:=1) Z) Z))<|gN mM Z Z Z Z Z (fun w' hw'=>sj gr a.name a.part w' (Hp.grM (H.later hw') hgr) hgi.ok hnm) Z<|aw Z Z Z Z Z (fun w' hw'=>Yu Z)<|aw Z Z Z Z Z (fun w' hw'=>Xi Z Z)<|aw Z Z Z Z Z (fun w' hw'=>Xi Z Z)<|aw Z Z Z Z Z (fun w' hw'=>Wi Z)<|aw Z Z Z Z Z (fun w' hw'=>Wi Z)<|aS ?_
 intro w4 hw' hF
 replace H:=H.later hw';clear hw' hF
 refine U<|W<|W<|Zr<|G (Yi Z)<|G (bW Z Z I)<|U<|ZF Z<|Zk<|W ?_
 refine Ho bX [12,13,14,15,16,17,18,19] [] [0,1,2,3,5,7,9,10]<|jx [0,1,2,3,4,5,6,7,8,9,10,11] [12,13,14,15,16,17,18,19] [] [0,1,2,3,5,7,9,10] 7 _ N N N Nq<|aw Z Z Z Z Z (fun w' hw'=>Yp Z)<|aw Z Z Z Z Z (fun w' hw'=>aI Z)<|aw Z Z Z Z Z (fun w' hw'=>Zf aV Z)<|aw Z Z Z Z Z (fun w' hw'=>Zf dJ Z)<|aw Z Z Z Z Z (fun w' hw'=>aU ei Z (aB ((H.later hw').ent (i:=2) Z) Z))<|aw Z Z Z Z Z (fun w' hw'=>Zf dR Z)<|aw Z Z Z Z Z (fun w' hw'=>aU aj Z (aB ((H.later hw').ent (i:=1) Z) Z))<|aw Z Z Z Z Z (fun w' hw'=>cD (k:=n) ig Z (congrArg (Value.int .i64) hna) (by first|omega|(simp only[ab];omega)))<|aw Z Z Z Z Z (fun w' hw'=>oR aG row hq Z Z ((H.later hw').ent (i:=3) Z))<|aw Z Z Z Z Z (fun w' hw'=>Yi Z)<|aw Z Z Z Z Z (fun w' hw'=>Zf eP Z)<|aw Z Z Z Z Z (fun w' hw'=>aU aj Z (aB ((H.later hw').ent (i:=1) Z) Z))<|aS ?_
 intro w5 hw' _;replace H:=H.later hw';clear hw'
 refine dd 12 N Z<|bY sU ((by have hA:=KE q.p fr m l r _ (Hp.paM H (hps q hqm)) hok hl1 hl2 I I I;rw[<-hfr,<-hnm2]at hA;exact hA)) Z Z ?_
 rintro _ w6 ⟨sb,out,bt,A7,c7,hst7,hrd7,rfl,hr7,hc7,hb7⟩;replace H:=H.learnRd hb7 hr7;clear hr7 hb7
 refine U<|bx 13 N N N Z Z Z Z Nq (fun _=>Yu Z)<|bx 14 N N N Z Z Z Z Nq (fun _=>Xs Z Z)<|bx 15 N N N Z Z Z Z Nq (fun _=>Xi Z Z)<|bx 16 N N N Z Z Z Z Nq (fun _=>Xi Z Z)<|bx 17 N N N Z Z Z Z Nq (fun _=>Ws Z)<|bx 18 N N N Z Z Z Z Nq (fun _=>Wi Z)<|bx 19 N N N Z Z Z Z Nq (fun _=>Wi Z)<|cB N<|W<|W<|Zr<|G (Yi Z)<|G (bW Z Z (by decide))<|U<|ZF Z<|Zk<|W<|Zr<|G (Yi Z)<|G (Ys Z)<|G (bi (cs:= #[J (0),J ((bt:Nat)),.slice A7 out.length c7]) iE dm N)<|bo H 0 (#[J (0),J ((bt:Nat)),.slice A7 out.length c7]) aP Z Z Z Z Z N N fun w7 H=>U<|Zt ?_
 exact eO (cs0:= #[J (0),J ((bt:Nat)),.slice A7 out.length c7]) Z aN Z (H.ent (i:=0) Z) Z ⟨_,A7,c7,_,_,hP _ _ _ hst7 hrd7,rfl,hc7,Bw.shut (X:=[(b4,_),(b3,_)]) row hsn hown (ak _ hco) (ak _ hgr) (fun q hq=>ak _ (hps q hq)) (fun _ h=>h) H Z⟩
section
/-- an act that the laws play -/
structure r8 (np nr:Nat) (a:Act):Prop where
 kind:1<=a.kind/\a.kind<=20/\a.kind≠17
 name:a.kind=1∨a.kind=16∨a.kind=18∨a.kind=19∨a.kind=20->bM a.name=true
 part:0<=a.part/\a.part<np
 n:0<=a.n/\a.n<=1000
 rep:8<=a.kind->a.kind<=15->a.n<nr
 fin:a.kind=5->a.n<=1
 poll:a.kind=19->1<=a.n/\a.n<=20
 m:0<=a.m/\a.m<=1000
 text:a.text.size<=40
 lost:0<=a.lost/\a.lost<=2
def xv (w:Wa) (a:Act):Wa×An:=
 if a.kind=1 then pd w a else if a.kind=2 then kW w a else if a.kind=3∨a.kind=4 then m4 w a (decide (a.kind=4))else if a.kind=5 then jU w a else
 if a.kind=6 then oc w a else if a.kind=7 then yr w a else if a.kind<=15 then vk w a else BF w a
inductive Ex (w:Wa) (a:Act):Wa->An->Prop
 |poll (x:An):a.kind=19->qS w a x->Ex w a w x
 |other:a.kind≠19->Ex w a (xv w a).1 (xv w a).2
def JX (p:gz):Prop:= ∀ (i:Nat) (x:RA),p.reps[i]? =some x->Ge x.es
theorem JX.set {p:gz} (h:JX p) {r:Nat} {x':RA} (hx:Ge x'.es):JX {p with reps:=p.reps.set r x'}:=fun i y hy=>by
 rcases eV hy with⟨_,rfl⟩|⟨_,hy⟩
 exact hx
 exact h i y hy
theorem JX.adv {p:gz} (h:JX p):JX (nP p):=fun i y hy=>by
 obtain⟨z,hz,he,-,-⟩:=Es hy
 rw[he];exact h i z hz
def Gt (K:List cO) (m n:Nat) (few:Int) (p:gz):Prop:=Gd (fun _=>True) K m n few p/\JX p
theorem GV {K:List cO} {p:gz} (h:zf K p) {i j:Nat} {x y:RA} (hx:p.reps[i]? =some x) (hy:p.reps[j]? =some y):x.es.take (ee x.es y.es)=y.es.take (ee x.es y.es):=by
 cases hc:ee x.es y.es with
 |zero=>simp
 |succ c=>
  obtain⟨e,f,h1,h2,h3⟩:=vS (a:=x.es) (b:=y.es) (k:=c) I
  exact h.lm i j x y c e f hx hy h1 h2 h3
theorem Jp {K:List cO} {p:gz} {r:Nat} (hp:p.ok) (hi:zf K p) (h:JX p) (he:(iY p r).2.2=0):JX (iY p r).1:=by
 obtain⟨x,y,l,hx,hl,hne,hu,hy⟩:=CT hp he
 rw[uK hx hl hne hu hy]
 have hm:=GV hi hx hy
 intro i z hz
 rcases eV hz with⟨_,rfl⟩|⟨_,hz⟩
 unfold jV
 split
 rename_i z hz
 dsimp only
 rw[hm,<-eK hz];exact(h l y hy).take _
 dsimp only
 exact(h r x hx).take _
 rcases eV hz with⟨_,rfl⟩|⟨_,hz⟩
 exact h l y hy
 exact h i z hz
variable {K:List cO} {m n:Nat} {few:Int} {p:gz} {r:Nat}
theorem N4 {e:cO} (h:Gt K m n few p) (hm:m<400) (he:(eD p e).2.2=0): ∃ K',K<+:K'/\Gt K' (m+1) n few (eD p e).1:=by
 obtain⟨K',h1,h2⟩:=N5 h.1 trivial hm he
 refine⟨K',h1,h2,?_⟩
 obtain⟨x,l,hl,hx,hg,hv,hS⟩:=HN he
 rcases hS with⟨-,hS,-⟩|⟨hv1,-,hS,-⟩
 rw[hS];exact h.2
 rw[hS];exact h.2.set (.snoc (h.2 l x hx) hv hv1)
theorem MC {a:Act} (h:Gt K m n few p) (he:(lP p a).2.2=0): ∃ K',K<+:K'/\Gt K' m n few (lP p a).1:=by
 unfold lP at he⊢
 split at he
 rename_i c;rw[if_pos c]
 obtain⟨K',h1,h2⟩:=Lx h.1 he
 exact⟨K',h1,h2,Jp h.1.ok h.1.inv h.2 he⟩
 rename_i c;rw[if_neg c];clear c
 split at he
 rename_i c;rw[if_pos c]
 obtain⟨K',h1,h2⟩:=Mq h.1 he
 refine⟨K',h1,h2,?_⟩
 obtain⟨x,hx,hu,hS⟩:=EI he
 dsimp only at hS⊢
 rw[hS]
 have:=h.2 _ x hx
 split
 exact JX.adv (fun i y hy=>by
  rcases eV hy with⟨_,rfl⟩|⟨_,hy⟩
  exact this
  exact h.2 i y hy)
 exact h.2.set this
 rename_i c;rw[if_neg c];clear c
 split at he
 rename_i c;rw[if_pos c]
 obtain⟨K',h1,h2⟩:=LN h.1 he
 refine⟨K',h1,h2,?_⟩
 obtain⟨x,hx,hu,hS⟩:=CZ he
 dsimp only at hS⊢
 rw[hS]
 intro i y hy
 rcases eV hy with⟨_,rfl⟩|⟨_,hy⟩
 exact(h.2 _ x hx).take _
 exact h.2 i y hy
 rename_i c;rw[if_neg c];clear c
 split at he
 rename_i c;rw[if_pos c]
 obtain⟨K',h1,h2⟩:=MA h.1 he
 refine⟨K',h1,h2,?_⟩
 obtain⟨x,hx,hu,hS⟩:=EY he
 dsimp only at hS⊢
 rw[hS]
 exact h.2.set (h.2 _ x hx)
 rename_i c;rw[if_neg c];clear c
 split at he
 rename_i c;rw[if_pos c]
 obtain⟨K',h1,h2⟩:=Ml h.1 he
 refine⟨K',h1,h2,?_⟩
 obtain⟨x,hx,hu,-,hS⟩:=Ey he
 dsimp only at hS⊢
 rw[hS]
 intro i y hy
 rcases eV hy with⟨_,rfl⟩|⟨_,hy⟩
 exact .nil
 exact h.2 i y hy
 rename_i c;rw[if_neg c];clear c
 split at he
 rename_i c;rw[if_pos c]
 obtain⟨K',h1,h2⟩:=LI h.1 he
 refine⟨K',h1,h2,?_⟩
 obtain⟨x,hx,-,-,-,-,hS⟩:=CX h.1.ok.isrl he
 dsimp only at hS⊢
 rw[hS]
 exact JX.adv fun i y hy=>h.2 i y hy
 rename_i c;rw[if_neg c];clear c
 split at he
 rename_i c;rw[if_pos c]
 obtain⟨K',h1,h2⟩:=IH h.1 he
 refine⟨K',h1,h2,?_⟩
 obtain⟨-,-,hS⟩:=zO he
 dsimp only at hS⊢
 rw[hS]
 exact JX.adv fun i y hy=>h.2 i y hy
 rename_i c;rw[if_neg c]
 obtain⟨K',h1,h2⟩:=Jq h.1 he
 refine⟨K',h1,h2,?_⟩
 obtain⟨x,-,-,-,-,-,hS⟩:=AR he
 dsimp only at hS⊢
 rw[hS]
 exact fun i y hy=>h.2 i y hy
structure Mf (np nr:Nat) (few:Int) (k:Nat) (K:Nat->List cO) (ps:List gz):Prop where
 len:ps.length=np
 gt: ∀ (n:Nat) (p:gz),ps[n]? =some p->Gt (K n) k nr few p
theorem Gt.mono (h:Gt K m n few p) {m':Nat} (hm:m<=m'):Gt K m' n few p:=⟨h.1.mono hm,h.2⟩
theorem Mf.more {np nr k k':Nat} {few:Int} {K:Nat->List cO} {ps:List gz} (h:Mf np nr few k K ps) (hk:k<=k'):Mf np nr few k' K ps:=⟨h.len,fun n p hp=>(h.gt n p hp).mono hk⟩
def Up (K K':Nat->List cO):Prop:= ∀ n,K n<+:K' n
theorem Up.refl (K:Nat->List cO):Up K K:=fun _=>fo _
theorem Up.trans {K K' K2:Nat->List cO} (h:Up K K') (h':Up K' K2):Up K K2:=fun n=>(h n).trans (h' n)
theorem Mf.set {np nr k:Nat} {few:Int} {K:Nat->List cO} {ps:List gz} (h:Mf np nr few k K ps) {n:Nat} {p':gz} (hg: ∃ K',K n<+:K'/\Gt K' k nr few p'): ∃ K',Up K K'/\Mf np nr few k K' (ps.set n p'):=by
 obtain⟨K1,h1,h2⟩:=hg
 refine⟨fun i=>if i=n then K1 else K i,fun i=> ?_,by rw[ab];exact h.len,fun i q hq=> ?_⟩
 dsimp only
 split
 rename_i hi;rw[hi];exact h1
 exact fo _
 rcases eV hq with⟨rfl,rfl⟩|⟨hi,hq⟩
 rw[if_pos Z];exact h2
 rw[if_neg hi];exact h.gt i q hq
structure JY (np k:Nat) (s:Sn):Prop where
 nm:bM s.name=true
 sl:s.seqs.length=np
 ll:s.last.length=np
 sq: ∀ q∈s.seqs,0<=q/\q<=k
structure Cg (np k:Nat) (l:List Sn):Prop where
 each: ∀ s∈l,JY np k s
 few:l.length<=k
theorem JY.more {np k k':Nat} {s:Sn} (h:JY np k s) (hk:k<=k'):JY np k' s:=⟨h.nm,h.sl,h.ll,fun q hq=>by have:=h.sq q hq;omega⟩
theorem Cg.more {np k k':Nat} {l:List Sn} (h:Cg np k l) (hk:k<=k'):Cg np k' l:=⟨fun s hs=>(h.each s hs).more hk,aT h.few hk⟩
theorem Cg.set {np k i:Nat} {l:List Sn} {s:Sn} (h:Cg np k l) (hs:JY np k s):Cg np k (l.set i s):=⟨fun x hx=>by
 rcases bF hx with hx|rfl
 exact h.each x hx
 exact hs,by rw[ab];exact h.few⟩
structure WI (np nr:Nat) (few wt:Int) (k:Nat) (K:Nat->List cO) (w:Wa):Prop where
 ps:Mf np nr few k K w.ps
 co:oO k w.co
 gr:qV (fun _=>True) wt np k w.gr
 sns:Cg np k w.sns
theorem WI.more {np nr k k':Nat} {few wt:Int} {K:Nat->List cO} {w:Wa} (h:WI np nr few wt k K w) (hk:k<=k'):WI np nr few wt k' K w:=⟨h.ps.more hk,h.co.more hk,h.gr.more hk,h.sns.more hk⟩
theorem D6 {l:List Sn} {s:ByteArray} {i:Nat} {x:Sn} (h:((fh l s).bind fun i=>l[i]?.map fun s=>(i,s))=some (i,x)):l[i]? =some x/\x.name=s:=by
 cases hf:fh l s with
 |none=>rw[hf]at h;cases h
 |some j=>
  rw[hf]at h
  obtain⟨hl,h1,-⟩:=bg.1 hf
  simp only[fQ,ah hl,eU,lv,Prod.mk.injEq]at h
  obtain⟨rfl,rfl⟩:=h
  exact⟨ah hl,by simpa using h1⟩
end
abbrev Ql:ByteArray:=⟨#[100,101,101]⟩
def wt2 (k:Nat):Co:=⟨0,2,k,[⟨Ql,1,0,2,[1],0,0,none,0⟩],none,0⟩
section
variable {np nr k:Nat} {few wt:Int} {K:Nat->List cO} {w:Wa} {a:Act}
theorem MV {s:ByteArray} (h:bM s=true) (pid ver:Int) (np k:Nat):JY np k (vm s pid ver np):=⟨h,by simp[vm],by simp[vm],fun q hq=>by
 have:q=0:=by
  unfold vm at hq
  exact fB hq
 omega⟩
theorem MF {l:List Sn} {s:Sn} (h:Cg np k l) (hs:JY np (k+1) s):Cg np (k+1) (EZ l s):=by
 unfold EZ
 split
 refine⟨fun x hx=> ?_,by have:=h.few;simp;omega⟩
 rcases ar.1 hx with hx|hx
 exact(h.each x hx).more (bB k)
 rw[aq.1 hx];exact hs
 exact(h.more (bB k)).set hs
theorem oQ (h:WI np nr few wt k K w) (e:Int): ∃ K',Up K K'/\WI np nr few wt (k+1) K' (l9 w e).1:=⟨K,Up.refl K,h.more (bB k)⟩
theorem M8 (h:WI np nr few wt k K w) (hk:k<400) (hn:bM a.name=true): ∃ K',Up K K'/\WI np nr few wt (k+1) K' (pd w a).1:=by
 unfold pd
 split
 rename_i h0
 exact⟨K,Up.refl K,h.ps.more (bB k),HY h.co I hn h0,h.gr.more (bB k),MF h.sns (by rw[h.ps.len];exact MV hn ..)⟩
 exact oQ h _
theorem LP (h:WI np nr few wt k K w): ∃ K',Up K K'/\WI np nr few wt (k+1) K' (kW w a).1:=by
 unfold kW
 split
 exact oQ h _
 rename_i i s hf
 split
 exact oQ h _
 have hs:=h.sns.each s (ae (D6 hf).1)
 exact⟨K,Up.refl K,h.ps.more (bB k),h.co.more (bB k),h.gr.more (bB k),(h.sns.set (s:={s with inn:=true}) ⟨hs.nm,hs.sl,hs.ll,hs.sq⟩).more (bB k)⟩
theorem Kx (h:Mf np nr few k K w.ps) (hk:k<400) (n:Nat) (x:cO):(∃ K',Up K K'/\Mf np nr few (k+1) K' (uR w n x).1.ps)/\(uR w n x).1.co=w.co/\(uR w n x).1.gr=w.gr/\(uR w n x).1.sns=w.sns:=by
 unfold uR
 split
 exact⟨⟨K,Up.refl K,h.more (bB k)⟩,rfl,rfl,rfl⟩
 rename_i p hp
 split
 rename_i h0
 exact⟨(h.more (bB k)).set (N4 (h.gt n p hp) hk h0),rfl,rfl,rfl⟩
 exact⟨⟨K,Up.refl K,h.more (bB k)⟩,rfl,rfl,rfl⟩
theorem JA (h:Mf np nr few k K w.ps) (hc:oO k w.co) (hk:k<400) (s:Sn) {n:Nat} (hn:n<4):(∃ K',Up K K'/\Mf np nr few (k+1) K' (ej w s n).1.ps)/\oO (k+1) (ej w s n).1.co/\(ej w s n).1.gr=w.gr/\(ej w s n).1.sns=w.sns:=by
 unfold ej
 split
 exact⟨⟨K,Up.refl K,h.more (bB k)⟩,hc.more (bB k),rfl,rfl⟩
 rename_i x hx
 split
 rename_i h0
 obtain⟨h1,h2,h3,h4⟩:=Kx (w:={w with co:=(r4 w s n x).1}) h hk n x
 refine⟨h1,?_,h3,h4⟩
 rw[h2]
 show oO (k+1) (r4 w s n x).1
 unfold r4 at h0⊢
 split
 rename_i ht
 rw[if_pos ht]at h0
 exact In hc I I h0
 exact hc.more (bB k)
 exact⟨⟨K,Up.refl K,h.more (bB k)⟩,hc.more (bB k),rfl,rfl⟩
theorem KT {s:Sn} (h:JY np k s) (n:Nat) (t:ByteArray):JY np (k+1) (pW s n t):=⟨h.nm,by unfold pW;simp[h.sl],by unfold pW;simp[h.ll],fun q hq=>by
 rcases bF hq with hq|rfl
 have:=h.sq q hq;omega
 by_cases hn:n<s.seqs.length
 have:=h.sq (s.seqs.getD n 0) (by rw[bZ,ah hn];exact vH hn);omega
 have:s.seqs.getD n 0=0:=by rw[bZ,cJ I];rfl
 omega⟩
theorem My (h:WI np nr few wt k K w) (hk:k<400) (hp:0<=a.part/\a.part<np) (h4:np<=4) (again:Bool): ∃ K',Up K K'/\WI np nr few wt (k+1) K' (m4 w a again).1:=by
 unfold m4
 split
 exact oQ h _
 rename_i i s hf
 split
 exact oQ h _
 have hs:=h.sns.each s (ae (D6 hf).1)
 have hs1:JY np (k+1) (if again then s else pW s a.part.toNat a.text):=by
  split
  exact hs.more (bB k)
  exact KT hs _ _
 generalize (if again then s else pW s a.part.toNat a.text)=s1 at hs1
 have hl:Cg np (k+1) (w.sns.set i s1):=(h.sns.more (bB k)).set hs1
 dsimp only
 split
 exact⟨K,Up.refl K,h.ps.more (bB k),h.co.more (bB k),h.gr.more (bB k),hl⟩
 obtain⟨⟨K',h1,h2⟩,h3,h5,h6⟩:=JA (w:={w with sns:=w.sns.set i s1}) h.ps h.co hk s1 (n:=a.part.toNat) I
 exact⟨K',h1,h2,h3,by rw[h5];exact h.gr.more (bB k),by rw[h6];exact hl⟩
theorem LK {s:Sn} (h:JY np k s):JY np k (v9 s):=⟨h.nm,h.sl,by unfold v9;simp[h.ll],h.sq⟩
theorem Jo (h:WI np nr few wt k K w): ∃ K',Up K K'/\WI np nr few wt (k+1) K' (jU w a).1:=by
 unfold jU
 split
 exact oQ h _
 rename_i i s hf
 split
 exact oQ h _
 split
 exact oQ h _
 have hs:=h.sns.each s (ae (D6 hf).1)
 split
 rename_i h0
 refine⟨K,Up.refl K,h.ps.more (bB k),Id h.co h0,h.gr.more (bB k),?_⟩
 dsimp only
 split
 exact(h.sns.set (LK hs)).more (bB k)
 exact h.sns.more (bB k)
 exact⟨K,Up.refl K,h.more (bB k)⟩
theorem MZ (h:WI np nr few wt k K w) (hk:k<400): ∃ K',Up K K'/\WI np nr few wt (k+1) K' (oc w a).1:=by
 unfold oc
 split
 exact oQ h _
 rename_i t ht
 obtain⟨⟨i,hf⟩,h34,hp,h0,h4⟩:=CF h.co.ok ht
 obtain⟨⟨K',h1,h2⟩,h3,h5,h6⟩:=Kx h.ps hk (t.parts.headD 0).toNat (da t)
 split
 exact⟨K',h1,h2,FW h.co (Hm hf h34 hp),by rw[h5];exact h.gr.more (bB k),by rw[h6];exact h.sns.more (bB k)⟩
 exact⟨K',h1,h2,by rw[h3];exact h.co.more (bB k),by rw[h5];exact h.gr.more (bB k),by rw[h6];exact h.sns.more (bB k)⟩
theorem Mo (h:WI np nr few wt k K w) (hk:k<400) (h4:np<=4) (hn:0<=a.n/\a.n<=1000): ∃ K',Up K K'/\WI np nr few wt (k+1) K' (yr w a).1:=by
 unfold yr
 exact⟨K,Up.refl K,h.ps.more (bB k),EH h.co I hn.1 (by unfold jc;rw[if_neg I]),by dsimp only;rw[h.ps.len];exact h.gr.tick h4 I hn.1 hn.2,h.sns.more (bB k)⟩
theorem MB (h:WI np nr few wt k K w): ∃ K',Up K K'/\WI np nr few wt (k+1) K' (vk w a).1:=by
 unfold vk
 split
 exact oQ h _
 rename_i p hp
 split
 rename_i h0
 obtain⟨K',h1,h2⟩:=h.ps.set (MC (h.ps.gt _ p hp) h0)
 exact⟨K',h1,h2.more (bB k),h.co.more (bB k),h.gr.more (bB k),h.sns.more (bB k)⟩
 exact oQ h _
theorem Oc (h:WI np nr few wt k K w) (hk:k<400) (h4:np<=4) (hn:a.kind=16->bM a.name=true) (hm:0<=a.m): ∃ K',Up K K'/\WI np nr few wt (k+1) K' (BF w a).1:=by
 unfold BF
 split
 rename_i h0
 refine⟨K,Up.refl K,h.ps.more (bB k),h.co.more (bB k),?_,h.sns.more (bB k)⟩
 show qV _ wt np (k+1) (GU w a).1
 unfold GU at h0⊢
 rw[h.ps.len]at h0⊢
 split
 rename_i c
 rw[if_pos c]at h0
 exact h.gr.join h4 I (hn c) trivial h0
 rename_i c;rw[if_neg c]at h0
 split
 rename_i c2
 rw[if_pos c2]at h0
 exact h.gr.beat h0
 rename_i c2
 rw[if_neg c2]at h0
 exact h.gr.store hm h0
 exact oQ h _
theorem OE (h:WI np nr few wt k K w) (hk:k<400) (h4:np<=4) (g:r8 np nr a) {w':Wa} {x:An} (hA:Ex w a w' x): ∃ K',Up K K'/\WI np nr few wt (k+1) K' w':=by
 cases hA with
 |poll x h19 hp=>exact⟨K,Up.refl K,h.more (bB k)⟩
 |other h19=>
  unfold xv
  split
  rename_i c;exact M8 h hk (g.name (.inl c))
  split
  exact LP h
  split
  exact My h hk g.part h4 _
  split
  exact Jo h
  split
  exact MZ h hk
  split
  exact Mo h hk h4 g.n
  split
  exact MB h
  exact Oc h hk h4 (fun c=>g.name (.inr (.inl c))) g.m.1
def sB (np nr:Nat) (few wt:Int):Wa:=⟨au np (nh nr few.toNat),⟨0,1,wt,[],none,0⟩,⟨0,wt,0,[],none,0,[],none,0⟩,[]⟩
theorem MU {few:Nat} (n1:1<=nr) (n5:nr<=5) (f1:1<=few) (f2:few<=nr) (w1:1<=wt) (w2:wt<=1000):WI np nr few wt 0 (fun _=>[]) (sB np nr few wt):=by
 refine⟨⟨by simp[sB],fun n p hp=> ?_⟩,⟨gG.2 ⟨⟨(by decide:iQ 0=true),by simp[sB],by simp[sB],w1,w2,by simp[sB]⟩,by simp[sB],by simp[sB,vJ]⟩,by simp[sB],by simp[sB],by simp[sB]⟩,MW _ np w1 w2,⟨by simp[sB],by simp[sB]⟩⟩
 have hpe:p=nh nr few:=by
  unfold sB at hp
  simp only[fR]at hp
  split at hp
  cases hp;simp
  cases hp
 rw[hpe]
 refine⟨Dx n1 n5 f1 f2,?_⟩
 intro i x hx
 unfold nh at hx
 simp only[fR]at hx
 split at hx
 cases hx;exact .nil
 cases hx
end
section
theorem IR {es:List cO} {n st a most b b':Nat} {out out':List ByteArray} (h:Bp es n st a most out b) (h':Bp es n st a most out' b'):out=out'/\b=b':=by
 obtain⟨h1,h2,h3,h4,h5,h6⟩:=h
 obtain⟨g1,g2,g3,g4,g5,g6⟩:=h'
 have hb:b=b':=by
  rcases Nat.lt_trichotomy b b' with hlt|he|hlt
  have:=g6 b h1 hlt
  rw[<-h3]at this
  omega
  exact he
  have:=h6 b' g1 hlt
  rw[<-g3]at this
  omega
 subst hb
 exact⟨h3.trans g3.symm,rfl⟩
theorem IS {p:gz} {a most:Nat} {x y:An} (h:C6 p a most x) (h':C6 p a most y):x=y:=by
 cases h with
 |none h1=>
  cases h' with
  |none=>rfl
  |range l r g1=>omega
  |ok l r st out b g1=>omega
 |range l r h1 h2 h3=>
  cases h' with
  |none g1=>omega
  |range=>rfl
  |ok l' r' st out b g1 g2 g3=>
   have:l'=l:=by omega
   subst this
   rw[h2]at g2;cases g2;omega
 |ok l r st out b h1 h2 h3 h4 h5=>
  cases h' with
  |none g1=>omega
  |range l' r' g1 g2 g3=>
   have:l'=l:=by omega
   subst this
   rw[h2]at g2;cases g2;omega
  |ok l' r' st' out' b' g1 g2 g3 g4 g5=>
   have:l'=l:=by omega
   subst this
   rw[h2]at g2;cases g2
   have:=G4 h4 g4
   subst this
   obtain⟨rfl,rfl⟩:=IR h5 g5
   rfl
theorem IW {w:Wa} {a:Act} {x y:An} (h:qS w a x) (h':qS w a y):x=y:=by
 cases h with
 |no h1=>
  cases h' with
  |no=>rfl
  |yes p x g1=>exact absurd g1 h1
 |yes p x h1 h2 h3=>
  cases h' with
  |no g1=>exact absurd h1 g1
  |yes p' y g1 g2 g3=>
   rw[h2]at g2;cases g2
   exact IS h3 g3
theorem Md {w:Wa} {a:Act} {w1 w2:Wa} {x y:An} (h:Ex w a w1 x) (h':Ex w a w2 y):w1=w2/\x=y:=by
 cases h with
 |poll x h1 h2=>
  cases h' with
  |poll y g1 g2=>exact⟨rfl,IW h2 g2⟩
  |other g1=>exact absurd h1 g1
 |other h1=>
  cases h' with
  |poll y g1 g2=>exact absurd g1 h1
  |other g1=>exact⟨rfl,rfl⟩
inductive m1:Wa->List Act->List An->Wa->Prop
 |nil (w:Wa):m1 w [] [] w
 |cons {w w1 w2:Wa} {a:Act} {x:An} {l:List Act} {xs:List An}:Ex w a w1 x->m1 w1 l xs w2->m1 w (a::l) (x::xs) w2
theorem m1.app {w w1 w2:Wa} {l m:List Act} {xs ys:List An} (h:m1 w l xs w1) (h':m1 w1 m ys w2):m1 w (l++m) (xs++ys) w2:=by
 induction h with
 |nil=>exact h'
 |cons h1 _ ih=>exact .cons h1 (ih h')
theorem m1.snoc {w w1 w2:Wa} {l:List Act} {a:Act} {xs:List An} {x:An} (h:m1 w l xs w1) (h':Ex w1 a w2 x):m1 w (l++[a]) (xs++[x]) w2:=h.app (.cons h' (.nil _))
theorem m1.len {w w1:Wa} {l:List Act} {xs:List An} (h:m1 w l xs w1):xs.length=l.length:=by
 induction h with
 |nil=>rfl
 |cons _ _ ih=>simp[ih]
theorem m1.det {w w1 w2:Wa} {l:List Act} {xs ys:List An} (h:m1 w l xs w1) (h':m1 w l ys w2):xs=ys/\w1=w2:=by
 induction h generalizing ys w2 with
 |nil=>cases h';exact⟨rfl,rfl⟩
 |cons h1 _ ih=>
  cases h' with
  |cons g1 g2=>
   obtain⟨rfl,rfl⟩:=Md h1 g1
   obtain⟨rfl,rfl⟩:=ih g2
   exact⟨rfl,rfl⟩
theorem m1.split {w w2:Wa} {l m:List Act} {xs:List An} (h:m1 w (l++m) xs w2): ∃ ys zs w1,xs=ys++zs/\m1 w l ys w1/\m1 w1 m zs w2:=by
 induction l generalizing w xs with
 |nil=>exact⟨[],xs,w,rfl,.nil w,h⟩
 |cons a l ih=>
  cases h with
  |cons h1 h2=>
   obtain⟨ys,zs,w1,rfl,h3,h4⟩:=ih h2
   exact⟨_::ys,zs,w1,rfl,.cons h1 h3,h4⟩
theorem m1.later {w w1 w2:Wa} {l m:List Act} {xs ys:List An} (h:m1 w l xs w1) (h':m1 w (l++m) ys w2): ∃ zs,ys=xs++zs:=by
 obtain⟨us,zs,w3,rfl,h1,h2⟩:=h'.split
 obtain⟨rfl,-⟩:=h.det h1
 exact⟨zs,rfl⟩
variable {np nr k:Nat} {few wt:Int} {K:Nat->List cO} {w:Wa}
theorem N2 {w w1:Wa} {l:List Act} {xs:List An} (h:m1 w l xs w1): ∀ {k:Nat} {K:Nat->List cO},WI np nr few wt k K w->k+l.length<=400->np<=4->(∀ a∈l,r8 np nr a)-> ∃ K',Up K K'/\WI np nr few wt (k+l.length) K' w1:=by
 induction h with
 |nil=>intro k K hw _ _ _;exact⟨K,Up.refl K,hw⟩
 |@cons w wa wb a x l xs h1 _ ih=>
  intro k K hw hk h4 hg
  simp only[cE]at hk
  obtain⟨K1,u1,i1⟩:=OE hw I h4 (hg a (az ..)) h1
  obtain⟨K2,u2,i2⟩:=ih i1 I h4 fun b hb=>hg b (ak _ hb)
  exact⟨K2,u1.trans u2,by simpa [kX,sf 1]using i2⟩
end
section
/-- what an act yields -/
def Br (b:Bk) (a:Act) (w0:World) (bb:Nat) (K:List (Nat×Obj)) (F:List cr) (v:Value) (w2:World):Prop:=
 ∃ (b':Bk) (x:An) (A:Option Addr) (c lo hi:Nat),Ex b.a a b'.a x/\v=.agg #[J x.code,J x.n,.slice A x.texts.length c]/\x.texts.length<=c/\xy w0 w2 bb b' K (dE lf lo hi A x.texts::F)
theorem uk {b:Bk} {a:Act} {w0 w:World} {bb:Nat} {K:List (Nat×Obj)} {F:List cr} {f:FuncId} {args:List Value} {s:Wa×An} (h19:a.kind≠19) (hs:xv b.a a=s) (ht:s.2.texts=[]) (h:db aa f args w fun v w2=> ∃ b':Bk,oP s.2 v w2/\b'.a=s.1/\xy w0 w2 bb b' K F):db aa f args w (Br b a w0 bb K F):=
 h.mono fun v w2 ⟨b',⟨A,c,h1,h2,_⟩,h4,h5⟩=>⟨b',s.2,A,c,0,0,by rw[h4,<-hs];exact .other h19,h1,h2,by rw[ht];exact h5.nil A⟩
variable {w0 w:World} {bb gP:Nat} {b:Bk} {uP:Array Value} {Ls Lo K:List (Nat×Obj)} {F:List cr} {np nr k:Nat} {few wt:Int} {M:Nat->List cO} {a:Act}
theorem Bw.facts (_:Bw w0 w bb b gP uP Ls Lo K F) (hw:WI np nr few wt k M b.a) (hk:k<400):b.ps.length=np/\b.sns.length<=1000000/\oO k b.co/\qV (fun _=>True) wt np k b.gr/\ ∀ q∈b.ps,q.p.a.ok/\q.p.reps.length=nr/\ ∀ (l:Nat) (y:fd),q.p.leader=l->q.p.reps[l]? =some y->y.es.length<400:=by
 have h1:=hw.ps.len
 have h2:=hw.sns.few
 rw[show b.a.ps=b.ps.map fun q=>q.p.a from rfl,bA]at h1
 rw[show b.a.sns=b.sns.map Sn.a from rfl,bA]at h2
 refine⟨h1,by omega,oO.of_a hw.co,qV.of_a hw.gr,fun q hq=> ?_⟩
 obtain⟨n,hn⟩:=aX.1 hq
 have hg:=(hw.ps.gt n q.p.a (by rw[show b.a.ps=b.ps.map fun q=>q.p.a from rfl,aL,hn];rfl)).1
 refine⟨hg.ok,by have:=hg.len;rwa[show q.p.a.reps=q.p.reps.map fd.a from rfl,bA]at this,fun l y _ hy=> ?_⟩
 have:=hg.small l y.a (by rw[show q.p.a.reps=q.p.reps.map fd.a from rfl,aL,hy];rfl)
 have:y.es.length<=k:=this
 omega
theorem Bw.sender (hw:WI np nr few wt k M b.a) {i:Nat} {x:Sn} (hx:b.sns[i]? =some x):bM x.name=true/\x.seqs.length=np/\x.last.length=np/\ ∀ q∈x.seqs,0<=q/\q<=k:=by
 have h:=hw.sns.each x.a (bL (f:=Sn.a) (ae hx))
 exact⟨h.nm,h.sl,h.ll,h.sq⟩
theorem yG (w:Wa) (a:Act):(pd w a).2.texts=[]:=by unfold pd;split<;>rfl
theorem xp (w:Wa) (a:Act):(kW w a).2.texts=[]:=by
 unfold kW
 split
 rfl
 split<;>rfl
theorem yu (w:Wa) (a:Act) (ag:Bool):(m4 w a ag).2.texts=[]:=by
 unfold m4
 split
 rfl
 split
 rfl
 dsimp only
 split
 rfl
 exact lE _ (ko ..)
theorem vw (w:Wa) (a:Act):(jU w a).2.texts=[]:=by
 unfold jU
 split
 rfl
 split
 rfl
 split
 rfl
 split<;>exact lE _ Z
theorem yB (w:Wa) (a:Act):(oc w a).2.texts=[]:=by
 unfold oc
 split
 rfl
 split<;>exact zS ..
theorem yx (w:Wa) (a:Act):(vk w a).2.texts=[]:=by
 unfold vk
 split
 rfl
 split<;>rfl
theorem Aa (w:Wa) (a:Act):(BF w a).2.texts=[]:=by unfold BF;split<;>rfl
theorem pN (a:Act) (w:Wa):(a.kind=1->xv w a=pd w a)/\(a.kind=2->xv w a=kW w a)/\(a.kind=3∨a.kind=4->xv w a=m4 w a (decide (a.kind=4)))/\(a.kind=5->xv w a=jU w a)/\(a.kind=6->xv w a=oc w a)/\(a.kind=7->xv w a=yr w a)/\(8<=a.kind/\a.kind<=15->xv w a=vk w a)/\(16<=a.kind->xv w a=BF w a):=by
 unfold xv
 refine⟨fun h=> ?_,fun h=> ?_,fun h=> ?_,fun h=> ?_,fun h=> ?_,fun h=> ?_,fun h=> ?_,fun h=> ?_⟩<;>(repeat (first|rw[if_pos I]|rw[if_neg I]))
theorem Oh (A B C X K:List (Nat×Obj)):(A++(B++(C++(X++K)))).Perm (X++(A++(B++(C++K)))):=by
 rw[show A++(B++(C++(X++K)))=(A++B++C)++(X++K) by simp,show A++(B++(C++K))=(A++B++C)++K by simp]
 exact fU (A++B++C) X K
theorem Bw.into {w2:World} (B:Bw w0 w bb b gP uP Ls Lo K F) (X:List (Nat×Obj)) (H:Hp w0 w2 (X++((bb,.cells b.c.toArray bK (0,0))::(gP,.cells uP bE (0,0))::(Ls++(Lo++K)))) F):Bw w0 w2 bb b gP uP Ls Lo (X++K) F:=
 ⟨B.pA,B.row,B.sn,B.own,B.co,B.gr,B.ps,H.perm (Oh [(bb,_),(gP,_)] Ls Lo X K)⟩
theorem Bw.out {X:List (Nat×Obj)} (B:Bw w0 w bb b gP uP Ls Lo (X++K) F):Hp w0 w (X++((bb,.cells b.c.toArray bK (0,0))::(gP,.cells uP bE (0,0))::(Ls++(Lo++K)))) F:=B.H.perm (Oh [(bb,_),(gP,_)] Ls Lo X K).symm
theorem Bw.at_ {w2:World} {K1:List (Nat×Obj)} (B:Bw w0 w bb b gP uP Ls Lo K1 F) (X:List (Nat×Obj)) (H:Hp w0 w2 (X++((bb,.cells b.c.toArray bK (0,0))::(gP,.cells uP bE (0,0))::(Ls++(Lo++K)))) F):Bw w0 w2 bb b gP uP Ls Lo K F:=
 ⟨B.pA,B.row,B.sn,B.own,B.co,B.gr,B.ps,H.forget (cm X _) (fun _ h=>h)⟩
theorem zo {l:List Sn} {s:ByteArray} {i:Nat} (h:fh l s=some i): ∃ x,l[i]? =some x:=by
 obtain⟨x,h1,-⟩:=Gx h
 exact⟨x,h1⟩
theorem K8 (B:Bw w0 w bb b gP uP Ls Lo K F) (hw:WI np nr few wt k M b.a) (hk:k<400) (h4:np<=4) (g:r8 np nr a) (h1:1<=np) (hkd:a.kind=1):db aa kb [.pointer (Qd bb),a.v] w (Br b a w0 bb K F):=by
 obtain⟨hln,hsl,hcb,hgi,hpk⟩:=B.facts hw hk
 refine uk I ((pN a b.a).1 hkd) (yG ..) ?_
 cases hix:fh b.sns a.name with
 |none=>exact Jh a B hsl (g.name (.inl hkd)) hcb I I I hix
 |some i=>
  obtain⟨x,hx⟩:=zo hix
  exact Jg a B hsl (g.name (.inl hkd)) hcb I I I hix hx
theorem JF (B:Bw w0 w bb b gP uP Ls Lo K F) (hw:WI np nr few wt k M b.a) (hk:k<400) (_:np<=4) (_:r8 np nr a) (hkd:a.kind=2):db aa jN [.pointer (Qd bb),a.v] w (Br b a w0 bb K F):=by
 obtain⟨-,hsl,-⟩:=B.facts hw hk
 refine uk I ((pN a b.a).2.1 hkd) (xp ..) ?_
 cases hix:fh b.sns a.name with
 |none=>exact Hu a B hsl hix
 |some i=>
  obtain⟨x,hx⟩:=zo hix
  exact Ht a B hsl hix hx
theorem EU (B:Bw w0 w bb b gP uP Ls Lo K F) (hw:WI np nr few wt k M b.a) (hk:k<400) (h4:np<=4) (g:r8 np nr a) (hkd:a.kind=3∨a.kind=4):db aa iR [.pointer (Qd bb),a.v,.bool (decide (a.kind=4))] w (Br b a w0 bb K F):=by
 obtain⟨hln,hsl,hcb,-,hpk⟩:=B.facts hw hk
 refine uk I ((pN a b.a).2.2.1 hkd) (yu ..) ?_
 have hpn:=g.part
 cases hix:fh b.sns a.name with
 |none=>exact IL a B hsl (decide (a.kind=4)) hix
 |some i=>
  obtain⟨x,hx⟩:=zo hix
  obtain⟨s1,s2,s3,s4⟩:=Bw.sender hw hx
  have hpk2:=fun(q:Pq) hq=>(⟨(hpk q hq).1,(hpk q hq).2.2⟩:q.p.a.ok/\ ∀ (l:Nat) (y:fd),q.p.leader=(l:Int)->q.p.reps[l]? =some y->y.es.length<400)
  by_cases h4k:a.kind=4
  rw[decide_eq_true h4k]
  exact GA a B hsl hix hx I g.lost I I I s1 hcb hpk2
  rw[decide_eq_false h4k]
  exact Ko a B hsl hix hx I g.lost I I I s1 hcb hpk2 g.text (fun q hq=>by have:=s4 q hq;omega)
theorem AM (B:Bw w0 w bb b gP uP Ls Lo K F) (hw:WI np nr few wt k M b.a) (hk:k<400) (h4:np<=4) (g:r8 np nr a) (hkd:a.kind=5):db aa ju [.pointer (Qd bb),a.v] w (Br b a w0 bb K F):=by
 obtain⟨-,hsl,hcb,-⟩:=B.facts hw hk
 refine uk I ((pN a b.a).2.2.2.1 hkd) (vw ..) ?_
 cases hix:fh b.sns a.name with
 |none=>exact FN a B hsl hix
 |some i=>
  obtain⟨x,hx⟩:=zo hix
  obtain⟨s1,-,s3,-⟩:=Bw.sender hw hx
  exact FM a B hsl hix hx g.lost ⟨g.n.1,g.fin hkd⟩ I s1 hcb
theorem Fk (B:Bw w0 w bb b gP uP Ls Lo K F) (hw:WI np nr few wt k M b.a) (hk:k<400) (_:np<=4) (g:r8 np nr a) (hkd:a.kind=6):db aa ka [.pointer (Qd bb),a.v] w (Br b a w0 bb K F):=by
 obtain⟨-,-,hcb,-,hpk⟩:=B.facts hw hk
 refine uk I ((pN a b.a).2.2.2.2.1 hkd) (yB ..) ?_
 have hpk2:=fun(q:Pq) hq=>(⟨(hpk q hq).1,(hpk q hq).2.2⟩:q.p.a.ok/\ ∀ (l:Nat) (y:fd),q.p.leader=(l:Int)->q.p.reps[l]? =some y->y.es.length<400)
 cases hne:gX b.co.a.txs a.n.toNat with
 |none=>exact I8 a B hcb g.n hne
 |some t=>exact I7 a B hcb g.n hpk2 hne
theorem EG (B:Bw w0 w bb b gP uP Ls Lo K F) (hw:WI np nr few wt k M b.a) (hk:k<400) (h4:np<=4) (g:r8 np nr a) (hkd:a.kind=7):db aa oq [.pointer (Qd bb),a.v] w (Br b a w0 bb K F):=by
 obtain⟨hln,-,hcb,hgi,-⟩:=B.facts hw hk
 refine uk I ((pN a b.a).2.2.2.2.2.1 hkd) Z ?_
 exact J9 a B hcb I g.n hgi I
theorem wE (B:Bw w0 w bb b gP uP Ls Lo K F) (hw:WI np nr few wt k M b.a) (hk:k<400) (_:np<=4) (g:r8 np nr a) (hkd:8<=a.kind/\a.kind<=15):db aa lh [.pointer (Qd bb),a.v] w (Br b a w0 bb K F):=by
 obtain⟨hln,-,-,-,hpk⟩:=B.facts hw hk
 refine uk I ((pN a b.a).2.2.2.2.2.2.1 hkd) (yx ..) ?_
 have hpn:=g.part
 exact Kr a B I ⟨g.n.1,fun q hq=>by have:=g.rep hkd.1 hkd.2;have:=(hpk q hq).2.1;omega⟩ g.m (fun q hq=>(hpk q hq).1)
theorem qH (B:Bw w0 w bb b gP uP Ls Lo K F) (hw:WI np nr few wt k M b.a) (hk:k<400) (h4:np<=4) (g:r8 np nr a) (hkd:a.kind=16∨a.kind=18∨a.kind=20):db aa lV [.pointer (Qd bb),a.v] w (Br b a w0 bb K F):=by
 obtain⟨hln,-,-,hgi,-⟩:=B.facts hw hk
 refine uk I ((pN a b.a).2.2.2.2.2.2.2 I) (Aa ..) ?_
 exact MX a B I I (g.name I) g.m hgi I
theorem n9 (B:Bw w0 w bb b gP uP Ls Lo K F) (hw:WI np nr few wt k M b.a) (hk:k<400) (_:np<=4) (g:r8 np nr a) (hkd:a.kind=19):db aa gk [.pointer (Qd bb),a.v] w (Br b a w0 bb K F):=by
 obtain⟨hln,-,-,hgi,hpk⟩:=B.facts hw hk
 have hpn:=g.part
 have hnm:=g.name I
 have hpo:=fun q hq=>(hpk q hq).1
 have hq: ∃ q,b.ps[a.part.toNat]? =some q:=⟨_,ah I⟩
 obtain⟨q,hq⟩:=hq
 refine db.mono (R:=fun v w2=> ∃ (x:An) (A:Option Addr) (c lo hi:Nat),qS b.a a x/\v=.agg #[J x.code,J x.n,.slice A x.texts.length c]/\x.texts.length<=c/\xy w0 w2 bb b K (dE lf lo hi A x.texts::F)) ?_ fun v w2 ⟨x,A,c,lo,hi,h1,h2,h3,h4⟩=>⟨b,x,A,c,lo,hi,.poll x hkd h1,h2,h3,h4⟩
 by_cases hw0:(eN b.gr.a a.name a.part).2=0
 have hqok:=(hpk q (ae hq)).1
 by_cases hl:q.p.leader<0
 exact IV a B hnm I (g.poll hkd) hgi hpo hw0 (fun q' h=>by rw[hq]at h;cases h;exact hl)
 obtain⟨l,hl2⟩: ∃ l:Nat,q.p.leader=l:=⟨q.p.leader.toNat,by omega⟩
 have hld1:q.p.leader<((q.p.reps.map fd.a).length:Nat):=hqok.ld1
 rw[bA]at hld1
 obtain⟨y,hy⟩: ∃ y,q.p.reps[l]? =some y:=⟨_,ah I⟩
 have hld: ∀ q',b.ps[a.part.toNat]? =some q'->q'.p.leader=l/\q'.p.reps[l]? =some y:=fun q' h=>by rw[hq]at h;cases h;exact⟨hl2,hy⟩
 by_cases hle:(eN b.gr.a a.name a.part).1.toNat<=y.es.length
 exact MH a B hnm I (g.poll hkd) hgi hpo hw0 hld hle
 exact GH a B hnm I (g.poll hkd) hgi hpo hw0 hld I
 exact MI a B hnm I hgi hw0
end
theorem OF {w0 w:World} {bb gP:Nat} {b:Bk} {uP:Array Value} {Ls Lo K:List (Nat×Obj)} {F:List cr} {np nr k:Nat} {few wt:Int} {M:Nat->List cO} {a:Act} (B:Bw w0 w bb b gP uP Ls Lo K F) (hw:WI np nr few wt k M b.a) (hk:k<400) (h1:1<=np) (h4:np<=4) (g:r8 np nr a):db aa uY [.pointer (Qd bb),a.v] w (Br b a w0 bb K F):=by
 refine aD t5 Z Z ?_
 have hkd:=g.kind
 have H:=B.H
 show CW _ _ _ _ (args [.pointer (Qd bb),.agg #[J (a.kind),.string (a.name),J (a.part),J (a.n),J (a.m),.string (a.text),J (a.lost)]]) w
 refine W<|Zr<|fT H Z Z fun w1 b3 H=>eE H dm Z fun w2 b4 H=>U<|W<|W<|Zr<|G (Zf mI Z)<|G (Zd aj H 1 Z Z Z)<|U<|Zb<|W<|Zr ?_
 refine cU (bl Z Z) Z Z Z (fun h8=> ?_) (fun h8=> ?_)
 refine G (Wb Z)<|U<|ZT Z<|W<|Zr<|G (Yp Z)<|G (Zw dO H 1 Z Z Z)<|bY tv (K8 (B.into [(b4,_),(b3,_)] H) hw hk h4 g h1 h8) Z Z ?_
 rintro _ w3 ⟨b2,x2,A9,c9,lo9,hi9,hA9,rfl,hc9,gP9,uP9,Ls9,Lo9,F9,B9,hF9⟩
 replace H:=B9.out (X:=[(b4,_),(b3,_)])
 refine bo H 0 (#[J (x2.code),J (x2.n),.slice A9 x2.texts.length c9]) aP Z Z Z Z Z N N fun w4 H=>U<|Zt ?_
 exact eO (cs0:= #[J (x2.code),J (x2.n),.slice A9 x2.texts.length c9]) Z aN Z (H.ent (i:=0) Z) Z ⟨b2,x2,A9,c9,lo9,hi9,hA9,rfl,hc9,gP9,uP9,Ls9,Lo9,F9,B9.at_ [(b4,_),(b3,_)] H,hF9⟩
 refine G (Wb Z)<|U<|ZF Z<|W<|Zr ?_
 refine cU (bl Z Z) Z Z Z (fun h13=> ?_) (fun h13=> ?_)
 refine G (Wb Z)<|U<|ZT Z<|W<|Zr<|G (Yp Z)<|G (Zw dO H 1 Z Z Z)<|bY sV (JF (B.into [(b4,_),(b3,_)] H) hw hk h4 g h13) Z Z ?_
 rintro _ w5 ⟨b2,x2,A9,c9,lo9,hi9,hA9,rfl,hc9,gP9,uP9,Ls9,Lo9,F9,B9,hF9⟩
 replace H:=B9.out (X:=[(b4,_),(b3,_)])
 refine bo H 0 (#[J (x2.code),J (x2.n),.slice A9 x2.texts.length c9]) aP Z Z Z Z Z N N fun w6 H=>U<|Zt ?_
 exact eO (cs0:= #[J (x2.code),J (x2.n),.slice A9 x2.texts.length c9]) Z aN Z (H.ent (i:=0) Z) Z ⟨b2,x2,A9,c9,lo9,hi9,hA9,rfl,hc9,gP9,uP9,Ls9,Lo9,F9,B9.at_ [(b4,_),(b3,_)] H,hF9⟩
 refine G (Wb Z)<|U<|ZF Z<|W<|W<|Zr ?_
 refine cU (bl Z Z) Z Z Z (fun h18=> ?_) (fun h18=> ?_)
 refine G (Wb Z)<|U ?_
 refine eC (τ:=Unit) [17,19] (fun _=>[(17,.bool (decide (a.kind=3∨a.kind=4)))]) (fun _ w'=>Hp w0 w' ((b4,.cells #[J (0),J (0),.slice none 0 0] ec (0,0))::(b3,.cells #[J (a.kind),.string (a.name),J (a.part),J (a.n),J (a.m),.string (a.text),J (a.lost)] fP (0,0))::(bb,.cells b.c.toArray bK (0,0))::(gP,.cells uP bE (0,0))::(Ls++(Lo++K))) F) ?_ ?_
 refine ZT Z<|Zk ?_
 exact⟨(),H,dI (congrArg Value.bool (decide_eq_true I)).symm,Qg⟩
 rintro _ ρ1 w7 H
 show CW _ _ _ _ (dA (gC _ _ ρ1) [(17,.bool (decide (a.kind=3∨a.kind=4)))]) w7
 refine jl Z (fun hc17=> ?_) (fun hc17=> ?_)
 refine W<|Zr<|G (Yp Z)<|G (Zw dO H 1 Z Z Z)<|G (Zf mI Z)<|G (Zd aj H 1 Z Z Z)<|G (bl Z Z)<|bY m9 (EU (B.into [(b4,_),(b3,_)] H) hw hk h4 g (of_decide_eq_true hc17)) Z Z ?_
 rintro _ w8 ⟨b2,x2,A9,c9,lo9,hi9,hA9,rfl,hc9,gP9,uP9,Ls9,Lo9,F9,B9,hF9⟩
 replace H:=B9.out (X:=[(b4,_),(b3,_)])
 refine bo H 0 (#[J (x2.code),J (x2.n),.slice A9 x2.texts.length c9]) aP Z Z Z Z Z N N fun w9 H=>U<|Zt ?_
 exact eO (cs0:= #[J (x2.code),J (x2.n),.slice A9 x2.texts.length c9]) Z aN Z (H.ent (i:=0) Z) Z ⟨b2,x2,A9,c9,lo9,hi9,hA9,rfl,hc9,gP9,uP9,Ls9,Lo9,F9,B9.at_ [(b4,_),(b3,_)] H,hF9⟩
 refine W<|Zr ?_
 refine cU (bl Z Z) Z Z Z (fun h27=> ?_) (fun h27=> ?_)
 refine G (Wb Z)<|U<|ZT Z<|W<|Zr<|G (Yp Z)<|G (Zw dO H 1 Z Z Z)<|bY l5 (AM (B.into [(b4,_),(b3,_)] H) hw hk h4 g h27) Z Z ?_
 rintro _ w10 ⟨b2,x2,A9,c9,lo9,hi9,hA9,rfl,hc9,gP9,uP9,Ls9,Lo9,F9,B9,hF9⟩
 replace H:=B9.out (X:=[(b4,_),(b3,_)])
 refine bo H 0 (#[J (x2.code),J (x2.n),.slice A9 x2.texts.length c9]) aP Z Z Z Z Z N N fun w11 H=>U<|Zt ?_
 exact eO (cs0:= #[J (x2.code),J (x2.n),.slice A9 x2.texts.length c9]) Z aN Z (H.ent (i:=0) Z) Z ⟨b2,x2,A9,c9,lo9,hi9,hA9,rfl,hc9,gP9,uP9,Ls9,Lo9,F9,B9.at_ [(b4,_),(b3,_)] H,hF9⟩
 refine G (Wb Z)<|U<|ZF Z<|W<|Zr ?_
 refine cU (bl Z Z) Z Z Z (fun h32=> ?_) (fun h32=> ?_)
 refine G (Wb Z)<|U<|ZT Z<|W<|Zr<|G (Yp Z)<|G (Zw dO H 1 Z Z Z)<|bY na (Fk (B.into [(b4,_),(b3,_)] H) hw hk h4 g h32) Z Z ?_
 rintro _ w12 ⟨b2,x2,A9,c9,lo9,hi9,hA9,rfl,hc9,gP9,uP9,Ls9,Lo9,F9,B9,hF9⟩
 replace H:=B9.out (X:=[(b4,_),(b3,_)])
 refine bo H 0 (#[J (x2.code),J (x2.n),.slice A9 x2.texts.length c9]) aP Z Z Z Z Z N N fun w13 H=>U<|Zt ?_
 exact eO (cs0:= #[J (x2.code),J (x2.n),.slice A9 x2.texts.length c9]) Z aN Z (H.ent (i:=0) Z) Z ⟨b2,x2,A9,c9,lo9,hi9,hA9,rfl,hc9,gP9,uP9,Ls9,Lo9,F9,B9.at_ [(b4,_),(b3,_)] H,hF9⟩
 refine G (Wb Z)<|U<|ZF Z<|W<|Zr ?_
 refine cU (bl Z Z) Z Z Z (fun h37=> ?_) (fun h37=> ?_)
 refine G (Wb Z)<|U<|ZT Z<|W<|Zr<|G (Yp Z)<|G (Zw dO H 1 Z Z Z)<|bY m8 (EG (B.into [(b4,_),(b3,_)] H) hw hk h4 g h37) Z Z ?_
 rintro _ w14 ⟨b2,x2,A9,c9,lo9,hi9,hA9,rfl,hc9,gP9,uP9,Ls9,Lo9,F9,B9,hF9⟩
 replace H:=B9.out (X:=[(b4,_),(b3,_)])
 refine bo H 0 (#[J (x2.code),J (x2.n),.slice A9 x2.texts.length c9]) aP Z Z Z Z Z N N fun w15 H=>U<|Zt ?_
 exact eO (cs0:= #[J (x2.code),J (x2.n),.slice A9 x2.texts.length c9]) Z aN Z (H.ent (i:=0) Z) Z ⟨b2,x2,A9,c9,lo9,hi9,hA9,rfl,hc9,gP9,uP9,Ls9,Lo9,F9,B9.at_ [(b4,_),(b3,_)] H,hF9⟩
 refine G (Wb Z)<|U<|ZF Z<|W<|W<|Zr ?_
 refine cU (bl Z Z) Z Z Z (fun h42=> ?_) (fun h42=> ?_)
 refine G (Wb Z)<|U ?_
 refine eC (τ:=Unit) [41,43,44,45,46,47,48,49] (fun _=>[(41,.bool (decide (8<=a.kind/\a.kind<=15)))]) (fun _ w'=>Hp w0 w' ((b4,.cells #[J (0),J (0),.slice none 0 0] ec (0,0))::(b3,.cells #[J (a.kind),.string (a.name),J (a.part),J (a.n),J (a.m),.string (a.text),J (a.lost)] fP (0,0))::(bb,.cells b.c.toArray bK (0,0))::(gP,.cells uP bE (0,0))::(Ls++(Lo++K))) F) ?_ ?_
 refine ZT Z<|Zk ?_
 exact⟨(),H,dI (congrArg Value.bool (decide_eq_true I)).symm,Qg⟩
 rintro _ ρ1 w16 H
 show CW _ _ _ _ (dA (gC _ _ ρ1) [(41,.bool (decide (8<=a.kind/\a.kind<=15)))]) w16
 refine jl Z (fun hc41=> ?_) (fun hc41=> ?_)
 refine W<|Zr<|G (Yp Z)<|G (Zw dO H 1 Z Z Z)<|bY fV (wE (B.into [(b4,_),(b3,_)] H) hw hk h4 g (of_decide_eq_true hc41)) Z Z ?_
 rintro _ w17 ⟨b2,x2,A9,c9,lo9,hi9,hA9,rfl,hc9,gP9,uP9,Ls9,Lo9,F9,B9,hF9⟩
 replace H:=B9.out (X:=[(b4,_),(b3,_)])
 refine bo H 0 (#[J (x2.code),J (x2.n),.slice A9 x2.texts.length c9]) aP Z Z Z Z Z N N fun w18 H=>U<|Zt ?_
 exact eO (cs0:= #[J (x2.code),J (x2.n),.slice A9 x2.texts.length c9]) Z aN Z (H.ent (i:=0) Z) Z ⟨b2,x2,A9,c9,lo9,hi9,hA9,rfl,hc9,gP9,uP9,Ls9,Lo9,F9,B9.at_ [(b4,_),(b3,_)] H,hF9⟩
 refine W<|W<|Zr ?_
 refine cU (bl Z Z) Z Z Z (fun h54=> ?_) (fun h54=> ?_)
 refine G (Wb Z)<|U ?_
 refine eC (τ:=Unit) [53,55,56,57] (fun _=>[(53,.bool (decide (a.kind=16∨a.kind=18∨a.kind=20)))]) (fun _ w'=>Hp w0 w' ((b4,.cells #[J (0),J (0),.slice none 0 0] ec (0,0))::(b3,.cells #[J (a.kind),.string (a.name),J (a.part),J (a.n),J (a.m),.string (a.text),J (a.lost)] fP (0,0))::(bb,.cells b.c.toArray bK (0,0))::(gP,.cells uP bE (0,0))::(Ls++(Lo++K))) F) ?_ ?_
 refine ZT Z<|Zk ?_
 exact⟨(),H,dI (congrArg Value.bool (decide_eq_true I)).symm,Qg⟩
 rintro _ ρ1 w19 H
 show CW _ _ _ _ (dA (gC _ _ ρ1) [(53,.bool (decide (a.kind=16∨a.kind=18∨a.kind=20)))]) w19
 refine jl Z (fun hc53=> ?_) (fun hc53=> ?_)
 refine W<|Zr<|G (Yp Z)<|G (Zw dO H 1 Z Z Z)<|bY dN (qH (B.into [(b4,_),(b3,_)] H) hw hk h4 g (of_decide_eq_true hc53)) Z Z ?_
 rintro _ w20 ⟨b2,x2,A9,c9,lo9,hi9,hA9,rfl,hc9,gP9,uP9,Ls9,Lo9,F9,B9,hF9⟩
 replace H:=B9.out (X:=[(b4,_),(b3,_)])
 refine bo H 0 (#[J (x2.code),J (x2.n),.slice A9 x2.texts.length c9]) aP Z Z Z Z Z N N fun w21 H=>U<|Zt ?_
 exact eO (cs0:= #[J (x2.code),J (x2.n),.slice A9 x2.texts.length c9]) Z aN Z (H.ent (i:=0) Z) Z ⟨b2,x2,A9,c9,lo9,hi9,hA9,rfl,hc9,gP9,uP9,Ls9,Lo9,F9,B9.at_ [(b4,_),(b3,_)] H,hF9⟩
 refine W<|Zr ?_
 refine cU (bl Z Z) Z Z Z (fun h62=> ?_) (fun h62=> ?_)
 refine G (Wb Z)<|U<|ZT Z<|W<|Zr<|G (Yp Z)<|G (Zw dO H 1 Z Z Z)<|bY ef (n9 (B.into [(b4,_),(b3,_)] H) hw hk h4 g h62) Z Z ?_
 rintro _ w22 ⟨b2,x2,A9,c9,lo9,hi9,hA9,rfl,hc9,gP9,uP9,Ls9,Lo9,F9,B9,hF9⟩
 replace H:=B9.out (X:=[(b4,_),(b3,_)])
 refine bo H 0 (#[J (x2.code),J (x2.n),.slice A9 x2.texts.length c9]) aP Z Z Z Z Z N N fun w23 H=>U<|Zt ?_
 exact eO (cs0:= #[J (x2.code),J (x2.n),.slice A9 x2.texts.length c9]) Z aN Z (H.ent (i:=0) Z) Z ⟨b2,x2,A9,c9,lo9,hi9,hA9,rfl,hc9,gP9,uP9,Ls9,Lo9,F9,B9.at_ [(b4,_),(b3,_)] H,hF9⟩
 exfalso;have h41:=of_decide_eq_false hc41;have h53:=of_decide_eq_false hc53;have h17:=of_decide_eq_false hc17;omega
 refine G (Wb Z)<|U ?_
 refine eC (τ:=Unit) [53,55,56,57] (fun _=>[(53,.bool (decide (a.kind=16∨a.kind=18∨a.kind=20)))]) (fun _ w'=>Hp w0 w' ((b4,.cells #[J (0),J (0),.slice none 0 0] ec (0,0))::(b3,.cells #[J (a.kind),.string (a.name),J (a.part),J (a.n),J (a.m),.string (a.text),J (a.lost)] fP (0,0))::(bb,.cells b.c.toArray bK (0,0))::(gP,.cells uP bE (0,0))::(Ls++(Lo++K))) F) ?_ ?_
 refine ZF Z<|W<|Zr ?_
 refine cU (bl Z Z) Z Z Z (fun h55=> ?_) (fun h55=> ?_)
 exact absurd h55 hkd.2.2
 refine G (Wb Z)<|U<|ZF Z<|W<|Zr ?_
 refine cU (bl Z Z) Z Z Z (fun h56=> ?_) (fun h56=> ?_)
 refine G (Wb Z)<|U<|ZT Z<|Zk ?_
 exact⟨(),H,dI (congrArg Value.bool (decide_eq_true I)).symm,Qg⟩
 refine G (Wb Z)<|U<|ZF Z<|Zr ?_
 refine cU (bl Z Z) Z Z Z (fun h57=> ?_) (fun h57=> ?_)
 refine G (Wb Z)<|U ?_
 exact⟨(),H,dI (congrArg Value.bool (decide_eq_true I)).symm,Qg⟩
 refine G (Wb Z)<|U ?_
 exact⟨(),H,dI (congrArg Value.bool (decide_eq_false I)).symm,Qg⟩
 rintro _ ρ1 w24 H
 show CW _ _ _ _ (dA (gC _ _ ρ1) [(53,.bool (decide (a.kind=16∨a.kind=18∨a.kind=20)))]) w24
 refine jl Z (fun hc53=> ?_) (fun hc53=> ?_)
 refine W<|Zr<|G (Yp Z)<|G (Zw dO H 1 Z Z Z)<|bY dN (qH (B.into [(b4,_),(b3,_)] H) hw hk h4 g (of_decide_eq_true hc53)) Z Z ?_
 rintro _ w25 ⟨b2,x2,A9,c9,lo9,hi9,hA9,rfl,hc9,gP9,uP9,Ls9,Lo9,F9,B9,hF9⟩
 replace H:=B9.out (X:=[(b4,_),(b3,_)])
 refine bo H 0 (#[J (x2.code),J (x2.n),.slice A9 x2.texts.length c9]) aP Z Z Z Z Z N N fun w26 H=>U<|Zt ?_
 exact eO (cs0:= #[J (x2.code),J (x2.n),.slice A9 x2.texts.length c9]) Z aN Z (H.ent (i:=0) Z) Z ⟨b2,x2,A9,c9,lo9,hi9,hA9,rfl,hc9,gP9,uP9,Ls9,Lo9,F9,B9.at_ [(b4,_),(b3,_)] H,hF9⟩
 refine W<|Zr ?_
 refine cU (bl Z Z) Z Z Z (fun h62=> ?_) (fun h62=> ?_)
 refine G (Wb Z)<|U<|ZT Z<|W<|Zr<|G (Yp Z)<|G (Zw dO H 1 Z Z Z)<|bY ef (n9 (B.into [(b4,_),(b3,_)] H) hw hk h4 g h62) Z Z ?_
 rintro _ w27 ⟨b2,x2,A9,c9,lo9,hi9,hA9,rfl,hc9,gP9,uP9,Ls9,Lo9,F9,B9,hF9⟩
 replace H:=B9.out (X:=[(b4,_),(b3,_)])
 refine bo H 0 (#[J (x2.code),J (x2.n),.slice A9 x2.texts.length c9]) aP Z Z Z Z Z N N fun w28 H=>U<|Zt ?_
 exact eO (cs0:= #[J (x2.code),J (x2.n),.slice A9 x2.texts.length c9]) Z aN Z (H.ent (i:=0) Z) Z ⟨b2,x2,A9,c9,lo9,hi9,hA9,rfl,hc9,gP9,uP9,Ls9,Lo9,F9,B9.at_ [(b4,_),(b3,_)] H,hF9⟩
 exfalso;have h41:=of_decide_eq_false hc41;have h53:=of_decide_eq_false hc53;have h17:=of_decide_eq_false hc17;omega
 refine G (Wb Z)<|U ?_
 refine eC (τ:=Unit) [41,43,44,45,46,47,48,49] (fun _=>[(41,.bool (decide (8<=a.kind/\a.kind<=15)))]) (fun _ w'=>Hp w0 w' ((b4,.cells #[J (0),J (0),.slice none 0 0] ec (0,0))::(b3,.cells #[J (a.kind),.string (a.name),J (a.part),J (a.n),J (a.m),.string (a.text),J (a.lost)] fP (0,0))::(bb,.cells b.c.toArray bK (0,0))::(gP,.cells uP bE (0,0))::(Ls++(Lo++K))) F) ?_ ?_
 refine ZF Z<|W<|Zr ?_
 refine cU (bl Z Z) Z Z Z (fun h43=> ?_) (fun h43=> ?_)
 refine G (Wb Z)<|U<|ZT Z<|Zk ?_
 exact⟨(),H,dI (congrArg Value.bool (decide_eq_true I)).symm,Qg⟩
 refine G (Wb Z)<|U<|ZF Z<|W<|Zr ?_
 refine cU (bl Z Z) Z Z Z (fun h44=> ?_) (fun h44=> ?_)
 refine G (Wb Z)<|U<|ZT Z<|Zk ?_
 exact⟨(),H,dI (congrArg Value.bool (decide_eq_true I)).symm,Qg⟩
 refine G (Wb Z)<|U<|ZF Z<|W<|Zr ?_
 refine cU (bl Z Z) Z Z Z (fun h45=> ?_) (fun h45=> ?_)
 refine G (Wb Z)<|U<|ZT Z<|Zk ?_
 exact⟨(),H,dI (congrArg Value.bool (decide_eq_true I)).symm,Qg⟩
 refine G (Wb Z)<|U<|ZF Z<|W<|Zr ?_
 refine cU (bl Z Z) Z Z Z (fun h46=> ?_) (fun h46=> ?_)
 refine G (Wb Z)<|U<|ZT Z<|Zk ?_
 exact⟨(),H,dI (congrArg Value.bool (decide_eq_true I)).symm,Qg⟩
 refine G (Wb Z)<|U<|ZF Z<|W<|Zr ?_
 refine cU (bl Z Z) Z Z Z (fun h47=> ?_) (fun h47=> ?_)
 refine G (Wb Z)<|U<|ZT Z<|Zk ?_
 exact⟨(),H,dI (congrArg Value.bool (decide_eq_true I)).symm,Qg⟩
 refine G (Wb Z)<|U<|ZF Z<|W<|Zr ?_
 refine cU (bl Z Z) Z Z Z (fun h48=> ?_) (fun h48=> ?_)
 refine G (Wb Z)<|U<|ZT Z<|Zk ?_
 exact⟨(),H,dI (congrArg Value.bool (decide_eq_true I)).symm,Qg⟩
 refine G (Wb Z)<|U<|ZF Z<|Zr ?_
 refine cU (bl Z Z) Z Z Z (fun h49=> ?_) (fun h49=> ?_)
 refine G (Wb Z)<|U ?_
 exact⟨(),H,dI (congrArg Value.bool (decide_eq_true I)).symm,Qg⟩
 refine G (Wb Z)<|U ?_
 exact⟨(),H,dI (congrArg Value.bool (decide_eq_false I)).symm,Qg⟩
 rintro _ ρ1 w29 H
 show CW _ _ _ _ (dA (gC _ _ ρ1) [(41,.bool (decide (8<=a.kind/\a.kind<=15)))]) w29
 refine jl Z (fun hc41=> ?_) (fun hc41=> ?_)
 refine W<|Zr<|G (Yp Z)<|G (Zw dO H 1 Z Z Z)<|bY fV (wE (B.into [(b4,_),(b3,_)] H) hw hk h4 g (of_decide_eq_true hc41)) Z Z ?_
 rintro _ w30 ⟨b2,x2,A9,c9,lo9,hi9,hA9,rfl,hc9,gP9,uP9,Ls9,Lo9,F9,B9,hF9⟩
 replace H:=B9.out (X:=[(b4,_),(b3,_)])
 refine bo H 0 (#[J (x2.code),J (x2.n),.slice A9 x2.texts.length c9]) aP Z Z Z Z Z N N fun w31 H=>U<|Zt ?_
 exact eO (cs0:= #[J (x2.code),J (x2.n),.slice A9 x2.texts.length c9]) Z aN Z (H.ent (i:=0) Z) Z ⟨b2,x2,A9,c9,lo9,hi9,hA9,rfl,hc9,gP9,uP9,Ls9,Lo9,F9,B9.at_ [(b4,_),(b3,_)] H,hF9⟩
 refine W<|W<|Zr ?_
 refine cU (bl Z Z) Z Z Z (fun h54=> ?_) (fun h54=> ?_)
 refine G (Wb Z)<|U ?_
 refine eC (τ:=Unit) [53,55,56,57] (fun _=>[(53,.bool (decide (a.kind=16∨a.kind=18∨a.kind=20)))]) (fun _ w'=>Hp w0 w' ((b4,.cells #[J (0),J (0),.slice none 0 0] ec (0,0))::(b3,.cells #[J (a.kind),.string (a.name),J (a.part),J (a.n),J (a.m),.string (a.text),J (a.lost)] fP (0,0))::(bb,.cells b.c.toArray bK (0,0))::(gP,.cells uP bE (0,0))::(Ls++(Lo++K))) F) ?_ ?_
 refine ZT Z<|Zk ?_
 exact⟨(),H,dI (congrArg Value.bool (decide_eq_true I)).symm,Qg⟩
 rintro _ ρ1 w32 H
 show CW _ _ _ _ (dA (gC _ _ ρ1) [(53,.bool (decide (a.kind=16∨a.kind=18∨a.kind=20)))]) w32
 refine jl Z (fun hc53=> ?_) (fun hc53=> ?_)
 refine W<|Zr<|G (Yp Z)<|G (Zw dO H 1 Z Z Z)<|bY dN (qH (B.into [(b4,_),(b3,_)] H) hw hk h4 g (of_decide_eq_true hc53)) Z Z ?_
 rintro _ w33 ⟨b2,x2,A9,c9,lo9,hi9,hA9,rfl,hc9,gP9,uP9,Ls9,Lo9,F9,B9,hF9⟩
 replace H:=B9.out (X:=[(b4,_),(b3,_)])
 refine bo H 0 (#[J (x2.code),J (x2.n),.slice A9 x2.texts.length c9]) aP Z Z Z Z Z N N fun w34 H=>U<|Zt ?_
 exact eO (cs0:= #[J (x2.code),J (x2.n),.slice A9 x2.texts.length c9]) Z aN Z (H.ent (i:=0) Z) Z ⟨b2,x2,A9,c9,lo9,hi9,hA9,rfl,hc9,gP9,uP9,Ls9,Lo9,F9,B9.at_ [(b4,_),(b3,_)] H,hF9⟩
 refine W<|Zr ?_
 refine cU (bl Z Z) Z Z Z (fun h62=> ?_) (fun h62=> ?_)
 refine G (Wb Z)<|U<|ZT Z<|W<|Zr<|G (Yp Z)<|G (Zw dO H 1 Z Z Z)<|bY ef (n9 (B.into [(b4,_),(b3,_)] H) hw hk h4 g h62) Z Z ?_
 rintro _ w35 ⟨b2,x2,A9,c9,lo9,hi9,hA9,rfl,hc9,gP9,uP9,Ls9,Lo9,F9,B9,hF9⟩
 replace H:=B9.out (X:=[(b4,_),(b3,_)])
 refine bo H 0 (#[J (x2.code),J (x2.n),.slice A9 x2.texts.length c9]) aP Z Z Z Z Z N N fun w36 H=>U<|Zt ?_
 exact eO (cs0:= #[J (x2.code),J (x2.n),.slice A9 x2.texts.length c9]) Z aN Z (H.ent (i:=0) Z) Z ⟨b2,x2,A9,c9,lo9,hi9,hA9,rfl,hc9,gP9,uP9,Ls9,Lo9,F9,B9.at_ [(b4,_),(b3,_)] H,hF9⟩
 exfalso;have h41:=of_decide_eq_false hc41;have h53:=of_decide_eq_false hc53;have h17:=of_decide_eq_false hc17;omega
 refine G (Wb Z)<|U ?_
 refine eC (τ:=Unit) [53,55,56,57] (fun _=>[(53,.bool (decide (a.kind=16∨a.kind=18∨a.kind=20)))]) (fun _ w'=>Hp w0 w' ((b4,.cells #[J (0),J (0),.slice none 0 0] ec (0,0))::(b3,.cells #[J (a.kind),.string (a.name),J (a.part),J (a.n),J (a.m),.string (a.text),J (a.lost)] fP (0,0))::(bb,.cells b.c.toArray bK (0,0))::(gP,.cells uP bE (0,0))::(Ls++(Lo++K))) F) ?_ ?_
 refine ZF Z<|W<|Zr ?_
 refine cU (bl Z Z) Z Z Z (fun h55=> ?_) (fun h55=> ?_)
 exact absurd h55 hkd.2.2
 refine G (Wb Z)<|U<|ZF Z<|W<|Zr ?_
 refine cU (bl Z Z) Z Z Z (fun h56=> ?_) (fun h56=> ?_)
 refine G (Wb Z)<|U<|ZT Z<|Zk ?_
 exact⟨(),H,dI (congrArg Value.bool (decide_eq_true I)).symm,Qg⟩
 refine G (Wb Z)<|U<|ZF Z<|Zr ?_
 refine cU (bl Z Z) Z Z Z (fun h57=> ?_) (fun h57=> ?_)
 refine G (Wb Z)<|U ?_
 exact⟨(),H,dI (congrArg Value.bool (decide_eq_true I)).symm,Qg⟩
 refine G (Wb Z)<|U ?_
 exact⟨(),H,dI (congrArg Value.bool (decide_eq_false I)).symm,Qg⟩
 rintro _ ρ1 w37 H
 show CW _ _ _ _ (dA (gC _ _ ρ1) [(53,.bool (decide (a.kind=16∨a.kind=18∨a.kind=20)))]) w37
 refine jl Z (fun hc53=> ?_) (fun hc53=> ?_)
 refine W<|Zr<|G (Yp Z)<|G (Zw dO H 1 Z Z Z)<|bY dN (qH (B.into [(b4,_),(b3,_)] H) hw hk h4 g (of_decide_eq_true hc53)) Z Z ?_
 rintro _ w38 ⟨b2,x2,A9,c9,lo9,hi9,hA9,rfl,hc9,gP9,uP9,Ls9,Lo9,F9,B9,hF9⟩
 replace H:=B9.out (X:=[(b4,_),(b3,_)])
 refine bo H 0 (#[J (x2.code),J (x2.n),.slice A9 x2.texts.length c9]) aP Z Z Z Z Z N N fun w39 H=>U<|Zt ?_
 exact eO (cs0:= #[J (x2.code),J (x2.n),.slice A9 x2.texts.length c9]) Z aN Z (H.ent (i:=0) Z) Z ⟨b2,x2,A9,c9,lo9,hi9,hA9,rfl,hc9,gP9,uP9,Ls9,Lo9,F9,B9.at_ [(b4,_),(b3,_)] H,hF9⟩
 refine W<|Zr ?_
 refine cU (bl Z Z) Z Z Z (fun h62=> ?_) (fun h62=> ?_)
 refine G (Wb Z)<|U<|ZT Z<|W<|Zr<|G (Yp Z)<|G (Zw dO H 1 Z Z Z)<|bY ef (n9 (B.into [(b4,_),(b3,_)] H) hw hk h4 g h62) Z Z ?_
 rintro _ w40 ⟨b2,x2,A9,c9,lo9,hi9,hA9,rfl,hc9,gP9,uP9,Ls9,Lo9,F9,B9,hF9⟩
 replace H:=B9.out (X:=[(b4,_),(b3,_)])
 refine bo H 0 (#[J (x2.code),J (x2.n),.slice A9 x2.texts.length c9]) aP Z Z Z Z Z N N fun w41 H=>U<|Zt ?_
 exact eO (cs0:= #[J (x2.code),J (x2.n),.slice A9 x2.texts.length c9]) Z aN Z (H.ent (i:=0) Z) Z ⟨b2,x2,A9,c9,lo9,hi9,hA9,rfl,hc9,gP9,uP9,Ls9,Lo9,F9,B9.at_ [(b4,_),(b3,_)] H,hF9⟩
 exfalso;have h41:=of_decide_eq_false hc41;have h53:=of_decide_eq_false hc53;have h17:=of_decide_eq_false hc17;omega
 refine G (Wb Z)<|U ?_
 refine eC (τ:=Unit) [17,19] (fun _=>[(17,.bool (decide (a.kind=3∨a.kind=4)))]) (fun _ w'=>Hp w0 w' ((b4,.cells #[J (0),J (0),.slice none 0 0] ec (0,0))::(b3,.cells #[J (a.kind),.string (a.name),J (a.part),J (a.n),J (a.m),.string (a.text),J (a.lost)] fP (0,0))::(bb,.cells b.c.toArray bK (0,0))::(gP,.cells uP bE (0,0))::(Ls++(Lo++K))) F) ?_ ?_
 refine ZF Z<|Zr ?_
 refine cU (bl Z Z) Z Z Z (fun h19=> ?_) (fun h19=> ?_)
 refine G (Wb Z)<|U ?_
 exact⟨(),H,dI (congrArg Value.bool (decide_eq_true I)).symm,Qg⟩
 refine G (Wb Z)<|U ?_
 exact⟨(),H,dI (congrArg Value.bool (decide_eq_false I)).symm,Qg⟩
 rintro _ ρ1 w42 H
 show CW _ _ _ _ (dA (gC _ _ ρ1) [(17,.bool (decide (a.kind=3∨a.kind=4)))]) w42
 refine jl Z (fun hc17=> ?_) (fun hc17=> ?_)
 refine W<|Zr<|G (Yp Z)<|G (Zw dO H 1 Z Z Z)<|G (Zf mI Z)<|G (Zd aj H 1 Z Z Z)<|G (bl Z Z)<|bY m9 (EU (B.into [(b4,_),(b3,_)] H) hw hk h4 g (of_decide_eq_true hc17)) Z Z ?_
 rintro _ w43 ⟨b2,x2,A9,c9,lo9,hi9,hA9,rfl,hc9,gP9,uP9,Ls9,Lo9,F9,B9,hF9⟩
 replace H:=B9.out (X:=[(b4,_),(b3,_)])
 refine bo H 0 (#[J (x2.code),J (x2.n),.slice A9 x2.texts.length c9]) aP Z Z Z Z Z N N fun w44 H=>U<|Zt ?_
 exact eO (cs0:= #[J (x2.code),J (x2.n),.slice A9 x2.texts.length c9]) Z aN Z (H.ent (i:=0) Z) Z ⟨b2,x2,A9,c9,lo9,hi9,hA9,rfl,hc9,gP9,uP9,Ls9,Lo9,F9,B9.at_ [(b4,_),(b3,_)] H,hF9⟩
 refine W<|Zr ?_
 refine cU (bl Z Z) Z Z Z (fun h27=> ?_) (fun h27=> ?_)
 refine G (Wb Z)<|U<|ZT Z<|W<|Zr<|G (Yp Z)<|G (Zw dO H 1 Z Z Z)<|bY l5 (AM (B.into [(b4,_),(b3,_)] H) hw hk h4 g h27) Z Z ?_
 rintro _ w45 ⟨b2,x2,A9,c9,lo9,hi9,hA9,rfl,hc9,gP9,uP9,Ls9,Lo9,F9,B9,hF9⟩
 replace H:=B9.out (X:=[(b4,_),(b3,_)])
 refine bo H 0 (#[J (x2.code),J (x2.n),.slice A9 x2.texts.length c9]) aP Z Z Z Z Z N N fun w46 H=>U<|Zt ?_
 exact eO (cs0:= #[J (x2.code),J (x2.n),.slice A9 x2.texts.length c9]) Z aN Z (H.ent (i:=0) Z) Z ⟨b2,x2,A9,c9,lo9,hi9,hA9,rfl,hc9,gP9,uP9,Ls9,Lo9,F9,B9.at_ [(b4,_),(b3,_)] H,hF9⟩
 refine G (Wb Z)<|U<|ZF Z<|W<|Zr ?_
 refine cU (bl Z Z) Z Z Z (fun h32=> ?_) (fun h32=> ?_)
 refine G (Wb Z)<|U<|ZT Z<|W<|Zr<|G (Yp Z)<|G (Zw dO H 1 Z Z Z)<|bY na (Fk (B.into [(b4,_),(b3,_)] H) hw hk h4 g h32) Z Z ?_
 rintro _ w47 ⟨b2,x2,A9,c9,lo9,hi9,hA9,rfl,hc9,gP9,uP9,Ls9,Lo9,F9,B9,hF9⟩
 replace H:=B9.out (X:=[(b4,_),(b3,_)])
 refine bo H 0 (#[J (x2.code),J (x2.n),.slice A9 x2.texts.length c9]) aP Z Z Z Z Z N N fun w48 H=>U<|Zt ?_
 exact eO (cs0:= #[J (x2.code),J (x2.n),.slice A9 x2.texts.length c9]) Z aN Z (H.ent (i:=0) Z) Z ⟨b2,x2,A9,c9,lo9,hi9,hA9,rfl,hc9,gP9,uP9,Ls9,Lo9,F9,B9.at_ [(b4,_),(b3,_)] H,hF9⟩
 refine G (Wb Z)<|U<|ZF Z<|W<|Zr ?_
 refine cU (bl Z Z) Z Z Z (fun h37=> ?_) (fun h37=> ?_)
 refine G (Wb Z)<|U<|ZT Z<|W<|Zr<|G (Yp Z)<|G (Zw dO H 1 Z Z Z)<|bY m8 (EG (B.into [(b4,_),(b3,_)] H) hw hk h4 g h37) Z Z ?_
 rintro _ w49 ⟨b2,x2,A9,c9,lo9,hi9,hA9,rfl,hc9,gP9,uP9,Ls9,Lo9,F9,B9,hF9⟩
 replace H:=B9.out (X:=[(b4,_),(b3,_)])
 refine bo H 0 (#[J (x2.code),J (x2.n),.slice A9 x2.texts.length c9]) aP Z Z Z Z Z N N fun w50 H=>U<|Zt ?_
 exact eO (cs0:= #[J (x2.code),J (x2.n),.slice A9 x2.texts.length c9]) Z aN Z (H.ent (i:=0) Z) Z ⟨b2,x2,A9,c9,lo9,hi9,hA9,rfl,hc9,gP9,uP9,Ls9,Lo9,F9,B9.at_ [(b4,_),(b3,_)] H,hF9⟩
 refine G (Wb Z)<|U<|ZF Z<|W<|W<|Zr ?_
 refine cU (bl Z Z) Z Z Z (fun h42=> ?_) (fun h42=> ?_)
 refine G (Wb Z)<|U ?_
 refine eC (τ:=Unit) [41,43,44,45,46,47,48,49] (fun _=>[(41,.bool (decide (8<=a.kind/\a.kind<=15)))]) (fun _ w'=>Hp w0 w' ((b4,.cells #[J (0),J (0),.slice none 0 0] ec (0,0))::(b3,.cells #[J (a.kind),.string (a.name),J (a.part),J (a.n),J (a.m),.string (a.text),J (a.lost)] fP (0,0))::(bb,.cells b.c.toArray bK (0,0))::(gP,.cells uP bE (0,0))::(Ls++(Lo++K))) F) ?_ ?_
 refine ZT Z<|Zk ?_
 exact⟨(),H,dI (congrArg Value.bool (decide_eq_true I)).symm,Qg⟩
 rintro _ ρ1 w51 H
 show CW _ _ _ _ (dA (gC _ _ ρ1) [(41,.bool (decide (8<=a.kind/\a.kind<=15)))]) w51
 refine jl Z (fun hc41=> ?_) (fun hc41=> ?_)
 refine W<|Zr<|G (Yp Z)<|G (Zw dO H 1 Z Z Z)<|bY fV (wE (B.into [(b4,_),(b3,_)] H) hw hk h4 g (of_decide_eq_true hc41)) Z Z ?_
 rintro _ w52 ⟨b2,x2,A9,c9,lo9,hi9,hA9,rfl,hc9,gP9,uP9,Ls9,Lo9,F9,B9,hF9⟩
 replace H:=B9.out (X:=[(b4,_),(b3,_)])
 refine bo H 0 (#[J (x2.code),J (x2.n),.slice A9 x2.texts.length c9]) aP Z Z Z Z Z N N fun w53 H=>U<|Zt ?_
 exact eO (cs0:= #[J (x2.code),J (x2.n),.slice A9 x2.texts.length c9]) Z aN Z (H.ent (i:=0) Z) Z ⟨b2,x2,A9,c9,lo9,hi9,hA9,rfl,hc9,gP9,uP9,Ls9,Lo9,F9,B9.at_ [(b4,_),(b3,_)] H,hF9⟩
 refine W<|W<|Zr ?_
 refine cU (bl Z Z) Z Z Z (fun h54=> ?_) (fun h54=> ?_)
 refine G (Wb Z)<|U ?_
 refine eC (τ:=Unit) [53,55,56,57] (fun _=>[(53,.bool (decide (a.kind=16∨a.kind=18∨a.kind=20)))]) (fun _ w'=>Hp w0 w' ((b4,.cells #[J (0),J (0),.slice none 0 0] ec (0,0))::(b3,.cells #[J (a.kind),.string (a.name),J (a.part),J (a.n),J (a.m),.string (a.text),J (a.lost)] fP (0,0))::(bb,.cells b.c.toArray bK (0,0))::(gP,.cells uP bE (0,0))::(Ls++(Lo++K))) F) ?_ ?_
 refine ZT Z<|Zk ?_
 exact⟨(),H,dI (congrArg Value.bool (decide_eq_true I)).symm,Qg⟩
 rintro _ ρ1 w54 H
 show CW _ _ _ _ (dA (gC _ _ ρ1) [(53,.bool (decide (a.kind=16∨a.kind=18∨a.kind=20)))]) w54
 refine jl Z (fun hc53=> ?_) (fun hc53=> ?_)
 refine W<|Zr<|G (Yp Z)<|G (Zw dO H 1 Z Z Z)<|bY dN (qH (B.into [(b4,_),(b3,_)] H) hw hk h4 g (of_decide_eq_true hc53)) Z Z ?_
 rintro _ w55 ⟨b2,x2,A9,c9,lo9,hi9,hA9,rfl,hc9,gP9,uP9,Ls9,Lo9,F9,B9,hF9⟩
 replace H:=B9.out (X:=[(b4,_),(b3,_)])
 refine bo H 0 (#[J (x2.code),J (x2.n),.slice A9 x2.texts.length c9]) aP Z Z Z Z Z N N fun w56 H=>U<|Zt ?_
 exact eO (cs0:= #[J (x2.code),J (x2.n),.slice A9 x2.texts.length c9]) Z aN Z (H.ent (i:=0) Z) Z ⟨b2,x2,A9,c9,lo9,hi9,hA9,rfl,hc9,gP9,uP9,Ls9,Lo9,F9,B9.at_ [(b4,_),(b3,_)] H,hF9⟩
 refine W<|Zr ?_
 refine cU (bl Z Z) Z Z Z (fun h62=> ?_) (fun h62=> ?_)
 refine G (Wb Z)<|U<|ZT Z<|W<|Zr<|G (Yp Z)<|G (Zw dO H 1 Z Z Z)<|bY ef (n9 (B.into [(b4,_),(b3,_)] H) hw hk h4 g h62) Z Z ?_
 rintro _ w57 ⟨b2,x2,A9,c9,lo9,hi9,hA9,rfl,hc9,gP9,uP9,Ls9,Lo9,F9,B9,hF9⟩
 replace H:=B9.out (X:=[(b4,_),(b3,_)])
 refine bo H 0 (#[J (x2.code),J (x2.n),.slice A9 x2.texts.length c9]) aP Z Z Z Z Z N N fun w58 H=>U<|Zt ?_
 exact eO (cs0:= #[J (x2.code),J (x2.n),.slice A9 x2.texts.length c9]) Z aN Z (H.ent (i:=0) Z) Z ⟨b2,x2,A9,c9,lo9,hi9,hA9,rfl,hc9,gP9,uP9,Ls9,Lo9,F9,B9.at_ [(b4,_),(b3,_)] H,hF9⟩
 exfalso;have h41:=of_decide_eq_false hc41;have h53:=of_decide_eq_false hc53;have h17:=of_decide_eq_false hc17;omega
 refine G (Wb Z)<|U ?_
 refine eC (τ:=Unit) [53,55,56,57] (fun _=>[(53,.bool (decide (a.kind=16∨a.kind=18∨a.kind=20)))]) (fun _ w'=>Hp w0 w' ((b4,.cells #[J (0),J (0),.slice none 0 0] ec (0,0))::(b3,.cells #[J (a.kind),.string (a.name),J (a.part),J (a.n),J (a.m),.string (a.text),J (a.lost)] fP (0,0))::(bb,.cells b.c.toArray bK (0,0))::(gP,.cells uP bE (0,0))::(Ls++(Lo++K))) F) ?_ ?_
 refine ZF Z<|W<|Zr ?_
 refine cU (bl Z Z) Z Z Z (fun h55=> ?_) (fun h55=> ?_)
 exact absurd h55 hkd.2.2
 refine G (Wb Z)<|U<|ZF Z<|W<|Zr ?_
 refine cU (bl Z Z) Z Z Z (fun h56=> ?_) (fun h56=> ?_)
 refine G (Wb Z)<|U<|ZT Z<|Zk ?_
 exact⟨(),H,dI (congrArg Value.bool (decide_eq_true I)).symm,Qg⟩
 refine G (Wb Z)<|U<|ZF Z<|Zr ?_
 refine cU (bl Z Z) Z Z Z (fun h57=> ?_) (fun h57=> ?_)
 refine G (Wb Z)<|U ?_
 exact⟨(),H,dI (congrArg Value.bool (decide_eq_true I)).symm,Qg⟩
 refine G (Wb Z)<|U ?_
 exact⟨(),H,dI (congrArg Value.bool (decide_eq_false I)).symm,Qg⟩
 rintro _ ρ1 w59 H
 show CW _ _ _ _ (dA (gC _ _ ρ1) [(53,.bool (decide (a.kind=16∨a.kind=18∨a.kind=20)))]) w59
 refine jl Z (fun hc53=> ?_) (fun hc53=> ?_)
 refine W<|Zr<|G (Yp Z)<|G (Zw dO H 1 Z Z Z)<|bY dN (qH (B.into [(b4,_),(b3,_)] H) hw hk h4 g (of_decide_eq_true hc53)) Z Z ?_
 rintro _ w60 ⟨b2,x2,A9,c9,lo9,hi9,hA9,rfl,hc9,gP9,uP9,Ls9,Lo9,F9,B9,hF9⟩
 replace H:=B9.out (X:=[(b4,_),(b3,_)])
 refine bo H 0 (#[J (x2.code),J (x2.n),.slice A9 x2.texts.length c9]) aP Z Z Z Z Z N N fun w61 H=>U<|Zt ?_
 exact eO (cs0:= #[J (x2.code),J (x2.n),.slice A9 x2.texts.length c9]) Z aN Z (H.ent (i:=0) Z) Z ⟨b2,x2,A9,c9,lo9,hi9,hA9,rfl,hc9,gP9,uP9,Ls9,Lo9,F9,B9.at_ [(b4,_),(b3,_)] H,hF9⟩
 refine W<|Zr ?_
 refine cU (bl Z Z) Z Z Z (fun h62=> ?_) (fun h62=> ?_)
 refine G (Wb Z)<|U<|ZT Z<|W<|Zr<|G (Yp Z)<|G (Zw dO H 1 Z Z Z)<|bY ef (n9 (B.into [(b4,_),(b3,_)] H) hw hk h4 g h62) Z Z ?_
 rintro _ w62 ⟨b2,x2,A9,c9,lo9,hi9,hA9,rfl,hc9,gP9,uP9,Ls9,Lo9,F9,B9,hF9⟩
 replace H:=B9.out (X:=[(b4,_),(b3,_)])
 refine bo H 0 (#[J (x2.code),J (x2.n),.slice A9 x2.texts.length c9]) aP Z Z Z Z Z N N fun w63 H=>U<|Zt ?_
 exact eO (cs0:= #[J (x2.code),J (x2.n),.slice A9 x2.texts.length c9]) Z aN Z (H.ent (i:=0) Z) Z ⟨b2,x2,A9,c9,lo9,hi9,hA9,rfl,hc9,gP9,uP9,Ls9,Lo9,F9,B9.at_ [(b4,_),(b3,_)] H,hF9⟩
 exfalso;have h41:=of_decide_eq_false hc41;have h53:=of_decide_eq_false hc53;have h17:=of_decide_eq_false hc17;omega
 refine G (Wb Z)<|U ?_
 refine eC (τ:=Unit) [41,43,44,45,46,47,48,49] (fun _=>[(41,.bool (decide (8<=a.kind/\a.kind<=15)))]) (fun _ w'=>Hp w0 w' ((b4,.cells #[J (0),J (0),.slice none 0 0] ec (0,0))::(b3,.cells #[J (a.kind),.string (a.name),J (a.part),J (a.n),J (a.m),.string (a.text),J (a.lost)] fP (0,0))::(bb,.cells b.c.toArray bK (0,0))::(gP,.cells uP bE (0,0))::(Ls++(Lo++K))) F) ?_ ?_
 refine ZF Z<|W<|Zr ?_
 refine cU (bl Z Z) Z Z Z (fun h43=> ?_) (fun h43=> ?_)
 refine G (Wb Z)<|U<|ZT Z<|Zk ?_
 exact⟨(),H,dI (congrArg Value.bool (decide_eq_true I)).symm,Qg⟩
 refine G (Wb Z)<|U<|ZF Z<|W<|Zr ?_
 refine cU (bl Z Z) Z Z Z (fun h44=> ?_) (fun h44=> ?_)
 refine G (Wb Z)<|U<|ZT Z<|Zk ?_
 exact⟨(),H,dI (congrArg Value.bool (decide_eq_true I)).symm,Qg⟩
 refine G (Wb Z)<|U<|ZF Z<|W<|Zr ?_
 refine cU (bl Z Z) Z Z Z (fun h45=> ?_) (fun h45=> ?_)
 refine G (Wb Z)<|U<|ZT Z<|Zk ?_
 exact⟨(),H,dI (congrArg Value.bool (decide_eq_true I)).symm,Qg⟩
 refine G (Wb Z)<|U<|ZF Z<|W<|Zr ?_
 refine cU (bl Z Z) Z Z Z (fun h46=> ?_) (fun h46=> ?_)
 refine G (Wb Z)<|U<|ZT Z<|Zk ?_
 exact⟨(),H,dI (congrArg Value.bool (decide_eq_true I)).symm,Qg⟩
 refine G (Wb Z)<|U<|ZF Z<|W<|Zr ?_
 refine cU (bl Z Z) Z Z Z (fun h47=> ?_) (fun h47=> ?_)
 refine G (Wb Z)<|U<|ZT Z<|Zk ?_
 exact⟨(),H,dI (congrArg Value.bool (decide_eq_true I)).symm,Qg⟩
 refine G (Wb Z)<|U<|ZF Z<|W<|Zr ?_
 refine cU (bl Z Z) Z Z Z (fun h48=> ?_) (fun h48=> ?_)
 refine G (Wb Z)<|U<|ZT Z<|Zk ?_
 exact⟨(),H,dI (congrArg Value.bool (decide_eq_true I)).symm,Qg⟩
 refine G (Wb Z)<|U<|ZF Z<|Zr ?_
 refine cU (bl Z Z) Z Z Z (fun h49=> ?_) (fun h49=> ?_)
 refine G (Wb Z)<|U ?_
 exact⟨(),H,dI (congrArg Value.bool (decide_eq_true I)).symm,Qg⟩
 refine G (Wb Z)<|U ?_
 exact⟨(),H,dI (congrArg Value.bool (decide_eq_false I)).symm,Qg⟩
 rintro _ ρ1 w64 H
 show CW _ _ _ _ (dA (gC _ _ ρ1) [(41,.bool (decide (8<=a.kind/\a.kind<=15)))]) w64
 refine jl Z (fun hc41=> ?_) (fun hc41=> ?_)
 refine W<|Zr<|G (Yp Z)<|G (Zw dO H 1 Z Z Z)<|bY fV (wE (B.into [(b4,_),(b3,_)] H) hw hk h4 g (of_decide_eq_true hc41)) Z Z ?_
 rintro _ w65 ⟨b2,x2,A9,c9,lo9,hi9,hA9,rfl,hc9,gP9,uP9,Ls9,Lo9,F9,B9,hF9⟩
 replace H:=B9.out (X:=[(b4,_),(b3,_)])
 refine bo H 0 (#[J (x2.code),J (x2.n),.slice A9 x2.texts.length c9]) aP Z Z Z Z Z N N fun w66 H=>U<|Zt ?_
 exact eO (cs0:= #[J (x2.code),J (x2.n),.slice A9 x2.texts.length c9]) Z aN Z (H.ent (i:=0) Z) Z ⟨b2,x2,A9,c9,lo9,hi9,hA9,rfl,hc9,gP9,uP9,Ls9,Lo9,F9,B9.at_ [(b4,_),(b3,_)] H,hF9⟩
 refine W<|W<|Zr ?_
 refine cU (bl Z Z) Z Z Z (fun h54=> ?_) (fun h54=> ?_)
 refine G (Wb Z)<|U ?_
 refine eC (τ:=Unit) [53,55,56,57] (fun _=>[(53,.bool (decide (a.kind=16∨a.kind=18∨a.kind=20)))]) (fun _ w'=>Hp w0 w' ((b4,.cells #[J (0),J (0),.slice none 0 0] ec (0,0))::(b3,.cells #[J (a.kind),.string (a.name),J (a.part),J (a.n),J (a.m),.string (a.text),J (a.lost)] fP (0,0))::(bb,.cells b.c.toArray bK (0,0))::(gP,.cells uP bE (0,0))::(Ls++(Lo++K))) F) ?_ ?_
 refine ZT Z<|Zk ?_
 exact⟨(),H,dI (congrArg Value.bool (decide_eq_true I)).symm,Qg⟩
 rintro _ ρ1 w67 H
 show CW _ _ _ _ (dA (gC _ _ ρ1) [(53,.bool (decide (a.kind=16∨a.kind=18∨a.kind=20)))]) w67
 refine jl Z (fun hc53=> ?_) (fun hc53=> ?_)
 refine W<|Zr<|G (Yp Z)<|G (Zw dO H 1 Z Z Z)<|bY dN (qH (B.into [(b4,_),(b3,_)] H) hw hk h4 g (of_decide_eq_true hc53)) Z Z ?_
 rintro _ w68 ⟨b2,x2,A9,c9,lo9,hi9,hA9,rfl,hc9,gP9,uP9,Ls9,Lo9,F9,B9,hF9⟩
 replace H:=B9.out (X:=[(b4,_),(b3,_)])
 refine bo H 0 (#[J (x2.code),J (x2.n),.slice A9 x2.texts.length c9]) aP Z Z Z Z Z N N fun w69 H=>U<|Zt ?_
 exact eO (cs0:= #[J (x2.code),J (x2.n),.slice A9 x2.texts.length c9]) Z aN Z (H.ent (i:=0) Z) Z ⟨b2,x2,A9,c9,lo9,hi9,hA9,rfl,hc9,gP9,uP9,Ls9,Lo9,F9,B9.at_ [(b4,_),(b3,_)] H,hF9⟩
 refine W<|Zr ?_
 refine cU (bl Z Z) Z Z Z (fun h62=> ?_) (fun h62=> ?_)
 refine G (Wb Z)<|U<|ZT Z<|W<|Zr<|G (Yp Z)<|G (Zw dO H 1 Z Z Z)<|bY ef (n9 (B.into [(b4,_),(b3,_)] H) hw hk h4 g h62) Z Z ?_
 rintro _ w70 ⟨b2,x2,A9,c9,lo9,hi9,hA9,rfl,hc9,gP9,uP9,Ls9,Lo9,F9,B9,hF9⟩
 replace H:=B9.out (X:=[(b4,_),(b3,_)])
 refine bo H 0 (#[J (x2.code),J (x2.n),.slice A9 x2.texts.length c9]) aP Z Z Z Z Z N N fun w71 H=>U<|Zt ?_
 exact eO (cs0:= #[J (x2.code),J (x2.n),.slice A9 x2.texts.length c9]) Z aN Z (H.ent (i:=0) Z) Z ⟨b2,x2,A9,c9,lo9,hi9,hA9,rfl,hc9,gP9,uP9,Ls9,Lo9,F9,B9.at_ [(b4,_),(b3,_)] H,hF9⟩
 exfalso;have h41:=of_decide_eq_false hc41;have h53:=of_decide_eq_false hc53;have h17:=of_decide_eq_false hc17;omega
 refine G (Wb Z)<|U ?_
 refine eC (τ:=Unit) [53,55,56,57] (fun _=>[(53,.bool (decide (a.kind=16∨a.kind=18∨a.kind=20)))]) (fun _ w'=>Hp w0 w' ((b4,.cells #[J (0),J (0),.slice none 0 0] ec (0,0))::(b3,.cells #[J (a.kind),.string (a.name),J (a.part),J (a.n),J (a.m),.string (a.text),J (a.lost)] fP (0,0))::(bb,.cells b.c.toArray bK (0,0))::(gP,.cells uP bE (0,0))::(Ls++(Lo++K))) F) ?_ ?_
 refine ZF Z<|W<|Zr ?_
 refine cU (bl Z Z) Z Z Z (fun h55=> ?_) (fun h55=> ?_)
 exact absurd h55 hkd.2.2
 refine G (Wb Z)<|U<|ZF Z<|W<|Zr ?_
 refine cU (bl Z Z) Z Z Z (fun h56=> ?_) (fun h56=> ?_)
 refine G (Wb Z)<|U<|ZT Z<|Zk ?_
 exact⟨(),H,dI (congrArg Value.bool (decide_eq_true I)).symm,Qg⟩
 refine G (Wb Z)<|U<|ZF Z<|Zr ?_
 refine cU (bl Z Z) Z Z Z (fun h57=> ?_) (fun h57=> ?_)
 refine G (Wb Z)<|U ?_
 exact⟨(),H,dI (congrArg Value.bool (decide_eq_true I)).symm,Qg⟩
 refine G (Wb Z)<|U ?_
 exact⟨(),H,dI (congrArg Value.bool (decide_eq_false I)).symm,Qg⟩
 rintro _ ρ1 w72 H
 show CW _ _ _ _ (dA (gC _ _ ρ1) [(53,.bool (decide (a.kind=16∨a.kind=18∨a.kind=20)))]) w72
 refine jl Z (fun hc53=> ?_) (fun hc53=> ?_)
 refine W<|Zr<|G (Yp Z)<|G (Zw dO H 1 Z Z Z)<|bY dN (qH (B.into [(b4,_),(b3,_)] H) hw hk h4 g (of_decide_eq_true hc53)) Z Z ?_
 rintro _ w73 ⟨b2,x2,A9,c9,lo9,hi9,hA9,rfl,hc9,gP9,uP9,Ls9,Lo9,F9,B9,hF9⟩
 replace H:=B9.out (X:=[(b4,_),(b3,_)])
 refine bo H 0 (#[J (x2.code),J (x2.n),.slice A9 x2.texts.length c9]) aP Z Z Z Z Z N N fun w74 H=>U<|Zt ?_
 exact eO (cs0:= #[J (x2.code),J (x2.n),.slice A9 x2.texts.length c9]) Z aN Z (H.ent (i:=0) Z) Z ⟨b2,x2,A9,c9,lo9,hi9,hA9,rfl,hc9,gP9,uP9,Ls9,Lo9,F9,B9.at_ [(b4,_),(b3,_)] H,hF9⟩
 refine W<|Zr ?_
 refine cU (bl Z Z) Z Z Z (fun h62=> ?_) (fun h62=> ?_)
 refine G (Wb Z)<|U<|ZT Z<|W<|Zr<|G (Yp Z)<|G (Zw dO H 1 Z Z Z)<|bY ef (n9 (B.into [(b4,_),(b3,_)] H) hw hk h4 g h62) Z Z ?_
 rintro _ w75 ⟨b2,x2,A9,c9,lo9,hi9,hA9,rfl,hc9,gP9,uP9,Ls9,Lo9,F9,B9,hF9⟩
 replace H:=B9.out (X:=[(b4,_),(b3,_)])
 refine bo H 0 (#[J (x2.code),J (x2.n),.slice A9 x2.texts.length c9]) aP Z Z Z Z Z N N fun w76 H=>U<|Zt ?_
 exact eO (cs0:= #[J (x2.code),J (x2.n),.slice A9 x2.texts.length c9]) Z aN Z (H.ent (i:=0) Z) Z ⟨b2,x2,A9,c9,lo9,hi9,hA9,rfl,hc9,gP9,uP9,Ls9,Lo9,F9,B9.at_ [(b4,_),(b3,_)] H,hF9⟩
 exfalso;have h41:=of_decide_eq_false hc41;have h53:=of_decide_eq_false hc53;have h17:=of_decide_eq_false hc17;omega
end Go.Proofs.YtclibalpdhhhfaaGreat
