/- Part 4 of the proofs over this seat: what its theorems say holds for every input that they name. -/
import Derived.Test.YtclibalpdhhhfaaGreatAF3
namespace Go.Proofs.YtclibalpdhhhfaaGreat
open Go Go.Eng Go.RowKit
open Go.Eng renaming m8→U, AG→W, Jj→Zr, M1→Zk, Pm→Zt, OL→Zb, O4→Zx, Pv→Yi, Pw→Yb, Pt→Ys, Pu→Yp, Ps→Yt, Pr→Yu, PK→Wi, PL→Wb, PI→Ws, PJ→Wp, PH→Wt, Pz→Zf, PD→Xi, PF→Xa, PC→Xs, Pc→Kt, Pd→N, pB→ZT, oq→ZF
open Go.Proofs.Tryz renaming prog→aa
open _root_.List renaming length_set→ab,mem_of_getElem?→ae,getElem?_eq_getElem→ah,mem_cons_of_mem→ak,getElem?_set_self→am,mem_singleton→aq,replicate→ar,mem_append→au,mem_cons→ax,length_append→ay,mem_cons_self→az,append_assoc→aE,length_take→aH,getElem?_map→aL,mem_iff_getElem?→aW,append_nil→aX,findIdx?_eq_some_iff_getElem→bf,map_append→bk,mem_map→bw,mem_or_eq_of_mem_set→bE,length_map→bF,length_replicate→bH,take_length→bJ,mem_map_of_mem→bL,length_singleton→bO,eq_nil_of_length_eq_zero→bS,length_cons→bV,getD_eq_getElem?_getD→bW,sublist_append_right→cj,getElem?_append_right→cv,map_set→cw,mem_nil_iff→cC,getElem?_eq_none→cI,findIdx?_eq_none_iff→dm,getElem?_drop→dI,mem_singleton_self→dW,pairwise_cons→ei,map_cons→eF,ext_getElem?→eG,set_set→fk,prefix_refl→fl,drop_length→fm,eq_of_mem_replicate→fz,getElem?_replicate→fO,perm_append_comm_assoc→fR,set_append_right→i5,pairwise_map→jh,mem_filter→kG,getElem?_set→lh,pairwise_append→lT,map_nil→mb,pairwise_iff_getElem→mH,drop_eq_getElem_cons→mI,map_map→r3,getElem_mem→vt,set_cons_zero→Be,findIdx?_map→CT,any_eq_false→CU
open _root_.List.Perm renaming cons→ai,swap→al
open _root_.Nat renaming le_refl→ao,le_trans→aS,min_eq_left→bu,le_succ→bA,zero_le→bG,add_assoc→kM,sub_self→l9,le_of_lt→ma,add_comm→rZ
open _root_.List.Sublist renaming refl→ap
open _root_.Bool renaming and_eq_true→aQ,not_eq_true'→oX
open _root_.Option.some renaming inj→bj,injEq→lg
open _root_.Option renaming map_some→eS,bind_some→fN,map_eq_some_iff→iD
open _root_.Int renaming le_refl→iS
set_option maxHeartbeats 4000000
set_option maxRecDepth 20000
set_option linter.unusedSimpArgs false
set_option linter.unusedVariables false
set_option linter.unusedSectionVars false
theorem Co.rd.st {c:Co} {lo hi:Nat} {w w':World} (hk: ∀ k,lo<=k->k<hi->w'.heap[k]? =w.heap[k]?) (h:c.rd lo hi w):c.rd lo hi w':=
 ⟨h.row.st hk,fun t ht=>(h.parts t ht).st hk,h.cap,h.few,h.fewP⟩
theorem Co.rd.mono {c:Co} {lo hi lo' hi':Nat} {w:World} (h:c.rd lo hi w) (hl:lo'<=lo) (hh:hi<=hi'):c.rd lo' hi' w:=
 ⟨h.row.mono hl hh,fun t ht=>(h.parts t ht).mono hl hh,h.cap,h.few,h.fewP⟩
def Qh (lo hi:Nat) (c:Co):cr:=⟨lo,hi,c.rd lo hi,fun _ _ hk h=>h.st hk⟩
theorem Hp.co {w0 w:World} {L:List (Nat×Obj)} {F:List cr} {lo hi:Nat} {c:Co} (H:Hp w0 w L F) (i:Nat) (hF:F[i]? =some (Qh lo hi c)):c.rd 0 w.heap.size w:=
 Co.rd.mono (H.fact hF) (bG _) (H.facts _ (ae hF)).2.1
def ub (w w2:World) (c:Co):Prop:=c.rd w.heap.size w2.heap.size w2/\Below w.heap.size w w2
theorem Hi.new {w w2:World} {c:Co} (h:Hi w w2 c) (h1:c.txs.length<=8) (h2: ∀ t∈c.txs,t.parts.length<=4):ub w w2 c:=
 ⟨⟨h.row,h.parts,h.cap,by omega,fun t ht=>⟨by have:=h2 t ht;omega,h.caps t ht⟩⟩,h.below⟩
theorem pd {w w2:World} (h:Below w.heap.size w w2):ub w w2 yF:=(Nz h).new (by simp[yF]) (by simp[yF])
theorem EK {l:List Int} (h:cR (-1) l=true):l.length<=4:=by have:=mf h;omega
theorem Ca {ck nx:Int}: ∀ {l pre:List Tx},nP ck nx pre l=true↔(∀ t∈l,fB ck nx t=true)/\(∀ t∈l,∀ p∈pre,se t p=false)/\l.Pairwise (fun p t=>se t p=false)
 |[],pre=>by simp[nP]
 |t::l,pre=>by
  unfold nP
  rw[aQ,aQ,Ca,ei]
  simp only[ax,au,aq,forall_eq_or_imp,oX,CU]
  constructor
  rintro⟨⟨h1,h2⟩,h3,h4,h5⟩
  exact⟨⟨h1,h3⟩,⟨fun p hp=>by simpa using h2 p hp,fun a ha p hp=>h4 a ha p (.inl hp)⟩,fun a ha=>h4 a ha t (by simp),h5⟩
  rintro⟨⟨h1,h3⟩,⟨h2,h4⟩,h5,h6⟩
  exact⟨⟨h1,fun p hp=>by simpa using h2 p hp⟩,h3,fun a ha p hp=>hp.elim (h4 a ha p) (fun h=>by have:=h5 a ha;simp at h;rwa[h]),h6⟩
def vv (l:List Tx):Prop:=(l.map fun t=>(t.name,t.pid)).Pairwise fun p t=>p.1≠t.1/\p.2≠t.2
theorem Jt {l:List Tx}:vv l↔l.Pairwise (fun p t=>se t p=false):=by
 unfold vv
 rw[jh]
 constructor<;>intro h<;>refine h.imp fun{a b} hab=> ?_
 simpa [se]using hab
 simpa [se]using hab
theorem gE {c:Co}:gA c=true↔(iN c.clock=true/\1<=c.next/\c.next<=1073741824/\1<=c.wait/\c.wait<=1000/\(c.txs.length:Int)<=8)/\(∀ t∈c.txs,fB c.clock c.next t=true)/\vv c.txs:=by
 rw[iR,Ca,Jt]
 constructor
 rintro⟨h1,h2,h3,h4,h5,h6,h7,h8,h9⟩;exact⟨⟨h1,h2,h3,h4,h5,h6⟩,h7,h9⟩
 rintro⟨⟨h1,h2,h3,h4,h5,h6⟩,h7,h9⟩;exact⟨h1,h2,h3,h4,h5,h6,h7,by simp,h9⟩
theorem G4 {c:Co} (h:gA c=true):c.txs.length<=8/\ ∀ t∈c.txs,t.parts.length<=4:=by
 obtain⟨⟨_,_,_,_,_,h6⟩,h7,_⟩:=gE.1 h
 exact⟨by omega,fun t ht=>EK (cz.1 (h7 t ht)).2.2.2.2.2.2.2.2.2.1⟩
theorem qf.new {w w2:World} {ca c':Co} {Lr Lp:List (Nat×Obj)} (h:qf w w2 ca c' Lr Lp) (hok:gA ca=true):ub w w2 c':=by
 have h1:gA c'=true:=by rw[sF,h.1];exact hok
 obtain⟨h2,h3⟩:=G4 h1
 exact h.read.new h2 h3
def fV (c:Co) (s:ByteArray):Option (Nat×Tx):=(c.txs.findIdx? fun p=>decide (p.name=s)).bind fun i=>c.txs[i]?.map fun t=>(i,t)
def qA (c:Co) (i:Nat) (t:Tx):Co:={c with txs:=c.txs.set i t}
theorem uy {c:Co} {s:ByteArray} (h:fV c s=none):fF c s= -1:=by
 unfold fV at h
 unfold fF
 cases hi:c.txs.findIdx? fun p=>decide (p.name=s)with
 |none=>rfl
 |some i=>
  obtain⟨hl,-⟩:=bf.1 hi
  rw[hi]at h
  simp[ah hl]at h
theorem ja {c:Co} {s:ByteArray} {i:Nat} {t:Tx} (h:fV c s=some (i,t)):fF c s=i/\c.txs[i]? =some t/\t.name=s:=by
 unfold fV at h
 unfold fF
 cases hi:c.txs.findIdx? fun p=>decide (p.name=s)with
 |none=>rw[hi]at h;cases h
 |some j=>
  obtain⟨hl,hn,-⟩:=bf.1 hi
  rw[hi]at h
  simp only[fN,ah hl,eS,lg,Prod.mk.injEq]at h
  obtain⟨rfl,rfl⟩:=h
  exact⟨rfl,ah hl,by simpa using hn⟩
theorem Az (c:Co) (s:ByteArray):fV c.a s=(fV c s).map fun(i,t)=>(i,t.a):=by
 have e:c.a.txs.findIdx? (fun p=>decide (p.name=s))=c.txs.findIdx? fun p=>decide (p.name=s):=by
  show(c.txs.map Tx.a).findIdx? _=_
  rw[CT]
  rfl
 unfold fV
 rw[e]
 cases c.txs.findIdx? fun p=>decide (p.name=s)with
 |none=>rfl
 |some i=>
  show(c.txs.map Tx.a)[i]?.map _=(c.txs[i]?.map _).map _
  rw[aL]
  cases c.txs[i]? <;>rfl
theorem y0 (c:Co) (i:Nat) (t:Tx):(qA c i t).a=qA c.a i t.a:=by
 unfold qA Co.a
 simp only[cw]
theorem Jl (c:Co) (s:ByteArray):(p8 c s).a=p8 c.a s:=by
 unfold p8 Co.a
 simp only[bk,eF,mb]
 rfl
def bR (c:Co) (s:ByteArray):Co×Int×Int×Int:=match fV c s with
 |none=>if c.txs.length=8 then(yF,0,0,16)else(p8 c s,c.next,0,0)
 |some (i,t)=>if t.state=3∨t.state=4 then(yF,0,0,12)else(qA c i (i9 t),t.pid,t.ver+1,0)
def ox (c:Co) (s:ByteArray) (ver p:Int):Co×Int:=match fV c s with
 |none=>(yF,5)
 |some (i,t)=>if t.ver≠ver then(yF,10)else if t.state=1∨t.state=2 then(qA c i (iu c.clock p t),0)else(yF,12)
def kK (c:Co) (s:ByteArray) (ver:Int) (b:Bool):Co×Int:=match fV c s with
 |none=>(yF,5)
 |some (i,t)=>if t.ver≠ver then(yF,10)else match eD (vx b) t with
  |none=>(yF,12)
  |some t'=>(qA c i t',0)
def qI (c:Co) (s:ByteArray) (p:Int):Co×Int:=match fV c s with
 |none=>(yF,5)
 |some (i,t)=>if t.state=3∨t.state=4 then if p∈t.parts then(qA c i (gp p t),0)else(yF,5)else(yF,12)
def i8 (c:Co) (n:Int):Co×Int:=if 1000<n then(yF,2)else(vy c n,0)
structure oE (k:Nat) (c:Co):Prop where
 ok:gA c=true
 clock:c.clock<=1000*k
 next:c.next<=k+1
 ver: ∀ t∈c.txs,t.ver<=k
theorem oE.more {k m:Nat} {c:Co} (h:oE k c) (hm:k<=m):oE m c:=⟨h.ok,by have:=h.clock;omega,by have:=h.next;omega,fun t ht=>by have:=h.ver t ht;omega⟩
theorem Dl {α:Type} {l:List α} {i:Nat} {a x:α} (h:x∈l.set i a):x∈l∨x=a:=bE h
theorem Js {l:List Tx} {i:Nat} {t t':Tx} (h:vv l) (hi:l[i]? =some t) (hn:t'.name=t.name) (hp:t'.pid=t.pid):vv (l.set i t'):=by
 unfold vv at h⊢
 rw[cw,hn,hp,iH (by rw[aL,hi];rfl)]
 exact h
theorem oE.set {k:Nat} {c:Co} {i:Nat} {t t':Tx} (h:oE k c) (hi:c.txs[i]? =some t) (hn:t'.name=t.name) (hp:t'.pid=t.pid) (hok:fB c.clock c.next t'=true) (hv:t'.ver<=k+1):oE (k+1) (qA c i t'):=by
 obtain⟨h1,h2,h3⟩:=gE.1 h.ok
 refine⟨gE.2 ⟨?_,fun x hx=> ?_,Js h3 hi hn hp⟩,?_,?_,fun x hx=> ?_⟩
 simpa [qA]using h1
 rcases Dl hx with hx|rfl
 exact h2 x hx
 exact hok
 have:=h.clock;show c.clock<=_;omega
 have:=h.next;show c.next<=_;omega
 rcases Dl hx with hx|rfl
 have:=h.ver x hx;omega
 omega
theorem OG:(1:Int)<=1:=by decide
theorem Pi:(1:Int)<=2:=by decide
theorem MN:(1:Int)<=4:=by decide
theorem Ph:(2:Int)<=4:=by decide
theorem OF:(4:Int)<=4:=by decide
theorem OH:(1:Int)=1↔([]:List Int).length=0:=by decide
theorem jB {n:Int}:iN n=true↔0<=n/\n<=1073741824:=by unfold iN;simp
theorem HE {k:Nat} {c:Co} {s:ByteArray} (h:oE k c) (hk:k<=1000) (hn:bM s=true) (h0:(bR c s).2.2.2=0):oE (k+1) (bR c s).1:=by
 have hb:=h
 obtain⟨⟨h1,h2,h3,h4,h5,h6⟩,h7,h8⟩:=gE.1 h.ok
 unfold bR at h0⊢
 cases hf:fV c s with
 |none=>
  rw[hf]at h0
  dsimp only at h0⊢
  by_cases hl:c.txs.length=8
  rw[if_pos hl]at h0;cases h0
  rw[if_neg hl]at h0⊢
  have hnx:=h.next
  have hck:=h.clock
  have hni:=uy hf
  refine⟨gE.2 ⟨⟨h1,?_,?_,h4,h5,?_⟩,fun t ht=> ?_,?_⟩,?_,?_,fun t ht=> ?_⟩
  show 1<=c.next+1;omega
  show c.next+1<=_;omega
  show((c.txs++[_]).length:Int)<=8
  rw[ay,bO];omega
  rcases au.1 ht with ht|ht
  have:=cz.1 (h7 t ht)
  exact cz.2 ⟨this.1,this.2.1,by show t.pid<c.next+1;have:=this.2.2.1;omega,this.2.2.2⟩
  rw[aq.1 ht]
  exact cz.2 ⟨hn,h2,by show c.next<c.next+1;omega,by kernel_rfl,OG,MN,by show(0:Int)<=0;omega,by show(0:Int)<=c.clock;exact(jB.1 h1).1,.inl Z,rfl,OH⟩
  unfold vv at h8⊢
  show((c.txs++[iK s c.next]).map _).Pairwise _
  rw[bk,lT]
  refine⟨h8,by simp,fun a ha b hb=> ?_⟩
  obtain⟨t,ht,rfl⟩:=bw.1 ha
  simp only[eF,mb,aq]at hb
  subst hb
  refine⟨fun he=> ?_,fun he=> ?_⟩
  have:(c.txs.findIdx? fun p=>decide (p.name=s))=none:=by
   cases hi:c.txs.findIdx? fun p=>decide (p.name=s)with
   |none=>rfl
   |some j=>unfold fF at hni;rw[hi]at hni;simp[ls]at hni
  rw[dm]at this
  have:=this t ht
  simp[show t.name=s from he]at this
  have:=(cz.1 (h7 t ht)).2.2.1
  have he':t.pid=c.next:=he
  omega
  show c.clock<=_;omega
  show c.next+1<=_;omega
  rcases au.1 ht with ht|ht
  have:=h.ver t ht;omega
  rw[aq.1 ht];show(0:Int)<=_;omega
 |some x=>
  obtain⟨i,t⟩:=x
  rw[hf]at h0
  dsimp only at h0⊢
  obtain⟨hi,ht,-⟩:=ja hf
  by_cases hs:t.state=3∨t.state=4
  rw[if_pos hs]at h0;cases h0
  rw[if_neg hs]at h0⊢
  have hm:=ae ht
  have hv:=h.ver t hm
  obtain⟨a1,a2,a3,a4,a5,a6,a7,a8,a9,a10,a11⟩:=cz.1 (h7 t hm)
  have hv0:=(jB.1 a4).1
  refine h.set ht ?_ ?_ ?_ ?_
  unfold i9;split<;>rfl
  unfold i9;split<;>rfl
  unfold i9
  split
  rename_i h2'
  exact cz.2 ⟨a1,a2,a3,jB.2 ⟨by show 0<=t.ver+1;omega,by show t.ver+1<=_;omega⟩,MN,OF,a7,a8,a9,a10,by constructor;intro h;cases h;intro h;have:=a11.2 h;omega⟩
  exact cz.2 ⟨a1,a2,a3,jB.2 ⟨by show 0<=t.ver+1;omega,by show t.ver+1<=_;omega⟩,a5,a6,a7,a8,a9,a10,a11⟩
  unfold i9;split<;>(show t.ver+1<=_;omega)
theorem FO {l:List Int} {p:Int} (h:cR (-1) l=true) (h0:0<=p) (h3:p<4):cR (-1) (kk l p)=true/\(kk l p).length≠0:=by
 have key: ∀ (l:List Int) (a:Int),l.Pairwise (· < ·)->(∀ q∈l,a<q/\q<4)->cR a l=true:=by
  intro l
  induction l with
  |nil=>intro a _ _;rfl
  |cons x l ih=>
   intro a hp hq
   obtain⟨h1,h2⟩:=ei.1 hp
   unfold cR
   have:=hq x (az ..)
   rw[ih x h2 fun q hq'=>⟨h1 q hq',(hq q (ak _ hq')).2⟩]
   simp[this.1,this.2]
 obtain⟨hp,hq⟩:=fE h
 unfold kk
 split
 rename_i hm
 refine⟨h,fun h0=> ?_⟩
 rw[bS h0]at hm;cases hm
 rename_i hm
 refine⟨key _ _ ?_ ?_,by simp⟩
 rw[aE,lT]
 refine⟨hp.filter _,?_,?_⟩
 rw[lT]
 refine⟨by simp,hp.filter _,fun a ha b hb=> ?_⟩
 rw[aq.1 ha]
 simp only[kG,decide_eq_true_eq]at hb
 have:b≠p:=fun h=>hm (h▸hb.1)
 omega
 intro a ha b hb
 simp only[kG,decide_eq_true_eq]at ha
 rcases au.1 hb with hb|hb
 rw[aq.1 hb];exact ha.2
 simp only[kG,decide_eq_true_eq]at hb;omega
 intro q hq'
 simp only[au,kG,aq,decide_eq_true_eq]at hq'
 rcases hq' with(hq'|rfl)|hq'
 exact hq q hq'.1
 omega
 exact hq q hq'.1
theorem LJ {ck nx p:Int} {t:Tx} (h:fB ck nx t=true) (hc:iN ck=true) (h0:0<=p) (h3:p<4):fB ck nx (iu ck p t)=true:=by
 obtain⟨a1,a2,a3,a4,a5,a6,a7,a8,a9,a10,a11⟩:=cz.1 h
 obtain⟨b1,b2⟩:=FO a10 h0 h3
 have hc0:=(jB.1 hc).1
 unfold iu
 split
 exact cz.2 ⟨a1,a2,a3,a4,Pi,Ph,hc0,iS _,a9,b1,by constructor;intro h;cases h;intro h;exact absurd h b2⟩
 rename_i h1
 exact cz.2 ⟨a1,a2,a3,a4,a5,a6,a7,a8,a9,b1,by constructor;intro h;exact absurd h h1;intro h;exact absurd h b2⟩
theorem HT {k:Nat} {c:Co} {s:ByteArray} {ver p:Int} (h:oE k c) (h0:0<=p) (h3:p<4) (he:(ox c s ver p).2=0):oE (k+1) (ox c s ver p).1:=by
 obtain⟨⟨h1,-⟩,h7,-⟩:=gE.1 h.ok
 unfold ox at he⊢
 cases hf:fV c s with
 |none=>rw[hf]at he;cases he
 |some x=>
  obtain⟨i,t⟩:=x
  rw[hf]at he
  dsimp only at he⊢
  obtain⟨-,ht,-⟩:=ja hf
  split at he
  cases he
  rename_i hv
  rw[if_neg hv]
  split at he
  rename_i hs
  rw[if_pos hs]
  have hm:=ae ht
  refine h.set ht ?_ ?_ (LJ (h7 t hm) h1 h0 h3) ?_
  unfold iu;split<;>rfl
  unfold iu;split<;>rfl
  have:=h.ver t hm
  unfold iu;split<;>(show t.ver<=_;omega)
  cases he
theorem Lh {ck nx w:Int} {t t':Tx} (h:fB ck nx t=true) (hw:w=3∨w=4) (he:eD w t=some t'):fB ck nx t'=true/\t'.name=t.name/\t'.pid=t.pid/\t'.ver=t.ver:=by
 obtain⟨a1,a2,a3,a4,a5,a6,a7,a8,a9,a10,a11⟩:=cz.1 h
 unfold eD at he
 split at he
 injection he with he;subst he
 refine⟨cz.2 ⟨a1,a2,a3,a4,by show 1<=w;omega,by show w<=4;omega,a7,a8,a9,a10,?_⟩,rfl,rfl,rfl⟩
 constructor
 intro h;have h':w=1:=h;omega
 intro h;have:=a11.2 h;omega
 split at he
 injection he with he;subst he
 exact⟨cz.2 ⟨a1,a2,a3,a4,a5,a6,a7,a8,.inr hw,a10,a11⟩,rfl,rfl,rfl⟩
 split at he
 injection he with he;subst he
 exact⟨h,rfl,rfl,rfl⟩
 cases he
theorem Ib (b:Bool):vx b=3∨vx b=4:=by cases b<;>simp[vx]
theorem HL {k:Nat} {c:Co} {s:ByteArray} {ver:Int} {b:Bool} (h:oE k c) (he:(kK c s ver b).2=0):oE (k+1) (kK c s ver b).1:=by
 obtain⟨-,h7,-⟩:=gE.1 h.ok
 unfold kK at he⊢
 cases hf:fV c s with
 |none=>rw[hf]at he;cases he
 |some x=>
  obtain⟨i,t⟩:=x
  rw[hf]at he
  dsimp only at he⊢
  obtain⟨-,ht,-⟩:=ja hf
  split at he
  cases he
  rename_i hv
  rw[if_neg hv]
  have hm:=ae ht
  cases hx:eD (vx b) t with
  |none=>rw[hx]at he;cases he
  |some t'=>
   obtain⟨b1,b2,b3,b4⟩:=Lh (h7 t hm) (Ib b) hx
   refine h.set ht b2 b3 b1 ?_
   have:=h.ver t hm;omega
theorem zG {l:List Int} (h:cR (-1) l=true) (f:Int->Bool):cR (-1) (l.filter f)=true:=by
 have key: ∀ (l:List Int) (a:Int),l.Pairwise (· < ·)->(∀ q∈l,a<q/\q<4)->cR a l=true:=by
  intro l
  induction l with
  |nil=>intro a _ _;rfl
  |cons x l ih=>
   intro a hp hq
   obtain⟨h1,h2⟩:=ei.1 hp
   unfold cR
   have:=hq x (az ..)
   rw[ih x h2 fun q hq'=>⟨h1 q hq',(hq q (ak _ hq')).2⟩]
   simp[this.1,this.2]
 obtain⟨hp,hq⟩:=fE h
 exact key _ _ (hp.filter _) fun q hq'=>hq q ((kG.1 hq').1)
theorem Jf {ck nx p:Int} {t:Tx} (h:fB ck nx t=true) (hs:t.state=3∨t.state=4):fB ck nx (gp p t)=true/\(gp p t).name=t.name/\(gp p t).pid=t.pid/\(gp p t).ver=t.ver:=by
 obtain⟨a1,a2,a3,a4,a5,a6,a7,a8,a9,a10,a11⟩:=cz.1 h
 unfold gp
 split
 exact⟨cz.2 ⟨a1,a2,a3,a4,OG,MN,a7,a8,.inr hs,rfl,OH⟩,rfl,rfl,rfl⟩
 rename_i hl
 refine⟨cz.2 ⟨a1,a2,a3,a4,a5,a6,a7,a8,a9,zG a10 _,?_⟩,rfl,rfl,rfl⟩
 constructor
 intro h;have h':t.state=1:=h;omega
 intro h;exact absurd h hl
theorem FD {k:Nat} {c:Co} {s:ByteArray} {p:Int} (h:oE k c) (he:(qI c s p).2=0):oE (k+1) (qI c s p).1:=by
 obtain⟨-,h7,-⟩:=gE.1 h.ok
 unfold qI at he⊢
 cases hf:fV c s with
 |none=>rw[hf]at he;cases he
 |some x=>
  obtain⟨i,t⟩:=x
  rw[hf]at he
  dsimp only at he⊢
  obtain⟨-,ht,-⟩:=ja hf
  split at he
  rename_i hs
  rw[if_pos hs]
  split at he
  rename_i hp
  rw[if_pos hp]
  have hm:=ae ht
  obtain⟨b1,b2,b3,b4⟩:=Jf (p:=p) (h7 t hm) hs
  refine h.set ht b2 b3 b1 ?_
  have:=h.ver t hm;omega
  cases he
  cases he
theorem xo {ck ck2 nx wt:Int} {t:Tx} (h:fB ck nx t=true) (hc:ck<=ck2):fB ck2 nx (fh ck2 wt t)=true/\(fh ck2 wt t).name=t.name/\(fh ck2 wt t).pid=t.pid/\(fh ck2 wt t).ver<=t.ver+1:=by
 obtain⟨a1,a2,a3,a4,a5,a6,a7,a8,a9,a10,a11⟩:=cz.1 h
 have hv:=jB.1 a4
 unfold fh
 split
 rename_i h2
 refine⟨cz.2 ⟨a1,a2,a3,jB.2 ⟨by show 0<=t.ver+1;omega,by show t.ver+1<=_;omega⟩,MN,OF,a7,by show t.since<=ck2;omega,a9,a10,?_⟩,rfl,rfl,iS _⟩
 constructor
 intro h;cases h
 intro h;have:=a11.2 h;omega
 exact⟨cz.2 ⟨a1,a2,a3,a4,a5,a6,a7,by omega,a9,a10,a11⟩,rfl,rfl,by omega⟩
theorem Eo {k:Nat} {c:Co} {n:Int} (h:oE k c) (hk:k<=1000) (hn:0<=n) (he:(i8 c n).2=0):oE (k+1) (i8 c n).1:=by
 obtain⟨⟨h1,h2,h3,h4,h5,h6⟩,h7,h8⟩:=gE.1 h.ok
 have hck:=h.clock
 have hc0:=(jB.1 h1).1
 unfold i8 at he⊢
 split at he
 cases he
 rename_i hn1
 rw[if_neg hn1]
 unfold vy
 refine⟨gE.2 ⟨⟨jB.2 ⟨by show 0<=c.clock+n;omega,by show c.clock+n<=_;omega⟩,h2,h3,h4,h5,by simpa using h6⟩,fun t ht=> ?_,?_⟩,by show c.clock+n<=1000*((k+1:Nat):Int);omega,by have:=h.next;show c.next<=_;omega,fun t ht=> ?_⟩
 obtain⟨x,hx,rfl⟩:=bw.1 ht
 exact(xo (h7 x hx) (show c.clock<=c.clock+n by omega)).1
 unfold vv at h8⊢
 dsimp only
 rw[r3]
 rw[List.map_congr_left (g:=fun t=>(t.name,t.pid)) fun t ht=>by
  obtain⟨-,e1,e2,-⟩:=xo (ck2:=c.clock+n) (wt:=c.wait) (h7 t ht) I
  show((fh _ _ t).name,(fh _ _ t).pid)=_
  rw[e1,e2]]
 exact h8
 obtain⟨x,hx,rfl⟩:=bw.1 ht
 obtain⟨-,-,-,e3⟩:=xo (ck2:=c.clock+n) (wt:=c.wait) (h7 x hx) I
 have:=h.ver x hx
 omega
theorem oE.a {k:Nat} {c:Co} (h:oE k c):oE k c.a:=⟨by rw[<-sF];exact h.ok,h.clock,h.next,fun t ht=>by
 obtain⟨x,hx,rfl⟩:=bw.1 (show t∈c.txs.map Tx.a from ht)
 exact h.ver x hx⟩
theorem oE.of_a {k:Nat} {c:Co} (h:oE k c.a):oE k c:=⟨by rw[sF];exact h.ok,h.clock,h.next,fun t ht=>h.ver t.a (bL (f:=Tx.a) ht)⟩
theorem oE.at_ {k:Nat} {c:Co} (h:oE k c) {i:Nat} {t:Tx} (ht:c.txs[i]? =some t):fB c.clock c.next t=true:=(gE.1 h.ok).2.1 t (ae ht)
theorem C7 {c:Co} {s:ByteArray} {i:Nat} {t:Tx} (h:fV c s=some (i,t)):fV c.a s=some (i,t.a):=by rw[Az,h];rfl
theorem Gw {c:Co} {s:ByteArray} (h:fV c s=none):fV c.a s=none:=by rw[Az,h];rfl
theorem KQ (t:Tx):i9 t.a=(i9 t).a:=by
 unfold i9
 by_cases h:t.state=2
 rw[if_pos (show t.a.state=2 from h),if_pos h];rfl
 rw[if_neg (show¬ t.a.state=2 from h),if_neg h];rfl
theorem wx (c:Co) (s:ByteArray) (k:Nat) (w:World) (h:c.rd 0 w.heap.size w) (hb:oE k c) (hk:k<=1000) (hn:bM s=true):dd aa mo [c.v,.string s] w fun v w2=> ∃ c':Co,v=.tuple #[c'.v,J (bR c.a s).2.1,J (bR c.a s).2.2.1,J (bR c.a s).2.2.2]/\c'.a=(bR c.a s).1/\ub w w2 c':=by
 have hnx:=hb.next
 have hpost:(bR c s).2.2.2=0->oE (k+1) (bR c s).1:=HE hb hk hn
 cases hf:fV c s with
 |none=>
  have hi:=uy hf
  have ha:=Gw hf
  unfold bR at hpost⊢
  rw[ha]
  rw[hf]at hpost
  dsimp only at hpost⊢
  by_cases hl:c.txs.length=8
  rw[if_pos (show c.a.txs.length=8 by simpa [Co.a]using hl)]
  exact(FG c s w h hb.ok hn I hl).mono fun v w2 ⟨h1,h2⟩=>⟨yF,h1,rfl,pd h2⟩
  rw[if_neg (show¬ c.a.txs.length=8 by simpa [Co.a]using hl)]
  rw[if_neg hl]at hpost
  exact(I0 c s w h hb.ok hn I hl I).mono fun v w2 ⟨c',Lr,Lp,h1,h2⟩=>⟨c',h1,h2.1,h2.new (by rw[<-Jl,<-sF];exact(hpost Z).ok)⟩
 |some x=>
  obtain⟨i,t⟩:=x
  obtain⟨hi,ht,-⟩:=ja hf
  have ha:=C7 hf
  have hm:=ae ht
  have hv0:=jB.1 (cz.1 (hb.at_ ht)).2.2.2.1
  have hv:=hb.ver t hm
  unfold bR at hpost⊢
  rw[ha]
  rw[hf]at hpost
  dsimp only at hpost⊢
  by_cases hs:t.state=3∨t.state=4
  rw[if_pos (show t.a.state=3∨t.a.state=4 from hs)]
  exact(GM c s i t w h hb.ok hn hi ht hs).mono fun v w2 ⟨h1,h2⟩=>⟨yF,h1,rfl,pd h2⟩
  rw[if_neg (show¬ (t.a.state=3∨t.a.state=4)from hs)]
  rw[if_neg hs]at hpost
  exact(GN c s i t w h hb.ok hn hi ht (fun h=>hs (.inl h)) (fun h=>hs (.inr h)) hv0.1 I).mono fun v w2 ⟨c',Lr,Lp,h1,h2⟩=>⟨c',h1,h2.1.trans (by rw[show({c with txs:=c.txs.set i (i9 t)}:Co)=qA c i (i9 t)from rfl,y0,KQ]),h2.new (by rw[<-sF];exact(hpost Z).ok)⟩
theorem LK (ck p:Int) (t:Tx):iu ck p t.a=(iu ck p t).a:=by
 unfold iu
 by_cases h:t.state=1
 rw[if_pos (show t.a.state=1 from h),if_pos h];rfl
 rw[if_neg (show¬ t.a.state=1 from h),if_neg h];rfl
theorem FN (c:Co) (s:ByteArray) (ver p:Int) (k:Nat) (w:World) (h:c.rd 0 w.heap.size w) (hb:oE k c) (hn:bM s=true) (h0:0<=p) (h3:p<4):dd aa oa [c.v,.string s,J ver,J p] w fun v w2=> ∃ c':Co,v=.tuple #[c'.v,J (ox c.a s ver p).2]/\c'.a=(ox c.a s ver p).1/\ub w w2 c':=by
 have hpost:(ox c s ver p).2=0->oE (k+1) (ox c s ver p).1:=HT hb h0 h3
 cases hf:fV c s with
 |none=>
  have hi:=uy hf
  have ha:=Gw hf
  unfold ox
  rw[ha]
  exact(LI c s ver p w h hb.ok hn hi).mono fun v w2 ⟨h1,h2⟩=>⟨yF,h1,rfl,pd h2⟩
 |some x=>
  obtain⟨i,t⟩:=x
  obtain⟨hi,ht,-⟩:=ja hf
  have ha:=C7 hf
  unfold ox at hpost⊢
  rw[ha]
  rw[hf]at hpost
  dsimp only at hpost⊢
  by_cases hv:t.ver=ver
  rw[if_neg (show¬ t.a.ver≠ver from fun h=>h hv)]
  rw[if_neg (fun h=>h hv)]at hpost
  by_cases hs:t.state=1∨t.state=2
  rw[if_pos (show t.a.state=1∨t.a.state=2 from hs)]
  rw[if_pos hs]at hpost
  exact(Oh c s ver p i t w h hb.ok hn hi ht hv h0 h3 hs (cz.1 (hb.at_ ht)).2.2.2.2.2.2.2.2.2.1).mono fun v w2 ⟨c',Lr,Lp,h1,h2⟩=>⟨c',h1,h2.1.trans (by rw[show({c with txs:=c.txs.set i (iu c.clock p t)}:Co)=qA c i (iu c.clock p t)from rfl,y0,LK];rfl),h2.new (by rw[<-sF];exact(hpost Z).ok)⟩
  rw[if_neg (show¬ (t.a.state=1∨t.a.state=2)from hs)]
  exact(Jw c s ver p i t w h hb.ok hn hi ht hv h0 h3 (fun h=>hs (.inl h)) (fun h=>hs (.inr h))).mono fun v w2 ⟨h1,h2⟩=>⟨yF,h1,rfl,pd h2⟩
  rw[if_pos (show t.a.ver≠ver from hv)]
  exact(Jx c s ver p i t w h hb.ok hn hi ht hv).mono fun v w2 ⟨h1,h2⟩=>⟨yF,h1,rfl,pd h2⟩
theorem MY (w:Int) (t:Tx):eD w t.a=(eD w t).map Tx.a:=by
 unfold eD
 by_cases h1:t.state=2
 rw[if_pos (show t.a.state=2 from h1),if_pos h1];rfl
 rw[if_neg (show¬ t.a.state=2 from h1),if_neg h1]
 by_cases h2:t.state=1/\t.done=0
 rw[if_pos (show t.a.state=1/\t.a.done=0 from h2),if_pos h2];rfl
 rw[if_neg (show¬ (t.a.state=1/\t.a.done=0)from h2),if_neg h2]
 by_cases h3:t.state=w∨(t.state=1/\t.done=w)
 rw[if_pos (show t.a.state=w∨(t.a.state=1/\t.a.done=w)from h3),if_pos h3];rfl
 rw[if_neg (show¬ (t.a.state=w∨(t.a.state=1/\t.a.done=w))from h3),if_neg h3];rfl
theorem Fz (c:Co) (s:ByteArray) (ver:Int) (b:Bool) (k:Nat) (w:World) (h:c.rd 0 w.heap.size w) (hb:oE k c) (hn:bM s=true):dd aa lL [c.v,.string s,J ver,.bool b] w fun v w2=> ∃ c':Co,v=.tuple #[c'.v,J (kK c.a s ver b).2]/\c'.a=(kK c.a s ver b).1/\ub w w2 c':=by
 have hpost:(kK c s ver b).2=0->oE (k+1) (kK c s ver b).1:=HL hb
 cases hf:fV c s with
 |none=>
  have hi:=uy hf
  have ha:=Gw hf
  unfold kK
  rw[ha]
  exact(Lg c s ver b w h hb.ok hn hi).mono fun v w2 ⟨h1,h2⟩=>⟨yF,h1,rfl,pd h2⟩
 |some x=>
  obtain⟨i,t⟩:=x
  obtain⟨hi,ht,-⟩:=ja hf
  have ha:=C7 hf
  unfold kK at hpost⊢
  rw[ha]
  rw[hf]at hpost
  dsimp only at hpost⊢
  by_cases hv:t.ver=ver
  rw[if_neg (show¬ t.a.ver≠ver from fun h=>h hv),MY]
  rw[if_neg (fun h=>h hv)]at hpost
  have main:dd aa lL [c.v,.string s,J ver,.bool b] w fun v w2=>match eD (vx b) t with|none=>v=.tuple #[.agg #[J 0,J 0,J 0,.slice none 0 0],J 12]/\Below w.heap.size w w2|some t'=> ∃ (c':Co) (Lr Lp:List (Nat×Obj)),v=.tuple #[c'.v,J 0]/\qf w w2 (Co.a {c with txs:=c.txs.set i t'}) c' Lr Lp:=by
   cases b
   exact Jb c s ver i t w h hb.ok hn hi ht hv
   exact Lf c s ver i t w h hb.ok hn hi ht hv
  cases hx:eD (vx b) t with
  |none=>
   rw[hx]at main
   exact main.mono fun v w2 ⟨h1,h2⟩=>⟨yF,h1,rfl,pd h2⟩
  |some t'=>
   rw[hx]at main hpost
   exact main.mono fun v w2 ⟨c',Lr,Lp,h1,h2⟩=>⟨c',h1,h2.1.trans (by rw[show({c with txs:=c.txs.set i t'}:Co)=qA c i t' from rfl,y0];rfl),h2.new (by rw[<-sF];exact(hpost Z).ok)⟩
  rw[if_pos (show t.a.ver≠ver from hv)]
  exact(Ja c s ver b i t w h hb.ok hn hi ht hv).mono fun v w2 ⟨h1,h2⟩=>⟨yF,h1,rfl,pd h2⟩
theorem Lj (p:Int) (t:Tx):gp p t.a=(gp p t).a:=by
 unfold gp
 by_cases h:(t.parts.filter fun q=>decide (q≠p)).length=0
 rw[if_pos (show(t.a.parts.filter fun q=>decide (q≠p)).length=0 from h),if_pos h];rfl
 rw[if_neg (show¬ (t.a.parts.filter fun q=>decide (q≠p)).length=0 from h),if_neg h];rfl
theorem Jh (c:Co) (s:ByteArray) (p:Int) (k i:Nat) (t:Tx) (w:World) (h:c.rd 0 w.heap.size w) (hb:oE k c) (hn:bM s=true) (hf:fV c.a s=some (i,t)) (h34:t.state=3∨t.state=4) (hp:p∈t.parts):dd aa wE [c.v,.string s,J p] w fun v w2=> ∃ c':Co,v=.tuple #[c'.v,J 0]/\c'.a=(qI c.a s p).1/\ub w w2 c':=by
 have hpost:(qI c s p).2=0->oE (k+1) (qI c s p).1:=FD hb
 rw[Az]at hf
 obtain⟨⟨j,x⟩,hg,he⟩:=iD.1 hf
 clear hf
 simp only[Prod.mk.injEq]at he
 obtain⟨rfl,rfl⟩:=he
 obtain⟨hi,ht,-⟩:=ja hg
 have ha:=C7 hg
 unfold qI at hpost⊢
 rw[ha]
 rw[hg]at hpost
 dsimp only at hpost⊢
 rw[if_pos h34,if_pos hp]
 rw[if_pos (show x.state=3∨x.state=4 from h34),if_pos (show p∈x.parts from hp)]at hpost
 exact(MZ c s p i x w h hb.ok hn hi ht h34 hp (cz.1 (hb.at_ ht)).2.2.2.2.2.2.2.2.2.1).mono fun v w2 ⟨c',Lr,Lp,h1,h2⟩=>⟨c',h1,h2.1.trans (by rw[show({c with txs:=c.txs.set i (gp p x)}:Co)=qA c i (gp p x)from rfl,y0,Lj]),h2.new (by rw[<-sF];exact(hpost Z).ok)⟩
theorem Le (t:Tx):gK t.a=gK t:=rfl
theorem Kv (l:List Tx) (n:Nat):gV (l.map Tx.a) n=(gV l n).map Tx.a:=by
 unfold gV
 rw[List.filter_map,show(gK∘Tx.a)=gK from funext Le,aL]
theorem EW (c:Co) (n:Nat) (w:World) (h:c.rd 0 w.heap.size w) (hok:gA c=true) (hn:n<=1000):dd aa wD [c.v,J (n:Nat)] w fun v w2=>v=yh (gV c.a.txs n)/\Below w.heap.size w w2:=by
 refine(MC c n w h hok hn).mono fun v w2 ⟨h1,h2⟩=>⟨?_,h2⟩
 rw[h1,show c.a.txs=c.txs.map Tx.a from rfl,Kv]
 cases gV c.txs n<;>rfl
theorem If (c:Co) (n:Int):(vy c n).a=vy c.a n:=by
 unfold vy Co.a
 simp only[r3]
 congr 1
 exact List.map_congr_left fun t _=>JS _ _ t
theorem Cc (c:Co) (n:Int) (k:Nat) (w:World) (h:c.rd 0 w.heap.size w) (hb:oE k c) (hk:k<=1000) (hn:0<=n):dd aa sr [c.v,J n] w fun v w2=> ∃ c':Co,v=.tuple #[c'.v,J (i8 c.a n).2]/\c'.a=(i8 c.a n).1/\ub w w2 c':=by
 have hpost:(i8 c n).2=0->oE (k+1) (i8 c n).1:=Eo hb hk hn
 have hck:=hb.clock
 unfold i8 at hpost⊢
 by_cases hf:1000<n
 rw[if_pos hf]
 exact(JQ c n w h hb.ok hf).mono fun v w2 ⟨h1,h2⟩=>⟨yF,h1,rfl,pd h2⟩
 rw[if_neg hf]
 rw[if_neg hf]at hpost
 exact(L0 c n w h hb.ok hn I I).mono fun v w2 ⟨c',Lr,Lp,h1,h2⟩=>⟨c',h1,h2.1,h2.new (by rw[<-If,<-sF];exact(hpost Z).ok)⟩
theorem Gh (es:List cN) (A:Option Addr) (c n a most:Nat) (w:World) (hr:Rd gJ 0 w.heap.size A es w) (hc:es.length<=c) (hb:es.length<=1000000) (hn:n<=es.length) (ha:es.length<a):
  dd aa yp [.slice A es.length c,J (n:Nat),J (a:Nat),J (most:Nat)] w fun v w2=>v=.tuple #[.slice none 0 0,J 0,J 2]/\Below w.heap.size w w2:=by
 refine aD wI Z Z ?_
 have H:=Hp.startRd hr
 refine W<|Zr<|G (Ws Z)<|G (Wi Z)<|G (Wi Z)<|U<|W<|Zr<|G (Ys Z)<|G (Yi Z)<|cd tX (Cg es _ _ n _ (H.rd0 0 Z) hc hb hn) Z Z ?_
 rintro _ w1 ⟨st,hst,rfl,hb2⟩;replace H:=H.later hb2;clear hb2
 refine G (Yu Z)<|G (Xi Z Z)<|G (Xi Z Z)<|G (Wi Z)<|G (Wi Z)<|U<|W<|W<|Zr<|G (Yi Z)<|G (bU Z Z Z)<|U<|ZF Z<|Zk<|W<|W<|Zr<|G (Yi Z)<|G (cY Z Z I)<|G (Yb Z)<|ZG<|G (Yi Z)<|ZG<|G (Ys Z)<|ZG<|G (bn ex Z)<|ZG<|G (GT Z Z I)<|G (N Z Z)<|G (Yb Z)<|ZN<|ZN<|G (Kt Z Z)<|G (Yb Z)<|ZN<|ZN<|G (Kt Z Z)<|U<|ZT Z<|W ?_
 refine Zr<|G (Ws Z)<|G (Wi Z)<|G (Wi Z)<|U<|Zt ?_
 exact GX Z Z Z Z ⟨rfl,H.below⟩
theorem EN (p:Pa) (a most l:Nat) (r:fb) (w:World) (h:p.rd 0 w.heap.size w) (hok:p.a.ok) (hld:p.leader=l) (hr:p.reps[l]? =some r) (ha:r.es.length<a):dd aa tI [p.v,J (a:Nat),J (most:Nat)] w fun v w2=>v=.tuple #[.slice none 0 0,J 0,J 2]/\Below w.heap.size w w2:=by
 refine aD sx Z Z ?_
 obtain⟨hn1,hn2,hil,hkl,hf1,hf2,he0,he1,hl0,hl1,hb0,hb1,hsm⟩:=Pa.facts hok
 have hkn:=hok.known
 have hiC:=h.iC
 have hkC:=h.kC
 have hrC:=h.rC
 have hfew:=h.few
 have H:=Hp.startPa h
 obtain⟨ep,ld,isr,iA,iC,kn,kA,kC,reps,rA,rC,fw,bs⟩:=p
 simp only[Pa.a]at hkn
 dsimp only at H hn1 hn2 hil hkl hf1 hf2 he0 he1 hl0 hl1 hb0 hb1 hsm hiC hkC hrC hfew
 dsimp only at hld hr
 have hll:=(cE hr).1
 show CW _ _ _ _ (args [.agg #[J (ep),J (ld),.slice iA isr.length iC,.slice kA kn.length kC,.slice rA reps.length rC,J (fw),J (bs)],J (((a:Nat):Int)),J (((most:Nat):Int))]) w
 refine W<|Zr<|fQ H Z Z fun w1 b3 H=>G (Ws Z)<|G (Wi Z)<|G (Wi Z)<|U<|W<|W<|Zr<|G (Zw aG H 0 Z Z Z)<|cd k9 (rD ⟨ep,ld,isr,iA,iC,kn,kA,kC,reps,rA,rC,fw,bs⟩ _ (Hp.pa H 0 Z) hok) Z Z ?_
 rintro _ w2 ⟨rfl,hb⟩;replace H:=H.later hb;clear hb
 refine G (Wi Z)<|U<|W<|Zr<|G (Yi Z)<|G (bU Z Z Z)<|U<|ZF Z<|Zk<|W<|W<|Zr<|G (Zf dp Z)<|G (Zd aj H 0 Z Z Z)<|G (cY Z Z I)<|U<|ZF Z<|Zk<|W<|Zr<|G (Zf cS Z)<|G (Zd bT H 0 Z Z Z)<|G (Zf dp Z)<|G (Zd aj H 0 Z Z Z)<|qn (k:=l) H 3 Z bv Z (congrArg (Value.int .i64) hld) I I Z fun bq3 o3 x3 e3=> ?_
 obtain rfl:x3=r:=by have:=e3.at_;rw[hr]at this;exact(bj this).symm
 obtain⟨n,hnn⟩: ∃ n:Nat,x3.high=n:=⟨x3.high.toNat,by have:=(Pa.repOk hok (i:=l) hr).2.1;omega⟩
 refine G (jM (xs:=fb.c x3) ow Z Z e3.cl)<|eH H pG Z fun w4 b10 H=>bo H 0 (#[.bool (x3.up),.slice x3.A ((bg x3.es).length) x3.cap,J (((fH x3.es x3.s:Nat):Int)),J (x3.high)]) lF Z Z Z Z Z N N fun w5 H=>U<|W<|Zr<|G (Zf dw Z)<|G (jL 1 [.slice x3.A ((bg x3.es).length) x3.cap,J (((fH x3.es x3.s:Nat):Int))] eP Z Z (H.ent (i:=0) Z) Z)<|cd gu (gY x3.A x3.cap x3.es x3.s _ (Pa.log (Hp.pa H 0 Z) hok (i:=l) hr)) Z Z ?_
 have hloen:=H.size
 rintro _ w6 ⟨Aen,cen,rfl,hren,hcen,hben⟩;replace H:=H.learnRd hben hren;clear hren hben
 refine G (Yu Z)<|G (Xs Z Z)<|G (Xi Z Z)<|G (Xi Z Z)<|G (Ws Z)<|G (Wi Z)<|G (Wi Z)<|U<|W<|Zr<|G (Ys Z)<|G (Zf dU Z)<|G (Zd aj H 0 Z Z Z)<|G (Yi Z)<|G (Yi Z)<|cd wT ((by have hA:=Gh x3.es Aen cen n a most _ (H.rd0 0 Z) hcen (by have:=(Pa.repOk hok (i:=l) hr).1.len;omega) (by have:=(Pa.repOk hok (i:=l) hr).2.2;omega) ha;rw[<-hnn]at hA;exact hA)) Z Z ?_
 rintro _ w7 ⟨rfl,hb⟩;replace H:=H.later hb;clear hb
 refine G (Xs Z Z)<|G (Xi Z Z)<|G (Xi Z Z)<|G (Ws Z)<|G (Wi Z)<|G (Wi Z)<|U<|Zt ?_
 exact GX Z Z Z Z ⟨rfl,H.below⟩

/-- an act of a script -/
structure Act where
 kind:Int
 name:ByteArray
 part:Int
 n:Int
 m:Int
 text:ByteArray
 lost:Int
def Act.c (a:Act):List Value:=[J a.kind,.string a.name,J a.part,J a.n,J a.m,.string a.text,J a.lost]
abbrev Act.v (a:Act):Value:=.agg a.c.toArray
def sM:fg Act:=⟨Act.c,7,fun _=>rfl,by decide,fun a u hu=>by
 simp only[Act.c,ax,cC,or_false]at hu
 rcases hu with h|h|h|h|h|h|h<;>subst h<;>rfl⟩
structure An where
 code:Int
 n:Int
 texts:List ByteArray
structure Sn where
 name:ByteArray
 pid:Int
 ver:Int
 inn:Bool
 seqs:List Int
 sA:Option Addr
 sC:Nat
 last:List cN
 lA:Option Addr
 lC:Nat
def Sn.c (s:Sn):List Value:=[.string s.name,J s.pid,J s.ver,.bool s.inn,.slice s.sA s.seqs.length s.sC,.slice s.lA s.last.length s.lC]
def zr:fg Sn:=⟨Sn.c,6,fun _=>rfl,by decide,fun a u hu=>by
 simp only[Sn.c,ax,cC,or_false]at hu
 rcases hu with h|h|h|h|h|h<;>subst h<;>rfl⟩
def Sn.a (s:Sn):Sn:={s with sA:=none,sC:=0,lA:=none,lC:=0}
structure Pq where
 p:Pa
 lo:Nat
 hi:Nat
def EI:fg Pq:=⟨fun q=>q.p.c,7,fun _=>rfl,by decide,fun a u hu=>by
 simp only[Pa.c,ax,cC,or_false]at hu
 rcases hu with h|h|h|h|h|h|h<;>subst h<;>rfl⟩
structure Bk where
 ps:List Pq
 pA:Option Addr
 pC:Nat
 co:Co
 clo:Nat
 chi:Nat
 gr:Gr
 glo:Nat
 ghi:Nat
 sns:List Sn
 snA:Option Addr
 snC:Nat
def Bk.c (b:Bk):List Value:=[.slice b.pA b.ps.length b.pC,J b.co.clock,J b.co.next,J b.co.wait,.slice b.co.A b.co.txs.length b.co.cap,J b.gr.clock,J b.gr.wait,J b.gr.gen,.slice b.gr.mA b.gr.ms.length b.gr.mC,.slice b.gr.oA b.gr.os.length b.gr.oC,.slice b.snA b.sns.length b.snC]
structure Wa where
 ps:List gx
 co:Co
 gr:Gr
 sns:List Sn
def Bk.a (b:Bk):Wa:=⟨b.ps.map fun q=>q.p.a,b.co.a,b.gr.a,b.sns.map Sn.a⟩
def qe:List Sn->List (Nat×Obj)->Prop
 |[],L=>L=[]
 |s::l,L=> ∃ gq uq gl ul L',s.sA=some ⟨gq,0,none⟩/\s.lA=some ⟨gl,0,none⟩/\dT bQ s.seqs s.sC uq/\dT gJ s.last s.lC ul/\L=(gq,.cells uq cW (0,0))::(gl,.cells ul dt (0,0))::L'/\qe l L'
theorem qe.at_: ∀ {l:List Sn} {L:List (Nat×Obj)} {i:Nat} {s:Sn},qe l L->l[i]? =some s-> ∃ gq uq gl ul La Lb,s.sA=some ⟨gq,0,none⟩/\s.lA=some ⟨gl,0,none⟩/\dT bQ s.seqs s.sC uq/\dT gJ s.last s.lC ul/\L=La++((gq,.cells uq cW (0,0))::(gl,.cells ul dt (0,0))::Lb)/\ ∀ (s':Sn) (gq':Nat) (uq':Array Value) (gl':Nat) (ul':Array Value),s'.sA=some ⟨gq',0,none⟩->s'.lA=some ⟨gl',0,none⟩->dT bQ s'.seqs s'.sC uq'->dT gJ s'.last s'.lC ul'->qe (l.set i s') (La++((gq',.cells uq' cW (0,0))::(gl',.cells ul' dt (0,0))::Lb))
 |[],_,_,_,_,h=>by simp at h
 |x::l,L,0,s,h,hi=>by
  obtain⟨gq,uq,gl,ul,L',h1,h2,h3,h4,rfl,h6⟩:=h
  have:x=s:=by simpa using hi
  subst this
  exact⟨gq,uq,gl,ul,[],L',h1,h2,h3,h4,rfl,fun s' gq' uq' gl' ul' a1 a2 a3 a4=>⟨gq',uq',gl',ul',L',a1,a2,a3,a4,rfl,h6⟩⟩
 |x::l,L,i+1,s,h,hi=>by
  obtain⟨gq,uq,gl,ul,L',h1,h2,h3,h4,rfl,h6⟩:=h
  obtain⟨kq,vq,kl,vl,La,Lb,b1,b2,b3,b4,rfl,b6⟩:=qe.at_ (i:=i) h6 (by simpa using hi)
  exact⟨kq,vq,kl,vl,(gq,.cells uq cW (0,0))::(gl,.cells ul dt (0,0))::La,Lb,b1,b2,b3,b4,rfl,fun s' gq' uq' gl' ul' a1 a2 a3 a4=>⟨gq,uq,gl,ul,_,h1,h2,h3,h4,rfl,b6 s' gq' uq' gl' ul' a1 a2 a3 a4⟩⟩
theorem qe.snoc: ∀ {l:List Sn} {L:List (Nat×Obj)} {s:Sn} {gq gl:Nat} {uq ul:Array Value},qe l L->s.sA=some ⟨gq,0,none⟩->s.lA=some ⟨gl,0,none⟩->dT bQ s.seqs s.sC uq->dT gJ s.last s.lC ul->qe (l++[s]) (L++[(gq,.cells uq cW (0,0)),(gl,.cells ul dt (0,0))])
 |[],L,s,gq,gl,uq,ul,h,a1,a2,a3,a4=>by
  have:L=[]:=h
  subst this
  exact⟨gq,uq,gl,ul,[],a1,a2,a3,a4,rfl,rfl⟩
 |x::l,L,s,gq,gl,uq,ul,h,a1,a2,a3,a4=>by
  obtain⟨kq,vq,kl,vl,L',h1,h2,h3,h4,rfl,h6⟩:=h
  exact⟨kq,vq,kl,vl,_,h1,h2,h3,h4,rfl,h6.snoc a1 a2 a3 a4⟩
def xf (w0:World) (lo hi:Nat) (c:Co):cr:=⟨lo,hi,fun w=>w0.heap.size<=lo/\c.rd lo hi w,fun _ _ hk h=>⟨h.1,h.2.st hk⟩⟩
def JB (w0:World) (lo hi:Nat) (g:Gr):cr:=⟨lo,hi,fun w=>w0.heap.size<=lo/\g.rd lo hi w,fun _ _ hk h=>⟨h.1,h.2.st hk⟩⟩
def tg (w0:World) (lo hi:Nat) (p:Pa):cr:=⟨lo,hi,fun w=>w0.heap.size<=lo/\p.rd lo hi w,fun _ _ hk h=>⟨h.1,h.2.st hk⟩⟩
structure Bw (w0 w:World) (bb:Nat) (b:Bk) (gP:Nat) (uP:Array Value) (Ls Lo K:List (Nat×Obj)) (F:List cr):Prop where
 pA:b.pA=some ⟨gP,0,none⟩
 row:dT EI b.ps b.pC uP
 sn:gd zr (.slice b.snA b.sns.length b.snC) fu b.sns Ls
 own:qe b.sns Lo
 co:xf w0 b.clo b.chi b.co∈F
 gr:JB w0 b.glo b.ghi b.gr∈F
 ps: ∀ q∈b.ps,tg w0 q.lo q.hi q.p∈F
 H:Hp w0 w ((bb,.cells b.c.toArray bK (0,0))::(gP,.cells uP bD (0,0))::(Ls++(Lo++K))) F
def xg (w0 w:World) (bb:Nat) (b:Bk) (K:List (Nat×Obj)) (F:List cr):Prop:= ∃ gP uP Ls Lo F',Bw w0 w bb b gP uP Ls Lo K F'/\ ∀ f∈F,f∈F'
theorem Hp.coM {w1 w0 w:World} {L:List (Nat×Obj)} {F:List cr} {lo hi:Nat} {c:Co} (H:Hp w0 w L F) (h:xf w1 lo hi c∈F):c.rd 0 w.heap.size w:=by
 obtain⟨h1,h2,-⟩:=H.facts _ h
 exact Co.rd.mono h1.2 (bG _) h2
theorem Hp.grM {w1 w0 w:World} {L:List (Nat×Obj)} {F:List cr} {lo hi:Nat} {g:Gr} (H:Hp w0 w L F) (h:JB w1 lo hi g∈F):g.rd 0 w.heap.size w:=by
 obtain⟨h1,h2,-⟩:=H.facts _ h
 exact Gr.rd.mono h1.2 (bG _) h2
theorem Hp.paM {w1 w0 w:World} {L:List (Nat×Obj)} {F:List cr} {lo hi:Nat} {p:Pa} (H:Hp w0 w L F) (h:tg w1 lo hi p∈F):p.rd 0 w.heap.size w:=by
 obtain⟨h1,h2,-⟩:=H.facts _ h
 exact Pa.rd.mono h1.2 (bG _) h2
def oF (x:An) (v:Value) (w:World):Prop:= ∃ A c,v=.agg #[J x.code,J x.n,.slice A x.texts.length c]/\x.texts.length<=c/\Rd kR 0 w.heap.size A x.texts w
theorem oF.plain (e n:Int) (w:World):oF ⟨e,n,[]⟩ (.agg #[J e,J n,.slice none 0 0]) w:=⟨none,0,rfl,ao _,Rd.nil⟩
def lV (w:Wa) (e:Int):Wa×An:=(w,⟨e,0,[]⟩)
def fY (a:Act) (x:An):An:=if a.lost=0 then x else⟨14,0,[]⟩
def ff (l:List Sn) (s:ByteArray):Option Nat:=l.findIdx? fun x=>decide (x.name=s)
def mL:cN:=⟨0,0,0,0,0,false,⟨#[]⟩⟩
def uZ (s:ByteArray) (pid ver:Int) (np:Nat):Sn:=⟨s,pid,ver,false,ar np 0,none,0,ar np mL,none,0⟩
def EG (l:List Sn) (s:Sn):List Sn:=match ff l s.name with
 |none=>l++[s]
 |some i=>l.set i s
def oS (w:Wa) (a:Act):Wa×An:=if(bR w.co a.name).2.2.2=0 then({w with co:=(bR w.co a.name).1,sns:=EG w.sns (uZ a.name (bR w.co a.name).2.1 (bR w.co a.name).2.2.1 w.ps.length)},⟨0,(bR w.co a.name).2.2.1,[]⟩)else lV w (bR w.co a.name).2.2.2
def kL (w:Wa) (a:Act):Wa×An:=match (ff w.sns a.name).bind fun i=>w.sns[i]?.map fun s=>(i,s)with
 |none=>lV w 5
 |some (i,s)=>if s.inn then lV w 6 else({w with sns:=w.sns.set i {s with inn:=true}},⟨0,0,[]⟩)
def uE (w:Wa) (n:Nat) (x:cN):Wa×An:=match w.ps[n]? with
 |none=>lV w 5
 |some p=>if(eA p x).2.2=0 then({w with ps:=w.ps.set n (eA p x).1},⟨0,(eA p x).2.1,[]⟩)else lV w (eA p x).2.2
def rR (w:Wa) (s:Sn) (n:Nat) (x:cN):Co×Int:=if x.txn then ox w.co s.name x.ver n else(w.co,0)
def eh (w:Wa) (s:Sn) (n:Nat):Wa×An:=match s.last[n]? with
 |none=>lV w 5
 |some x=>if(rR w s n x).2=0 then uE {w with co:=(rR w s n x).1} n x else lV w (rR w s n x).2
def pP (s:Sn) (n:Nat) (t:ByteArray):Sn:={s with last:=s.last.set n ⟨0,s.pid,s.ver,s.seqs.getD n 0,1,s.inn,t⟩,seqs:=s.seqs.set n (s.seqs.getD n 0+1)}
def mS (w:Wa) (a:Act) (again:Bool):Wa×An:=match (ff w.sns a.name).bind fun i=>w.sns[i]?.map fun s=>(i,s)with
 |none=>lV w 5
 |some (i,s)=>if again=true/\(s.last.getD a.part.toNat mL).kind=0 then lV w 15 else
  let s1:=if again then s else pP s a.part.toNat a.text
  let w1:={w with sns:=w.sns.set i s1}
  if a.lost=1 then lV w1 14 else((eh w1 s1 a.part.toNat).1,fY a (eh w1 s1 a.part.toNat).2)
def vP (s:Sn):Sn:={s with inn:=false,last:=s.last.map fun e=>if e.txn then mL else e}
def jN (w:Wa) (a:Act):Wa×An:=match (ff w.sns a.name).bind fun i=>w.sns[i]?.map fun s=>(i,s)with
 |none=>lV w 5
 |some (i,s)=>if s.inn=false then lV w 12 else if a.lost=1 then lV w 14 else
  if(kK w.co s.name s.ver (decide (a.n=1))).2=0 then({w with co:=(kK w.co s.name s.ver (decide (a.n=1))).1,sns:=if a.lost=0 then w.sns.set i (vP s)else w.sns},fY a ⟨0,0,[]⟩)else(w,fY a ⟨(kK w.co s.name s.ver (decide (a.n=1))).2,0,[]⟩)
def cZ (t:Tx):cN:=⟨0,t.pid,t.ver,0,if t.state=4 then 3 else 2,true,⟨#[]⟩⟩
def nX (w:Wa) (a:Act):Wa×An:=match gV w.co.txs a.n.toNat with
 |none=>lV w 15
 |some t=>if(uE w (t.parts.headD 0).toNat (cZ t)).2.code=0 then({(uE w (t.parts.headD 0).toNat (cZ t)).1 with co:=(qI w.co t.name (t.parts.headD 0)).1},(uE w (t.parts.headD 0).toNat (cZ t)).2)else uE w (t.parts.headD 0).toNat (cZ t)
def xZ (w:Wa) (a:Act):Wa×An:=({w with co:=(i8 w.co a.n).1,gr:=pL w.gr a.n w.ps.length},⟨0,(i8 w.co a.n).1.clock,[]⟩)
def lG (p:gx) (a:Act):gx×Int×Int:=
 if a.kind=8 then iV p a.n.toNat else if a.kind=9 then((nQ p a.n.toNat).1,0,(nQ p a.n.toNat).2)else if a.kind=10 then((ke p a.n.toNat a.m.toNat).1,0,(ke p a.n.toNat a.m.toNat).2)else
 if a.kind=11 then((pM p a.n.toNat).1,0,(pM p a.n.toNat).2)else if a.kind=12 then((nO p a.n.toNat).1,0,(nO p a.n.toNat).2)else if a.kind=13 then((iX p a.n.toNat).1,0,(iX p a.n.toNat).2)else
 if a.kind=14 then((gU p a.n.toNat).1,0,(gU p a.n.toNat).2)else((fG p a.n.toNat).1,0,(fG p a.n.toNat).2)
def uY (w:Wa) (a:Act):Wa×An:=match w.ps[a.part.toNat]? with
 |none=>lV w 5
 |some p=>if(lG p a).2.2=0 then({w with ps:=w.ps.set a.part.toNat (lG p a).1},⟨0,(lG p a).2.1,[]⟩)else lV w (lG p a).2.2
inductive CQ (p:gx) (a most:Nat):An->Prop
 |none:p.leader<0->CQ p a most ⟨8,0,[]⟩
 |range (l:Nat) (r:RA):p.leader=l->p.reps[l]? =some r->r.es.length<a->CQ p a most ⟨2,0,[]⟩
 |ok (l:Nat) (r:RA) (st:Nat) (out:List ByteArray) (b:Nat):p.leader=l->p.reps[l]? =some r->a<=r.es.length->tF (r.es.take r.high.toNat) st->AZ r.es r.high.toNat st a most out b->CQ p a most ⟨0,(b:Nat),out⟩
inductive qN (w:Wa) (a:Act):An->Prop
 |no:(eL w.gr a.name a.part).2≠0->qN w a ⟨(eL w.gr a.name a.part).2,0,[]⟩
 |yes (p:gx) (x:An):(eL w.gr a.name a.part).2=0->w.ps[a.part.toNat]? =some p->CQ p (eL w.gr a.name a.part).1.toNat a.n.toNat x->qN w a x
def Gz (w:Wa) (a:Act):Gr×Int:=if a.kind=16 then sR w.gr a.name w.ps.length else if a.kind=18 then xa w.gr a.name a.n else r8 w.gr a.name a.n a.part a.m
def Bq (w:Wa) (a:Act):Wa×An:=if(Gz w a).2=0 then({w with gr:=(Gz w a).1},⟨0,(Gz w a).1.gen,[]⟩)else lV w (Gz w a).2
theorem F8 {l:List Sn} {s:ByteArray} {i:Nat} (h:ff l s=some i): ∃ x,l[i]? =some x/\x.name=s:=by
 obtain⟨hl,h1,-⟩:=bf.1 h
 exact⟨_,ah hl,by simpa using h1⟩
theorem J3 {l:List Sn} {s:ByteArray} {i:Nat} {x:Sn} (hx:l[i]? =some x) (hn:x.name=s) (hno: ∀ y∈l.take i,y.name≠s):ff l s=some i:=by
 unfold ff
 obtain⟨hl,rfl⟩:=cE hx
 rw[bf]
 refine⟨hl,by simpa using hn,fun j hj=> ?_⟩
 have:=hno l[j] (List.mem_take_iff_getElem.2 ⟨j,by omega,rfl⟩)
 simpa using this
theorem Ga {l:List Sn} {s:ByteArray} (hno: ∀ y∈l,y.name≠s):ff l s=none:=by
 unfold ff
 rw[dm]
 intro x hx
 simpa using hno x hx
def Oy (g:Nat):Option Nat->Value
 |none=> .pointer none
 |some i=> .pointer (some ⟨g,i*zr.sz,none⟩)
theorem dO (e:Int) (w:World):dd aa xD [J e] w fun v w2=>v=.agg #[J e,J 0,.slice none 0 0]/\Below w.heap.size w w2:=by
 refine aD wM Z Z ?_
 have H:=Hp.start w
 refine W<|Zr<|eH H dk Z fun w1 b2 H=>U<|W<|Zr<|G (Yi Z)<|G (bi (cs:= #[J (e),J (0),.slice none 0 0]) iz dk N)<|bo H 0 (#[J (e),J (0),.slice none 0 0]) aO Z Z Z Z Z N N fun w2 H=>U<|Zt ?_
 exact eM (cs0:= #[J e,J 0,.slice none 0 0]) Z aM Z (H.ent (i:=0) Z) Z ⟨rfl,H.below⟩
theorem C4 (a:Act) (c n:Int) (A:Option Addr) (l k:Nat) (w:World):dd aa u7 [a.v,.agg #[J c,J n,.slice A l k]] w fun v w2=>v=(if a.lost=0 then .agg #[J c,J n,.slice A l k]else .agg #[J 14,J 0,.slice none 0 0])/\Below w.heap.size w w2:=by
 refine aD Aw Z Z ?_
 have H:=Hp.start w
 show CW _ _ _ _ (args [.agg #[J (a.kind),.string (a.name),J (a.part),J (a.n),J (a.m),.string (a.text),J (a.lost)],.agg #[J c,J n,.slice A l k]]) w
 refine W<|Zr<|fQ H Z Z fun w1 b2 H=>fQ H Z Z fun w2 b3 H=>eH H dk Z fun w3 b4 H=>U<|W<|W<|Zr<|G (Zf jy Z)<|G (Zd aj H 2 Z Z Z) ?_
 refine qm (iL Z Z) Z Z Z (fun h7=> ?_) (fun h7=> ?_)
 refine U<|ZT Z<|W<|Zr<|cd bN (dO 14 _) Z Z ?_
 rintro _ w4 ⟨rfl,hb⟩;replace H:=H.later hb;clear hb
 refine bo H 0 (#[J (14),J (0),.slice none 0 0]) aO Z Z Z Z Z N N fun w5 H=>U<|Zt ?_
 exact eM (cs0:= #[J 14,J 0,.slice none 0 0]) Z aM Z (H.ent (i:=0) Z) Z ⟨(if_neg h7).symm,H.below⟩
 refine U<|ZF Z<|Zk<|W<|Zr<|G (Zw aM H 1 Z Z Z)<|bo H 0 (#[J (c),J (n),.slice A l k]) aO Z Z Z Z Z N N fun w6 H=>U<|Zt ?_
 exact eM (cs0:= #[J c,J n,.slice A l k]) Z aM Z (H.ent (i:=0) Z) Z ⟨(if_pos (by simpa using h7)).symm,H.below⟩
theorem nV (bb:Nat) (b:Bk) (n:Int) (w:World) (hb:w.heap[bb]? =some (.cells b.c.toArray bK (0,0))):dd aa s9 [.pointer (Qd bb),J n] w fun v w2=>v=.bool (decide (0<=n/\n<(b.ps.length:Int)))/\Below w.heap.size w w2:=by
 refine aD sy Z Z ?_
 have H:=Hp.start w
 have hbl:=bY hb
 refine W<|Zr<|G (Wb Z)<|U<|W<|Zr<|G (Yi Z) ?_
 refine cT (j4 Z Z) Z Z Z (fun h6=> ?_) (fun h6=> ?_)
 refine G (Yb Z)<|ZG<|G (Yi Z)<|ZG<|G (Yp Z)<|ZG<|G (aI Z)<|ZG<|G (Zf aU Z)<|ZG<|G (Zf dG Z)<|ZG<|G (aT eg Z ((H.below.cell (p:=⟨bb,_,none⟩) hbl).trans (aB (j:=0) hb Z)))<|ZG<|G (bn lJ Z)<|ZG ?_
 refine cT (cG Z Z) Z Z Z (fun h15=> ?_) (fun h15=> ?_)
 refine G (Kt Z Z)<|G (Wb Z)<|U<|Zt ?_
 exact cD (v:=.bool true) Z Z ⟨by congr 1;simp only[Bool.true_eq,Bool.false_eq,decide_eq_true_eq,decide_eq_false_iff_not];omega,H.below⟩
 refine G (Kt Z Z)<|G (Wb Z)<|U<|Zt ?_
 exact cD (v:=.bool false) Z Z ⟨by congr 1;simp only[Bool.true_eq,Bool.false_eq,decide_eq_true_eq,decide_eq_false_iff_not];omega,H.below⟩
 refine G (Yb Z)<|ZN<|ZN<|ZN<|ZN<|ZN<|ZN<|ZN<|ZN<|G (N Z Z)<|G (Wb Z)<|U<|Zt ?_
 exact cD (v:=.bool false) Z Z ⟨by congr 1;simp only[Bool.true_eq,Bool.false_eq,decide_eq_true_eq,decide_eq_false_iff_not];omega,H.below⟩
theorem Gb (bb:Nat) (b:Bk) (s:ByteArray) (w:World) (hb:w.heap[bb]? =some (.cells b.c.toArray bK (0,0))) (h0:b.sns=[]):dd aa jn [.pointer (Qd bb),.string s] w fun v w2=>v=.pointer none/\Below w.heap.size w w2:=by
 refine aD lN Z Z ?_
 have H:=Hp.start w
 have hbl:=bY hb
 have hl0:b.sns.length=0:=by rw[h0];rfl
 refine W<|Zr<|G (Wp Z)<|U<|W<|W<|Zr<|G (Yp Z)<|G (aI Z)<|G (Zf aU Z)<|G (Zf j8 Z)<|G (aT jV Z ((H.below.cell (p:=⟨bb,_,none⟩) hbl).trans (aB (j:=10) hb Z)))<|G (bn tB Z)<|G (Yi Z)<|U<|Zb ?_
 refine ce (τ:=Unit) [4,5,12,13,14,15,16,17,18,19,20,21,22,23,24,25,26,27,28,29,30,31,32,33] (fun _=>[(12,J 0)]) (fun _ w'=>Hp w w' [] []) (fun _=>0) () H (dF Z) ?_
 rintro _ ρ1 w1 H
 show CW _ _ _ _ (dC (gC _ _ ρ1) [(12,J 0)]) w1
 refine W<|Zr<|G (cY Z Z I)<|U<|W<|ZF Z<|Zx<|W<|Zr<|G (Wp Z)<|U<|Zt ?_
 exact cD (v:=.pointer none) Z Z ⟨rfl,H.below⟩
theorem Iq (bb:Nat) (b:Bk) (s:ByteArray) (g:Nat) (u:Array Value) (w:World) (hb:w.heap[bb]? =some (.cells b.c.toArray bK (0,0))) (hA:b.snA=some ⟨g,0,none⟩) (row:dT zr b.sns b.snC u) (hg:w.heap[g]? =some (.cells u fu (0,0))) (hl:b.sns.length<=1000000):dd aa jn [.pointer (Qd bb),.string s] w fun v w2=>v=Oy g (ff b.sns s)/\Below w.heap.size w w2:=by
 refine aD lN Z Z ?_
 have H:=Hp.start w
 have hbl:=bY hb
 have hgl:=bY hg
 obtain⟨ps,pA,pC,co,clo,chi,gr,glo,ghi,sns,snA,snC⟩:=b
 dsimp only at hA row hl
 subst hA
 replace hb:w.heap[bb]? =some (.cells #[.slice pA ps.length pC,J (co.clock),J (co.next),J (co.wait),.slice co.A co.txs.length co.cap,J (gr.clock),J (gr.wait),J (gr.gen),.slice gr.mA gr.ms.length gr.mC,.slice gr.oA gr.os.length gr.oC,.slice (Qd g) sns.length snC] bK (0,0)):=hb
 refine W<|Zr<|G (Wp Z)<|U<|W<|W<|Zr<|G (Yp Z)<|G (aI Z)<|G (Zf aU Z)<|G (Zf j8 Z)<|G (aT jV Z ((H.below.cell (p:=⟨bb,_,none⟩) hbl).trans (aB (j:=10) hb Z)))<|G (bn tB Z)<|G (Yi Z)<|U<|Zb ?_
 refine ce (τ:=Nat) [4,5,12,13,14,15,16,17,18,19,20,21,22,23,24,25,26,27,28,29,30,31,32,33] (fun i=>[(12,J (i:Nat))]) (fun i w'=>i<=sns.length/\(∀ y∈sns.take i,y.name≠s)/\Hp w w' [] []) (fun i=>sns.length-i) 0 ⟨by omega,by simp,H⟩ (dF Z) ?_
 rintro i ρ1 w1 ⟨hi,hno,H⟩
 show CW _ _ _ _ (dC (gC _ _ ρ1) [(12,J (i:Nat))]) w1
 refine W<|Zr ?_
 refine cT (cG Z Z) Z Z Z (fun h13=> ?_) (fun h13=> ?_)
 refine U<|W<|ZT Z<|Zk<|W<|Zb<|W ?_
 obtain⟨x,hx⟩: ∃ x,sns[i]? =some x:=⟨_,ah I⟩
 refine Zr<|G (Yi Z)<|G (Wi Z)<|U<|W<|Zr<|G (Yp Z)<|G (aI Z)<|G (Zf aU Z)<|G (Zf j8 Z)<|G (aT jV Z ((H.below.cell (p:=⟨bb,_,none⟩) hbl).trans (aB (j:=10) hb Z)))<|G (Yi Z)<|G (cB sa Z Z I)<|G (Zf oh Z)<|G (bP aY row hx 0 Z ((H.below.block _ hgl).trans hg) Z)<|G (Yt Z) ?_
 refine cT (vA Z Z) Z Z Z (fun h25=> ?_) (fun h25=> ?_)
 refine U<|ZT Z<|W<|Zr<|G (Yp Z)<|G (aI Z)<|G (Zf aU Z)<|G (Zf j8 Z)<|G (aT jV Z ((H.below.cell (p:=⟨bb,_,none⟩) hbl).trans (aB (j:=10) hb Z)))<|G (Yi Z)<|G (cB sa Z Z I)<|G (Wp Z)<|U<|Zt ?_
 exact cD (v:=.pointer (some ⟨g,i*zr.sz,none⟩)) Z Z ⟨by dsimp only;rw[J3 hx h25 hno];rfl,H.below⟩
 refine U<|ZF Z<|Zk<|Zr<|G (br Z Z I I)<|G (Yi Z)<|U ?_
 refine⟨i+1,⟨by omega,fun y hy=> ?_,H⟩,dF Z,Qg,by show sns.length- (i+1)<sns.length-i;omega⟩
 rw[eI hx]at hy
 rcases au.1 hy with hy|hy
 exact hno y hy
 rw[aq.1 hy];exact h25
 refine U<|W<|ZF Z<|Zx<|W<|Zr<|G (Wp Z)<|U<|Zt ?_
 obtain rfl:i=sns.length:=by omega
 rw[bJ]at hno
 exact cD (v:=.pointer none) Z Z ⟨by dsimp only;rw[Ga hno];rfl,H.below⟩
def OR:Option Addr->Nat
 |some A=>A.block
 |none=>0
theorem jk (bb:Nat) (b:Bk) (s:ByteArray) (Ls:List (Nat×Obj)) (w:World) (hb:w.heap[bb]? =some (.cells b.c.toArray bK (0,0))) (hsn:gd zr (.slice b.snA b.sns.length b.snC) fu b.sns Ls) (hLs: ∀ q∈Ls,w.heap[q.1]? =some q.2) (hl:b.sns.length<=1000000):dd aa jn [.pointer (Qd bb),.string s] w fun v w2=>v=Oy (OR b.snA) (ff b.sns s)/\Below w.heap.size w w2:=by
 by_cases h0:b.sns=[]
 refine(Gb bb b s w hb h0).mono fun v w2 ⟨h1,h2⟩=>⟨?_,h2⟩
 rw[h1,h0];rfl
 obtain⟨g,u,hA,hL,row⟩:=hsn.row (List.length_pos_iff.2 h0)
 subst hL
 refine(Iq bb b s g u w hb hA row (hLs _ (aq.2 Z)) hl).mono fun v w2 ⟨h1,h2⟩=>⟨?_,h2⟩
 rw[h1,hA];rfl
theorem Cz (X:List (Nat×Obj)) (a b:Nat×Obj) (La Lb K:List (Nat×Obj)):(X++(a::b::(La++(Lb++K)))).Perm (X++((La++(a::b::Lb))++K)):=by
 refine List.Perm.append_left _ ?_
 rw[show(La++(a::b::Lb))++K=La++([a,b]++(Lb++K)) by simp]
 exact fR [a,b] La (Lb++K)
theorem Bw.close {w0 w':World} {bb gP gS gq gl pC snC clo chi glo ghi i:Nat} {uP uS uq ul:Array Value} {La Lb K X:List (Nat×Obj)} {F0 F':List cr} {ps:List Pq} {co:Co} {gr:Gr} {sns:List Sn} {s:Sn} {C:Array Value} (row:dT EI ps pC uP) (rowS:dT zr (sns.set i s) snC uS) (hset: ∀ (s':Sn) (gq':Nat) (uq':Array Value) (gl':Nat) (ul':Array Value),s'.sA=some ⟨gq',0,none⟩->s'.lA=some ⟨gl',0,none⟩->dT bQ s'.seqs s'.sC uq'->dT gJ s'.last s'.lC ul'->qe (sns.set i s') (La++((gq',.cells uq' cW (0,0))::(gl',.cells ul' dt (0,0))::Lb)))
  (hsA:s.sA=some ⟨gq,0,none⟩) (hlA:s.lA=some ⟨gl,0,none⟩) (rowq:dT bQ s.seqs s.sC uq) (rowl:dT gJ s.last s.lC ul) (hco:xf w0 clo chi co∈F') (hgr:JB w0 glo ghi gr∈F') (hps: ∀ q∈ps,tg w0 q.lo q.hi q.p∈F') (hF: ∀ f∈F0,f∈F')
  (H:Hp w0 w' (X++((bb,.cells C bK (0,0))::(gP,.cells uP bD (0,0))::(gS,.cells uS fu (0,0))::(gq,.cells uq cW (0,0))::(gl,.cells ul dt (0,0))::(La++(Lb++K)))) F') (hC:C=(Bk.mk ps (Qd gP) pC co clo chi gr glo ghi (sns.set i s) (Qd gS) snC).c.toArray):xg w0 w' bb ⟨ps,some ⟨gP,0,none⟩,pC,co,clo,chi,gr,glo,ghi,sns.set i s,some ⟨gS,0,none⟩,snC⟩ K F0:=by
 subst hC
 refine⟨gP,uP,_,_,F',⟨rfl,row,dT.own rowS,hset s gq uq gl ul hsA hlA rowq rowl,hco,hgr,hps,?_⟩,hF⟩
 have H1:=H.forget (cj X _) (fun _ h=>h)
 exact H1.perm (Cz [(bb,_),(gP,_),(gS,_)] _ _ La Lb K).symm
theorem yZ (l:List Sn) (s:ByteArray):ff (l.map Sn.a) s=ff l s:=by
 unfold ff
 rw[CT]
 rfl
theorem wh {l:List Sn} {s:ByteArray} {i:Nat} {x:Sn} (hix:ff l s=some i) (hx:l[i]? =some x):((ff (l.map Sn.a) s).bind fun i=>(l.map Sn.a)[i]?.map fun s=>(i,s))=some (i,x.a):=by
 rw[yZ,hix]
 simp[hx]
theorem C8 {l:List Sn} {s:ByteArray} (hix:ff l s=none):((ff (l.map Sn.a) s).bind fun i=>(l.map Sn.a)[i]?.map fun s=>(i,s))=none:=by
 rw[yZ,hix]
 rfl
theorem Bw.shut {w0 w':World} {bb gP pC snC clo chi glo ghi:Nat} {uP:Array Value} {Ls Lo K X:List (Nat×Obj)} {F0 F':List cr} {ps:List Pq} {co:Co} {gr:Gr} {sns:List Sn} {snA:Option Addr} {C:Array Value} (row:dT EI ps pC uP) (hsn:gd zr (.slice snA sns.length snC) fu sns Ls) (hown:qe sns Lo) (hco:xf w0 clo chi co∈F') (hgr:JB w0 glo ghi gr∈F') (hps: ∀ q∈ps,tg w0 q.lo q.hi q.p∈F') (hF: ∀ f∈F0,f∈F')
  (H:Hp w0 w' (X++((bb,.cells C bK (0,0))::(gP,.cells uP bD (0,0))::(Ls++(Lo++K)))) F') (hC:C=(Bk.mk ps (Qd gP) pC co clo chi gr glo ghi sns snA snC).c.toArray):xg w0 w' bb ⟨ps,some ⟨gP,0,none⟩,pC,co,clo,chi,gr,glo,ghi,sns,snA,snC⟩ K F0:=by
 subst hC
 exact⟨gP,uP,_,_,F',⟨rfl,row,hsn,hown,hco,hgr,hps,H.forget (cj X _) (fun _ h=>h)⟩,hF⟩
theorem wY {b:Bk} {a:Act} {i:Nat} {x:Sn} (hix:ff b.sns a.name=some i) (hx:b.sns[i]? =some x) (h:x.inn=true):kL b.a a=(b.a,⟨6,0,[]⟩):=by
 unfold kL
 rw[show b.a.sns=b.sns.map Sn.a from rfl,wh hix hx]
 dsimp only
 rw[if_pos (show x.a.inn=true from h)]
 rfl
theorem CM {b:Bk} {a:Act} {i:Nat} {x:Sn} (hix:ff b.sns a.name=some i) (hx:b.sns[i]? =some x) (h:x.inn=false):kL b.a a=({b.a with sns:=(b.sns.set i {x with inn:=true}).map Sn.a},⟨0,0,[]⟩):=by
 unfold kL
 rw[show b.a.sns=b.sns.map Sn.a from rfl,wh hix hx]
 dsimp only
 rw[if_neg (show¬ x.a.inn=true by show¬ x.inn=true;rw[h];decide),cw]
 rfl
theorem yy {b:Bk} {a:Act} (hix:ff b.sns a.name=none):kL b.a a=(b.a,⟨5,0,[]⟩):=by
 unfold kL
 rw[show b.a.sns=b.sns.map Sn.a from rfl,C8 hix]
 rfl
theorem eW {α:Type} {l:List α} {k:Nat} {a:α} (h:l[k]? =some a):l.set k a=l:=by
 apply eG
 intro j
 rw[lh]
 split
 rename_i hj
 subst hj
 split
 exact h.symm
 rename_i hl
 rw[cI I]at h;cases h
 rfl
theorem G8 {w0 w:World} {bb:Nat} {b:Bk} {gP:Nat} {uP:Array Value} {Ls Lo K:List (Nat×Obj)} {F:List cr} (a:Act) (B:Bw w0 w bb b gP uP Ls Lo K F) (hsl:b.sns.length<=1000000) (hix:ff b.sns a.name=none):dd aa jG [.pointer (Qd bb),a.v] w fun v w2=> ∃ b':Bk,oF (kL b.a a).2 v w2/\b'.a=(kL b.a a).1/\xg w0 w2 bb b' K F:=by
 refine aD mr Z Z ?_
 obtain⟨ps,pA,pC,co,clo,chi,gr,glo,ghi,sns,snA,snC⟩:=b
 obtain⟨hpA,row,hsn,hown,hco,hgr,hps,H⟩:=B
 dsimp only at hpA row hsn hown hco hgr hps
 subst hpA
 replace H:Hp w0 w ((bb,.cells #[.slice (Qd gP) ps.length pC,J (co.clock),J (co.next),J (co.wait),.slice co.A co.txs.length co.cap,J (gr.clock),J (gr.wait),J (gr.gen),.slice gr.mA gr.ms.length gr.mC,.slice gr.oA gr.os.length gr.oC,.slice snA sns.length snC] bK (0,0))::(gP,.cells uP bD (0,0))::(Ls++(Lo++K))) F:=H
 dsimp only at hix hsl
 show CW _ _ _ _ (args [.pointer (Qd bb),.agg #[J (a.kind),.string (a.name),J (a.part),J (a.n),J (a.m),.string (a.text),J (a.lost)]]) w
 refine W<|Zr<|fQ H Z Z fun w1 b3 H=>eH H dk Z fun w2 b4 H=>U<|W<|Zr<|G (Yp Z)<|G (Zf eZ Z)<|G (Zd aY H 1 Z Z Z)<|cd dx (jk bb ⟨ps,some ⟨gP,0,none⟩,pC,co,clo,chi,gr,glo,ghi,sns,snA,snC⟩ (a.name) Ls _ (H.ent (i:=2) Z) hsn (fun q hq=>(H.ents q (by simp only[ax,au];grind)).1) hsl) Z Z ?_
 rintro _ w3 ⟨rfl,hb⟩;replace H:=H.later hb;clear hb
 rw[hix]
 refine G (Wp Z)<|U<|W<|Zb<|W<|Zr<|G (Yp Z)<|G (xr iJ Z)<|G (Wb Z)<|U<|ZT Z<|W<|Zr<|cd bN (dO 5 _) Z Z ?_
 rintro _ w4 ⟨rfl,hb⟩;replace H:=H.later hb;clear hb
 refine bo H 0 (#[J (5),J (0),.slice none 0 0]) aO Z Z Z Z Z N N fun w5 H=>U<|Zt ?_
 exact eM (cs0:= #[J (5),J (0),.slice none 0 0]) Z aM Z (H.ent (i:=0) Z) Z ⟨⟨ps,some ⟨gP,0,none⟩,pC,co,clo,chi,gr,glo,ghi,sns,snA,snC⟩,by rw[yy hix];exact oF.plain _ _ _,by rw[yy hix],Bw.shut (X:=[(b4,_),(b3,_)]) row hsn hown hco hgr hps (fun _ h=>h) H Z⟩
theorem G7 {w0 w:World} {bb:Nat} {b:Bk} {gP:Nat} {uP:Array Value} {Ls Lo K:List (Nat×Obj)} {F:List cr} (a:Act) (B:Bw w0 w bb b gP uP Ls Lo K F) (hsl:b.sns.length<=1000000) {i:Nat} {x:Sn} (hix:ff b.sns a.name=some i) (hx:b.sns[i]? =some x):dd aa jG [.pointer (Qd bb),a.v] w fun v w2=> ∃ b':Bk,oF (kL b.a a).2 v w2/\b'.a=(kL b.a a).1/\xg w0 w2 bb b' K F:=by
 refine aD mr Z Z ?_
 obtain⟨ps,pA,pC,co,clo,chi,gr,glo,ghi,sns,snA,snC⟩:=b
 obtain⟨hpA,row,hsn,hown,hco,hgr,hps,H⟩:=B
 dsimp only at hpA row hsn hown hco hgr hps
 subst hpA
 dsimp only at hix hx
 obtain⟨gS,uS,hgS,hLs,rowS⟩:=hsn.row (by have:=(cE hx).1;omega)
 subst hgS;subst hLs
 obtain⟨gq,uq,gl,ul,La,Lb,hsA,hlA,rowq,rowl,hLo,hset⟩:=hown.at_ hx
 subst hLo
 replace H:Hp w0 w ((bb,.cells #[.slice (Qd gP) ps.length pC,J (co.clock),J (co.next),J (co.wait),.slice co.A co.txs.length co.cap,J (gr.clock),J (gr.wait),J (gr.gen),.slice gr.mA gr.ms.length gr.mC,.slice gr.oA gr.os.length gr.oC,.slice (Qd gS) sns.length snC] bK (0,0))::(gP,.cells uP bD (0,0))::(gS,.cells uS fu (0,0))::(gq,.cells uq cW (0,0))::(gl,.cells ul dt (0,0))::(La++(Lb++K))) F:=H.perm (Cz [(bb,_),(gP,_),(gS,_)] _ _ La Lb K)
 dsimp only at hsl
 show CW _ _ _ _ (args [.pointer (Qd bb),.agg #[J (a.kind),.string (a.name),J (a.part),J (a.n),J (a.m),.string (a.text),J (a.lost)]]) w
 refine W<|Zr<|fQ H Z Z fun w1 b3 H=>eH H dk Z fun w2 b4 H=>U<|W<|Zr<|G (Yp Z)<|G (Zf eZ Z)<|G (Zd aY H 1 Z Z Z)<|cd dx (jk bb ⟨ps,some ⟨gP,0,none⟩,pC,co,clo,chi,gr,glo,ghi,sns,some ⟨gS,0,none⟩,snC⟩ (a.name) _ _ (H.ent (i:=2) Z) (dT.own rowS) (fun q hq=>by rw[aq.1 hq];exact(H.ent (i:=4) Z)) hsl) Z Z ?_
 rintro _ w3 ⟨rfl,hb⟩;replace H:=H.later hb;clear hb
 rw[hix]
 refine G (Wp Z)<|U<|W<|Zb<|W<|Zr<|G (Yp Z)<|G (vC iJ Z)<|G (Wb Z)<|U<|ZF Z<|W<|Zr<|G (Yp Z)<|G (aI Z)<|G (Zf og Z) ?_
 refine wr (bP dP rowS hx 3 Z (H.ent (i:=4) Z) Z) Z Z Z (fun h18=> ?_) (fun h18=> ?_)
 refine G (Wb Z)<|U<|ZT Z<|W<|Zr<|cd bN (dO 6 _) Z Z ?_
 rintro _ w4 ⟨rfl,hb⟩;replace H:=H.later hb;clear hb
 refine bo H 0 (#[J (6),J (0),.slice none 0 0]) aO Z Z Z Z Z N N fun w5 H=>U<|Zt ?_
 exact eM (cs0:= #[J (6),J (0),.slice none 0 0]) Z aM Z (H.ent (i:=0) Z) Z ⟨⟨ps,some ⟨gP,0,none⟩,pC,co,clo,chi,gr,glo,ghi,sns.set i x,some ⟨gS,0,none⟩,snC⟩,by rw[wY hix hx h18];exact oF.plain _ _ _,by rw[wY hix hx h18,eW hx],Bw.close (X:=[(b4,_),(b3,_)]) row (by rw[eW hx];exact rowS) hset hsA hlA rowq rowl hco hgr hps (fun _ h=>h) H (by rw[eW hx];rfl)⟩
 refine G (Wb Z)<|U<|ZF Z<|Zk<|W<|Zr<|G (Yp Z)<|G (aI Z)<|G (Zf og Z)<|kH H 4 ({x with inn:=true}) iF rowS hx 3 Z Z Z Z Z Z N fun w7 cur6 row6 H=> ?_
 have hs8:(sns.set i ({x with inn:=true}))[i]? =some ({x with inn:=true}):=am (cE hx).1
 refine U<|W<|Zr<|G (bi (cs:= #[J (0),J (0),.slice none 0 0]) iz dk N)<|bo H 0 (#[J (0),J (0),.slice none 0 0]) aO Z Z Z Z Z N N fun w9 H=>U<|Zt ?_
 exact eM (cs0:= #[J (0),J (0),.slice none 0 0]) Z aM Z (H.ent (i:=0) Z) Z ⟨⟨ps,some ⟨gP,0,none⟩,pC,co,clo,chi,gr,glo,ghi,sns.set i {x with inn:=true},some ⟨gS,0,none⟩,snC⟩,by rw[CM hix hx h18];exact oF.plain _ _ _,by rw[CM hix hx h18];rfl,Bw.close (X:=[(b4,_),(b3,_)]) row row6 hset hsA hlA rowq rowl hco hgr hps (fun _ h=>h) H (by simp only[Bk.c,ab])⟩
def LR:Deep Co:=⟨fun c=>c.rd,fun _ _ _ _ _ hk h=>h.st hk,fun _ _ _ _ _ _ h h1 h2=>h.mono h1 h2⟩
def pO:Nat->ByteArray
 |0=>⟨#[97,110,110]⟩
 |1=>⟨#[98,111,98]⟩
 |_=>⟨#[99,121]⟩
theorem MB:bM ⟨#[97,110,110]⟩=true:=by kernel_rfl
theorem MA:bM ⟨#[98,111,98]⟩=true:=by kernel_rfl
theorem y4:bM ⟨#[99,121]⟩=true:=by kernel_rfl
theorem qT: ∀ m:Nat,bM (pO m)=true
 |0=>MB
 |1=>MA
 |_+2=>y4
theorem KA {m:Nat} (h:m<3):(p5 [.string ⟨#[97,110,110]⟩,.string ⟨#[98,111,98]⟩,.string ⟨#[99,121]⟩]).toArray[0+((m:Nat):Int).toNat*1]? =some (.string (pO m)):=by
 match m,h with
 |0,_=>rfl
 |1,_=>rfl
 |2,_=>rfl
def B2 (P:ByteArray->Prop) (wt:Int) (c:Co):Prop:=c.wait=wt/\ ∀ t∈c.txs,P t.name
theorem B2.set {P:ByteArray->Prop} {wt:Int} {c:Co} {i:Nat} {t t':Tx} (h:B2 P wt c) (hi:c.txs[i]? =some t) (hn:t'.name=t.name):B2 P wt (qA c i t'):=⟨h.1,fun x hx=>by
 rcases Dl hx with hx|rfl
 exact h.2 x hx
 rw[hn];exact h.2 t (ae hi)⟩
theorem B2.add {P:ByteArray->Prop} {wt:Int} {c:Co} {s:ByteArray} {ver p:Int} (h:B2 P wt c) (he:(ox c s ver p).2=0):B2 P wt (ox c s ver p).1:=by
 unfold ox at he⊢
 split
 rename_i hf;rw[hf]at he;cases he
 rename_i i t hf
 rw[hf]at he
 dsimp only at he
 split at he
 cases he
 rename_i hv
 rw[if_neg hv]
 split at he
 rename_i h1
 rw[if_pos h1]
 exact h.set (ja hf).2.1 (by unfold iu;split<;>rfl)
 cases he
theorem B2.done {P:ByteArray->Prop} {wt:Int} {c:Co} {s:ByteArray} {p:Int} (h:B2 P wt c) (he:(qI c s p).2=0):B2 P wt (qI c s p).1:=by
 unfold qI at he⊢
 split
 rename_i hf;rw[hf]at he;cases he
 rename_i i t hf
 rw[hf]at he
 dsimp only at he
 split at he
 rename_i h1
 rw[if_pos h1]
 split at he
 rename_i h2
 rw[if_pos h2]
 exact h.set (ja hf).2.1 (by unfold gp;split<;>rfl)
 cases he
 cases he
theorem B2.tick {P:ByteArray->Prop} {wt:Int} {c:Co} {n:Int} (h:B2 P wt c) (he:(i8 c n).2=0):B2 P wt (i8 c n).1:=by
 unfold i8 at he⊢
 split at he
 cases he
 rename_i h1
 rw[if_neg h1]
 refine⟨h.1,fun t ht=> ?_⟩
 obtain⟨x,hx,rfl⟩:=bw.1 (show t∈c.txs.map _ from ht)
 have:(fh (c.clock+n) c.wait x).name=x.name:=by unfold fh;split<;>rfl
 rw[this];exact h.2 x hx
theorem B2.a {P:ByteArray->Prop} {wt:Int} {c:Co} (h:B2 P wt c):B2 P wt c.a:=⟨h.1,fun t ht=>by
 obtain⟨x,hx,rfl⟩:=bw.1 (show t∈c.txs.map Tx.a from ht)
 exact h.2 x hx⟩
theorem B2.of_a {P:ByteArray->Prop} {wt:Int} {c:Co} (h:B2 P wt c.a):B2 P wt c:=⟨h.1,fun t ht=>h.2 t.a (bL (f:=Tx.a) ht)⟩
def Ng (s:ByteArray):Prop:= ∃ m,s=pO m
def PN (k:Nat) (c:Co):Prop:=oE k c/\B2 Ng 10 c
theorem PN.next {k:Nat} {r:Co×Int} {c':Co} (h1:r.2=0->oE (k+1) r.1) (h2:r.2=0->B2 Ng 10 r.1) (ha:c'.a=r.1):r.2=0->PN (k+1) c':=fun h=>⟨oE.of_a (ha▸h1 h),B2.of_a (ha▸h2 h)⟩
theorem KM (n:Int) (w:World) (hn:i64 n):dd aa uI [J n] w fun v w2=>v=.string (pO (pk n 3))/\Below w.heap.size w w2:=by
 refine aD tL Z Z ?_
 have H:=Hp.start w
 refine W<|Zr<|G (Wt Z)<|U<|W<|Zr<|sW (vs:=[.string ⟨#[97,110,110]⟩,.string ⟨#[98,111,98]⟩,.string ⟨#[99,121]⟩]) H fT v5 Z Z Z Z Z Z fun w1 b3 H=>G (Yi Z)<|cd aJ (dh n 3 _ hn.1 hn.2 I I) Z Z ?_
 rintro _ w2 ⟨rfl,hb⟩;replace H:=H.later hb;clear hb
 have hm:=iZ n (show 0<3 by omega)
 refine G (sS fT Z Z I I)<|G (aT aY Z (aB (H.ent (i:=0) Z) (KA hm)))<|G (Wt Z)<|U<|Zt ?_
 exact cD Z Z ⟨rfl,H.below⟩
theorem Hu {w:Wa} {n:Nat} {x:cN} {p:gx} (h:w.ps[n]? =some p):uE w n x=if(eA p x).2.2=0 then({w with ps:=w.ps.set n (eA p x).1},⟨0,(eA p x).2.1,[]⟩)else lV w (eA p x).2.2:=by
 unfold uE
 rw[h]
theorem zN {ps:List Pq} {n:Nat} {q y:Pq} (h:y∈ps.set n q):y∈ps∨y=q:=bE h
theorem AF {w0 w:World} {bb gP gS gq gl pC snC clo chi k i n:Nat} {uP uS uq ul:Array Value} {R:List (Nat×Obj)} {F:List cr} {ps:List Pq} {co:Co} {gr:Gr} {sns:List Sn} {x:Sn} (H:Hp w0 w ((bb,.cells #[.slice (Qd gP) ps.length pC,J (co.clock),J (co.next),J (co.wait),.slice co.A co.txs.length co.cap,J (gr.clock),J (gr.wait),J (gr.gen),.slice gr.mA gr.ms.length gr.mC,.slice gr.oA gr.os.length gr.oC,.slice (Qd gS) sns.length snC] bK (0,0))::(gP,.cells uP bD (0,0))::(gS,.cells uS fu (0,0))::(gq,.cells uq cW (0,0))::(gl,.cells ul dt (0,0))::R) F) (row:dT EI ps pC uP) (rowS:dT zr sns snC uS) (rowl:dT gJ x.last x.lC ul) (hx:sns[i]? =some x) (hlA:x.lA=some ⟨gl,0,none⟩) (hco:xf w0 clo chi co∈F) (hps: ∀ q∈ps,tg w0 q.lo q.hi q.p∈F) (hn:n<x.last.length) (hnp:n<ps.length) (hn4:n<4) (hnm:bM x.name=true) (hcb:oE k co) (hpk: ∀ q∈ps,q.p.a.ok/\ ∀ (l:Nat) (y:fb),q.p.leader=l->q.p.reps[l]? =some y->y.es.length<400):dd aa rK [.pointer (Qd bb),.pointer (some ⟨gS,i*zr.sz,none⟩),J (n:Nat)] w fun v w2=> ∃ (ps':List Pq) (uP':Array Value) (co':Co) (clo' chi':Nat) (F':List cr),oF (eh (Wa.mk (ps.map fun q=>q.p.a) co.a gr.a (sns.map Sn.a)) x.a n).2 v w2/\(eh (Wa.mk (ps.map fun q=>q.p.a) co.a gr.a (sns.map Sn.a)) x.a n).1=Wa.mk (ps'.map fun q=>q.p.a) co'.a gr.a (sns.map Sn.a)/\dT EI ps' pC uP'/\ps'.length=ps.length/\xf w0 clo' chi' co'∈F'/\(∀ q∈ps',tg w0 q.lo q.hi q.p∈F')/\(∀ f∈F,f∈F')/\Hp w0 w2 ((bb,.cells #[.slice (Qd gP) ps'.length pC,J (co'.clock),J (co'.next),J (co'.wait),.slice co'.A co'.txs.length co'.cap,J (gr.clock),J (gr.wait),J (gr.gen),.slice gr.mA gr.ms.length gr.mC,.slice gr.oA gr.os.length gr.oC,.slice (Qd gS) sns.length snC] bK (0,0))::(gP,.cells uP' bD (0,0))::(gS,.cells uS fu (0,0))::(gq,.cells uq cW (0,0))::(gl,.cells ul dt (0,0))::R) F':=by
 refine aD rp Z Z ?_
 obtain⟨e,he⟩: ∃ e,x.last[n]? =some e:=⟨_,ah hn⟩
 have hl5:(zr.f x)[5]? =some (.slice (some ⟨gl,0,none⟩) x.last.length x.lC):=by rw[<-hlA];rfl
 obtain⟨q,hq⟩: ∃ q,ps[n]? =some q:=⟨_,ah hnp⟩
 have hqm:=ae hq
 have hpC:=row.le
 have hD:eh (Wa.mk (ps.map fun q=>q.p.a) co.a gr.a (sns.map Sn.a)) x.a n=if(rR (Wa.mk (ps.map fun q=>q.p.a) co.a gr.a (sns.map Sn.a)) x.a n e).2=0 then uE (Wa.mk (ps.map fun q=>q.p.a) (rR (Wa.mk (ps.map fun q=>q.p.a) co.a gr.a (sns.map Sn.a)) x.a n e).1 gr.a (sns.map Sn.a)) n e else lV (Wa.mk (ps.map fun q=>q.p.a) co.a gr.a (sns.map Sn.a)) (rR (Wa.mk (ps.map fun q=>q.p.a) co.a gr.a (sns.map Sn.a)) x.a n e).2:=by unfold eh;rw[show x.a.last[n]? =some e from he]
 rw[hD]
 have hP:=Hu (w:=Wa.mk (ps.map fun q=>q.p.a) (rR (Wa.mk (ps.map fun q=>q.p.a) co.a gr.a (sns.map Sn.a)) x.a n e).1 gr.a (sns.map Sn.a)) (n:=n) (x:=e) (p:=q.p.a) (by rw[aL,hq];rfl)
 refine W<|Zr<|eH H dk Z fun w1 b6 H=>U<|W<|Zr<|G (Yp Z)<|G (aI Z)<|G (Zf lQ Z)<|G (bP m4 rowS hx 5 Z (H.ent (i:=3) Z) hl5)<|G (Yi Z)<|G (cB dR Z Z (by first|omega|(simp only[ab];omega)))<|G (oH dD rowl he Z Z (H.ent (i:=5) Z))<|eH H f7 Z fun w2 b7 H=>bo H 0 (#[J (e.epoch),J (e.pid),J (e.ver),J (e.seq),J (e.kind),.bool (e.txn),.string (e.text)]) eQ Z Z Z Z Z N N fun w3 H=>U<|W<|W<|Zr<|G (Zf iW Z)<|G (Zd dP H 0 Z Z Z)<|U ?_
 refine eE (τ:=Co×Nat×Nat×List cr) [8,9,22,23,24,25,26,27,28,29,30,31,32,33,34,35,36,37,38,39,40,41,42,43,44,45,46] (fun _=>[]) (fun(c2,l2,h2,F2) w'=>c2.a=(rR (Wa.mk (ps.map fun q=>q.p.a) co.a gr.a (sns.map Sn.a)) x.a n e).1/\(rR (Wa.mk (ps.map fun q=>q.p.a) co.a gr.a (sns.map Sn.a)) x.a n e).2=0/\xf w0 l2 h2 c2∈F2/\(∀ f∈F,f∈F2)/\Hp w0 w' ((b7,.cells #[J (e.epoch),J (e.pid),J (e.ver),J (e.seq),J (e.kind),.bool (e.txn),.string (e.text)] dt (0,0))::(b6,.cells #[J (0),J (0),.slice none 0 0] d8 (0,0))::(bb,.cells #[.slice (Qd gP) ps.length pC,J (c2.clock),J (c2.next),J (c2.wait),.slice c2.A c2.txs.length c2.cap,J (gr.clock),J (gr.wait),J (gr.gen),.slice gr.mA gr.ms.length gr.mC,.slice gr.oA gr.os.length gr.oC,.slice (Qd gS) sns.length snC] bK (0,0))::(gP,.cells uP bD (0,0))::(gS,.cells uS fu (0,0))::(gq,.cells uq cW (0,0))::(gl,.cells ul dt (0,0))::R) F2) ?_ ?_
 refine jf Z (fun hc21=> ?_) (fun hc21=> ?_)
 refine W ?_
 refine eE (τ:=Co×Nat×Nat×Nat) [8,9,22,23,24,25,26,27,28,29,30,31,32,33,34,35,36,37] (fun(_,b8,_,_)=>[(8,.pointer (Qd b8)),(9,J (ox co.a x.name e.ver n).2)]) (fun(c3,b8,lo,hi) w'=>c3.a=(ox co.a x.name e.ver n).1/\Hp w0 w' ((b8,.cells #[J (c3.clock),J (c3.next),J (c3.wait),.slice c3.A c3.txs.length c3.cap] bd (0,0))::(b7,.cells #[J (e.epoch),J (e.pid),J (e.ver),J (e.seq),J (e.kind),.bool (e.txn),.string (e.text)] dt (0,0))::(b6,.cells #[J (0),J (0),.slice none 0 0] d8 (0,0))::(bb,.cells #[.slice (Qd gP) ps.length pC,J (co.clock),J (co.next),J (co.wait),.slice co.A co.txs.length co.cap,J (gr.clock),J (gr.wait),J (gr.gen),.slice gr.mA gr.ms.length gr.mC,.slice gr.oA gr.os.length gr.oC,.slice (Qd gS) sns.length snC] bK (0,0))::(gP,.cells uP bD (0,0))::(gS,.cells uS fu (0,0))::(gq,.cells uq cW (0,0))::(gl,.cells ul dt (0,0))::R) (xf w0 lo hi c3::F)) ?_ ?_
 refine oo bX 16 12 [12,13,14,15,17,18] [16] [0,1,2,3,5,6,7,9,11] [16,17,18] [12] [0,1,2,3,5,6,7,9,11,13,14,15] (sp [(16,Sp.blk w3.heap.size (.agg #[J 0,J 0,J 0,.slice none 0 0]) bd)]) (sp [(12,Sp.deep w3.heap.size LR (fun c:Co=>c.c.toArray) (fun cs=> .tuple #[.agg cs,J (ox co.a x.name e.ver n).2]) (fun cq:Co=>cq.a=(ox co.a x.name e.ver n).1))]) N N N N (cF _) (cF _) ?_ ?_
 refine jr [0,1,2,3,4,5,6,7,8,9,10,11,16] [12,13,14,15,17,18] [16] [0,1,2,3,5,6,7,9,11] 5 (sp [(16,Sp.blk w3.heap.size (.agg #[J 0,J 0,J 0,.slice none 0 0]) bd)]) N N N Nq<|aw Z Z Z Z Z (fun w' hw'=>Yp Z)<|aw Z Z Z Z Z (fun w' hw'=>aI Z)<|aw Z Z Z Z Z (fun w' hw'=>Zf aU Z)<|aw Z Z Z Z Z (fun w' hw'=>Zf ey Z)<|aw Z Z Z Z Z (fun w' hw'=>jL 1 [J (co.clock),J (co.next),J (co.wait),.slice co.A co.txs.length co.cap] av Z Z ((H.later hw').ent (i:=2) Z) Z)<|aw Z Z Z Z Z (fun w' hw'=>Yp Z)<|aw Z Z Z Z Z (fun w' hw'=>aI Z)<|aw Z Z Z Z Z (fun w' hw'=>Zf oh Z)<|aw Z Z Z Z Z (fun w' hw'=>bP aY rowS hx 0 Z ((H.later hw').ent (i:=4) Z) Z)<|aw Z Z Z Z Z (fun w' hw'=>Zf ez Z)<|aw Z Z Z Z Z (fun w' hw'=>aT aj Z (aB ((H.later hw').ent (i:=0) Z) Z))<|aw Z Z Z Z Z (fun w' hw'=>Yi Z)<|xb cJ Z Z Z Z Z (fun w' hw'=>hw'.size) fun b8=>aR ?_
 intro w4 hw' hF
 obtain⟨hF,bq,eq,hge8,hbl8⟩:=hF;cases eq
 replace H:=H.adoptNew hw' hbl8 hge8
 clear hw' hF
 refine da 12 N Z<|cd wX (FN co x.name e.ver n k _ (Hp.coM H hco) hcb hnm I I) Z Z ?_
 rintro _ w5 ⟨c3,rfl,hac3,hnc3⟩;replace H:=H.learn hnc3.2 (xf w0 w4.heap.size w5.heap.size c3) ⟨H.size,hnc3.1⟩ (ao _) (ao _);clear hnc3
 refine U<|bx 13 N N N Z Z Z Z Nq (fun _=>Yu Z)<|bx 14 N N N Z Z Z Z Nq (fun _=>Xa Z Z)<|bx 15 N N N Z Z Z Z Nq (fun _=>Xi Z Z)<|da 17 N Z<|bo H 0 (#[J (c3.clock),J (c3.next),J (c3.wait),.slice c3.A c3.txs.length c3.cap]) aF Z Z Z Z Z N N fun w6 H=>U<|bx 18 N N N Z Z Z Z Nq (fun _=>Wi Z)<|cy N ?_
 exact⟨(c3,b8,_,_),⟨hac3,H⟩,kO Z Z,Qg⟩
 refine jr [0,1,2,3,4,5,6,7,8,9,10,11,12,13,14,15] [16,17,18] [12] [0,1,2,3,5,6,7,9,11,13,14,15] 2 (sp [(12,Sp.deep w3.heap.size LR (fun c:Co=>c.c.toArray) (fun cs=> .tuple #[.agg cs,J (ox co.a x.name e.ver n).2]) (fun cq:Co=>cq.a=(ox co.a x.name e.ver n).1))]) N N N Nq<|aw Z Z Z Z Z (fun w' hw'=>Yp Z)<|aw Z Z Z Z Z (fun w' hw'=>aI Z)<|aw Z Z Z Z Z (fun w' hw'=>Zf aU Z)<|aw Z Z Z Z Z (fun w' hw'=>Zf ey Z)<|aw Z Z Z Z Z (fun w' hw'=>jL 1 [J (co.clock),J (co.next),J (co.wait),.slice co.A co.txs.length co.cap] av Z Z ((H.later hw').ent (i:=2) Z) Z)<|aw Z Z Z Z Z (fun w' hw'=>Yp Z)<|aw Z Z Z Z Z (fun w' hw'=>aI Z)<|aw Z Z Z Z Z (fun w' hw'=>Zf oh Z)<|aw Z Z Z Z Z (fun w' hw'=>bP aY rowS hx 0 Z ((H.later hw').ent (i:=4) Z) Z)<|aw Z Z Z Z Z (fun w' hw'=>Zf ez Z)<|aw Z Z Z Z Z (fun w' hw'=>aT aj Z (aB ((H.later hw').ent (i:=0) Z) Z))<|aw Z Z Z Z Z (fun w' hw'=>Yi Z)<|sK (gv:=(fun cs=> .tuple #[.agg cs,J (ox co.a x.name e.ver n).2])) wX Z Z Z Z Z (fun w' hw'=>hw'.size) (fun w' hw'=>FN co x.name e.ver n k w' (Hp.coM (H.later hw') hco) hcb hnm I I) Z fun cs35=>aw Z Z Z Z Z (fun w' hw'=>Yu Z)<|aw Z Z Z Z Z (fun w' hw'=>Xa Z Z)<|aw Z Z Z Z Z (fun w' hw'=>Xi Z Z)<|aR ?_
 intro w7 hw' hF
 obtain⟨hF,c3,eq,hac3,hrd35⟩:=hF;cases eq
 replace H:=H.learn hw' (xf w0 w3.heap.size w7.heap.size c3) ⟨H.size,hrd35⟩ (ao _) (ao _)
 clear hw' hF
 refine da 16 N Z<|eH H cJ Z fun w8 b8 H=>U<|da 17 N Z<|bo H 0 (#[J (c3.clock),J (c3.next),J (c3.wait),.slice c3.A c3.txs.length c3.cap]) aF Z Z Z Z Z N N fun w9 H=>U<|bx 18 N N N Z Z Z Z Nq (fun _=>Wi Z)<|cy N ?_
 exact⟨(c3,b8,_,_),⟨hac3,H⟩,kO Z Z,Qg⟩
 rintro⟨c3,b8,lo,hi⟩ ρ1 w10 ⟨hac3,H⟩
 show CW _ _ _ _ (dC (gC _ _ ρ1) [(8,.pointer (Qd b8)),(9,J (ox co.a x.name e.ver n).2)]) w10
 refine W<|W<|Zr<|G (Yi Z) ?_
 refine qm (iL Z Z) Z Z Z (fun h39=> ?_) (fun h39=> ?_)
 have hadd: ¬ (rR (Wa.mk (ps.map fun q=>q.p.a) co.a gr.a (sns.map Sn.a)) x.a n e).2=0:=by unfold rR;rw[if_pos hc21];exact h39
 have hadd2:(rR (Wa.mk (ps.map fun q=>q.p.a) co.a gr.a (sns.map Sn.a)) x.a n e).2=(ox co.a x.name e.ver n).2:=by unfold rR;rw[if_pos hc21];rfl
 refine U<|ZT Z<|W<|Zr<|G (Yi Z)<|cd bN (dO (ox co.a x.name e.ver n).2 _) Z Z ?_
 rintro _ w11 ⟨rfl,hb⟩;replace H:=H.later hb;clear hb
 refine bo H 2 (#[J ((ox co.a x.name e.ver n).2),J (0),.slice none 0 0]) aO Z Z Z Z Z N N fun w12 H=>U<|Zt ?_
 exact eM (cs0:= #[J ((ox co.a x.name e.ver n).2),J (0),.slice none 0 0]) Z aM Z (H.ent (i:=2) Z) Z ⟨ps,uP,co,clo,chi,xf w0 lo hi c3::F,by rw[if_neg hadd,hadd2];exact oF.plain _ _ _,by rw[if_neg hadd];rfl,row,rfl,ak _ hco,fun q hq=>ak _ (hps q hq),fun f hf=>ak _ hf,H.forget (cj [(b8,_),(b7,_),(b6,_)] _) (fun _ h=>h)⟩
 refine U<|ZF Z<|Zk<|Zr<|G (Yp Z)<|G (Zw av H 0 Z Z Z)<|G (aI Z)<|G (Zf aU Z)<|G (Zf ey Z)<|bo H 3 (#[.slice (Qd gP) ps.length pC,J (c3.clock),J (c3.next),J (c3.wait),.slice c3.A c3.txs.length c3.cap,J (gr.clock),J (gr.wait),J (gr.gen),.slice gr.mA gr.ms.length gr.mC,.slice gr.oA gr.os.length gr.oC,.slice (Qd gS) sns.length snC]) aF Z Z Z Z Z N N fun w13 H=>U ?_
 exact⟨(c3,_,_,_),⟨by rw[hac3];unfold rR;rw[if_pos hc21];rfl,by unfold rR;rw[if_pos hc21];exact(by simpa using h39:(ox co.a x.name e.ver n).2=0),az ..,fun f hf=>ak _ hf,H.forget (.cons _ (ap _)) (fun _ h=>h)⟩,vW,Qg⟩
 refine Zk ?_
 exact⟨(co,clo,chi,F),⟨by unfold rR;rw[if_neg (by rw[hc21];decide)],by unfold rR;rw[if_neg (by rw[hc21];decide)],hco,fun _ h=>h,H⟩,vW,Qg⟩
 rintro⟨c2,l2,h2,F2⟩ ρ1 w14 ⟨hc2,hok2,hco2,hF2,H⟩
 show CW _ _ _ _ (dC (gC _ _ ρ1) []) w14
 refine W ?_
 refine eE (τ:=Pa×Nat×Nat×Nat) [10,11,12,47,48,49,50,51,52,53,54,55,56,57,58,59,60] (fun(_,b10,_,_)=>[(10,.pointer (Qd b10)),(11,J (eA q.p.a e).2.1),(12,J (eA q.p.a e).2.2)]) (fun(p2,b10,lo,hi) w'=>p2.a=(eA q.p.a e).1/\Hp w0 w' ((b10,.cells #[J (p2.epoch),J (p2.leader),.slice p2.iA p2.isr.length p2.iC,.slice p2.kA p2.known.length p2.kC,.slice p2.rA p2.reps.length p2.rC,J (p2.few),J (p2.base)] bD (0,0))::(b7,.cells #[J (e.epoch),J (e.pid),J (e.ver),J (e.seq),J (e.kind),.bool (e.txn),.string (e.text)] dt (0,0))::(b6,.cells #[J (0),J (0),.slice none 0 0] d8 (0,0))::(bb,.cells #[.slice (Qd gP) ps.length pC,J (c2.clock),J (c2.next),J (c2.wait),.slice c2.A c2.txs.length c2.cap,J (gr.clock),J (gr.wait),J (gr.gen),.slice gr.mA gr.ms.length gr.mC,.slice gr.oA gr.os.length gr.oC,.slice (Qd gS) sns.length snC] bK (0,0))::(gP,.cells uP bD (0,0))::(gS,.cells uS fu (0,0))::(gq,.cells uq cW (0,0))::(gl,.cells ul dt (0,0))::R) (tg w0 lo hi p2::F2)) ?_ ?_
 refine oo bX 14 9 [9,10,11,12,13,15,16,17] [14] [0,1,2,3,5,6] [14,15,16,17] [9] [0,1,2,3,5,6,10,11,12,13] (sp [(14,Sp.blk w14.heap.size (.agg #[J 0,J 0,.slice none 0 0,.slice none 0 0,.slice none 0 0,J 0,J 0]) bD)]) (sp [(9,Sp.deep w14.heap.size O3 (fun p:Pa=>p.c.toArray) (fun cs=> .tuple #[.agg cs,J (eA q.p.a e).2.1,J (eA q.p.a e).2.2]) (fun cq:Pa=>cq.a=(eA q.p.a e).1))]) N N N N (cF _) (cF _) ?_ ?_
 refine jr [0,1,2,3,4,5,6,7,8,14] [9,10,11,12,13,15,16,17] [14] [0,1,2,3,5,6] 7 (sp [(14,Sp.blk w14.heap.size (.agg #[J 0,J 0,.slice none 0 0,.slice none 0 0,.slice none 0 0,J 0,J 0]) bD)]) N N N Nq<|aw Z Z Z Z Z (fun w' hw'=>Yp Z)<|aw Z Z Z Z Z (fun w' hw'=>aI Z)<|aw Z Z Z Z Z (fun w' hw'=>Zf aU Z)<|aw Z Z Z Z Z (fun w' hw'=>Zf dG Z)<|aw Z Z Z Z Z (fun w' hw'=>aT eg Z (aB ((H.later hw').ent (i:=2) Z) Z))<|aw Z Z Z Z Z (fun w' hw'=>Yi Z)<|aw Z Z Z Z Z (fun w' hw'=>cB ic Z Z (by first|omega|(simp only[ab];omega)))<|aw Z Z Z Z Z (fun w' hw'=>oH aG row hq Z Z ((H.later hw').ent (i:=3) Z))<|aw Z Z Z Z Z (fun w' hw'=>jw dD Z ((H.later hw').ent (i:=0) Z) Z)<|xb bp Z Z Z Z Z (fun w' hw'=>hw'.size) fun b10=>aR ?_
 intro w15 hw' hF
 obtain⟨hF,bq,eq,hge10,hbl10⟩:=hF;cases eq
 replace H:=H.adoptNew hw' hbl10 hge10
 clear hw' hF
 refine da 9 N Z<|cd qL (y2 q.p e _ (Hp.paM H (hF2 _ (hps q hqm))) (hpk q hqm).1 (hpk q hqm).2) Z Z ?_
 rintro _ w16 ⟨p2,rfl,hap2,hnp2⟩;replace H:=H.learn hnp2.2 (tg w0 w15.heap.size w16.heap.size p2) ⟨H.size,hnp2.1⟩ (ao _) (ao _);clear hnp2
 refine U<|bx 10 N N N Z Z Z Z Nq (fun _=>Yu Z)<|bx 11 N N N Z Z Z Z Nq (fun _=>Xa Z Z)<|bx 12 N N N Z Z Z Z Nq (fun _=>Xi Z Z)<|bx 13 N N N Z Z Z Z Nq (fun _=>Xi Z Z)<|da 15 N Z<|bo H 0 (#[J (p2.epoch),J (p2.leader),.slice p2.iA p2.isr.length p2.iC,.slice p2.kA p2.known.length p2.kC,.slice p2.rA p2.reps.length p2.rC,J (p2.few),J (p2.base)]) aK Z Z Z Z Z N N fun w17 H=>U<|bx 16 N N N Z Z Z Z Nq (fun _=>Wi Z)<|bx 17 N N N Z Z Z Z Nq (fun _=>Wi Z)<|cy N ?_
 exact⟨(p2,b10,_,_),⟨hap2,H⟩,Oz Z Z Z,Qg⟩
 refine jr [0,1,2,3,4,5,6,7,8,9,10,11,12,13] [14,15,16,17] [9] [0,1,2,3,5,6,10,11,12,13] 3 (sp [(9,Sp.deep w14.heap.size O3 (fun p:Pa=>p.c.toArray) (fun cs=> .tuple #[.agg cs,J (eA q.p.a e).2.1,J (eA q.p.a e).2.2]) (fun cq:Pa=>cq.a=(eA q.p.a e).1))]) N N N Nq<|aw Z Z Z Z Z (fun w' hw'=>Yp Z)<|aw Z Z Z Z Z (fun w' hw'=>aI Z)<|aw Z Z Z Z Z (fun w' hw'=>Zf aU Z)<|aw Z Z Z Z Z (fun w' hw'=>Zf dG Z)<|aw Z Z Z Z Z (fun w' hw'=>aT eg Z (aB ((H.later hw').ent (i:=2) Z) Z))<|aw Z Z Z Z Z (fun w' hw'=>Yi Z)<|aw Z Z Z Z Z (fun w' hw'=>cB ic Z Z (by first|omega|(simp only[ab];omega)))<|aw Z Z Z Z Z (fun w' hw'=>oH aG row hq Z Z ((H.later hw').ent (i:=3) Z))<|aw Z Z Z Z Z (fun w' hw'=>jw dD Z ((H.later hw').ent (i:=0) Z) Z)<|sK (gv:=(fun cs=> .tuple #[.agg cs,J (eA q.p.a e).2.1,J (eA q.p.a e).2.2])) qL Z Z Z Z Z (fun w' hw'=>hw'.size) (fun w' hw'=>y2 q.p e w' (Hp.paM (H.later hw') (hF2 _ (hps q hqm))) (hpk q hqm).1 (hpk q hqm).2) Z fun cs57=>aw Z Z Z Z Z (fun w' hw'=>Yu Z)<|aw Z Z Z Z Z (fun w' hw'=>Xa Z Z)<|aw Z Z Z Z Z (fun w' hw'=>Xi Z Z)<|aw Z Z Z Z Z (fun w' hw'=>Xi Z Z)<|aR ?_
 intro w18 hw' hF
 obtain⟨hF,p2,eq,hap2,hrd57⟩:=hF;cases eq
 replace H:=H.learn hw' (tg w0 w14.heap.size w18.heap.size p2) ⟨H.size,hrd57⟩ (ao _) (ao _)
 clear hw' hF
 refine da 14 N Z<|eH H bp Z fun w19 b10 H=>U<|da 15 N Z<|bo H 0 (#[J (p2.epoch),J (p2.leader),.slice p2.iA p2.isr.length p2.iC,.slice p2.kA p2.known.length p2.kC,.slice p2.rA p2.reps.length p2.rC,J (p2.few),J (p2.base)]) aK Z Z Z Z Z N N fun w20 H=>U<|bx 16 N N N Z Z Z Z Nq (fun _=>Wi Z)<|bx 17 N N N Z Z Z Z Nq (fun _=>Wi Z)<|cy N ?_
 exact⟨(p2,b10,_,_),⟨hap2,H⟩,Oz Z Z Z,Qg⟩
 rintro⟨p2,b10,lo,hi⟩ ρ1 w21 ⟨hap2,H⟩
 show CW _ _ _ _ (dC (gC _ _ ρ1) [(10,.pointer (Qd b10)),(11,J (eA q.p.a e).2.1),(12,J (eA q.p.a e).2.2)]) w21
 refine W<|W<|Zr<|G (Yi Z) ?_
 refine qm (iL Z Z) Z Z Z (fun h62=> ?_) (fun h62=> ?_)
 refine U<|ZT Z<|W<|Zr<|G (Yi Z)<|cd bN (dO (eA q.p.a e).2.2 _) Z Z ?_
 rintro _ w22 ⟨rfl,hb⟩;replace H:=H.later hb;clear hb
 refine bo H 2 (#[J ((eA q.p.a e).2.2),J (0),.slice none 0 0]) aO Z Z Z Z Z N N fun w23 H=>U<|Zt ?_
 exact eM (cs0:= #[J ((eA q.p.a e).2.2),J (0),.slice none 0 0]) Z aM Z (H.ent (i:=2) Z) Z ⟨ps,uP,c2,l2,h2,tg w0 lo hi p2::F2,by rw[if_pos hok2,hP,if_neg h62];exact oF.plain _ _ _,by rw[if_pos hok2,hP,if_neg h62,<-hc2];rfl,row,rfl,ak _ hco2,fun q hq=>ak _ (hF2 _ (hps q hq)),fun f hf=>ak _ (hF2 f hf),H.forget (cj [(b10,_),(b7,_),(b6,_)] _) (fun _ h=>h)⟩
 refine U<|ZF Z<|Zk<|W ?_
 refine bz bX [0,1,2,3,4,5,6,7] [8] [] [0,1,2,3,5,7] (sp []) N N N N Nq (cF _) ?_
 refine aw Z Z Z Z Z (fun w' hw'=>Yp Z)<|aw Z Z Z Z Z (fun w' hw'=>aI Z)<|aw Z Z Z Z Z (fun w' hw'=>Zf aU Z)<|aw Z Z Z Z Z (fun w' hw'=>Zf dG Z)<|aw Z Z Z Z Z (fun w' hw'=>aT eg Z (aB ((H.later hw').ent (i:=3) Z) Z))<|aw Z Z Z Z Z (fun w' hw'=>Yi Z)<|aw Z Z Z Z Z (fun w' hw'=>jw aG Z ((H.later hw').ent (i:=0) Z) Z)<|aw Z Z Z Z Z (fun w' hw'=>cB ic Z Z (by first|omega|(simp only[ab];omega)))<|aR ?_
 intro w24 hw' hF
 replace H:=H.later hw';clear hw' hF
 refine kH H 4 (⟨p2,lo,hi⟩) aK row hq 0 Z Z Z Z Z Z N fun w26 cur25 row25 H=> ?_
 have hs27:(ps.set n (⟨p2,lo,hi⟩))[n]? =some (⟨p2,lo,hi⟩):=am (cE hq).1
 refine U<|W<|Zr<|G (Yi Z)<|G (bi (cs:= #[J (0),J ((eA q.p.a e).2.1),.slice none 0 0]) iz dk N)<|bo H 2 (#[J (0),J ((eA q.p.a e).2.1),.slice none 0 0]) aO Z Z Z Z Z N N fun w28 H=>U<|Zt ?_
 have hz:(eA q.p.a e).2.2=0:=by simpa using h62
 have hz2:=hz
 exact eM (cs0:= #[J (0),J ((eA q.p.a e).2.1),.slice none 0 0]) Z aM Z (H.ent (i:=2) Z) Z ⟨ps.set n ⟨p2,lo,hi⟩,_,c2,l2,h2,tg w0 lo hi p2::F2,by rw[if_pos hok2,hP,if_pos hz];exact oF.plain _ _ _,by rw[if_pos hok2,hP,if_pos hz,<-hc2];simp only[cw,hap2],row25,ab ..,ak _ hco2,fun y hy=>by rcases zN hy with hy|hy;exact ak _ (hF2 _ (hps y hy));rw[hy];exact az ..,fun f hf=>ak _ (hF2 f hf),by rw[ab];exact H.forget (cj [(b10,_),(b7,_),(b6,_)] _) (fun _ h=>h)⟩
/-- an answer without texts -/
def OV (x:An) (v:Value):Prop:=x.texts=[]/\v=.agg #[J x.code,J x.n,.slice none 0 0]
theorem OV.r {x:An} {v:Value} (h:OV x v) (w:World):oF x v w:=by
 obtain⟨c,n,t⟩:=x
 obtain⟨h1,rfl⟩:=h
 dsimp only at h1
 subst h1
 exact oF.plain c n w
theorem FX (a:Act) (x:An) (w:World):dd aa u7 [a.v,.agg #[J x.code,J x.n,.slice none 0 0]] w fun v w2=>v=.agg #[J (fY a x).code,J (fY a x).n,.slice none 0 0]/\Below w.heap.size w w2:=
 (C4 a x.code x.n none 0 0 w).mono fun v w2 ⟨h1,h2⟩=>⟨by rw[h1];unfold fY;split<;>rfl,h2⟩
theorem lq (a:Act) {x:An} (hx:x.texts=[]):(fY a x).texts=[]:=by
 unfold fY
 split
 exact hx
 rfl
theorem zD (w:Wa) (n:Nat) (x:cN):(uE w n x).2.texts=[]:=by
 unfold uE
 split
 rfl
 split<;>rfl
theorem kc (w:Wa) (s:Sn) (n:Nat):(eh w s n).2.texts=[]:=by
 unfold eh
 split
 rfl
 split
 exact zD ..
 rfl
theorem oF.p {x:An} {v:Value} {w:World} (h:oF x v w) (hx:x.texts=[]): ∃ A c,v=.agg #[J x.code,J x.n,.slice A 0 c]:=by
 obtain⟨A,c,h1,-,-⟩:=h
 rw[hx]at h1
 exact⟨A,c,h1⟩
theorem zA {b:Bk} {a:Act} {ag:Bool} (hix:ff b.sns a.name=none):mS b.a a ag=(b.a,⟨5,0,[]⟩):=by
 unfold mS
 rw[show b.a.sns=b.sns.map Sn.a from rfl,C8 hix]
 rfl
theorem zB {b:Bk} {a:Act} {i:Nat} {x:Sn} {e:cN} (hix:ff b.sns a.name=some i) (hx:b.sns[i]? =some x) (he:x.last[a.part.toNat]? =some e) (hk:e.kind=0):mS b.a a true=(b.a,⟨15,0,[]⟩):=by
 unfold mS
 rw[show b.a.sns=b.sns.map Sn.a from rfl,wh hix hx]
 dsimp only
 rw[if_pos ⟨rfl,by rw[bW,show x.a.last=x.last from rfl,he];exact hk⟩]
 rfl
theorem nT {b:Bk} {a:Act} {i:Nat} {x:Sn} {ag:Bool} (hix:ff b.sns a.name=some i) (hx:b.sns[i]? =some x) (hk:ag=true-> ∃ e,x.last[a.part.toNat]? =some e/\e.kind≠0) (s1:Sn) (hs:(if ag then x else pP x a.part.toNat a.text)=s1):mS b.a a ag=if a.lost=1 then({b.a with sns:=(b.sns.set i s1).map Sn.a},⟨14,0,[]⟩)else((eh {b.a with sns:=(b.sns.set i s1).map Sn.a} s1.a a.part.toNat).1,fY a (eh {b.a with sns:=(b.sns.set i s1).map Sn.a} s1.a a.part.toNat).2):=by
 subst hs
 unfold mS
 rw[show b.a.sns=b.sns.map Sn.a from rfl,wh hix hx]
 dsimp only
 rw[if_neg (fun h=>by
  obtain⟨e,he,hne⟩:=hk h.1
  have h2:=h.2
  rw[bW,show x.a.last=x.last from rfl,he]at h2
  exact hne h2)]
 have:(if ag=true then x.a else pP x.a a.part.toNat a.text)=(if ag=true then x else pP x a.part.toNat a.text).a:=by split<;>rfl
 rw[this,cw]
 rfl
theorem uo {x:Sn} {n:Nat} {q:Int} (h:x.seqs[n]? =some q) (t:ByteArray):pP x n t={x with last:=x.last.set n ⟨0,x.pid,x.ver,q,1,x.inn,t⟩,seqs:=x.seqs.set n (q+1)}:=by
 unfold pP
 rw[bW,h]
 rfl
theorem dT.same {α:Type} {Y:fg α} {es:List α} {c k:Nat} {cur:Array Value} {e e':α} (h:dT Y es c cur) (hk:es[k]? =some e) (he:Y.f e'=Y.f e):dT Y (es.set k e') c cur:=by
 refine⟨h.size,?_,by rw[ab];exact h.le,h.max⟩
 rw[ab,h.all]
 unfold fg.all
 have:(es.set k e').map Y.f=es.map Y.f:=by rw[cw,he];exact eW (by rw[aL,hk];rfl)
 simp only[List.flatMap_def,this]
theorem Ir {w0 w:World} {bb:Nat} {b:Bk} {gP:Nat} {uP:Array Value} {Ls Lo K:List (Nat×Obj)} {F:List cr} (a:Act) (B:Bw w0 w bb b gP uP Ls Lo K F) (hsl:b.sns.length<=1000000) (ag:Bool) (hix:ff b.sns a.name=none):dd aa iO [.pointer (Qd bb),a.v,.bool ag] w fun v w2=> ∃ b':Bk,oF (mS b.a a ag).2 v w2/\b'.a=(mS b.a a ag).1/\xg w0 w2 bb b' K F:=by
 refine aD jH Z Z ?_
 obtain⟨ps,pA,pC,co,clo,chi,gr,glo,ghi,sns,snA,snC⟩:=b
 obtain⟨hpA,row,hsn,hown,hco,hgr,hps,H⟩:=B
 dsimp only at hpA row hsn hown hco hgr hps
 subst hpA
 replace H:Hp w0 w ((bb,.cells #[.slice (Qd gP) ps.length pC,J (co.clock),J (co.next),J (co.wait),.slice co.A co.txs.length co.cap,J (gr.clock),J (gr.wait),J (gr.gen),.slice gr.mA gr.ms.length gr.mC,.slice gr.oA gr.os.length gr.oC,.slice snA sns.length snC] bK (0,0))::(gP,.cells uP bD (0,0))::(Ls++(Lo++K))) F:=H
 dsimp only at hix hsl
 show CW _ _ _ _ (args [.pointer (Qd bb),.agg #[J (a.kind),.string (a.name),J (a.part),J (a.n),J (a.m),.string (a.text),J (a.lost)],.bool ag]) w
 refine W<|Zr<|fQ H Z Z fun w1 b4 H=>eH H dk Z fun w2 b6 H=>U<|W<|Zr<|G (Yp Z)<|G (Zf eZ Z)<|G (Zd aY H 1 Z Z Z)<|cd dx (jk bb ⟨ps,some ⟨gP,0,none⟩,pC,co,clo,chi,gr,glo,ghi,sns,snA,snC⟩ (a.name) Ls _ (H.ent (i:=2) Z) hsn (fun q hq=>(H.ents q (by simp only[ax,au];grind)).1) hsl) Z Z ?_
 rintro _ w3 ⟨rfl,hb⟩;replace H:=H.later hb;clear hb
 rw[hix]
 refine G (Wp Z)<|U<|W<|Zb<|W<|Zr<|G (Yp Z)<|G (xr iJ Z)<|G (Yb Z)<|ZN<|ZN<|ZN<|ZN<|ZN<|G (Kt Z Z)<|G (Wb Z)<|U<|ZT Z<|W<|Zr<|cd bN (dO 5 _) Z Z ?_
 rintro _ w4 ⟨rfl,hb⟩;replace H:=H.later hb;clear hb
 refine bo H 0 (#[J (5),J (0),.slice none 0 0]) aO Z Z Z Z Z N N fun w5 H=>U<|Zt ?_
 exact eM (cs0:= #[J (5),J (0),.slice none 0 0]) Z aM Z (H.ent (i:=0) Z) Z ⟨⟨ps,some ⟨gP,0,none⟩,pC,co,clo,chi,gr,glo,ghi,sns,snA,snC⟩,by rw[zA hix];exact oF.plain _ _ _,by rw[zA hix],Bw.shut (X:=[(b6,_),(b4,_)]) row hsn hown hco hgr hps (fun _ h=>h) H Z⟩
theorem JP {a:Act} {x:An} {A:Option Addr} {c:Nat} {v:Value} (h:v=if a.lost=0 then .agg #[J x.code,J x.n,.slice A 0 c]else .agg #[J 14,J 0,.slice none 0 0]): ∃ A2 c2,v=.agg #[J (fY a x).code,J (fY a x).n,.slice A2 0 c2]:=by
 unfold fY
 split at h
 rename_i h0;rw[if_pos h0];exact⟨_,_,h⟩
 rename_i h0;rw[if_neg h0];exact⟨_,_,h⟩
theorem oF.of {x:An} {A:Option Addr} {c:Nat} {w:World} (hx:x.texts=[]):oF x (.agg #[J x.code,J x.n,.slice A 0 c]) w:=⟨A,c,by rw[hx];rfl,by rw[hx];exact bG _,by rw[hx];exact Rd.nil⟩
theorem Gc {w0 w:World} {bb:Nat} {b:Bk} {gP:Nat} {uP:Array Value} {Ls Lo K:List (Nat×Obj)} {F:List cr} (a:Act) (B:Bw w0 w bb b gP uP Ls Lo K F) (hsl:b.sns.length<=1000000) {k i:Nat} {x:Sn} (hix:ff b.sns a.name=some i) (hx:b.sns[i]? =some x) (hpn:0<=a.part/\a.part<b.ps.length) (hlo:0<=a.lost/\a.lost<=2) (hll:x.last.length=b.ps.length) (hsq:x.seqs.length=b.ps.length) (h4:b.ps.length<=4) (hnm:bM x.name=true) (hcb:oE k b.co) (hpk: ∀ q∈b.ps,q.p.a.ok/\ ∀ (l:Nat) (y:fb),q.p.leader=l->q.p.reps[l]? =some y->y.es.length<400):dd aa iO [.pointer (Qd bb),a.v,.bool true] w fun v w2=> ∃ b':Bk,oF (mS b.a a true).2 v w2/\b'.a=(mS b.a a true).1/\xg w0 w2 bb b' K F:=by
 refine aD jH Z Z ?_
 obtain⟨ps,pA,pC,co,clo,chi,gr,glo,ghi,sns,snA,snC⟩:=b
 obtain⟨hpA,row,hsn,hown,hco,hgr,hps,H⟩:=B
 dsimp only at hpA row hsn hown hco hgr hps
 subst hpA
 dsimp only at hix hx
 obtain⟨gS,uS,hgS,hLs,rowS⟩:=hsn.row (by have:=(cE hx).1;omega)
 subst hgS;subst hLs
 obtain⟨gq,uq,gl,ul,La,Lb,hsA,hlA,rowq,rowl,hLo,hset⟩:=hown.at_ hx
 subst hLo
 replace H:Hp w0 w ((bb,.cells #[.slice (Qd gP) ps.length pC,J (co.clock),J (co.next),J (co.wait),.slice co.A co.txs.length co.cap,J (gr.clock),J (gr.wait),J (gr.gen),.slice gr.mA gr.ms.length gr.mC,.slice gr.oA gr.os.length gr.oC,.slice (Qd gS) sns.length snC] bK (0,0))::(gP,.cells uP bD (0,0))::(gS,.cells uS fu (0,0))::(gq,.cells uq cW (0,0))::(gl,.cells ul dt (0,0))::(La++(Lb++K))) F:=H.perm (Cz [(bb,_),(gP,_),(gS,_)] _ _ La Lb K)
 dsimp only at hsl hpn hll hsq h4 hcb hpk
 obtain⟨n,hna⟩: ∃ n:Nat,a.part=(n:Int):=⟨a.part.toNat,by omega⟩
 have htn:a.part.toNat=n:=by omega
 have hl5:(zr.f x)[5]? =some (.slice (some ⟨gl,0,none⟩) x.last.length x.lC):=by rw[<-hlA];rfl
 have hl4:(zr.f x)[4]? =some (.slice (some ⟨gq,0,none⟩) x.seqs.length x.sC):=by rw[<-hsA];rfl
 obtain⟨e,he⟩: ∃ e,x.last[n]? =some e:=⟨_,ah I⟩
 have rS2:dT zr (sns.set i x) snC uS:=by rw[eW hx];exact rowS
 show CW _ _ _ _ (args [.pointer (Qd bb),.agg #[J (a.kind),.string (a.name),J (a.part),J (a.n),J (a.m),.string (a.text),J (a.lost)],.bool true]) w
 refine W<|Zr<|fQ H Z Z fun w1 b4 H=>eH H dk Z fun w2 b6 H=>U<|W<|Zr<|G (Yp Z)<|G (Zf eZ Z)<|G (Zd aY H 1 Z Z Z)<|cd dx (jk bb ⟨ps,some ⟨gP,0,none⟩,pC,co,clo,chi,gr,glo,ghi,sns,some ⟨gS,0,none⟩,snC⟩ (a.name) _ _ (H.ent (i:=2) Z) (dT.own rowS) (fun q hq=>by rw[aq.1 hq];exact(H.ent (i:=4) Z)) hsl) Z Z ?_
 rintro _ w3 ⟨rfl,hb⟩;replace H:=H.later hb;clear hb
 rw[hix]
 refine G (Wp Z)<|U<|W<|Zb<|W<|Zr<|G (Yp Z)<|G (vC iJ Z)<|G (Yb Z)<|ZG<|G (Yp Z)<|ZG<|G (Zf dQ Z)<|ZG<|G (Zd aj H 1 Z Z Z)<|ZG<|cd dV (nV bb ⟨ps,some ⟨gP,0,none⟩,pC,co,clo,chi,gr,glo,ghi,sns,some ⟨gS,0,none⟩,snC⟩ a.part _ (H.ent (i:=2) Z)) Z Z ?_
 rintro _ w4 ⟨rfl,hb⟩;replace H:=H.later hb;clear hb
 rw[decide_eq_true hpn]
 refine ZG<|G (dK Z)<|G (N Z Z)<|G (Wb Z)<|U<|ZF Z<|W<|Zr<|G (Zf jy Z)<|G (Zd aj H 1 Z Z Z)<|G (cY Z Z I)<|G (Yb Z)<|ZG<|G (Zf jy Z)<|ZG<|G (Zd aj H 1 Z Z Z)<|ZG<|G (en Z Z I)<|G (N Z Z)<|G (Wb Z)<|U<|ZF Z<|W ?_
 refine bz bX [0,1,2,3,4,5,6,7,8,9,10,11,12,13] [] [] [0,1,2,3,4,6,8,9,11,12,13] (sp []) N N N N Nq (cF _) ?_
 refine aw Z Z Z Z Z (fun w' hw'=>Yb Z)<|aw Z Z Z Z Z (fun w' hw'=>Yb Z)<|aw Z Z Z Z Z (fun w' hw'=>Yp Z)<|aw Z Z Z Z Z (fun w' hw'=>aI Z)<|aw Z Z Z Z Z (fun w' hw'=>Zf lQ Z)<|aw Z Z Z Z Z (fun w' hw'=>bP m4 rowS hx 5 Z ((H.later hw').ent (i:=4) Z) hl5)<|aw Z Z Z Z Z (fun w' hw'=>Zf dQ Z)<|aw Z Z Z Z Z (fun w' hw'=>aT aj Z (aB ((H.later hw').ent (i:=1) Z) Z))<|aw Z Z Z Z Z (fun w' hw'=>cB (k:=n) dR Z (congrArg (Value.int .i64) hna) (by first|omega|(simp only[ab];omega)))<|aw Z Z Z Z Z (fun w' hw'=>Zf eX Z)<|aw Z Z Z Z Z (fun w' hw'=>bP aj rowl he 4 Z ((H.later hw').ent (i:=6) Z) Z) ?_
 refine Bd Z Z Z Z Z (fun w' hw'=>bl Z Z) (fun h45=> ?_) (fun h45=> ?_)
 ·
  refine aw Z Z Z Z Z (fun w' hw'=>Kt Z Z)<|aw Z Z Z Z Z (fun w' hw'=>Wb Z)<|aR ?_
  intro w5 hw' hF
  replace H:=H.later hw';clear hw' hF
  refine U<|ZT Z<|W<|Zr<|cd bN (dO 15 _) Z Z ?_
  rintro _ w6 ⟨rfl,hb⟩;replace H:=H.later hb;clear hb
  refine bo H 0 (#[J (15),J (0),.slice none 0 0]) aO Z Z Z Z Z N N fun w7 H=>U<|Zt ?_
  rw[<-htn]at he
  exact eM (cs0:= #[J (15),J (0),.slice none 0 0]) Z aM Z (H.ent (i:=0) Z) Z ⟨⟨ps,some ⟨gP,0,none⟩,pC,co,clo,chi,gr,glo,ghi,sns.set i x,some ⟨gS,0,none⟩,snC⟩,by rw[zB hix hx he h45];exact oF.plain _ _ _,by rw[zB hix hx he h45,eW hx],Bw.close (X:=[(b6,_),(b4,_)]) row (by rw[eW hx];exact rowS) hset hsA hlA rowq rowl hco hgr hps (fun _ h=>h) H (by rw[eW hx];rfl)⟩
 ·
  refine aw Z Z Z Z Z (fun w' hw'=>Kt Z Z)<|aw Z Z Z Z Z (fun w' hw'=>Wb Z)<|aR ?_
  intro w8 hw' hF
  replace H:=H.later hw';clear hw' hF
  refine U<|ZF Z<|W<|Zr<|G (Yb Z)<|G (dK Z)<|G (Yb Z)<|ZN<|ZN<|ZN<|ZN<|G (N Z Z)<|G (Wb Z)<|U<|ZF Z<|Zk<|W<|W<|Zr<|G (Yb Z)<|G (dK Z)<|U<|ZF Z<|Zk<|W<|W<|Zr<|G (Zf jy Z)<|G (Zd aj H 1 Z Z Z) ?_
  refine cT (bl Z Z) Z Z Z (fun h102=> ?_) (fun h102=> ?_)
  ·
   refine U<|ZT Z<|W<|Zr<|cd bN (dO 14 _) Z Z ?_
   rintro _ w9 ⟨rfl,hb⟩;replace H:=H.later hb;clear hb
   refine bo H 0 (#[J (14),J (0),.slice none 0 0]) aO Z Z Z Z Z N N fun w10 H=>U<|Zt ?_
   exact eM (cs0:= #[J (14),J (0),.slice none 0 0]) Z aM Z (H.ent (i:=0) Z) Z ⟨⟨ps,some ⟨gP,0,none⟩,pC,co,clo,chi,gr,glo,ghi,sns.set i x,some ⟨gS,0,none⟩,snC⟩,by rw[nT hix hx (fun _=>⟨e,by rw[htn];exact he,h45⟩) x Z,if_pos h102];exact oF.plain _ _ _,by rw[nT hix hx (fun _=>⟨e,by rw[htn];exact he,h45⟩) x Z,if_pos h102];rfl,Bw.close (X:=[(b6,_),(b4,_)]) row rS2 hset hsA hlA rowq rowl hco hgr hps (fun _ h=>h) H (by simp only[Bk.c,ab])⟩
  ·
   refine U<|ZF Z<|Zk<|W ?_
   refine pD bX (fun w'=>w'.heap[b4]? =some (.cells #[J (a.kind),.string (a.name),J (a.part),J (a.n),J (a.m),.string (a.text),J (a.lost)] fZ (0,0))) ?_
   intro w11 hw';replace H:=H.later hw';clear hw'
   refine bc 0 N N N Z Z Z Z Nq (H.ent (i:=1) Z) (fun _ hS=>jw dN Z hS Z)<|bc 1 N N N Z Z Z Z Nq (H.ent (i:=1) Z) (fun _ hS=>Yp Z)<|bc 2 N N N Z Z Z Z Nq (H.ent (i:=1) Z) (fun _ hS=>Yp Z)<|bc 3 N N N Z Z Z Z Nq (H.ent (i:=1) Z) (fun _ hS=>Zf dQ Z)<|bc 4 N N N Z Z Z Z Nq (H.ent (i:=1) Z) (fun _ hS=>aT aj Z (aB hS Z))<|v8 5 N Z ?_
   refine cd la ((by have hA:=AF (i:=i) (n:=n) (k:=k) (sns:=sns.set i x) (x:=x) (by simp only[ab];exact H.perm ((ai _ (ai _ (ai _ (ai _ (al _ _ _))))).trans ((ai _ (ai _ (ai _ (al _ _ _)))).trans ((ai _ (ai _ (al _ _ _))).trans ((ai _ (al _ _ _)).trans ((al _ _ _).trans ((ai _ (ai _ (ai _ (ai _ (ai _ (al _ _ _)))))).trans ((ai _ (ai _ (ai _ (ai _ (al _ _ _))))).trans ((ai _ (ai _ (ai _ (al _ _ _)))).trans ((ai _ (ai _ (al _ _ _))).trans (ai _ (al _ _ _)))))))))))) row rS2 rowl (am (cE hx).1) hlA hco hps I I I hnm hcb hpk;rw[<-hna]at hA;exact hA)) Z Z ?_
   rintro _ w12 ⟨ps',uP',co',clo',chi',F',hAn,hW,row',hlen',hco',hps',hF',H⟩
   replace H:=H.perm ((ai _ (al _ _ _)).trans ((al _ _ _).trans ((ai _ (ai _ (al _ _ _))).trans ((ai _ (al _ _ _)).trans ((ai _ (ai _ (ai _ (al _ _ _)))).trans ((ai _ (ai _ (al _ _ _))).trans ((ai _ (ai _ (ai _ (ai _ (al _ _ _))))).trans ((ai _ (ai _ (ai _ (al _ _ _)))).trans ((ai _ (ai _ (ai _ (ai _ (ai _ (al _ _ _)))))).trans (ai _ (ai _ (ai _ (ai _ (al _ _ _))))))))))))))
   obtain⟨A1,c1,rfl⟩:=hAn.p (kc ..)
   refine U ?_
   refine⟨(H.ent (i:=1) Z),?_⟩
   refine v8 6 N Z<|cd ki (C4 a (eh (Wa.mk (ps.map fun q=>q.p.a) co.a gr.a ((sns.set i x).map Sn.a)) x.a n).2.code (eh (Wa.mk (ps.map fun q=>q.p.a) co.a gr.a ((sns.set i x).map Sn.a)) x.a n).2.n A1 0 c1 _) Z Z ?_
   rintro _ w13 ⟨ht,hb⟩;replace H:=H.later hb;clear hb
   obtain⟨A2,c2,rfl⟩:=JP ht
   refine U ?_
   refine⟨(H.ent (i:=1) Z),?_⟩
   refine v8 7 N Z<|bo H 0 (#[J ((fY a (eh (Wa.mk (ps.map fun q=>q.p.a) co.a gr.a ((sns.set i x).map Sn.a)) x.a n).2).code),J ((fY a (eh (Wa.mk (ps.map fun q=>q.p.a) co.a gr.a ((sns.set i x).map Sn.a)) x.a n).2).n),.slice A2 0 c2]) aO Z Z Z Z Z N N fun w14 H=>U ?_
   refine⟨(H.ent (i:=1) Z),?_⟩
   refine m0 N<|Zt ?_
   exact eM (cs0:= #[J ((fY a (eh (Wa.mk (ps.map fun q=>q.p.a) co.a gr.a ((sns.set i x).map Sn.a)) x.a n).2).code),J ((fY a (eh (Wa.mk (ps.map fun q=>q.p.a) co.a gr.a ((sns.set i x).map Sn.a)) x.a n).2).n),.slice A2 0 c2]) Z aM Z (H.ent (i:=0) Z) Z ⟨⟨ps',some ⟨gP,0,none⟩,pC,co',clo',chi',gr,glo,ghi,sns.set i x,some ⟨gS,0,none⟩,snC⟩,by rw[nT hix hx (fun _=>⟨e,by rw[htn];exact he,h45⟩) x Z,if_neg h102,htn];exact oF.of (lq _ (kc ..)),by rw[nT hix hx (fun _=>⟨e,by rw[htn];exact he,h45⟩) x Z,if_neg h102,htn];exact hW.symm,Bw.close (X:=[(b6,_),(b4,_)]) row' rS2 hset hsA hlA rowq rowl hco' (hF' _ hgr) hps' hF' H (by simp only[Bk.c,ab])⟩
theorem J6 {w0 w:World} {bb:Nat} {b:Bk} {gP:Nat} {uP:Array Value} {Ls Lo K:List (Nat×Obj)} {F:List cr} (a:Act) (B:Bw w0 w bb b gP uP Ls Lo K F) (hsl:b.sns.length<=1000000) {k i:Nat} {x:Sn} (hix:ff b.sns a.name=some i) (hx:b.sns[i]? =some x) (hpn:0<=a.part/\a.part<b.ps.length) (hlo:0<=a.lost/\a.lost<=2) (hll:x.last.length=b.ps.length) (hsq:x.seqs.length=b.ps.length) (h4:b.ps.length<=4) (hnm:bM x.name=true) (hcb:oE k b.co) (hpk: ∀ q∈b.ps,q.p.a.ok/\ ∀ (l:Nat) (y:fb),q.p.leader=l->q.p.reps[l]? =some y->y.es.length<400) (htx:a.text.size<=40) (hsb: ∀ q∈x.seqs,0<=q/\q<=400):dd aa iO [.pointer (Qd bb),a.v,.bool false] w fun v w2=> ∃ b':Bk,oF (mS b.a a false).2 v w2/\b'.a=(mS b.a a false).1/\xg w0 w2 bb b' K F:=by
 refine aD jH Z Z ?_
 obtain⟨ps,pA,pC,co,clo,chi,gr,glo,ghi,sns,snA,snC⟩:=b
 obtain⟨hpA,row,hsn,hown,hco,hgr,hps,H⟩:=B
 dsimp only at hpA row hsn hown hco hgr hps
 subst hpA
 dsimp only at hix hx
 obtain⟨gS,uS,hgS,hLs,rowS⟩:=hsn.row (by have:=(cE hx).1;omega)
 subst hgS;subst hLs
 obtain⟨gq,uq,gl,ul,La,Lb,hsA,hlA,rowq,rowl,hLo,hset⟩:=hown.at_ hx
 subst hLo
 replace H:Hp w0 w ((bb,.cells #[.slice (Qd gP) ps.length pC,J (co.clock),J (co.next),J (co.wait),.slice co.A co.txs.length co.cap,J (gr.clock),J (gr.wait),J (gr.gen),.slice gr.mA gr.ms.length gr.mC,.slice gr.oA gr.os.length gr.oC,.slice (Qd gS) sns.length snC] bK (0,0))::(gP,.cells uP bD (0,0))::(gS,.cells uS fu (0,0))::(gq,.cells uq cW (0,0))::(gl,.cells ul dt (0,0))::(La++(Lb++K))) F:=H.perm (Cz [(bb,_),(gP,_),(gS,_)] _ _ La Lb K)
 dsimp only at hsl hpn hll hsq h4 hcb hpk
 obtain⟨n,hna⟩: ∃ n:Nat,a.part=(n:Int):=⟨a.part.toNat,by omega⟩
 have htn:a.part.toNat=n:=by omega
 have hl5:(zr.f x)[5]? =some (.slice (some ⟨gl,0,none⟩) x.last.length x.lC):=by rw[<-hlA];rfl
 have hl4:(zr.f x)[4]? =some (.slice (some ⟨gq,0,none⟩) x.seqs.length x.sC):=by rw[<-hsA];rfl
 obtain⟨e,he⟩: ∃ e,x.last[n]? =some e:=⟨_,ah I⟩
 obtain⟨q,hq0⟩: ∃ q,x.seqs[n]? =some q:=⟨_,ah I⟩
 have hqb:=hsb q (ae hq0)
 show CW _ _ _ _ (args [.pointer (Qd bb),.agg #[J (a.kind),.string (a.name),J (a.part),J (a.n),J (a.m),.string (a.text),J (a.lost)],.bool false]) w
 refine W<|Zr<|fQ H Z Z fun w1 b4 H=>eH H dk Z fun w2 b6 H=>U<|W<|Zr<|G (Yp Z)<|G (Zf eZ Z)<|G (Zd aY H 1 Z Z Z)<|cd dx (jk bb ⟨ps,some ⟨gP,0,none⟩,pC,co,clo,chi,gr,glo,ghi,sns,some ⟨gS,0,none⟩,snC⟩ (a.name) _ _ (H.ent (i:=2) Z) (dT.own rowS) (fun q hq=>by rw[aq.1 hq];exact(H.ent (i:=4) Z)) hsl) Z Z ?_
 rintro _ w3 ⟨rfl,hb⟩;replace H:=H.later hb;clear hb
 rw[hix]
 refine G (Wp Z)<|U<|W<|Zb<|W<|Zr<|G (Yp Z)<|G (vC iJ Z)<|G (Yb Z)<|ZG<|G (Yp Z)<|ZG<|G (Zf dQ Z)<|ZG<|G (Zd aj H 1 Z Z Z)<|ZG<|cd dV (nV bb ⟨ps,some ⟨gP,0,none⟩,pC,co,clo,chi,gr,glo,ghi,sns,some ⟨gS,0,none⟩,snC⟩ a.part _ (H.ent (i:=2) Z)) Z Z ?_
 rintro _ w4 ⟨rfl,hb⟩;replace H:=H.later hb;clear hb
 rw[decide_eq_true hpn]
 refine ZG<|G (dK Z)<|G (N Z Z)<|G (Wb Z)<|U<|ZF Z<|W<|Zr<|G (Zf jy Z)<|G (Zd aj H 1 Z Z Z)<|G (cY Z Z I)<|G (Yb Z)<|ZG<|G (Zf jy Z)<|ZG<|G (Zd aj H 1 Z Z Z)<|ZG<|G (en Z Z I)<|G (N Z Z)<|G (Wb Z)<|U<|ZF Z<|W ?_
 refine bz bX [0,1,2,3,4,5,6,7,8,9,10,11,12,13] [] [] [0,1,2,3,4,6,8,9,11,12,13] (sp []) N N N N Nq (cF _) ?_
 refine aw Z Z Z Z Z (fun w' hw'=>Yb Z)<|aw Z Z Z Z Z (fun w' hw'=>Yb Z)<|eO Z Z Z Z<|eO Z Z Z Z<|eO Z Z Z Z<|eO Z Z Z Z<|eO Z Z Z Z<|eO Z Z Z Z<|eO Z Z Z Z<|eO Z Z Z Z<|eO Z Z Z Z<|eO Z Z Z Z<|aw Z Z Z Z Z (fun w' hw'=>N Z Z)<|aw Z Z Z Z Z (fun w' hw'=>Wb Z)<|aR ?_
 intro w5 hw' hF
 replace H:=H.later hw';clear hw' hF
 refine U<|ZF Z<|W<|Zr<|G (Yb Z)<|G (dK Z)<|G (Yb Z)<|ZG<|G (Zf AB Z)<|ZG<|G (Zd aY H 1 Z Z Z)<|ZG<|G (GF ji Z)<|ZG<|G (en Z Z I)<|G (Kt Z Z)<|G (Wb Z)<|U<|ZF Z<|Zk<|W<|W<|Zr<|G (Yb Z)<|G (dK Z)<|U<|ZT Z<|W ?_
 refine bz bX [0,1,2,3,4,5,6,7,8,9,10,11,12,13,14,15,16,17,18,19,20,21,22,23,24,25,26,27,28,29] [30] [] [0,1,2,4,6,7,8,10,11,12,14,15,16,18,20,22,23,24,26,28,29] (sp []) N N N N Nq (cF _) ?_
 refine aw Z Z Z Z Z (fun w' hw'=>Yp Z)<|aw Z Z Z Z Z (fun w' hw'=>aI Z)<|aw Z Z Z Z Z (fun w' hw'=>Zf lQ Z)<|aw Z Z Z Z Z (fun w' hw'=>bP m4 rowS hx 5 Z ((H.later hw').ent (i:=4) Z) hl5)<|aw Z Z Z Z Z (fun w' hw'=>Zf dQ Z)<|aw Z Z Z Z Z (fun w' hw'=>aT aj Z (aB ((H.later hw').ent (i:=1) Z) Z))<|aw Z Z Z Z Z (fun w' hw'=>Yp Z)<|aw Z Z Z Z Z (fun w' hw'=>aI Z)<|aw Z Z Z Z Z (fun w' hw'=>Zf Fx Z)<|aw Z Z Z Z Z (fun w' hw'=>bP aj rowS hx 1 Z ((H.later hw').ent (i:=4) Z) Z)<|aw Z Z Z Z Z (fun w' hw'=>Yp Z)<|aw Z Z Z Z Z (fun w' hw'=>aI Z)<|aw Z Z Z Z Z (fun w' hw'=>Zf tS Z)<|aw Z Z Z Z Z (fun w' hw'=>bP aj rowS hx 2 Z ((H.later hw').ent (i:=4) Z) Z)<|aw Z Z Z Z Z (fun w' hw'=>Yp Z)<|aw Z Z Z Z Z (fun w' hw'=>aI Z)<|aw Z Z Z Z Z (fun w' hw'=>Zf yu Z)<|aw Z Z Z Z Z (fun w' hw'=>bP cn rowS hx 4 Z ((H.later hw').ent (i:=4) Z) hl4)<|aw Z Z Z Z Z (fun w' hw'=>Zf dQ Z)<|aw Z Z Z Z Z (fun w' hw'=>aT aj Z (aB ((H.later hw').ent (i:=1) Z) Z))<|aw Z Z Z Z Z (fun w' hw'=>cB (k:=n) aZ Z (congrArg (Value.int .i64) hna) (by first|omega|(simp only[ab];omega)))<|aw Z Z Z Z Z (fun w' hw'=>bP aj rowq hq0 0 Z ((H.later hw').ent (i:=5) Z) Z)<|aw Z Z Z Z Z (fun w' hw'=>Yp Z)<|aw Z Z Z Z Z (fun w' hw'=>aI Z)<|aw Z Z Z Z Z (fun w' hw'=>Zf og Z)<|aw Z Z Z Z Z (fun w' hw'=>bP dP rowS hx 3 Z ((H.later hw').ent (i:=4) Z) Z)<|aw Z Z Z Z Z (fun w' hw'=>Zf AB Z)<|aw Z Z Z Z Z (fun w' hw'=>aT aY Z (aB ((H.later hw').ent (i:=1) Z) Z))<|aw Z Z Z Z Z (fun w' hw'=>bi (cs:= #[J (0),J (x.pid),J (x.ver),J (q),J (1),.bool (x.inn),.string (a.text)]) nR f7 N)<|aw Z Z Z Z Z (fun w' hw'=>cB (k:=n) dR Z (congrArg (Value.int .i64) hna) (by first|omega|(simp only[ab];omega)))<|aR ?_
 intro w6 hw' hF
 replace H:=H.later hw';clear hw' hF
 refine kH H 6 (⟨0,x.pid,x.ver,q,1,x.inn,a.text⟩) eQ rowl he 0 Z Z Z Z Z Z N fun w8 cur7 row7 H=> ?_
 have hs9:(x.last.set n (⟨0,x.pid,x.ver,q,1,x.inn,a.text⟩))[n]? =some (⟨0,x.pid,x.ver,q,1,x.inn,a.text⟩):=am (cE he).1
 refine U ?_
 refine bz bX [0,1,2,3,4,5,6,7,8,9] [10] [] [0,1,2,4,6,8,9] (sp []) N N N N Nq (cF _) ?_
 refine aw Z Z Z Z Z (fun w' hw'=>Yp Z)<|aw Z Z Z Z Z (fun w' hw'=>aI Z)<|aw Z Z Z Z Z (fun w' hw'=>Zf yu Z)<|aw Z Z Z Z Z (fun w' hw'=>bP cn rowS hx 4 Z ((H.later hw').ent (i:=4) Z) hl4)<|aw Z Z Z Z Z (fun w' hw'=>Zf dQ Z)<|aw Z Z Z Z Z (fun w' hw'=>aT aj Z (aB ((H.later hw').ent (i:=1) Z) Z))<|aw Z Z Z Z Z (fun w' hw'=>cB (k:=n) aZ Z (congrArg (Value.int .i64) hna) (by first|omega|(simp only[ab];omega)))<|aw Z Z Z Z Z (fun w' hw'=>bP aj rowq hq0 0 Z ((H.later hw').ent (i:=5) Z) Z)<|aw Z Z Z Z Z (fun w' hw'=>br Z Z I I)<|aw Z Z Z Z Z (fun w' hw'=>cB (k:=n) aZ Z (congrArg (Value.int .i64) hna) (by first|omega|(simp only[ab];omega)))<|aR ?_
 intro w10 hw' hF
 replace H:=H.later hw';clear hw' hF
 refine kH H 5 ((q+1)) bI rowq hq0 0 Z Z Z Z Z Z N fun w12 cur11 row11 H=> ?_
 have hs13:(x.seqs.set n ((q+1)))[n]? =some ((q+1)):=am (cE hq0).1
 refine U<|W<|W ?_
 obtain⟨x1,hx1⟩: ∃ x1:Sn,{x with last:=x.last.set n ⟨0,x.pid,x.ver,q,1,x.inn,a.text⟩,seqs:=x.seqs.set n (q+1)}=x1:=⟨_,rfl⟩
 have hsA1:x1.sA=some ⟨gq,0,none⟩:=by rw[<-hx1];exact hsA
 have hlA1:x1.lA=some ⟨gl,0,none⟩:=by rw[<-hx1];exact hlA
 have rowq1:dT bQ x1.seqs x1.sC cur11:=by rw[<-hx1];exact row11
 have rowl1:dT gJ x1.last x1.lC cur7:=by rw[<-hx1];exact row7
 have rowS1:dT zr (sns.set i x1) snC uS:=dT.same rowS hx (by rw[<-hx1];simp only[zr,Sn.c,ab])
 have hll1:x1.last.length=ps.length:=by rw[<-hx1];simp only[ab];exact hll
 have hnm1:bM x1.name=true:=by rw[<-hx1];exact hnm
 refine Zr<|G (Zf jy Z)<|G (Zd aj H 1 Z Z Z) ?_
 refine cT (bl Z Z) Z Z Z (fun h102=> ?_) (fun h102=> ?_)
 ·
  refine U<|ZT Z<|W<|Zr<|cd bN (dO 14 _) Z Z ?_
  rintro _ w14 ⟨rfl,hb⟩;replace H:=H.later hb;clear hb
  refine bo H 0 (#[J (14),J (0),.slice none 0 0]) aO Z Z Z Z Z N N fun w15 H=>U<|Zt ?_
  exact eM (cs0:= #[J (14),J (0),.slice none 0 0]) Z aM Z (H.ent (i:=0) Z) Z ⟨⟨ps,some ⟨gP,0,none⟩,pC,co,clo,chi,gr,glo,ghi,sns.set i x1,some ⟨gS,0,none⟩,snC⟩,by rw[nT hix hx (fun h=>by cases h) x1 (by rw[htn];exact(uo hq0 _).trans hx1),if_pos h102];exact oF.plain _ _ _,by rw[nT hix hx (fun h=>by cases h) x1 (by rw[htn];exact(uo hq0 _).trans hx1),if_pos h102];rfl,Bw.close (X:=[(b6,_),(b4,_)]) row rowS1 hset hsA1 hlA1 rowq1 rowl1 hco hgr hps (fun _ h=>h) H (by simp only[Bk.c,ab])⟩
 ·
  refine U<|ZF Z<|Zk<|W ?_
  refine pD bX (fun w'=>w'.heap[b4]? =some (.cells #[J (a.kind),.string (a.name),J (a.part),J (a.n),J (a.m),.string (a.text),J (a.lost)] fZ (0,0))) ?_
  intro w16 hw';replace H:=H.later hw';clear hw'
  refine bc 0 N N N Z Z Z Z Nq (H.ent (i:=1) Z) (fun _ hS=>jw dN Z hS Z)<|bc 1 N N N Z Z Z Z Nq (H.ent (i:=1) Z) (fun _ hS=>Yp Z)<|bc 2 N N N Z Z Z Z Nq (H.ent (i:=1) Z) (fun _ hS=>Yp Z)<|bc 3 N N N Z Z Z Z Nq (H.ent (i:=1) Z) (fun _ hS=>Zf dQ Z)<|bc 4 N N N Z Z Z Z Nq (H.ent (i:=1) Z) (fun _ hS=>aT aj Z (aB hS Z))<|v8 5 N Z ?_
  refine cd la ((by have hA:=AF (i:=i) (n:=n) (k:=k) (sns:=sns.set i x1) (x:=x1) (by simp only[ab];exact H.perm ((ai _ (ai _ (ai _ (ai _ (al _ _ _))))).trans ((ai _ (ai _ (ai _ (al _ _ _)))).trans ((ai _ (ai _ (al _ _ _))).trans ((ai _ (al _ _ _)).trans ((al _ _ _).trans ((ai _ (ai _ (ai _ (ai _ (ai _ (al _ _ _)))))).trans ((ai _ (ai _ (ai _ (ai _ (al _ _ _))))).trans ((ai _ (ai _ (ai _ (al _ _ _)))).trans ((ai _ (ai _ (al _ _ _))).trans (ai _ (al _ _ _)))))))))))) row rowS1 rowl1 (am (cE hx).1) hlA1 hco hps I I I hnm1 hcb hpk;rw[<-hna]at hA;exact hA)) Z Z ?_
  rintro _ w17 ⟨ps',uP',co',clo',chi',F',hAn,hW,row',hlen',hco',hps',hF',H⟩
  replace H:=H.perm ((ai _ (al _ _ _)).trans ((al _ _ _).trans ((ai _ (ai _ (al _ _ _))).trans ((ai _ (al _ _ _)).trans ((ai _ (ai _ (ai _ (al _ _ _)))).trans ((ai _ (ai _ (al _ _ _))).trans ((ai _ (ai _ (ai _ (ai _ (al _ _ _))))).trans ((ai _ (ai _ (ai _ (al _ _ _)))).trans ((ai _ (ai _ (ai _ (ai _ (ai _ (al _ _ _)))))).trans (ai _ (ai _ (ai _ (ai _ (al _ _ _))))))))))))))
  obtain⟨A1,c1,rfl⟩:=hAn.p (kc ..)
  refine U ?_
  refine⟨(H.ent (i:=1) Z),?_⟩
  refine v8 6 N Z<|cd ki (C4 a (eh (Wa.mk (ps.map fun q=>q.p.a) co.a gr.a ((sns.set i x1).map Sn.a)) x1.a n).2.code (eh (Wa.mk (ps.map fun q=>q.p.a) co.a gr.a ((sns.set i x1).map Sn.a)) x1.a n).2.n A1 0 c1 _) Z Z ?_
  rintro _ w18 ⟨ht,hb⟩;replace H:=H.later hb;clear hb
  obtain⟨A2,c2,rfl⟩:=JP ht
  refine U ?_
  refine⟨(H.ent (i:=1) Z),?_⟩
  refine v8 7 N Z<|bo H 0 (#[J ((fY a (eh (Wa.mk (ps.map fun q=>q.p.a) co.a gr.a ((sns.set i x1).map Sn.a)) x1.a n).2).code),J ((fY a (eh (Wa.mk (ps.map fun q=>q.p.a) co.a gr.a ((sns.set i x1).map Sn.a)) x1.a n).2).n),.slice A2 0 c2]) aO Z Z Z Z Z N N fun w19 H=>U ?_
  refine⟨(H.ent (i:=1) Z),?_⟩
  refine m0 N<|Zt ?_
  exact eM (cs0:= #[J ((fY a (eh (Wa.mk (ps.map fun q=>q.p.a) co.a gr.a ((sns.set i x1).map Sn.a)) x1.a n).2).code),J ((fY a (eh (Wa.mk (ps.map fun q=>q.p.a) co.a gr.a ((sns.set i x1).map Sn.a)) x1.a n).2).n),.slice A2 0 c2]) Z aM Z (H.ent (i:=0) Z) Z ⟨⟨ps',some ⟨gP,0,none⟩,pC,co',clo',chi',gr,glo,ghi,sns.set i x1,some ⟨gS,0,none⟩,snC⟩,by rw[nT hix hx (fun h=>by cases h) x1 (by rw[htn];exact(uo hq0 _).trans hx1),if_neg h102,htn];exact oF.of (lq _ (kc ..)),by rw[nT hix hx (fun h=>by cases h) x1 (by rw[htn];exact(uo hq0 _).trans hx1),if_neg h102,htn];exact hW.symm,Bw.close (X:=[(b6,_),(b4,_)]) row' rowS1 hset hsA1 hlA1 rowq1 rowl1 hco' (hF' _ hgr) hps' hF' H (by simp only[Bk.c,ab])⟩
theorem wN {b:Bk} {a:Act} (hix:ff b.sns a.name=none):jN b.a a=(b.a,⟨5,0,[]⟩):=by
 unfold jN
 rw[show b.a.sns=b.sns.map Sn.a from rfl,C8 hix]
 rfl
theorem iU {b:Bk} {a:Act} {i:Nat} {x:Sn} (hix:ff b.sns a.name=some i) (hx:b.sns[i]? =some x):jN b.a a=if x.inn=false then lV b.a 12 else if a.lost=1 then lV b.a 14 else
  if(kK b.co.a x.name x.ver (decide (a.n=1))).2=0 then({b.a with co:=(kK b.co.a x.name x.ver (decide (a.n=1))).1,sns:=if a.lost=0 then(b.sns.set i (vP x)).map Sn.a else b.sns.map Sn.a},fY a ⟨0,0,[]⟩)else(b.a,fY a ⟨(kK b.co.a x.name x.ver (decide (a.n=1))).2,0,[]⟩):=by
 unfold jN
 rw[show b.a.sns=b.sns.map Sn.a from rfl,wh hix hx,cw]
 rfl
def zT (e:cN):cN:=if e.txn then mL else e
theorem Jg (x:Sn):vP x={x with inn:=false,last:=x.last.map zT}:=rfl
theorem JJ {l:List cN} {i:Nat} {e:cN} (he:l[i]? =some e):((l.take i).map zT++l.drop i).set i (zT e)=(l.take (i+1)).map zT++l.drop (i+1):=by
 have hi:=(cE he).1
 have h1:((l.take i).map zT).length=i:=by simp;omega
 rw[i5 _ _ I,h1,l9,eI he,bk,aE]
 congr 1
 rw[mI hi]
 rfl
theorem C0 {l:List cN} {i:Nat} {e:cN} (he:l[i]? =some e):((l.take i).map zT++l.drop i)[i]? =some e:=by
 have hi:=(cE he).1
 rw[cv (by simp;omega)]
 simp only[bF,aH,bu (ma hi),l9]
 rw[dI]
 exact he
theorem Fu {w0 w:World} {bb:Nat} {b:Bk} {gP:Nat} {uP:Array Value} {Ls Lo K:List (Nat×Obj)} {F:List cr} (a:Act) (B:Bw w0 w bb b gP uP Ls Lo K F) (hsl:b.sns.length<=1000000) (hix:ff b.sns a.name=none):dd aa jo [.pointer (Qd bb),a.v] w fun v w2=> ∃ b':Bk,oF (jN b.a a).2 v w2/\b'.a=(jN b.a a).1/\xg w0 w2 bb b' K F:=by
 refine aD lO Z Z ?_
 obtain⟨ps,pA,pC,co,clo,chi,gr,glo,ghi,sns,snA,snC⟩:=b
 obtain⟨hpA,row,hsn,hown,hco,hgr,hps,H⟩:=B
 dsimp only at hpA row hsn hown hco hgr hps
 subst hpA
 replace H:Hp w0 w ((bb,.cells #[.slice (Qd gP) ps.length pC,J (co.clock),J (co.next),J (co.wait),.slice co.A co.txs.length co.cap,J (gr.clock),J (gr.wait),J (gr.gen),.slice gr.mA gr.ms.length gr.mC,.slice gr.oA gr.os.length gr.oC,.slice snA sns.length snC] bK (0,0))::(gP,.cells uP bD (0,0))::(Ls++(Lo++K))) F:=H
 dsimp only at hix hsl
 show CW _ _ _ _ (args [.pointer (Qd bb),.agg #[J (a.kind),.string (a.name),J (a.part),J (a.n),J (a.m),.string (a.text),J (a.lost)]]) w
 refine W<|Zr<|fQ H Z Z fun w1 b3 H=>eH H dk Z fun w2 b4 H=>U<|W<|Zr<|G (Yp Z)<|G (Zf eZ Z)<|G (Zd aY H 1 Z Z Z)<|cd dx (jk bb ⟨ps,some ⟨gP,0,none⟩,pC,co,clo,chi,gr,glo,ghi,sns,snA,snC⟩ (a.name) Ls _ (H.ent (i:=2) Z) hsn (fun q hq=>(H.ents q (by simp only[ax,au];grind)).1) hsl) Z Z ?_
 rintro _ w3 ⟨rfl,hb⟩;replace H:=H.later hb;clear hb
 rw[hix]
 refine G (Wp Z)<|U<|W<|Zb<|W<|Zr<|G (Yp Z)<|G (xr iJ Z)<|G (Wb Z)<|U<|ZT Z<|W<|Zr<|cd bN (dO 5 _) Z Z ?_
 rintro _ w4 ⟨rfl,hb⟩;replace H:=H.later hb;clear hb
 refine bo H 0 (#[J (5),J (0),.slice none 0 0]) aO Z Z Z Z Z N N fun w5 H=>U<|Zt ?_
 exact eM (cs0:= #[J (5),J (0),.slice none 0 0]) Z aM Z (H.ent (i:=0) Z) Z ⟨⟨ps,some ⟨gP,0,none⟩,pC,co,clo,chi,gr,glo,ghi,sns,snA,snC⟩,by rw[wN hix];exact oF.plain _ _ _,by rw[wN hix],Bw.shut (X:=[(b4,_),(b3,_)]) row hsn hown hco hgr hps (fun _ h=>h) H Z⟩
theorem Ft {w0 w:World} {bb:Nat} {b:Bk} {gP:Nat} {uP:Array Value} {Ls Lo K:List (Nat×Obj)} {F:List cr} (a:Act) (B:Bw w0 w bb b gP uP Ls Lo K F) (hsl:b.sns.length<=1000000) {k i:Nat} {x:Sn} (hix:ff b.sns a.name=some i) (hx:b.sns[i]? =some x) (hlo:0<=a.lost/\a.lost<=2) (hn1:0<=a.n/\a.n<=1) (hll:x.last.length<=4) (hnm:bM x.name=true) (hcb:oE k b.co):dd aa jo [.pointer (Qd bb),a.v] w fun v w2=> ∃ b':Bk,oF (jN b.a a).2 v w2/\b'.a=(jN b.a a).1/\xg w0 w2 bb b' K F:=by
 refine aD lO Z Z ?_
 obtain⟨ps,pA,pC,co,clo,chi,gr,glo,ghi,sns,snA,snC⟩:=b
 obtain⟨hpA,row,hsn,hown,hco,hgr,hps,H⟩:=B
 dsimp only at hpA row hsn hown hco hgr hps
 subst hpA
 dsimp only at hix hx
 obtain⟨gS,uS,hgS,hLs,rowS⟩:=hsn.row (by have:=(cE hx).1;omega)
 subst hgS;subst hLs
 obtain⟨gq,uq,gl,ul,La,Lb,hsA,hlA,rowq,rowl,hLo,hset⟩:=hown.at_ hx
 subst hLo
 replace H:Hp w0 w ((bb,.cells #[.slice (Qd gP) ps.length pC,J (co.clock),J (co.next),J (co.wait),.slice co.A co.txs.length co.cap,J (gr.clock),J (gr.wait),J (gr.gen),.slice gr.mA gr.ms.length gr.mC,.slice gr.oA gr.os.length gr.oC,.slice (Qd gS) sns.length snC] bK (0,0))::(gP,.cells uP bD (0,0))::(gS,.cells uS fu (0,0))::(gq,.cells uq cW (0,0))::(gl,.cells ul dt (0,0))::(La++(Lb++K))) F:=H.perm (Cz [(bb,_),(gP,_),(gS,_)] _ _ La Lb K)
 dsimp only at hsl hcb
 have hl5:(zr.f x)[5]? =some (.slice (some ⟨gl,0,none⟩) x.last.length x.lC):=by rw[<-hlA];rfl
 show CW _ _ _ _ (args [.pointer (Qd bb),.agg #[J (a.kind),.string (a.name),J (a.part),J (a.n),J (a.m),.string (a.text),J (a.lost)]]) w
 refine W<|Zr<|fQ H Z Z fun w1 b3 H=>eH H dk Z fun w2 b4 H=>U<|W<|Zr<|G (Yp Z)<|G (Zf eZ Z)<|G (Zd aY H 1 Z Z Z)<|cd dx (jk bb ⟨ps,some ⟨gP,0,none⟩,pC,co,clo,chi,gr,glo,ghi,sns,some ⟨gS,0,none⟩,snC⟩ (a.name) _ _ (H.ent (i:=2) Z) (dT.own rowS) (fun q hq=>by rw[aq.1 hq];exact(H.ent (i:=4) Z)) hsl) Z Z ?_
 rintro _ w3 ⟨rfl,hb⟩;replace H:=H.later hb;clear hb
 rw[hix]
 refine G (Wp Z)<|U<|W<|Zb<|W<|Zr<|G (Yp Z)<|G (vC iJ Z)<|G (Wb Z)<|U<|ZF Z<|W<|Zr<|G (Zf jy Z)<|G (Zd aj H 1 Z Z Z)<|G (cY Z Z I)<|G (Yb Z)<|ZG<|G (Zf jy Z)<|ZG<|G (Zd aj H 1 Z Z Z)<|ZG<|G (en Z Z I)<|G (N Z Z)<|G (Yb Z)<|ZG<|G (Zf eN Z)<|ZG<|G (Zd aj H 1 Z Z Z)<|ZG<|G (cY Z Z I)<|G (N Z Z)<|G (Yb Z)<|ZG<|G (Zf eN Z)<|ZG<|G (Zd aj H 1 Z Z Z)<|ZG<|G (en Z Z I)<|G (N Z Z) ?_
 refine G (Wb Z)<|U<|ZF Z<|W<|Zr<|G (Yp Z)<|G (aI Z)<|G (Zf og Z) ?_
 refine wr (bP dP rowS hx 3 Z (H.ent (i:=4) Z) Z) Z Z Z (fun h41=> ?_) (fun h41=> ?_)
 refine G (dK Z)<|G (Wb Z)<|U<|ZF Z<|W<|Zr<|G (Zf jy Z)<|G (Zd aj H 1 Z Z Z) ?_
 refine cT (bl Z Z) Z Z Z (fun h47=> ?_) (fun h47=> ?_)
 refine G (Wb Z)<|U<|ZT Z<|W<|Zr<|cd bN (dO 14 _) Z Z ?_
 rintro _ w4 ⟨rfl,hb⟩;replace H:=H.later hb;clear hb
 refine bo H 0 (#[J (14),J (0),.slice none 0 0]) aO Z Z Z Z Z N N fun w5 H=>U<|Zt ?_
 exact eM (cs0:= #[J (14),J (0),.slice none 0 0]) Z aM Z (H.ent (i:=0) Z) Z ⟨⟨ps,some ⟨gP,0,none⟩,pC,co,clo,chi,gr,glo,ghi,sns.set i x,some ⟨gS,0,none⟩,snC⟩,by rw[iU hix hx,if_neg (by rw[h41];decide),if_pos h47];exact oF.plain _ _ _,by rw[iU hix hx,if_neg (by rw[h41];decide),if_pos h47,eW hx];rfl,Bw.close (X:=[(b4,_),(b3,_)]) row (by rw[eW hx];exact rowS) hset hsA hlA rowq rowl hco hgr hps (fun _ h=>h) H (by rw[eW hx];rfl)⟩
 refine G (Wb Z)<|U<|ZF Z<|Zk<|W ?_
 refine eE (τ:=Co×Nat×Nat×Nat) [6,7,49,50,51,52,53,54,55,56,57,58,59,60,61,62,63,64,65,66,67,68] (fun(_,b6,_,_)=>[(6,.pointer (Qd b6)),(7,J (kK co.a x.name x.ver (decide (a.n=1))).2)]) (fun(c3,b6,lo,hi) w'=>c3.a=(kK co.a x.name x.ver (decide (a.n=1))).1/\Hp w0 w' ((b6,.cells #[J (c3.clock),J (c3.next),J (c3.wait),.slice c3.A c3.txs.length c3.cap] bd (0,0))::(b4,.cells #[J (0),J (0),.slice none 0 0] d8 (0,0))::(b3,.cells #[J (a.kind),.string (a.name),J (a.part),J (a.n),J (a.m),.string (a.text),J (a.lost)] fZ (0,0))::(bb,.cells #[.slice (Qd gP) ps.length pC,J (co.clock),J (co.next),J (co.wait),.slice co.A co.txs.length co.cap,J (gr.clock),J (gr.wait),J (gr.gen),.slice gr.mA gr.ms.length gr.mC,.slice gr.oA gr.os.length gr.oC,.slice (Qd gS) sns.length snC] bK (0,0))::(gP,.cells uP bD (0,0))::(gS,.cells uS fu (0,0))::(gq,.cells uq cW (0,0))::(gl,.cells ul dt (0,0))::La++(Lb++K)) (xf w0 lo hi c3::F)) ?_ ?_
 refine oo bX 20 16 [16,17,18,19,21,22] [20] [0,1,2,3,5,6,7,9,10,11,13,15] [20,21,22] [16] [0,1,2,3,5,6,7,9,10,11,13,15,17,18,19] (sp [(20,Sp.blk w3.heap.size (.agg #[J 0,J 0,J 0,.slice none 0 0]) bd)]) (sp [(16,Sp.deep w3.heap.size LR (fun c:Co=>c.c.toArray) (fun cs=> .tuple #[.agg cs,J (kK co.a x.name x.ver (decide (a.n=1))).2]) (fun cq:Co=>cq.a=(kK co.a x.name x.ver (decide (a.n=1))).1))]) N N N N (cF _) (cF _) ?_ ?_
 refine jr [0,1,2,3,4,5,6,7,8,9,10,11,12,13,14,15,20] [16,17,18,19,21,22] [20] [0,1,2,3,5,6,7,9,10,11,13,15] 5 (sp [(20,Sp.blk w3.heap.size (.agg #[J 0,J 0,J 0,.slice none 0 0]) bd)]) N N N Nq<|aw Z Z Z Z Z (fun w' hw'=>Yp Z)<|aw Z Z Z Z Z (fun w' hw'=>aI Z)<|aw Z Z Z Z Z (fun w' hw'=>Zf aU Z)<|aw Z Z Z Z Z (fun w' hw'=>Zf ey Z)<|aw Z Z Z Z Z (fun w' hw'=>jL 1 [J (co.clock),J (co.next),J (co.wait),.slice co.A co.txs.length co.cap] av Z Z ((H.later hw').ent (i:=2) Z) Z)<|aw Z Z Z Z Z (fun w' hw'=>Yp Z)<|aw Z Z Z Z Z (fun w' hw'=>aI Z)<|aw Z Z Z Z Z (fun w' hw'=>Zf oh Z)<|aw Z Z Z Z Z (fun w' hw'=>bP aY rowS hx 0 Z ((H.later hw').ent (i:=4) Z) Z)<|aw Z Z Z Z Z (fun w' hw'=>Yp Z)<|aw Z Z Z Z Z (fun w' hw'=>aI Z)<|aw Z Z Z Z Z (fun w' hw'=>Zf tS Z)<|aw Z Z Z Z Z (fun w' hw'=>bP aj rowS hx 2 Z ((H.later hw').ent (i:=4) Z) Z)<|aw Z Z Z Z Z (fun w' hw'=>Zf eN Z)<|aw Z Z Z Z Z (fun w' hw'=>aT aj Z (aB ((H.later hw').ent (i:=1) Z) Z))<|aw Z Z Z Z Z (fun w' hw'=>bl Z Z)<|xb cJ Z Z Z Z Z (fun w' hw'=>hw'.size) fun b6=>aR ?_
 intro w6 hw' hF
 obtain⟨hF,bq,eq,hge6,hbl6⟩:=hF;cases eq
 replace H:=H.adoptNew hw' hbl6 hge6
 clear hw' hF
 refine da 16 N Z<|cd wV (Fz co x.name x.ver (decide (a.n=1)) k _ (Hp.coM H hco) hcb hnm) Z Z ?_
 rintro _ w7 ⟨c3,rfl,hac3,hnc3⟩;replace H:=H.learn hnc3.2 (xf w0 w6.heap.size w7.heap.size c3) ⟨H.size,hnc3.1⟩ (ao _) (ao _);clear hnc3
 refine U<|bx 17 N N N Z Z Z Z Nq (fun _=>Yu Z)<|bx 18 N N N Z Z Z Z Nq (fun _=>Xa Z Z)<|bx 19 N N N Z Z Z Z Nq (fun _=>Xi Z Z)<|da 21 N Z<|bo H 0 (#[J (c3.clock),J (c3.next),J (c3.wait),.slice c3.A c3.txs.length c3.cap]) aF Z Z Z Z Z N N fun w8 H=>U<|bx 22 N N N Z Z Z Z Nq (fun _=>Wi Z)<|cy N ?_
 exact⟨(c3,b6,_,_),⟨hac3,H⟩,kO Z Z,Qg⟩
 refine jr [0,1,2,3,4,5,6,7,8,9,10,11,12,13,14,15,16,17,18,19] [20,21,22] [16] [0,1,2,3,5,6,7,9,10,11,13,15,17,18,19] 2 (sp [(16,Sp.deep w3.heap.size LR (fun c:Co=>c.c.toArray) (fun cs=> .tuple #[.agg cs,J (kK co.a x.name x.ver (decide (a.n=1))).2]) (fun cq:Co=>cq.a=(kK co.a x.name x.ver (decide (a.n=1))).1))]) N N N Nq<|aw Z Z Z Z Z (fun w' hw'=>Yp Z)<|aw Z Z Z Z Z (fun w' hw'=>aI Z)<|aw Z Z Z Z Z (fun w' hw'=>Zf aU Z)<|aw Z Z Z Z Z (fun w' hw'=>Zf ey Z)<|aw Z Z Z Z Z (fun w' hw'=>jL 1 [J (co.clock),J (co.next),J (co.wait),.slice co.A co.txs.length co.cap] av Z Z ((H.later hw').ent (i:=2) Z) Z)<|aw Z Z Z Z Z (fun w' hw'=>Yp Z)<|aw Z Z Z Z Z (fun w' hw'=>aI Z)<|aw Z Z Z Z Z (fun w' hw'=>Zf oh Z)<|aw Z Z Z Z Z (fun w' hw'=>bP aY rowS hx 0 Z ((H.later hw').ent (i:=4) Z) Z)<|aw Z Z Z Z Z (fun w' hw'=>Yp Z)<|aw Z Z Z Z Z (fun w' hw'=>aI Z)<|aw Z Z Z Z Z (fun w' hw'=>Zf tS Z)<|aw Z Z Z Z Z (fun w' hw'=>bP aj rowS hx 2 Z ((H.later hw').ent (i:=4) Z) Z)<|aw Z Z Z Z Z (fun w' hw'=>Zf eN Z)<|aw Z Z Z Z Z (fun w' hw'=>aT aj Z (aB ((H.later hw').ent (i:=1) Z) Z))<|aw Z Z Z Z Z (fun w' hw'=>bl Z Z)<|sK (gv:=(fun cs=> .tuple #[.agg cs,J (kK co.a x.name x.ver (decide (a.n=1))).2])) wV Z Z Z Z Z (fun w' hw'=>hw'.size) (fun w' hw'=>Fz co x.name x.ver (decide (a.n=1)) k w' (Hp.coM (H.later hw') hco) hcb hnm) Z fun cs66=>aw Z Z Z Z Z (fun w' hw'=>Yu Z)<|aw Z Z Z Z Z (fun w' hw'=>Xa Z Z)<|aw Z Z Z Z Z (fun w' hw'=>Xi Z Z)<|aR ?_
 intro w9 hw' hF
 obtain⟨hF,c3,eq,hac3,hrd66⟩:=hF;cases eq
 replace H:=H.learn hw' (xf w0 w3.heap.size w9.heap.size c3) ⟨H.size,hrd66⟩ (ao _) (ao _)
 clear hw' hF
 refine da 20 N Z<|eH H cJ Z fun w10 b6 H=>U<|da 21 N Z<|bo H 0 (#[J (c3.clock),J (c3.next),J (c3.wait),.slice c3.A c3.txs.length c3.cap]) aF Z Z Z Z Z N N fun w11 H=>U<|bx 22 N N N Z Z Z Z Nq (fun _=>Wi Z)<|cy N ?_
 exact⟨(c3,b6,_,_),⟨hac3,H⟩,kO Z Z,Qg⟩
 rintro⟨c3,b6,lo,hi⟩ ρ1 w12 ⟨hac3,H⟩
 show CW _ _ _ _ (dC (gC _ _ ρ1) [(6,.pointer (Qd b6)),(7,J (kK co.a x.name x.ver (decide (a.n=1))).2)]) w12
 refine W<|W<|Zr<|G (Yi Z) ?_
 refine qm (iL Z Z) Z Z Z (fun h70=> ?_) (fun h70=> ?_)
 refine U<|ZT Z<|W ?_
 refine bz bX [0,1,2,3] [4] [2,3] [1] (sp [(2,Sp.one (.agg #[J (kK co.a x.name x.ver (decide (a.n=1))).2,J 0,.slice none 0 0])),(3,Sp.one (.agg #[J (fY a ⟨(kK co.a x.name x.ver (decide (a.n=1))).2,0,[]⟩).code,J (fY a ⟨(kK co.a x.name x.ver (decide (a.n=1))).2,0,[]⟩).n,.slice none 0 0]))]) N N N N Nq (cF _) ?_
 refine aw Z Z Z Z Z (fun w' hw'=>jw dN Z ((H.later hw').ent (i:=2) Z) Z)<|aw Z Z Z Z Z (fun w' hw'=>Yi Z)<|gL bN Z Z Z Z Z (fun w' hw'=>dO (kK co.a x.name x.ver (decide (a.n=1))).2 w') Z<|gL ki Z Z Z Z Z (fun w' hw'=>FX a ⟨(kK co.a x.name x.ver (decide (a.n=1))).2,0,[]⟩ w') Z<|aR ?_
 intro w13 hw' hF
 replace H:=H.later hw';clear hw' hF
 refine bo H 1 (#[J ((fY a ⟨(kK co.a x.name x.ver (decide (a.n=1))).2,0,[]⟩).code),J ((fY a ⟨(kK co.a x.name x.ver (decide (a.n=1))).2,0,[]⟩).n),.slice none 0 0]) aO Z Z Z Z Z N N fun w14 H=>U<|Zt ?_
 exact eM (cs0:= #[J ((fY a ⟨(kK co.a x.name x.ver (decide (a.n=1))).2,0,[]⟩).code),J ((fY a ⟨(kK co.a x.name x.ver (decide (a.n=1))).2,0,[]⟩).n),.slice none 0 0]) Z aM Z (H.ent (i:=1) Z) Z ⟨⟨ps,some ⟨gP,0,none⟩,pC,co,clo,chi,gr,glo,ghi,sns.set i x,some ⟨gS,0,none⟩,snC⟩,by rw[iU hix hx,if_neg (by rw[h41];decide),if_neg h47,if_neg h70];exact OV.r ⟨lq _ Z,rfl⟩ _,by rw[iU hix hx,if_neg (by rw[h41];decide),if_neg h47,if_neg h70,eW hx],Bw.close (X:=[(b6,_),(b4,_),(b3,_)]) row (by rw[eW hx];exact rowS) hset hsA hlA rowq rowl (ak _ hco) (ak _ hgr) (fun q hq=>ak _ (hps q hq)) (fun f hf=>ak _ hf) H (by rw[eW hx];rfl)⟩
 refine U<|ZF Z<|Zk<|W ?_
 have hok3:(kK co.a x.name x.ver (decide (a.n=1))).2=0:=by simpa using h70
 refine Zr<|G (Yp Z)<|G (Zw av H 0 Z Z Z)<|G (aI Z)<|G (Zf aU Z)<|G (Zf ey Z)<|bo H 3 (#[.slice (Qd gP) ps.length pC,J (c3.clock),J (c3.next),J (c3.wait),.slice c3.A c3.txs.length c3.cap,J (gr.clock),J (gr.wait),J (gr.gen),.slice gr.mA gr.ms.length gr.mC,.slice gr.oA gr.os.length gr.oC,.slice (Qd gS) sns.length snC]) aF Z Z Z Z Z N N fun w15 H=>U<|W<|W<|Zr<|G (Zf jy Z)<|G (Zd aj H 2 Z Z Z) ?_
 refine cT (bl Z Z) Z Z Z (fun h82=> ?_) (fun h82=> ?_)
 refine U<|ZT Z<|W<|Zr<|G (Yp Z)<|G (aI Z)<|G (Zf og Z)<|kH H 5 ({x with inn:=false}) iF rowS hx 3 Z Z Z Z Z Z N fun w17 cur16 row16 H=> ?_
 have hs18:(sns.set i ({x with inn:=false}))[i]? =some ({x with inn:=false}):=am (cE hx).1
 refine U<|W<|Zr<|G (Yp Z)<|G (aI Z)<|G (Zf lQ Z)<|G (bP m4 row16 hs18 5 Z (H.ent (i:=5) Z) hl5)<|G (bn ex Z)<|G (Yi Z)<|U<|Zb ?_
 refine ce (τ:=Nat×Array Value) [8,91,92,93,94,95,96,97,98,99,100,101,102,103,104,105,106,107,108,109] (fun(j,_)=>[(91,J (j:Nat))]) (fun(j,u) w'=>j<=x.last.length/\dT gJ ((x.last.take j).map zT++x.last.drop j) x.lC u/\Hp w0 w' ((b6,.cells #[J (c3.clock),J (c3.next),J (c3.wait),.slice c3.A c3.txs.length c3.cap] bd (0,0))::(b4,.cells #[J (0),J (0),.slice none 0 0] d8 (0,0))::(b3,.cells #[J (a.kind),.string (a.name),J (a.part),J (a.n),J (a.m),.string (a.text),J (a.lost)] fZ (0,0))::(bb,.cells #[.slice (Qd gP) ps.length pC,J (c3.clock),J (c3.next),J (c3.wait),.slice c3.A c3.txs.length c3.cap,J (gr.clock),J (gr.wait),J (gr.gen),.slice gr.mA gr.ms.length gr.mC,.slice gr.oA gr.os.length gr.oC,.slice (Qd gS) sns.length snC] bK (0,0))::(gP,.cells uP bD (0,0))::(gS,.cells cur16 fu (0,0))::(gq,.cells uq cW (0,0))::(gl,.cells u dt (0,0))::La++(Lb++K)) (xf w0 lo hi c3::F)) (fun(j,_)=>x.last.length-j) (0,_) ⟨bG _,(by simpa using rowl),H⟩ (dF Z) ?_
 rintro⟨j,u⟩ ρ1 w19 ⟨hj,rowu,H⟩
 show CW _ _ _ _ (dC (gC _ _ ρ1) [(91,J (j:Nat))]) w19
 refine W<|Zr ?_
 refine cT (cG Z Z) Z Z Z (fun h92=> ?_) (fun h92=> ?_)
 refine U<|W<|ZT Z<|Zk<|W<|Zb<|W<|Zr<|G (Yi Z)<|G (Wi Z)<|U<|W ?_
 obtain⟨e,he⟩: ∃ e,x.last[j]? =some e:=⟨_,ah I⟩
 refine Zr<|G (Yp Z)<|G (aI Z)<|G (Zf lQ Z)<|G (bP m4 row16 hs18 5 Z (H.ent (i:=5) Z) hl5)<|G (Yi Z)<|G (cB dR Z Z (by first|omega|(simp only[ab];omega)))<|G (Zf iW Z) ?_
 refine wr (bP dP rowu (C0 he) 5 Z (H.ent (i:=7) Z) Z) Z Z Z (fun h101=> ?_) (fun h101=> ?_)
 refine U<|ZT Z<|Zr<|G (Yp Z)<|G (aI Z)<|G (Zf lQ Z)<|G (bP m4 row16 hs18 5 Z (H.ent (i:=5) Z) hl5)<|G (Yi Z)<|G (bi (cs:= #[J (0),J (0),J (0),J (0),J (0),.bool (false),.string (⟨#[]⟩)]) nR f7 N)<|G (cB dR Z Z (by first|omega|(simp only[ab];omega)))<|kH H 7 (mL) eQ rowu (C0 he) 0 Z Z Z Z Z Z N fun w21 cur20 row20 H=> ?_
 have hs22:((((x.last.take j).map zT++x.last.drop j)).set j (mL))[j]? =some (mL):=am (cE (C0 he)).1
 refine U<|Zr<|G (br Z Z I I)<|G (Yi Z)<|U ?_
 refine⟨(j+1,_),⟨by omega,?_,H⟩,dF Z,Qg,by show x.last.length- (j+1)<x.last.length-j;omega⟩
 rw[<-JJ he]
 have hz:zT e=mL:=by unfold zT;rw[if_pos h101]
 rw[hz]
 exact row20
 refine U<|ZF Z<|Zk<|Zr<|G (br Z Z I I)<|G (Yi Z)<|U ?_
 refine⟨(j+1,_),⟨by omega,?_,H⟩,dF Z,Qg,by show x.last.length- (j+1)<x.last.length-j;omega⟩
 rw[<-JJ he]
 have hz:zT e=e:=by unfold zT;rw[if_neg (by rw[h101];decide)]
 rw[hz,eW (C0 he)]
 exact rowu
 refine U<|W<|ZF Z<|Zx<|W ?_
 obtain rfl:j=x.last.length:=by omega
 rw[bJ,fm,aX]at rowu
 obtain⟨x1,hx1⟩: ∃ x1:Sn,{x with inn:=false,last:=x.last.map zT}=x1:=⟨_,rfl⟩
 have hsA1:x1.sA=some ⟨gq,0,none⟩:=by rw[<-hx1];exact hsA
 have hlA1:x1.lA=some ⟨gl,0,none⟩:=by rw[<-hx1];exact hlA
 have rowq1:dT bQ x1.seqs x1.sC uq:=by rw[<-hx1];exact rowq
 have rowl1:dT gJ x1.last x1.lC u:=by rw[<-hx1];exact rowu
 have rowS1:dT zr (sns.set i x1) snC cur16:=by have:=dT.same (e':=x1) row16 hs18 (by rw[<-hx1];simp only[zr,Sn.c,bF]);rwa[fk]at this
 have hsn1:(if a.lost=0 then(sns.set i (vP x)).map Sn.a else sns.map Sn.a)=(sns.set i x1).map Sn.a:=by rw[if_pos h82,<-hx1,Jg]
 refine Zr<|G (Zw dN H 2 Z Z Z)<|G (bi (cs:= #[J (0),J (0),.slice none 0 0]) iz dk N)<|cd ki (FX a ⟨0,0,[]⟩ _) Z Z ?_
 rintro _ w23 ⟨rfl,hb⟩;replace H:=H.later hb;clear hb
 refine bo H 1 (#[J ((fY a ⟨0,0,[]⟩).code),J ((fY a ⟨0,0,[]⟩).n),.slice none 0 0]) aO Z Z Z Z Z N N fun w24 H=>U<|Zt ?_
 exact eM (cs0:= #[J ((fY a ⟨0,0,[]⟩).code),J ((fY a ⟨0,0,[]⟩).n),.slice none 0 0]) Z aM Z (H.ent (i:=1) Z) Z ⟨⟨ps,some ⟨gP,0,none⟩,pC,c3,lo,hi,gr,glo,ghi,sns.set i x1,some ⟨gS,0,none⟩,snC⟩,by rw[iU hix hx,if_neg (by rw[h41];decide),if_neg h47,if_pos hok3];exact OV.r ⟨lq _ Z,rfl⟩ _,by rw[iU hix hx,if_neg (by rw[h41];decide),if_neg h47,if_pos hok3,<-hac3];show _=Wa.mk _ _ _ (if a.lost=0 then _ else _);rw[hsn1];rfl,Bw.close (X:=[(b6,_),(b4,_),(b3,_)]) row rowS1 hset hsA1 hlA1 rowq1 rowl1 (az ..) (ak _ hgr) (fun q hq=>ak _ (hps q hq)) (fun f hf=>ak _ hf) H (by simp only[Bk.c,ab])⟩
 refine U<|ZF Z<|Zk<|W ?_
 obtain⟨x1,hx1⟩: ∃ x1:Sn,x=x1:=⟨_,rfl⟩
 have hsA1:x1.sA=some ⟨gq,0,none⟩:=by rw[<-hx1];exact hsA
 have hlA1:x1.lA=some ⟨gl,0,none⟩:=by rw[<-hx1];exact hlA
 have rowq1:dT bQ x1.seqs x1.sC uq:=by rw[<-hx1];exact rowq
 have rowl1:dT gJ x1.last x1.lC ul:=by rw[<-hx1];exact rowl
 have rowS1:dT zr (sns.set i x1) snC uS:=by rw[<-hx1,eW hx];exact rowS
 have hsn1:(if a.lost=0 then(sns.set i (vP x)).map Sn.a else sns.map Sn.a)=(sns.set i x1).map Sn.a:=by rw[if_neg h82,<-hx1,eW hx]
 refine Zr<|G (Zw dN H 2 Z Z Z)<|G (bi (cs:= #[J (0),J (0),.slice none 0 0]) iz dk N)<|cd ki (FX a ⟨0,0,[]⟩ _) Z Z ?_
 rintro _ w25 ⟨rfl,hb⟩;replace H:=H.later hb;clear hb
 refine bo H 1 (#[J ((fY a ⟨0,0,[]⟩).code),J ((fY a ⟨0,0,[]⟩).n),.slice none 0 0]) aO Z Z Z Z Z N N fun w26 H=>U<|Zt ?_
 exact eM (cs0:= #[J ((fY a ⟨0,0,[]⟩).code),J ((fY a ⟨0,0,[]⟩).n),.slice none 0 0]) Z aM Z (H.ent (i:=1) Z) Z ⟨⟨ps,some ⟨gP,0,none⟩,pC,c3,lo,hi,gr,glo,ghi,sns.set i x1,some ⟨gS,0,none⟩,snC⟩,by rw[iU hix hx,if_neg (by rw[h41];decide),if_neg h47,if_pos hok3];exact OV.r ⟨lq _ Z,rfl⟩ _,by rw[iU hix hx,if_neg (by rw[h41];decide),if_neg h47,if_pos hok3,<-hac3];show _=Wa.mk _ _ _ (if a.lost=0 then _ else _);rw[hsn1];rfl,Bw.close (X:=[(b6,_),(b4,_),(b3,_)]) row rowS1 hset hsA1 hlA1 rowq1 rowl1 (az ..) (ak _ hgr) (fun q hq=>ak _ (hps q hq)) (fun f hf=>ak _ hf) H (by simp only[Bk.c,ab])⟩
 refine G (dK Z)<|G (Wb Z)<|U<|ZT Z<|W<|Zr<|cd bN (dO 12 _) Z Z ?_
 rintro _ w27 ⟨rfl,hb⟩;replace H:=H.later hb;clear hb
 refine bo H 0 (#[J (12),J (0),.slice none 0 0]) aO Z Z Z Z Z N N fun w28 H=>U<|Zt ?_
 exact eM (cs0:= #[J (12),J (0),.slice none 0 0]) Z aM Z (H.ent (i:=0) Z) Z ⟨⟨ps,some ⟨gP,0,none⟩,pC,co,clo,chi,gr,glo,ghi,sns.set i x,some ⟨gS,0,none⟩,snC⟩,by rw[iU hix hx,if_pos h41];exact oF.plain _ _ _,by rw[iU hix hx,if_pos h41,eW hx];rfl,Bw.close (X:=[(b4,_),(b3,_)]) row (by rw[eW hx];exact rowS) hset hsA hlA rowq rowl hco hgr hps (fun _ h=>h) H (by rw[eW hx];rfl)⟩
theorem uv {w:Wa} {a:Act} (h:(bR w.co a.name).2.2.2≠0):oS w a=lV w (bR w.co a.name).2.2.2:=by
 unfold oS
 rw[if_neg h]
theorem Cx {b:Bk} {a:Act} (hix:ff b.sns a.name=none) (h:(bR b.co.a a.name).2.2.2=0):oS b.a a=({b.a with co:=(bR b.co.a a.name).1,sns:=b.sns.map Sn.a++[uZ a.name (bR b.co.a a.name).2.1 (bR b.co.a a.name).2.2.1 b.ps.length]},⟨0,(bR b.co.a a.name).2.2.1,[]⟩):=by
 unfold oS EG
 rw[if_pos (show(bR b.a.co a.name).2.2.2=0 from h),show b.a.sns=b.sns.map Sn.a from rfl]
 dsimp only[uZ]
 rw[yZ,hix,show b.a.ps.length=b.ps.length by show(b.ps.map _).length=_;rw[bF]]
 rfl
theorem Cw {b:Bk} {a:Act} {i:Nat} (hix:ff b.sns a.name=some i) (h:(bR b.co.a a.name).2.2.2=0):oS b.a a=({b.a with co:=(bR b.co.a a.name).1,sns:=(b.sns.map Sn.a).set i (uZ a.name (bR b.co.a a.name).2.1 (bR b.co.a a.name).2.2.1 b.ps.length)},⟨0,(bR b.co.a a.name).2.2.1,[]⟩):=by
 unfold oS EG
 rw[if_pos (show(bR b.a.co a.name).2.2.2=0 from h),show b.a.sns=b.sns.map Sn.a from rfl]
 dsimp only[uZ]
 rw[yZ,hix,show b.a.ps.length=b.ps.length by show(b.ps.map _).length=_;rw[bF]]
 rfl
theorem MT (A Q Lo K:List (Nat×Obj)):(A++((Lo++Q)++K)).Perm (Q++(A++(Lo++K))):=by
 rw[show A++((Lo++Q)++K)=(A++Lo)++(Q++K) by simp,show A++(Lo++K)=(A++Lo)++K by simp]
 exact fR (A++Lo) Q K
def O6:Sn:=⟨⟨#[]⟩,0,0,false,[],none,0,[],none,0⟩
theorem HA:(aa.info? 3).map (fun i=>(i.zero,i.size,i.bytes))=some (some (J 0),bQ.sz,8):=by kernel_rfl
theorem Cr:(aa.info? 59).map (fun i=>(i.zero,i.size,i.bytes))=some (some (.agg #[J 0,J 0,J 0,J 0,J 0,.bool false,.string ⟨#[]⟩]),gJ.sz,64):=by kernel_rfl
theorem IZ {w0 w:World} {bb:Nat} {b:Bk} {gP:Nat} {uP:Array Value} {Ls Lo K:List (Nat×Obj)} {F:List cr} (a:Act) (B:Bw w0 w bb b gP uP Ls Lo K F) (hsl:b.sns.length<=1000000) {k:Nat} (hnm:bM a.name=true) (hcb:oE k b.co) (hk:k<=1000) (hnp:0<b.ps.length) (hp4:b.ps.length<=4) (hix:ff b.sns a.name=none):dd aa jZ [.pointer (Qd bb),a.v] w fun v w2=> ∃ b':Bk,oF (oS b.a a).2 v w2/\b'.a=(oS b.a a).1/\xg w0 w2 bb b' K F:=by
 refine aD mV Z Z ?_
 obtain⟨ps,pA,pC,co,clo,chi,gr,glo,ghi,sns,snA,snC⟩:=b
 obtain⟨hpA,row,hsn,hown,hco,hgr,hps,H⟩:=B
 dsimp only at hpA row hsn hown hco hgr hps
 subst hpA
 replace H:Hp w0 w ((bb,.cells #[.slice (Qd gP) ps.length pC,J (co.clock),J (co.next),J (co.wait),.slice co.A co.txs.length co.cap,J (gr.clock),J (gr.wait),J (gr.gen),.slice gr.mA gr.ms.length gr.mC,.slice gr.oA gr.os.length gr.oC,.slice snA sns.length snC] bK (0,0))::(gP,.cells uP bD (0,0))::(Ls++(Lo++K))) F:=H
 dsimp only at hix hsl hcb hnp hp4
 show CW _ _ _ _ (args [.pointer (Qd bb),.agg #[J (a.kind),.string (a.name),J (a.part),J (a.n),J (a.m),.string (a.text),J (a.lost)]]) w
 refine W<|Zr<|fQ H Z Z fun w1 b3 H=>eH H dk Z fun w2 b4 H=>U<|W ?_
 refine eE (τ:=Co×Nat×Nat×Nat) [5,6,7,8,10,11,12,13,14,15,16,17,18,19,20,21,22] (fun(_,b5,_,_)=>[(5,.pointer (Qd b5)),(6,J (bR co.a a.name).2.1),(7,J (bR co.a a.name).2.2.1),(8,J (bR co.a a.name).2.2.2)]) (fun(c3,b5,lo,hi) w'=>c3.a=(bR co.a a.name).1/\Hp w0 w' ((b5,.cells #[J (c3.clock),J (c3.next),J (c3.wait),.slice c3.A c3.txs.length c3.cap] bd (0,0))::(b4,.cells #[J (0),J (0),.slice none 0 0] d8 (0,0))::(b3,.cells #[J (a.kind),.string (a.name),J (a.part),J (a.n),J (a.m),.string (a.text),J (a.lost)] fZ (0,0))::(bb,.cells #[.slice (Qd gP) ps.length pC,J (co.clock),J (co.next),J (co.wait),.slice co.A co.txs.length co.cap,J (gr.clock),J (gr.wait),J (gr.gen),.slice gr.mA gr.ms.length gr.mC,.slice gr.oA gr.os.length gr.oC,.slice snA sns.length snC] bK (0,0))::(gP,.cells uP bD (0,0))::(Ls++(Lo++K))) (xf w0 lo hi c3::F)) ?_ ?_
 refine oo bX 13 7 [7,8,9,10,11,12,14,15,16,17] [13] [0,1,2,3,5] [13,14,15,16,17] [7] [0,1,2,3,5,8,9,10,11,12] (sp [(13,Sp.blk w2.heap.size (.agg #[J 0,J 0,J 0,.slice none 0 0]) bd)]) (sp [(7,Sp.deep w2.heap.size LR (fun c:Co=>c.c.toArray) (fun cs=> .tuple #[.agg cs,J (bR co.a a.name).2.1,J (bR co.a a.name).2.2.1,J (bR co.a a.name).2.2.2]) (fun cq:Co=>cq.a=(bR co.a a.name).1))]) N N N N (cF _) (cF _) ?_ ?_
 refine jr [0,1,2,3,4,5,6,13] [7,8,9,10,11,12,14,15,16,17] [13] [0,1,2,3,5] 9 (sp [(13,Sp.blk w2.heap.size (.agg #[J 0,J 0,J 0,.slice none 0 0]) bd)]) N N N Nq<|aw Z Z Z Z Z (fun w' hw'=>Yp Z)<|aw Z Z Z Z Z (fun w' hw'=>aI Z)<|aw Z Z Z Z Z (fun w' hw'=>Zf aU Z)<|aw Z Z Z Z Z (fun w' hw'=>Zf ey Z)<|aw Z Z Z Z Z (fun w' hw'=>jL 1 [J (co.clock),J (co.next),J (co.wait),.slice co.A co.txs.length co.cap] av Z Z ((H.later hw').ent (i:=2) Z) Z)<|aw Z Z Z Z Z (fun w' hw'=>Zf eZ Z)<|aw Z Z Z Z Z (fun w' hw'=>aT aY Z (aB ((H.later hw').ent (i:=1) Z) Z))<|xb cJ Z Z Z Z Z (fun w' hw'=>hw'.size) fun b5=>aR ?_
 intro w3 hw' hF
 obtain⟨hF,bq,eq,hge5,hbl5⟩:=hF;cases eq
 replace H:=H.adoptNew hw' hbl5 hge5
 clear hw' hF
 refine da 7 N Z<|cd nM (wx co a.name k _ (Hp.coM H hco) hcb hk hnm) Z Z ?_
 rintro _ w4 ⟨c3,rfl,hac3,hnc3⟩;replace H:=H.learn hnc3.2 (xf w0 w3.heap.size w4.heap.size c3) ⟨H.size,hnc3.1⟩ (ao _) (ao _);clear hnc3
 refine U<|bx 8 N N N Z Z Z Z Nq (fun _=>Yu Z)<|bx 9 N N N Z Z Z Z Nq (fun _=>Xa Z Z)<|bx 10 N N N Z Z Z Z Nq (fun _=>Xi Z Z)<|bx 11 N N N Z Z Z Z Nq (fun _=>Xi Z Z)<|bx 12 N N N Z Z Z Z Nq (fun _=>Xi Z Z)<|da 14 N Z<|bo H 0 (#[J (c3.clock),J (c3.next),J (c3.wait),.slice c3.A c3.txs.length c3.cap]) aF Z Z Z Z Z N N fun w5 H=>U<|bx 15 N N N Z Z Z Z Nq (fun _=>Wi Z)<|bx 16 N N N Z Z Z Z Nq (fun _=>Wi Z)<|bx 17 N N N Z Z Z Z Nq (fun _=>Wi Z)<|cy N ?_
 exact⟨(c3,b5,_,_),⟨hac3,H⟩,O2 Z Z Z Z,Qg⟩
 refine jr [0,1,2,3,4,5,6,7,8,9,10,11,12] [13,14,15,16,17] [7] [0,1,2,3,5,8,9,10,11,12] 4 (sp [(7,Sp.deep w2.heap.size LR (fun c:Co=>c.c.toArray) (fun cs=> .tuple #[.agg cs,J (bR co.a a.name).2.1,J (bR co.a a.name).2.2.1,J (bR co.a a.name).2.2.2]) (fun cq:Co=>cq.a=(bR co.a a.name).1))]) N N N Nq<|aw Z Z Z Z Z (fun w' hw'=>Yp Z)<|aw Z Z Z Z Z (fun w' hw'=>aI Z)<|aw Z Z Z Z Z (fun w' hw'=>Zf aU Z)<|aw Z Z Z Z Z (fun w' hw'=>Zf ey Z)<|aw Z Z Z Z Z (fun w' hw'=>jL 1 [J (co.clock),J (co.next),J (co.wait),.slice co.A co.txs.length co.cap] av Z Z ((H.later hw').ent (i:=2) Z) Z)<|aw Z Z Z Z Z (fun w' hw'=>Zf eZ Z)<|aw Z Z Z Z Z (fun w' hw'=>aT aY Z (aB ((H.later hw').ent (i:=1) Z) Z))<|sK (gv:=(fun cs=> .tuple #[.agg cs,J (bR co.a a.name).2.1,J (bR co.a a.name).2.2.1,J (bR co.a a.name).2.2.2])) nM Z Z Z Z Z (fun w' hw'=>hw'.size) (fun w' hw'=>wx co a.name k w' (Hp.coM (H.later hw') hco) hcb hk hnm) Z fun cs18=>aw Z Z Z Z Z (fun w' hw'=>Yu Z)<|aw Z Z Z Z Z (fun w' hw'=>Xa Z Z)<|aw Z Z Z Z Z (fun w' hw'=>Xi Z Z)<|aw Z Z Z Z Z (fun w' hw'=>Xi Z Z)<|aw Z Z Z Z Z (fun w' hw'=>Xi Z Z)<|aR ?_
 intro w6 hw' hF
 obtain⟨hF,c3,eq,hac3,hrd18⟩:=hF;cases eq
 replace H:=H.learn hw' (xf w0 w2.heap.size w6.heap.size c3) ⟨H.size,hrd18⟩ (ao _) (ao _)
 clear hw' hF
 refine da 13 N Z<|eH H cJ Z fun w7 b5 H=>U<|da 14 N Z<|bo H 0 (#[J (c3.clock),J (c3.next),J (c3.wait),.slice c3.A c3.txs.length c3.cap]) aF Z Z Z Z Z N N fun w8 H=>U<|bx 15 N N N Z Z Z Z Nq (fun _=>Wi Z)<|bx 16 N N N Z Z Z Z Nq (fun _=>Wi Z)<|bx 17 N N N Z Z Z Z Nq (fun _=>Wi Z)<|cy N ?_
 exact⟨(c3,b5,_,_),⟨hac3,H⟩,O2 Z Z Z Z,Qg⟩
 rintro⟨c3,b5,lo,hi⟩ ρ1 w9 ⟨hac3,H⟩
 show CW _ _ _ _ (dC (gC _ _ ρ1) [(5,.pointer (Qd b5)),(6,J (bR co.a a.name).2.1),(7,J (bR co.a a.name).2.2.1),(8,J (bR co.a a.name).2.2.2)]) w9
 refine W<|W<|Zr<|G (Yi Z) ?_
 refine qm (iL Z Z) Z Z Z (fun h24=> ?_) (fun h24=> ?_)
 refine U<|ZT Z<|W<|Zr<|G (Yi Z)<|cd bN (dO (bR co.a a.name).2.2.2 _) Z Z ?_
 rintro _ w10 ⟨rfl,hb⟩;replace H:=H.later hb;clear hb
 refine bo H 1 (#[J ((bR co.a a.name).2.2.2),J (0),.slice none 0 0]) aO Z Z Z Z Z N N fun w11 H=>U<|Zt ?_
 exact eM (cs0:= #[J ((bR co.a a.name).2.2.2),J (0),.slice none 0 0]) Z aM Z (H.ent (i:=1) Z) Z ⟨⟨ps,some ⟨gP,0,none⟩,pC,co,clo,chi,gr,glo,ghi,sns,snA,snC⟩,by rw[uv h24];exact oF.plain _ _ _,by rw[uv h24];rfl,Bw.shut (X:=[(b5,_),(b4,_),(b3,_)]) row hsn hown (ak _ hco) (ak _ hgr) (fun q hq=>ak _ (hps q hq)) (fun f hf=>ak _ hf) H Z⟩
 refine U<|ZF Z<|Zk<|W ?_
 have hok3:(bR co.a a.name).2.2.2=0:=by simpa using h24
 refine Zr<|G (Yp Z)<|G (Zw av H 0 Z Z Z)<|G (aI Z)<|G (Zf aU Z)<|G (Zf ey Z)<|bo H 3 (#[.slice (Qd gP) ps.length pC,J (c3.clock),J (c3.next),J (c3.wait),.slice c3.A c3.txs.length c3.cap,J (gr.clock),J (gr.wait),J (gr.gen),.slice gr.mA gr.ms.length gr.mC,.slice gr.oA gr.os.length gr.oC,.slice snA sns.length snC]) aF Z Z Z Z Z N N fun w12 H=>U<|W<|Zr<|G (Yp Z)<|G (Zf eZ Z)<|G (Zd aY H 2 Z Z Z)<|cd dx (jk bb ⟨ps,some ⟨gP,0,none⟩,pC,c3,lo,hi,gr,glo,ghi,sns,snA,snC⟩ a.name Ls _ (H.ent (i:=3) Z) hsn (fun q hq=>(H.ents q (by simp only[List.set_cons_succ,Be,ax,au];grind)).1) hsl) Z Z ?_
 rintro _ w13 ⟨rfl,hb⟩;replace H:=H.later hb;clear hb
 rw[hix]
 refine G (Wp Z)<|U<|W<|W<|Zr<|G (Yp Z)<|G (xr iJ Z)<|U<|ZT Z<|W<|Zr<|G (Yp Z)<|G (Yp Z)<|G (aI Z)<|G (Zf aU Z)<|G (Zf j8 Z)<|G (Zd jV H 3 Z Z Z)<|G (bi (cs:= #[.string (⟨#[]⟩),J (0),J (0),.bool (false),.slice none 0 0,.slice none 0 0]) xq v7 N)<|sW (vs:=[.agg #[.string (⟨#[]⟩),J (0),J (0),.bool (false),.slice none 0 0,.slice none 0 0]]) H sa v7 Z Z Z Z Z Z fun w14 b45 H=>vT (Y:=zr) Hf (K:=[(b45,_),(b5,_),(b4,_),(b3,_),(bb,_),(gP,_)]) (L:=Ls) (M:=Lo++K) H hsn (es:=sns) (news:=[O6]) Z Z Z (vX.row (m:=1) (sz:=zr.sz) (H.ent (i:=0) Z) Z) (by simp only[bO];omega) Z ?_
 intro A46 c46 w15 L46 h46 _ ho46 H
 obtain⟨sn2,hsn2⟩: ∃ l,sns++[O6]=l:=⟨_,rfl⟩
 rw[hsn2]at ho46 h46⊢
 have hl2:sn2.length=sns.length+1:=by rw[<-hsn2];simp
 have hx2:sn2[sns.length]? =some O6:=by rw[<-hsn2];simp
 have hlen2:((sn2.length:Nat):Int)-1=((sns.length:Nat):Int):=by omega
 obtain⟨gS,uS,rfl,rfl,rowS⟩:=ho46.row I
 replace H:Hp w0 w15 ((b45,.cells #[.string (⟨#[]⟩),J (0),J (0),.bool (false),.slice none 0 0,.slice none 0 0] fu (0,0))::(b5,.cells #[J (c3.clock),J (c3.next),J (c3.wait),.slice c3.A c3.txs.length c3.cap] bd (0,0))::(b4,.cells #[J (0),J (0),.slice none 0 0] d8 (0,0))::(b3,.cells #[J (a.kind),.string (a.name),J (a.part),J (a.n),J (a.m),.string (a.text),J (a.lost)] fZ (0,0))::(bb,.cells #[.slice (Qd gP) ps.length pC,J (c3.clock),J (c3.next),J (c3.wait),.slice c3.A c3.txs.length c3.cap,J (gr.clock),J (gr.wait),J (gr.gen),.slice gr.mA gr.ms.length gr.mC,.slice gr.oA gr.os.length gr.oC,.slice snA sns.length snC] bK (0,0))::(gP,.cells uP bD (0,0))::(gS,.cells uS fu (0,0))::(Lo++K)) (xf w0 lo hi c3::F):=H
 refine G (aI Z)<|G (Zf aU Z)<|G (Zf j8 Z)<|bo H 4 (#[.slice (Qd gP) ps.length pC,J (c3.clock),J (c3.next),J (c3.wait),.slice c3.A c3.txs.length c3.cap,J (gr.clock),J (gr.wait),J (gr.gen),.slice gr.mA gr.ms.length gr.mC,.slice gr.oA gr.os.length gr.oC,.slice (Qd gS) sn2.length c46]) Ey Z Z Z Z Z N N fun w16 H=>U ?_
 refine bz bX [0,1,2,3,4,5,6,7,8,9,10,11,12,13] [] [] [0,1,2,3,5,6,7,8,10,11,12,13] (sp []) N N N N Nq (cF _) ?_
 refine aw Z Z Z Z Z (fun w' hw'=>Yp Z)<|aw Z Z Z Z Z (fun w' hw'=>aI Z)<|aw Z Z Z Z Z (fun w' hw'=>Zf aU Z)<|aw Z Z Z Z Z (fun w' hw'=>Zf j8 Z)<|aw Z Z Z Z Z (fun w' hw'=>aT jV Z (aB ((H.later hw').ent (i:=4) Z) Z))<|aw Z Z Z Z Z (fun w' hw'=>Yp Z)<|aw Z Z Z Z Z (fun w' hw'=>aI Z)<|aw Z Z Z Z Z (fun w' hw'=>Zf aU Z)<|aw Z Z Z Z Z (fun w' hw'=>Zf j8 Z)<|aw Z Z Z Z Z (fun w' hw'=>aT jV Z (aB ((H.later hw').ent (i:=4) Z) Z))<|aw Z Z Z Z Z (fun w' hw'=>bn tB Z)<|aw Z Z Z Z Z (fun w' hw'=>mR Z Z I I)<|aw Z Z Z Z Z (fun w' hw'=>cB (k:=sns.length) sa Z (congrArg (Value.int .i64) hlen2) (by first|omega|(simp only[ab];omega)))<|aw Z Z Z Z Z (fun w' hw'=>Wp Z)<|aR ?_
 intro w17 hw' hF
 replace H:=H.later hw';clear hw' hF
 refine U<|W ?_
 refine bz bX [0,1,2,3,4,5,6,7,8,9,10,12,13,14,15,16,17,11,18,19,20] [21] [11,18] [0,1,3,4,5,6,7,8,10,12,13,14,15,17,19,20] (sp [(11,Sp.orow w17.heap.size bQ cW (ar ps.length (0:Int))),(18,Sp.orow w17.heap.size gJ dt (ar ps.length mL))]) N N N N Nq (cF _) ?_
 refine aw Z Z Z Z Z (fun w' hw'=>Yp Z)<|aw Z Z Z Z Z (fun w' hw'=>Zf eZ Z)<|aw Z Z Z Z Z (fun w' hw'=>aT aY Z (aB ((H.later hw').ent (i:=3) Z) Z))<|aw Z Z Z Z Z (fun w' hw'=>Yi Z)<|aw Z Z Z Z Z (fun w' hw'=>Yi Z)<|aw Z Z Z Z Z (fun w' hw'=>Yp Z)<|aw Z Z Z Z Z (fun w' hw'=>aI Z)<|aw Z Z Z Z Z (fun w' hw'=>Zf aU Z)<|aw Z Z Z Z Z (fun w' hw'=>Zf dG Z)<|aw Z Z Z Z Z (fun w' hw'=>aT eg Z (aB ((H.later hw').ent (i:=4) Z) Z))<|aw Z Z Z Z Z (fun w' hw'=>bn lJ Z)<|aw Z Z Z Z Z (fun w' hw'=>Yp Z)<|aw Z Z Z Z Z (fun w' hw'=>aI Z)<|aw Z Z Z Z Z (fun w' hw'=>Zf aU Z)<|aw Z Z Z Z Z (fun w' hw'=>Zf dG Z)<|aw Z Z Z Z Z (fun w' hw'=>aT eg Z (aB ((H.later hw').ent (i:=4) Z) Z))<|aw Z Z Z Z Z (fun w' hw'=>bn lJ Z)<|HO (Y:=bQ) ((0:Int)) ps.length aZ HA Z Z Z Z Z Z (fun w' hw'=>hw'.size) Z Z I I fun A74 c74 hc74=>HO (Y:=gJ) (mL) ps.length dR Cr Z Z Z Z Z Z (fun w' hw'=>hw'.size) Z Z I I fun A81 c81 hc81=>aw Z Z Z Z Z (fun w' hw'=>bi (cs:= #[.string (a.name),J ((bR co.a a.name).2.1),J ((bR co.a a.name).2.2.1),.bool (false),.slice A74 (((ar ps.length (0:Int))).length) c74,.slice A81 ((ar ps.length mL).length) c81]) xq v7 N)<|aw Z Z Z Z Z (fun w' hw'=>aI Z)<|aR ?_
 intro w18 hw' hF
 obtain⟨hF,Aq,cq,L81,eq,hcq,hm81,ho81,he81,hn81⟩:=hF;cases eq;clear hcq
 obtain⟨hF,Aq,cq,L74,eq,hcq,hm74,ho74,he74,hn74⟩:=hF;cases eq;clear hcq
 obtain⟨nq,curq,rfl,rfl,rowq9⟩:=ho74.row (by simp only[bH];exact hnp)
 obtain⟨nl,curl,rfl,rfl,rowl9⟩:=ho81.row (by simp only[bH];exact hnp)
 have e74:=he74 _ (dW _)
 have e81:=he81 _ (dW _)
 replace H:=H.adopt2 hw' e74 e81 (rP e74.1 e81.1 Z)
 clear hw' hF
 refine kH H 8 (⟨a.name,(bR co.a a.name).2.1,(bR co.a a.name).2.2.1,false,ar ps.length 0,some ⟨nq,0,none⟩,c74,ar ps.length mL,some ⟨nl,0,none⟩,c81⟩) zv rowS hx2 0 Z Z Z Z Z Z N fun w20 cur19 row19 H=> ?_
 have hs21:(sn2.set sns.length (⟨a.name,(bR co.a a.name).2.1,(bR co.a a.name).2.2.1,false,ar ps.length 0,some ⟨nq,0,none⟩,c74,ar ps.length mL,some ⟨nl,0,none⟩,c81⟩))[sns.length]? =some (⟨a.name,(bR co.a a.name).2.1,(bR co.a a.name).2.2.1,false,ar ps.length 0,some ⟨nq,0,none⟩,c74,ar ps.length mL,some ⟨nl,0,none⟩,c81⟩):=am (cE hx2).1
 refine U<|W<|Zr<|G (Yi Z)<|G (bi (cs:= #[J (0),J ((bR co.a a.name).2.2.1),.slice none 0 0]) iz dk N)<|bo H 4 (#[J (0),J ((bR co.a a.name).2.2.1),.slice none 0 0]) aO Z Z Z Z Z N N fun w22 H=>U<|Zt ?_
 have hn7:=hown.snoc (s:=(⟨a.name,(bR co.a a.name).2.1,(bR co.a a.name).2.2.1,false,ar ps.length 0,some ⟨nq,0,none⟩,c74,ar ps.length mL,some ⟨nl,0,none⟩,c81⟩:Sn)) Z Z rowq9 rowl9
 have hs7:sn2.set sns.length (⟨a.name,(bR co.a a.name).2.1,(bR co.a a.name).2.2.1,false,ar ps.length 0,some ⟨nq,0,none⟩,c74,ar ps.length mL,some ⟨nl,0,none⟩,c81⟩:Sn)=sns++[⟨a.name,(bR co.a a.name).2.1,(bR co.a a.name).2.2.1,false,ar ps.length 0,some ⟨nq,0,none⟩,c74,ar ps.length mL,some ⟨nl,0,none⟩,c81⟩]:=by rw[<-hsn2,i5 _ _ (ao _),l9];rfl
 have row7:=row19
 rw[hs7]at row7
 refine eM (cs0:= #[J (0),J ((bR co.a a.name).2.2.1),.slice none 0 0]) Z aM Z (H.ent (i:=4) Z) Z ⟨⟨ps,some ⟨gP,0,none⟩,pC,c3,lo,hi,gr,glo,ghi,sns++[⟨a.name,(bR co.a a.name).2.1,(bR co.a a.name).2.2.1,false,ar ps.length 0,some ⟨nq,0,none⟩,c74,ar ps.length mL,some ⟨nl,0,none⟩,c81⟩],some ⟨gS,0,none⟩,c46⟩,by rw[Cx hix hok3];exact oF.plain _ _ _,by rw[Cx hix hok3,<-hac3];unfold Bk.a;rw[bk];rfl,⟨gP,uP,_,_,_,⟨rfl,row,dT.own row7,hn7,(az ..),(ak _ hgr),(fun q hq=>ak _ (hps q hq)),?_⟩,(fun f hf=>ak _ hf)⟩⟩
 have H7:=H.forget (L':=(nq,_)::(nl,_)::(bb,_)::(gP,_)::(gS,_)::(Lo++K)) (.cons_cons _ (.cons_cons _ (cj [(b45,_),(b5,_),(b4,_),(b3,_)] _))) (fun _ h=>h)
 have hl7:sn2.length=(sns++[(⟨a.name,(bR co.a a.name).2.1,(bR co.a a.name).2.2.1,false,ar ps.length 0,some ⟨nq,0,none⟩,c74,ar ps.length mL,some ⟨nl,0,none⟩,c81⟩:Sn)]).length:=by rw[hl2,ay];rfl
 rw[hl7]at H7
 exact H7.perm (MT [(bb,_),(gP,_),(gS,_)] [(nq,_),(nl,_)] Lo K)
theorem IY {w0 w:World} {bb:Nat} {b:Bk} {gP:Nat} {uP:Array Value} {Ls Lo K:List (Nat×Obj)} {F:List cr} (a:Act) (B:Bw w0 w bb b gP uP Ls Lo K F) (hsl:b.sns.length<=1000000) {k:Nat} (hnm:bM a.name=true) (hcb:oE k b.co) (hk:k<=1000) (hnp:0<b.ps.length) (hp4:b.ps.length<=4) {i:Nat} {x:Sn} (hix:ff b.sns a.name=some i) (hx:b.sns[i]? =some x):dd aa jZ [.pointer (Qd bb),a.v] w fun v w2=> ∃ b':Bk,oF (oS b.a a).2 v w2/\b'.a=(oS b.a a).1/\xg w0 w2 bb b' K F:=by
 refine aD mV Z Z ?_
 obtain⟨ps,pA,pC,co,clo,chi,gr,glo,ghi,sns,snA,snC⟩:=b
 obtain⟨hpA,row,hsn,hown,hco,hgr,hps,H⟩:=B
 dsimp only at hpA row hsn hown hco hgr hps
 subst hpA
 dsimp only at hix hx
 obtain⟨gS,uS,hgS,hLs,rowS⟩:=hsn.row (by have:=(cE hx).1;omega)
 subst hgS;subst hLs
 obtain⟨gq,uq,gl,ul,La,Lb,hsA,hlA,rowq,rowl,hLo,hset⟩:=hown.at_ hx
 subst hLo
 replace H:Hp w0 w ((bb,.cells #[.slice (Qd gP) ps.length pC,J (co.clock),J (co.next),J (co.wait),.slice co.A co.txs.length co.cap,J (gr.clock),J (gr.wait),J (gr.gen),.slice gr.mA gr.ms.length gr.mC,.slice gr.oA gr.os.length gr.oC,.slice (Qd gS) sns.length snC] bK (0,0))::(gP,.cells uP bD (0,0))::(gS,.cells uS fu (0,0))::(gq,.cells uq cW (0,0))::(gl,.cells ul dt (0,0))::(La++(Lb++K))) F:=H.perm (Cz [(bb,_),(gP,_),(gS,_)] _ _ La Lb K)
 dsimp only at hsl hcb hnp hp4
 show CW _ _ _ _ (args [.pointer (Qd bb),.agg #[J (a.kind),.string (a.name),J (a.part),J (a.n),J (a.m),.string (a.text),J (a.lost)]]) w
 refine W<|Zr<|fQ H Z Z fun w1 b3 H=>eH H dk Z fun w2 b4 H=>U<|W ?_
 refine eE (τ:=Co×Nat×Nat×Nat) [5,6,7,8,10,11,12,13,14,15,16,17,18,19,20,21,22] (fun(_,b5,_,_)=>[(5,.pointer (Qd b5)),(6,J (bR co.a a.name).2.1),(7,J (bR co.a a.name).2.2.1),(8,J (bR co.a a.name).2.2.2)]) (fun(c3,b5,lo,hi) w'=>c3.a=(bR co.a a.name).1/\Hp w0 w' ((b5,.cells #[J (c3.clock),J (c3.next),J (c3.wait),.slice c3.A c3.txs.length c3.cap] bd (0,0))::(b4,.cells #[J (0),J (0),.slice none 0 0] d8 (0,0))::(b3,.cells #[J (a.kind),.string (a.name),J (a.part),J (a.n),J (a.m),.string (a.text),J (a.lost)] fZ (0,0))::(bb,.cells #[.slice (Qd gP) ps.length pC,J (co.clock),J (co.next),J (co.wait),.slice co.A co.txs.length co.cap,J (gr.clock),J (gr.wait),J (gr.gen),.slice gr.mA gr.ms.length gr.mC,.slice gr.oA gr.os.length gr.oC,.slice (Qd gS) sns.length snC] bK (0,0))::(gP,.cells uP bD (0,0))::(gS,.cells uS fu (0,0))::(gq,.cells uq cW (0,0))::(gl,.cells ul dt (0,0))::La++(Lb++K)) (xf w0 lo hi c3::F)) ?_ ?_
 refine oo bX 13 7 [7,8,9,10,11,12,14,15,16,17] [13] [0,1,2,3,5] [13,14,15,16,17] [7] [0,1,2,3,5,8,9,10,11,12] (sp [(13,Sp.blk w2.heap.size (.agg #[J 0,J 0,J 0,.slice none 0 0]) bd)]) (sp [(7,Sp.deep w2.heap.size LR (fun c:Co=>c.c.toArray) (fun cs=> .tuple #[.agg cs,J (bR co.a a.name).2.1,J (bR co.a a.name).2.2.1,J (bR co.a a.name).2.2.2]) (fun cq:Co=>cq.a=(bR co.a a.name).1))]) N N N N (cF _) (cF _) ?_ ?_
 refine jr [0,1,2,3,4,5,6,13] [7,8,9,10,11,12,14,15,16,17] [13] [0,1,2,3,5] 9 (sp [(13,Sp.blk w2.heap.size (.agg #[J 0,J 0,J 0,.slice none 0 0]) bd)]) N N N Nq<|aw Z Z Z Z Z (fun w' hw'=>Yp Z)<|aw Z Z Z Z Z (fun w' hw'=>aI Z)<|aw Z Z Z Z Z (fun w' hw'=>Zf aU Z)<|aw Z Z Z Z Z (fun w' hw'=>Zf ey Z)<|aw Z Z Z Z Z (fun w' hw'=>jL 1 [J (co.clock),J (co.next),J (co.wait),.slice co.A co.txs.length co.cap] av Z Z ((H.later hw').ent (i:=2) Z) Z)<|aw Z Z Z Z Z (fun w' hw'=>Zf eZ Z)<|aw Z Z Z Z Z (fun w' hw'=>aT aY Z (aB ((H.later hw').ent (i:=1) Z) Z))<|xb cJ Z Z Z Z Z (fun w' hw'=>hw'.size) fun b5=>aR ?_
 intro w3 hw' hF
 obtain⟨hF,bq,eq,hge5,hbl5⟩:=hF;cases eq
 replace H:=H.adoptNew hw' hbl5 hge5
 clear hw' hF
 refine da 7 N Z<|cd nM (wx co a.name k _ (Hp.coM H hco) hcb hk hnm) Z Z ?_
 rintro _ w4 ⟨c3,rfl,hac3,hnc3⟩;replace H:=H.learn hnc3.2 (xf w0 w3.heap.size w4.heap.size c3) ⟨H.size,hnc3.1⟩ (ao _) (ao _);clear hnc3
 refine U<|bx 8 N N N Z Z Z Z Nq (fun _=>Yu Z)<|bx 9 N N N Z Z Z Z Nq (fun _=>Xa Z Z)<|bx 10 N N N Z Z Z Z Nq (fun _=>Xi Z Z)<|bx 11 N N N Z Z Z Z Nq (fun _=>Xi Z Z)<|bx 12 N N N Z Z Z Z Nq (fun _=>Xi Z Z)<|da 14 N Z<|bo H 0 (#[J (c3.clock),J (c3.next),J (c3.wait),.slice c3.A c3.txs.length c3.cap]) aF Z Z Z Z Z N N fun w5 H=>U<|bx 15 N N N Z Z Z Z Nq (fun _=>Wi Z)<|bx 16 N N N Z Z Z Z Nq (fun _=>Wi Z)<|bx 17 N N N Z Z Z Z Nq (fun _=>Wi Z)<|cy N ?_
 exact⟨(c3,b5,_,_),⟨hac3,H⟩,O2 Z Z Z Z,Qg⟩
 refine jr [0,1,2,3,4,5,6,7,8,9,10,11,12] [13,14,15,16,17] [7] [0,1,2,3,5,8,9,10,11,12] 4 (sp [(7,Sp.deep w2.heap.size LR (fun c:Co=>c.c.toArray) (fun cs=> .tuple #[.agg cs,J (bR co.a a.name).2.1,J (bR co.a a.name).2.2.1,J (bR co.a a.name).2.2.2]) (fun cq:Co=>cq.a=(bR co.a a.name).1))]) N N N Nq<|aw Z Z Z Z Z (fun w' hw'=>Yp Z)<|aw Z Z Z Z Z (fun w' hw'=>aI Z)<|aw Z Z Z Z Z (fun w' hw'=>Zf aU Z)<|aw Z Z Z Z Z (fun w' hw'=>Zf ey Z)<|aw Z Z Z Z Z (fun w' hw'=>jL 1 [J (co.clock),J (co.next),J (co.wait),.slice co.A co.txs.length co.cap] av Z Z ((H.later hw').ent (i:=2) Z) Z)<|aw Z Z Z Z Z (fun w' hw'=>Zf eZ Z)<|aw Z Z Z Z Z (fun w' hw'=>aT aY Z (aB ((H.later hw').ent (i:=1) Z) Z))<|sK (gv:=(fun cs=> .tuple #[.agg cs,J (bR co.a a.name).2.1,J (bR co.a a.name).2.2.1,J (bR co.a a.name).2.2.2])) nM Z Z Z Z Z (fun w' hw'=>hw'.size) (fun w' hw'=>wx co a.name k w' (Hp.coM (H.later hw') hco) hcb hk hnm) Z fun cs18=>aw Z Z Z Z Z (fun w' hw'=>Yu Z)<|aw Z Z Z Z Z (fun w' hw'=>Xa Z Z)<|aw Z Z Z Z Z (fun w' hw'=>Xi Z Z)<|aw Z Z Z Z Z (fun w' hw'=>Xi Z Z)<|aw Z Z Z Z Z (fun w' hw'=>Xi Z Z)<|aR ?_
 intro w6 hw' hF
 obtain⟨hF,c3,eq,hac3,hrd18⟩:=hF;cases eq
 replace H:=H.learn hw' (xf w0 w2.heap.size w6.heap.size c3) ⟨H.size,hrd18⟩ (ao _) (ao _)
 clear hw' hF
 refine da 13 N Z<|eH H cJ Z fun w7 b5 H=>U<|da 14 N Z<|bo H 0 (#[J (c3.clock),J (c3.next),J (c3.wait),.slice c3.A c3.txs.length c3.cap]) aF Z Z Z Z Z N N fun w8 H=>U<|bx 15 N N N Z Z Z Z Nq (fun _=>Wi Z)<|bx 16 N N N Z Z Z Z Nq (fun _=>Wi Z)<|bx 17 N N N Z Z Z Z Nq (fun _=>Wi Z)<|cy N ?_
 exact⟨(c3,b5,_,_),⟨hac3,H⟩,O2 Z Z Z Z,Qg⟩
 rintro⟨c3,b5,lo,hi⟩ ρ1 w9 ⟨hac3,H⟩
 show CW _ _ _ _ (dC (gC _ _ ρ1) [(5,.pointer (Qd b5)),(6,J (bR co.a a.name).2.1),(7,J (bR co.a a.name).2.2.1),(8,J (bR co.a a.name).2.2.2)]) w9
 refine W<|W<|Zr<|G (Yi Z) ?_
 refine qm (iL Z Z) Z Z Z (fun h24=> ?_) (fun h24=> ?_)
 refine U<|ZT Z<|W<|Zr<|G (Yi Z)<|cd bN (dO (bR co.a a.name).2.2.2 _) Z Z ?_
 rintro _ w10 ⟨rfl,hb⟩;replace H:=H.later hb;clear hb
 refine bo H 1 (#[J ((bR co.a a.name).2.2.2),J (0),.slice none 0 0]) aO Z Z Z Z Z N N fun w11 H=>U<|Zt ?_
 exact eM (cs0:= #[J ((bR co.a a.name).2.2.2),J (0),.slice none 0 0]) Z aM Z (H.ent (i:=1) Z) Z ⟨⟨ps,some ⟨gP,0,none⟩,pC,co,clo,chi,gr,glo,ghi,sns.set i x,some ⟨gS,0,none⟩,snC⟩,by rw[uv h24];exact oF.plain _ _ _,by rw[uv h24,eW hx];rfl,Bw.close (X:=[(b5,_),(b4,_),(b3,_)]) row (by rw[eW hx];exact rowS) hset hsA hlA rowq rowl (ak _ hco) (ak _ hgr) (fun q hq=>ak _ (hps q hq)) (fun f hf=>ak _ hf) H (by rw[eW hx];rfl)⟩
 refine U<|ZF Z<|Zk<|W ?_
 have hok3:(bR co.a a.name).2.2.2=0:=by simpa using h24
 refine Zr<|G (Yp Z)<|G (Zw av H 0 Z Z Z)<|G (aI Z)<|G (Zf aU Z)<|G (Zf ey Z)<|bo H 3 (#[.slice (Qd gP) ps.length pC,J (c3.clock),J (c3.next),J (c3.wait),.slice c3.A c3.txs.length c3.cap,J (gr.clock),J (gr.wait),J (gr.gen),.slice gr.mA gr.ms.length gr.mC,.slice gr.oA gr.os.length gr.oC,.slice (Qd gS) sns.length snC]) aF Z Z Z Z Z N N fun w12 H=>U<|W<|Zr<|G (Yp Z)<|G (Zf eZ Z)<|G (Zd aY H 2 Z Z Z)<|cd dx (jk bb ⟨ps,some ⟨gP,0,none⟩,pC,c3,lo,hi,gr,glo,ghi,sns,some ⟨gS,0,none⟩,snC⟩ a.name _ _ (H.ent (i:=3) Z) (dT.own rowS) (fun q hq=>by rw[aq.1 hq];exact(H.ent (i:=5) Z)) hsl) Z Z ?_
 rintro _ w13 ⟨rfl,hb⟩;replace H:=H.later hb;clear hb
 rw[hix]
 refine G (Wp Z)<|U<|W<|W<|Zr<|G (Yp Z)<|G (vC iJ Z)<|U<|ZF Z<|Zk<|W ?_
 refine bz bX [0,1,2,3,4,5,6,7,8,9,10,12,13,14,15,16,17,11,18,19,20] [21] [11,18] [0,1,3,4,5,6,7,8,10,12,13,14,15,17,19,20] (sp [(11,Sp.orow w13.heap.size bQ cW (ar ps.length (0:Int))),(18,Sp.orow w13.heap.size gJ dt (ar ps.length mL))]) N N N N Nq (cF _) ?_
 refine aw Z Z Z Z Z (fun w' hw'=>Yp Z)<|aw Z Z Z Z Z (fun w' hw'=>Zf eZ Z)<|aw Z Z Z Z Z (fun w' hw'=>aT aY Z (aB ((H.later hw').ent (i:=2) Z) Z))<|aw Z Z Z Z Z (fun w' hw'=>Yi Z)<|aw Z Z Z Z Z (fun w' hw'=>Yi Z)<|aw Z Z Z Z Z (fun w' hw'=>Yp Z)<|aw Z Z Z Z Z (fun w' hw'=>aI Z)<|aw Z Z Z Z Z (fun w' hw'=>Zf aU Z)<|aw Z Z Z Z Z (fun w' hw'=>Zf dG Z)<|aw Z Z Z Z Z (fun w' hw'=>aT eg Z (aB ((H.later hw').ent (i:=3) Z) Z))<|aw Z Z Z Z Z (fun w' hw'=>bn lJ Z)<|aw Z Z Z Z Z (fun w' hw'=>Yp Z)<|aw Z Z Z Z Z (fun w' hw'=>aI Z)<|aw Z Z Z Z Z (fun w' hw'=>Zf aU Z)<|aw Z Z Z Z Z (fun w' hw'=>Zf dG Z)<|aw Z Z Z Z Z (fun w' hw'=>aT eg Z (aB ((H.later hw').ent (i:=3) Z) Z))<|aw Z Z Z Z Z (fun w' hw'=>bn lJ Z)<|HO (Y:=bQ) ((0:Int)) ps.length aZ HA Z Z Z Z Z Z (fun w' hw'=>hw'.size) Z Z I I fun A74 c74 hc74=>HO (Y:=gJ) (mL) ps.length dR Cr Z Z Z Z Z Z (fun w' hw'=>hw'.size) Z Z I I fun A81 c81 hc81=>aw Z Z Z Z Z (fun w' hw'=>bi (cs:= #[.string (a.name),J ((bR co.a a.name).2.1),J ((bR co.a a.name).2.2.1),.bool (false),.slice A74 (((ar ps.length (0:Int))).length) c74,.slice A81 ((ar ps.length mL).length) c81]) xq v7 N)<|aw Z Z Z Z Z (fun w' hw'=>aI Z)<|aR ?_
 intro w14 hw' hF
 obtain⟨hF,Aq,cq,L81,eq,hcq,hm81,ho81,he81,hn81⟩:=hF;cases eq;clear hcq
 obtain⟨hF,Aq,cq,L74,eq,hcq,hm74,ho74,he74,hn74⟩:=hF;cases eq;clear hcq
 obtain⟨nq,curq,rfl,rfl,rowq9⟩:=ho74.row (by simp only[bH];exact hnp)
 obtain⟨nl,curl,rfl,rfl,rowl9⟩:=ho81.row (by simp only[bH];exact hnp)
 have e74:=he74 _ (dW _)
 have e81:=he81 _ (dW _)
 replace H:=H.adopt2 hw' e74 e81 (rP e74.1 e81.1 Z)
 clear hw' hF
 refine kH H 7 (⟨a.name,(bR co.a a.name).2.1,(bR co.a a.name).2.2.1,false,ar ps.length 0,some ⟨nq,0,none⟩,c74,ar ps.length mL,some ⟨nl,0,none⟩,c81⟩) zv rowS hx 0 Z Z Z Z Z Z N fun w16 cur15 row15 H=> ?_
 have hs17:(sns.set i (⟨a.name,(bR co.a a.name).2.1,(bR co.a a.name).2.2.1,false,ar ps.length 0,some ⟨nq,0,none⟩,c74,ar ps.length mL,some ⟨nl,0,none⟩,c81⟩))[i]? =some (⟨a.name,(bR co.a a.name).2.1,(bR co.a a.name).2.2.1,false,ar ps.length 0,some ⟨nq,0,none⟩,c74,ar ps.length mL,some ⟨nl,0,none⟩,c81⟩):=am (cE hx).1
 refine U<|W<|Zr<|G (Yi Z)<|G (bi (cs:= #[J (0),J ((bR co.a a.name).2.2.1),.slice none 0 0]) iz dk N)<|bo H 3 (#[J (0),J ((bR co.a a.name).2.2.1),.slice none 0 0]) aO Z Z Z Z Z N N fun w18 H=>U<|Zt ?_
 have H7:=H.forget (L':=(nq,_)::(nl,_)::(bb,_)::(gP,_)::(gS,_)::(La++(Lb++K))) (.cons_cons _ (.cons_cons _ ((ap _).trans (.trans (.cons_cons _ (.cons_cons _ (.cons_cons _ (.cons _ (.cons _ (ap _)))))) (cj [(b5,_),(b4,_),(b3,_)] _))))) (fun _ h=>h)
 have hm7:(sns.set i (⟨a.name,(bR co.a a.name).2.1,(bR co.a a.name).2.2.1,false,ar ps.length 0,some ⟨nq,0,none⟩,c74,ar ps.length mL,some ⟨nl,0,none⟩,c81⟩:Sn)).map Sn.a=(sns.map Sn.a).set i (uZ a.name (bR co.a a.name).2.1 (bR co.a a.name).2.2.1 ps.length):=by rw[cw];rfl
 replace H7:=H7.perm (fR [(bb,_),(gP,_),(gS,_)] [(nq,_),(nl,_)] _)
 exact eM (cs0:= #[J (0),J ((bR co.a a.name).2.2.1),.slice none 0 0]) Z aM Z (H.ent (i:=3) Z) Z ⟨⟨ps,some ⟨gP,0,none⟩,pC,c3,lo,hi,gr,glo,ghi,sns.set i ⟨a.name,(bR co.a a.name).2.1,(bR co.a a.name).2.2.1,false,ar ps.length 0,some ⟨nq,0,none⟩,c74,ar ps.length mL,some ⟨nl,0,none⟩,c81⟩,some ⟨gS,0,none⟩,snC⟩,by rw[Cw hix hok3];exact oF.plain _ _ _,by rw[Cw hix hok3,<-hac3];show Wa.mk _ _ _ ((sns.set i ⟨a.name,(bR co.a a.name).2.1,(bR co.a a.name).2.2.1,false,ar ps.length 0,some ⟨nq,0,none⟩,c74,ar ps.length mL,some ⟨nl,0,none⟩,c81⟩).map Sn.a)=Wa.mk _ _ _ _;rw[hm7];rfl,Bw.close (X:=[]) row row15 hset Z Z rowq9 rowl9 (az ..) (ak _ hgr) (fun q hq=>ak _ (hps q hq)) (fun f hf=>ak _ hf) H7 (by simp only[Bk.c,ab])⟩
theorem KX {c:Co} (h:gA c=true) {t:Tx} (ht:t∈c.txs): ∃ i,fV c t.name=some (i,t):=by
 obtain⟨-,-,h3⟩:=gE.1 h
 obtain⟨i,hi⟩:=aW.1 ht
 obtain⟨hl,he⟩:=cE hi
 have:(c.txs.findIdx? fun p=>decide (p.name=t.name))=some i:=by
  rw[bf]
  refine⟨hl,by rw[he];simp,fun j hj=> ?_⟩
  unfold vv at h3
  rw[jh,mH]at h3
  have:=(h3 j i I hl hj).1
  rw[he]at this
  simpa using this
 exact⟨i,by unfold fV;rw[this];simp[hi]⟩
theorem Cq {c:Co} (h:gA c=true) {n:Nat} {t:Tx} (ht:gV c.txs n=some t):(∃ i,fV c t.name=some (i,t))/\(t.state=3∨t.state=4)/\t.parts.headD 0∈t.parts/\0<=t.parts.headD 0/\t.parts.headD 0<4:=by
 unfold gV at ht
 obtain⟨hm,he⟩:=kG.1 (ae ht)
 have hs:t.state=3∨t.state=4:=by unfold gK at he;simpa using he
 have hx:=cz.1 ((gE.1 h).2.1 t hm)
 have hp:t.parts.headD 0∈t.parts:=by
  cases hp:t.parts with
  |nil=>have:=hx.2.2.2.2.2.2.2.2.2.2.2 (by rw[hp];rfl);omega
  |cons a l=>simp
 exact⟨KX h hm,hs,hp,by have:=(fE hx.2.2.2.2.2.2.2.2.2.1).2 _ hp;omega⟩
theorem G1 {c:Co} {s:ByteArray} {p:Int} {i:Nat} {t:Tx} (hf:fV c s=some (i,t)) (h34:t.state=3∨t.state=4) (hp:p∈t.parts):(qI c s p).2=0:=by
 unfold qI
 rw[hf]
 dsimp only
 rw[if_pos h34,if_pos hp]
theorem GB {w:Wa} {a:Act} (h:gV w.co.txs a.n.toNat=none):nX w a=lV w 15:=by
 unfold nX
 rw[h]
theorem KE {w:Wa} {a:Act} {t:Tx} {n:Nat} {p:gx} (h:gV w.co.txs a.n.toNat=some t) (hn:t.parts.headD 0=(n:Nat)) (hp:w.ps[n]? =some p):nX w a=if(eA p (cZ t)).2.2=0 then({w with ps:=w.ps.set n (eA p (cZ t)).1,co:=(qI w.co t.name (t.parts.headD 0)).1},⟨0,(eA p (cZ t)).2.1,[]⟩)else lV w (eA p (cZ t)).2.2:=by
 unfold nX
 rw[h]
 dsimp only
 rw[show(t.parts.headD 0).toNat=n by omega,Hu hp]
 split
 rename_i h0
 rw[if_pos (by rfl)]
 rename_i h0
 rw[if_neg (show¬ (lV w (eA p (cZ t)).2.2).2.code=0 from h0)]
theorem IR {w:Wa} {a:Act} {t:Tx} {n:Nat} (h:gV w.co.txs a.n.toNat=some t) (hn:t.parts.headD 0=(n:Nat)) (hp:w.ps[n]? =none):nX w a=lV w 5:=by
 unfold nX uE
 rw[h]
 dsimp only
 rw[show(t.parts.headD 0).toNat=n by omega,hp]
 dsimp only
 rw[if_neg (by show¬ (5:Int)=0;decide)]
theorem IQ {w0 w:World} {bb:Nat} {b:Bk} {gP:Nat} {uP:Array Value} {Ls Lo K:List (Nat×Obj)} {F:List cr} (a:Act) (B:Bw w0 w bb b gP uP Ls Lo K F) {k:Nat} (hcb:oE k b.co) (hn:0<=a.n/\a.n<=1000) (hne:gV b.co.a.txs a.n.toNat=none):dd aa jY [.pointer (Qd bb),a.v] w fun v w2=> ∃ b':Bk,oF (nX b.a a).2 v w2/\b'.a=(nX b.a a).1/\xg w0 w2 bb b' K F:=by
 refine aD mU Z Z ?_
 have hsp:=GB (w:=b.a) hne
 obtain⟨ps,pA,pC,co,clo,chi,gr,glo,ghi,sns,snA,snC⟩:=b
 obtain⟨hpA,row,hsn,hown,hco,hgr,hps,H⟩:=B
 dsimp only at hpA row hsn hown hco hgr hps
 subst hpA
 replace H:Hp w0 w ((bb,.cells #[.slice (Qd gP) ps.length pC,J (co.clock),J (co.next),J (co.wait),.slice co.A co.txs.length co.cap,J (gr.clock),J (gr.wait),J (gr.gen),.slice gr.mA gr.ms.length gr.mC,.slice gr.oA gr.os.length gr.oC,.slice snA sns.length snC] bK (0,0))::(gP,.cells uP bD (0,0))::(Ls++(Lo++K))) F:=H
 dsimp only at hcb hne
 obtain⟨m,hnm⟩: ∃ m:Nat,a.n=(m:Int):=⟨a.n.toNat,by omega⟩
 have htm:a.n.toNat=m:=by omega
 rw[htm]at hne
 show CW _ _ _ _ (args [.pointer (Qd bb),.agg #[J (a.kind),.string (a.name),J (a.part),J (a.n),J (a.m),.string (a.text),J (a.lost)]]) w
 refine W<|Zr<|fQ H Z Z fun w1 b3 H=>eH H dk Z fun w2 b4 H=>U<|W ?_
 refine bz bX [0,1,2,3,4,5,6,7,8,9,10,11,12,13,14,15] [16,17] [7,13] [0,1,2,3,5,8,9,10,11,12,14,15] (sp [(7,Sp.one (yh none)),(13,Sp.blk w2.heap.size (.agg #[J 0,J 0,J 0,J 0,J 0,.bool false,.string ⟨#[]⟩]) dt)]) N N N N Nq (cF _) ?_
 refine aw Z Z Z Z Z (fun w' hw'=>Yp Z)<|aw Z Z Z Z Z (fun w' hw'=>aI Z)<|aw Z Z Z Z Z (fun w' hw'=>Zf aU Z)<|aw Z Z Z Z Z (fun w' hw'=>Zf ey Z)<|aw Z Z Z Z Z (fun w' hw'=>jL 1 [J (co.clock),J (co.next),J (co.wait),.slice co.A co.txs.length co.cap] av Z Z ((H.later hw').ent (i:=2) Z) Z)<|aw Z Z Z Z Z (fun w' hw'=>Zf eN Z)<|aw Z Z Z Z Z (fun w' hw'=>aT aj Z (aB ((H.later hw').ent (i:=1) Z) Z))<|gL vm Z Z Z Z Z (fun w' hw'=>(by have hA:=EW co m w' (Hp.coM (H.later hw') hco) hcb.ok I;rw[show gV co.a.txs m=_ from hne,<-hnm]at hA;exact hA)) Z<|aw Z Z Z Z Z (fun w' hw'=>Yu Z)<|aw Z Z Z Z Z (fun w' hw'=>Nt Z Z)<|aw Z Z Z Z Z (fun w' hw'=>Xi Z Z)<|aw Z Z Z Z Z (fun w' hw'=>Xa Z Z)<|aw Z Z Z Z Z (fun w' hw'=>Xi Z Z)<|xb f7 Z Z Z Z Z (fun w' hw'=>hw'.size) fun b7=>aw Z Z Z Z Z (fun w' hw'=>Wt Z)<|aw Z Z Z Z Z (fun w' hw'=>Wi Z)<|aR ?_
 intro w3 hw' hF
 obtain⟨hF,bq,eq,hge7,hbl7⟩:=hF;cases eq
 obtain⟨hF,-⟩:=hF
 have Hb:=H
 replace H:=H.adoptNew hw' hbl7 hge7
 clear hw' hF
 refine bo H 0 (#[J (0),J (0),J (0),J (0),J (0),.bool (false),.string (⟨#[]⟩)]) eQ Z Z Z Z Z N N fun w4 H=>G (Wi Z)<|U<|W<|W<|Zr<|G (Yi Z)<|G (jW Z Z (by decide))<|U<|ZT Z<|W<|Zr<|G (Yi Z)<|cd bN (dO 15 _) Z Z ?_
 rintro _ w5 ⟨rfl,hb⟩;replace H:=H.later hb;clear hb
 refine bo H 1 (#[J (15),J (0),.slice none 0 0]) aO Z Z Z Z Z N N fun w6 H=>U<|Zt ?_
 exact eM (cs0:= #[J (15),J (0),.slice none 0 0]) Z aM Z (H.ent (i:=1) Z) Z ⟨⟨ps,some ⟨gP,0,none⟩,pC,co,clo,chi,gr,glo,ghi,sns,snA,snC⟩,by rw[hsp];exact oF.plain _ _ _,by rw[hsp];rfl,Bw.shut (X:=[(b7,_),(b4,_),(b3,_)]) row hsn hown hco hgr hps (fun _ h=>h) H Z⟩
theorem IP {w0 w:World} {bb:Nat} {b:Bk} {gP:Nat} {uP:Array Value} {Ls Lo K:List (Nat×Obj)} {F:List cr} (a:Act) (B:Bw w0 w bb b gP uP Ls Lo K F) {k:Nat} (hcb:oE k b.co) (hn:0<=a.n/\a.n<=1000) (hpk: ∀ q∈b.ps,q.p.a.ok/\ ∀ (l:Nat) (y:fb),q.p.leader=l->q.p.reps[l]? =some y->y.es.length<400) {t:Tx} (hne:gV b.co.a.txs a.n.toNat=some t):dd aa jY [.pointer (Qd bb),a.v] w fun v w2=> ∃ b':Bk,oF (nX b.a a).2 v w2/\b'.a=(nX b.a a).1/\xg w0 w2 bb b' K F:=by
 refine aD mU Z Z ?_
 have hne0:gV b.a.co.txs a.n.toNat=some t:=hne
 obtain⟨⟨ti,hf⟩,h34,hpt,hp0,hp4⟩:=Cq hcb.a.ok hne
 have hnmt:=(cz.1 (hcb.a.at_ (ja hf).2.1)).1
 obtain⟨n,hpn⟩: ∃ n:Nat,t.parts.headD 0=(n:Int):=⟨(t.parts.headD 0).toNat,by omega⟩
 have hn4:n<4:=by omega
 have hout:decide (0<=t.parts.headD 0/\t.parts.headD 0<(b.ps.length:Int))=false->nX b.a a=lV b.a 5:=fun h=>IR hne0 hpn (by rw[show b.a.ps=b.ps.map fun q=>q.p.a from rfl,aL,cI (by have:=of_decide_eq_false h;omega)];rfl)
 obtain⟨ps,pA,pC,co,clo,chi,gr,glo,ghi,sns,snA,snC⟩:=b
 obtain⟨hpA,row,hsn,hown,hco,hgr,hps,H⟩:=B
 dsimp only at hpA row hsn hown hco hgr hps
 subst hpA
 replace H:Hp w0 w ((bb,.cells #[.slice (Qd gP) ps.length pC,J (co.clock),J (co.next),J (co.wait),.slice co.A co.txs.length co.cap,J (gr.clock),J (gr.wait),J (gr.gen),.slice gr.mA gr.ms.length gr.mC,.slice gr.oA gr.os.length gr.oC,.slice snA sns.length snC] bK (0,0))::(gP,.cells uP bD (0,0))::(Ls++(Lo++K))) F:=H
 dsimp only at hcb hne hf hpk hout
 obtain⟨m,hnm⟩: ∃ m:Nat,a.n=(m:Int):=⟨a.n.toNat,by omega⟩
 have htm:a.n.toNat=m:=by omega
 rw[htm]at hne
 show CW _ _ _ _ (args [.pointer (Qd bb),.agg #[J (a.kind),.string (a.name),J (a.part),J (a.n),J (a.m),.string (a.text),J (a.lost)]]) w
 refine W<|Zr<|fQ H Z Z fun w1 b3 H=>eH H dk Z fun w2 b4 H=>U<|W ?_
 refine bz bX [0,1,2,3,4,5,6,7,8,9,10,11,12,13,14,15] [16,17] [7,13] [0,1,2,3,5,8,9,10,11,12,14,15] (sp [(7,Sp.one (yh (some t))),(13,Sp.blk w2.heap.size (.agg #[J 0,J 0,J 0,J 0,J 0,.bool false,.string ⟨#[]⟩]) dt)]) N N N N Nq (cF _) ?_
 refine aw Z Z Z Z Z (fun w' hw'=>Yp Z)<|aw Z Z Z Z Z (fun w' hw'=>aI Z)<|aw Z Z Z Z Z (fun w' hw'=>Zf aU Z)<|aw Z Z Z Z Z (fun w' hw'=>Zf ey Z)<|aw Z Z Z Z Z (fun w' hw'=>jL 1 [J (co.clock),J (co.next),J (co.wait),.slice co.A co.txs.length co.cap] av Z Z ((H.later hw').ent (i:=2) Z) Z)<|aw Z Z Z Z Z (fun w' hw'=>Zf eN Z)<|aw Z Z Z Z Z (fun w' hw'=>aT aj Z (aB ((H.later hw').ent (i:=1) Z) Z))<|gL vm Z Z Z Z Z (fun w' hw'=>(by have hA:=EW co m w' (Hp.coM (H.later hw') hco) hcb.ok I;rw[show gV co.a.txs m=_ from hne,<-hnm]at hA;exact hA)) Z<|aw Z Z Z Z Z (fun w' hw'=>Yu Z)<|aw Z Z Z Z Z (fun w' hw'=>Nt Z Z)<|aw Z Z Z Z Z (fun w' hw'=>Xi Z Z)<|aw Z Z Z Z Z (fun w' hw'=>Xa Z Z)<|aw Z Z Z Z Z (fun w' hw'=>Xi Z Z)<|xb f7 Z Z Z Z Z (fun w' hw'=>hw'.size) fun b7=>aw Z Z Z Z Z (fun w' hw'=>Wt Z)<|aw Z Z Z Z Z (fun w' hw'=>Wi Z)<|aR ?_
 intro w3 hw' hF
 obtain⟨hF,bq,eq,hge7,hbl7⟩:=hF;cases eq
 obtain⟨hF,-⟩:=hF
 have Hb:=H
 replace H:=H.adoptNew hw' hbl7 hge7
 clear hw' hF
 refine bo H 0 (#[J ((cZ t).epoch),J ((cZ t).pid),J ((cZ t).ver),J ((cZ t).seq),J ((cZ t).kind),.bool ((cZ t).txn),.string ((cZ t).text)]) eQ Z Z Z Z Z N N fun w4 H=>G (Wi Z)<|U<|W<|W<|Zr<|G (Yi Z)<|G (bU Z Z (by decide))<|U<|ZF Z<|Zk<|W<|W<|Zr<|G (Yp Z)<|G (Yi Z)<|cd dV (nV bb ⟨ps,some ⟨gP,0,none⟩,pC,co,clo,chi,gr,glo,ghi,sns,snA,snC⟩ (t.parts.headD 0) _ (H.ent (i:=3) Z)) Z Z ?_
 rintro _ w5 ⟨rfl,hb⟩;replace H:=H.later hb;clear hb
 refine mj 30 Z (fun h30=> ?_) (fun h30=> ?_)
 have hnp:n<ps.length:=by have:=of_decide_eq_true h30;dsimp only at this;omega
 obtain⟨q,hq⟩: ∃ q,ps[n]? =some q:=⟨_,ah hnp⟩
 have hqm:=ae hq
 have hsp:=KE hne0 hpn (p:=q.p.a) (by show(ps.map fun q=>q.p.a)[n]? =_;rw[aL,hq];rfl)
 refine G (dK Z)<|U<|ZF Z<|Zk<|W ?_
 refine eE (τ:=Pa×Nat×Nat×Nat) [8,9,10,33,34,35,36,37,38,39,40,41,42,43,44,45,46] (fun(_,b9,_,_)=>[(9,.pointer (Qd b9)),(10,J (eA q.p.a (cZ t)).2.1),(8,J (eA q.p.a (cZ t)).2.2)]) (fun(p2,b9,lo,hi) w'=>p2.a=(eA q.p.a (cZ t)).1/\Hp w0 w' ((b9,.cells #[J (p2.epoch),J (p2.leader),.slice p2.iA p2.isr.length p2.iC,.slice p2.kA p2.known.length p2.kC,.slice p2.rA p2.reps.length p2.rC,J (p2.few),J (p2.base)] bD (0,0))::(b7,.cells #[J ((cZ t).epoch),J ((cZ t).pid),J ((cZ t).ver),J ((cZ t).seq),J ((cZ t).kind),.bool ((cZ t).txn),.string ((cZ t).text)] dt (0,0))::(b4,.cells #[J (0),J (0),.slice none 0 0] d8 (0,0))::(b3,.cells #[J (a.kind),.string (a.name),J (a.part),J (a.n),J (a.m),.string (a.text),J (a.lost)] fZ (0,0))::(bb,.cells #[.slice (Qd gP) ps.length pC,J (co.clock),J (co.next),J (co.wait),.slice co.A co.txs.length co.cap,J (gr.clock),J (gr.wait),J (gr.gen),.slice gr.mA gr.ms.length gr.mC,.slice gr.oA gr.os.length gr.oC,.slice snA sns.length snC] bK (0,0))::(gP,.cells uP bD (0,0))::(Ls++(Lo++K))) (tg w0 lo hi p2::F)) ?_ ?_
 refine oo bX 14 9 [9,10,11,12,13,15,16,17] [14] [0,1,2,3,5,6] [14,15,16,17] [9] [0,1,2,3,5,6,10,11,12,13] (sp [(14,Sp.blk w5.heap.size (.agg #[J 0,J 0,.slice none 0 0,.slice none 0 0,.slice none 0 0,J 0,J 0]) bD)]) (sp [(9,Sp.deep w5.heap.size O3 (fun p:Pa=>p.c.toArray) (fun cs=> .tuple #[.agg cs,J (eA q.p.a (cZ t)).2.1,J (eA q.p.a (cZ t)).2.2]) (fun cq:Pa=>cq.a=(eA q.p.a (cZ t)).1))]) N N N N (cF _) (cF _) ?_ ?_
 refine jr [0,1,2,3,4,5,6,7,8,14] [9,10,11,12,13,15,16,17] [14] [0,1,2,3,5,6] 7 (sp [(14,Sp.blk w5.heap.size (.agg #[J 0,J 0,.slice none 0 0,.slice none 0 0,.slice none 0 0,J 0,J 0]) bD)]) N N N Nq<|aw Z Z Z Z Z (fun w' hw'=>Yp Z)<|aw Z Z Z Z Z (fun w' hw'=>aI Z)<|aw Z Z Z Z Z (fun w' hw'=>Zf aU Z)<|aw Z Z Z Z Z (fun w' hw'=>Zf dG Z)<|aw Z Z Z Z Z (fun w' hw'=>aT eg Z (aB ((H.later hw').ent (i:=3) Z) Z))<|aw Z Z Z Z Z (fun w' hw'=>Yi Z)<|aw Z Z Z Z Z (fun w' hw'=>cB (k:=n) ic Z (congrArg (Value.int .i64) hpn) (by first|omega|(simp only[ab];omega)))<|aw Z Z Z Z Z (fun w' hw'=>oH aG row hq Z Z ((H.later hw').ent (i:=4) Z))<|aw Z Z Z Z Z (fun w' hw'=>jw dD Z ((H.later hw').ent (i:=0) Z) Z)<|xb bp Z Z Z Z Z (fun w' hw'=>hw'.size) fun b9=>aR ?_
 intro w6 hw' hF
 obtain⟨hF,bq,eq,hge9,hbl9⟩:=hF;cases eq
 replace H:=H.adoptNew hw' hbl9 hge9
 clear hw' hF
 refine da 9 N Z<|cd qL (y2 q.p (cZ t) _ (Hp.paM H (hps q hqm)) (hpk q hqm).1 (hpk q hqm).2) Z Z ?_
 rintro _ w7 ⟨p2,rfl,hap2,hnp2⟩;replace H:=H.learn hnp2.2 (tg w0 w6.heap.size w7.heap.size p2) ⟨H.size,hnp2.1⟩ (ao _) (ao _);clear hnp2
 refine U<|bx 10 N N N Z Z Z Z Nq (fun _=>Yu Z)<|bx 11 N N N Z Z Z Z Nq (fun _=>Xa Z Z)<|bx 12 N N N Z Z Z Z Nq (fun _=>Xi Z Z)<|bx 13 N N N Z Z Z Z Nq (fun _=>Xi Z Z)<|da 15 N Z<|bo H 0 (#[J (p2.epoch),J (p2.leader),.slice p2.iA p2.isr.length p2.iC,.slice p2.kA p2.known.length p2.kC,.slice p2.rA p2.reps.length p2.rC,J (p2.few),J (p2.base)]) aK Z Z Z Z Z N N fun w8 H=>U<|bx 16 N N N Z Z Z Z Nq (fun _=>Wi Z)<|bx 17 N N N Z Z Z Z Nq (fun _=>Wi Z)<|cy N ?_
 exact⟨(p2,b9,_,_),⟨hap2,H⟩,Oz Z Z Z,Qg⟩
 refine jr [0,1,2,3,4,5,6,7,8,9,10,11,12,13] [14,15,16,17] [9] [0,1,2,3,5,6,10,11,12,13] 3 (sp [(9,Sp.deep w5.heap.size O3 (fun p:Pa=>p.c.toArray) (fun cs=> .tuple #[.agg cs,J (eA q.p.a (cZ t)).2.1,J (eA q.p.a (cZ t)).2.2]) (fun cq:Pa=>cq.a=(eA q.p.a (cZ t)).1))]) N N N Nq<|aw Z Z Z Z Z (fun w' hw'=>Yp Z)<|aw Z Z Z Z Z (fun w' hw'=>aI Z)<|aw Z Z Z Z Z (fun w' hw'=>Zf aU Z)<|aw Z Z Z Z Z (fun w' hw'=>Zf dG Z)<|aw Z Z Z Z Z (fun w' hw'=>aT eg Z (aB ((H.later hw').ent (i:=3) Z) Z))<|aw Z Z Z Z Z (fun w' hw'=>Yi Z)<|aw Z Z Z Z Z (fun w' hw'=>cB (k:=n) ic Z (congrArg (Value.int .i64) hpn) (by first|omega|(simp only[ab];omega)))<|aw Z Z Z Z Z (fun w' hw'=>oH aG row hq Z Z ((H.later hw').ent (i:=4) Z))<|aw Z Z Z Z Z (fun w' hw'=>jw dD Z ((H.later hw').ent (i:=0) Z) Z)<|sK (gv:=(fun cs=> .tuple #[.agg cs,J (eA q.p.a (cZ t)).2.1,J (eA q.p.a (cZ t)).2.2])) qL Z Z Z Z Z (fun w' hw'=>hw'.size) (fun w' hw'=>y2 q.p (cZ t) w' (Hp.paM (H.later hw') (hps q hqm)) (hpk q hqm).1 (hpk q hqm).2) Z fun cs43=>aw Z Z Z Z Z (fun w' hw'=>Yu Z)<|aw Z Z Z Z Z (fun w' hw'=>Xa Z Z)<|aw Z Z Z Z Z (fun w' hw'=>Xi Z Z)<|aw Z Z Z Z Z (fun w' hw'=>Xi Z Z)<|aR ?_
 intro w9 hw' hF
 obtain⟨hF,p2,eq,hap2,hrd43⟩:=hF;cases eq
 replace H:=H.learn hw' (tg w0 w5.heap.size w9.heap.size p2) ⟨H.size,hrd43⟩ (ao _) (ao _)
 clear hw' hF
 refine da 14 N Z<|eH H bp Z fun w10 b9 H=>U<|da 15 N Z<|bo H 0 (#[J (p2.epoch),J (p2.leader),.slice p2.iA p2.isr.length p2.iC,.slice p2.kA p2.known.length p2.kC,.slice p2.rA p2.reps.length p2.rC,J (p2.few),J (p2.base)]) aK Z Z Z Z Z N N fun w11 H=>U<|bx 16 N N N Z Z Z Z Nq (fun _=>Wi Z)<|bx 17 N N N Z Z Z Z Nq (fun _=>Wi Z)<|cy N ?_
 exact⟨(p2,b9,_,_),⟨hap2,H⟩,Oz Z Z Z,Qg⟩
 rintro⟨p2,b9,lo,hi⟩ ρ1 w12 ⟨hap2,H⟩
 show CW _ _ _ _ (dC (gC _ _ ρ1) [(9,.pointer (Qd b9)),(10,J (eA q.p.a (cZ t)).2.1),(8,J (eA q.p.a (cZ t)).2.2)]) w12
 refine W<|W<|Zr<|G (Yi Z) ?_
 refine qm (iL Z Z) Z Z Z (fun h48=> ?_) (fun h48=> ?_)
 refine U<|ZT Z<|W<|Zr<|G (Yi Z)<|cd bN (dO (eA q.p.a (cZ t)).2.2 _) Z Z ?_
 rintro _ w13 ⟨rfl,hb⟩;replace H:=H.later hb;clear hb
 refine bo H 2 (#[J ((eA q.p.a (cZ t)).2.2),J (0),.slice none 0 0]) aO Z Z Z Z Z N N fun w14 H=>U<|Zt ?_
 exact eM (cs0:= #[J ((eA q.p.a (cZ t)).2.2),J (0),.slice none 0 0]) Z aM Z (H.ent (i:=2) Z) Z ⟨⟨ps,some ⟨gP,0,none⟩,pC,co,clo,chi,gr,glo,ghi,sns,snA,snC⟩,by rw[hsp,if_neg h48];exact oF.plain _ _ _,by rw[hsp,if_neg h48];rfl,Bw.shut (X:=[(b9,_),(b7,_),(b4,_),(b3,_)]) row hsn hown (ak _ hco) (ak _ hgr) (fun q hq=>ak _ (hps q hq)) (fun f hf=>ak _ hf) H Z⟩
 refine U<|ZF Z<|Zk<|W ?_
 refine bz bX [0,1,2,3,4,5,6,7] [8] [] [0,1,2,3,5,7] (sp []) N N N N Nq (cF _) ?_
 refine aw Z Z Z Z Z (fun w' hw'=>Yp Z)<|aw Z Z Z Z Z (fun w' hw'=>aI Z)<|aw Z Z Z Z Z (fun w' hw'=>Zf aU Z)<|aw Z Z Z Z Z (fun w' hw'=>Zf dG Z)<|aw Z Z Z Z Z (fun w' hw'=>aT eg Z (aB ((H.later hw').ent (i:=4) Z) Z))<|aw Z Z Z Z Z (fun w' hw'=>Yi Z)<|aw Z Z Z Z Z (fun w' hw'=>jw aG Z ((H.later hw').ent (i:=0) Z) Z)<|aw Z Z Z Z Z (fun w' hw'=>cB (k:=n) ic Z (congrArg (Value.int .i64) hpn) (by first|omega|(simp only[ab];omega)))<|aR ?_
 intro w15 hw' hF
 replace H:=H.later hw';clear hw' hF
 refine kH H 5 (⟨p2,lo,hi⟩) aK row hq 0 Z Z Z Z Z Z N fun w17 cur16 row16 H=> ?_
 have hs18:(ps.set n (⟨p2,lo,hi⟩))[n]? =some (⟨p2,lo,hi⟩):=am (cE hq).1
 refine U<|W<|Zr<|G (Yp Z)<|G (Yp Z)<|G (aI Z)<|G (Zf aU Z)<|G (Zf ey Z)<|G (jL 1 [J (co.clock),J (co.next),J (co.wait),.slice co.A co.txs.length co.cap] av Z Z (H.ent (i:=4) Z) Z)<|G (Yt Z)<|G (Yi Z)<|cd BY (Jh co t.name (t.parts.headD 0) k ti t _ (Hp.coM H (ak _ hco)) hcb hnmt hf h34 hpt) Z Z ?_
 rintro _ w19 ⟨c4,rfl,hac4,hnc4⟩;replace H:=H.learn hnc4.2 (xf w0 w17.heap.size w19.heap.size c4) ⟨H.size,hnc4.1⟩ (ao _) (ao _);clear hnc4
 refine G (Yu Z)<|G (Xa Z Z)<|G (Xi Z Z)<|G (aI Z)<|G (Zf aU Z)<|G (Zf ey Z)<|bo H 4 (#[.slice (Qd gP) ps.length pC,J (c4.clock),J (c4.next),J (c4.wait),.slice c4.A c4.txs.length c4.cap,J (gr.clock),J (gr.wait),J (gr.gen),.slice gr.mA gr.ms.length gr.mC,.slice gr.oA gr.os.length gr.oC,.slice snA sns.length snC]) aF Z Z Z Z Z N N fun w20 H=>U<|W<|Zr<|G (Yi Z)<|G (bi (cs:= #[J (0),J ((eA q.p.a (cZ t)).2.1),.slice none 0 0]) iz dk N)<|bo H 2 (#[J (0),J ((eA q.p.a (cZ t)).2.1),.slice none 0 0]) aO Z Z Z Z Z N N fun w21 H=>U<|Zt ?_
 have hz:(eA q.p.a (cZ t)).2.2=0:=by simpa using h48
 exact eM (cs0:= #[J (0),J ((eA q.p.a (cZ t)).2.1),.slice none 0 0]) Z aM Z (H.ent (i:=2) Z) Z ⟨⟨ps.set n ⟨p2,lo,hi⟩,some ⟨gP,0,none⟩,pC,c4,w17.heap.size,w19.heap.size,gr,glo,ghi,sns,snA,snC⟩,by rw[hsp,if_pos hz];exact oF.plain _ _ _,by rw[hsp,if_pos hz];unfold Bk.a;simp only[cw,hap2,hac4],Bw.shut (X:=[(b9,_),(b7,_),(b4,_),(b3,_)]) row16 hsn hown (az ..) (ak _ (ak _ hgr)) (fun y hy=>by rcases zN hy with hy|hy;exact ak _ (ak _ (hps y hy));rw[hy];exact ak _ (az ..)) (fun f hf=>ak _ (ak _ hf)) H (by simp only[Bk.c,ab])⟩
 refine G (dK Z)<|U<|ZT Z<|W<|Zr<|cd bN (dO 5 _) Z Z ?_
 rintro _ w22 ⟨rfl,hb⟩;replace H:=H.later hb;clear hb
 refine bo H 1 (#[J (5),J (0),.slice none 0 0]) aO Z Z Z Z Z N N fun w23 H=>U<|Zt ?_
 exact eM (cs0:= #[J (5),J (0),.slice none 0 0]) Z aM Z (H.ent (i:=1) Z) Z ⟨⟨ps,some ⟨gP,0,none⟩,pC,co,clo,chi,gr,glo,ghi,sns,snA,snC⟩,by rw[hout h30];exact oF.plain _ _ _,by rw[hout h30];rfl,Bw.shut (X:=[(b7,_),(b4,_),(b3,_)]) row hsn hown hco hgr hps (fun _ h=>h) H Z⟩
theorem JT (b:Bk) (a:Act):xZ b.a a=({b.a with co:=(i8 b.co.a a.n).1,gr:=pL b.gr.a a.n b.ps.length},⟨0,(i8 b.co.a a.n).1.clock,[]⟩):=by
 unfold xZ
 rw[show b.a.ps.length=b.ps.length by show(b.ps.map _).length=_;rw[bF]]
 rfl
theorem JR {w0 w:World} {bb:Nat} {b:Bk} {gP:Nat} {uP:Array Value} {Ls Lo K:List (Nat×Obj)} {F:List cr} (a:Act) (B:Bw w0 w bb b gP uP Ls Lo K F) {k np:Nat} {wt:Int} (hcb:oE k b.co) (hk:k<=1000) (hn:0<=a.n/\a.n<=1000) (hgi:qQ (fun _=>True) wt np k b.gr) (hp4:b.ps.length<=4):dd aa ob [.pointer (Qd bb),a.v] w fun v w2=> ∃ b':Bk,oF (xZ b.a a).2 v w2/\b'.a=(xZ b.a a).1/\xg w0 w2 bb b' K F:=by
 refine aD tc Z Z ?_
 have hsp:=JT b a
 obtain⟨ps,pA,pC,co,clo,chi,gr,glo,ghi,sns,snA,snC⟩:=b
 obtain⟨hpA,row,hsn,hown,hco,hgr,hps,H⟩:=B
 dsimp only at hpA row hsn hown hco hgr hps
 subst hpA
 replace H:Hp w0 w ((bb,.cells #[.slice (Qd gP) ps.length pC,J (co.clock),J (co.next),J (co.wait),.slice co.A co.txs.length co.cap,J (gr.clock),J (gr.wait),J (gr.gen),.slice gr.mA gr.ms.length gr.mC,.slice gr.oA gr.os.length gr.oC,.slice snA sns.length snC] bK (0,0))::(gP,.cells uP bD (0,0))::(Ls++(Lo++K))) F:=H
 dsimp only at hcb hgi hp4 hsp
 have h2z:(i8 co.a a.n).2=0:=by unfold i8;rw[if_neg I]
 show CW _ _ _ _ (args [.pointer (Qd bb),.agg #[J (a.kind),.string (a.name),J (a.part),J (a.n),J (a.m),.string (a.text),J (a.lost)]]) w
 refine W<|Zr<|fQ H Z Z fun w1 b3 H=>eH H dk Z fun w2 b4 H=>U<|W ?_
 refine eE (τ:=Co×Nat×Nat×Nat) [5,6,8,9,10,11,12,13,14,15,16,17,18] (fun(_,b5,_,_)=>[(5,.pointer (Qd b5)),(6,J (i8 co.a a.n).2)]) (fun(c3,b5,lo,hi) w'=>c3.a=(i8 co.a a.n).1/\Hp w0 w' ((b5,.cells #[J (c3.clock),J (c3.next),J (c3.wait),.slice c3.A c3.txs.length c3.cap] bd (0,0))::(b4,.cells #[J (0),J (0),.slice none 0 0] d8 (0,0))::(b3,.cells #[J (a.kind),.string (a.name),J (a.part),J (a.n),J (a.m),.string (a.text),J (a.lost)] fZ (0,0))::(bb,.cells #[.slice (Qd gP) ps.length pC,J (co.clock),J (co.next),J (co.wait),.slice co.A co.txs.length co.cap,J (gr.clock),J (gr.wait),J (gr.gen),.slice gr.mA gr.ms.length gr.mC,.slice gr.oA gr.os.length gr.oC,.slice snA sns.length snC] bK (0,0))::(gP,.cells uP bD (0,0))::(Ls++(Lo++K))) (xf w0 lo hi c3::F)) ?_ ?_
 refine oo bX 11 7 [7,8,9,10,12,13] [11] [0,1,2,3,5] [11,12,13] [7] [0,1,2,3,5,8,9,10] (sp [(11,Sp.blk w2.heap.size (.agg #[J 0,J 0,J 0,.slice none 0 0]) bd)]) (sp [(7,Sp.deep w2.heap.size LR (fun c:Co=>c.c.toArray) (fun cs=> .tuple #[.agg cs,J (i8 co.a a.n).2]) (fun cq:Co=>cq.a=(i8 co.a a.n).1))]) N N N N (cF _) (cF _) ?_ ?_
 refine jr [0,1,2,3,4,5,6,11] [7,8,9,10,12,13] [11] [0,1,2,3,5] 5 (sp [(11,Sp.blk w2.heap.size (.agg #[J 0,J 0,J 0,.slice none 0 0]) bd)]) N N N Nq<|aw Z Z Z Z Z (fun w' hw'=>Yp Z)<|aw Z Z Z Z Z (fun w' hw'=>aI Z)<|aw Z Z Z Z Z (fun w' hw'=>Zf aU Z)<|aw Z Z Z Z Z (fun w' hw'=>Zf ey Z)<|aw Z Z Z Z Z (fun w' hw'=>jL 1 [J (co.clock),J (co.next),J (co.wait),.slice co.A co.txs.length co.cap] av Z Z ((H.later hw').ent (i:=2) Z) Z)<|aw Z Z Z Z Z (fun w' hw'=>Zf eN Z)<|aw Z Z Z Z Z (fun w' hw'=>aT aj Z (aB ((H.later hw').ent (i:=1) Z) Z))<|xb cJ Z Z Z Z Z (fun w' hw'=>hw'.size) fun b5=>aR ?_
 intro w3 hw' hF
 obtain⟨hF,bq,eq,hge5,hbl5⟩:=hF;cases eq
 replace H:=H.adoptNew hw' hbl5 hge5
 clear hw' hF
 refine da 7 N Z<|cd vk (Cc co a.n k _ (Hp.coM H hco) hcb hk hn.1) Z Z ?_
 rintro _ w4 ⟨c3,rfl,hac3,hnc3⟩;replace H:=H.learn hnc3.2 (xf w0 w3.heap.size w4.heap.size c3) ⟨H.size,hnc3.1⟩ (ao _) (ao _);clear hnc3
 refine U<|bx 8 N N N Z Z Z Z Nq (fun _=>Yu Z)<|bx 9 N N N Z Z Z Z Nq (fun _=>Xa Z Z)<|bx 10 N N N Z Z Z Z Nq (fun _=>Xi Z Z)<|da 12 N Z<|bo H 0 (#[J (c3.clock),J (c3.next),J (c3.wait),.slice c3.A c3.txs.length c3.cap]) aF Z Z Z Z Z N N fun w5 H=>U<|bx 13 N N N Z Z Z Z Nq (fun _=>Wi Z)<|cy N ?_
 exact⟨(c3,b5,_,_),⟨hac3,H⟩,kO Z Z,Qg⟩
 refine jr [0,1,2,3,4,5,6,7,8,9,10] [11,12,13] [7] [0,1,2,3,5,8,9,10] 2 (sp [(7,Sp.deep w2.heap.size LR (fun c:Co=>c.c.toArray) (fun cs=> .tuple #[.agg cs,J (i8 co.a a.n).2]) (fun cq:Co=>cq.a=(i8 co.a a.n).1))]) N N N Nq<|aw Z Z Z Z Z (fun w' hw'=>Yp Z)<|aw Z Z Z Z Z (fun w' hw'=>aI Z)<|aw Z Z Z Z Z (fun w' hw'=>Zf aU Z)<|aw Z Z Z Z Z (fun w' hw'=>Zf ey Z)<|aw Z Z Z Z Z (fun w' hw'=>jL 1 [J (co.clock),J (co.next),J (co.wait),.slice co.A co.txs.length co.cap] av Z Z ((H.later hw').ent (i:=2) Z) Z)<|aw Z Z Z Z Z (fun w' hw'=>Zf eN Z)<|aw Z Z Z Z Z (fun w' hw'=>aT aj Z (aB ((H.later hw').ent (i:=1) Z) Z))<|sK (gv:=(fun cs=> .tuple #[.agg cs,J (i8 co.a a.n).2])) vk Z Z Z Z Z (fun w' hw'=>hw'.size) (fun w' hw'=>Cc co a.n k w' (Hp.coM (H.later hw') hco) hcb hk hn.1) Z fun cs16=>aw Z Z Z Z Z (fun w' hw'=>Yu Z)<|aw Z Z Z Z Z (fun w' hw'=>Xa Z Z)<|aw Z Z Z Z Z (fun w' hw'=>Xi Z Z)<|aR ?_
 intro w6 hw' hF
 obtain⟨hF,c3,eq,hac3,hrd16⟩:=hF;cases eq
 replace H:=H.learn hw' (xf w0 w2.heap.size w6.heap.size c3) ⟨H.size,hrd16⟩ (ao _) (ao _)
 clear hw' hF
 refine da 11 N Z<|eH H cJ Z fun w7 b5 H=>U<|da 12 N Z<|bo H 0 (#[J (c3.clock),J (c3.next),J (c3.wait),.slice c3.A c3.txs.length c3.cap]) aF Z Z Z Z Z N N fun w8 H=>U<|bx 13 N N N Z Z Z Z Nq (fun _=>Wi Z)<|cy N ?_
 exact⟨(c3,b5,_,_),⟨hac3,H⟩,kO Z Z,Qg⟩
 rintro⟨c3,b5,lo,hi⟩ ρ1 w9 ⟨hac3,H⟩
 show CW _ _ _ _ (dC (gC _ _ ρ1) [(5,.pointer (Qd b5)),(6,J (i8 co.a a.n).2)]) w9
 refine W<|W<|Zr<|G (Yi Z)<|G (bU Z Z I)<|U<|ZF Z<|Zk<|W ?_
 refine eE (τ:=Gr×Nat×Nat×Nat) [6,7,23,24,25,26,27,28,29,30,31,32,33,34,35,36,37,38,39] (fun(_,b7,_,_)=>[(7,.pointer (Qd b7)),(6,J 0)]) (fun(g3,b7,lo2,hi2) w'=>g3.a=((pL gr.a a.n ps.length,(0:Int))).1/\Hp w0 w' ((b7,.cells #[J (g3.clock),J (g3.wait),J (g3.gen),.slice g3.mA g3.ms.length g3.mC,.slice g3.oA g3.os.length g3.oC] cL (0,0))::(b5,.cells #[J (c3.clock),J (c3.next),J (c3.wait),.slice c3.A c3.txs.length c3.cap] bd (0,0))::(b4,.cells #[J (0),J (0),.slice none 0 0] d8 (0,0))::(b3,.cells #[J (a.kind),.string (a.name),J (a.part),J (a.n),J (a.m),.string (a.text),J (a.lost)] fZ (0,0))::(bb,.cells #[.slice (Qd gP) ps.length pC,J (co.clock),J (co.next),J (co.wait),.slice co.A co.txs.length co.cap,J (gr.clock),J (gr.wait),J (gr.gen),.slice gr.mA gr.ms.length gr.mC,.slice gr.oA gr.os.length gr.oC,.slice snA sns.length snC] bK (0,0))::(gP,.cells uP bD (0,0))::(Ls++(Lo++K))) (JB w0 lo2 hi2 g3::xf w0 lo hi c3::F)) ?_ ?_
 refine oo bX 17 13 [13,14,15,16,18,19] [17] [0,1,2,3,5,7,8,9,10,12] [17,18,19] [13] [0,1,2,3,5,7,8,9,10,12,14,15,16] (sp [(17,Sp.blk w9.heap.size (.agg #[J 0,J 0,J 0,.slice none 0 0,.slice none 0 0]) cL)]) (sp [(13,Sp.deep w9.heap.size Pk (fun g:Gr=>g.c.toArray) (fun cs=> .tuple #[.agg cs,J ((pL gr.a a.n ps.length,(0:Int))).2]) (fun cq:Gr=>cq.a=((pL gr.a a.n ps.length,(0:Int))).1))]) N N N N (cF _) (cF _) ?_ ?_
 refine jr [0,1,2,3,4,5,6,7,8,9,10,11,12,17] [13,14,15,16,18,19] [17] [0,1,2,3,5,7,8,9,10,12] 5 (sp [(17,Sp.blk w9.heap.size (.agg #[J 0,J 0,J 0,.slice none 0 0,.slice none 0 0]) cL)]) N N N Nq<|aw Z Z Z Z Z (fun w' hw'=>Yp Z)<|aw Z Z Z Z Z (fun w' hw'=>aI Z)<|aw Z Z Z Z Z (fun w' hw'=>Zf aU Z)<|aw Z Z Z Z Z (fun w' hw'=>Zf jp Z)<|aw Z Z Z Z Z (fun w' hw'=>jL 5 [J (gr.clock),J (gr.wait),J (gr.gen),.slice gr.mA gr.ms.length gr.mC,.slice gr.oA gr.os.length gr.oC] aP Z Z ((H.later hw').ent (i:=3) Z) Z)<|aw Z Z Z Z Z (fun w' hw'=>Zf eN Z)<|aw Z Z Z Z Z (fun w' hw'=>aT aj Z (aB ((H.later hw').ent (i:=2) Z) Z))<|aw Z Z Z Z Z (fun w' hw'=>Yp Z)<|aw Z Z Z Z Z (fun w' hw'=>aI Z)<|aw Z Z Z Z Z (fun w' hw'=>Zf aU Z)<|aw Z Z Z Z Z (fun w' hw'=>Zf dG Z)<|aw Z Z Z Z Z (fun w' hw'=>aT eg Z (aB ((H.later hw').ent (i:=3) Z) Z))<|aw Z Z Z Z Z (fun w' hw'=>bn lJ Z)<|xb dZ Z Z Z Z Z (fun w' hw'=>hw'.size) fun b7=>aR ?_
 intro w10 hw' hF
 obtain⟨hF,bq,eq,hge7,hbl7⟩:=hF;cases eq
 replace H:=H.adoptNew hw' hbl7 hge7
 clear hw' hF
 refine da 13 N Z<|cd vj (Fj gr a.n ps.length _ (Hp.grM H (ak _ hgr)) hgi.ok hp4 (by have:=hgi.gen;omega) hn.1 hn.2 (by have:=hgi.clock;omega)) Z Z ?_
 rintro _ w11 ⟨g3,rfl,hag3,hng3⟩;replace H:=H.learn hng3.2 (JB w0 w10.heap.size w11.heap.size g3) ⟨H.size,hng3.1⟩ (ao _) (ao _);clear hng3
 refine U<|bx 14 N N N Z Z Z Z Nq (fun _=>Yu Z)<|bx 15 N N N Z Z Z Z Nq (fun _=>Xa Z Z)<|bx 16 N N N Z Z Z Z Nq (fun _=>Xi Z Z)<|da 18 N Z<|bo H 0 (#[J (g3.clock),J (g3.wait),J (g3.gen),.slice g3.mA g3.ms.length g3.mC,.slice g3.oA g3.os.length g3.oC]) bB Z Z Z Z Z N N fun w12 H=>U<|bx 19 N N N Z Z Z Z Nq (fun _=>Wi Z)<|cy N ?_
 exact⟨(g3,b7,_,_),⟨hag3,H⟩,kO Z Z,Qg⟩
 refine jr [0,1,2,3,4,5,6,7,8,9,10,11,12,13,14,15,16] [17,18,19] [13] [0,1,2,3,5,7,8,9,10,12,14,15,16] 2 (sp [(13,Sp.deep w9.heap.size Pk (fun g:Gr=>g.c.toArray) (fun cs=> .tuple #[.agg cs,J ((pL gr.a a.n ps.length,(0:Int))).2]) (fun cq:Gr=>cq.a=((pL gr.a a.n ps.length,(0:Int))).1))]) N N N Nq<|aw Z Z Z Z Z (fun w' hw'=>Yp Z)<|aw Z Z Z Z Z (fun w' hw'=>aI Z)<|aw Z Z Z Z Z (fun w' hw'=>Zf aU Z)<|aw Z Z Z Z Z (fun w' hw'=>Zf jp Z)<|aw Z Z Z Z Z (fun w' hw'=>jL 5 [J (gr.clock),J (gr.wait),J (gr.gen),.slice gr.mA gr.ms.length gr.mC,.slice gr.oA gr.os.length gr.oC] aP Z Z ((H.later hw').ent (i:=3) Z) Z)<|aw Z Z Z Z Z (fun w' hw'=>Zf eN Z)<|aw Z Z Z Z Z (fun w' hw'=>aT aj Z (aB ((H.later hw').ent (i:=2) Z) Z))<|aw Z Z Z Z Z (fun w' hw'=>Yp Z)<|aw Z Z Z Z Z (fun w' hw'=>aI Z)<|aw Z Z Z Z Z (fun w' hw'=>Zf aU Z)<|aw Z Z Z Z Z (fun w' hw'=>Zf dG Z)<|aw Z Z Z Z Z (fun w' hw'=>aT eg Z (aB ((H.later hw').ent (i:=3) Z) Z))<|aw Z Z Z Z Z (fun w' hw'=>bn lJ Z)<|sK (gv:=(fun cs=> .tuple #[.agg cs,J ((pL gr.a a.n ps.length,(0:Int))).2])) vj Z Z Z Z Z (fun w' hw'=>hw'.size) (fun w' hw'=>Fj gr a.n ps.length w' (Hp.grM (H.later hw') (ak _ hgr)) hgi.ok hp4 (by have:=hgi.gen;omega) hn.1 hn.2 (by have:=hgi.clock;omega)) Z fun cs37=>aw Z Z Z Z Z (fun w' hw'=>Yu Z)<|aw Z Z Z Z Z (fun w' hw'=>Xa Z Z)<|aw Z Z Z Z Z (fun w' hw'=>Xi Z Z)<|aR ?_
 intro w13 hw' hF
 obtain⟨hF,g3,eq,hag3,hrd37⟩:=hF;cases eq
 replace H:=H.learn hw' (JB w0 w9.heap.size w13.heap.size g3) ⟨H.size,hrd37⟩ (ao _) (ao _)
 clear hw' hF
 refine da 17 N Z<|eH H dZ Z fun w14 b7 H=>U<|da 18 N Z<|bo H 0 (#[J (g3.clock),J (g3.wait),J (g3.gen),.slice g3.mA g3.ms.length g3.mC,.slice g3.oA g3.os.length g3.oC]) bB Z Z Z Z Z N N fun w15 H=>U<|bx 19 N N N Z Z Z Z Nq (fun _=>Wi Z)<|cy N ?_
 exact⟨(g3,b7,_,_),⟨hag3,H⟩,kO Z Z,Qg⟩
 rintro⟨g3,b7,lo2,hi2⟩ ρ1 w16 ⟨hag3,H⟩
 show CW _ _ _ _ (dC (gC _ _ ρ1) [(7,.pointer (Qd b7)),(6,J 0)]) w16
 refine W<|W<|Zr<|G (Yi Z)<|G (bU Z Z (by decide))<|U<|ZF Z<|Zk<|W ?_
 refine pD bX (fun w'=>w'.heap[b5]? =some (.cells #[J (c3.clock),J (c3.next),J (c3.wait),.slice c3.A c3.txs.length c3.cap] bd (0,0))/\w'.heap[b7]? =some (.cells #[J (g3.clock),J (g3.wait),J (g3.gen),.slice g3.mA g3.ms.length g3.mC,.slice g3.oA g3.os.length g3.oC] cL (0,0))) ?_
 intro w17 hw';replace H:=H.later hw';clear hw'
 refine bc 0 N N N Z Z Z Z Nq ⟨H.ent (i:=1) Z,H.ent (i:=0) Z⟩ (fun _ hS=>Yp Z)<|bc 1 N N N Z Z Z Z Nq ⟨H.ent (i:=1) Z,H.ent (i:=0) Z⟩ (fun _ hS=>Yp Z)<|bc 2 N N N Z Z Z Z Nq ⟨H.ent (i:=1) Z,H.ent (i:=0) Z⟩ (fun _ hS=>jw av Z hS.1 Z)<|bc 3 N N N Z Z Z Z Nq ⟨H.ent (i:=1) Z,H.ent (i:=0) Z⟩ (fun _ hS=>jw aP Z hS.2 Z)<|bc 4 N N N Z Z Z Z Nq ⟨H.ent (i:=1) Z,H.ent (i:=0) Z⟩ (fun _ hS=>aI Z)<|bc 5 N N N Z Z Z Z Nq ⟨H.ent (i:=1) Z,H.ent (i:=0) Z⟩ (fun _ hS=>Zf aU Z)<|bc 6 N N N Z Z Z Z Nq ⟨H.ent (i:=1) Z,H.ent (i:=0) Z⟩ (fun _ hS=>Zf ey Z)<|v8 7 N Z<|bo H 4 (#[.slice (Qd gP) ps.length pC,J (c3.clock),J (c3.next),J (c3.wait),.slice c3.A c3.txs.length c3.cap,J (gr.clock),J (gr.wait),J (gr.gen),.slice gr.mA gr.ms.length gr.mC,.slice gr.oA gr.os.length gr.oC,.slice snA sns.length snC]) aF Z Z Z Z Z N N fun w18 H=>U ?_
 refine⟨⟨H.ent (i:=1) Z,H.ent (i:=0) Z⟩,?_⟩
 refine bc 8 N N N Z Z Z Z Nq ⟨H.ent (i:=1) Z,H.ent (i:=0) Z⟩ (fun _ hS=>aI Z)<|bc 9 N N N Z Z Z Z Nq ⟨H.ent (i:=1) Z,H.ent (i:=0) Z⟩ (fun _ hS=>Zf aU Z)<|bc 10 N N N Z Z Z Z Nq ⟨H.ent (i:=1) Z,H.ent (i:=0) Z⟩ (fun _ hS=>Zf jp Z)<|v8 11 N Z<|bo H 4 (#[.slice (Qd gP) ps.length pC,J (c3.clock),J (c3.next),J (c3.wait),.slice c3.A c3.txs.length c3.cap,J (g3.clock),J (g3.wait),J (g3.gen),.slice g3.mA g3.ms.length g3.mC,.slice g3.oA g3.os.length g3.oC,.slice snA sns.length snC]) bB Z Z Z Z Z N N fun w19 H=>U ?_
 refine⟨⟨H.ent (i:=1) Z,H.ent (i:=0) Z⟩,?_⟩
 refine m0 N<|W<|Zr<|G (Zf kb Z)<|G (Zd aj H 1 Z Z Z)<|G (bi (cs:= #[J (0),J (c3.clock),.slice none 0 0]) iz dk N)<|bo H 2 (#[J (0),J (c3.clock),.slice none 0 0]) aO Z Z Z Z Z N N fun w20 H=>U<|Zt ?_
 have hck:c3.clock=(i8 co.a a.n).1.clock:=by rw[<-hac3];rfl
 exact eM (cs0:= #[J (0),J (c3.clock),.slice none 0 0]) Z aM Z (H.ent (i:=2) Z) Z ⟨⟨ps,some ⟨gP,0,none⟩,pC,c3,lo,hi,g3,lo2,hi2,sns,snA,snC⟩,by rw[hsp,<-hck];exact oF.plain _ _ _,by rw[hsp,<-hac3];unfold Bk.a;rw[hag3],Bw.shut (X:=[(b7,_),(b5,_),(b4,_),(b3,_)]) row hsn hown (ak _ (az ..)) (az ..) (fun q hq=>ak _ (ak _ (hps q hq))) (fun f hf=>ak _ (ak _ hf)) H Z⟩
theorem Ka {w:Wa} {a:Act} {p:gx} (hp:w.ps[a.part.toNat]? =some p):uY w a=if(lG p a).2.2=0 then({w with ps:=w.ps.set a.part.toNat (lG p a).1},⟨0,(lG p a).2.1,[]⟩)else lV w (lG p a).2.2:=by
 unfold uY
 rw[hp]
theorem J9 {w0 w:World} {bb:Nat} {b:Bk} {gP:Nat} {uP:Array Value} {Ls Lo K:List (Nat×Obj)} {F:List cr} (a:Act) (B:Bw w0 w bb b gP uP Ls Lo K F) (hpn:0<=a.part/\a.part<b.ps.length) (hn:0<=a.n/\ ∀ q∈b.ps,a.n<q.p.reps.length) (hm:0<=a.m/\a.m<=1000) (hpk: ∀ q∈b.ps,q.p.a.ok):dd aa kT [.pointer (Qd bb),a.v] w fun v w2=> ∃ b':Bk,oF (uY b.a a).2 v w2/\b'.a=(uY b.a a).1/\xg w0 w2 bb b' K F:=by
 refine aD qu Z Z ?_
 obtain⟨n,hna⟩: ∃ n:Nat,a.part=(n:Int):=⟨a.part.toNat,by omega⟩
 have htn:a.part.toNat=n:=by omega
 obtain⟨r,hnr⟩: ∃ r:Nat,a.n=(r:Int):=⟨a.n.toNat,by omega⟩
 have htr:a.n.toNat=r:=by omega
 obtain⟨mm,hmm⟩: ∃ r:Nat,a.m=(r:Int):=⟨a.m.toNat,by omega⟩
 have htm:a.m.toNat=mm:=by omega
 obtain⟨q,hq⟩: ∃ q,b.ps[n]? =some q:=⟨_,ah I⟩
 have hqm:=ae hq
 have hok:=hpk q hqm
 have hr:r<q.p.reps.length:=by have:=hn.2 q hqm;omega
 have hsp:=Ka (w:=b.a) (a:=a) (p:=q.p.a) (by rw[htn];show(b.ps.map fun q=>q.p.a)[n]? =_;rw[aL,hq];rfl)
 obtain⟨z,hz⟩: ∃ z,lG q.p.a a=z:=⟨_,rfl⟩
 obtain⟨ps,pA,pC,co,clo,chi,gr,glo,ghi,sns,snA,snC⟩:=b
 obtain⟨hpA,row,hsn,hown,hco,hgr,hps,H⟩:=B
 dsimp only at hpA row hsn hown hco hgr hps
 subst hpA
 replace H:Hp w0 w ((bb,.cells #[.slice (Qd gP) ps.length pC,J (co.clock),J (co.next),J (co.wait),.slice co.A co.txs.length co.cap,J (gr.clock),J (gr.wait),J (gr.gen),.slice gr.mA gr.ms.length gr.mC,.slice gr.oA gr.os.length gr.oC,.slice snA sns.length snC] bK (0,0))::(gP,.cells uP bD (0,0))::(Ls++(Lo++K))) F:=H
 dsimp only at hpn hq hqm
 show CW _ _ _ _ (args [.pointer (Qd bb),.agg #[J (a.kind),.string (a.name),J (a.part),J (a.n),J (a.m),.string (a.text),J (a.lost)]]) w
 refine W<|Zr<|fQ H Z Z fun w1 b3 H=>eH H dk Z fun w2 b4 H=>U<|W<|W<|Zr<|G (Yp Z)<|G (Zf dQ Z)<|G (Zd aj H 1 Z Z Z)<|cd dV (nV bb ⟨ps,some ⟨gP,0,none⟩,pC,co,clo,chi,gr,glo,ghi,sns,snA,snC⟩ a.part _ (H.ent (i:=2) Z)) Z Z ?_
 rintro _ w3 ⟨rfl,hb⟩;replace H:=H.later hb;clear hb
 rw[decide_eq_true hpn]
 refine G (dK Z)<|U<|ZF Z<|Zk<|W ?_
 refine bz bX [0,1,2,3,4,5,6,7,8,9] [10] [9] [0,1,2,3,5,7] (sp [(9,Sp.blk w3.heap.size (.agg #[J 0,J 0,.slice none 0 0,.slice none 0 0,.slice none 0 0,J 0,J 0]) bD)]) N N N N Nq (cF _) ?_
 refine aw Z Z Z Z Z (fun w' hw'=>Yp Z)<|aw Z Z Z Z Z (fun w' hw'=>aI Z)<|aw Z Z Z Z Z (fun w' hw'=>Zf aU Z)<|aw Z Z Z Z Z (fun w' hw'=>Zf dG Z)<|aw Z Z Z Z Z (fun w' hw'=>aT eg Z (aB ((H.later hw').ent (i:=2) Z) Z))<|aw Z Z Z Z Z (fun w' hw'=>Zf dQ Z)<|aw Z Z Z Z Z (fun w' hw'=>aT aj Z (aB ((H.later hw').ent (i:=1) Z) Z))<|aw Z Z Z Z Z (fun w' hw'=>cB (k:=n) ic Z (congrArg (Value.int .i64) hna) (by first|omega|(simp only[ab];omega)))<|aw Z Z Z Z Z (fun w' hw'=>oH aG row hq Z Z ((H.later hw').ent (i:=3) Z))<|xb bp Z Z Z Z Z (fun w' hw'=>hw'.size) fun b5=>aR ?_
 intro w4 hw' hF
 obtain⟨hF,bq,eq,hge5,hbl5⟩:=hF;cases eq
 have Hb:=H
 replace H:=H.adoptNew hw' hbl5 hge5
 clear hw' hF
 refine bo H 0 (#[J (q.p.epoch),J (q.p.leader),.slice q.p.iA q.p.isr.length q.p.iC,.slice q.p.kA q.p.known.length q.p.kC,.slice q.p.rA q.p.reps.length q.p.rC,J (q.p.few),J (q.p.base)]) aK Z Z Z Z Z N N fun w5 H=>U<|W<|Zr<|G (Wi Z)<|U<|W<|Zr<|G (Wi Z)<|U<|W<|W<|Zr<|G (Zf mw Z)<|G (Zd aj H 2 Z Z Z)<|U ?_
 refine eE (τ:=Pa×Nat×Nat) [6,7,25,26,27,28,29,30,31,32,33,34,35,36,37,38,39,40,41,42,43,44,45,46,47,48,49,50,51,52,53,54,55,56,57,58,59,60,61,62,63,64,65,66,67,68,69,70,71,72,73,74,75,76,77,78,79,80,81,82,83,84,85,86,87,88,89,90,91,92,93,94,95,96,97] (fun _=>[(6,J z.2.1),(7,J z.2.2)]) (fun(p2,lo,hi) w'=>p2.a=z.1/\Hp w0 w' ((b5,.cells #[J (p2.epoch),J (p2.leader),.slice p2.iA p2.isr.length p2.iC,.slice p2.kA p2.known.length p2.kC,.slice p2.rA p2.reps.length p2.rC,J (p2.few),J (p2.base)] bD (0,0))::(b4,.cells #[J (0),J (0),.slice none 0 0] d8 (0,0))::(b3,.cells #[J (a.kind),.string (a.name),J (a.part),J (a.n),J (a.m),.string (a.text),J (a.lost)] fZ (0,0))::(bb,.cells #[.slice (Qd gP) ps.length pC,J (co.clock),J (co.next),J (co.wait),.slice co.A co.txs.length co.cap,J (gr.clock),J (gr.wait),J (gr.gen),.slice gr.mA gr.ms.length gr.mC,.slice gr.oA gr.os.length gr.oC,.slice snA sns.length snC] bK (0,0))::(gP,.cells uP bD (0,0))::(Ls++(Lo++K))) (tg w0 lo hi p2::F)) ?_ ?_
 refine Zb<|W<|Zr ?_
 refine cT (bl Z Z) Z Z Z (fun h33=> ?_) (fun h33=> ?_)
 refine G (Wb Z)<|U<|ZT Z<|Zr<|G (Zw aG H 0 Z Z Z)<|G (Zf eN Z)<|G (Zd aj H 2 Z Z Z)<|cd BT ((by have hA:=IG q.p r _ (Hp.paM H (hps q hqm)) hok hr;rw[<-hnr]at hA;exact hA)) Z Z ?_
 rintro _ w6 ⟨p2,rfl,hap2,hnp2⟩;replace H:=H.learn hnp2.2 (tg w0 w5.heap.size w6.heap.size p2) ⟨H.size,hnp2.1⟩ (ao _) (ao _);clear hnp2
 refine G (Yu Z)<|G (Xa Z Z)<|G (Xi Z Z)<|G (Xi Z Z)<|bo H 0 (#[J (p2.epoch),J (p2.leader),.slice p2.iA p2.isr.length p2.iC,.slice p2.kA p2.known.length p2.kC,.slice p2.rA p2.reps.length p2.rC,J (p2.few),J (p2.base)]) aK Z Z Z Z Z N N fun w7 H=>G (Wi Z)<|G (Wi Z)<|U ?_
 obtain rfl:z=iV q.p.a r:=by rw[<-hz];unfold lG;rw[if_pos h33,htr]
 exact⟨(p2,_,_),⟨hap2,H⟩,kO Z Z,Qg⟩
 refine G (Wb Z)<|U<|ZF Z<|W<|Zr ?_
 refine cT (bl Z Z) Z Z Z (fun h43=> ?_) (fun h43=> ?_)
 refine G (Wb Z)<|U<|ZT Z<|Zr<|G (Zw aG H 0 Z Z Z)<|G (Zf eN Z)<|G (Zd aj H 2 Z Z Z)<|cd DZ ((by have hA:=Kk q.p r _ (Hp.paM H (hps q hqm)) hok hr;rw[<-hnr]at hA;exact hA)) Z Z ?_
 rintro _ w8 ⟨p2,rfl,hap2,hnp2⟩;replace H:=H.learn hnp2.2 (tg w0 w5.heap.size w8.heap.size p2) ⟨H.size,hnp2.1⟩ (ao _) (ao _);clear hnp2
 refine G (Yu Z)<|G (Xa Z Z)<|G (Xi Z Z)<|bo H 0 (#[J (p2.epoch),J (p2.leader),.slice p2.iA p2.isr.length p2.iC,.slice p2.kA p2.known.length p2.kC,.slice p2.rA p2.reps.length p2.rC,J (p2.few),J (p2.base)]) aK Z Z Z Z Z N N fun w9 H=>G (Wi Z)<|U ?_
 obtain rfl:z=((nQ q.p.a r).1,0,(nQ q.p.a r).2):=by rw[<-hz];unfold lG;rw[if_neg h33,if_pos h43,htr]
 exact⟨(p2,_,_),⟨hap2,H⟩,kO Z Z,Qg⟩
 refine G (Wb Z)<|U<|ZF Z<|W<|Zr ?_
 refine cT (bl Z Z) Z Z Z (fun h52=> ?_) (fun h52=> ?_)
 refine G (Wb Z)<|U<|ZT Z<|Zr<|G (Zw aG H 0 Z Z Z)<|G (Zf eN Z)<|G (Zd aj H 2 Z Z Z)<|G (Zf Fy Z)<|G (Zd aj H 2 Z Z Z)<|cd BV ((by have hA:=II q.p r mm _ (Hp.paM H (hps q hqm)) hok hr I;rw[<-hnr,<-hmm]at hA;exact hA)) Z Z ?_
 rintro _ w10 ⟨p2,rfl,hap2,hnp2⟩;replace H:=H.learn hnp2.2 (tg w0 w5.heap.size w10.heap.size p2) ⟨H.size,hnp2.1⟩ (ao _) (ao _);clear hnp2
 refine G (Yu Z)<|G (Xa Z Z)<|G (Xi Z Z)<|bo H 0 (#[J (p2.epoch),J (p2.leader),.slice p2.iA p2.isr.length p2.iC,.slice p2.kA p2.known.length p2.kC,.slice p2.rA p2.reps.length p2.rC,J (p2.few),J (p2.base)]) aK Z Z Z Z Z N N fun w11 H=>G (Wi Z)<|U ?_
 obtain rfl:z=((ke q.p.a r mm).1,0,(ke q.p.a r mm).2):=by rw[<-hz];unfold lG;rw[if_neg h33,if_neg h43,if_pos h52,htr,htm]
 exact⟨(p2,_,_),⟨hap2,H⟩,kO Z Z,Qg⟩
 refine G (Wb Z)<|U<|ZF Z<|W<|Zr ?_
 refine cT (bl Z Z) Z Z Z (fun h63=> ?_) (fun h63=> ?_)
 refine G (Wb Z)<|U<|ZT Z<|Zr<|G (Zw aG H 0 Z Z Z)<|G (Zf eN Z)<|G (Zd aj H 2 Z Z Z)<|cd D0 ((by have hA:=Kl q.p r _ (Hp.paM H (hps q hqm)) hok hr;rw[<-hnr]at hA;exact hA)) Z Z ?_
 rintro _ w12 ⟨p2,rfl,hap2,hnp2⟩;replace H:=H.learn hnp2.2 (tg w0 w5.heap.size w12.heap.size p2) ⟨H.size,hnp2.1⟩ (ao _) (ao _);clear hnp2
 refine G (Yu Z)<|G (Xa Z Z)<|G (Xi Z Z)<|bo H 0 (#[J (p2.epoch),J (p2.leader),.slice p2.iA p2.isr.length p2.iC,.slice p2.kA p2.known.length p2.kC,.slice p2.rA p2.reps.length p2.rC,J (p2.few),J (p2.base)]) aK Z Z Z Z Z N N fun w13 H=>G (Wi Z)<|U ?_
 obtain rfl:z=((pM q.p.a r).1,0,(pM q.p.a r).2):=by rw[<-hz];unfold lG;rw[if_neg h33,if_neg h43,if_neg h52,if_pos h63,htr]
 exact⟨(p2,_,_),⟨hap2,H⟩,kO Z Z,Qg⟩
 refine G (Wb Z)<|U<|ZF Z<|W<|Zr ?_
 refine cT (bl Z Z) Z Z Z (fun h72=> ?_) (fun h72=> ?_)
 refine G (Wb Z)<|U<|ZT Z<|Zr<|G (Zw aG H 0 Z Z Z)<|G (Zf eN Z)<|G (Zd aj H 2 Z Z Z)<|cd DY ((by have hA:=Kj q.p r _ (Hp.paM H (hps q hqm)) hok hr;rw[<-hnr]at hA;exact hA)) Z Z ?_
 rintro _ w14 ⟨p2,rfl,hap2,hnp2⟩;replace H:=H.learn hnp2.2 (tg w0 w5.heap.size w14.heap.size p2) ⟨H.size,hnp2.1⟩ (ao _) (ao _);clear hnp2
 refine G (Yu Z)<|G (Xa Z Z)<|G (Xi Z Z)<|bo H 0 (#[J (p2.epoch),J (p2.leader),.slice p2.iA p2.isr.length p2.iC,.slice p2.kA p2.known.length p2.kC,.slice p2.rA p2.reps.length p2.rC,J (p2.few),J (p2.base)]) aK Z Z Z Z Z N N fun w15 H=>G (Wi Z)<|U ?_
 obtain rfl:z=((nO q.p.a r).1,0,(nO q.p.a r).2):=by rw[<-hz];unfold lG;rw[if_neg h33,if_neg h43,if_neg h52,if_neg h63,if_pos h72,htr]
 exact⟨(p2,_,_),⟨hap2,H⟩,kO Z Z,Qg⟩
 refine G (Wb Z)<|U<|ZF Z<|W<|Zr ?_
 refine cT (bl Z Z) Z Z Z (fun h81=> ?_) (fun h81=> ?_)
 refine G (Wb Z)<|U<|ZT Z<|Zr<|G (Zw aG H 0 Z Z Z)<|G (Zf eN Z)<|G (Zd aj H 2 Z Z Z)<|cd BU ((by have hA:=IH q.p r _ (Hp.paM H (hps q hqm)) hok hr;rw[<-hnr]at hA;exact hA)) Z Z ?_
 rintro _ w16 ⟨p2,rfl,hap2,hnp2⟩;replace H:=H.learn hnp2.2 (tg w0 w5.heap.size w16.heap.size p2) ⟨H.size,hnp2.1⟩ (ao _) (ao _);clear hnp2
 refine G (Yu Z)<|G (Xa Z Z)<|G (Xi Z Z)<|bo H 0 (#[J (p2.epoch),J (p2.leader),.slice p2.iA p2.isr.length p2.iC,.slice p2.kA p2.known.length p2.kC,.slice p2.rA p2.reps.length p2.rC,J (p2.few),J (p2.base)]) aK Z Z Z Z Z N N fun w17 H=>G (Wi Z)<|U ?_
 obtain rfl:z=((iX q.p.a r).1,0,(iX q.p.a r).2):=by rw[<-hz];unfold lG;rw[if_neg h33,if_neg h43,if_neg h52,if_neg h63,if_neg h72,if_pos h81,htr]
 exact⟨(p2,_,_),⟨hap2,H⟩,kO Z Z,Qg⟩
 refine G (Wb Z)<|U<|ZF Z<|W<|Zr ?_
 refine cT (bl Z Z) Z Z Z (fun h90=> ?_) (fun h90=> ?_)
 refine G (Wb Z)<|U<|ZT Z<|Zr<|G (Zw aG H 0 Z Z Z)<|G (Zf eN Z)<|G (Zd aj H 2 Z Z Z)<|cd AK ((by have hA:=Gn q.p r _ (Hp.paM H (hps q hqm)) hok hr;rw[<-hnr]at hA;exact hA)) Z Z ?_
 rintro _ w18 ⟨p2,rfl,hap2,hnp2⟩;replace H:=H.learn hnp2.2 (tg w0 w5.heap.size w18.heap.size p2) ⟨H.size,hnp2.1⟩ (ao _) (ao _);clear hnp2
 refine G (Yu Z)<|G (Xa Z Z)<|G (Xi Z Z)<|bo H 0 (#[J (p2.epoch),J (p2.leader),.slice p2.iA p2.isr.length p2.iC,.slice p2.kA p2.known.length p2.kC,.slice p2.rA p2.reps.length p2.rC,J (p2.few),J (p2.base)]) aK Z Z Z Z Z N N fun w19 H=>G (Wi Z)<|U ?_
 obtain rfl:z=((gU q.p.a r).1,0,(gU q.p.a r).2):=by rw[<-hz];unfold lG;rw[if_neg h33,if_neg h43,if_neg h52,if_neg h63,if_neg h72,if_neg h81,if_pos h90,htr]
 exact⟨(p2,_,_),⟨hap2,H⟩,kO Z Z,Qg⟩
 refine G (Wb Z)<|U<|ZF Z<|Zr<|G (Zw aG H 0 Z Z Z)<|G (Zf eN Z)<|G (Zd aj H 2 Z Z Z)<|cd AL ((by have hA:=Gq q.p r _ (Hp.paM H (hps q hqm)) hok hr;rw[<-hnr]at hA;exact hA)) Z Z ?_
 rintro _ w20 ⟨p2,rfl,hap2,hnp2⟩;replace H:=H.learn hnp2.2 (tg w0 w5.heap.size w20.heap.size p2) ⟨H.size,hnp2.1⟩ (ao _) (ao _);clear hnp2
 refine G (Yu Z)<|G (Xa Z Z)<|G (Xi Z Z)<|bo H 0 (#[J (p2.epoch),J (p2.leader),.slice p2.iA p2.isr.length p2.iC,.slice p2.kA p2.known.length p2.kC,.slice p2.rA p2.reps.length p2.rC,J (p2.few),J (p2.base)]) aK Z Z Z Z Z N N fun w21 H=>G (Wi Z)<|U ?_
 obtain rfl:z=((fG q.p.a r).1,0,(fG q.p.a r).2):=by rw[<-hz];unfold lG;rw[if_neg h33,if_neg h43,if_neg h52,if_neg h63,if_neg h72,if_neg h81,if_neg h90,htr]
 exact⟨(p2,_,_),⟨hap2,H⟩,kO Z Z,Qg⟩
 rintro⟨p2,lo,hi⟩ ρ1 w22 ⟨hap2,H⟩
 show CW _ _ _ _ (dC (gC _ _ ρ1) [(6,J z.2.1),(7,J z.2.2)]) w22
 refine W<|W<|Zr<|G (Yi Z) ?_
 refine qm (iL Z Z) Z Z Z (fun h99=> ?_) (fun h99=> ?_)
 refine U<|ZT Z<|W<|Zr<|G (Yi Z)<|cd bN (dO z.2.2 _) Z Z ?_
 rintro _ w23 ⟨rfl,hb⟩;replace H:=H.later hb;clear hb
 refine bo H 1 (#[J (z.2.2),J (0),.slice none 0 0]) aO Z Z Z Z Z N N fun w24 H=>U<|Zt ?_
 exact eM (cs0:= #[J (z.2.2),J (0),.slice none 0 0]) Z aM Z (H.ent (i:=1) Z) Z ⟨⟨ps,some ⟨gP,0,none⟩,pC,co,clo,chi,gr,glo,ghi,sns,snA,snC⟩,by rw[hsp,hz,if_neg h99];exact oF.plain _ _ _,by rw[hsp,hz,if_neg h99];rfl,Bw.shut (X:=[(b5,_),(b4,_),(b3,_)]) row hsn hown (ak _ hco) (ak _ hgr) (fun q hq=>ak _ (hps q hq)) (fun f hf=>ak _ hf) H Z⟩
 refine U<|ZF Z<|Zk<|W ?_
 refine bz bX [0,1,2,3,4,5,6,7,8] [9] [] [0,1,2,3,5,8] (sp []) N N N N Nq (cF _) ?_
 refine aw Z Z Z Z Z (fun w' hw'=>Yp Z)<|aw Z Z Z Z Z (fun w' hw'=>aI Z)<|aw Z Z Z Z Z (fun w' hw'=>Zf aU Z)<|aw Z Z Z Z Z (fun w' hw'=>Zf dG Z)<|aw Z Z Z Z Z (fun w' hw'=>aT eg Z (aB ((H.later hw').ent (i:=3) Z) Z))<|aw Z Z Z Z Z (fun w' hw'=>Zf dQ Z)<|aw Z Z Z Z Z (fun w' hw'=>aT aj Z (aB ((H.later hw').ent (i:=2) Z) Z))<|aw Z Z Z Z Z (fun w' hw'=>jw aG Z ((H.later hw').ent (i:=0) Z) Z)<|aw Z Z Z Z Z (fun w' hw'=>cB (k:=n) ic Z (congrArg (Value.int .i64) hna) (by first|omega|(simp only[ab];omega)))<|aR ?_
 intro w25 hw' hF
 replace H:=H.later hw';clear hw' hF
 refine kH H 4 (⟨p2,lo,hi⟩) aK row hq 0 Z Z Z Z Z Z N fun w27 cur26 row26 H=> ?_
 have hs28:(ps.set n (⟨p2,lo,hi⟩))[n]? =some (⟨p2,lo,hi⟩):=am (cE hq).1
 refine U<|W<|Zr<|G (Yi Z)<|G (bi (cs:= #[J (0),J (z.2.1),.slice none 0 0]) iz dk N)<|bo H 1 (#[J (0),J (z.2.1),.slice none 0 0]) aO Z Z Z Z Z N N fun w29 H=>U<|Zt ?_
 have hz0:z.2.2=0:=by simpa using h99
 exact eM (cs0:= #[J (0),J (z.2.1),.slice none 0 0]) Z aM Z (H.ent (i:=1) Z) Z ⟨⟨ps.set n ⟨p2,lo,hi⟩,some ⟨gP,0,none⟩,pC,co,clo,chi,gr,glo,ghi,sns,snA,snC⟩,by rw[hsp,hz,if_pos hz0];exact oF.plain _ _ _,by rw[hsp,hz,if_pos hz0,htn];unfold Bk.a;simp only[cw,hap2],Bw.shut (X:=[(b5,_),(b4,_),(b3,_)]) row26 hsn hown (ak _ hco) (ak _ hgr) (fun y hy=>by rcases zN hy with hy|hy;exact ak _ (hps y hy);rw[hy];exact az ..) (fun f hf=>ak _ hf) H (by simp only[Bk.c,ab])⟩
theorem MH {b:Bk} {a:Act} {z:Gr×Int} (hz:(if a.kind=16 then sR b.gr.a a.name b.ps.length else if a.kind=18 then xa b.gr.a a.name a.n else r8 b.gr.a a.name a.n a.part a.m)=z):Bq b.a a=if z.2=0 then({b.a with gr:=z.1},⟨0,z.1.gen,[]⟩)else lV b.a z.2:=by
 subst hz
 unfold Bq Gz
 rw[show b.a.ps.length=b.ps.length by show(b.ps.map _).length=_;rw[bF]]
 rfl
theorem MG {w0 w:World} {bb:Nat} {b:Bk} {gP:Nat} {uP:Array Value} {Ls Lo K:List (Nat×Obj)} {F:List cr} (a:Act) (B:Bw w0 w bb b gP uP Ls Lo K F) {k np:Nat} {wt:Int} (hk:k<=1000) (h17:a.kind≠17) (hnm:bM a.name=true) (hm:0<=a.m/\a.m<=1000) (hgi:qQ (fun _=>True) wt np k b.gr) (hp4:b.ps.length<=4):dd aa lM [.pointer (Qd bb),a.v] w fun v w2=> ∃ b':Bk,oF (Bq b.a a).2 v w2/\b'.a=(Bq b.a a).1/\xg w0 w2 bb b' K F:=by
 refine aD ro Z Z ?_
 obtain⟨z,hz⟩: ∃ z,(if a.kind=16 then sR b.gr.a a.name b.ps.length else if a.kind=18 then xa b.gr.a a.name a.n else r8 b.gr.a a.name a.n a.part a.m)=z:=⟨_,rfl⟩
 have hsp:=MH hz
 obtain⟨ps,pA,pC,co,clo,chi,gr,glo,ghi,sns,snA,snC⟩:=b
 obtain⟨hpA,row,hsn,hown,hco,hgr,hps,H⟩:=B
 dsimp only at hpA row hsn hown hco hgr hps
 subst hpA
 replace H:Hp w0 w ((bb,.cells #[.slice (Qd gP) ps.length pC,J (co.clock),J (co.next),J (co.wait),.slice co.A co.txs.length co.cap,J (gr.clock),J (gr.wait),J (gr.gen),.slice gr.mA gr.ms.length gr.mC,.slice gr.oA gr.os.length gr.oC,.slice snA sns.length snC] bK (0,0))::(gP,.cells uP bD (0,0))::(Ls++(Lo++K))) F:=H
 dsimp only at hgi hp4 hz
 show CW _ _ _ _ (args [.pointer (Qd bb),.agg #[J (a.kind),.string (a.name),J (a.part),J (a.n),J (a.m),.string (a.text),J (a.lost)]]) w
 refine W<|Zr<|fQ H Z Z fun w1 b3 H=>eH H dk Z fun w2 b4 H=>U<|W<|Zr<|G (Yp Z)<|G (aI Z)<|G (Zf aU Z)<|G (Zf jp Z)<|G (jL 5 [J (gr.clock),J (gr.wait),J (gr.gen),.slice gr.mA gr.ms.length gr.mC,.slice gr.oA gr.os.length gr.oC] aP Z Z (H.ent (i:=2) Z) Z)<|eH H dZ Z fun w3 b5 H=>bo H 0 (#[J (gr.clock),J (gr.wait),J (gr.gen),.slice gr.mA gr.ms.length gr.mC,.slice gr.oA gr.os.length gr.oC]) bB Z Z Z Z Z N N fun w4 H=>U<|W<|Zr<|G (Wi Z)<|U<|W<|W<|Zr<|G (Zf mw Z)<|G (Zd aj H 2 Z Z Z)<|U ?_
 refine eE (τ:=Gr×Nat×Nat) [6,14,15,16,17,18,19,20,21,22,23,24,25,26,27,28,29,30,31,32,33,34,35,36,37,38,39,40,41,42,43,44,45,46,47,48,49,50,51,52,53,54,55,56,57,58,59,60,61,62,63,64,65,66,67] (fun _=>[(6,J z.2)]) (fun(g3,lo,hi) w'=>g3.a=z.1/\Hp w0 w' ((b5,.cells #[J (g3.clock),J (g3.wait),J (g3.gen),.slice g3.mA g3.ms.length g3.mC,.slice g3.oA g3.os.length g3.oC] cL (0,0))::(b4,.cells #[J (0),J (0),.slice none 0 0] d8 (0,0))::(b3,.cells #[J (a.kind),.string (a.name),J (a.part),J (a.n),J (a.m),.string (a.text),J (a.lost)] fZ (0,0))::(bb,.cells #[.slice (Qd gP) ps.length pC,J (co.clock),J (co.next),J (co.wait),.slice co.A co.txs.length co.cap,J (gr.clock),J (gr.wait),J (gr.gen),.slice gr.mA gr.ms.length gr.mC,.slice gr.oA gr.os.length gr.oC,.slice snA sns.length snC] bK (0,0))::(gP,.cells uP bD (0,0))::(Ls++(Lo++K))) (JB w0 lo hi g3::F)) ?_ ?_
 refine Zb<|W<|Zr ?_
 refine cT (bl Z Z) Z Z Z (fun h28=> ?_) (fun h28=> ?_)
 refine G (Wb Z)<|U<|ZT Z ?_
 refine bz bX [0,1,2,3,4,5,6,7,8,9,10,11,12] [13,14] [9] [1,3,4,5,6,8,10,11,12] (sp [(9,Sp.deep w4.heap.size Pk (fun g:Gr=>g.c.toArray) (fun cs=> .tuple #[.agg cs,J (sR gr.a a.name ps.length).2]) (fun cq:Gr=>cq.a=(sR gr.a a.name ps.length).1))]) N N N N Nq (cF _) ?_
 refine aw Z Z Z Z Z (fun w' hw'=>jw aP Z ((H.later hw').ent (i:=0) Z) Z)<|aw Z Z Z Z Z (fun w' hw'=>Zf eZ Z)<|aw Z Z Z Z Z (fun w' hw'=>aT aY Z (aB ((H.later hw').ent (i:=2) Z) Z))<|aw Z Z Z Z Z (fun w' hw'=>Yp Z)<|aw Z Z Z Z Z (fun w' hw'=>aI Z)<|aw Z Z Z Z Z (fun w' hw'=>Zf aU Z)<|aw Z Z Z Z Z (fun w' hw'=>Zf dG Z)<|aw Z Z Z Z Z (fun w' hw'=>aT eg Z (aB ((H.later hw').ent (i:=3) Z) Z))<|aw Z Z Z Z Z (fun w' hw'=>bn lJ Z)<|sK (gv:=(fun cs=> .tuple #[.agg cs,J (sR gr.a a.name ps.length).2])) BW Z Z Z Z Z (fun w' hw'=>hw'.size) (fun w' hw'=>IV gr a.name ps.length w' (Hp.grM (H.later hw') hgr) hgi.ok hnm hp4 (by have:=hgi.gen;omega)) Z fun cs39=>aw Z Z Z Z Z (fun w' hw'=>Yu Z)<|aw Z Z Z Z Z (fun w' hw'=>Xa Z Z)<|aw Z Z Z Z Z (fun w' hw'=>Xi Z Z)<|aR ?_
 intro w5 hw' hF
 obtain⟨hF,g3,eq,hag3,hrd39⟩:=hF;cases eq
 replace H:=H.learn hw' (JB w0 w4.heap.size w5.heap.size g3) ⟨H.size,hrd39⟩ (ao _) (ao _)
 clear hw' hF
 refine bo H 0 (#[J (g3.clock),J (g3.wait),J (g3.gen),.slice g3.mA g3.ms.length g3.mC,.slice g3.oA g3.os.length g3.oC]) bB Z Z Z Z Z N N fun w6 H=>G (Wi Z)<|U ?_
 obtain rfl:z=sR gr.a a.name ps.length:=by rw[<-hz,if_pos h28]
 exact⟨(g3,_,_),⟨hag3,H⟩,dF Z,Qg⟩
 refine G (Wb Z)<|U<|ZF Z<|W<|Zr<|G (nu Z Z h17)<|G (Wb Z)<|U<|ZF Z<|W<|Zr ?_
 refine cT (bl Z Z) Z Z Z (fun h58=> ?_) (fun h58=> ?_)
 refine G (Wb Z)<|U<|ZT Z<|Zr<|G (Zw aP H 0 Z Z Z)<|G (Zf eZ Z)<|G (Zd aY H 2 Z Z Z)<|G (Zf eN Z)<|G (Zd aj H 2 Z Z Z)<|cd BX (Jp gr a.name a.n _ (Hp.grM H hgr) hgi.ok hnm) Z Z ?_
 rintro _ w7 ⟨g3,rfl,hag3,hng3⟩;replace H:=H.learn hng3.2 (JB w0 w4.heap.size w7.heap.size g3) ⟨H.size,hng3.1⟩ (ao _) (ao _);clear hng3
 refine G (Yu Z)<|G (Xa Z Z)<|G (Xi Z Z)<|bo H 0 (#[J (g3.clock),J (g3.wait),J (g3.gen),.slice g3.mA g3.ms.length g3.mC,.slice g3.oA g3.os.length g3.oC]) bB Z Z Z Z Z N N fun w8 H=>G (Wi Z)<|U ?_
 obtain rfl:z=xa gr.a a.name a.n:=by rw[<-hz,if_neg h28,if_pos h58]
 exact⟨(g3,_,_),⟨hag3,H⟩,dF Z,Qg⟩
 refine G (Wb Z)<|U<|ZF Z<|Zr<|G (Zw aP H 0 Z Z Z)<|G (Zf eZ Z)<|G (Zd aY H 2 Z Z Z)<|G (Zf eN Z)<|G (Zd aj H 2 Z Z Z)<|G (Zf dQ Z)<|G (Zd aj H 2 Z Z Z)<|G (Zf Fy Z)<|G (Zd aj H 2 Z Z Z)<|cd AM (F5 gr a.name a.n a.part a.m _ (Hp.grM H hgr) hgi.ok hnm hm.1) Z Z ?_
 rintro _ w9 ⟨g3,rfl,hag3,hng3⟩;replace H:=H.learn hng3.2 (JB w0 w4.heap.size w9.heap.size g3) ⟨H.size,hng3.1⟩ (ao _) (ao _);clear hng3
 refine G (Yu Z)<|G (Xa Z Z)<|G (Xi Z Z)<|bo H 0 (#[J (g3.clock),J (g3.wait),J (g3.gen),.slice g3.mA g3.ms.length g3.mC,.slice g3.oA g3.os.length g3.oC]) bB Z Z Z Z Z N N fun w10 H=>G (Wi Z)<|U ?_
 obtain rfl:z=r8 gr.a a.name a.n a.part a.m:=by rw[<-hz,if_neg h28,if_neg h58]
 exact⟨(g3,_,_),⟨hag3,H⟩,dF Z,Qg⟩
 rintro⟨g3,lo,hi⟩ ρ1 w11 ⟨hag3,H⟩
 show CW _ _ _ _ (dC (gC _ _ ρ1) [(6,J z.2)]) w11
 refine W<|W<|Zr<|G (Yi Z) ?_
 refine qm (iL Z Z) Z Z Z (fun h69=> ?_) (fun h69=> ?_)
 refine U<|ZT Z<|W<|Zr<|G (Yi Z)<|cd bN (dO z.2 _) Z Z ?_
 rintro _ w12 ⟨rfl,hb⟩;replace H:=H.later hb;clear hb
 refine bo H 1 (#[J (z.2),J (0),.slice none 0 0]) aO Z Z Z Z Z N N fun w13 H=>U<|Zt ?_
 exact eM (cs0:= #[J (z.2),J (0),.slice none 0 0]) Z aM Z (H.ent (i:=1) Z) Z ⟨⟨ps,some ⟨gP,0,none⟩,pC,co,clo,chi,gr,glo,ghi,sns,snA,snC⟩,by rw[hsp,if_neg h69];exact oF.plain _ _ _,by rw[hsp,if_neg h69];rfl,Bw.shut (X:=[(b5,_),(b4,_),(b3,_)]) row hsn hown (ak _ hco) (ak _ hgr) (fun q hq=>ak _ (hps q hq)) (fun f hf=>ak _ hf) H Z⟩
 refine U<|ZF Z<|Zk<|W<|Zr<|G (Yp Z)<|G (Zw aP H 0 Z Z Z)<|G (aI Z)<|G (Zf aU Z)<|G (Zf jp Z)<|bo H 3 (#[.slice (Qd gP) ps.length pC,J (co.clock),J (co.next),J (co.wait),.slice co.A co.txs.length co.cap,J (g3.clock),J (g3.wait),J (g3.gen),.slice g3.mA g3.ms.length g3.mC,.slice g3.oA g3.os.length g3.oC,.slice snA sns.length snC]) bB Z Z Z Z Z N N fun w14 H=>U<|W<|Zr<|G (Zf j9 Z)<|G (Zd aj H 0 Z Z Z)<|G (bi (cs:= #[J (0),J (g3.gen),.slice none 0 0]) iz dk N)<|bo H 1 (#[J (0),J (g3.gen),.slice none 0 0]) aO Z Z Z Z Z N N fun w15 H=>U<|Zt ?_
 have hz0:z.2=0:=by simpa using h69
 have hgn:z.1.gen=g3.gen:=by rw[<-hag3];rfl
 exact eM (cs0:= #[J (0),J (g3.gen),.slice none 0 0]) Z aM Z (H.ent (i:=1) Z) Z ⟨⟨ps,some ⟨gP,0,none⟩,pC,co,clo,chi,g3,lo,hi,sns,snA,snC⟩,by rw[hsp,if_pos hz0,hgn];exact oF.plain _ _ _,by rw[hsp,if_pos hz0,<-hag3];rfl,Bw.shut (X:=[(b5,_),(b4,_),(b3,_)]) row hsn hown (ak _ hco) (az ..) (fun q hq=>ak _ (hps q hq)) (fun f hf=>ak _ hf) H Z⟩
theorem xg.nil {w0 w:World} {bb:Nat} {b:Bk} {K:List (Nat×Obj)} {F:List cr} (h:xg w0 w bb b K F) (A:Option Addr):xg w0 w bb b K (dM kR 0 0 A []::F):=by
 obtain⟨gP,uP,Ls,Lo,F',B,hF⟩:=h
 exact⟨gP,uP,Ls,Lo,dM kR 0 0 A []::F',⟨B.pA,B.row,B.sn,B.own,ak _ B.co,ak _ B.gr,fun q hq=>ak _ (B.ps q hq),B.H.learnNil 0 (bG _) A⟩,fun f hf=>by
  rcases ax.1 hf with rfl|hf
  exact az ..
  exact ak _ (hF f hf)⟩
theorem B6 {g:Gr} (h:lu g=true) (s:ByteArray) (p:Int):0<=(eL g s p).1:=by
 unfold eL
 split
 exact iS 0
 split
 show 0<=tl g.os p
 unfold tl
 split
 rename_i o ho
 exact((du.1 h).2.2.1 o (List.mem_of_find?_eq_some ho)).2.2.1
 exact iS 0
 exact iS 0
theorem Mr {w0 w:World} {bb:Nat} {b:Bk} {gP:Nat} {uP:Array Value} {Ls Lo K:List (Nat×Obj)} {F:List cr} (a:Act) (B:Bw w0 w bb b gP uP Ls Lo K F) (hnm:bM a.name=true) (hpn:0<=a.part/\a.part<b.ps.length) {k np:Nat} {wt:Int} (hgi:qQ (fun _=>True) wt np k b.gr) (hw:(eL b.gr.a a.name a.part).2≠0):dd aa gi [.pointer (Qd bb),a.v] w fun v w2=> ∃ (x:An) (A:Option Addr) (c lo hi:Nat),qN b.a a x/\v=.agg #[J x.code,J x.n,.slice A x.texts.length c]/\x.texts.length<=c/\xg w0 w2 bb b K (dM kR lo hi A x.texts::F):=by
 refine aD im Z Z ?_
 have hP:qN b.a a _:=.no hw
 obtain⟨ps,pA,pC,co,clo,chi,gr,glo,ghi,sns,snA,snC⟩:=b
 obtain⟨hpA,row,hsn,hown,hco,hgr,hps,H⟩:=B
 dsimp only at hpA row hsn hown hco hgr hps
 subst hpA
 replace H:Hp w0 w ((bb,.cells #[.slice (Qd gP) ps.length pC,J (co.clock),J (co.next),J (co.wait),.slice co.A co.txs.length co.cap,J (gr.clock),J (gr.wait),J (gr.gen),.slice gr.mA gr.ms.length gr.mC,.slice gr.oA gr.os.length gr.oC,.slice snA sns.length snC] bK (0,0))::(gP,.cells uP bD (0,0))::(Ls++(Lo++K))) F:=H
 dsimp only at hpn hgi hw
 show CW _ _ _ _ (args [.pointer (Qd bb),.agg #[J (a.kind),.string (a.name),J (a.part),J (a.n),J (a.m),.string (a.text),J (a.lost)]]) w
 refine W<|Zr<|fQ H Z Z fun w1 b3 H=>eH H dk Z fun w2 b4 H=>U<|W<|W<|Zr<|G (Yp Z)<|G (Zf dQ Z)<|G (Zd aj H 1 Z Z Z)<|cd dV (nV bb ⟨ps,some ⟨gP,0,none⟩,pC,co,clo,chi,gr,glo,ghi,sns,snA,snC⟩ a.part _ (H.ent (i:=2) Z)) Z Z ?_
 rintro _ w3 ⟨rfl,hb⟩;replace H:=H.later hb;clear hb
 rw[decide_eq_true hpn]
 refine G (dK Z)<|U<|ZF Z<|Zk<|W ?_
 refine bz bX [0,1,2,3,4,5,6,7,8,9,10,11,12,13,14] [] [9] [0,1,2,3,5,7,10,11,12,13,14] (sp [(9,Sp.one (.tuple #[J (eL gr.a a.name a.part).1,J (eL gr.a a.name a.part).2]))]) N N N N Nq (cF _) ?_
 refine aw Z Z Z Z Z (fun w' hw'=>Yp Z)<|aw Z Z Z Z Z (fun w' hw'=>aI Z)<|aw Z Z Z Z Z (fun w' hw'=>Zf aU Z)<|aw Z Z Z Z Z (fun w' hw'=>Zf jp Z)<|aw Z Z Z Z Z (fun w' hw'=>jL 5 [J (gr.clock),J (gr.wait),J (gr.gen),.slice gr.mA gr.ms.length gr.mC,.slice gr.oA gr.os.length gr.oC] aP Z Z ((H.later hw').ent (i:=2) Z) Z)<|aw Z Z Z Z Z (fun w' hw'=>Zf eZ Z)<|aw Z Z Z Z Z (fun w' hw'=>aT aY Z (aB ((H.later hw').ent (i:=1) Z) Z))<|aw Z Z Z Z Z (fun w' hw'=>Zf dQ Z)<|aw Z Z Z Z Z (fun w' hw'=>aT aj Z (aB ((H.later hw').ent (i:=1) Z) Z))<|gL mD Z Z Z Z Z (fun w' hw'=>r6 gr a.name a.part w' (Hp.grM (H.later hw') hgr) hgi.ok hnm) Z<|aw Z Z Z Z Z (fun w' hw'=>Yu Z)<|aw Z Z Z Z Z (fun w' hw'=>Xi Z Z)<|aw Z Z Z Z Z (fun w' hw'=>Xi Z Z)<|aw Z Z Z Z Z (fun w' hw'=>Wi Z)<|aw Z Z Z Z Z (fun w' hw'=>Wi Z)<|aR ?_
 intro w4 hw' hF
 replace H:=H.later hw';clear hw' hF
 refine U<|W<|W<|Zr<|G (Yi Z)<|G (jW Z Z hw)<|U<|ZT Z<|W<|Zr<|G (Yi Z)<|cd bN (dO (eL gr.a a.name a.part).2 _) Z Z ?_
 rintro _ w5 ⟨rfl,hb⟩;replace H:=H.later hb;clear hb
 refine bo H 0 (#[J ((eL gr.a a.name a.part).2),J (0),.slice none 0 0]) aO Z Z Z Z Z N N fun w6 H=>U<|Zt ?_
 exact eM (cs0:= #[J ((eL gr.a a.name a.part).2),J (0),.slice none 0 0]) Z aM Z (H.ent (i:=0) Z) Z ⟨_,none,0,0,0,hP,rfl,ao _,xg.nil (Bw.shut (X:=[(b4,_),(b3,_)]) row hsn hown hco hgr hps (fun _ h=>h) H Z) none⟩
theorem IC {w0 w:World} {bb:Nat} {b:Bk} {gP:Nat} {uP:Array Value} {Ls Lo K:List (Nat×Obj)} {F:List cr} (a:Act) (B:Bw w0 w bb b gP uP Ls Lo K F) (hnm:bM a.name=true) (hpn:0<=a.part/\a.part<b.ps.length) (hn:1<=a.n/\a.n<=20) {k np:Nat} {wt:Int} (hgi:qQ (fun _=>True) wt np k b.gr) (hpk: ∀ q∈b.ps,q.p.a.ok) (hw:(eL b.gr.a a.name a.part).2=0) (hl: ∀ q,b.ps[a.part.toNat]? =some q->q.p.leader<0):dd aa gi [.pointer (Qd bb),a.v] w fun v w2=> ∃ (x:An) (A:Option Addr) (c lo hi:Nat),qN b.a a x/\v=.agg #[J x.code,J x.n,.slice A x.texts.length c]/\x.texts.length<=c/\xg w0 w2 bb b K (dM kR lo hi A x.texts::F):=by
 refine aD im Z Z ?_
 obtain⟨n,hna⟩: ∃ n:Nat,a.part=(n:Int):=⟨a.part.toNat,by omega⟩
 have htn:a.part.toNat=n:=by omega
 obtain⟨m,hnm2⟩: ∃ m:Nat,a.n=(m:Int):=⟨a.n.toNat,by omega⟩
 have htm:a.n.toNat=m:=by omega
 obtain⟨q,hq⟩: ∃ q,b.ps[n]? =some q:=⟨_,ah I⟩
 have hqm:=ae hq
 have hok:=hpk q hqm
 have hqa:b.a.ps[a.part.toNat]? =some q.p.a:=by rw[htn];show(b.ps.map fun q=>q.p.a)[n]? =_;rw[aL,hq];rfl
 have hlq:=hl q (by rw[htn];exact hq)
 have hP:qN b.a a _:=.yes q.p.a _ hw hqa (.none hlq)
 obtain⟨ps,pA,pC,co,clo,chi,gr,glo,ghi,sns,snA,snC⟩:=b
 obtain⟨hpA,row,hsn,hown,hco,hgr,hps,H⟩:=B
 dsimp only at hpA row hsn hown hco hgr hps
 subst hpA
 replace H:Hp w0 w ((bb,.cells #[.slice (Qd gP) ps.length pC,J (co.clock),J (co.next),J (co.wait),.slice co.A co.txs.length co.cap,J (gr.clock),J (gr.wait),J (gr.gen),.slice gr.mA gr.ms.length gr.mC,.slice gr.oA gr.os.length gr.oC,.slice snA sns.length snC] bK (0,0))::(gP,.cells uP bD (0,0))::(Ls++(Lo++K))) F:=H
 dsimp only at hpn hgi hw hq hqm
 show CW _ _ _ _ (args [.pointer (Qd bb),.agg #[J (a.kind),.string (a.name),J (a.part),J (a.n),J (a.m),.string (a.text),J (a.lost)]]) w
 refine W<|Zr<|fQ H Z Z fun w1 b3 H=>eH H dk Z fun w2 b4 H=>U<|W<|W<|Zr<|G (Yp Z)<|G (Zf dQ Z)<|G (Zd aj H 1 Z Z Z)<|cd dV (nV bb ⟨ps,some ⟨gP,0,none⟩,pC,co,clo,chi,gr,glo,ghi,sns,snA,snC⟩ a.part _ (H.ent (i:=2) Z)) Z Z ?_
 rintro _ w3 ⟨rfl,hb⟩;replace H:=H.later hb;clear hb
 rw[decide_eq_true hpn]
 refine G (dK Z)<|U<|ZF Z<|Zk<|W ?_
 refine bz bX [0,1,2,3,4,5,6,7,8,9,10,11,12,13,14] [] [9] [0,1,2,3,5,7,10,11,12,13,14] (sp [(9,Sp.one (.tuple #[J (eL gr.a a.name a.part).1,J (eL gr.a a.name a.part).2]))]) N N N N Nq (cF _) ?_
 refine aw Z Z Z Z Z (fun w' hw'=>Yp Z)<|aw Z Z Z Z Z (fun w' hw'=>aI Z)<|aw Z Z Z Z Z (fun w' hw'=>Zf aU Z)<|aw Z Z Z Z Z (fun w' hw'=>Zf jp Z)<|aw Z Z Z Z Z (fun w' hw'=>jL 5 [J (gr.clock),J (gr.wait),J (gr.gen),.slice gr.mA gr.ms.length gr.mC,.slice gr.oA gr.os.length gr.oC] aP Z Z ((H.later hw').ent (i:=2) Z) Z)<|aw Z Z Z Z Z (fun w' hw'=>Zf eZ Z)<|aw Z Z Z Z Z (fun w' hw'=>aT aY Z (aB ((H.later hw').ent (i:=1) Z) Z))<|aw Z Z Z Z Z (fun w' hw'=>Zf dQ Z)<|aw Z Z Z Z Z (fun w' hw'=>aT aj Z (aB ((H.later hw').ent (i:=1) Z) Z))<|gL mD Z Z Z Z Z (fun w' hw'=>r6 gr a.name a.part w' (Hp.grM (H.later hw') hgr) hgi.ok hnm) Z<|aw Z Z Z Z Z (fun w' hw'=>Yu Z)<|aw Z Z Z Z Z (fun w' hw'=>Xi Z Z)<|aw Z Z Z Z Z (fun w' hw'=>Xi Z Z)<|aw Z Z Z Z Z (fun w' hw'=>Wi Z)<|aw Z Z Z Z Z (fun w' hw'=>Wi Z)<|aR ?_
 intro w4 hw' hF
 replace H:=H.later hw';clear hw' hF
 refine U<|W<|W<|Zr<|G (Yi Z)<|G (bU Z Z I)<|U<|ZF Z<|Zk<|W ?_
 refine G3 bX [12,13,14,15,16,17,18,19] [] [0,1,2,3,5,7,9,10]<|jr [0,1,2,3,4,5,6,7,8,9,10,11] [12,13,14,15,16,17,18,19] [] [0,1,2,3,5,7,9,10] 7 _ N N N Nq<|aw Z Z Z Z Z (fun w' hw'=>Yp Z)<|aw Z Z Z Z Z (fun w' hw'=>aI Z)<|aw Z Z Z Z Z (fun w' hw'=>Zf aU Z)<|aw Z Z Z Z Z (fun w' hw'=>Zf dG Z)<|aw Z Z Z Z Z (fun w' hw'=>aT eg Z (aB ((H.later hw').ent (i:=2) Z) Z))<|aw Z Z Z Z Z (fun w' hw'=>Zf dQ Z)<|aw Z Z Z Z Z (fun w' hw'=>aT aj Z (aB ((H.later hw').ent (i:=1) Z) Z))<|aw Z Z Z Z Z (fun w' hw'=>cB (k:=n) ic Z (congrArg (Value.int .i64) hna) (by first|omega|(simp only[ab];omega)))<|aw Z Z Z Z Z (fun w' hw'=>oH aG row hq Z Z ((H.later hw').ent (i:=3) Z))<|aw Z Z Z Z Z (fun w' hw'=>Yi Z)<|aw Z Z Z Z Z (fun w' hw'=>Zf eN Z)<|aw Z Z Z Z Z (fun w' hw'=>aT aj Z (aB ((H.later hw').ent (i:=1) Z) Z))<|aR ?_
 intro w5 hw' _;replace H:=H.later hw';clear hw'
 refine da 12 N Z<|cd sI (Gp q.p (eL gr.a a.name a.part).1 a.n _ (Hp.paM H (hps q hqm)) hok hlq) Z Z ?_
 rintro _ w6 ⟨rfl,hb⟩;replace H:=H.later hb;clear hb
 refine U<|bx 13 N N N Z Z Z Z Nq (fun _=>Yu Z)<|bx 14 N N N Z Z Z Z Nq (fun _=>Xs Z Z)<|bx 15 N N N Z Z Z Z Nq (fun _=>Xi Z Z)<|bx 16 N N N Z Z Z Z Nq (fun _=>Xi Z Z)<|bx 17 N N N Z Z Z Z Nq (fun _=>Ws Z)<|bx 18 N N N Z Z Z Z Nq (fun _=>Wi Z)<|bx 19 N N N Z Z Z Z Nq (fun _=>Wi Z)<|cy N<|W<|W<|Zr<|G (Yi Z)<|G (jW Z Z (by decide))<|U<|ZT Z<|W<|Zr<|G (Yi Z)<|cd bN (dO 8 _) Z Z ?_
 rintro _ w7 ⟨rfl,hb⟩;replace H:=H.later hb;clear hb
 refine bo H 0 (#[J (8),J (0),.slice none 0 0]) aO Z Z Z Z Z N N fun w8 H=>U<|Zt ?_
 exact eM (cs0:= #[J (8),J (0),.slice none 0 0]) Z aM Z (H.ent (i:=0) Z) Z ⟨_,none,0,0,0,hP,rfl,ao _,xg.nil (Bw.shut (X:=[(b4,_),(b3,_)]) row hsn hown hco hgr hps (fun _ h=>h) H Z) none⟩
theorem Gk {w0 w:World} {bb:Nat} {b:Bk} {gP:Nat} {uP:Array Value} {Ls Lo K:List (Nat×Obj)} {F:List cr} (a:Act) (B:Bw w0 w bb b gP uP Ls Lo K F) (hnm:bM a.name=true) (hpn:0<=a.part/\a.part<b.ps.length) (hn:1<=a.n/\a.n<=20) {k np:Nat} {wt:Int} (hgi:qQ (fun _=>True) wt np k b.gr) (hpk: ∀ q∈b.ps,q.p.a.ok) (hw:(eL b.gr.a a.name a.part).2=0) {l:Nat} {r:fb} (hld: ∀ q,b.ps[a.part.toNat]? =some q->q.p.leader=l/\q.p.reps[l]? =some r) (hr:r.es.length<(eL b.gr.a a.name a.part).1.toNat):dd aa gi [.pointer (Qd bb),a.v] w fun v w2=> ∃ (x:An) (A:Option Addr) (c lo hi:Nat),qN b.a a x/\v=.agg #[J x.code,J x.n,.slice A x.texts.length c]/\x.texts.length<=c/\xg w0 w2 bb b K (dM kR lo hi A x.texts::F):=by
 refine aD im Z Z ?_
 obtain⟨n,hna⟩: ∃ n:Nat,a.part=(n:Int):=⟨a.part.toNat,by omega⟩
 have htn:a.part.toNat=n:=by omega
 obtain⟨m,hnm2⟩: ∃ m:Nat,a.n=(m:Int):=⟨a.n.toNat,by omega⟩
 have htm:a.n.toNat=m:=by omega
 obtain⟨q,hq⟩: ∃ q,b.ps[n]? =some q:=⟨_,ah I⟩
 have hqm:=ae hq
 have hok:=hpk q hqm
 have hqa:b.a.ps[a.part.toNat]? =some q.p.a:=by rw[htn];show(b.ps.map fun q=>q.p.a)[n]? =_;rw[aL,hq];rfl
 obtain⟨hl1,hl2⟩:=hld q (by rw[htn];exact hq)
 have hra:q.p.a.reps[l]? =some r.a:=by show(q.p.reps.map fb.a)[l]? =_;rw[aL,hl2];rfl
 obtain⟨fr,hfr⟩: ∃ f:Nat,(eL b.gr.a a.name a.part).1=(f:Int):=⟨(eL b.gr.a a.name a.part).1.toNat,by have:=B6 (g:=b.gr.a) ((DB _).2 hgi.ok) a.name a.part;omega⟩
 have htf:(eL b.a.gr a.name a.part).1.toNat=fr:=by show(eL b.gr.a a.name a.part).1.toNat=fr;omega
 have hP:qN b.a a _:=.yes q.p.a _ hw hqa (.range l r.a hl1 hra hr)
 obtain⟨ps,pA,pC,co,clo,chi,gr,glo,ghi,sns,snA,snC⟩:=b
 obtain⟨hpA,row,hsn,hown,hco,hgr,hps,H⟩:=B
 dsimp only at hpA row hsn hown hco hgr hps
 subst hpA
 replace H:Hp w0 w ((bb,.cells #[.slice (Qd gP) ps.length pC,J (co.clock),J (co.next),J (co.wait),.slice co.A co.txs.length co.cap,J (gr.clock),J (gr.wait),J (gr.gen),.slice gr.mA gr.ms.length gr.mC,.slice gr.oA gr.os.length gr.oC,.slice snA sns.length snC] bK (0,0))::(gP,.cells uP bD (0,0))::(Ls++(Lo++K))) F:=H
 dsimp only at hpn hgi hw hq hqm hfr hr
 show CW _ _ _ _ (args [.pointer (Qd bb),.agg #[J (a.kind),.string (a.name),J (a.part),J (a.n),J (a.m),.string (a.text),J (a.lost)]]) w
 refine W<|Zr<|fQ H Z Z fun w1 b3 H=>eH H dk Z fun w2 b4 H=>U<|W<|W<|Zr<|G (Yp Z)<|G (Zf dQ Z)<|G (Zd aj H 1 Z Z Z)<|cd dV (nV bb ⟨ps,some ⟨gP,0,none⟩,pC,co,clo,chi,gr,glo,ghi,sns,snA,snC⟩ a.part _ (H.ent (i:=2) Z)) Z Z ?_
 rintro _ w3 ⟨rfl,hb⟩;replace H:=H.later hb;clear hb
 rw[decide_eq_true hpn]
 refine G (dK Z)<|U<|ZF Z<|Zk<|W ?_
 refine bz bX [0,1,2,3,4,5,6,7,8,9,10,11,12,13,14] [] [9] [0,1,2,3,5,7,10,11,12,13,14] (sp [(9,Sp.one (.tuple #[J (eL gr.a a.name a.part).1,J (eL gr.a a.name a.part).2]))]) N N N N Nq (cF _) ?_
 refine aw Z Z Z Z Z (fun w' hw'=>Yp Z)<|aw Z Z Z Z Z (fun w' hw'=>aI Z)<|aw Z Z Z Z Z (fun w' hw'=>Zf aU Z)<|aw Z Z Z Z Z (fun w' hw'=>Zf jp Z)<|aw Z Z Z Z Z (fun w' hw'=>jL 5 [J (gr.clock),J (gr.wait),J (gr.gen),.slice gr.mA gr.ms.length gr.mC,.slice gr.oA gr.os.length gr.oC] aP Z Z ((H.later hw').ent (i:=2) Z) Z)<|aw Z Z Z Z Z (fun w' hw'=>Zf eZ Z)<|aw Z Z Z Z Z (fun w' hw'=>aT aY Z (aB ((H.later hw').ent (i:=1) Z) Z))<|aw Z Z Z Z Z (fun w' hw'=>Zf dQ Z)<|aw Z Z Z Z Z (fun w' hw'=>aT aj Z (aB ((H.later hw').ent (i:=1) Z) Z))<|gL mD Z Z Z Z Z (fun w' hw'=>r6 gr a.name a.part w' (Hp.grM (H.later hw') hgr) hgi.ok hnm) Z<|aw Z Z Z Z Z (fun w' hw'=>Yu Z)<|aw Z Z Z Z Z (fun w' hw'=>Xi Z Z)<|aw Z Z Z Z Z (fun w' hw'=>Xi Z Z)<|aw Z Z Z Z Z (fun w' hw'=>Wi Z)<|aw Z Z Z Z Z (fun w' hw'=>Wi Z)<|aR ?_
 intro w4 hw' hF
 replace H:=H.later hw';clear hw' hF
 refine U<|W<|W<|Zr<|G (Yi Z)<|G (bU Z Z I)<|U<|ZF Z<|Zk<|W ?_
 refine G3 bX [12,13,14,15,16,17,18,19] [] [0,1,2,3,5,7,9,10]<|jr [0,1,2,3,4,5,6,7,8,9,10,11] [12,13,14,15,16,17,18,19] [] [0,1,2,3,5,7,9,10] 7 _ N N N Nq<|aw Z Z Z Z Z (fun w' hw'=>Yp Z)<|aw Z Z Z Z Z (fun w' hw'=>aI Z)<|aw Z Z Z Z Z (fun w' hw'=>Zf aU Z)<|aw Z Z Z Z Z (fun w' hw'=>Zf dG Z)<|aw Z Z Z Z Z (fun w' hw'=>aT eg Z (aB ((H.later hw').ent (i:=2) Z) Z))<|aw Z Z Z Z Z (fun w' hw'=>Zf dQ Z)<|aw Z Z Z Z Z (fun w' hw'=>aT aj Z (aB ((H.later hw').ent (i:=1) Z) Z))<|aw Z Z Z Z Z (fun w' hw'=>cB (k:=n) ic Z (congrArg (Value.int .i64) hna) (by first|omega|(simp only[ab];omega)))<|aw Z Z Z Z Z (fun w' hw'=>oH aG row hq Z Z ((H.later hw').ent (i:=3) Z))<|aw Z Z Z Z Z (fun w' hw'=>Yi Z)<|aw Z Z Z Z Z (fun w' hw'=>Zf eN Z)<|aw Z Z Z Z Z (fun w' hw'=>aT aj Z (aB ((H.later hw').ent (i:=1) Z) Z))<|aR ?_
 intro w5 hw' _;replace H:=H.later hw';clear hw'
 refine da 12 N Z<|cd sI ((by have hA:=EN q.p fr m l r _ (Hp.paM H (hps q hqm)) hok hl1 hl2 I;rw[<-hfr,<-hnm2]at hA;exact hA)) Z Z ?_
 rintro _ w6 ⟨rfl,hb⟩;replace H:=H.later hb;clear hb
 refine U<|bx 13 N N N Z Z Z Z Nq (fun _=>Yu Z)<|bx 14 N N N Z Z Z Z Nq (fun _=>Xs Z Z)<|bx 15 N N N Z Z Z Z Nq (fun _=>Xi Z Z)<|bx 16 N N N Z Z Z Z Nq (fun _=>Xi Z Z)<|bx 17 N N N Z Z Z Z Nq (fun _=>Ws Z)<|bx 18 N N N Z Z Z Z Nq (fun _=>Wi Z)<|bx 19 N N N Z Z Z Z Nq (fun _=>Wi Z)<|cy N<|W<|W<|Zr<|G (Yi Z)<|G (jW Z Z (by decide))<|U<|ZT Z<|W<|Zr<|G (Yi Z)<|cd bN (dO 2 _) Z Z ?_
 rintro _ w7 ⟨rfl,hb⟩;replace H:=H.later hb;clear hb
 refine bo H 0 (#[J (2),J (0),.slice none 0 0]) aO Z Z Z Z Z N N fun w8 H=>U<|Zt ?_
 exact eM (cs0:= #[J (2),J (0),.slice none 0 0]) Z aM Z (H.ent (i:=0) Z) Z ⟨_,none,0,0,0,hP,rfl,ao _,xg.nil (Bw.shut (X:=[(b4,_),(b3,_)]) row hsn hown hco hgr hps (fun _ h=>h) H Z) none⟩
theorem Mq {w0 w:World} {bb:Nat} {b:Bk} {gP:Nat} {uP:Array Value} {Ls Lo K:List (Nat×Obj)} {F:List cr} (a:Act) (B:Bw w0 w bb b gP uP Ls Lo K F) (hnm:bM a.name=true) (hpn:0<=a.part/\a.part<b.ps.length) (hn:1<=a.n/\a.n<=20) {k np:Nat} {wt:Int} (hgi:qQ (fun _=>True) wt np k b.gr) (hpk: ∀ q∈b.ps,q.p.a.ok) (hw:(eL b.gr.a a.name a.part).2=0) {l:Nat} {r:fb} (hld: ∀ q,b.ps[a.part.toNat]? =some q->q.p.leader=l/\q.p.reps[l]? =some r) (hr:(eL b.gr.a a.name a.part).1.toNat<=r.es.length):dd aa gi [.pointer (Qd bb),a.v] w fun v w2=> ∃ (x:An) (A:Option Addr) (c lo hi:Nat),qN b.a a x/\v=.agg #[J x.code,J x.n,.slice A x.texts.length c]/\x.texts.length<=c/\xg w0 w2 bb b K (dM kR lo hi A x.texts::F):=by
 refine aD im Z Z ?_
 obtain⟨n,hna⟩: ∃ n:Nat,a.part=(n:Int):=⟨a.part.toNat,by omega⟩
 have htn:a.part.toNat=n:=by omega
 obtain⟨m,hnm2⟩: ∃ m:Nat,a.n=(m:Int):=⟨a.n.toNat,by omega⟩
 have htm:a.n.toNat=m:=by omega
 obtain⟨q,hq⟩: ∃ q,b.ps[n]? =some q:=⟨_,ah I⟩
 have hqm:=ae hq
 have hok:=hpk q hqm
 have hqa:b.a.ps[a.part.toNat]? =some q.p.a:=by rw[htn];show(b.ps.map fun q=>q.p.a)[n]? =_;rw[aL,hq];rfl
 obtain⟨hl1,hl2⟩:=hld q (by rw[htn];exact hq)
 have hra:q.p.a.reps[l]? =some r.a:=by show(q.p.reps.map fb.a)[l]? =_;rw[aL,hl2];rfl
 obtain⟨fr,hfr⟩: ∃ f:Nat,(eL b.gr.a a.name a.part).1=(f:Int):=⟨(eL b.gr.a a.name a.part).1.toNat,by have:=B6 (g:=b.gr.a) ((DB _).2 hgi.ok) a.name a.part;omega⟩
 have htf:(eL b.a.gr a.name a.part).1.toNat=fr:=by show(eL b.gr.a a.name a.part).1.toNat=fr;omega
 have hP: ∀ st out bt,tF (r.es.take r.high.toNat) st->AZ r.es r.high.toNat st fr m out bt->qN b.a a ⟨0,(bt:Nat),out⟩:=fun st out bt h1 h2=> .yes q.p.a _ hw hqa (.ok l r.a st out bt hl1 hra (by rw[htf];show fr<=r.es.length;omega) h1 (by rw[htf,htm];exact h2))
 obtain⟨ps,pA,pC,co,clo,chi,gr,glo,ghi,sns,snA,snC⟩:=b
 obtain⟨hpA,row,hsn,hown,hco,hgr,hps,H⟩:=B
 dsimp only at hpA row hsn hown hco hgr hps
 subst hpA
 replace H:Hp w0 w ((bb,.cells #[.slice (Qd gP) ps.length pC,J (co.clock),J (co.next),J (co.wait),.slice co.A co.txs.length co.cap,J (gr.clock),J (gr.wait),J (gr.gen),.slice gr.mA gr.ms.length gr.mC,.slice gr.oA gr.os.length gr.oC,.slice snA sns.length snC] bK (0,0))::(gP,.cells uP bD (0,0))::(Ls++(Lo++K))) F:=H
 dsimp only at hpn hgi hw hq hqm hfr hr hP
 show CW _ _ _ _ (args [.pointer (Qd bb),.agg #[J (a.kind),.string (a.name),J (a.part),J (a.n),J (a.m),.string (a.text),J (a.lost)]]) w
 refine W<|Zr<|fQ H Z Z fun w1 b3 H=>eH H dk Z fun w2 b4 H=>U<|W<|W<|Zr<|G (Yp Z)<|G (Zf dQ Z)<|G (Zd aj H 1 Z Z Z)<|cd dV (nV bb ⟨ps,some ⟨gP,0,none⟩,pC,co,clo,chi,gr,glo,ghi,sns,snA,snC⟩ a.part _ (H.ent (i:=2) Z)) Z Z ?_
 rintro _ w3 ⟨rfl,hb⟩;replace H:=H.later hb;clear hb
 rw[decide_eq_true hpn]
 refine G (dK Z)<|U<|ZF Z<|Zk<|W ?_
 refine bz bX [0,1,2,3,4,5,6,7,8,9,10,11,12,13,14] [] [9] [0,1,2,3,5,7,10,11,12,13,14] (sp [(9,Sp.one (.tuple #[J (eL gr.a a.name a.part).1,J (eL gr.a a.name a.part).2]))]) N N N N Nq (cF _) ?_
 refine aw Z Z Z Z Z (fun w' hw'=>Yp Z)<|aw Z Z Z Z Z (fun w' hw'=>aI Z)<|aw Z Z Z Z Z (fun w' hw'=>Zf aU Z)<|aw Z Z Z Z Z (fun w' hw'=>Zf jp Z)<|aw Z Z Z Z Z (fun w' hw'=>jL 5 [J (gr.clock),J (gr.wait),J (gr.gen),.slice gr.mA gr.ms.length gr.mC,.slice gr.oA gr.os.length gr.oC] aP Z Z ((H.later hw').ent (i:=2) Z) Z)<|aw Z Z Z Z Z (fun w' hw'=>Zf eZ Z)<|aw Z Z Z Z Z (fun w' hw'=>aT aY Z (aB ((H.later hw').ent (i:=1) Z) Z))<|aw Z Z Z Z Z (fun w' hw'=>Zf dQ Z)<|aw Z Z Z Z Z (fun w' hw'=>aT aj Z (aB ((H.later hw').ent (i:=1) Z) Z))<|gL mD Z Z Z Z Z (fun w' hw'=>r6 gr a.name a.part w' (Hp.grM (H.later hw') hgr) hgi.ok hnm) Z<|aw Z Z Z Z Z (fun w' hw'=>Yu Z)<|aw Z Z Z Z Z (fun w' hw'=>Xi Z Z)<|aw Z Z Z Z Z (fun w' hw'=>Xi Z Z)<|aw Z Z Z Z Z (fun w' hw'=>Wi Z)<|aw Z Z Z Z Z (fun w' hw'=>Wi Z)<|aR ?_
 intro w4 hw' hF
 replace H:=H.later hw';clear hw' hF
 refine U<|W<|W<|Zr<|G (Yi Z)<|G (bU Z Z I)<|U<|ZF Z<|Zk<|W ?_
 refine G3 bX [12,13,14,15,16,17,18,19] [] [0,1,2,3,5,7,9,10]<|jr [0,1,2,3,4,5,6,7,8,9,10,11] [12,13,14,15,16,17,18,19] [] [0,1,2,3,5,7,9,10] 7 _ N N N Nq<|aw Z Z Z Z Z (fun w' hw'=>Yp Z)<|aw Z Z Z Z Z (fun w' hw'=>aI Z)<|aw Z Z Z Z Z (fun w' hw'=>Zf aU Z)<|aw Z Z Z Z Z (fun w' hw'=>Zf dG Z)<|aw Z Z Z Z Z (fun w' hw'=>aT eg Z (aB ((H.later hw').ent (i:=2) Z) Z))<|aw Z Z Z Z Z (fun w' hw'=>Zf dQ Z)<|aw Z Z Z Z Z (fun w' hw'=>aT aj Z (aB ((H.later hw').ent (i:=1) Z) Z))<|aw Z Z Z Z Z (fun w' hw'=>cB (k:=n) ic Z (congrArg (Value.int .i64) hna) (by first|omega|(simp only[ab];omega)))<|aw Z Z Z Z Z (fun w' hw'=>oH aG row hq Z Z ((H.later hw').ent (i:=3) Z))<|aw Z Z Z Z Z (fun w' hw'=>Yi Z)<|aw Z Z Z Z Z (fun w' hw'=>Zf eN Z)<|aw Z Z Z Z Z (fun w' hw'=>aT aj Z (aB ((H.later hw').ent (i:=1) Z) Z))<|aR ?_
 intro w5 hw' _;replace H:=H.later hw';clear hw'
 refine da 12 N Z<|cd sI ((by have hA:=Km q.p fr m l r _ (Hp.paM H (hps q hqm)) hok hl1 hl2 I I I;rw[<-hfr,<-hnm2]at hA;exact hA)) Z Z ?_
 rintro _ w6 ⟨sb,out,bt,A7,c7,hst7,hrd7,rfl,hr7,hc7,hb7⟩;replace H:=H.learnRd hb7 hr7;clear hr7 hb7
 refine U<|bx 13 N N N Z Z Z Z Nq (fun _=>Yu Z)<|bx 14 N N N Z Z Z Z Nq (fun _=>Xs Z Z)<|bx 15 N N N Z Z Z Z Nq (fun _=>Xi Z Z)<|bx 16 N N N Z Z Z Z Nq (fun _=>Xi Z Z)<|bx 17 N N N Z Z Z Z Nq (fun _=>Ws Z)<|bx 18 N N N Z Z Z Z Nq (fun _=>Wi Z)<|bx 19 N N N Z Z Z Z Nq (fun _=>Wi Z)<|cy N<|W<|W<|Zr<|G (Yi Z)<|G (bU Z Z (by decide))<|U<|ZF Z<|Zk<|W<|Zr<|G (Yi Z)<|G (Ys Z)<|G (bi (cs:= #[J (0),J ((bt:Nat)),.slice A7 out.length c7]) iz dk N)<|bo H 0 (#[J (0),J ((bt:Nat)),.slice A7 out.length c7]) aO Z Z Z Z Z N N fun w7 H=>U<|Zt ?_
 exact eM (cs0:= #[J (0),J ((bt:Nat)),.slice A7 out.length c7]) Z aM Z (H.ent (i:=0) Z) Z ⟨_,A7,c7,_,_,hP _ _ _ hst7 hrd7,rfl,hc7,Bw.shut (X:=[(b4,_),(b3,_)]) row hsn hown (ak _ hco) (ak _ hgr) (fun q hq=>ak _ (hps q hq)) (fun _ h=>h) H Z⟩
section
/-- an act that the laws play -/
structure ue (np nr:Nat) (a:Act):Prop where
 kind:1<=a.kind/\a.kind<=20/\a.kind≠17
 name:a.kind=1∨a.kind=16∨a.kind=18∨a.kind=19∨a.kind=20->bM a.name=true
 part:0<=a.part/\a.part<np
 n:0<=a.n/\a.n<=1000
 rep:8<=a.kind->a.kind<=15->a.n<nr
 fin:a.kind=5->a.n<=1
 poll:a.kind=19->1<=a.n/\a.n<=20
 m:0<=a.m/\a.m<=1000
 text:a.text.size<=40
 lost:0<=a.lost/\a.lost<=2
def xe (w:Wa) (a:Act):Wa×An:=
 if a.kind=1 then oS w a else if a.kind=2 then kL w a else if a.kind=3∨a.kind=4 then mS w a (decide (a.kind=4))else if a.kind=5 then jN w a else
 if a.kind=6 then nX w a else if a.kind=7 then xZ w a else if a.kind<=15 then uY w a else Bq w a
inductive Ed (w:Wa) (a:Act):Wa->An->Prop
 |poll (x:An):a.kind=19->qN w a x->Ed w a w x
 |other:a.kind≠19->Ed w a (xe w a).1 (xe w a).2
def JF (p:gx):Prop:= ∀ (i:Nat) (x:RA),p.reps[i]? =some x->FQ x.es
theorem JF.set {p:gx} (h:JF p) {r:Nat} {x':RA} (hx:FQ x'.es):JF {p with reps:=p.reps.set r x'}:=fun i y hy=>by
 rcases eT hy with⟨_,rfl⟩|⟨_,hy⟩
 exact hx
 exact h i y hy
theorem JF.adv {p:gx} (h:JF p):JF (nE p):=fun i y hy=>by
 obtain⟨z,hz,he,-,-⟩:=D9 hy
 rw[he];exact h i z hz
def Gt (K:List cN) (m n:Nat) (few:Int) (p:gx):Prop:=Gd (fun _=>True) K m n few p/\JF p
theorem GA {K:List cN} {p:gx} (h:yY K p) {i j:Nat} {x y:RA} (hx:p.reps[i]? =some x) (hy:p.reps[j]? =some y):x.es.take (ec x.es y.es)=y.es.take (ec x.es y.es):=by
 cases hc:ec x.es y.es with
 |zero=>simp
 |succ c=>
  obtain⟨e,f,h1,h2,h3⟩:=vE (a:=x.es) (b:=y.es) (k:=c) I
  exact h.lm i j x y c e f hx hy h1 h2 h3
theorem I7 {K:List cN} {p:gx} {r:Nat} (hp:p.ok) (hi:yY K p) (h:JF p) (he:(iV p r).2.2=0):JF (iV p r).1:=by
 obtain⟨x,y,l,hx,hl,hne,hu,hy⟩:=CE hp he
 rw[uz hx hl hne hu hy]
 have hm:=GA hi hx hy
 intro i z hz
 rcases eT hz with⟨_,rfl⟩|⟨_,hz⟩
 unfold jO
 split
 rename_i z hz
 dsimp only
 rw[hm,<-eI hz];exact(h l y hy).take _
 dsimp only
 exact(h r x hx).take _
 rcases eT hz with⟨_,rfl⟩|⟨_,hz⟩
 exact h l y hy
 exact h i z hz
variable {K:List cN} {m n:Nat} {few:Int} {p:gx} {r:Nat}
theorem NN {e:cN} (h:Gt K m n few p) (hm:m<400) (he:(eA p e).2.2=0): ∃ K',K<+:K'/\Gt K' (m+1) n few (eA p e).1:=by
 obtain⟨K',h1,h2⟩:=NO h.1 trivial hm he
 refine⟨K',h1,h2,?_⟩
 obtain⟨x,l,hl,hx,hg,hv,hS⟩:=Ht he
 rcases hS with⟨-,hS,-⟩|⟨hv1,-,hS,-⟩
 rw[hS];exact h.2
 rw[hS];exact h.2.set (.snoc (h.2 l x hx) hv hv1)
theorem Mk {a:Act} (h:Gt K m n few p) (he:(lG p a).2.2=0): ∃ K',K<+:K'/\Gt K' m n few (lG p a).1:=by
 unfold lG at he⊢
 split at he
 rename_i c;rw[if_pos c]
 obtain⟨K',h1,h2⟩:=K5 h.1 he
 exact⟨K',h1,h2,I7 h.1.ok h.1.inv h.2 he⟩
 rename_i c;rw[if_neg c];clear c
 split at he
 rename_i c;rw[if_pos c]
 obtain⟨K',h1,h2⟩:=L7 h.1 he
 refine⟨K',h1,h2,?_⟩
 obtain⟨x,hx,hu,hS⟩:=Ep he
 dsimp only at hS⊢
 rw[hS]
 have:=h.2 _ x hx
 split
 exact JF.adv (fun i y hy=>by
  rcases eT hy with⟨_,rfl⟩|⟨_,hy⟩
  exact this
  exact h.2 i y hy)
 exact h.2.set this
 rename_i c;rw[if_neg c];clear c
 split at he
 rename_i c;rw[if_pos c]
 obtain⟨K',h1,h2⟩:=Lv h.1 he
 refine⟨K',h1,h2,?_⟩
 obtain⟨x,hx,hu,hS⟩:=CJ he
 dsimp only at hS⊢
 rw[hS]
 intro i y hy
 rcases eT hy with⟨_,rfl⟩|⟨_,hy⟩
 exact(h.2 _ x hx).take _
 exact h.2 i y hy
 rename_i c;rw[if_neg c];clear c
 split at he
 rename_i c;rw[if_pos c]
 obtain⟨K',h1,h2⟩:=Mi h.1 he
 refine⟨K',h1,h2,?_⟩
 obtain⟨x,hx,hu,hS⟩:=EF he
 dsimp only at hS⊢
 rw[hS]
 exact h.2.set (h.2 _ x hx)
 rename_i c;rw[if_neg c];clear c
 split at he
 rename_i c;rw[if_pos c]
 obtain⟨K',h1,h2⟩:=LU h.1 he
 refine⟨K',h1,h2,?_⟩
 obtain⟨x,hx,hu,-,hS⟩:=Ee he
 dsimp only at hS⊢
 rw[hS]
 intro i y hy
 rcases eT hy with⟨_,rfl⟩|⟨_,hy⟩
 exact .nil
 exact h.2 i y hy
 rename_i c;rw[if_neg c];clear c
 split at he
 rename_i c;rw[if_pos c]
 obtain⟨K',h1,h2⟩:=Li h.1 he
 refine⟨K',h1,h2,?_⟩
 obtain⟨x,hx,-,-,-,-,hS⟩:=CH h.1.ok.isrl he
 dsimp only at hS⊢
 rw[hS]
 exact JF.adv fun i y hy=>h.2 i y hy
 rename_i c;rw[if_neg c];clear c
 split at he
 rename_i c;rw[if_pos c]
 obtain⟨K',h1,h2⟩:=In h.1 he
 refine⟨K',h1,h2,?_⟩
 obtain⟨-,-,hS⟩:=zz he
 dsimp only at hS⊢
 rw[hS]
 exact JF.adv fun i y hy=>h.2 i y hy
 rename_i c;rw[if_neg c]
 obtain⟨K',h1,h2⟩:=I8 h.1 he
 refine⟨K',h1,h2,?_⟩
 obtain⟨x,-,-,-,-,-,hS⟩:=AC he
 dsimp only at hS⊢
 rw[hS]
 exact fun i y hy=>h.2 i y hy
structure LO (np nr:Nat) (few:Int) (k:Nat) (K:Nat->List cN) (ps:List gx):Prop where
 len:ps.length=np
 gt: ∀ (n:Nat) (p:gx),ps[n]? =some p->Gt (K n) k nr few p
theorem Gt.mono (h:Gt K m n few p) {m':Nat} (hm:m<=m'):Gt K m' n few p:=⟨h.1.mono hm,h.2⟩
theorem LO.more {np nr k k':Nat} {few:Int} {K:Nat->List cN} {ps:List gx} (h:LO np nr few k K ps) (hk:k<=k'):LO np nr few k' K ps:=⟨h.len,fun n p hp=>(h.gt n p hp).mono hk⟩
def Up (K K':Nat->List cN):Prop:= ∀ n,K n<+:K' n
theorem Up.refl (K:Nat->List cN):Up K K:=fun _=>fl _
theorem Up.trans {K K' K2:Nat->List cN} (h:Up K K') (h':Up K' K2):Up K K2:=fun n=>(h n).trans (h' n)
theorem LO.set {np nr k:Nat} {few:Int} {K:Nat->List cN} {ps:List gx} (h:LO np nr few k K ps) {n:Nat} {p':gx} (hg: ∃ K',K n<+:K'/\Gt K' k nr few p'): ∃ K',Up K K'/\LO np nr few k K' (ps.set n p'):=by
 obtain⟨K1,h1,h2⟩:=hg
 refine⟨fun i=>if i=n then K1 else K i,fun i=> ?_,by rw[ab];exact h.len,fun i q hq=> ?_⟩
 dsimp only
 split
 rename_i hi;rw[hi];exact h1
 exact fl _
 rcases eT hq with⟨rfl,rfl⟩|⟨hi,hq⟩
 rw[if_pos Z];exact h2
 rw[if_neg hi];exact h.gt i q hq
structure JG (np k:Nat) (s:Sn):Prop where
 nm:bM s.name=true
 sl:s.seqs.length=np
 ll:s.last.length=np
 sq: ∀ q∈s.seqs,0<=q/\q<=k
structure B1 (np k:Nat) (l:List Sn):Prop where
 each: ∀ s∈l,JG np k s
 few:l.length<=k
theorem JG.more {np k k':Nat} {s:Sn} (h:JG np k s) (hk:k<=k'):JG np k' s:=⟨h.nm,h.sl,h.ll,fun q hq=>by have:=h.sq q hq;omega⟩
theorem B1.more {np k k':Nat} {l:List Sn} (h:B1 np k l) (hk:k<=k'):B1 np k' l:=⟨fun s hs=>(h.each s hs).more hk,aS h.few hk⟩
theorem B1.set {np k i:Nat} {l:List Sn} {s:Sn} (h:B1 np k l) (hs:JG np k s):B1 np k (l.set i s):=⟨fun x hx=>by
 rcases bE hx with hx|rfl
 exact h.each x hx
 exact hs,by rw[ab];exact h.few⟩
structure WI (np nr:Nat) (few wt:Int) (k:Nat) (K:Nat->List cN) (w:Wa):Prop where
 ps:LO np nr few k K w.ps
 co:oE k w.co
 gr:qQ (fun _=>True) wt np k w.gr
 sns:B1 np k w.sns
theorem WI.more {np nr k k':Nat} {few wt:Int} {K:Nat->List cN} {w:Wa} (h:WI np nr few wt k K w) (hk:k<=k'):WI np nr few wt k' K w:=⟨h.ps.more hk,h.co.more hk,h.gr.more hk,h.sns.more hk⟩
theorem DQ {l:List Sn} {s:ByteArray} {i:Nat} {x:Sn} (h:((ff l s).bind fun i=>l[i]?.map fun s=>(i,s))=some (i,x)):l[i]? =some x/\x.name=s:=by
 cases hf:ff l s with
 |none=>rw[hf]at h;cases h
 |some j=>
  rw[hf]at h
  obtain⟨hl,h1,-⟩:=bf.1 hf
  simp only[fN,ah hl,eS,lg,Prod.mk.injEq]at h
  obtain⟨rfl,rfl⟩:=h
  exact⟨ah hl,by simpa using h1⟩
end
abbrev P3:ByteArray:=⟨#[100,101,101]⟩
def wt2 (k:Nat):Co:=⟨0,2,k,[⟨P3,1,0,2,[1],0,0,none,0⟩],none,0⟩
section
variable {np nr k:Nat} {few wt:Int} {K:Nat->List cN} {w:Wa} {a:Act}
theorem ME {s:ByteArray} (h:bM s=true) (pid ver:Int) (np k:Nat):JG np k (uZ s pid ver np):=⟨h,by simp[uZ],by simp[uZ],fun q hq=>by
 have:q=0:=by
  unfold uZ at hq
  exact fz hq
 omega⟩
theorem Mn {l:List Sn} {s:Sn} (h:B1 np k l) (hs:JG np (k+1) s):B1 np (k+1) (EG l s):=by
 unfold EG
 split
 refine⟨fun x hx=> ?_,by have:=h.few;simp;omega⟩
 rcases au.1 hx with hx|hx
 exact(h.each x hx).more (bA k)
 rw[aq.1 hx];exact hs
 exact(h.more (bA k)).set hs
theorem oG (h:WI np nr few wt k K w) (e:Int): ∃ K',Up K K'/\WI np nr few wt (k+1) K' (lV w e).1:=⟨K,Up.refl K,h.more (bA k)⟩
theorem MR (h:WI np nr few wt k K w) (hk:k<400) (hn:bM a.name=true): ∃ K',Up K K'/\WI np nr few wt (k+1) K' (oS w a).1:=by
 unfold oS
 split
 rename_i h0
 exact⟨K,Up.refl K,h.ps.more (bA k),HE h.co I hn h0,h.gr.more (bA k),Mn h.sns (by rw[h.ps.len];exact ME hn ..)⟩
 exact oG h _
theorem Lx (h:WI np nr few wt k K w): ∃ K',Up K K'/\WI np nr few wt (k+1) K' (kL w a).1:=by
 unfold kL
 split
 exact oG h _
 rename_i i s hf
 split
 exact oG h _
 have hs:=h.sns.each s (ae (DQ hf).1)
 exact⟨K,Up.refl K,h.ps.more (bA k),h.co.more (bA k),h.gr.more (bA k),(h.sns.set (s:={s with inn:=true}) ⟨hs.nm,hs.sl,hs.ll,hs.sq⟩).more (bA k)⟩
theorem Ke (h:LO np nr few k K w.ps) (hk:k<400) (n:Nat) (x:cN):(∃ K',Up K K'/\LO np nr few (k+1) K' (uE w n x).1.ps)/\(uE w n x).1.co=w.co/\(uE w n x).1.gr=w.gr/\(uE w n x).1.sns=w.sns:=by
 unfold uE
 split
 exact⟨⟨K,Up.refl K,h.more (bA k)⟩,rfl,rfl,rfl⟩
 rename_i p hp
 split
 rename_i h0
 exact⟨(h.more (bA k)).set (NN (h.gt n p hp) hk h0),rfl,rfl,rfl⟩
 exact⟨⟨K,Up.refl K,h.more (bA k)⟩,rfl,rfl,rfl⟩
theorem Ji (h:LO np nr few k K w.ps) (hc:oE k w.co) (hk:k<400) (s:Sn) {n:Nat} (hn:n<4):(∃ K',Up K K'/\LO np nr few (k+1) K' (eh w s n).1.ps)/\oE (k+1) (eh w s n).1.co/\(eh w s n).1.gr=w.gr/\(eh w s n).1.sns=w.sns:=by
 unfold eh
 split
 exact⟨⟨K,Up.refl K,h.more (bA k)⟩,hc.more (bA k),rfl,rfl⟩
 rename_i x hx
 split
 rename_i h0
 obtain⟨h1,h2,h3,h4⟩:=Ke (w:={w with co:=(rR w s n x).1}) h hk n x
 refine⟨h1,?_,h3,h4⟩
 rw[h2]
 show oE (k+1) (rR w s n x).1
 unfold rR at h0⊢
 split
 rename_i ht
 rw[if_pos ht]at h0
 exact HT hc I I h0
 exact hc.more (bA k)
 exact⟨⟨K,Up.refl K,h.more (bA k)⟩,hc.more (bA k),rfl,rfl⟩
theorem KC {s:Sn} (h:JG np k s) (n:Nat) (t:ByteArray):JG np (k+1) (pP s n t):=⟨h.nm,by unfold pP;simp[h.sl],by unfold pP;simp[h.ll],fun q hq=>by
 rcases bE hq with hq|rfl
 have:=h.sq q hq;omega
 by_cases hn:n<s.seqs.length
 have:=h.sq (s.seqs.getD n 0) (by rw[bW,ah hn];exact vt hn);omega
 have:s.seqs.getD n 0=0:=by rw[bW,cI I];rfl
 omega⟩
theorem Mg (h:WI np nr few wt k K w) (hk:k<400) (hp:0<=a.part/\a.part<np) (h4:np<=4) (again:Bool): ∃ K',Up K K'/\WI np nr few wt (k+1) K' (mS w a again).1:=by
 unfold mS
 split
 exact oG h _
 rename_i i s hf
 split
 exact oG h _
 have hs:=h.sns.each s (ae (DQ hf).1)
 have hs1:JG np (k+1) (if again then s else pP s a.part.toNat a.text):=by
  split
  exact hs.more (bA k)
  exact KC hs _ _
 generalize (if again then s else pP s a.part.toNat a.text)=s1 at hs1
 have hl:B1 np (k+1) (w.sns.set i s1):=(h.sns.more (bA k)).set hs1
 dsimp only
 split
 exact⟨K,Up.refl K,h.ps.more (bA k),h.co.more (bA k),h.gr.more (bA k),hl⟩
 obtain⟨⟨K',h1,h2⟩,h3,h5,h6⟩:=Ji (w:={w with sns:=w.sns.set i s1}) h.ps h.co hk s1 (n:=a.part.toNat) I
 exact⟨K',h1,h2,h3,by rw[h5];exact h.gr.more (bA k),by rw[h6];exact hl⟩
theorem Lk {s:Sn} (h:JG np k s):JG np k (vP s):=⟨h.nm,h.sl,by unfold vP;simp[h.ll],h.sq⟩
theorem I6 (h:WI np nr few wt k K w): ∃ K',Up K K'/\WI np nr few wt (k+1) K' (jN w a).1:=by
 unfold jN
 split
 exact oG h _
 rename_i i s hf
 split
 exact oG h _
 split
 exact oG h _
 have hs:=h.sns.each s (ae (DQ hf).1)
 split
 rename_i h0
 refine⟨K,Up.refl K,h.ps.more (bA k),HL h.co h0,h.gr.more (bA k),?_⟩
 dsimp only
 split
 exact(h.sns.set (Lk hs)).more (bA k)
 exact h.sns.more (bA k)
 exact⟨K,Up.refl K,h.more (bA k)⟩
theorem MI (h:WI np nr few wt k K w) (hk:k<400): ∃ K',Up K K'/\WI np nr few wt (k+1) K' (nX w a).1:=by
 unfold nX
 split
 exact oG h _
 rename_i t ht
 obtain⟨⟨i,hf⟩,h34,hp,h0,h4⟩:=Cq h.co.ok ht
 obtain⟨⟨K',h1,h2⟩,h3,h5,h6⟩:=Ke h.ps hk (t.parts.headD 0).toNat (cZ t)
 split
 exact⟨K',h1,h2,FD h.co (G1 hf h34 hp),by rw[h5];exact h.gr.more (bA k),by rw[h6];exact h.sns.more (bA k)⟩
 exact⟨K',h1,h2,by rw[h3];exact h.co.more (bA k),by rw[h5];exact h.gr.more (bA k),by rw[h6];exact h.sns.more (bA k)⟩
theorem LZ (h:WI np nr few wt k K w) (hk:k<400) (h4:np<=4) (hn:0<=a.n/\a.n<=1000): ∃ K',Up K K'/\WI np nr few wt (k+1) K' (xZ w a).1:=by
 unfold xZ
 exact⟨K,Up.refl K,h.ps.more (bA k),Eo h.co I hn.1 (by unfold i8;rw[if_neg I]),by dsimp only;rw[h.ps.len];exact h.gr.tick h4 I hn.1 hn.2,h.sns.more (bA k)⟩
theorem Mj (h:WI np nr few wt k K w): ∃ K',Up K K'/\WI np nr few wt (k+1) K' (uY w a).1:=by
 unfold uY
 split
 exact oG h _
 rename_i p hp
 split
 rename_i h0
 obtain⟨K',h1,h2⟩:=h.ps.set (Mk (h.ps.gt _ p hp) h0)
 exact⟨K',h1,h2.more (bA k),h.co.more (bA k),h.gr.more (bA k),h.sns.more (bA k)⟩
 exact oG h _
theorem NV (h:WI np nr few wt k K w) (hk:k<400) (h4:np<=4) (hn:a.kind=16->bM a.name=true) (hm:0<=a.m): ∃ K',Up K K'/\WI np nr few wt (k+1) K' (Bq w a).1:=by
 unfold Bq
 split
 rename_i h0
 refine⟨K,Up.refl K,h.ps.more (bA k),h.co.more (bA k),?_,h.sns.more (bA k)⟩
 show qQ _ wt np (k+1) (Gz w a).1
 unfold Gz at h0⊢
 rw[h.ps.len]at h0⊢
 split
 rename_i c
 rw[if_pos c]at h0
 exact h.gr.join h4 I (hn c) trivial h0
 rename_i c;rw[if_neg c]at h0
 split
 rename_i c2
 rw[if_pos c2]at h0
 exact h.gr.beat h0
 rename_i c2
 rw[if_neg c2]at h0
 exact h.gr.store hm h0
 exact oG h _
theorem Oj (h:WI np nr few wt k K w) (hk:k<400) (h4:np<=4) (g:ue np nr a) {w':Wa} {x:An} (hA:Ed w a w' x): ∃ K',Up K K'/\WI np nr few wt (k+1) K' w':=by
 cases hA with
 |poll x h19 hp=>exact⟨K,Up.refl K,h.more (bA k)⟩
 |other h19=>
  unfold xe
  split
  rename_i c;exact MR h hk (g.name (.inl c))
  split
  exact Lx h
  split
  exact Mg h hk g.part h4 _
  split
  exact I6 h
  split
  exact MI h hk
  split
  exact LZ h hk h4 g.n
  split
  exact Mj h
  exact NV h hk h4 (fun c=>g.name (.inr (.inl c))) g.m.1
def s6 (np nr:Nat) (few wt:Int):Wa:=⟨ar np (m5 nr few.toNat),⟨0,1,wt,[],none,0⟩,⟨0,wt,0,[],none,0,[],none,0⟩,[]⟩
theorem MD {few:Nat} (n1:1<=nr) (n5:nr<=5) (f1:1<=few) (f2:few<=nr) (w1:1<=wt) (w2:wt<=1000):WI np nr few wt 0 (fun _=>[]) (s6 np nr few wt):=by
 refine⟨⟨by simp[s6],fun n p hp=> ?_⟩,⟨gE.2 ⟨⟨(by decide:iN 0=true),by simp[s6],by simp[s6],w1,w2,by simp[s6]⟩,by simp[s6],by simp[s6,vv]⟩,by simp[s6],by simp[s6],by simp[s6]⟩,MF _ np w1 w2,⟨by simp[s6],by simp[s6]⟩⟩
 have hpe:p=m5 nr few:=by
  unfold s6 at hp
  simp only[fO]at hp
  split at hp
  cases hp;simp
  cases hp
 rw[hpe]
 refine⟨Dh n1 n5 f1 f2,?_⟩
 intro i x hx
 unfold m5 at hx
 simp only[fO]at hx
 split at hx
 cases hx;exact .nil
 cases hx
end
section
theorem Ix {es:List cN} {n st a most b b':Nat} {out out':List ByteArray} (h:AZ es n st a most out b) (h':AZ es n st a most out' b'):out=out'/\b=b':=by
 obtain⟨h1,h2,h3,h4,h5,h6⟩:=h
 obtain⟨g1,g2,g3,g4,g5,g6⟩:=h'
 have hb:b=b':=by
  rcases Nat.lt_trichotomy b b' with hlt|he|hlt
  have:=g6 b h1 hlt
  rw[<-h3]at this
  omega
  exact he
  have:=h6 b' g1 hlt
  rw[<-g3]at this
  omega
 subst hb
 exact⟨h3.trans g3.symm,rfl⟩
theorem Iy {p:gx} {a most:Nat} {x y:An} (h:CQ p a most x) (h':CQ p a most y):x=y:=by
 cases h with
 |none h1=>
  cases h' with
  |none=>rfl
  |range l r g1=>omega
  |ok l r st out b g1=>omega
 |range l r h1 h2 h3=>
  cases h' with
  |none g1=>omega
  |range=>rfl
  |ok l' r' st out b g1 g2 g3=>
   have:l'=l:=by omega
   subst this
   rw[h2]at g2;cases g2;omega
 |ok l r st out b h1 h2 h3 h4 h5=>
  cases h' with
  |none g1=>omega
  |range l' r' g1 g2 g3=>
   have:l'=l:=by omega
   subst this
   rw[h2]at g2;cases g2;omega
  |ok l' r' st' out' b' g1 g2 g3 g4 g5=>
   have:l'=l:=by omega
   subst this
   rw[h2]at g2;cases g2
   have:=GJ h4 g4
   subst this
   obtain⟨rfl,rfl⟩:=Ix h5 g5
   rfl
theorem ID {w:Wa} {a:Act} {x y:An} (h:qN w a x) (h':qN w a y):x=y:=by
 cases h with
 |no h1=>
  cases h' with
  |no=>rfl
  |yes p x g1=>exact absurd g1 h1
 |yes p x h1 h2 h3=>
  cases h' with
  |no g1=>exact absurd h1 g1
  |yes p' y g1 g2 g3=>
   rw[h2]at g2;cases g2
   exact Iy h3 g3
theorem LM {w:Wa} {a:Act} {w1 w2:Wa} {x y:An} (h:Ed w a w1 x) (h':Ed w a w2 y):w1=w2/\x=y:=by
 cases h with
 |poll x h1 h2=>
  cases h' with
  |poll y g1 g2=>exact⟨rfl,ID h2 g2⟩
  |other g1=>exact absurd h1 g1
 |other h1=>
  cases h' with
  |poll y g1 g2=>exact absurd g1 h1
  |other g1=>exact⟨rfl,rfl⟩
inductive nF:Wa->List Act->List An->Wa->Prop
 |nil (w:Wa):nF w [] [] w
 |cons {w w1 w2:Wa} {a:Act} {x:An} {l:List Act} {xs:List An}:Ed w a w1 x->nF w1 l xs w2->nF w (a::l) (x::xs) w2
theorem nF.app {w w1 w2:Wa} {l m:List Act} {xs ys:List An} (h:nF w l xs w1) (h':nF w1 m ys w2):nF w (l++m) (xs++ys) w2:=by
 induction h with
 |nil=>exact h'
 |cons h1 _ ih=>exact .cons h1 (ih h')
theorem nF.snoc {w w1 w2:Wa} {l:List Act} {a:Act} {xs:List An} {x:An} (h:nF w l xs w1) (h':Ed w1 a w2 x):nF w (l++[a]) (xs++[x]) w2:=h.app (.cons h' (.nil _))
theorem nF.len {w w1:Wa} {l:List Act} {xs:List An} (h:nF w l xs w1):xs.length=l.length:=by
 induction h with
 |nil=>rfl
 |cons _ _ ih=>simp[ih]
theorem nF.det {w w1 w2:Wa} {l:List Act} {xs ys:List An} (h:nF w l xs w1) (h':nF w l ys w2):xs=ys/\w1=w2:=by
 induction h generalizing ys w2 with
 |nil=>cases h';exact⟨rfl,rfl⟩
 |cons h1 _ ih=>
  cases h' with
  |cons g1 g2=>
   obtain⟨rfl,rfl⟩:=LM h1 g1
   obtain⟨rfl,rfl⟩:=ih g2
   exact⟨rfl,rfl⟩
theorem nF.split {w w2:Wa} {l m:List Act} {xs:List An} (h:nF w (l++m) xs w2): ∃ ys zs w1,xs=ys++zs/\nF w l ys w1/\nF w1 m zs w2:=by
 induction l generalizing w xs with
 |nil=>exact⟨[],xs,w,rfl,.nil w,h⟩
 |cons a l ih=>
  cases h with
  |cons h1 h2=>
   obtain⟨ys,zs,w1,rfl,h3,h4⟩:=ih h2
   exact⟨_::ys,zs,w1,rfl,.cons h1 h3,h4⟩
theorem nF.later {w w1 w2:Wa} {l m:List Act} {xs ys:List An} (h:nF w l xs w1) (h':nF w (l++m) ys w2): ∃ zs,ys=xs++zs:=by
 obtain⟨us,zs,w3,rfl,h1,h2⟩:=h'.split
 obtain⟨rfl,-⟩:=h.det h1
 exact⟨zs,rfl⟩
variable {np nr k:Nat} {few wt:Int} {K:Nat->List cN} {w:Wa}
theorem NL {w w1:Wa} {l:List Act} {xs:List An} (h:nF w l xs w1): ∀ {k:Nat} {K:Nat->List cN},WI np nr few wt k K w->k+l.length<=400->np<=4->(∀ a∈l,ue np nr a)-> ∃ K',Up K K'/\WI np nr few wt (k+l.length) K' w1:=by
 induction h with
 |nil=>intro k K hw _ _ _;exact⟨K,Up.refl K,hw⟩
 |@cons w wa wb a x l xs h1 _ ih=>
  intro k K hw hk h4 hg
  simp only[bV]at hk
  obtain⟨K1,u1,i1⟩:=Oj hw I h4 (hg a (az ..)) h1
  obtain⟨K2,u2,i2⟩:=ih i1 I h4 fun b hb=>hg b (ak _ hb)
  exact⟨K2,u1.trans u2,by simpa [kM,rZ 1]using i2⟩
end
section
/-- what an act yields -/
def Bb (b:Bk) (a:Act) (w0:World) (bb:Nat) (K:List (Nat×Obj)) (F:List cr) (v:Value) (w2:World):Prop:=
 ∃ (b':Bk) (x:An) (A:Option Addr) (c lo hi:Nat),Ed b.a a b'.a x/\v=.agg #[J x.code,J x.n,.slice A x.texts.length c]/\x.texts.length<=c/\xg w0 w2 bb b' K (dM kR lo hi A x.texts::F)
theorem t9 {b:Bk} {a:Act} {w0 w:World} {bb:Nat} {K:List (Nat×Obj)} {F:List cr} {f:FuncId} {args:List Value} {s:Wa×An} (h19:a.kind≠19) (hs:xe b.a a=s) (ht:s.2.texts=[]) (h:dd aa f args w fun v w2=> ∃ b':Bk,oF s.2 v w2/\b'.a=s.1/\xg w0 w2 bb b' K F):dd aa f args w (Bb b a w0 bb K F):=
 h.mono fun v w2 ⟨b',⟨A,c,h1,h2,_⟩,h4,h5⟩=>⟨b',s.2,A,c,0,0,by rw[h4,<-hs];exact .other h19,h1,h2,by rw[ht];exact h5.nil A⟩
variable {w0 w:World} {bb gP:Nat} {b:Bk} {uP:Array Value} {Ls Lo K:List (Nat×Obj)} {F:List cr} {np nr k:Nat} {few wt:Int} {M:Nat->List cN} {a:Act}
theorem Bw.facts (_:Bw w0 w bb b gP uP Ls Lo K F) (hw:WI np nr few wt k M b.a) (hk:k<400):b.ps.length=np/\b.sns.length<=1000000/\oE k b.co/\qQ (fun _=>True) wt np k b.gr/\ ∀ q∈b.ps,q.p.a.ok/\q.p.reps.length=nr/\ ∀ (l:Nat) (y:fb),q.p.leader=l->q.p.reps[l]? =some y->y.es.length<400:=by
 have h1:=hw.ps.len
 have h2:=hw.sns.few
 rw[show b.a.ps=b.ps.map fun q=>q.p.a from rfl,bF]at h1
 rw[show b.a.sns=b.sns.map Sn.a from rfl,bF]at h2
 refine⟨h1,by omega,oE.of_a hw.co,qQ.of_a hw.gr,fun q hq=> ?_⟩
 obtain⟨n,hn⟩:=aW.1 hq
 have hg:=(hw.ps.gt n q.p.a (by rw[show b.a.ps=b.ps.map fun q=>q.p.a from rfl,aL,hn];rfl)).1
 refine⟨hg.ok,by have:=hg.len;rwa[show q.p.a.reps=q.p.reps.map fb.a from rfl,bF]at this,fun l y _ hy=> ?_⟩
 have:=hg.small l y.a (by rw[show q.p.a.reps=q.p.reps.map fb.a from rfl,aL,hy];rfl)
 have:y.es.length<=k:=this
 omega
theorem Bw.sender (hw:WI np nr few wt k M b.a) {i:Nat} {x:Sn} (hx:b.sns[i]? =some x):bM x.name=true/\x.seqs.length=np/\x.last.length=np/\ ∀ q∈x.seqs,0<=q/\q<=k:=by
 have h:=hw.sns.each x.a (bL (f:=Sn.a) (ae hx))
 exact⟨h.nm,h.sl,h.ll,h.sq⟩
theorem yo (w:Wa) (a:Act):(oS w a).2.texts=[]:=by unfold oS;split<;>rfl
theorem wZ (w:Wa) (a:Act):(kL w a).2.texts=[]:=by
 unfold kL
 split
 rfl
 split<;>rfl
theorem yb (w:Wa) (a:Act) (ag:Bool):(mS w a ag).2.texts=[]:=by
 unfold mS
 split
 rfl
 split
 rfl
 dsimp only
 split
 rfl
 exact lq _ (kc ..)
theorem vf (w:Wa) (a:Act):(jN w a).2.texts=[]:=by
 unfold jN
 split
 rfl
 split
 rfl
 split
 rfl
 split<;>exact lq _ Z
theorem yj (w:Wa) (a:Act):(nX w a).2.texts=[]:=by
 unfold nX
 split
 rfl
 split<;>exact zD ..
theorem ye (w:Wa) (a:Act):(uY w a).2.texts=[]:=by
 unfold uY
 split
 rfl
 split<;>rfl
theorem zR (w:Wa) (a:Act):(Bq w a).2.texts=[]:=by unfold Bq;split<;>rfl
theorem pF (a:Act) (w:Wa):(a.kind=1->xe w a=oS w a)/\(a.kind=2->xe w a=kL w a)/\(a.kind=3∨a.kind=4->xe w a=mS w a (decide (a.kind=4)))/\(a.kind=5->xe w a=jN w a)/\(a.kind=6->xe w a=nX w a)/\(a.kind=7->xe w a=xZ w a)/\(8<=a.kind/\a.kind<=15->xe w a=uY w a)/\(16<=a.kind->xe w a=Bq w a):=by
 unfold xe
 refine⟨fun h=> ?_,fun h=> ?_,fun h=> ?_,fun h=> ?_,fun h=> ?_,fun h=> ?_,fun h=> ?_,fun h=> ?_⟩<;>(repeat (first|rw[if_pos I]|rw[if_neg I]))
theorem NZ (A B C X K:List (Nat×Obj)):(A++(B++(C++(X++K)))).Perm (X++(A++(B++(C++K)))):=by
 rw[show A++(B++(C++(X++K)))=(A++B++C)++(X++K) by simp,show A++(B++(C++K))=(A++B++C)++K by simp]
 exact fR (A++B++C) X K
theorem Bw.into {w2:World} (B:Bw w0 w bb b gP uP Ls Lo K F) (X:List (Nat×Obj)) (H:Hp w0 w2 (X++((bb,.cells b.c.toArray bK (0,0))::(gP,.cells uP bD (0,0))::(Ls++(Lo++K)))) F):Bw w0 w2 bb b gP uP Ls Lo (X++K) F:=
 ⟨B.pA,B.row,B.sn,B.own,B.co,B.gr,B.ps,H.perm (NZ [(bb,_),(gP,_)] Ls Lo X K)⟩
theorem Bw.out {X:List (Nat×Obj)} (B:Bw w0 w bb b gP uP Ls Lo (X++K) F):Hp w0 w (X++((bb,.cells b.c.toArray bK (0,0))::(gP,.cells uP bD (0,0))::(Ls++(Lo++K)))) F:=B.H.perm (NZ [(bb,_),(gP,_)] Ls Lo X K).symm
theorem Bw.at_ {w2:World} {K1:List (Nat×Obj)} (B:Bw w0 w bb b gP uP Ls Lo K1 F) (X:List (Nat×Obj)) (H:Hp w0 w2 (X++((bb,.cells b.c.toArray bK (0,0))::(gP,.cells uP bD (0,0))::(Ls++(Lo++K)))) F):Bw w0 w2 bb b gP uP Ls Lo K F:=
 ⟨B.pA,B.row,B.sn,B.own,B.co,B.gr,B.ps,H.forget (cj X _) (fun _ h=>h)⟩
theorem y8 {l:List Sn} {s:ByteArray} {i:Nat} (h:ff l s=some i): ∃ x,l[i]? =some x:=by
 obtain⟨x,h1,-⟩:=F8 h
 exact⟨x,h1⟩
theorem KO (B:Bw w0 w bb b gP uP Ls Lo K F) (hw:WI np nr few wt k M b.a) (hk:k<400) (h4:np<=4) (g:ue np nr a) (h1:1<=np) (hkd:a.kind=1):dd aa jZ [.pointer (Qd bb),a.v] w (Bb b a w0 bb K F):=by
 obtain⟨hln,hsl,hcb,hgi,hpk⟩:=B.facts hw hk
 refine t9 I ((pF a b.a).1 hkd) (yo ..) ?_
 cases hix:ff b.sns a.name with
 |none=>exact IZ a B hsl (g.name (.inl hkd)) hcb I I I hix
 |some i=>
  obtain⟨x,hx⟩:=y8 hix
  exact IY a B hsl (g.name (.inl hkd)) hcb I I I hix hx
theorem Jn (B:Bw w0 w bb b gP uP Ls Lo K F) (hw:WI np nr few wt k M b.a) (hk:k<400) (_:np<=4) (_:ue np nr a) (hkd:a.kind=2):dd aa jG [.pointer (Qd bb),a.v] w (Bb b a w0 bb K F):=by
 obtain⟨-,hsl,-⟩:=B.facts hw hk
 refine t9 I ((pF a b.a).2.1 hkd) (wZ ..) ?_
 cases hix:ff b.sns a.name with
 |none=>exact G8 a B hsl hix
 |some i=>
  obtain⟨x,hx⟩:=y8 hix
  exact G7 a B hsl hix hx
theorem EB (B:Bw w0 w bb b gP uP Ls Lo K F) (hw:WI np nr few wt k M b.a) (hk:k<400) (h4:np<=4) (g:ue np nr a) (hkd:a.kind=3∨a.kind=4):dd aa iO [.pointer (Qd bb),a.v,.bool (decide (a.kind=4))] w (Bb b a w0 bb K F):=by
 obtain⟨hln,hsl,hcb,-,hpk⟩:=B.facts hw hk
 refine t9 I ((pF a b.a).2.2.1 hkd) (yb ..) ?_
 have hpn:=g.part
 cases hix:ff b.sns a.name with
 |none=>exact Ir a B hsl (decide (a.kind=4)) hix
 |some i=>
  obtain⟨x,hx⟩:=y8 hix
  obtain⟨s1,s2,s3,s4⟩:=Bw.sender hw hx
  have hpk2:=fun(q:Pq) hq=>(⟨(hpk q hq).1,(hpk q hq).2.2⟩:q.p.a.ok/\ ∀ (l:Nat) (y:fb),q.p.leader=(l:Int)->q.p.reps[l]? =some y->y.es.length<400)
  by_cases h4k:a.kind=4
  rw[decide_eq_true h4k]
  exact Gc a B hsl hix hx I g.lost I I I s1 hcb hpk2
  rw[decide_eq_false h4k]
  exact J6 a B hsl hix hx I g.lost I I I s1 hcb hpk2 g.text (fun q hq=>by have:=s4 q hq;omega)
theorem Ax (B:Bw w0 w bb b gP uP Ls Lo K F) (hw:WI np nr few wt k M b.a) (hk:k<400) (h4:np<=4) (g:ue np nr a) (hkd:a.kind=5):dd aa jo [.pointer (Qd bb),a.v] w (Bb b a w0 bb K F):=by
 obtain⟨-,hsl,hcb,-⟩:=B.facts hw hk
 refine t9 I ((pF a b.a).2.2.2.1 hkd) (vf ..) ?_
 cases hix:ff b.sns a.name with
 |none=>exact Fu a B hsl hix
 |some i=>
  obtain⟨x,hx⟩:=y8 hix
  obtain⟨s1,-,s3,-⟩:=Bw.sender hw hx
  exact Ft a B hsl hix hx g.lost ⟨g.n.1,g.fin hkd⟩ I s1 hcb
theorem E0 (B:Bw w0 w bb b gP uP Ls Lo K F) (hw:WI np nr few wt k M b.a) (hk:k<400) (_:np<=4) (g:ue np nr a) (hkd:a.kind=6):dd aa jY [.pointer (Qd bb),a.v] w (Bb b a w0 bb K F):=by
 obtain⟨-,-,hcb,-,hpk⟩:=B.facts hw hk
 refine t9 I ((pF a b.a).2.2.2.2.1 hkd) (yj ..) ?_
 have hpk2:=fun(q:Pq) hq=>(⟨(hpk q hq).1,(hpk q hq).2.2⟩:q.p.a.ok/\ ∀ (l:Nat) (y:fb),q.p.leader=(l:Int)->q.p.reps[l]? =some y->y.es.length<400)
 cases hne:gV b.co.a.txs a.n.toNat with
 |none=>exact IQ a B hcb g.n hne
 |some t=>exact IP a B hcb g.n hpk2 hne
theorem En (B:Bw w0 w bb b gP uP Ls Lo K F) (hw:WI np nr few wt k M b.a) (hk:k<400) (h4:np<=4) (g:ue np nr a) (hkd:a.kind=7):dd aa ob [.pointer (Qd bb),a.v] w (Bb b a w0 bb K F):=by
 obtain⟨hln,-,hcb,hgi,-⟩:=B.facts hw hk
 refine t9 I ((pF a b.a).2.2.2.2.2.1 hkd) Z ?_
 exact JR a B hcb I g.n hgi I
theorem wn (B:Bw w0 w bb b gP uP Ls Lo K F) (hw:WI np nr few wt k M b.a) (hk:k<400) (_:np<=4) (g:ue np nr a) (hkd:8<=a.kind/\a.kind<=15):dd aa kT [.pointer (Qd bb),a.v] w (Bb b a w0 bb K F):=by
 obtain⟨hln,-,-,-,hpk⟩:=B.facts hw hk
 refine t9 I ((pF a b.a).2.2.2.2.2.2.1 hkd) (ye ..) ?_
 have hpn:=g.part
 exact J9 a B I ⟨g.n.1,fun q hq=>by have:=g.rep hkd.1 hkd.2;have:=(hpk q hq).2.1;omega⟩ g.m (fun q hq=>(hpk q hq).1)
theorem qC (B:Bw w0 w bb b gP uP Ls Lo K F) (hw:WI np nr few wt k M b.a) (hk:k<400) (h4:np<=4) (g:ue np nr a) (hkd:a.kind=16∨a.kind=18∨a.kind=20):dd aa lM [.pointer (Qd bb),a.v] w (Bb b a w0 bb K F):=by
 obtain⟨hln,-,-,hgi,-⟩:=B.facts hw hk
 refine t9 I ((pF a b.a).2.2.2.2.2.2.2 I) (zR ..) ?_
 exact MG a B I I (g.name I) g.m hgi I
theorem nU (B:Bw w0 w bb b gP uP Ls Lo K F) (hw:WI np nr few wt k M b.a) (hk:k<400) (_:np<=4) (g:ue np nr a) (hkd:a.kind=19):dd aa gi [.pointer (Qd bb),a.v] w (Bb b a w0 bb K F):=by
 obtain⟨hln,-,-,hgi,hpk⟩:=B.facts hw hk
 have hpn:=g.part
 have hnm:=g.name I
 have hpo:=fun q hq=>(hpk q hq).1
 have hq: ∃ q,b.ps[a.part.toNat]? =some q:=⟨_,ah I⟩
 obtain⟨q,hq⟩:=hq
 refine dd.mono (R:=fun v w2=> ∃ (x:An) (A:Option Addr) (c lo hi:Nat),qN b.a a x/\v=.agg #[J x.code,J x.n,.slice A x.texts.length c]/\x.texts.length<=c/\xg w0 w2 bb b K (dM kR lo hi A x.texts::F)) ?_ fun v w2 ⟨x,A,c,lo,hi,h1,h2,h3,h4⟩=>⟨b,x,A,c,lo,hi,.poll x hkd h1,h2,h3,h4⟩
 by_cases hw0:(eL b.gr.a a.name a.part).2=0
 have hqok:=(hpk q (ae hq)).1
 by_cases hl:q.p.leader<0
 exact IC a B hnm I (g.poll hkd) hgi hpo hw0 (fun q' h=>by rw[hq]at h;cases h;exact hl)
 obtain⟨l,hl2⟩: ∃ l:Nat,q.p.leader=l:=⟨q.p.leader.toNat,by omega⟩
 have hld1:q.p.leader<((q.p.reps.map fb.a).length:Nat):=hqok.ld1
 rw[bF]at hld1
 obtain⟨y,hy⟩: ∃ y,q.p.reps[l]? =some y:=⟨_,ah I⟩
 have hld: ∀ q',b.ps[a.part.toNat]? =some q'->q'.p.leader=l/\q'.p.reps[l]? =some y:=fun q' h=>by rw[hq]at h;cases h;exact⟨hl2,hy⟩
 by_cases hle:(eL b.gr.a a.name a.part).1.toNat<=y.es.length
 exact Mq a B hnm I (g.poll hkd) hgi hpo hw0 hld hle
 exact Gk a B hnm I (g.poll hkd) hgi hpo hw0 hld I
 exact Mr a B hnm I hgi hw0
end
theorem Ok {w0 w:World} {bb gP:Nat} {b:Bk} {uP:Array Value} {Ls Lo K:List (Nat×Obj)} {F:List cr} {np nr k:Nat} {few wt:Int} {M:Nat->List cN} {a:Act} (B:Bw w0 w bb b gP uP Ls Lo K F) (hw:WI np nr few wt k M b.a) (hk:k<400) (h1:1<=np) (h4:np<=4) (g:ue np nr a):dd aa uK [.pointer (Qd bb),a.v] w (Bb b a w0 bb K F):=by
 refine aD tP Z Z ?_
 have hkd:=g.kind
 have H:=B.H
 show CW _ _ _ _ (args [.pointer (Qd bb),.agg #[J (a.kind),.string (a.name),J (a.part),J (a.n),J (a.m),.string (a.text),J (a.lost)]]) w
 refine W<|Zr<|fQ H Z Z fun w1 b3 H=>eH H dk Z fun w2 b4 H=>U<|W<|W<|Zr<|G (Zf mw Z)<|G (Zd aj H 1 Z Z Z)<|U<|Zb<|W<|Zr ?_
 refine cT (bl Z Z) Z Z Z (fun h8=> ?_) (fun h8=> ?_)
 refine G (Wb Z)<|U<|ZT Z<|W<|Zr<|G (Yp Z)<|G (Zw dN H 1 Z Z Z)<|cd te (KO (B.into [(b4,_),(b3,_)] H) hw hk h4 g h1 h8) Z Z ?_
 rintro _ w3 ⟨b2,x2,A9,c9,lo9,hi9,hA9,rfl,hc9,gP9,uP9,Ls9,Lo9,F9,B9,hF9⟩
 replace H:=B9.out (X:=[(b4,_),(b3,_)])
 refine bo H 0 (#[J (x2.code),J (x2.n),.slice A9 x2.texts.length c9]) aO Z Z Z Z Z N N fun w4 H=>U<|Zt ?_
 exact eM (cs0:= #[J (x2.code),J (x2.n),.slice A9 x2.texts.length c9]) Z aM Z (H.ent (i:=0) Z) Z ⟨b2,x2,A9,c9,lo9,hi9,hA9,rfl,hc9,gP9,uP9,Ls9,Lo9,F9,B9.at_ [(b4,_),(b3,_)] H,hF9⟩
 refine G (Wb Z)<|U<|ZF Z<|W<|Zr ?_
 refine cT (bl Z Z) Z Z Z (fun h13=> ?_) (fun h13=> ?_)
 refine G (Wb Z)<|U<|ZT Z<|W<|Zr<|G (Yp Z)<|G (Zw dN H 1 Z Z Z)<|cd sJ (Jn (B.into [(b4,_),(b3,_)] H) hw hk h4 g h13) Z Z ?_
 rintro _ w5 ⟨b2,x2,A9,c9,lo9,hi9,hA9,rfl,hc9,gP9,uP9,Ls9,Lo9,F9,B9,hF9⟩
 replace H:=B9.out (X:=[(b4,_),(b3,_)])
 refine bo H 0 (#[J (x2.code),J (x2.n),.slice A9 x2.texts.length c9]) aO Z Z Z Z Z N N fun w6 H=>U<|Zt ?_
 exact eM (cs0:= #[J (x2.code),J (x2.n),.slice A9 x2.texts.length c9]) Z aM Z (H.ent (i:=0) Z) Z ⟨b2,x2,A9,c9,lo9,hi9,hA9,rfl,hc9,gP9,uP9,Ls9,Lo9,F9,B9.at_ [(b4,_),(b3,_)] H,hF9⟩
 refine G (Wb Z)<|U<|ZF Z<|W<|W<|Zr ?_
 refine cT (bl Z Z) Z Z Z (fun h18=> ?_) (fun h18=> ?_)
 refine G (Wb Z)<|U ?_
 refine eE (τ:=Unit) [17,19] (fun _=>[(17,.bool (decide (a.kind=3∨a.kind=4)))]) (fun _ w'=>Hp w0 w' ((b4,.cells #[J (0),J (0),.slice none 0 0] d8 (0,0))::(b3,.cells #[J (a.kind),.string (a.name),J (a.part),J (a.n),J (a.m),.string (a.text),J (a.lost)] fZ (0,0))::(bb,.cells b.c.toArray bK (0,0))::(gP,.cells uP bD (0,0))::(Ls++(Lo++K))) F) ?_ ?_
 refine ZT Z<|Zk ?_
 exact⟨(),H,dF (congrArg Value.bool (decide_eq_true I)).symm,Qg⟩
 rintro _ ρ1 w7 H
 show CW _ _ _ _ (dC (gC _ _ ρ1) [(17,.bool (decide (a.kind=3∨a.kind=4)))]) w7
 refine jf Z (fun hc17=> ?_) (fun hc17=> ?_)
 refine W<|Zr<|G (Yp Z)<|G (Zw dN H 1 Z Z Z)<|G (Zf mw Z)<|G (Zd aj H 1 Z Z Z)<|G (bl Z Z)<|cd mX (EB (B.into [(b4,_),(b3,_)] H) hw hk h4 g (of_decide_eq_true hc17)) Z Z ?_
 rintro _ w8 ⟨b2,x2,A9,c9,lo9,hi9,hA9,rfl,hc9,gP9,uP9,Ls9,Lo9,F9,B9,hF9⟩
 replace H:=B9.out (X:=[(b4,_),(b3,_)])
 refine bo H 0 (#[J (x2.code),J (x2.n),.slice A9 x2.texts.length c9]) aO Z Z Z Z Z N N fun w9 H=>U<|Zt ?_
 exact eM (cs0:= #[J (x2.code),J (x2.n),.slice A9 x2.texts.length c9]) Z aM Z (H.ent (i:=0) Z) Z ⟨b2,x2,A9,c9,lo9,hi9,hA9,rfl,hc9,gP9,uP9,Ls9,Lo9,F9,B9.at_ [(b4,_),(b3,_)] H,hF9⟩
 refine W<|Zr ?_
 refine cT (bl Z Z) Z Z Z (fun h27=> ?_) (fun h27=> ?_)
 refine G (Wb Z)<|U<|ZT Z<|W<|Zr<|G (Yp Z)<|G (Zw dN H 1 Z Z Z)<|cd lR (Ax (B.into [(b4,_),(b3,_)] H) hw hk h4 g h27) Z Z ?_
 rintro _ w10 ⟨b2,x2,A9,c9,lo9,hi9,hA9,rfl,hc9,gP9,uP9,Ls9,Lo9,F9,B9,hF9⟩
 replace H:=B9.out (X:=[(b4,_),(b3,_)])
 refine bo H 0 (#[J (x2.code),J (x2.n),.slice A9 x2.texts.length c9]) aO Z Z Z Z Z N N fun w11 H=>U<|Zt ?_
 exact eM (cs0:= #[J (x2.code),J (x2.n),.slice A9 x2.texts.length c9]) Z aM Z (H.ent (i:=0) Z) Z ⟨b2,x2,A9,c9,lo9,hi9,hA9,rfl,hc9,gP9,uP9,Ls9,Lo9,F9,B9.at_ [(b4,_),(b3,_)] H,hF9⟩
 refine G (Wb Z)<|U<|ZF Z<|W<|Zr ?_
 refine cT (bl Z Z) Z Z Z (fun h32=> ?_) (fun h32=> ?_)
 refine G (Wb Z)<|U<|ZT Z<|W<|Zr<|G (Yp Z)<|G (Zw dN H 1 Z Z Z)<|cd mY (E0 (B.into [(b4,_),(b3,_)] H) hw hk h4 g h32) Z Z ?_
 rintro _ w12 ⟨b2,x2,A9,c9,lo9,hi9,hA9,rfl,hc9,gP9,uP9,Ls9,Lo9,F9,B9,hF9⟩
 replace H:=B9.out (X:=[(b4,_),(b3,_)])
 refine bo H 0 (#[J (x2.code),J (x2.n),.slice A9 x2.texts.length c9]) aO Z Z Z Z Z N N fun w13 H=>U<|Zt ?_
 exact eM (cs0:= #[J (x2.code),J (x2.n),.slice A9 x2.texts.length c9]) Z aM Z (H.ent (i:=0) Z) Z ⟨b2,x2,A9,c9,lo9,hi9,hA9,rfl,hc9,gP9,uP9,Ls9,Lo9,F9,B9.at_ [(b4,_),(b3,_)] H,hF9⟩
 refine G (Wb Z)<|U<|ZF Z<|W<|Zr ?_
 refine cT (bl Z Z) Z Z Z (fun h37=> ?_) (fun h37=> ?_)
 refine G (Wb Z)<|U<|ZT Z<|W<|Zr<|G (Yp Z)<|G (Zw dN H 1 Z Z Z)<|cd mW (En (B.into [(b4,_),(b3,_)] H) hw hk h4 g h37) Z Z ?_
 rintro _ w14 ⟨b2,x2,A9,c9,lo9,hi9,hA9,rfl,hc9,gP9,uP9,Ls9,Lo9,F9,B9,hF9⟩
 replace H:=B9.out (X:=[(b4,_),(b3,_)])
 refine bo H 0 (#[J (x2.code),J (x2.n),.slice A9 x2.texts.length c9]) aO Z Z Z Z Z N N fun w15 H=>U<|Zt ?_
 exact eM (cs0:= #[J (x2.code),J (x2.n),.slice A9 x2.texts.length c9]) Z aM Z (H.ent (i:=0) Z) Z ⟨b2,x2,A9,c9,lo9,hi9,hA9,rfl,hc9,gP9,uP9,Ls9,Lo9,F9,B9.at_ [(b4,_),(b3,_)] H,hF9⟩
 refine G (Wb Z)<|U<|ZF Z<|W<|W<|Zr ?_
 refine cT (bl Z Z) Z Z Z (fun h42=> ?_) (fun h42=> ?_)
 refine G (Wb Z)<|U ?_
 refine eE (τ:=Unit) [41,43,44,45,46,47,48,49] (fun _=>[(41,.bool (decide (8<=a.kind/\a.kind<=15)))]) (fun _ w'=>Hp w0 w' ((b4,.cells #[J (0),J (0),.slice none 0 0] d8 (0,0))::(b3,.cells #[J (a.kind),.string (a.name),J (a.part),J (a.n),J (a.m),.string (a.text),J (a.lost)] fZ (0,0))::(bb,.cells b.c.toArray bK (0,0))::(gP,.cells uP bD (0,0))::(Ls++(Lo++K))) F) ?_ ?_
 refine ZT Z<|Zk ?_
 exact⟨(),H,dF (congrArg Value.bool (decide_eq_true I)).symm,Qg⟩
 rintro _ ρ1 w16 H
 show CW _ _ _ _ (dC (gC _ _ ρ1) [(41,.bool (decide (8<=a.kind/\a.kind<=15)))]) w16
 refine jf Z (fun hc41=> ?_) (fun hc41=> ?_)
 refine W<|Zr<|G (Yp Z)<|G (Zw dN H 1 Z Z Z)<|cd fS (wn (B.into [(b4,_),(b3,_)] H) hw hk h4 g (of_decide_eq_true hc41)) Z Z ?_
 rintro _ w17 ⟨b2,x2,A9,c9,lo9,hi9,hA9,rfl,hc9,gP9,uP9,Ls9,Lo9,F9,B9,hF9⟩
 replace H:=B9.out (X:=[(b4,_),(b3,_)])
 refine bo H 0 (#[J (x2.code),J (x2.n),.slice A9 x2.texts.length c9]) aO Z Z Z Z Z N N fun w18 H=>U<|Zt ?_
 exact eM (cs0:= #[J (x2.code),J (x2.n),.slice A9 x2.texts.length c9]) Z aM Z (H.ent (i:=0) Z) Z ⟨b2,x2,A9,c9,lo9,hi9,hA9,rfl,hc9,gP9,uP9,Ls9,Lo9,F9,B9.at_ [(b4,_),(b3,_)] H,hF9⟩
 refine W<|W<|Zr ?_
 refine cT (bl Z Z) Z Z Z (fun h54=> ?_) (fun h54=> ?_)
 refine G (Wb Z)<|U ?_
 refine eE (τ:=Unit) [53,55,56,57] (fun _=>[(53,.bool (decide (a.kind=16∨a.kind=18∨a.kind=20)))]) (fun _ w'=>Hp w0 w' ((b4,.cells #[J (0),J (0),.slice none 0 0] d8 (0,0))::(b3,.cells #[J (a.kind),.string (a.name),J (a.part),J (a.n),J (a.m),.string (a.text),J (a.lost)] fZ (0,0))::(bb,.cells b.c.toArray bK (0,0))::(gP,.cells uP bD (0,0))::(Ls++(Lo++K))) F) ?_ ?_
 refine ZT Z<|Zk ?_
 exact⟨(),H,dF (congrArg Value.bool (decide_eq_true I)).symm,Qg⟩
 rintro _ ρ1 w19 H
 show CW _ _ _ _ (dC (gC _ _ ρ1) [(53,.bool (decide (a.kind=16∨a.kind=18∨a.kind=20)))]) w19
 refine jf Z (fun hc53=> ?_) (fun hc53=> ?_)
 refine W<|Zr<|G (Yp Z)<|G (Zw dN H 1 Z Z Z)<|cd dL (qC (B.into [(b4,_),(b3,_)] H) hw hk h4 g (of_decide_eq_true hc53)) Z Z ?_
 rintro _ w20 ⟨b2,x2,A9,c9,lo9,hi9,hA9,rfl,hc9,gP9,uP9,Ls9,Lo9,F9,B9,hF9⟩
 replace H:=B9.out (X:=[(b4,_),(b3,_)])
 refine bo H 0 (#[J (x2.code),J (x2.n),.slice A9 x2.texts.length c9]) aO Z Z Z Z Z N N fun w21 H=>U<|Zt ?_
 exact eM (cs0:= #[J (x2.code),J (x2.n),.slice A9 x2.texts.length c9]) Z aM Z (H.ent (i:=0) Z) Z ⟨b2,x2,A9,c9,lo9,hi9,hA9,rfl,hc9,gP9,uP9,Ls9,Lo9,F9,B9.at_ [(b4,_),(b3,_)] H,hF9⟩
 refine W<|Zr ?_
 refine cT (bl Z Z) Z Z Z (fun h62=> ?_) (fun h62=> ?_)
 refine G (Wb Z)<|U<|ZT Z<|W<|Zr<|G (Yp Z)<|G (Zw dN H 1 Z Z Z)<|cd ed (nU (B.into [(b4,_),(b3,_)] H) hw hk h4 g h62) Z Z ?_
 rintro _ w22 ⟨b2,x2,A9,c9,lo9,hi9,hA9,rfl,hc9,gP9,uP9,Ls9,Lo9,F9,B9,hF9⟩
 replace H:=B9.out (X:=[(b4,_),(b3,_)])
 refine bo H 0 (#[J (x2.code),J (x2.n),.slice A9 x2.texts.length c9]) aO Z Z Z Z Z N N fun w23 H=>U<|Zt ?_
 exact eM (cs0:= #[J (x2.code),J (x2.n),.slice A9 x2.texts.length c9]) Z aM Z (H.ent (i:=0) Z) Z ⟨b2,x2,A9,c9,lo9,hi9,hA9,rfl,hc9,gP9,uP9,Ls9,Lo9,F9,B9.at_ [(b4,_),(b3,_)] H,hF9⟩
 exfalso;have h41:=of_decide_eq_false hc41;have h53:=of_decide_eq_false hc53;have h17:=of_decide_eq_false hc17;omega
 refine G (Wb Z)<|U ?_
 refine eE (τ:=Unit) [53,55,56,57] (fun _=>[(53,.bool (decide (a.kind=16∨a.kind=18∨a.kind=20)))]) (fun _ w'=>Hp w0 w' ((b4,.cells #[J (0),J (0),.slice none 0 0] d8 (0,0))::(b3,.cells #[J (a.kind),.string (a.name),J (a.part),J (a.n),J (a.m),.string (a.text),J (a.lost)] fZ (0,0))::(bb,.cells b.c.toArray bK (0,0))::(gP,.cells uP bD (0,0))::(Ls++(Lo++K))) F) ?_ ?_
 refine ZF Z<|W<|Zr ?_
 refine cT (bl Z Z) Z Z Z (fun h55=> ?_) (fun h55=> ?_)
 exact absurd h55 hkd.2.2
 refine G (Wb Z)<|U<|ZF Z<|W<|Zr ?_
 refine cT (bl Z Z) Z Z Z (fun h56=> ?_) (fun h56=> ?_)
 refine G (Wb Z)<|U<|ZT Z<|Zk ?_
 exact⟨(),H,dF (congrArg Value.bool (decide_eq_true I)).symm,Qg⟩
 refine G (Wb Z)<|U<|ZF Z<|Zr ?_
 refine cT (bl Z Z) Z Z Z (fun h57=> ?_) (fun h57=> ?_)
 refine G (Wb Z)<|U ?_
 exact⟨(),H,dF (congrArg Value.bool (decide_eq_true I)).symm,Qg⟩
 refine G (Wb Z)<|U ?_
 exact⟨(),H,dF (congrArg Value.bool (decide_eq_false I)).symm,Qg⟩
 rintro _ ρ1 w24 H
 show CW _ _ _ _ (dC (gC _ _ ρ1) [(53,.bool (decide (a.kind=16∨a.kind=18∨a.kind=20)))]) w24
 refine jf Z (fun hc53=> ?_) (fun hc53=> ?_)
 refine W<|Zr<|G (Yp Z)<|G (Zw dN H 1 Z Z Z)<|cd dL (qC (B.into [(b4,_),(b3,_)] H) hw hk h4 g (of_decide_eq_true hc53)) Z Z ?_
 rintro _ w25 ⟨b2,x2,A9,c9,lo9,hi9,hA9,rfl,hc9,gP9,uP9,Ls9,Lo9,F9,B9,hF9⟩
 replace H:=B9.out (X:=[(b4,_),(b3,_)])
 refine bo H 0 (#[J (x2.code),J (x2.n),.slice A9 x2.texts.length c9]) aO Z Z Z Z Z N N fun w26 H=>U<|Zt ?_
 exact eM (cs0:= #[J (x2.code),J (x2.n),.slice A9 x2.texts.length c9]) Z aM Z (H.ent (i:=0) Z) Z ⟨b2,x2,A9,c9,lo9,hi9,hA9,rfl,hc9,gP9,uP9,Ls9,Lo9,F9,B9.at_ [(b4,_),(b3,_)] H,hF9⟩
 refine W<|Zr ?_
 refine cT (bl Z Z) Z Z Z (fun h62=> ?_) (fun h62=> ?_)
 refine G (Wb Z)<|U<|ZT Z<|W<|Zr<|G (Yp Z)<|G (Zw dN H 1 Z Z Z)<|cd ed (nU (B.into [(b4,_),(b3,_)] H) hw hk h4 g h62) Z Z ?_
 rintro _ w27 ⟨b2,x2,A9,c9,lo9,hi9,hA9,rfl,hc9,gP9,uP9,Ls9,Lo9,F9,B9,hF9⟩
 replace H:=B9.out (X:=[(b4,_),(b3,_)])
 refine bo H 0 (#[J (x2.code),J (x2.n),.slice A9 x2.texts.length c9]) aO Z Z Z Z Z N N fun w28 H=>U<|Zt ?_
 exact eM (cs0:= #[J (x2.code),J (x2.n),.slice A9 x2.texts.length c9]) Z aM Z (H.ent (i:=0) Z) Z ⟨b2,x2,A9,c9,lo9,hi9,hA9,rfl,hc9,gP9,uP9,Ls9,Lo9,F9,B9.at_ [(b4,_),(b3,_)] H,hF9⟩
 exfalso;have h41:=of_decide_eq_false hc41;have h53:=of_decide_eq_false hc53;have h17:=of_decide_eq_false hc17;omega
 refine G (Wb Z)<|U ?_
 refine eE (τ:=Unit) [41,43,44,45,46,47,48,49] (fun _=>[(41,.bool (decide (8<=a.kind/\a.kind<=15)))]) (fun _ w'=>Hp w0 w' ((b4,.cells #[J (0),J (0),.slice none 0 0] d8 (0,0))::(b3,.cells #[J (a.kind),.string (a.name),J (a.part),J (a.n),J (a.m),.string (a.text),J (a.lost)] fZ (0,0))::(bb,.cells b.c.toArray bK (0,0))::(gP,.cells uP bD (0,0))::(Ls++(Lo++K))) F) ?_ ?_
 refine ZF Z<|W<|Zr ?_
 refine cT (bl Z Z) Z Z Z (fun h43=> ?_) (fun h43=> ?_)
 refine G (Wb Z)<|U<|ZT Z<|Zk ?_
 exact⟨(),H,dF (congrArg Value.bool (decide_eq_true I)).symm,Qg⟩
 refine G (Wb Z)<|U<|ZF Z<|W<|Zr ?_
 refine cT (bl Z Z) Z Z Z (fun h44=> ?_) (fun h44=> ?_)
 refine G (Wb Z)<|U<|ZT Z<|Zk ?_
 exact⟨(),H,dF (congrArg Value.bool (decide_eq_true I)).symm,Qg⟩
 refine G (Wb Z)<|U<|ZF Z<|W<|Zr ?_
 refine cT (bl Z Z) Z Z Z (fun h45=> ?_) (fun h45=> ?_)
 refine G (Wb Z)<|U<|ZT Z<|Zk ?_
 exact⟨(),H,dF (congrArg Value.bool (decide_eq_true I)).symm,Qg⟩
 refine G (Wb Z)<|U<|ZF Z<|W<|Zr ?_
 refine cT (bl Z Z) Z Z Z (fun h46=> ?_) (fun h46=> ?_)
 refine G (Wb Z)<|U<|ZT Z<|Zk ?_
 exact⟨(),H,dF (congrArg Value.bool (decide_eq_true I)).symm,Qg⟩
 refine G (Wb Z)<|U<|ZF Z<|W<|Zr ?_
 refine cT (bl Z Z) Z Z Z (fun h47=> ?_) (fun h47=> ?_)
 refine G (Wb Z)<|U<|ZT Z<|Zk ?_
 exact⟨(),H,dF (congrArg Value.bool (decide_eq_true I)).symm,Qg⟩
 refine G (Wb Z)<|U<|ZF Z<|W<|Zr ?_
 refine cT (bl Z Z) Z Z Z (fun h48=> ?_) (fun h48=> ?_)
 refine G (Wb Z)<|U<|ZT Z<|Zk ?_
 exact⟨(),H,dF (congrArg Value.bool (decide_eq_true I)).symm,Qg⟩
 refine G (Wb Z)<|U<|ZF Z<|Zr ?_
 refine cT (bl Z Z) Z Z Z (fun h49=> ?_) (fun h49=> ?_)
 refine G (Wb Z)<|U ?_
 exact⟨(),H,dF (congrArg Value.bool (decide_eq_true I)).symm,Qg⟩
 refine G (Wb Z)<|U ?_
 exact⟨(),H,dF (congrArg Value.bool (decide_eq_false I)).symm,Qg⟩
 rintro _ ρ1 w29 H
 show CW _ _ _ _ (dC (gC _ _ ρ1) [(41,.bool (decide (8<=a.kind/\a.kind<=15)))]) w29
 refine jf Z (fun hc41=> ?_) (fun hc41=> ?_)
 refine W<|Zr<|G (Yp Z)<|G (Zw dN H 1 Z Z Z)<|cd fS (wn (B.into [(b4,_),(b3,_)] H) hw hk h4 g (of_decide_eq_true hc41)) Z Z ?_
 rintro _ w30 ⟨b2,x2,A9,c9,lo9,hi9,hA9,rfl,hc9,gP9,uP9,Ls9,Lo9,F9,B9,hF9⟩
 replace H:=B9.out (X:=[(b4,_),(b3,_)])
 refine bo H 0 (#[J (x2.code),J (x2.n),.slice A9 x2.texts.length c9]) aO Z Z Z Z Z N N fun w31 H=>U<|Zt ?_
 exact eM (cs0:= #[J (x2.code),J (x2.n),.slice A9 x2.texts.length c9]) Z aM Z (H.ent (i:=0) Z) Z ⟨b2,x2,A9,c9,lo9,hi9,hA9,rfl,hc9,gP9,uP9,Ls9,Lo9,F9,B9.at_ [(b4,_),(b3,_)] H,hF9⟩
 refine W<|W<|Zr ?_
 refine cT (bl Z Z) Z Z Z (fun h54=> ?_) (fun h54=> ?_)
 refine G (Wb Z)<|U ?_
 refine eE (τ:=Unit) [53,55,56,57] (fun _=>[(53,.bool (decide (a.kind=16∨a.kind=18∨a.kind=20)))]) (fun _ w'=>Hp w0 w' ((b4,.cells #[J (0),J (0),.slice none 0 0] d8 (0,0))::(b3,.cells #[J (a.kind),.string (a.name),J (a.part),J (a.n),J (a.m),.string (a.text),J (a.lost)] fZ (0,0))::(bb,.cells b.c.toArray bK (0,0))::(gP,.cells uP bD (0,0))::(Ls++(Lo++K))) F) ?_ ?_
 refine ZT Z<|Zk ?_
 exact⟨(),H,dF (congrArg Value.bool (decide_eq_true I)).symm,Qg⟩
 rintro _ ρ1 w32 H
 show CW _ _ _ _ (dC (gC _ _ ρ1) [(53,.bool (decide (a.kind=16∨a.kind=18∨a.kind=20)))]) w32
 refine jf Z (fun hc53=> ?_) (fun hc53=> ?_)
 refine W<|Zr<|G (Yp Z)<|G (Zw dN H 1 Z Z Z)<|cd dL (qC (B.into [(b4,_),(b3,_)] H) hw hk h4 g (of_decide_eq_true hc53)) Z Z ?_
 rintro _ w33 ⟨b2,x2,A9,c9,lo9,hi9,hA9,rfl,hc9,gP9,uP9,Ls9,Lo9,F9,B9,hF9⟩
 replace H:=B9.out (X:=[(b4,_),(b3,_)])
 refine bo H 0 (#[J (x2.code),J (x2.n),.slice A9 x2.texts.length c9]) aO Z Z Z Z Z N N fun w34 H=>U<|Zt ?_
 exact eM (cs0:= #[J (x2.code),J (x2.n),.slice A9 x2.texts.length c9]) Z aM Z (H.ent (i:=0) Z) Z ⟨b2,x2,A9,c9,lo9,hi9,hA9,rfl,hc9,gP9,uP9,Ls9,Lo9,F9,B9.at_ [(b4,_),(b3,_)] H,hF9⟩
 refine W<|Zr ?_
 refine cT (bl Z Z) Z Z Z (fun h62=> ?_) (fun h62=> ?_)
 refine G (Wb Z)<|U<|ZT Z<|W<|Zr<|G (Yp Z)<|G (Zw dN H 1 Z Z Z)<|cd ed (nU (B.into [(b4,_),(b3,_)] H) hw hk h4 g h62) Z Z ?_
 rintro _ w35 ⟨b2,x2,A9,c9,lo9,hi9,hA9,rfl,hc9,gP9,uP9,Ls9,Lo9,F9,B9,hF9⟩
 replace H:=B9.out (X:=[(b4,_),(b3,_)])
 refine bo H 0 (#[J (x2.code),J (x2.n),.slice A9 x2.texts.length c9]) aO Z Z Z Z Z N N fun w36 H=>U<|Zt ?_
 exact eM (cs0:= #[J (x2.code),J (x2.n),.slice A9 x2.texts.length c9]) Z aM Z (H.ent (i:=0) Z) Z ⟨b2,x2,A9,c9,lo9,hi9,hA9,rfl,hc9,gP9,uP9,Ls9,Lo9,F9,B9.at_ [(b4,_),(b3,_)] H,hF9⟩
 exfalso;have h41:=of_decide_eq_false hc41;have h53:=of_decide_eq_false hc53;have h17:=of_decide_eq_false hc17;omega
 refine G (Wb Z)<|U ?_
 refine eE (τ:=Unit) [53,55,56,57] (fun _=>[(53,.bool (decide (a.kind=16∨a.kind=18∨a.kind=20)))]) (fun _ w'=>Hp w0 w' ((b4,.cells #[J (0),J (0),.slice none 0 0] d8 (0,0))::(b3,.cells #[J (a.kind),.string (a.name),J (a.part),J (a.n),J (a.m),.string (a.text),J (a.lost)] fZ (0,0))::(bb,.cells b.c.toArray bK (0,0))::(gP,.cells uP bD (0,0))::(Ls++(Lo++K))) F) ?_ ?_
 refine ZF Z<|W<|Zr ?_
 refine cT (bl Z Z) Z Z Z (fun h55=> ?_) (fun h55=> ?_)
 exact absurd h55 hkd.2.2
 refine G (Wb Z)<|U<|ZF Z<|W<|Zr ?_
 refine cT (bl Z Z) Z Z Z (fun h56=> ?_) (fun h56=> ?_)
 refine G (Wb Z)<|U<|ZT Z<|Zk ?_
 exact⟨(),H,dF (congrArg Value.bool (decide_eq_true I)).symm,Qg⟩
 refine G (Wb Z)<|U<|ZF Z<|Zr ?_
 refine cT (bl Z Z) Z Z Z (fun h57=> ?_) (fun h57=> ?_)
 refine G (Wb Z)<|U ?_
 exact⟨(),H,dF (congrArg Value.bool (decide_eq_true I)).symm,Qg⟩
 refine G (Wb Z)<|U ?_
 exact⟨(),H,dF (congrArg Value.bool (decide_eq_false I)).symm,Qg⟩
 rintro _ ρ1 w37 H
 show CW _ _ _ _ (dC (gC _ _ ρ1) [(53,.bool (decide (a.kind=16∨a.kind=18∨a.kind=20)))]) w37
 refine jf Z (fun hc53=> ?_) (fun hc53=> ?_)
 refine W<|Zr<|G (Yp Z)<|G (Zw dN H 1 Z Z Z)<|cd dL (qC (B.into [(b4,_),(b3,_)] H) hw hk h4 g (of_decide_eq_true hc53)) Z Z ?_
 rintro _ w38 ⟨b2,x2,A9,c9,lo9,hi9,hA9,rfl,hc9,gP9,uP9,Ls9,Lo9,F9,B9,hF9⟩
 replace H:=B9.out (X:=[(b4,_),(b3,_)])
 refine bo H 0 (#[J (x2.code),J (x2.n),.slice A9 x2.texts.length c9]) aO Z Z Z Z Z N N fun w39 H=>U<|Zt ?_
 exact eM (cs0:= #[J (x2.code),J (x2.n),.slice A9 x2.texts.length c9]) Z aM Z (H.ent (i:=0) Z) Z ⟨b2,x2,A9,c9,lo9,hi9,hA9,rfl,hc9,gP9,uP9,Ls9,Lo9,F9,B9.at_ [(b4,_),(b3,_)] H,hF9⟩
 refine W<|Zr ?_
 refine cT (bl Z Z) Z Z Z (fun h62=> ?_) (fun h62=> ?_)
 refine G (Wb Z)<|U<|ZT Z<|W<|Zr<|G (Yp Z)<|G (Zw dN H 1 Z Z Z)<|cd ed (nU (B.into [(b4,_),(b3,_)] H) hw hk h4 g h62) Z Z ?_
 rintro _ w40 ⟨b2,x2,A9,c9,lo9,hi9,hA9,rfl,hc9,gP9,uP9,Ls9,Lo9,F9,B9,hF9⟩
 replace H:=B9.out (X:=[(b4,_),(b3,_)])
 refine bo H 0 (#[J (x2.code),J (x2.n),.slice A9 x2.texts.length c9]) aO Z Z Z Z Z N N fun w41 H=>U<|Zt ?_
 exact eM (cs0:= #[J (x2.code),J (x2.n),.slice A9 x2.texts.length c9]) Z aM Z (H.ent (i:=0) Z) Z ⟨b2,x2,A9,c9,lo9,hi9,hA9,rfl,hc9,gP9,uP9,Ls9,Lo9,F9,B9.at_ [(b4,_),(b3,_)] H,hF9⟩
 exfalso;have h41:=of_decide_eq_false hc41;have h53:=of_decide_eq_false hc53;have h17:=of_decide_eq_false hc17;omega
 refine G (Wb Z)<|U ?_
 refine eE (τ:=Unit) [17,19] (fun _=>[(17,.bool (decide (a.kind=3∨a.kind=4)))]) (fun _ w'=>Hp w0 w' ((b4,.cells #[J (0),J (0),.slice none 0 0] d8 (0,0))::(b3,.cells #[J (a.kind),.string (a.name),J (a.part),J (a.n),J (a.m),.string (a.text),J (a.lost)] fZ (0,0))::(bb,.cells b.c.toArray bK (0,0))::(gP,.cells uP bD (0,0))::(Ls++(Lo++K))) F) ?_ ?_
 refine ZF Z<|Zr ?_
 refine cT (bl Z Z) Z Z Z (fun h19=> ?_) (fun h19=> ?_)
 refine G (Wb Z)<|U ?_
 exact⟨(),H,dF (congrArg Value.bool (decide_eq_true I)).symm,Qg⟩
 refine G (Wb Z)<|U ?_
 exact⟨(),H,dF (congrArg Value.bool (decide_eq_false I)).symm,Qg⟩
 rintro _ ρ1 w42 H
 show CW _ _ _ _ (dC (gC _ _ ρ1) [(17,.bool (decide (a.kind=3∨a.kind=4)))]) w42
 refine jf Z (fun hc17=> ?_) (fun hc17=> ?_)
 refine W<|Zr<|G (Yp Z)<|G (Zw dN H 1 Z Z Z)<|G (Zf mw Z)<|G (Zd aj H 1 Z Z Z)<|G (bl Z Z)<|cd mX (EB (B.into [(b4,_),(b3,_)] H) hw hk h4 g (of_decide_eq_true hc17)) Z Z ?_
 rintro _ w43 ⟨b2,x2,A9,c9,lo9,hi9,hA9,rfl,hc9,gP9,uP9,Ls9,Lo9,F9,B9,hF9⟩
 replace H:=B9.out (X:=[(b4,_),(b3,_)])
 refine bo H 0 (#[J (x2.code),J (x2.n),.slice A9 x2.texts.length c9]) aO Z Z Z Z Z N N fun w44 H=>U<|Zt ?_
 exact eM (cs0:= #[J (x2.code),J (x2.n),.slice A9 x2.texts.length c9]) Z aM Z (H.ent (i:=0) Z) Z ⟨b2,x2,A9,c9,lo9,hi9,hA9,rfl,hc9,gP9,uP9,Ls9,Lo9,F9,B9.at_ [(b4,_),(b3,_)] H,hF9⟩
 refine W<|Zr ?_
 refine cT (bl Z Z) Z Z Z (fun h27=> ?_) (fun h27=> ?_)
 refine G (Wb Z)<|U<|ZT Z<|W<|Zr<|G (Yp Z)<|G (Zw dN H 1 Z Z Z)<|cd lR (Ax (B.into [(b4,_),(b3,_)] H) hw hk h4 g h27) Z Z ?_
 rintro _ w45 ⟨b2,x2,A9,c9,lo9,hi9,hA9,rfl,hc9,gP9,uP9,Ls9,Lo9,F9,B9,hF9⟩
 replace H:=B9.out (X:=[(b4,_),(b3,_)])
 refine bo H 0 (#[J (x2.code),J (x2.n),.slice A9 x2.texts.length c9]) aO Z Z Z Z Z N N fun w46 H=>U<|Zt ?_
 exact eM (cs0:= #[J (x2.code),J (x2.n),.slice A9 x2.texts.length c9]) Z aM Z (H.ent (i:=0) Z) Z ⟨b2,x2,A9,c9,lo9,hi9,hA9,rfl,hc9,gP9,uP9,Ls9,Lo9,F9,B9.at_ [(b4,_),(b3,_)] H,hF9⟩
 refine G (Wb Z)<|U<|ZF Z<|W<|Zr ?_
 refine cT (bl Z Z) Z Z Z (fun h32=> ?_) (fun h32=> ?_)
 refine G (Wb Z)<|U<|ZT Z<|W<|Zr<|G (Yp Z)<|G (Zw dN H 1 Z Z Z)<|cd mY (E0 (B.into [(b4,_),(b3,_)] H) hw hk h4 g h32) Z Z ?_
 rintro _ w47 ⟨b2,x2,A9,c9,lo9,hi9,hA9,rfl,hc9,gP9,uP9,Ls9,Lo9,F9,B9,hF9⟩
 replace H:=B9.out (X:=[(b4,_),(b3,_)])
 refine bo H 0 (#[J (x2.code),J (x2.n),.slice A9 x2.texts.length c9]) aO Z Z Z Z Z N N fun w48 H=>U<|Zt ?_
 exact eM (cs0:= #[J (x2.code),J (x2.n),.slice A9 x2.texts.length c9]) Z aM Z (H.ent (i:=0) Z) Z ⟨b2,x2,A9,c9,lo9,hi9,hA9,rfl,hc9,gP9,uP9,Ls9,Lo9,F9,B9.at_ [(b4,_),(b3,_)] H,hF9⟩
 refine G (Wb Z)<|U<|ZF Z<|W<|Zr ?_
 refine cT (bl Z Z) Z Z Z (fun h37=> ?_) (fun h37=> ?_)
 refine G (Wb Z)<|U<|ZT Z<|W<|Zr<|G (Yp Z)<|G (Zw dN H 1 Z Z Z)<|cd mW (En (B.into [(b4,_),(b3,_)] H) hw hk h4 g h37) Z Z ?_
 rintro _ w49 ⟨b2,x2,A9,c9,lo9,hi9,hA9,rfl,hc9,gP9,uP9,Ls9,Lo9,F9,B9,hF9⟩
 replace H:=B9.out (X:=[(b4,_),(b3,_)])
 refine bo H 0 (#[J (x2.code),J (x2.n),.slice A9 x2.texts.length c9]) aO Z Z Z Z Z N N fun w50 H=>U<|Zt ?_
 exact eM (cs0:= #[J (x2.code),J (x2.n),.slice A9 x2.texts.length c9]) Z aM Z (H.ent (i:=0) Z) Z ⟨b2,x2,A9,c9,lo9,hi9,hA9,rfl,hc9,gP9,uP9,Ls9,Lo9,F9,B9.at_ [(b4,_),(b3,_)] H,hF9⟩
 refine G (Wb Z)<|U<|ZF Z<|W<|W<|Zr ?_
 refine cT (bl Z Z) Z Z Z (fun h42=> ?_) (fun h42=> ?_)
 refine G (Wb Z)<|U ?_
 refine eE (τ:=Unit) [41,43,44,45,46,47,48,49] (fun _=>[(41,.bool (decide (8<=a.kind/\a.kind<=15)))]) (fun _ w'=>Hp w0 w' ((b4,.cells #[J (0),J (0),.slice none 0 0] d8 (0,0))::(b3,.cells #[J (a.kind),.string (a.name),J (a.part),J (a.n),J (a.m),.string (a.text),J (a.lost)] fZ (0,0))::(bb,.cells b.c.toArray bK (0,0))::(gP,.cells uP bD (0,0))::(Ls++(Lo++K))) F) ?_ ?_
 refine ZT Z<|Zk ?_
 exact⟨(),H,dF (congrArg Value.bool (decide_eq_true I)).symm,Qg⟩
 rintro _ ρ1 w51 H
 show CW _ _ _ _ (dC (gC _ _ ρ1) [(41,.bool (decide (8<=a.kind/\a.kind<=15)))]) w51
 refine jf Z (fun hc41=> ?_) (fun hc41=> ?_)
 refine W<|Zr<|G (Yp Z)<|G (Zw dN H 1 Z Z Z)<|cd fS (wn (B.into [(b4,_),(b3,_)] H) hw hk h4 g (of_decide_eq_true hc41)) Z Z ?_
 rintro _ w52 ⟨b2,x2,A9,c9,lo9,hi9,hA9,rfl,hc9,gP9,uP9,Ls9,Lo9,F9,B9,hF9⟩
 replace H:=B9.out (X:=[(b4,_),(b3,_)])
 refine bo H 0 (#[J (x2.code),J (x2.n),.slice A9 x2.texts.length c9]) aO Z Z Z Z Z N N fun w53 H=>U<|Zt ?_
 exact eM (cs0:= #[J (x2.code),J (x2.n),.slice A9 x2.texts.length c9]) Z aM Z (H.ent (i:=0) Z) Z ⟨b2,x2,A9,c9,lo9,hi9,hA9,rfl,hc9,gP9,uP9,Ls9,Lo9,F9,B9.at_ [(b4,_),(b3,_)] H,hF9⟩
 refine W<|W<|Zr ?_
 refine cT (bl Z Z) Z Z Z (fun h54=> ?_) (fun h54=> ?_)
 refine G (Wb Z)<|U ?_
 refine eE (τ:=Unit) [53,55,56,57] (fun _=>[(53,.bool (decide (a.kind=16∨a.kind=18∨a.kind=20)))]) (fun _ w'=>Hp w0 w' ((b4,.cells #[J (0),J (0),.slice none 0 0] d8 (0,0))::(b3,.cells #[J (a.kind),.string (a.name),J (a.part),J (a.n),J (a.m),.string (a.text),J (a.lost)] fZ (0,0))::(bb,.cells b.c.toArray bK (0,0))::(gP,.cells uP bD (0,0))::(Ls++(Lo++K))) F) ?_ ?_
 refine ZT Z<|Zk ?_
 exact⟨(),H,dF (congrArg Value.bool (decide_eq_true I)).symm,Qg⟩
 rintro _ ρ1 w54 H
 show CW _ _ _ _ (dC (gC _ _ ρ1) [(53,.bool (decide (a.kind=16∨a.kind=18∨a.kind=20)))]) w54
 refine jf Z (fun hc53=> ?_) (fun hc53=> ?_)
 refine W<|Zr<|G (Yp Z)<|G (Zw dN H 1 Z Z Z)<|cd dL (qC (B.into [(b4,_),(b3,_)] H) hw hk h4 g (of_decide_eq_true hc53)) Z Z ?_
 rintro _ w55 ⟨b2,x2,A9,c9,lo9,hi9,hA9,rfl,hc9,gP9,uP9,Ls9,Lo9,F9,B9,hF9⟩
 replace H:=B9.out (X:=[(b4,_),(b3,_)])
 refine bo H 0 (#[J (x2.code),J (x2.n),.slice A9 x2.texts.length c9]) aO Z Z Z Z Z N N fun w56 H=>U<|Zt ?_
 exact eM (cs0:= #[J (x2.code),J (x2.n),.slice A9 x2.texts.length c9]) Z aM Z (H.ent (i:=0) Z) Z ⟨b2,x2,A9,c9,lo9,hi9,hA9,rfl,hc9,gP9,uP9,Ls9,Lo9,F9,B9.at_ [(b4,_),(b3,_)] H,hF9⟩
 refine W<|Zr ?_
 refine cT (bl Z Z) Z Z Z (fun h62=> ?_) (fun h62=> ?_)
 refine G (Wb Z)<|U<|ZT Z<|W<|Zr<|G (Yp Z)<|G (Zw dN H 1 Z Z Z)<|cd ed (nU (B.into [(b4,_),(b3,_)] H) hw hk h4 g h62) Z Z ?_
 rintro _ w57 ⟨b2,x2,A9,c9,lo9,hi9,hA9,rfl,hc9,gP9,uP9,Ls9,Lo9,F9,B9,hF9⟩
 replace H:=B9.out (X:=[(b4,_),(b3,_)])
 refine bo H 0 (#[J (x2.code),J (x2.n),.slice A9 x2.texts.length c9]) aO Z Z Z Z Z N N fun w58 H=>U<|Zt ?_
 exact eM (cs0:= #[J (x2.code),J (x2.n),.slice A9 x2.texts.length c9]) Z aM Z (H.ent (i:=0) Z) Z ⟨b2,x2,A9,c9,lo9,hi9,hA9,rfl,hc9,gP9,uP9,Ls9,Lo9,F9,B9.at_ [(b4,_),(b3,_)] H,hF9⟩
 exfalso;have h41:=of_decide_eq_false hc41;have h53:=of_decide_eq_false hc53;have h17:=of_decide_eq_false hc17;omega
 refine G (Wb Z)<|U ?_
 refine eE (τ:=Unit) [53,55,56,57] (fun _=>[(53,.bool (decide (a.kind=16∨a.kind=18∨a.kind=20)))]) (fun _ w'=>Hp w0 w' ((b4,.cells #[J (0),J (0),.slice none 0 0] d8 (0,0))::(b3,.cells #[J (a.kind),.string (a.name),J (a.part),J (a.n),J (a.m),.string (a.text),J (a.lost)] fZ (0,0))::(bb,.cells b.c.toArray bK (0,0))::(gP,.cells uP bD (0,0))::(Ls++(Lo++K))) F) ?_ ?_
 refine ZF Z<|W<|Zr ?_
 refine cT (bl Z Z) Z Z Z (fun h55=> ?_) (fun h55=> ?_)
 exact absurd h55 hkd.2.2
 refine G (Wb Z)<|U<|ZF Z<|W<|Zr ?_
 refine cT (bl Z Z) Z Z Z (fun h56=> ?_) (fun h56=> ?_)
 refine G (Wb Z)<|U<|ZT Z<|Zk ?_
 exact⟨(),H,dF (congrArg Value.bool (decide_eq_true I)).symm,Qg⟩
 refine G (Wb Z)<|U<|ZF Z<|Zr ?_
 refine cT (bl Z Z) Z Z Z (fun h57=> ?_) (fun h57=> ?_)
 refine G (Wb Z)<|U ?_
 exact⟨(),H,dF (congrArg Value.bool (decide_eq_true I)).symm,Qg⟩
 refine G (Wb Z)<|U ?_
 exact⟨(),H,dF (congrArg Value.bool (decide_eq_false I)).symm,Qg⟩
 rintro _ ρ1 w59 H
 show CW _ _ _ _ (dC (gC _ _ ρ1) [(53,.bool (decide (a.kind=16∨a.kind=18∨a.kind=20)))]) w59
 refine jf Z (fun hc53=> ?_) (fun hc53=> ?_)
 refine W<|Zr<|G (Yp Z)<|G (Zw dN H 1 Z Z Z)<|cd dL (qC (B.into [(b4,_),(b3,_)] H) hw hk h4 g (of_decide_eq_true hc53)) Z Z ?_
 rintro _ w60 ⟨b2,x2,A9,c9,lo9,hi9,hA9,rfl,hc9,gP9,uP9,Ls9,Lo9,F9,B9,hF9⟩
 replace H:=B9.out (X:=[(b4,_),(b3,_)])
 refine bo H 0 (#[J (x2.code),J (x2.n),.slice A9 x2.texts.length c9]) aO Z Z Z Z Z N N fun w61 H=>U<|Zt ?_
 exact eM (cs0:= #[J (x2.code),J (x2.n),.slice A9 x2.texts.length c9]) Z aM Z (H.ent (i:=0) Z) Z ⟨b2,x2,A9,c9,lo9,hi9,hA9,rfl,hc9,gP9,uP9,Ls9,Lo9,F9,B9.at_ [(b4,_),(b3,_)] H,hF9⟩
 refine W<|Zr ?_
 refine cT (bl Z Z) Z Z Z (fun h62=> ?_) (fun h62=> ?_)
 refine G (Wb Z)<|U<|ZT Z<|W<|Zr<|G (Yp Z)<|G (Zw dN H 1 Z Z Z)<|cd ed (nU (B.into [(b4,_),(b3,_)] H) hw hk h4 g h62) Z Z ?_
 rintro _ w62 ⟨b2,x2,A9,c9,lo9,hi9,hA9,rfl,hc9,gP9,uP9,Ls9,Lo9,F9,B9,hF9⟩
 replace H:=B9.out (X:=[(b4,_),(b3,_)])
 refine bo H 0 (#[J (x2.code),J (x2.n),.slice A9 x2.texts.length c9]) aO Z Z Z Z Z N N fun w63 H=>U<|Zt ?_
 exact eM (cs0:= #[J (x2.code),J (x2.n),.slice A9 x2.texts.length c9]) Z aM Z (H.ent (i:=0) Z) Z ⟨b2,x2,A9,c9,lo9,hi9,hA9,rfl,hc9,gP9,uP9,Ls9,Lo9,F9,B9.at_ [(b4,_),(b3,_)] H,hF9⟩
 exfalso;have h41:=of_decide_eq_false hc41;have h53:=of_decide_eq_false hc53;have h17:=of_decide_eq_false hc17;omega
 refine G (Wb Z)<|U ?_
 refine eE (τ:=Unit) [41,43,44,45,46,47,48,49] (fun _=>[(41,.bool (decide (8<=a.kind/\a.kind<=15)))]) (fun _ w'=>Hp w0 w' ((b4,.cells #[J (0),J (0),.slice none 0 0] d8 (0,0))::(b3,.cells #[J (a.kind),.string (a.name),J (a.part),J (a.n),J (a.m),.string (a.text),J (a.lost)] fZ (0,0))::(bb,.cells b.c.toArray bK (0,0))::(gP,.cells uP bD (0,0))::(Ls++(Lo++K))) F) ?_ ?_
 refine ZF Z<|W<|Zr ?_
 refine cT (bl Z Z) Z Z Z (fun h43=> ?_) (fun h43=> ?_)
 refine G (Wb Z)<|U<|ZT Z<|Zk ?_
 exact⟨(),H,dF (congrArg Value.bool (decide_eq_true I)).symm,Qg⟩
 refine G (Wb Z)<|U<|ZF Z<|W<|Zr ?_
 refine cT (bl Z Z) Z Z Z (fun h44=> ?_) (fun h44=> ?_)
 refine G (Wb Z)<|U<|ZT Z<|Zk ?_
 exact⟨(),H,dF (congrArg Value.bool (decide_eq_true I)).symm,Qg⟩
 refine G (Wb Z)<|U<|ZF Z<|W<|Zr ?_
 refine cT (bl Z Z) Z Z Z (fun h45=> ?_) (fun h45=> ?_)
 refine G (Wb Z)<|U<|ZT Z<|Zk ?_
 exact⟨(),H,dF (congrArg Value.bool (decide_eq_true I)).symm,Qg⟩
 refine G (Wb Z)<|U<|ZF Z<|W<|Zr ?_
 refine cT (bl Z Z) Z Z Z (fun h46=> ?_) (fun h46=> ?_)
 refine G (Wb Z)<|U<|ZT Z<|Zk ?_
 exact⟨(),H,dF (congrArg Value.bool (decide_eq_true I)).symm,Qg⟩
 refine G (Wb Z)<|U<|ZF Z<|W<|Zr ?_
 refine cT (bl Z Z) Z Z Z (fun h47=> ?_) (fun h47=> ?_)
 refine G (Wb Z)<|U<|ZT Z<|Zk ?_
 exact⟨(),H,dF (congrArg Value.bool (decide_eq_true I)).symm,Qg⟩
 refine G (Wb Z)<|U<|ZF Z<|W<|Zr ?_
 refine cT (bl Z Z) Z Z Z (fun h48=> ?_) (fun h48=> ?_)
 refine G (Wb Z)<|U<|ZT Z<|Zk ?_
 exact⟨(),H,dF (congrArg Value.bool (decide_eq_true I)).symm,Qg⟩
 refine G (Wb Z)<|U<|ZF Z<|Zr ?_
 refine cT (bl Z Z) Z Z Z (fun h49=> ?_) (fun h49=> ?_)
 refine G (Wb Z)<|U ?_
 exact⟨(),H,dF (congrArg Value.bool (decide_eq_true I)).symm,Qg⟩
 refine G (Wb Z)<|U ?_
 exact⟨(),H,dF (congrArg Value.bool (decide_eq_false I)).symm,Qg⟩
 rintro _ ρ1 w64 H
 show CW _ _ _ _ (dC (gC _ _ ρ1) [(41,.bool (decide (8<=a.kind/\a.kind<=15)))]) w64
 refine jf Z (fun hc41=> ?_) (fun hc41=> ?_)
 refine W<|Zr<|G (Yp Z)<|G (Zw dN H 1 Z Z Z)<|cd fS (wn (B.into [(b4,_),(b3,_)] H) hw hk h4 g (of_decide_eq_true hc41)) Z Z ?_
 rintro _ w65 ⟨b2,x2,A9,c9,lo9,hi9,hA9,rfl,hc9,gP9,uP9,Ls9,Lo9,F9,B9,hF9⟩
 replace H:=B9.out (X:=[(b4,_),(b3,_)])
 refine bo H 0 (#[J (x2.code),J (x2.n),.slice A9 x2.texts.length c9]) aO Z Z Z Z Z N N fun w66 H=>U<|Zt ?_
 exact eM (cs0:= #[J (x2.code),J (x2.n),.slice A9 x2.texts.length c9]) Z aM Z (H.ent (i:=0) Z) Z ⟨b2,x2,A9,c9,lo9,hi9,hA9,rfl,hc9,gP9,uP9,Ls9,Lo9,F9,B9.at_ [(b4,_),(b3,_)] H,hF9⟩
 refine W<|W<|Zr ?_
 refine cT (bl Z Z) Z Z Z (fun h54=> ?_) (fun h54=> ?_)
 refine G (Wb Z)<|U ?_
 refine eE (τ:=Unit) [53,55,56,57] (fun _=>[(53,.bool (decide (a.kind=16∨a.kind=18∨a.kind=20)))]) (fun _ w'=>Hp w0 w' ((b4,.cells #[J (0),J (0),.slice none 0 0] d8 (0,0))::(b3,.cells #[J (a.kind),.string (a.name),J (a.part),J (a.n),J (a.m),.string (a.text),J (a.lost)] fZ (0,0))::(bb,.cells b.c.toArray bK (0,0))::(gP,.cells uP bD (0,0))::(Ls++(Lo++K))) F) ?_ ?_
 refine ZT Z<|Zk ?_
 exact⟨(),H,dF (congrArg Value.bool (decide_eq_true I)).symm,Qg⟩
 rintro _ ρ1 w67 H
 show CW _ _ _ _ (dC (gC _ _ ρ1) [(53,.bool (decide (a.kind=16∨a.kind=18∨a.kind=20)))]) w67
 refine jf Z (fun hc53=> ?_) (fun hc53=> ?_)
 refine W<|Zr<|G (Yp Z)<|G (Zw dN H 1 Z Z Z)<|cd dL (qC (B.into [(b4,_),(b3,_)] H) hw hk h4 g (of_decide_eq_true hc53)) Z Z ?_
 rintro _ w68 ⟨b2,x2,A9,c9,lo9,hi9,hA9,rfl,hc9,gP9,uP9,Ls9,Lo9,F9,B9,hF9⟩
 replace H:=B9.out (X:=[(b4,_),(b3,_)])
 refine bo H 0 (#[J (x2.code),J (x2.n),.slice A9 x2.texts.length c9]) aO Z Z Z Z Z N N fun w69 H=>U<|Zt ?_
 exact eM (cs0:= #[J (x2.code),J (x2.n),.slice A9 x2.texts.length c9]) Z aM Z (H.ent (i:=0) Z) Z ⟨b2,x2,A9,c9,lo9,hi9,hA9,rfl,hc9,gP9,uP9,Ls9,Lo9,F9,B9.at_ [(b4,_),(b3,_)] H,hF9⟩
 refine W<|Zr ?_
 refine cT (bl Z Z) Z Z Z (fun h62=> ?_) (fun h62=> ?_)
 refine G (Wb Z)<|U<|ZT Z<|W<|Zr<|G (Yp Z)<|G (Zw dN H 1 Z Z Z)<|cd ed (nU (B.into [(b4,_),(b3,_)] H) hw hk h4 g h62) Z Z ?_
 rintro _ w70 ⟨b2,x2,A9,c9,lo9,hi9,hA9,rfl,hc9,gP9,uP9,Ls9,Lo9,F9,B9,hF9⟩
 replace H:=B9.out (X:=[(b4,_),(b3,_)])
 refine bo H 0 (#[J (x2.code),J (x2.n),.slice A9 x2.texts.length c9]) aO Z Z Z Z Z N N fun w71 H=>U<|Zt ?_
 exact eM (cs0:= #[J (x2.code),J (x2.n),.slice A9 x2.texts.length c9]) Z aM Z (H.ent (i:=0) Z) Z ⟨b2,x2,A9,c9,lo9,hi9,hA9,rfl,hc9,gP9,uP9,Ls9,Lo9,F9,B9.at_ [(b4,_),(b3,_)] H,hF9⟩
 exfalso;have h41:=of_decide_eq_false hc41;have h53:=of_decide_eq_false hc53;have h17:=of_decide_eq_false hc17;omega
 refine G (Wb Z)<|U ?_
 refine eE (τ:=Unit) [53,55,56,57] (fun _=>[(53,.bool (decide (a.kind=16∨a.kind=18∨a.kind=20)))]) (fun _ w'=>Hp w0 w' ((b4,.cells #[J (0),J (0),.slice none 0 0] d8 (0,0))::(b3,.cells #[J (a.kind),.string (a.name),J (a.part),J (a.n),J (a.m),.string (a.text),J (a.lost)] fZ (0,0))::(bb,.cells b.c.toArray bK (0,0))::(gP,.cells uP bD (0,0))::(Ls++(Lo++K))) F) ?_ ?_
 refine ZF Z<|W<|Zr ?_
 refine cT (bl Z Z) Z Z Z (fun h55=> ?_) (fun h55=> ?_)
 exact absurd h55 hkd.2.2
 refine G (Wb Z)<|U<|ZF Z<|W<|Zr ?_
 refine cT (bl Z Z) Z Z Z (fun h56=> ?_) (fun h56=> ?_)
 refine G (Wb Z)<|U<|ZT Z<|Zk ?_
 exact⟨(),H,dF (congrArg Value.bool (decide_eq_true I)).symm,Qg⟩
 refine G (Wb Z)<|U<|ZF Z<|Zr ?_
 refine cT (bl Z Z) Z Z Z (fun h57=> ?_) (fun h57=> ?_)
 refine G (Wb Z)<|U ?_
 exact⟨(),H,dF (congrArg Value.bool (decide_eq_true I)).symm,Qg⟩
 refine G (Wb Z)<|U ?_
 exact⟨(),H,dF (congrArg Value.bool (decide_eq_false I)).symm,Qg⟩
 rintro _ ρ1 w72 H
 show CW _ _ _ _ (dC (gC _ _ ρ1) [(53,.bool (decide (a.kind=16∨a.kind=18∨a.kind=20)))]) w72
 refine jf Z (fun hc53=> ?_) (fun hc53=> ?_)
 refine W<|Zr<|G (Yp Z)<|G (Zw dN H 1 Z Z Z)<|cd dL (qC (B.into [(b4,_),(b3,_)] H) hw hk h4 g (of_decide_eq_true hc53)) Z Z ?_
 rintro _ w73 ⟨b2,x2,A9,c9,lo9,hi9,hA9,rfl,hc9,gP9,uP9,Ls9,Lo9,F9,B9,hF9⟩
 replace H:=B9.out (X:=[(b4,_),(b3,_)])
 refine bo H 0 (#[J (x2.code),J (x2.n),.slice A9 x2.texts.length c9]) aO Z Z Z Z Z N N fun w74 H=>U<|Zt ?_
 exact eM (cs0:= #[J (x2.code),J (x2.n),.slice A9 x2.texts.length c9]) Z aM Z (H.ent (i:=0) Z) Z ⟨b2,x2,A9,c9,lo9,hi9,hA9,rfl,hc9,gP9,uP9,Ls9,Lo9,F9,B9.at_ [(b4,_),(b3,_)] H,hF9⟩
 refine W<|Zr ?_
 refine cT (bl Z Z) Z Z Z (fun h62=> ?_) (fun h62=> ?_)
 refine G (Wb Z)<|U<|ZT Z<|W<|Zr<|G (Yp Z)<|G (Zw dN H 1 Z Z Z)<|cd ed (nU (B.into [(b4,_),(b3,_)] H) hw hk h4 g h62) Z Z ?_
 rintro _ w75 ⟨b2,x2,A9,c9,lo9,hi9,hA9,rfl,hc9,gP9,uP9,Ls9,Lo9,F9,B9,hF9⟩
 replace H:=B9.out (X:=[(b4,_),(b3,_)])
 refine bo H 0 (#[J (x2.code),J (x2.n),.slice A9 x2.texts.length c9]) aO Z Z Z Z Z N N fun w76 H=>U<|Zt ?_
 exact eM (cs0:= #[J (x2.code),J (x2.n),.slice A9 x2.texts.length c9]) Z aM Z (H.ent (i:=0) Z) Z ⟨b2,x2,A9,c9,lo9,hi9,hA9,rfl,hc9,gP9,uP9,Ls9,Lo9,F9,B9.at_ [(b4,_),(b3,_)] H,hF9⟩
 exfalso;have h41:=of_decide_eq_false hc41;have h53:=of_decide_eq_false hc53;have h17:=of_decide_eq_false hc17;omega
end Go.Proofs.YtclibalpdhhhfaaGreat
