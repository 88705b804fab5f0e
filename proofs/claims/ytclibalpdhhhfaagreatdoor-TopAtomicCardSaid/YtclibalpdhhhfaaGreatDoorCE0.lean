/- Part 0 of the proofs over this seat: what its theorems say holds for every input that they name. -/
import Derived.WalkKit
import Derived.Lib.AppendStr
import Derived.Laws.BytesArg
import Derived.Orders
import Derived.Laws.StructEq
import Derived.Laws.Pointers
import Derived.Test.YtclibalpdhhhfaaGreatDoorProg
import Derived.KernelRfl
import Derived.Test.YtclibalpdhhhfaaGreatDoorRows
import Derived.ProofKit
import Derived.OpenShut
import Derived.ShutString
import Derived.ChangeOld
import Derived.Below
import Derived.JoinedCond
import Derived.Laws.Runes
import Derived.Deep.Slices
import Derived.Maps.RangeRun
import Derived.Lib.AppendZeros
import Derived.Deep.OwnRows
import Derived.Maps.Keyed
import Derived.DeepKeys5
import Derived.Lib.ConvBytes
import Derived.Laws.MakeOwn
import Derived.OrdersHeld
import Derived.Lib.Overlaps
import Derived.Laws.Externs
import Derived.Laws.Strings2
import Derived.Test.YtclibalpdhhhfaaGreatDoorTie
import Derived.Test.YtclibalpdhhhfaaGreatDoorCards
import Derived.Lay
import Derived.MakeChecks
import Derived.LaidHandle
import Derived.ChangeVars
namespace Go.Eng
open Go Go.RowKit
open _root_.List renaming mem_of_getElem?→ab,length_set→ae,getElem?_eq_getElem→ai,mem_cons_of_mem→aj,getElem?_set_self→ak,replicate→ao,mem_singleton→aq,mem_append→ar,length_append→av,mem_cons→ay,mem_cons_self→aA,append_assoc→aB,getElem?_eq_some_iff→aC,sublist_append_left→aE,length_take→aI,getElem?_map→aJ,mem_iff_getElem?→aN,getElem?_set_ne→aO,append_nil→aP,sublist_cons_self→aS,length_replicate→bc,length_cons→bf,map_append→bi,mem_nil_iff→bu,length_map→bF,mem_map→bK,getElem?_eq_none→bL,mem_map_of_mem→bM,eq_nil_of_length_eq_zero→bS,getElem?_append_left→bU,mem_append_right→ce,getElem?_append_right→cy,map_set→cO,getD_eq_getElem?_getD→cS,getElem?_drop→df,ext_getElem?→dg,take_take→dt,getElem?_take→dz,map_cons→dB,size_toArray→dK,length_drop→dL,mem_singleton_self→eh,all_eq_true→eD,drop_of_length_le→eE,getElem?_take_of_lt→fd,take_of_length_le→fD,length_nil→fT,mem_append_left→gk,flatMap_cons→gy,take_left→jq,nodup_cons→jB,nil_append→jC,drop_drop→km,take_append_of_le_length→kQ,getElem?_set→lQ,getElem?_cons_succ→pi,nodup_append→pQ,perm_middle→qY,cons_append→qZ,drop_set_of_lt→tj,take→ug,perm_append_comm→y8,take_zero→AJ,take_set_of_le→BG,getElem_set_ne→BI,drop_succ_cons→BJ
open _root_.List.Perm renaming swap→am
open _root_.Nat renaming le_refl→ap,blt→aQ,zero_le→aV,le_trans→aW,eq_of_beq_eq_true→ba,min_eq_left→bE,zero_add→cC,mul_le_mul_right→cN,add_mul→cW,beq→eG,le_of_ble_eq_true→fk,lt_or_ge→fC,lt_of_lt_of_le→gg,one_mul→gj,mod_eq_of_lt→hZ,mod_lt→jU,add_assoc→lx,add_zero→mS,add_sub_cancel_left→pg,blt_eq→uu,lt_succ_self→xl,le_mul_of_pos_right→xm,zero_mul→xY,eq_zero_of_not_pos→xZ,div_lt_of_lt_mul→AI,mul_comm→Fe,add_comm→Fg
open _root_.List.Sublist renaming refl→au
open _root_.Option.some renaming inj→aZ,injEq→jI
open _root_.Bool renaming and_eq_true→bg,false_eq_true→dh,or_eq_true→sL,not_eq_true'→vV
open _root_.Array renaming length_toList→ch,getD_eq_getD_getElem?→cZ,replicate→fU,size_append→pU,getElem?_eq_none→pV,toList_append→tl,getElem?_eq_some_iff→ux,toList_push→vW
open _root_.Option renaming bind_some→cQ,map_some→dA,map_eq_some_iff→i4,map_none→jA,getD_some→qW
open _root_.Int renaming le_refl→fj,toNat_natCast→lR,eq_ofNat_of_zero_le→xo
set_option maxHeartbeats 4000000
set_option maxRecDepth 20000
set_option linter.unusedSimpArgs false
set_option linter.unusedVariables false
set_option linter.unusedSectionVars false
section
abbrev gV:=Nat->Value
def fB (ρ:gV) (d:Nat) (v:Value):gV:=fun t=>bif eG t d then v else ρ t
def ev (ρ:gV):Operand->Value
 |.tmp t=>ρ t
 |.const v=>v
 |.global g=> .pointer (some ⟨g,0,none⟩)
 |.func f=> .func (.func f) #[] #[]
structure St (n:Nat) (ρ:gV) (a:Act):Prop where
 size:a.tmps.size=n
 get: ∀ t,a.tmps.getD t undef=ρ t
 defers:a.defers=[]
theorem St.eval {n:Nat} {ρ:gV} {a:Act} (h:St n ρ a):a.eval=ev ρ:=by
 funext x
 cases x<;>simp[Act.eval,ev,h.get]
theorem St.put {n:Nat} {ρ:gV} {a:Act} (h:St n ρ a) {d:Nat} (hd:aQ d n=true) (v:Value):St n (fB ρ d v) (a.put (some d) v):=by
 have hd':d<n:=by simpa [uu]using hd
 refine⟨by simp[Act.put,h.size],fun t=> ?_,by simp[Act.put,h.defers]⟩
 have hg:=h.get t
 simp only[Act.put,fB,cZ,Array.getElem?_setIfInBounds]at hg⊢
 by_cases htd:d=t
 subst htd
 simp[h.size,hd']
 have:eG t d=false:=by
  cases hb:eG t d
  rfl
  exact absurd (ba hb).symm htd
 simp[htd,this,hg]
theorem St.put_none {n:Nat} {ρ:gV} {a:Act} (h:St n ρ a) (v:Value):St n ρ (a.put none v):=h
abbrev ig:=Exit->gV->World->Prop
def EP (n:Nat) (Q:ig):Exit->Act->World->Prop:=fun e a w=> ∃ ρ,St n ρ a/\Q e ρ w
def CW (P:Program) (n:Nat) (c:Code) (Q:ig) (ρ:gV) (w:World):Prop:= ∀ a,St n ρ a->c.wp P (EP n Q) a w
def LW (P:Program) (n:Nat) (ops:Array Oper) (l:List Oper) (Q:ig) (ρ:gV) (w:World):Prop:= ∀ a,St n ρ a->wpList P ops (EP n Q) l a w
@[reducible] def Fu (k:gV->World->Prop) (Q:ig):ig
 |.normal,ρ,w=>k ρ w
 |e,ρ,w=>Q e ρ w
@[reducible] def OJ (id:Nat) (Q:ig):ig
 |.exit id',ρ,w=>bif eG id' id then Q .normal ρ w else Q (.exit id') ρ w
 |e,ρ,w=>Q e ρ w
section
variable {P:Program} {n:Nat} {Q:ig} {ρ:gV} {w:World}
theorem QP {k:gV->World->Prop} {e:Exit} {a:Act} {w:World} (h:EP n (Fu k Q) e a w):Exit.then (fun a w=> ∃ ρ,St n ρ a/\k ρ w) (EP n Q) e a w:=by
 cases e<;>exact h
theorem Ox {id:Nat} {e:Exit} {a:Act} {w:World} (h:EP n (OJ id Q) e a w):Exit.inBlock id (EP n Q) e a w:=by
 cases e with
 |exit id'=>
  obtain⟨ρ,hs,hq⟩:=h
  simp only[OJ]at hq
  simp only[Exit.inBlock]
  by_cases hb:id'=id
  subst hb
  simp at hq
  simp
  exact⟨ρ,hs,hq⟩
  have:eG id' id=false:=by
   cases hb':eG id' id
   rfl
   exact absurd (ba hb') hb
  simp[this]at hq
  simp[hb]
  exact⟨ρ,hs,hq⟩
 |_=>exact h
theorem C6 {x y:Code} (h:CW P n x (Fu (CW P n y Q) Q) ρ w):CW P n (.seq x y) Q ρ w:=fun a ha=>
 wp_seq (wp_mono (h a ha) fun e a w hq=>by
  have:=QP hq
  cases e with
  |normal=>obtain⟨ρ,hs,hk⟩:=this;exact hk a hs
  |_=>exact this)
theorem MC {id:Nat} {l:List Oper} (h:LW P n l.toArray l Q ρ w):CW P n (.region id l.toArray false) Q ρ w:=fun a ha=>wp_region_lit (h a ha)
theorem S9 {id:Nat} {c:Code} (h:CW P n c (OJ id Q) ρ w):CW P n (.block id c) Q ρ w:=fun a ha=>
 wp_block (wp_mono (h a ha) fun _ _ _ hq=>Ox hq)
theorem Q6 (h:Q .normal ρ w):CW P n .skip Q ρ w:=fun _ ha=>wp_skip ⟨ρ,ha,h⟩
theorem Ts {id:Nat} (h:Q (.exit id) ρ w):CW P n (.exit id) Q ρ w:=fun _ ha=>wp_exit ⟨ρ,ha,h⟩
theorem TK (h:Q .ret ρ w):CW P n .ret Q ρ w:=fun _ ha=>wp_ret ⟨ρ,ha,h⟩
theorem Q7 {c:Code} {Q':ig} (h:CW P n c Q ρ w) (hq: ∀ e ρ w,Q e ρ w->Q' e ρ w):CW P n c Q' ρ w:=fun a ha=>
 wp_mono (h a ha) fun _ _ _ ⟨ρ,hs,h⟩=>⟨ρ,hs,hq _ _ _ h⟩
theorem qg {c:Operand} {x y:Code} (hc:ev ρ c=.bool true) (h:CW P n x Q ρ w):CW P n (.cond c x y) Q ρ w:=fun a ha=>
 wp_cond_true (by rw[ha.eval];exact hc) (h a ha)
theorem oY {c:Operand} {x y:Code} (hc:ev ρ c=.bool false) (h:CW P n y Q ρ w):CW P n (.cond c x y) Q ρ w:=fun a ha=>
 wp_cond_false (by rw[ha.eval];exact hc) (h a ha)
theorem qL {c:Operand} {x y:Code} {b:Bool} (hc:ev ρ c=.bool b) (ht:b=true->CW P n x Q ρ w) (hf:b=false->CW P n y Q ρ w):CW P n (.cond c x y) Q ρ w:=by
 cases b
 exact oY hc (hf rfl)
 exact qg hc (ht rfl)
def ij (M:List Nat) (ρ ρ':gV):gV:=fun t=>bif M.contains t then ρ' t else ρ t
def dO (ρ:gV):List (Nat×Value)->gV
 |[]=>ρ
 |(d,v)::l=>fB (dO ρ l) d v
def GM (M:List Nat) (ρ ρ':gV):Prop:= ∀ t,M.contains t=false->ρ' t=ρ t
theorem GM.refl (M:List Nat) (ρ:gV):GM M ρ ρ:=fun _ _=>rfl
theorem nj {M:List Nat} {ρ ρ':gV}:GM M ρ (ij M ρ ρ'):=fun t h=>by simp only[ij,h,cond_false]
theorem lV {M:List Nat} {ρ ρ':gV} {d:Nat} {v:Value} (hd:M.contains d=true) (h:GM M ρ ρ'):GM M ρ (fB ρ' d v):=fun t ht=>by
 have hb:eG t d=false:=by
  cases hb:eG t d
  rfl
  have:=ba hb
  subst this
  rw[hd]at ht
  cases ht
 simp only[fB,hb,cond_false]
 exact h t ht
theorem jZ {M:List Nat} {ρ ρ':gV}: ∀ (l:List (Nat×Value)),(l.all fun p=>M.contains p.1)=true->GM M ρ ρ'->GM M ρ (dO ρ' l)
 |[],_,h=>h
 |(d,v)::l,hl,h=>by
  simp only[List.all_cons,bg]at hl
  exact lV hl.1 (jZ l hl.2 h)
theorem Th {M M':List Nat} {ρ ρ1 ρ':gV} (hm:(M'.all fun t=>M.contains t)=true) (h:GM M ρ ρ1):GM M ρ (ij M' ρ1 ρ'):=fun t ht=>by
 have:M'.contains t=false:=by
  cases hb:M'.contains t
  rfl
  have:=eD.1 hm t (by simpa using hb)
  rw[this]at ht;cases ht
 simp only[ij,this,cond_false]
 exact h t ht
theorem Fm {ρ:gV}: ∀ (l:List (Nat×Value)),(∀ p∈l,ρ p.1=p.2)->dO ρ l=ρ
 |[],_=>rfl
 |(d,v)::l,h=>by
  have h1:=Fm l (fun p hp=>h p (aj _ hp))
  have h2:=h (d,v) (aA ..)
  funext t
  simp only[dO,fB,h1]
  cases hb:eG t d
  rfl
  have:=ba hb
  subst this
  exact h2.symm
theorem N1 {M:List Nat} {ρ ρ':gV} (h:GM M ρ ρ'):ij M ρ ρ'=ρ':=by
 funext t
 simp only[ij]
 cases hb:M.contains t
 exact(h t hb).symm
 rfl
def UD {τ:Type} (M:List Nat) (ρ:gV) (slots:τ->List (Nat×Value)) (R:τ->World->Prop) (ρ2:gV) (w2:World):Prop:=
 ∃ x,R x w2/\(∀ p∈slots x,ρ2 p.1=p.2)/\GM M ρ ρ2
theorem gp {τ:Type} (M:List Nat) (slots:τ->List (Nat×Value)) (R:τ->World->Prop) {c:Code} {k:gV->World->Prop}
  (h:CW P n c (Fu (UD M ρ slots R) Q) ρ w) (hk: ∀ x ρ1 w',R x w'->k (dO (ij M ρ ρ1) (slots x)) w'):CW P n c (Fu k Q) ρ w:=
 Q7 h fun e ρ2 w2 hq=>by
  cases e with
  |normal=>
   obtain⟨x,hR,hs,ha⟩:=hq
   have:=hk x ρ2 w2 hR
   rw[N1 ha,Fm _ hs]at this
   exact this
  |_=>exact hq
@[reducible] def TM {τ:Type} (M:List Nat) (ρ:gV) (slots:τ->List (Nat×Value)) (R:τ->World->Prop) (meas:τ->Nat) (m:Nat) (Q:ig):ig
 |.normal,ρ2,w2=> ∃ x,R x w2/\(∀ p∈slots x,ρ2 p.1=p.2)/\GM M ρ ρ2/\meas x<m
 |e,ρ2,w2=>Q e ρ2 w2
theorem bV {τ:Type} (M:List Nat) (slots:τ->List (Nat×Value)) (R:τ->World->Prop) (meas:τ->Nat) (x0:τ) {c:Code}
  (h0:R x0 w) (hs0: ∀ p∈slots x0,ρ p.1=p.2)
  (hr: ∀ x ρ1 w',R x w'->CW P n c (TM M ρ slots R meas (meas x) Q) (dO (ij M ρ ρ1) (slots x)) w'):CW P n (.loop c) Q ρ w:=fun a ha=>by
 have key: ∀ (m:Nat) (a':Act) (w':World) ρ' x,St n ρ' a'->R x w'->(∀ p∈slots x,ρ' p.1=p.2)->GM M ρ ρ'->meas x<m->Code.rounds P c (EP n Q) m a' w':=by
  intro m
  induction m with
  |zero=>intro a' w' ρ' x _ _ _ _ hm;omega
  |succ m ih=>
   intro a' w' ρ' x hs hR hsl hag hm
   rw[rounds_succ]
   refine wp_mono ((by have:=hr x ρ' w' hR;rwa[N1 hag,Fm _ hsl]at this:CW P n c _ ρ' w') a' hs) fun e a2 w2 hq=> ?_
   obtain⟨ρ2,hs2,hq⟩:=hq
   cases e with
   |normal=>obtain⟨x2,h1,h2,h3,h4⟩:=hq;exact ih a2 w2 ρ2 x2 hs2 h1 h2 h3 (by omega)
   |_=>exact⟨ρ2,hs2,hq⟩
 exact wp_loop_rounds (meas x0+1) (key _ a w ρ x0 ha h0 hs0 (GM.refl M ρ) (by omega))
def args (l:List Value):gV:=fun t=>l.getD t undef
theorem St.args (l:List Value) (m:Nat) (hm:l.length<=m):St m (args l) {tmps:=l.toArray++fU (m-l.toArray.size) undef,defers:=[]}:=by
 refine⟨by simp;omega,fun t=> ?_,rfl⟩
 simp only[Eng.args,cZ,cS]
 rw[Array.getElem?_append]
 by_cases ht:t<l.length
 simp[ht]
 simp only[dK,ht,if_false]
 rw[bL (by omega)]
 by_cases h2:t-l.length<m-l.length
 rw[Array.getElem?_replicate];simp[h2]
 rw[Array.getElem?_replicate];simp[h2]
def MU (P:Program) (fn:Func) (R:Value->World->Prop):ig
 |.normal,ρ,w|.ret,ρ,w=> ∃ v,(∀ (a:Act),St fn.ntmps ρ a->(results fn a.tmps).run P w=.ok v w)/\R v w
 |_,_,_=>False
def di (P:Program) (f:FuncId) (vs:List Value) (w:World) (R:Value->World->Prop):Prop:=
 Calls P f vs.toArray w fun e w'=> ∃ v,e=.returned v/\R v w'
theorem di.mono {f:FuncId} {vs:List Value} {R R':Value->World->Prop} (h:di P f vs w R) (hr: ∀ v w',R v w'->R' v w'):di P f vs w R':=
 Calls.mono h fun _ _ ⟨v,he,hv⟩=>⟨v,he,hr _ _ hv⟩
theorem aG {f:FuncId} {fn:Func} {c:Code} {vs:List Value} {R:Value->World->Prop} (hf:P.funcs[f]? =some fn) (hb:fn.body=some c) (hn:Nat.ble vs.length fn.ntmps=true)
  (h:CW P fn.ntmps c (MU P fn R) (args vs) w):di P f vs w R:=by
 refine calls_of_wp hf hb ?_
 refine wp_mono (h _ (St.args vs _ (fk hn))) fun e a w hq=> ?_
 obtain⟨ρ,hs,hq⟩:=hq
 cases e with
 |normal=>obtain⟨v,h1,h2⟩:=hq;exact⟨hs.defers,v,h1 a hs,v,rfl,h2⟩
 |ret=>obtain⟨v,h1,h2⟩:=hq;exact⟨hs.defers,v,h1 a hs,v,rfl,h2⟩
 |_=>exact hq.elim
theorem cU {fn:Func} {R:Value->World->Prop} {t:Nat} {v:Value} (h:fn.results= #[.tmp t]) (hv:ρ t=v) (hR:R v w):MU P fn R .ret ρ w:=
 ⟨v,fun a ha=>by rw[<-hv,<-ha.get t];simp[results,h],hR⟩
theorem mK {fn:Func} {R:Value->World->Prop} {t u:Nat} {v v2:Value} (h:fn.results= #[.tmp t,.tmp u]) (hv:ρ t=v) (hv2:ρ u=v2) (hR:R (.tuple #[v,v2]) w):MU P fn R .ret ρ w:=
 ⟨_,fun a ha=>by rw[<-hv,<-ha.get t,<-hv2,<-ha.get u];simp[results,h],hR⟩
theorem JH {fn:Func} {R:Value->World->Prop} {t u s:Nat} {v v2 v3:Value} (h:fn.results= #[.tmp t,.tmp u,.tmp s]) (hv:ρ t=v) (hv2:ρ u=v2) (hv3:ρ s=v3) (hR:R (.tuple #[v,v2,v3]) w):MU P fn R .ret ρ w:=
 ⟨_,fun a ha=>by rw[<-hv,<-ha.get t,<-hv2,<-ha.get u,<-hv3,<-ha.get s];simp[results,h],hR⟩
theorem So {fn:Func} {R:Value->World->Prop} (h:fn.results= #[]) (hR:R (.tuple #[]) w):MU P fn R .normal ρ w:=
 ⟨_,fun a _=>by simp[results,h],hR⟩
variable {ops:Array Oper} {rest:List Oper} {d:Nat}
theorem nL (h:Q .normal ρ w):LW P n ops [] Q ρ w:=fun _ ha=>wpList_nil ⟨ρ,ha,h⟩
theorem dE {o:Oper} {v:Value} {w':World} (hg:o.guard=none) (hd:o.dst=some d) (hdn:aQ d n=true) (hr:(execOp (ev ρ) o).run P w=.ok (.value v) w')
  (h:LW P n ops rest Q (fB ρ d v) w'):LW P n ops (o::rest) Q ρ w:=fun a ha=>
 wpList_plain hg fun _ hK=>by
  unfold Oper.wp
  rw[ha.eval,hr]
  simp only[Oper.upon,hd]
  exact hK _ _ (h _ (ha.put hdn v))
theorem Ks {o:Oper} {w':World} (hg:o.guard=none) (hd:o.dst=none) (hr:(execOp (ev ρ) o).run P w=.ok .skip w')
  (h:LW P n ops rest Q ρ w'):LW P n ops (o::rest) Q ρ w:=fun a ha=>
 wpList_plain hg fun _ hK=>by
  unfold Oper.wp
  rw[ha.eval,hr]
  simp only[Oper.upon,hd]
  exact hK _ _ (h _ (ha.put_none _))
theorem Hs {o:Oper} {f:FuncId} {vs:List Value} {w':World} {R:Value->World->Prop} (hg:o.guard=none) (hd:o.dst=some d) (hdn:aQ d n=true)
  (hr:(execOp (ev ρ) o).run P w=.ok (.enter f vs.toArray) w') (hc:di P f vs w' R)
  (h: ∀ v w2,R v w2->LW P n ops rest Q (fB ρ d v) w2):LW P n ops (o::rest) Q ρ w:=fun a ha=>
 wpList_plain hg fun _ hK=>by
  unfold Oper.wp
  rw[ha.eval,hr]
  simp only[Oper.upon,hd]
  exact Calls.mono hc fun e w2 ⟨v,he,hv⟩=>by subst he;exact hK _ _ (h v w2 hv _ (ha.put hdn v))
theorem St.yielded {a:Act} (ha:St n ρ a) {j:Nat} {o:Oper} {dj:Nat} {b:Bool} (hj:ops[j]? =some o) (hd:o.dst=some dj) (hb:ρ dj=.bool b):Go.yielded ops a.tmps j=some b:=by
 have hg:=ha.get dj
 rw[hb]at hg
 simp only[Go.yielded,hj,cQ,hd]
 rw[cZ]at hg
 cases h:a.tmps[dj]? with
 |none=>rw[h]at hg;cases hg
 |some v=>rw[h]at hg;simp at hg;simp[hg]
end
abbrev O (d:Nat) (op:Op) (t:TypeId) (p:String) (af:Array Edge):Oper:={dst:=some d,op:=op,type:=t,pos:=p,after:=af,guard:=none}
section
variable {P:Program} {n:Nat} {Q:ig} {ρ:gV} {w:World} {ops:Array Oper} {rest:List Oper} {d:Nat} {t:TypeId} {p:String} {af:Array Edge}
theorem mv {x:Operand} {v:Value} (hx:ev ρ x=v) (hdn:aQ d n=true) (h:LW P n ops rest Q (fB ρ d v) w):LW P n ops (O d (.move x) t p af::rest) Q ρ w:=
 dE rfl rfl hdn (by simp[execOp,hx]) h
theorem iN {x:Operand} {k:IntKind} {i:Int} (hx:ev ρ x=.int k i) (hdn:aQ d n=true) (h:LW P n ops rest Q (fB ρ d (.int k i)) w):LW P n ops (O d (.move x) t p af::rest) Q ρ w:=mv hx hdn h
theorem Cd {x:Operand} {b:Bool} (hx:ev ρ x=.bool b) (hdn:aQ d n=true) (h:LW P n ops rest Q (fB ρ d (.bool b)) w):LW P n ops (O d (.move x) t p af::rest) Q ρ w:=mv hx hdn h
theorem mO {x:Operand} {A:Option Addr} {l c:Nat} (hx:ev ρ x=.slice A l c) (hdn:aQ d n=true) (h:LW P n ops rest Q (fB ρ d (.slice A l c)) w):LW P n ops (O d (.move x) t p af::rest) Q ρ w:=mv hx hdn h
theorem Jf {x:Operand} {A:Option Addr} (hx:ev ρ x=.pointer A) (hdn:aQ d n=true) (h:LW P n ops rest Q (fB ρ d (.pointer A)) w):LW P n ops (O d (.move x) t p af::rest) Q ρ w:=mv hx hdn h
theorem Uq {x:Operand} {c:Array Value} (hx:ev ρ x=.tuple c) (hdn:aQ d n=true) (h:LW P n ops rest Q (fB ρ d (.tuple c)) w):LW P n ops (O d (.move x) t p af::rest) Q ρ w:=mv hx hdn h
theorem asg {x:Operand} {v:Value} (hx:ev ρ x=v) (hdn:aQ d n=true) (h:LW P n ops rest Q (fB ρ d v) w):LW P n ops (O d (.assign x) t p af::rest) Q ρ w:=
 dE rfl rfl hdn (by simp[execOp,hx]) h
theorem pK {x:Operand} {k:IntKind} {i:Int} (hx:ev ρ x=.int k i) (hdn:aQ d n=true) (h:LW P n ops rest Q (fB ρ d (.int k i)) w):LW P n ops (O d (.assign x) t p af::rest) Q ρ w:=asg hx hdn h
theorem Tg {x:Operand} {b:Bool} (hx:ev ρ x=.bool b) (hdn:aQ d n=true) (h:LW P n ops rest Q (fB ρ d (.bool b)) w):LW P n ops (O d (.assign x) t p af::rest) Q ρ w:=asg hx hdn h
theorem wK {x:Operand} {A:Option Addr} {l c:Nat} (hx:ev ρ x=.slice A l c) (hdn:aQ d n=true) (h:LW P n ops rest Q (fB ρ d (.slice A l c)) w):LW P n ops (O d (.assign x) t p af::rest) Q ρ w:=asg hx hdn h
theorem Uy {x:Operand} {A:Option Addr} (hx:ev ρ x=.pointer A) (hdn:aQ d n=true) (h:LW P n ops rest Q (fB ρ d (.pointer A)) w):LW P n ops (O d (.assign x) t p af::rest) Q ρ w:=asg hx hdn h
theorem lss {x y:Operand} {ty ty':TypeId} {k:IntKind} {a b:Int} (hx:ev ρ x=.int k a) (hy:ev ρ y=.int k b) (hdn:aQ d n=true) (h:LW P n ops rest Q (fB ρ d (.bool (decide (a<b)))) w):LW P n ops (O d (.binOp .lss ty x y ty') t p af::rest) Q ρ w:=
 dE rfl rfl hdn (by simp[execOp,hx,hy,eqGuard,binOp,Op.intCmp];try rfl) h
theorem SZ {x y:Operand} {ty ty':TypeId} {k:IntKind} {a b:Int} (hx:ev ρ x=.int k a) (hy:ev ρ y=.int k b) (hp:a<b) (hdn:aQ d n=true) (h:LW P n ops rest Q (fB ρ d (.bool true)) w):LW P n ops (O d (.binOp .lss ty x y ty') t p af::rest) Q ρ w:=
 lss hx hy hdn (by simpa [hp]using h)
theorem Se {x y:Operand} {ty ty':TypeId} {k:IntKind} {a b:Int} (hx:ev ρ x=.int k a) (hy:ev ρ y=.int k b) (hp: ¬ (a<b)) (hdn:aQ d n=true) (h:LW P n ops rest Q (fB ρ d (.bool false)) w):LW P n ops (O d (.binOp .lss ty x y ty') t p af::rest) Q ρ w:=
 lss hx hy hdn (by simpa [hp]using h)
theorem Jm {x y:Operand} {ty ty':TypeId} {k:IntKind} {a b:Int} (hx:ev ρ x=.int k a) (hy:ev ρ y=.int k b) (hdn:aQ d n=true) (h:a<b->LW P n ops rest Q (fB ρ d (.bool true)) w) (h2: ¬ (a<b)->LW P n ops rest Q (fB ρ d (.bool false)) w):LW P n ops (O d (.binOp .lss ty x y ty') t p af::rest) Q ρ w:=by
 by_cases hp:a<b
 exact SZ hx hy hp hdn (h hp)
 exact Se hx hy hp hdn (h2 hp)
theorem leq {x y:Operand} {ty ty':TypeId} {k:IntKind} {a b:Int} (hx:ev ρ x=.int k a) (hy:ev ρ y=.int k b) (hdn:aQ d n=true) (h:LW P n ops rest Q (fB ρ d (.bool (decide (a<=b)))) w):LW P n ops (O d (.binOp .leq ty x y ty') t p af::rest) Q ρ w:=
 dE rfl rfl hdn (by simp[execOp,hx,hy,eqGuard,binOp,Op.intCmp];try rfl) h
theorem gtr {x y:Operand} {ty ty':TypeId} {k:IntKind} {a b:Int} (hx:ev ρ x=.int k a) (hy:ev ρ y=.int k b) (hdn:aQ d n=true) (h:LW P n ops rest Q (fB ρ d (.bool (decide (b<a)))) w):LW P n ops (O d (.binOp .gtr ty x y ty') t p af::rest) Q ρ w:=
 dE rfl rfl hdn (by simp[execOp,hx,hy,eqGuard,binOp,Op.intCmp];try rfl) h
theorem Sj {x y:Operand} {ty ty':TypeId} {k:IntKind} {a b:Int} (hx:ev ρ x=.int k a) (hy:ev ρ y=.int k b) (hp:b<a) (hdn:aQ d n=true) (h:LW P n ops rest Q (fB ρ d (.bool true)) w):LW P n ops (O d (.binOp .gtr ty x y ty') t p af::rest) Q ρ w:=
 gtr hx hy hdn (by simpa [hp]using h)
theorem Sk {x y:Operand} {ty ty':TypeId} {k:IntKind} {a b:Int} (hx:ev ρ x=.int k a) (hy:ev ρ y=.int k b) (hp: ¬ (b<a)) (hdn:aQ d n=true) (h:LW P n ops rest Q (fB ρ d (.bool false)) w):LW P n ops (O d (.binOp .gtr ty x y ty') t p af::rest) Q ρ w:=
 gtr hx hy hdn (by simpa [hp]using h)
theorem Mh {x y:Operand} {ty ty':TypeId} {k:IntKind} {a b:Int} (hx:ev ρ x=.int k a) (hy:ev ρ y=.int k b) (hdn:aQ d n=true) (h:b<a->LW P n ops rest Q (fB ρ d (.bool true)) w) (h2: ¬ (b<a)->LW P n ops rest Q (fB ρ d (.bool false)) w):LW P n ops (O d (.binOp .gtr ty x y ty') t p af::rest) Q ρ w:=by
 by_cases hp:b<a
 exact Sj hx hy hp hdn (h hp)
 exact Sk hx hy hp hdn (h2 hp)
theorem geq {x y:Operand} {ty ty':TypeId} {k:IntKind} {a b:Int} (hx:ev ρ x=.int k a) (hy:ev ρ y=.int k b) (hdn:aQ d n=true) (h:LW P n ops rest Q (fB ρ d (.bool (decide (b<=a)))) w):LW P n ops (O d (.binOp .geq ty x y ty') t p af::rest) Q ρ w:=
 dE rfl rfl hdn (by simp[execOp,hx,hy,eqGuard,binOp,Op.intCmp];try rfl) h
theorem eql {x y:Operand} {ty ty':TypeId} {k:IntKind} {a b:Int} (hx:ev ρ x=.int k a) (hy:ev ρ y=.int k b) (hdn:aQ d n=true) (h:LW P n ops rest Q (fB ρ d (.bool (decide (a=b)))) w):LW P n ops (O d (.binOp .eql ty x y ty') t p af::rest) Q ρ w:=
 dE rfl rfl hdn (by simp[execOp,hx,hy,eqGuard,binOp,Op.intCmp];try rfl) h
theorem O1 {x y:Operand} {ty ty':TypeId} {k:IntKind} {a b:Int} (hx:ev ρ x=.int k a) (hy:ev ρ y=.int k b) (hp:a=b) (hdn:aQ d n=true) (h:LW P n ops rest Q (fB ρ d (.bool true)) w):LW P n ops (O d (.binOp .eql ty x y ty') t p af::rest) Q ρ w:=
 eql hx hy hdn (by simpa [hp]using h)
theorem JK {x y:Operand} {ty ty':TypeId} {k:IntKind} {a b:Int} (hx:ev ρ x=.int k a) (hy:ev ρ y=.int k b) (hp: ¬ (a=b)) (hdn:aQ d n=true) (h:LW P n ops rest Q (fB ρ d (.bool false)) w):LW P n ops (O d (.binOp .eql ty x y ty') t p af::rest) Q ρ w:=
 eql hx hy hdn (by simpa [hp]using h)
theorem O2 {x y:Operand} {ty ty':TypeId} {k:IntKind} {a b:Int} (hx:ev ρ x=.int k a) (hy:ev ρ y=.int k b) (hdn:aQ d n=true) (h:a=b->LW P n ops rest Q (fB ρ d (.bool true)) w) (h2: ¬ (a=b)->LW P n ops rest Q (fB ρ d (.bool false)) w):LW P n ops (O d (.binOp .eql ty x y ty') t p af::rest) Q ρ w:=by
 by_cases hp:a=b
 exact O1 hx hy hp hdn (h hp)
 exact JK hx hy hp hdn (h2 hp)
theorem neq {x y:Operand} {ty ty':TypeId} {k:IntKind} {a b:Int} (hx:ev ρ x=.int k a) (hy:ev ρ y=.int k b) (hdn:aQ d n=true) (h:LW P n ops rest Q (fB ρ d (.bool (!decide (a=b)))) w):LW P n ops (O d (.binOp .neq ty x y ty') t p af::rest) Q ρ w:=
 dE rfl rfl hdn (by simp[execOp,hx,hy,eqGuard,binOp,Op.intCmp];try rfl) h
theorem TD {x y:Operand} {ty ty':TypeId} {k:IntKind} {a b:Int} (hx:ev ρ x=.int k a) (hy:ev ρ y=.int k b) (hp: ¬ a=b) (hdn:aQ d n=true) (h:LW P n ops rest Q (fB ρ d (.bool true)) w):LW P n ops (O d (.binOp .neq ty x y ty') t p af::rest) Q ρ w:=
 neq hx hy hdn (by simpa [hp]using h)
theorem TE {x y:Operand} {ty ty':TypeId} {k:IntKind} {a b:Int} (hx:ev ρ x=.int k a) (hy:ev ρ y=.int k b) (hp:a=b) (hdn:aQ d n=true) (h:LW P n ops rest Q (fB ρ d (.bool false)) w):LW P n ops (O d (.binOp .neq ty x y ty') t p af::rest) Q ρ w:=
 neq hx hy hdn (by simpa [hp]using h)
theorem SY {x y:Operand} {ty ty':TypeId} {k:IntKind} {a b:Int} (hx:ev ρ x=.int k a) (hy:ev ρ y=.int k b) (hdn:aQ d n=true) (h: ¬ (a=b)->LW P n ops rest Q (fB ρ d (.bool true)) w) (h2:a=b->LW P n ops rest Q (fB ρ d (.bool false)) w):LW P n ops (O d (.binOp .neq ty x y ty') t p af::rest) Q ρ w:=by
 by_cases hp:a=b
 exact TE hx hy hp hdn (h2 hp)
 exact TD hx hy hp hdn (h hp)
theorem wO {n:Int} (h1: -9000000000000000000<=n) (h2:n<=9000000000000000000):IntKind.i64.wrap n=n:=IntWalk.i64_in n (by omega)
theorem add {x y:Operand} {ty ty':TypeId} {a b:Int} (hx:ev ρ x=.int .i64 a) (hy:ev ρ y=.int .i64 b) (h1: -9000000000000000000<=a+b) (h2:a+b<=9000000000000000000) (hdn:aQ d n=true) (h:LW P n ops rest Q (fB ρ d (.int .i64 (a+b))) w):LW P n ops (O d (.binOp .add ty x y ty') t p af::rest) Q ρ w:=
 dE rfl rfl hdn (by simp[execOp,hx,hy,eqGuard,binOp,Op.intArith,wO h1 h2]) h
theorem sub {x y:Operand} {ty ty':TypeId} {a b:Int} (hx:ev ρ x=.int .i64 a) (hy:ev ρ y=.int .i64 b) (h1: -9000000000000000000<=a-b) (h2:a-b<=9000000000000000000) (hdn:aQ d n=true) (h:LW P n ops rest Q (fB ρ d (.int .i64 (a-b))) w):LW P n ops (O d (.binOp .sub ty x y ty') t p af::rest) Q ρ w:=
 dE rfl rfl hdn (by simp[execOp,hx,hy,eqGuard,binOp,Op.intArith,wO h1 h2]) h
theorem mul {x y:Operand} {ty ty':TypeId} {a b:Int} (hx:ev ρ x=.int .i64 a) (hy:ev ρ y=.int .i64 b) (h1: -9000000000000000000<=a*b) (h2:a*b<=9000000000000000000) (hdn:aQ d n=true) (h:LW P n ops rest Q (fB ρ d (.int .i64 (a*b))) w):LW P n ops (O d (.binOp .mul ty x y ty') t p af::rest) Q ρ w:=
 dE rfl rfl hdn (by simp[execOp,hx,hy,eqGuard,binOp,Op.intArith,wO h1 h2]) h
theorem rem {x y:Operand} {ty ty':TypeId} {a b:Int} (hx:ev ρ x=.int .i64 a) (hy:ev ρ y=.int .i64 b) (h1:0<=a) (h2:0<b) (hdn:aQ d n=true) (h:LW P n ops rest Q (fB ρ d (.int .i64 (a%b))) w):LW P n ops (O d (.binOp .rem ty x y ty') t p af::rest) Q ρ w:=
 dE rfl rfl hdn (by
  have hb:b≠0:=by omega
  simp[execOp,hx,hy,eqGuard,binOp,Op.intDiv,hb,Int.tmod_eq_emod_of_nonneg h1]) h
theorem quo {x y:Operand} {ty ty':TypeId} {a b:Int} (hx:ev ρ x=.int .i64 a) (hy:ev ρ y=.int .i64 b) (h1:0<=a) (h2:0<b) (h3:a<=9000000000000000000) (hdn:aQ d n=true) (h:LW P n ops rest Q (fB ρ d (.int .i64 (a/b))) w):LW P n ops (O d (.binOp .quo ty x y ty') t p af::rest) Q ρ w:=
 dE rfl rfl hdn (by
  have hb:b≠0:=by omega
  have hq:a/b<=a:=Int.ediv_le_self b h1
  have hq0:0<=a/b:=Int.ediv_nonneg h1 (by omega)
  simp[execOp,hx,hy,eqGuard,binOp,Op.intDiv,hb,Int.tdiv_eq_ediv_of_nonneg h1]
  exact wO (by omega) (by omega)) h
theorem neg {x:Operand} {ty:TypeId} {a:Int} (hx:ev ρ x=.int .i64 a) (h1: -9000000000000000000<= -a) (h2: -a<=9000000000000000000) (hdn:aQ d n=true) (h:LW P n ops rest Q (fB ρ d (.int .i64 (-a))) w):LW P n ops (O d (.unOp .neg ty x) t p af::rest) Q ρ w:=
 dE rfl rfl hdn (by simp[execOp,hx,Op.unary,Op.intArith,wO h1 h2]) h
theorem not {x:Operand} {ty:TypeId} {b:Bool} (hx:ev ρ x=.bool b) (hdn:aQ d n=true) (h:LW P n ops rest Q (fB ρ d (.bool (!b))) w):LW P n ops (O d (.unOp .not ty x) t p af::rest) Q ρ w:=
 dE rfl rfl hdn (by simp[execOp,hx,Op.unary]) h
theorem Um {c x y:Operand} {v:Value} (hc:ev ρ c=.bool true) (hx:ev ρ x=v) (hdn:aQ d n=true) (h:LW P n ops rest Q (fB ρ d v) w):LW P n ops (O d (.pick c x y) t p af::rest) Q ρ w:=
 dE rfl rfl hdn (by simp[execOp,hc,hx,asBool]) h
theorem Un {c x y:Operand} {v:Value} (hc:ev ρ c=.bool false) (hy:ev ρ y=v) (hdn:aQ d n=true) (h:LW P n ops rest Q (fB ρ d v) w):LW P n ops (O d (.pick c x y) t p af::rest) Q ρ w:=
 dE rfl rfl hdn (by simp[execOp,hc,hy,asBool]) h
theorem yn {c x y:Operand} {v:Bool} (hc:ev ρ c=.bool true) (hx:ev ρ x=.bool v) (hdn:aQ d n=true) (h:LW P n ops rest Q (fB ρ d (.bool v)) w):LW P n ops (O d (.pick c x y) t p af::rest) Q ρ w:=Um hc hx hdn h
theorem tH {c x y:Operand} {v:Bool} (hc:ev ρ c=.bool false) (hy:ev ρ y=.bool v) (hdn:aQ d n=true) (h:LW P n ops rest Q (fB ρ d (.bool v)) w):LW P n ops (O d (.pick c x y) t p af::rest) Q ρ w:=Un hc hy hdn h
theorem TZ {x:Operand} {i:Nat} {vs:List Value} {v:Value} (hx:ev ρ x=.tuple vs.toArray) (hi:vs[i]? =some v) (hdn:aQ d n=true) (h:LW P n ops rest Q (fB ρ d v) w):LW P n ops (O d (.extract x i) t p af::rest) Q ρ w:=
 dE rfl rfl hdn (by simp[execOp,hx,Instr.extract,hi]) h
theorem MZ {x:Operand} {a:Addr} (hx:ev ρ x=.pointer (some a)) (hdn:aQ d n=true) (h:LW P n ops rest Q (fB ρ d (.pointer (some a))) w):LW P n ops (O d (.nilCheck x) t p af::rest) Q ρ w:=
 dE rfl rfl hdn (by simp[execOp,hx]) h
end
end
section
/-- a fact on the blocks from lo to below hi -/
structure cf where
 lo:Nat
 hi:Nat
 p:World->Prop
 st: ∀ w w',(∀ k,lo<=k->k<hi->w'.heap[k]? =w.heap[k]?)->p w->p w'
structure Hp (w0 w:World) (L:List (Nat×Obj)) (F:List cf):Prop where
 below:Below w0.heap.size w0 w
 ents: ∀ e∈L,w.heap[e.1]? =some e.2/\w0.heap.size<=e.1
 nodup:(L.map (·.1)).Nodup
 facts: ∀ f∈F,f.p w/\f.hi<=w.heap.size/\ ∀ e∈L,e.1<f.lo∨f.hi<=e.1
section
variable {w0 w w':World} {L:List (Nat×Obj)} {F:List cf}
theorem bX {b:Nat} {o:Obj} (h:w.heap[b]? =some o):b<w.heap.size:=by
 rcases fC b w.heap.size with hl|hg
 exact hl
 rw[pV hg]at h;cases h
theorem Hp.start (w:World):Hp w w [] []:=⟨Below.refl _ _,by simp,by simp,by simp⟩
theorem Hp.ent (H:Hp w0 w L F) {i b:Nat} {o:Obj} (h:L[i]? =some (b,o)):w.heap[b]? =some o:=(H.ents _ (ab h)).1
theorem Hp.fact (H:Hp w0 w L F) {i:Nat} {f:cf} (h:F[i]? =some f):f.p w:=(H.facts _ (ab h)).1
theorem Hp.size (H:Hp w0 w L F):w0.heap.size<=w.heap.size:=H.below.size
theorem Hp.lt (H:Hp w0 w L F) {i b:Nat} {o:Obj} (h:L[i]? =some (b,o)):b<w.heap.size:=bX (H.ent h)
theorem Hp.ge (H:Hp w0 w L F) {i b:Nat} {o:Obj} (h:L[i]? =some (b,o)):w0.heap.size<=b:=(H.ents _ (ab h)).2
theorem Hp.ltAll (H:Hp w0 w L F): ∀ e∈L,e.1<w.heap.size:=fun e he=>bX (H.ents e he).1
theorem Hp.later (H:Hp w0 w L F) (hb:Below w.heap.size w w'):Hp w0 w' L F:=by
 refine⟨H.below.trans (hb.mono H.below.size),fun e he=> ?_,H.nodup,fun f hf=> ?_⟩
 obtain⟨h1,h2⟩:=H.ents e he
 exact⟨(hb.block _ (bX h1)).trans h1,h2⟩
 obtain⟨h1,h2,h3⟩:=H.facts f hf
 exact⟨f.st w w' (fun k _ hk=>hb.block k (by omega)) h1,aW h2 hb.size,h3⟩
theorem Hp.drew (H:Hp w0 w L F):Hp w0 w.drew L F:=H.later (Below.refl _ w).drew
theorem Hp.alloc (H:Hp w0 w L F) (o:Obj):Hp w0 (w.alloc o) ((w.heap.size,o)::L) F:=by
 have h:=H.later ((Below.refl w.heap.size w).alloc (ap _) o)
 refine⟨h.below,fun e he=> ?_,?_,fun f hf=> ?_⟩
 rcases ay.1 he with rfl|he
 exact⟨heap_alloc_new w o,H.size⟩
 exact h.ents e he
 simp only[dB,jB]
 refine⟨fun hm=> ?_,h.nodup⟩
 obtain⟨e,he,hee⟩:=bK.1 hm
 have:=H.ltAll e he
 omega
 obtain⟨h1,h2,h3⟩:=h.facts f hf
 refine⟨h1,h2,fun e he=> ?_⟩
 rcases ay.1 he with rfl|he
 exact .inr (H.facts f hf).2.1
 exact h3 e he
theorem Hp.put (H:Hp w0 w L F) {i b:Nat} {o o':Obj} (hi:L[i]? =some (b,o)) (hw:w'.heap[b]? =some o') (hs:w'.heap.size=w.heap.size) (hot:w'.os=w.os) (ht:w'.tape=w.tape) (ho:w'.output=w.output)
  (hk: ∀ k,k≠b->w'.heap[k]? =w.heap[k]?):Hp w0 w' (L.set i (b,o')) F:=by
 have hge:=H.ge hi
 have hne: ∀ (j:Nat) e,L[j]? =some e->j≠i->e.1≠b:=fun j e hj hji heq=>by
  have hn:=H.nodup
  have h1:(L.map (·.1))[j]? =some b:=by simp[hj,heq]
  have h2:(L.map (·.1))[i]? =some b:=by simp[hi]
  have hj':=(aC.1 h1)
  have hi':=(aC.1 h2)
  obtain⟨l1,e1⟩:=hj'
  obtain⟨l2,e2⟩:=hi'
  exact hji ((List.getElem_inj hn (i:=j) (j:=i)).1 (e1.trans e2.symm))
 refine⟨⟨hot.trans H.below.os,ht.trans H.below.tape,ho.trans H.below.output,by rw[hs];exact H.below.size,fun k hkk=>(hk k (by omega)).trans (H.below.block k hkk)⟩,fun e he=> ?_,?_,fun f hf=> ?_⟩
 obtain⟨j,hj⟩:=aN.1 he
 by_cases hji:j=i
 subst hji
 rw[ak (aC.1 hi).1]at hj
 cases hj
 exact⟨hw,hge⟩
 rw[aO (Ne.symm hji)]at hj
 obtain⟨h1,h2⟩:=H.ents e (ab hj)
 exact⟨(hk _ (hne j e hj hji)).trans h1,h2⟩
 have:(L.set i (b,o')).map (·.1)=L.map (·.1):=by
  apply dg
  intro j
  simp only[aJ]
  by_cases hji:i=j
  subst hji
  rw[ak (aC.1 hi).1,hi]
  rfl
  rw[aO hji]
 rw[this]
 exact H.nodup
 obtain⟨h1,h2,h3⟩:=H.facts f hf
 have hb:=h3 _ (ab hi)
 simp only at hb
 refine⟨f.st w w' (fun k hk1 hk2=>hk k (by omega)) h1,by rw[hs];exact h2,fun e he=> ?_⟩
 obtain⟨j,hj⟩:=aN.1 he
 by_cases hji:j=i
 subst hji
 rw[ak (aC.1 hi).1]at hj
 cases hj
 exact hb
 rw[aO (Ne.symm hji)]at hj
 exact h3 e (ab hj)
theorem Hp.learn (H:Hp w0 w L F) (hb:Below w.heap.size w w') (f:cf) (hf:f.p w') (hlo:w.heap.size<=f.lo) (hhi:f.hi<=w'.heap.size):Hp w0 w' L (f::F):=by
 have h:=H.later hb
 refine⟨h.below,h.ents,h.nodup,fun g hg=> ?_⟩
 rcases ay.1 hg with rfl|hg
 exact⟨hf,hhi,fun e he=> .inl (by have:=H.ltAll e he;omega)⟩
 exact h.facts g hg
theorem Hp.learnOld (H:Hp w0 w L F) (f:cf) (hf:f.p w) (hhi:f.hi<=w0.heap.size):Hp w0 w L (f::F):=by
 refine⟨H.below,H.ents,H.nodup,fun g hg=> ?_⟩
 rcases ay.1 hg with rfl|hg
 exact⟨hf,aW hhi H.size,fun e he=> .inr (by have:=(H.ents e he).2;omega)⟩
 exact H.facts g hg
theorem Hp.adopt (H:Hp w0 w L F) {b:Nat} {o:Obj} (hb:w.heap[b]? =some o) (hge:w0.heap.size<=b) (hl: ∀ e∈L,e.1≠b) (hF: ∀ f∈F,b<f.lo∨f.hi<=b):Hp w0 w ((b,o)::L) F:=by
 refine⟨H.below,fun e he=> ?_,?_,fun f hf=> ?_⟩
 rcases ay.1 he with rfl|he
 exact⟨hb,hge⟩
 exact H.ents e he
 simp only[dB,jB]
 exact⟨fun hm=>by obtain⟨e,he,hee⟩:=bK.1 hm;exact hl e he hee,H.nodup⟩
 obtain⟨h1,h2,h3⟩:=H.facts f hf
 refine⟨h1,h2,fun e he=> ?_⟩
 rcases ay.1 he with rfl|he
 exact hF f hf
 exact h3 e he
theorem Hp.forget (H:Hp w0 w L F) {L':List (Nat×Obj)} {F':List cf} (hL:L'.Sublist L) (hF: ∀ f∈F',f∈F):Hp w0 w L' F':=
 ⟨H.below,fun e he=>H.ents e (hL.subset he),H.nodup.sublist (hL.map _),fun f hf=>by
  obtain⟨h1,h2,h3⟩:=H.facts f (hF f hf)
  exact⟨h1,h2,fun e he=>h3 e (hL.subset he)⟩⟩
theorem aK {b j:Nat} {cs:Array Value} {T:TypeId} {fr:Nat×Nat} {v:Value} (h:w.heap[b]? =some (.cells cs T fr)) (hj:cs[j]? =some v):w.cell? ⟨b,j,none⟩=some v:=by
 simp[World.cell?,h,hj]
end
end
section
def qx (P:Program) (T:TypeId):Bool:=
 match P.underlying T with
 |some (.struct _)|some (.array ..)|none=>false
 |some _=>match P.info? T with|some i=>eG i.size 1|none=>false
def lO (P:Program) (T sz:Nat):Bool:=
 match P.underlying T with
 |some (.struct _)|some (.array ..)=>match P.info? T with|some i=>eG i.size sz|none=>false
 |_=>false
def ek (P:Program) (T E sz:Nat):Bool:=
 match P.underlying T with
 |some (.slice e)=>eG e E&&match P.info? E with|some i=>eG i.size sz|none=>false
 |_=>false
def cn (P:Program) (T f off:Nat):Bool:=
 match P.underlying T with
 |some (.struct fs)=>match fs[f]? with
  |some g=>eG g.offset off&&match P.info? g.type with|some i=>aQ 0 i.size|none=>false
  |none=>false
 |_=>false
section
variable {P:Program} {w:World}
theorem kV {T:TypeId} {i:TypeInfo} (h:P.info? T=some i):(typeInfo T).run P w=.ok i w:=by simp[typeInfo,h]
theorem fV {T:TypeId} {i:TypeInfo} (h:P.info? T=some i):(sizeOf T).run P w=.ok i.size w:=by simp[Go.sizeOf,kV h]
theorem LJ {T:TypeId} (h:qx P T=true):(isAgg T).run P w=.ok false w/\ ∃ i,P.info? T=some i/\i.size=1:=by
 unfold qx at h
 split at h
 cases h
 cases h
 cases h
 rename_i d h1 h2 hd
 cases hi:P.info? T with
 |none=>rw[hi]at h;cases h
 |some i=>
  rw[hi]at h
  refine⟨?_,i,rfl,ba h⟩
  simp only[isAgg,Sem.run_bind,run_underlying hd,Result.andThen_ok]
  rfl
theorem MN {T sz:Nat} (h:lO P T sz=true):(isAgg T).run P w=.ok true w/\ ∃ i,P.info? T=some i/\i.size=sz:=by
 unfold lO at h
 split at h
 rename_i fs hd
 cases hi:P.info? T with
 |none=>rw[hi]at h;cases h
 |some i=>
  rw[hi]at h
  refine⟨?_,i,rfl,ba h⟩
  simp only[isAgg,Sem.run_bind,run_underlying hd,Result.andThen_ok]
  rfl
 rename_i hd
 cases hi:P.info? T with
 |none=>rw[hi]at h;cases h
 |some i=>
  rw[hi]at h
  refine⟨?_,i,rfl,ba h⟩
  simp only[isAgg,Sem.run_bind,run_underlying hd,Result.andThen_ok]
  rfl
 cases h
theorem fe {T E sz:Nat} (h:ek P T E sz=true):P.underlying T=some (.slice E)/\ ∃ i,P.info? E=some i/\i.size=sz:=by
 unfold ek at h
 split at h
 rename_i e hd
 simp only[bg]at h
 obtain⟨h1,h2⟩:=h
 have:=ba h1
 subst this
 cases hi:P.info? e with
 |none=>rw[hi]at h2;cases h2
 |some i=>rw[hi]at h2;exact⟨hd,i,rfl,ba h2⟩
 cases h
theorem HX {T f off:Nat} (h:cn P T f off=true): ∃ fs g i,P.underlying T=some (.struct fs)/\fs[f]? =some g/\g.offset=off/\P.info? g.type=some i/\i.size≠0:=by
 unfold cn at h
 split at h
 rename_i fs hd
 split at h
 rename_i g hg
 simp only[bg]at h
 obtain⟨h1,h2⟩:=h
 cases hi:P.info? g.type with
 |none=>rw[hi]at h2;cases h2
 |some i=>
  rw[hi]at h2
  have:0<i.size:=by simpa [uu]using h2
  exact⟨fs,g,i,hd,hg,ba h1,hi,by omega⟩
 cases h
 cases h
theorem Ae {T:TypeId} {a:Addr} {v:Value} (h:qx P T=true) (hc:w.cell? a=some v):(loadVar T a).run P w=.ok v w:=by
 obtain⟨h1,-⟩:=LJ (w:=w) h
 simp only[loadVar,Sem.run_bind,h1,Result.andThen_ok]
 simp[load,Sem.run,hc]
theorem i6 {T sz:Nat} {a:Addr} {xs:List Value} (h:lO P T sz=true) (hl:xs.length=sz) (hc: ∀ j v,xs[j]? =some v->w.cell? (a.add j)=some v):(loadVar T a).run P w=.ok (.agg xs.toArray) w:=by
 obtain⟨h1,i,hi,hs⟩:=MN (w:=w) h
 simp only[loadVar,Sem.run_bind,h1,Result.andThen_ok,fV hi,if_true,hs,<-hl,run_loadCells_list w a xs hc]
 rfl
theorem I0 {T:TypeId} {b o:Nat} {t:TypeId} {cs:Array Value} {v:Value} {i:TypeInfo} (hi:P.info? T=some i) (hs:v.cells.size=i.size) (hb:w.heap[b]? =some (.cells cs t (0,0)))
  (hf:o+v.cells.size<=cs.size) (h1: ∀ u∈v.cells.toList,u.oneCell'=true):
  (storeVar T ⟨b,o,none⟩ v).run P w=.ok () (w.setRow b (cs.toList.take o++v.cells.toList++cs.toList.drop (o+v.cells.size)).toArray):=by
 have h:=run_storeCells_at P b o t v.cells.toList 0 cs w hb (by simpa using hf) h1
 simp only[mS,ch]at h
 simp only[storeVar,Sem.run_bind,fV hi,Result.andThen_ok,hs,ne_eq,not_true,if_false]at h⊢
 simpa [hs]using h
end
section
variable {P:Program} {n:Nat} {Q:ig} {ρ:gV} {w:World} {ops:Array Oper} {rest:List Oper} {d:Nat} {t:TypeId} {p:String} {af:Array Edge}
variable {w0:World} {L:List (Nat×Obj)} {F:List cf}
theorem tq {x:Operand} {T f off b o:Nat} (hf:cn P T f off=true) (hx:ev ρ x=.pointer (some ⟨b,o,none⟩)) (hdn:aQ d n=true)
  (h:LW P n ops rest Q (fB ρ d (.pointer (some ⟨b,o+off,none⟩))) w):LW P n ops (O d (.fieldAddr T x f) t p af::rest) Q ρ w:=by
 obtain⟨fs,g,i,h1,h2,h3,h4,h5⟩:=HX hf
 refine dE rfl rfl hdn ?_ h
 simp only[execOp,hx,Instr.fieldAt,Sem.run_bind,run_underlying h1,Result.andThen_ok,h2,Instr.sureAddr,Sem.run_pure,fieldPlace,fV h4,h5,if_false,h3,Addr.add_lit]
theorem SK {x y:Operand} {T E sz b o l c:Nat} {k:IntKind} {i:Int} (hT:ek P T E sz=true) (hx:ev ρ x=.slice (some ⟨b,o,none⟩) l c) (hy:ev ρ y=.int k i) (h0:0<=i) (hl:i<l) (hdn:aQ d n=true)
  (h:LW P n ops rest Q (fB ρ d (.pointer (some ⟨b,o+i.toNat*sz,none⟩))) w):LW P n ops (O d (.indexAddr T x y) t p af::rest) Q ρ w:=by
 obtain⟨h1,j,h2,h3⟩:=fe hT
 refine dE rfl rfl hdn ?_ h
 simp only[execOp,hx,hy,Instr.indexAt,asIntOf,Sem.run_bind,run_underlying h1,Result.andThen_ok,Sem.run_pure]
 simp[h0,hl,fV h2,h3,Addr.add_lit]
theorem ld {x:Operand} {T:TypeId} {a:Addr} {v:Value} (hT:qx P T=true) (hx:ev ρ x=.pointer (some a)) (hc:w.cell? a=some v) (hdn:aQ d n=true)
  (h:LW P n ops rest Q (fB ρ d v) w):LW P n ops (O d (.load T x) t p af::rest) Q ρ w:=
 dE rfl rfl hdn (by simp only[execOp,hx,Instr.loadAt,Instr.sureAddr,Sem.run_bind,Sem.run_pure,Result.andThen_ok,Ae hT hc]) h
theorem Uv {x:Operand} {T sz b o:Nat} {xs:List Value} (hT:lO P T sz=true) (hx:ev ρ x=.pointer (some ⟨b,o,none⟩)) (hl:xs.length=sz) (hc: ∀ j v,xs[j]? =some v->w.cell? ⟨b,o+j,none⟩=some v) (hdn:aQ d n=true)
  (h:LW P n ops rest Q (fB ρ d (.agg xs.toArray)) w):LW P n ops (O d (.load T x) t p af::rest) Q ρ w:=
 dE rfl rfl hdn (by simp only[execOp,hx,Instr.loadAt,Instr.sureAddr,Sem.run_bind,Sem.run_pure,Result.andThen_ok,i6 hT hl (fun j v hj=>by rw[Addr.add_lit];exact hc j v hj)]) h
theorem xD (H:Hp w0 w L F) (i:Nat) {x:Operand} {T:TypeId} {b j:Nat} {cs:Array Value} {tt:TypeId} {fr:Nat×Nat} {v:Value} (hT:qx P T=true) (hx:ev ρ x=.pointer (some ⟨b,j,none⟩)) (hi:L[i]? =some (b,.cells cs tt fr)) (hj:cs[j]? =some v) (hdn:aQ d n=true)
 (h:LW P n ops rest Q (fB ρ d v) w):LW P n ops (O d (.load T x) t p af::rest) Q ρ w:=ld hT hx (aK (H.ent hi) hj) hdn h
theorem TX (H:Hp w0 w L F) (i:Nat) {x:Operand} {T sz:Nat} {b:Nat} {cs:Array Value} {tt:TypeId} {fr:Nat×Nat} (hT:lO P T sz=true) (hx:ev ρ x=.pointer (some ⟨b,0,none⟩)) (hi:L[i]? =some (b,.cells cs tt fr)) (hs:cs.size=sz) (hdn:aQ d n=true)
  (h:LW P n ops rest Q (fB ρ d (.agg cs)) w):LW P n ops (O d (.load T x) t p af::rest) Q ρ w:=
 Uv (xs:=cs.toList) hT hx (by simpa using hs) (fun j v hj=>by rw[cC];exact aK (H.ent hi) (by simpa using hj)) hdn h
theorem box (H:Hp w0 w L F) {x:Operand} {T:TypeId} {v:Value} (hx:ev ρ x=v) (hdn:aQ d n=true)
  (h: ∀ w' b,Hp w0 w' ((b,.cells v.cells T)::L) F->LW P n ops rest Q (fB ρ d (.pointer (some ⟨b,0,none⟩))) w'):LW P n ops (O d (.box T x) t p af::rest) Q ρ w:=by
 refine dE rfl rfl hdn ?_ (h _ _ (H.alloc (.cells v.cells T)))
 simp only[execOp,hx,Instr.box,newVar,newRow,newObj,Sem.run_bind,Sem.run_pure]
 rfl
theorem fc (H:Hp w0 w L F) {T:TypeId} {z:Value} (hz:(P.info? T).bind (·.zero)=some z) (hdn:aQ d n=true)
  (h: ∀ w' b,Hp w0 w' ((b,.cells z.cells T)::L) F->LW P n ops rest Q (fB ρ d (.pointer (some ⟨b,0,none⟩))) w'):LW P n ops (O d (.alloc T) t p af::rest) Q ρ w:=by
 refine dE rfl rfl hdn ?_ (h _ _ (H.alloc (.cells z.cells T)))
 cases hi:P.info? T with
 |none=>rw[hi]at hz;cases hz
 |some i=>
  rw[hi]at hz
  simp only[cQ]at hz
  simp only[execOp,Instr.alloc,zeroValue,kV hi,hz,newVar,newRow,newObj,Sem.run_bind,Sem.run_pure,Result.andThen_ok]
  rfl
theorem Uk (H:Hp w0 w L F) (i:Nat) {x y:Operand} {T:TypeId} {b o sz:Nat} {cs:Array Value} {tt:TypeId} {v:Value} (hT:(P.info? T).map (·.size)=some sz) (hx:ev ρ x=.pointer (some ⟨b,o,none⟩)) (hy:ev ρ y=v) (hi:L[i]? =some (b,.cells cs tt (0,0)))
  (hs:v.cells.size=sz) (hf:o+sz<=cs.size) (h1:v.cells.toList.all (·.oneCell')=true)
  (h: ∀ w',Hp w0 w' (L.set i (b,.cells (cs.toList.take o++v.cells.toList++cs.toList.drop (o+sz)).toArray tt)) F->LW P n ops rest Q ρ w'):LW P n ops ({dst:=none,op:=.store T x y,type:=t,pos:=p,after:=af,guard:=none}::rest) Q ρ w:=by
 cases hin:P.info? T with
 |none=>rw[hin]at hT;cases hT
 |some ii=>
  rw[hin]at hT
  have hsz:ii.size=sz:=by simpa using hT
  have hb:=H.ent hi
  have hr:=I0 (P:=P) (w:=w) (T:=T) (o:=o) hin (hs.trans hsz.symm) hb (by rw[hs];exact hf) (eD.1 h1)
  refine Ks rfl rfl (w':=w.setRow b (cs.toList.take o++v.cells.toList++cs.toList.drop (o+sz)).toArray) ?_ (h _ (H.put hi (setRow_heap w b cs _ tt _ hb) ?_ rfl rfl rfl fun k hk=>setRow_other w b k _ hk))
  rw[hs]at hr
  simp only[execOp,hx,hy,Instr.storeAt,Instr.sureAddr,Sem.run_bind,Sem.run_pure,Result.andThen_ok,hr]
  simp[World.setRow]
end
end
section
def bh (P:Program) (f:FuncId):Bool:=
 match P.funcs[f]? with
 |some fn=>!(fn.name== "runtime.NumGoroutine")&&fn.body.isSome
 |none=>false
def p6 (P:Program) (T:TypeId):Bool:=
 match P.underlying T with
 |some (.slice _)=>true
 |_=>false
def yh (P:Program) (T:TypeId):Bool:=
 match P.underlying T with
 |some .string=>true
 |_=>false
def pB (P:Program) (T:TypeId) (k:IntKind):Bool:=
 match P.underlying T with
 |some (.int k')=>decide (k'=k)
 |_=>false
section
variable {P:Program} {w:World}
theorem p5 {f:FuncId} {vs:Array Value} (h:bh P f=true):(callFunc f vs).run P w=.ok (.enter f vs) w:=by
 unfold bh at h
 split at h
 rename_i fn hf
 simp only[bg,vV]at h
 obtain⟨h1,h2⟩:=h
 have h1': ¬ fn.name= "runtime.NumGoroutine" :=by simpa using h1
 have h3: ¬ fn.body=none:=by intro hb;rw[hb]at h2;cases h2
 simp only[callFunc,Sem.run_bind]
 simp[program,Sem.run,hf,h1',h3]
 cases h
end
section
variable {P:Program} {n:Nat} {Q:ig} {ρ:gV} {w:World} {ops:Array Oper} {rest:List Oper} {d:Nat} {t:TypeId} {p:String} {af:Array Edge}
variable {w0:World} {L:List (Nat×Obj)} {F:List cf}
theorem cE {f:FuncId} {xs:List Operand} {ats:Array TypeId} {vs:List Value} {R:Value->World->Prop} (hf:bh P f=true) (hc:di P f vs w R) (hv:xs.map (ev ρ)=vs) (hdn:aQ d n=true)
  (h: ∀ v w2,R v w2->LW P n ops rest Q (fB ρ d v) w2):LW P n ops (O d (.call {callee:=.value (.func f),args:=xs.toArray,argTypes:=ats}) t p af::rest) Q ρ w:=by
 refine Hs rfl rfl hdn ?_ hc h
 subst hv
 simp[execOp,resolve,ev,Deferred.ofValue,invoke,p5 hf]
theorem Re {f:FuncId} {x:Operand} {xs:List Operand} {ats:Array TypeId} {cap vs:List Value} {R:Value->World->Prop} (hf:bh P f=true) (hx:ev ρ x=.func (.func f) #[] cap.toArray) (hc:di P f vs w R) (hv:xs.map (ev ρ)++cap=vs) (hdn:aQ d n=true)
  (h: ∀ v w2,R v w2->LW P n ops rest Q (fB ρ d v) w2):LW P n ops (O d (.call {callee:=.value x,args:=xs.toArray,argTypes:=ats}) t p af::rest) Q ρ w:=by
 refine Hs rfl rfl hdn ?_ hc h
 subst hv
 simp[execOp,resolve,hx,Deferred.ofValue,invoke,p5 hf]
theorem wA {x:Operand} {T:TypeId} {A:Option Addr} {l c:Nat} (hT:p6 P T=true) (hx:ev ρ x=.slice A l c) (hdn:aQ d n=true)
  (h:LW P n ops rest Q (fB ρ d (.int .i64 l)) w):LW P n ops (O d (.call {callee:=.builtin .len,args:= #[x],argTypes:= #[T]}) t p af::rest) Q ρ w:=by
 unfold p6 at hT
 split at hT
 rename_i e hu
 refine dE rfl rfl hdn ?_ h
 simp[execOp,resolve,invoke,builtin,Builtin.len_,hx,run_underlying hu,goInt]
 cases hT
theorem TF {x:Operand} {T:TypeId} {s:ByteArray} (hT:yh P T=true) (hx:ev ρ x=.string s) (hdn:aQ d n=true)
  (h:LW P n ops rest Q (fB ρ d (.int .i64 s.size)) w):LW P n ops (O d (.call {callee:=.builtin .len,args:= #[x],argTypes:= #[T]}) t p af::rest) Q ρ w:=by
 unfold yh at hT
 split at hT
 rename_i hu
 refine dE rfl rfl hdn ?_ h
 simp[execOp,resolve,invoke,builtin,Builtin.len_,hx,run_underlying hu,goInt]
 cases hT
theorem Q8 {x:Operand} {S T:TypeId} {k k':IntKind} {a b:Int} (hS:pB P S k=true) (hT:pB P T k'=true) (hx:ev ρ x=.int k a) (hw:k'.wrap a=b) (hdn:aQ d n=true)
  (h:LW P n ops rest Q (fB ρ d (.int k' b)) w):LW P n ops (O d (.convert S T x) t p af::rest) Q ρ w:=by
 unfold pB at hS hT
 split at hS
 rename_i k1 h1
 split at hT
 rename_i k2 h2
 have:=of_decide_eq_true hT
 subst this
 refine dE rfl rfl hdn ?_ h
 simp[execOp,convert,hx,run_underlying h1,run_underlying h2,Conv.intToInt,hw]
 cases hT
 cases hS
def xW (A A':Option Addr) (l len sz:Nat):Prop:=l<len-> ∀ b o,A=some ⟨b,o,none⟩->A'=some ⟨b,o+l*sz,none⟩
theorem ui {x lo:Operand} {T E sz:Nat} {A:Option Addr} {len cap:Nat} {k:IntKind} {i:Int} (hT:ek P T E sz=true) (hx:ev ρ x=.slice A len cap) (hl:ev ρ lo=.int k i) (h0:0<=i) (h1:i<=len) (hc:len<=cap) (hdn:aQ d n=true)
  (h: ∀ A',xW A A' i.toNat len sz->LW P n ops rest Q (fB ρ d (.slice A' (len-i.toNat) (cap-i.toNat))) w):LW P n ops (O d (.slice T x (some lo) none none) t p af::rest) Q ρ w:=by
 obtain⟨hu,j,h2,h3⟩:=fe hT
 refine dE (v:=.slice (if cap=i.toNat then A else A.map (·.add (i.toNat*sz))) (len-i.toNat) (cap-i.toNat)) rfl rfl hdn ?_ (h _ ?_)
 simp only[execOp,Instr.sliceAt,dA,jA,hx,hl,Sem.run_bind,run_underlying hu,Result.andThen_ok,Instr.slice,Instr.sliceBounds,Instr.sliceBound,asIntOf,Sem.run_pure]
 simp[h0,h1,fV h2,h3]
 intro hlt b o hA
 subst hA
 rw[if_neg (by omega)]
 simp[Addr.add_lit]
theorem BS {x hi:Operand} {T E sz:Nat} {A:Option Addr} {len cap:Nat} {k:IntKind} {i:Int} (hT:ek P T E sz=true) (hx:ev ρ x=.slice A len cap) (hl:ev ρ hi=.int k i) (h0:0<=i) (h1:i<=cap) (hdn:aQ d n=true)
  (h: ∀ A',(0<cap->A'=A)->LW P n ops rest Q (fB ρ d (.slice A' i.toNat cap)) w):LW P n ops (O d (.slice T x none (some hi) none) t p af::rest) Q ρ w:=by
 obtain⟨hu,j,h2,h3⟩:=fe hT
 refine dE (v:=.slice (if cap=0 then A else A.map (·.add (0*sz))) i.toNat cap) rfl rfl hdn ?_ (h _ ?_)
 simp only[execOp,Instr.sliceAt,dA,jA,hx,hl,Sem.run_bind,run_underlying hu,Result.andThen_ok,Instr.slice,Instr.sliceBounds,Instr.sliceBound,asIntOf,Sem.run_pure]
 simp[h0,h1,fV h2,h3]
 intro hc
 rw[if_neg (by omega)]
 cases A<;>simp[Addr.add]
theorem Rw {x lo hi:Operand} {T E sz:Nat} {A:Option Addr} {len cap:Nat} {k k':IntKind} {i j:Int} (hT:ek P T E sz=true) (hx:ev ρ x=.slice A len cap) (hl:ev ρ lo=.int k i) (hh:ev ρ hi=.int k' j) (h0:0<=i) (h1:i<=j) (h2:j<=cap) (hdn:aQ d n=true)
  (h: ∀ A',xW A A' i.toNat cap sz->LW P n ops rest Q (fB ρ d (.slice A' (j.toNat-i.toNat) (cap-i.toNat))) w):LW P n ops (O d (.slice T x (some lo) (some hi) none) t p af::rest) Q ρ w:=by
 obtain⟨hu,q,h3,h4⟩:=fe hT
 refine dE (v:=.slice (if cap=i.toNat then A else A.map (·.add (i.toNat*sz))) (j.toNat-i.toNat) (cap-i.toNat)) rfl rfl hdn ?_ (h _ ?_)
 have h5:0<=j:=by omega
 have h6:i<=(j.toNat:Int):=by omega
 simp only[execOp,Instr.sliceAt,dA,jA,hx,hl,hh,Sem.run_bind,run_underlying hu,Result.andThen_ok,Instr.slice,Instr.sliceBounds,Instr.sliceBound,asIntOf,Sem.run_pure]
 simp[h0,h2,h5,fV h3,h4]
 intro hlt
 omega
 intro hlt b o hA
 subst hA
 rw[if_neg (by omega)]
 simp[Addr.add_lit]
theorem Ux (H:Hp w0 w L F) {T E sz len:Nat} {parts:List (Nat×Operand)} {z:Value} {cs:Array Value} (hT:ek P T E sz=true) (hz:(P.info? E).bind (·.zero)=some z) (hn:aQ 0 (len*sz)=true) (hm:Nat.ble (len*sz) 16777216=true)
  (hf:Instr.fill (fun i=>some (i*sz,sz)) ((Array.range (len*sz)).map (z.cells[· %z.cells.size]!)) (parts.map fun q=>(q.1,ev ρ q.2))=some cs) (hdn:aQ d n=true)
  (h: ∀ w' b,Hp w0 w' ((b,.cells cs E)::L) F->LW P n ops rest Q (fB ρ d (.slice (some ⟨b,0,none⟩) len len)) w'):LW P n ops (O d (.buildSlice T len parts.toArray) t p af::rest) Q ρ w:=by
 obtain⟨hu,q,h3,h4⟩:=fe hT
 refine dE rfl rfl hdn ?_ (h _ _ (H.alloc (.cells cs E)))
 rw[h3]at hz
 simp only[cQ]at hz
 have hn':len*sz≠0:=by
   have:0<len*sz:=by simpa [uu]using hn
   omega
 have hm': ¬ len*sz>2 ^ 24:=by have:=fk hm;omega
 simp only[execOp,Instr.buildSlice,Sem.run_bind,run_underlying hu,Result.andThen_ok,fV h3,h4,hn',hm',if_false,zeroValue,kV h3,hz,Sem.run_pure]
 simp only[List.map_toArray,hf,newRow,newObj,Sem.run_bind,Sem.run_pure]
 rfl
end
end
section
/-- the slice value v of n elements of type e (sz cells each) is the call's own: its row is all of L, or there is none -/
def sI (v:Value) (e sz n:Nat) (xs:List Value) (L:List (Nat×Obj)):Prop:=
 xs.length=n*sz/\((L=[]/\n=0/\ ∃ A,v=.slice A 0 0)∨
  ∃ g cap cur,L=[(g,.cells cur e (0,0))]/\v=.slice (some ⟨g,0,none⟩) n cap/\n<=cap/\cap<=maxLen/\cur.size=cap*sz/\cur.toList.take (n*sz)=xs)
theorem sI.nil (e sz:Nat):sI (.slice none 0 0) e sz 0 [] []:=⟨by simp,.inl ⟨rfl,rfl,none,rfl⟩⟩
theorem sI.lit {e sz:Nat} {g n:Nat} {cur:Array Value} (hn:n<=maxLen) (hs:cur.size=n*sz):sI (.slice (some ⟨g,0,none⟩) n n) e sz n cur.toList [(g,.cells cur e (0,0))]:=
 ⟨by simpa using hs,.inr ⟨g,n,cur,rfl,rfl,ap _,hn,hs,by rw[fD (by simp[hs])]⟩⟩
def wL (w:World) (X:Option Addr) (m sz:Nat) (news:List Value):Prop:=
 news.length=m*sz/\(0<m-> ∃ ad,X=some ad/\ ∀ j u,news[j]? =some u->w.cell? (ad.add j)=some u)
theorem wL.row {w:World} {b:Nat} {cs:Array Value} {T:TypeId} {fr:Nat×Nat} {m sz:Nat} (h:w.heap[b]? =some (.cells cs T fr)) (hs:cs.size=m*sz):wL w (some ⟨b,0,none⟩) m sz cs.toList:=
 ⟨by simpa using hs,fun _=>⟨_,rfl,fun j u hj=>by rw[Addr.add_lit,cC];exact aK h (by simpa using hj)⟩⟩
theorem Hp.addIn {w0 w w':World} {F:List cf} {K M:List (Nat×Obj)} {g:Nat} {o:Obj} (H:Hp w0 w (K++M) F) (hb:Below w.heap.size w w') (hg:w'.heap[g]? =some o) (hge:w.heap.size<=g):Hp w0 w' (K++[(g,o)]++M) F:=by
 have h:=H.later hb
 have h1:=h.adopt hg (aW H.size hge) (fun e he=>by have:=H.ltAll e he;omega) (fun f hf=> .inr (by have:=(H.facts f hf).2.1;omega))
 have hp':List.Perm (K++[(g,o)]++M) ((g,o)::(K++M)):=by
  simp only[aB,List.singleton_append]
  exact qY
 refine⟨h1.below,fun e he=>h1.ents e (hp'.mem_iff.1 he),(hp'.map _).nodup_iff.2 h1.nodup,fun f hf=> ?_⟩
 obtain⟨a,b,c⟩:=h1.facts f hf
 exact⟨a,b,fun e he=>c e (hp'.mem_iff.1 he)⟩
theorem Hp.dropIn {w0 w:World} {F:List cf} {K M Nn:List (Nat×Obj)} (H:Hp w0 w (K++Nn++M) F):Hp w0 w (K++M) F:=
 H.forget (by simp) (fun _ h=>h)
section
variable {P:Program} {w0 w:World} {F:List cf}
theorem Qc {T ty e sz by_:Nat} {i:TypeInfo} {z:Value} (ht:P.underlying T=some (.slice e)) (hi:P.info? e=some i) (hz:i.zero=some z) (hsz:i.size=sz) (hby:i.bytes=by_) (hzs:z.cells.size=sz) (hpos:0<sz)
  {K L M:List (Nat×Obj)} (H:Hp w0 w (K++L++M) F) {v:Value} {n:Nat} {xs:List Value} (ho:sI v e sz n xs L) {X:Option Addr} {m c:Nat} {news:List Value} (hs:wL w X m sz news) (h1: ∀ u∈news,u.oneCell'=true)
  (hb:(n+m)*by_<=140737488355328) (h63:n+m<=maxLen):
  ∃ v' w' L',(Builtin.append_ #[T,T] ty #[v,.slice X m c]).run P w=.ok v' w'/\sI v' e sz (n+m) (xs++news) L'/\Hp w0 w' (K++L'++M) F:=by
 subst hsz hby
 obtain⟨hx,ho⟩:=ho
 obtain⟨hl,hc⟩:=hs
 have hlen:(xs++news).length=(n+m)*i.size:=by rw[av,hx,hl,cW]
 have hsmall:n+m<=9223372036854775807:=by simp only[maxLen]at h63;omega
 have big: ∀ (b:Addr) (cap:Nat),n<=cap->cap<n+m->(∀ j u,xs[j]? =some u->w.cell? (b.add j)=some u)->v=.slice (some b) n cap->
   ∃ v' w' L',(Builtin.append_ #[T,T] ty #[v,.slice X m c]).run P w=.ok v' w'/\sI v' e i.size (n+m) (xs++news) L'/\Hp w0 w' (K++L'++M) F:=by
  intro b cap hn hg holds hv
  obtain⟨ad,rfl,hnews⟩:=hc (by omega)
  subst hv
  have hr:=run_append_grow (P:=P) w T ty e i z ht hi hz b n cap xs hx holds ad m c news hl hnews hg (by omega) (growslice_fits hg hb)
  have hge:=grownCap_ge w (n+m) cap e
  refine⟨_,_,_,hr,⟨hlen,.inr ⟨_,_,_,rfl,rfl,hge,grownCap_le_maxLen w (n+m) cap e h63,?_,?_⟩⟩,H.dropIn.addIn ((Below.refl _ _).drew.alloc (ap _) _) (heap_alloc_new w.drew _) (ap _)⟩
  simp only[pU,dK,size_zeroCells,hzs,hx,hl,<-cW]
  congr 1
  omega
  simp only[tl,aB]
  rw[<-aB,<-hlen]
  exact jq
 rcases ho with⟨rfl,rfl,A,rfl⟩|⟨g,cap,cur,rfl,rfl,hnc,hcm,hcs,htake⟩
 have hx0:xs=[]:=bS (by simpa using hx)
 subst hx0
 by_cases hm:m=0
 subst hm
 have hn:news=[]:=bS (by simpa using hl)
 subst hn
 refine⟨.slice A 0 0,w,[],?_,⟨by simp,.inl ⟨rfl,rfl,A,rfl⟩⟩,H⟩
 cases A<;>cases X<;>simp[Builtin.append_,run_underlying ht,Go.sizeOf,typeInfo,hi,Builtin.lenOf,Builtin.firstCells,loadCells,loadCellsFrom,storeCells]
 cases A with
 |some b=>exact big b 0 (ap _) (by omega) (by simp) rfl
 |none=>
  obtain⟨ad,rfl,hnews⟩:=hc (by omega)
  have hr:=run_append_nil (P:=P) w T ty e i z ht hi hz ad m c news hl hnews (by omega) (by omega) (by simp only[cC]at hb;omega)
  have hge:=grownCap_ge w m 0 e
  refine⟨_,_,_,hr,⟨hlen,.inr ⟨_,_,_,rfl,by simp,by omega,grownCap_le_maxLen w m 0 e (by omega),?_,?_⟩⟩,H.dropIn.addIn ((Below.refl _ _).drew.alloc (ap _) _) (heap_alloc_new w.drew _) (ap _)⟩
  simp only[pU,dK,size_zeroCells,hzs,hl,<-cW]
  congr 1
  omega
  simp only[tl,jC,cC]
  rw[<-hl]
  exact jq
 have hg:w.heap[g]? =some (.cells cur e (0,0)):=H.ent (i:=K.length) (by simp)
 by_cases hroom:n+m<=cap
 by_cases hm:m=0
 subst hm
 have hn:news=[]:=bS (by simpa using hl)
 subst hn
 refine⟨_,w,_,?_,⟨hlen,.inr ⟨g,cap,cur,rfl,rfl,hnc,hcm,hcs,by simpa using htake⟩⟩,H⟩
 cases X<;>simp[Builtin.append_,run_underlying ht,Go.sizeOf,typeInfo,hi,Builtin.lenOf,Builtin.firstCells,loadCells,loadCellsFrom,storeCells,hnc]
 obtain⟨ad,rfl,hnews⟩:=hc (by omega)
 have hfit:n*i.size+news.length<=cur.size:=by rw[hl,hcs,<-cW];exact cN _ hroom
 have hr:=run_append_room (P:=P) w T ty e i ht hi g n cap cur hg ad m c news hl hnews h1 hroom hfit
 have hH:=H.put (i:=K.length) (b:=g) (o:=.cells cur e) (by simp) (o':=.cells (cur.toList.take (n*i.size)++news++cur.toList.drop (n*i.size+news.length)).toArray e) (w':=w.setRow g (cur.toList.take (n*i.size)++news++cur.toList.drop (n*i.size+news.length)).toArray) (setRow_heap w g cur _ e _ hg) (by simp[World.setRow]) rfl rfl rfl (fun k hk=>setRow_other w g k _ hk)
 refine⟨_,_,[(g,.cells (cur.toList.take (n*i.size)++news++cur.toList.drop (n*i.size+news.length)).toArray e (0,0))],hr,⟨hlen,.inr ⟨g,cap,_,rfl,rfl,hroom,hcm,?_,?_⟩⟩,by simpa using hH⟩
 simp only[dK,av,aI,dL,ch]
 omega
 rw[htake,<-hlen]
 exact jq
 exact big ⟨g,0,none⟩ cap hnc (by omega) (fun j u hj=>by
  rw[Addr.add_lit,cC]
  refine aK hg ?_
  rw[<-htake]at hj
  rw[dz]at hj
  split at hj
  simpa using hj
  cases hj) rfl
end
end
section
/-- how elements lie in memory: sz cells each -/
structure fu (α:Type) where
 f:α->List Value
 sz:Nat
 len: ∀ a,(f a).length=sz
 pos:0<sz
 one: ∀ a,∀ u∈f a,u.oneCell'=true
def fu.all {α:Type} (Y:fu α) (es:List α):List Value:=es.flatMap Y.f
section
variable {α:Type} {Y:fu α}
theorem fu.length (es:List α):(Y.all es).length=es.length*Y.sz:=by
 induction es with
 |nil=>simp[fu.all]
 |cons e es ih=>
  simp only[fu.all]at ih
  simp only[fu.all,gy,av,ih,Y.len,bf]
  rw[cW];omega
theorem fu.all_one (es:List α): ∀ u∈Y.all es,u.oneCell'=true:=by
 intro u hu
 simp only[fu.all,List.mem_flatMap]at hu
 obtain⟨a,_,ha⟩:=hu
 exact Y.one a u ha
theorem fu.get {es:List α} {k j:Nat} (hk:k<es.length) (hj:j<Y.sz):(Y.all es)[k*Y.sz+j]? =(Y.f es[k])[j]? :=by
 induction es generalizing k with
 |nil=>simp at hk
 |cons e es ih=>
  simp only[fu.all,gy]
  cases k with
  |zero=>simp;rw[bU (by rw[Y.len];exact hj)]
  |succ k=>
   have:(k+1)*Y.sz+j=Y.sz+(k*Y.sz+j):=by rw[cW];omega
   rw[this,cy (by rw[Y.len];omega),Y.len]
   simp only[List.getElem_cons_succ,pg]
   exact ih (by simpa using hk)
theorem fu.all_append (a b:List α):Y.all (a++b)=Y.all a++Y.all b:=by simp[fu.all]
theorem fu.all_take (es:List α) (k:Nat):Y.all (es.take k)=(Y.all es).take (k*Y.sz):=by
 induction es generalizing k with
 |nil=>simp[fu.all]
 |cons e es ih=>
  cases k with
  |zero=>simp[fu.all]
  |succ k=>
   simp only[fu.all]at ih
   simp only[fu.all,List.take_succ_cons,gy,ih]
   rw[cW,gj,Fg,List.take_append,Y.len,pg]
   rw[fD (l:=Y.f e) (by rw[Y.len];omega)]
theorem fu.all_drop (es:List α) (k:Nat):Y.all (es.drop k)=(Y.all es).drop (k*Y.sz):=by
 induction es generalizing k with
 |nil=>simp[fu.all]
 |cons e es ih=>
  cases k with
  |zero=>simp[fu.all]
  |succ k=>
   simp only[fu.all]at ih
   simp only[fu.all,BJ,gy,ih]
   rw[cW,gj,Fg,List.drop_append,Y.len,pg]
   rw[eE (l:=Y.f e) (by rw[Y.len];omega),jC]
def Rd (Y:fu α) (lo hi:Nat) (A:Option Addr) (es:List α) (w:World):Prop:=
 0<es.length-> ∃ b o,A=some ⟨b,o,none⟩/\lo<=b/\b<hi/\ ∀ j u,(Y.all es)[j]? =some u->w.cell? ⟨b,o+j,none⟩=some u
variable {lo hi lo' hi':Nat} {A:Option Addr} {es:List α} {w w':World}
theorem Rd.nil:Rd Y lo hi A [] w:=fun h=>absurd h (by simp)
theorem Rd.st (hk: ∀ k,lo<=k->k<hi->w'.heap[k]? =w.heap[k]?) (h:Rd Y lo hi A es w):Rd Y lo hi A es w':=fun h0=>by
 obtain⟨b,o,hA,h1,h2,hc⟩:=h h0
 exact⟨b,o,hA,h1,h2,fun j u hj=>(World.cell?_of_block (hk b h1 h2)).trans (hc j u hj)⟩
theorem Rd.mono (h:Rd Y lo hi A es w) (hl:lo'<=lo) (hh:hi<=hi'):Rd Y lo' hi' A es w:=fun h0=>by
 obtain⟨b,o,hA,h1,h2,hc⟩:=h h0
 exact⟨b,o,hA,aW hl h1,gg h2 hh,hc⟩
theorem Rd.below (h:Rd Y lo hi A es w) (hb:Below hi w w'):Rd Y lo hi A es w':=h.st fun k _ hk=>hb.block k hk
theorem Rd.src (h:Rd Y lo hi A es w):wL w A es.length Y.sz (Y.all es):=
 ⟨fu.length es,fun h0=>by obtain⟨b,o,hA,_,_,hc⟩:=h h0;exact⟨_,hA,fun j u hj=>by rw[Addr.add_lit];exact hc j u hj⟩⟩
theorem Rd.at_ (h:Rd Y lo hi A es w) {k:Nat} (hk:k<es.length): ∃ b o,A=some ⟨b,o,none⟩/\lo<=b/\b<hi/\ ∀ j u,(Y.f es[k])[j]? =some u->w.cell? ⟨b,o+k*Y.sz+j,none⟩=some u:=by
 obtain⟨b,o,hA,h1,h2,hc⟩:=h (by omega)
 refine⟨b,o,hA,h1,h2,fun j u hj=> ?_⟩
 rw[lx]
 refine hc _ u ?_
 have hjs:j<Y.sz:=by
  have:=(aC.1 hj).1
  rwa[Y.len]at this
 rw[fu.get hk hjs]
 exact hj
theorem Rd.take (h:Rd Y lo hi A es w) (k:Nat):Rd Y lo hi A (es.take k) w:=fun h0=>by
 obtain⟨b,o,hA,h1,h2,hc⟩:=h (by simp at h0;omega)
 refine⟨b,o,hA,h1,h2,fun j u hj=>hc j u ?_⟩
 rw[fu.all_take,dz]at hj
 split at hj
 exact hj
 cases hj
theorem Rd.from_ (h:Rd Y lo hi A es w) {k len:Nat} {A':Option Addr} (hf:xW A A' k len Y.sz) (hk:k<es.length->k<len):Rd Y lo hi A' (es.drop k) w:=fun h0=>by
 have hlt:k<es.length:=by simp at h0;omega
 obtain⟨b,o,hA,h1,h2,hc⟩:=h (by omega)
 refine⟨b,o+k*Y.sz,hf (hk hlt) b o hA,h1,h2,fun j u hj=> ?_⟩
 rw[lx]
 refine hc _ u ?_
 rw[fu.all_drop,df]at hj
 exact hj
def ee (Y:fu α) (lo hi:Nat) (A:Option Addr) (es:List α):cf:=⟨lo,hi,Rd Y lo hi A es,fun _ _ hk h=>h.st hk⟩
end
def gb {α:Type} (Y:fu α) (v:Value) (e:TypeId) (es:List α) (L:List (Nat×Obj)):Prop:=sI v e Y.sz es.length (Y.all es) L
section
variable {α:Type} {Y:fu α} {v:Value} {e:TypeId} {es:List α} {L K M:List (Nat×Obj)} {w0 w:World} {F:List cf}
theorem gb.nil:gb Y (.slice none 0 0) e ([]:List α) []:=sI.nil e Y.sz
theorem gb.form (h:gb Y v e es L): ∃ A c,v=.slice A es.length c/\es.length<=c/\c<=maxLen:=by
 rcases h.2 with⟨_,hn,A,rfl⟩|⟨g,cap,cur,_,rfl,h1,h2,_⟩
 exact⟨A,0,by rw[hn],by omega,by simp[maxLen]⟩
 exact⟨_,_,rfl,h1,h2⟩
theorem gb.rd {A:Option Addr} {n c:Nat} (h:gb Y (.slice A n c) e es L) (H:Hp w0 w (K++L++M) F):Rd Y w0.heap.size w.heap.size A es w:=fun h0=>by
 rcases h.2 with⟨_,hn,_⟩|⟨g,cap,cur,rfl,hv,h1,h2,h3,h4⟩
 omega
 have hg:w.heap[g]? =some (.cells cur e (0,0)):=H.ent (i:=K.length) (by simp)
 simp only[Value.slice.injEq]at hv
 refine⟨g,0,hv.1,H.ge (i:=K.length) (b:=g) (by simp;rfl),bX hg,fun j u hj=> ?_⟩
 rw[cC]
 refine aK hg ?_
 rw[<-h4,dz]at hj
 split at hj
 simpa using hj
 cases hj
end
def GH (P:Program) (T e sz by_:Nat):Bool:=
 ek P T e sz&&match P.info? e with
  |some i=>eG i.bytes by_&&aQ 0 by_&&aQ 0 sz&&match i.zero with|some z=>eG z.cells.size sz|none=>false
  |none=>false
section
variable {P:Program} {n:Nat} {Q:ig} {ρ:gV} {w:World} {ops:Array Oper} {rest:List Oper} {d:Nat} {t:TypeId} {p:String} {af:Array Edge}
variable {w0:World} {F:List cf}
theorem KJ {T e sz by_:Nat} (h:GH P T e sz by_=true): ∃ i z,P.underlying T=some (.slice e)/\P.info? e=some i/\i.zero=some z/\i.size=sz/\i.bytes=by_/\z.cells.size=sz/\0<sz/\0<by_:=by
 unfold GH at h
 simp only[bg]at h
 obtain⟨h1,h2⟩:=h
 obtain⟨hu,i,hi,hs⟩:=fe h1
 rw[hi]at h2
 simp only[bg]at h2
 obtain⟨⟨⟨h3,h4'⟩,h4⟩,h5⟩:=h2
 cases hz:i.zero with
 |none=>rw[hz]at h5;cases h5
 |some z=>
  rw[hz]at h5
  exact⟨i,z,hu,hi,hz,hs,ba h3,ba h5,by simpa [uu]using h4,by simpa [uu]using h4'⟩
theorem uO {α:Type} {Y:fu α} {T e by_:Nat} (hT:GH P T e Y.sz by_=true) {K L M:List (Nat×Obj)} (H:Hp w0 w (K++L++M) F) {v:Value} {es news:List α} (ho:gb Y v e es L) {s x:Operand} {X:Option Addr} {m c:Nat}
  (hs:ev ρ s=v) (hx:ev ρ x=.slice X m c) (hm:m=news.length) (hsrc:wL w X news.length Y.sz (Y.all news)) (hb:(es.length+news.length)*by_<=140737488355328) (hdn:aQ d n=true)
  (h: ∀ A cp w' L',(es++news).length<=cp->cp<=maxLen->gb Y (.slice A (es++news).length cp) e (es++news) L'->Hp w0 w' (K++L'++M) F->LW P n ops rest Q (fB ρ d (.slice A (es++news).length cp)) w'):
  LW P n ops (O d (.call {callee:=.builtin .append,args:= #[s,x],argTypes:= #[T,T]}) t p af::rest) Q ρ w:=by
 obtain⟨i,z,h1,h2,h3,h4,h5,h6,h7,h8⟩:=KJ hT
 subst hm
 have h63:es.length+news.length<=maxLen:=by
  have:=xm (es.length+news.length) h8
  simp only[maxLen];omega
 obtain⟨v',w',L',hr,ho',H'⟩:=Qc (ty:=t) (c:=c) h1 h2 h3 h4 h5 h6 h7 H ho hsrc (fu.all_one news) hb h63
 have ho2:gb Y v' e (es++news) L':=by
  unfold gb;rw[av,fu.all_append];exact ho'
 obtain⟨A,cp,rfl,hc1,hc2⟩:=ho2.form
 refine dE rfl rfl hdn ?_ (h A cp w' L' hc1 hc2 ho2 H')
 simp[execOp,resolve,invoke,builtin,hs,hx,hr]
end
end
section
abbrev iO:=World->Prop
def M0 (P:Program) (o:Oper) (a:Act) (V:Value->iO) (w:World):Prop:=
 match (execOp a.eval o).run P w with
 |.ok (.value u) w'=>Below w.heap.size w w'/\V u w'
 |.ok (.enter f vs) w'=>w'=w/\Calls P f vs w fun e w2=> ∃ u,e=.returned u/\Below w.heap.size w w2/\V u w2
 |_=>False
def Sq (P:Program) (o:Oper) (a:Act) (C:iO) (v:Value):Prop:= ∀ w,C w->(execOp a.eval o).run P w=.ok (.value v) w
section
variable {P:Program} {ops:Array Oper} {md:Region.Mode} {C:iO} {S lo pu:List Nat} {spec:Nat->Value->iO} {Q:Exit->Act->World->Prop}
def zp (P:Program) (ops:Array Oper) (C:iO) (lo pu:List Nat) (spec:Nat->Value->iO) (i:Nat) (K:Act->iO->Prop) (a:Act) (Fc:iO):Prop:=
 match ops[i]? with
 |none=>False
 |some o=>
  if Region.wanted o (yielded ops a.tmps)=true then
   if lo.contains i=true then(∀ w,C w->M0 P o a (spec i) w)/\ ∀ v,(∃ w,C w/\spec i v w)->K (a.put o.dst v) (fun w=>Fc w/\spec i v w)
   else∃ v,Sq P o a (if pu.contains i then fun _=>True else C) v/\K (a.put o.dst v) Fc
  else K (a.put o.dst undef) Fc
theorem kr {i:Nat} {K K':Act->iO->Prop} {a:Act} {Fc Fc':iO} (hk: ∀ a f f',(∀ w,f' w->f w)->K a f->K' a f') (hf: ∀ w,Fc' w->Fc w) (h:zp P ops C lo pu spec i K a Fc):zp P ops C lo pu spec i K' a Fc':=by
 unfold zp at*
 split at h
 exact h.elim
 split
 rename_i hw
 rw[if_pos hw]at h
 split
 rename_i hl
 rw[if_pos hl]at h
 exact⟨h.1,fun v hv=>hk _ _ _ (fun w hw=>⟨hf w hw.1,hw.2⟩) (h.2 v hv)⟩
 rename_i hl
 rw[if_neg hl]at h
 obtain⟨v,h1,h2⟩:=h
 exact⟨v,h1,hk _ _ _ hf h2⟩
 rename_i hw
 rw[if_neg hw]at h
 exact hk _ _ _ hf h
def IF (P:Program) (md:Region.Mode) (ops:Array Oper) (C:iO) (S lo pu:List Nat) (spec:Nat->Value->iO) (Q:Exit->Act->World->Prop):Nat->Array Bool->Act->iO->Prop
 |0,listed,a,Fc=>Region.ready md ops listed=[]/\ ∀ w,C w->Fc w->Q .normal a w
 |f+1,listed,a,Fc=>(Region.ready md ops listed=[]-> ∀ w,C w->Fc w->Q .normal a w)/\ ∀ i∈Region.ready md ops listed,
  if S.contains i=true then∀ w,C w->Fc w->wpOp P ops Q i (wpAny P md ops Q f (listed.setIfInBounds i true)) a w
  else zp P ops C lo pu spec i (IF P md ops C S lo pu spec Q f (listed.setIfInBounds i true)) a Fc
theorem sM: ∀ (f:Nat) (listed:Array Bool) (a:Act) (Fc Fc':iO),(∀ w,Fc' w->Fc w)->IF P md ops C S lo pu spec Q f listed a Fc->IF P md ops C S lo pu spec Q f listed a Fc'
 |0,_,_,_,_,hf,h=>⟨h.1,fun w hc hw=>h.2 w hc (hf w hw)⟩
 |f+1,_,_,_,_,hf,h=>⟨fun hr w hc hw=>h.1 hr w hc (hf w hw),fun i hi=>by
  have:=h.2 i hi
  split
  rename_i hs;rw[if_pos hs]at this;exact fun w hc hw=>this w hc (hf w hw)
  rename_i hs;rw[if_neg hs]at this;exact kr (fun a f1 f2 h12 hk=>sM f _ a f1 f2 h12 hk) hf this⟩
theorem kS (hC: ∀ w w',C w->Below w.heap.size w w'->C w') (hsp: ∀ i v w w',C w->Below w.heap.size w w'->spec i v w->spec i v w'):
  ∀ (f:Nat) (listed:Array Bool) (a:Act) (Fc:iO),(∀ w w',C w->Below w.heap.size w w'->Fc w->Fc w')->IF P md ops C S lo pu spec Q f listed a Fc-> ∀ w,C w->Fc w->wpAny P md ops Q f listed a w
 |0,_,_,_,_,h,w,hc,hw=>⟨h.1,h.2 w hc hw⟩
 |f+1,listed,a,Fc,hF,h,w,hc,hw=>⟨fun hr=>h.1 hr w hc hw,fun i hi=>by
   have hk:=h.2 i hi
   split at hk
   exact hk w hc hw
   unfold zp at hk
   unfold wpOp
   split at hk
   exact hk.elim
   rename_i o ho
   simp only[ho]
   split at hk
   rename_i hwt
   rw[if_pos hwt]
   refine .inl ?_
   split at hk
   obtain⟨h1,h2⟩:=hk
   have h3:=h1 w hc
   unfold M0 at h3
   unfold Oper.wp
   generalize (execOp a.eval o).run P w=r at*
   cases r with
   |halt x w'=>exact h3.elim
   |ok n w'=>
    cases n<;>simp only at h3<;>simp only[Oper.upon]
    case value u=>exact kS hC hsp f _ _ _ (fun w w' hc hb hx=>⟨hF w w' hc hb hx.1,hsp _ _ _ _ hc hb hx.2⟩) (h2 u ⟨w',hC w w' hc h3.1,h3.2⟩) w' (hC w w' hc h3.1) ⟨hF w w' hc h3.1 hw,h3.2⟩
    case enter g vs=>
     obtain⟨rfl,hcl⟩:=h3
     exact hcl.mono fun e w2 ⟨u,he,hb,hv⟩=>by
      subst he
      exact kS hC hsp f _ _ _ (fun w w' hc hb hx=>⟨hF w w' hc hb hx.1,hsp _ _ _ _ hc hb hx.2⟩) (h2 u ⟨w2,hC _ w2 hc hb,hv⟩) w2 (hC _ w2 hc hb) ⟨hF _ w2 hc hb hw,hv⟩
   obtain⟨v,h1,h2⟩:=hk
   have h3:=h1 w (by split<;>trivial)
   unfold Oper.wp
   rw[h3]
   exact kS hC hsp f _ _ _ hF h2 w hc hw
   rename_i hwt
   rw[if_neg hwt]
   exact kS hC hsp f _ _ _ hF hk w hc hw⟩
theorem wr {oj:Oper} (hsj: ∀ cs b,oj.op≠ .select cs b) {a:Act} {d:Option Tmp} {v:Value} {V:Value->iO} {w:World} (h: ∀ x,d=some x->x∉oj.looksAt ops):M0 P oj (a.put d v) V w↔M0 P oj a V w:=by
 unfold M0;rw[execOp_put oj hsj a d v h]
theorem tU {oj:Oper} (hsj: ∀ cs b,oj.op≠ .select cs b) {a:Act} {d:Option Tmp} {v u:Value} {D:iO} (h: ∀ x,d=some x->x∉oj.looksAt ops):Sq P oj (a.put d v) D u↔Sq P oj a D u:=by
 unfold Sq;rw[execOp_put oj hsj a d v h]
theorem C1 {o:Oper} {a:Act} {V:Value->iO} {w:World} (hC: ∀ w w',C w->Below w.heap.size w w'->C w') (hc:C w) (h:M0 P o a V w): ∃ v w',C w'/\V v w':=by
 unfold M0 at h
 split at h
 rename_i u w' _;exact⟨u,w',hC _ _ hc h.1,h.2⟩
 rename_i f vs w' _
 obtain⟨hw,hcl⟩:=h
 obtain⟨e,w2,fr,⟨u,_,hb,hv⟩,_⟩:=hcl []
 exact⟨u,w2,hC _ _ hc hb,hv⟩
 exact h.elim
theorem N6 {i:Nat} {K:Act->iO->Prop} {a:Act} {Fc:iO} (hC: ∀ w w',C w->Below w.heap.size w w'->C w') (h0: ∃ w,C w) (h:zp P ops C lo pu spec i K a Fc): ∃ a' f',K a' f':=by
 obtain⟨w,hc⟩:=h0
 unfold zp at h
 split at h
 exact h.elim
 split at h
 split at h
 obtain⟨v,w',hw',hv⟩:=C1 hC hc (h.1 w hc)
 exact⟨_,_,h.2 v ⟨w',hw',hv⟩⟩
 obtain⟨v,_,hk⟩:=h;exact⟨_,_,hk⟩
 exact⟨_,_,h⟩
theorem O0 {o:Oper} {a:Act} {D:iO} {u v:Value} (h0: ∃ w,D w) (h:Sq P o a D u) (h':Sq P o a D v):u=v:=by
 obtain⟨w,hw⟩:=h0
 have:=(h w hw).symm.trans (h' w hw)
 simpa using this
theorem N5 {i j:Nat} {oi oj:Oper} {K:Act->iO->Prop} (hC: ∀ w w',C w->Below w.heap.size w w'->C w') (h0: ∃ w,C w) (hK: ∀ a f f',(∀ w,f' w->f w)->K a f->K a f')
  (hi:ops[i]? =some oi) (hj:ops[j]? =some oj) (hap:oi.apart ops oj=true) (hsi: ∀ cs b,oi.op≠ .select cs b) (hsj: ∀ cs b,oj.op≠ .select cs b) {a:Act} {Fc:iO}
  (h:zp P ops C lo pu spec i (zp P ops C lo pu spec j K) a Fc):zp P ops C lo pu spec j (zp P ops C lo pu spec i K) a Fc:=by
 obtain⟨h1,h2,h3⟩:=Oper.apart_spec hap
 have hD: ∀ b:Bool,∃ w,(if b=true then(fun _=>True:iO)else C) w:=fun b=>by
  obtain⟨w,hw⟩:=h0
  exact⟨w,by cases b<;>first|exact hw|trivial⟩
 have wj: ∀ v,Region.wanted oj (yielded ops (a.put oi.dst v).tmps)=Region.wanted oj (yielded ops a.tmps):=fun v=>wanted_put oj a oi.dst v h1
 have wi: ∀ v,Region.wanted oi (yielded ops (a.put oj.dst v).tmps)=Region.wanted oi (yielded ops a.tmps):=fun v=>wanted_put oi a oj.dst v h3
 have pc: ∀ v u,(a.put oi.dst v).put oj.dst u=(a.put oj.dst u).put oi.dst v:=fun v u=>Act.put_comm a v u h2
 unfold zp at h⊢
 simp only[hi,hj,wj,wi]at h⊢
 by_cases hwi:Region.wanted oi (yielded ops a.tmps)=true
 by_cases hwj:Region.wanted oj (yielded ops a.tmps)=true
 simp only[hwi,hwj,if_true]at h⊢
 by_cases hli:lo.contains i=true
 by_cases hlj:lo.contains j=true
 simp only[hli,hlj,if_true]at h⊢
 obtain⟨e1,e2⟩:=h
 refine⟨fun w hw=> ?_,fun u hu=>⟨fun w hw=>(wr hsi h3).2 (e1 w hw),fun v hv=> ?_⟩⟩
 obtain⟨v,w',hw',hv⟩:=C1 hC hw (e1 w hw)
 exact(wr hsj h1).1 ((e2 v ⟨w',hw',hv⟩).1 w hw)
 rw[<-pc]
 exact hK _ _ _ (fun w hw=>⟨⟨hw.1.1,hw.2⟩,hw.1.2⟩) ((e2 v hv).2 u hu)
 simp only[hli,hlj,if_true,if_false,dh]at h⊢
 obtain⟨e1,e2⟩:=h
 obtain⟨w0,hw0⟩:=h0
 obtain⟨v0,w',hw',hv0⟩:=C1 hC hw0 (e1 w0 hw0)
 obtain⟨u,hu,_⟩:=e2 v0 ⟨w',hw',hv0⟩
 have hu':=(tU hsj h1).1 hu
 refine⟨u,hu',fun w hw=>(wr hsi h3).2 (e1 w hw),fun v hv=> ?_⟩
 obtain⟨u2,hu2,hk⟩:=e2 v hv
 obtain rfl:=O0 (hD _) hu' ((tU hsj h1).1 hu2)
 rw[<-pc]
 exact hk
 by_cases hlj:lo.contains j=true
 simp only[hli,hlj,if_true,if_false,dh]at h⊢
 obtain⟨v,e1,e2,e3⟩:=h
 exact⟨fun w hw=>(wr hsj h1).1 (e2 w hw),fun u hu=>⟨v,(tU hsi h3).2 e1,by rw[<-pc];exact e3 u hu⟩⟩
 simp only[hli,hlj,if_false,dh]at h⊢
 obtain⟨v,e1,u,e2,e3⟩:=h
 exact⟨u,(tU hsj h1).1 e2,v,(tU hsi h3).2 e1,by rw[<-pc];exact e3⟩
 simp only[hwi,hwj,if_true,if_false,dh]at h⊢
 by_cases hli:lo.contains i=true
 simp only[hli,if_true]at h⊢
 exact⟨fun w hw=>(wr hsi h3).2 (h.1 w hw),fun v hv=>by rw[<-pc];exact h.2 v hv⟩
 simp only[hli,if_false,dh]at h⊢
 obtain⟨v,e1,e2⟩:=h
 exact⟨v,(tU hsi h3).2 e1,by rw[<-pc];exact e2⟩
 by_cases hwj:Region.wanted oj (yielded ops a.tmps)=true
 simp only[hwi,hwj,if_true,if_false,dh]at h⊢
 by_cases hlj:lo.contains j=true
 simp only[hlj,if_true]at h⊢
 exact⟨fun w hw=>(wr hsj h1).1 (h.1 w hw),fun u hu=>by rw[<-pc];exact h.2 u hu⟩
 simp only[hlj,if_false,dh]at h⊢
 obtain⟨u,e2,e3⟩:=h
 exact⟨u,(tU hsj h1).1 e2,by rw[<-pc];exact e3⟩
 simp only[hwi,hwj,if_false,dh]at h⊢
 rw[<-pc];exact h
def Be (md:Region.Mode) (ops:Array Oper) (i:Nat):Nat->Nat->Bool
 |0,_=>false
 |f+1,j=>match ops[j]? with
  |some oj=>oj.after.any fun e=>Region.binds md e&&(eG e.on i||Be md ops i f e.on)
  |none=>false
def MX (md:Region.Mode) (ops:Array Oper) (listed:Array Bool):Prop:= ∀ k ok,ops[k]? =some ok->listed.getD k true=true-> ∀ e∈ok.after,Region.binds md e=true->listed.getD e.on true=true
theorem Kz {listed:Array Bool} {j:Nat} (h:listed.getD j false=true):listed.getD j true=true:=by
 rcases fC j listed.size with h'|h'
 simp[h']at h⊢;exact h
 simp[pV h']at h
theorem HO {listed:Array Bool} {i j:Nat} (h:listed.getD j true=true):(listed.setIfInBounds i true).getD j true=true:=by
 by_cases hij:i=j
 subst hij
 rcases fC i listed.size with h'|h'
 simp[h']
 simp[h']
 rw[getD_set_ne true hij];exact h
theorem MX.put {listed:Array Bool} {j:Nat} (h:MX md ops listed) (hj:j∈Region.ready md ops listed):MX md ops (listed.setIfInBounds j true):=fun k ok hk hl e he hb=>by
 refine HO ?_
 by_cases hjk:j=k
 subst hjk
 obtain⟨-,o,ho,hall⟩:=mem_ready.1 hj
 rw[ho]at hk
 obtain rfl:=aZ hk
 exact Kz (hall e he hb)
 rw[getD_set_ne true hjk]at hl
 exact h k ok hk hl e he hb
theorem MX.dep {listed:Array Bool} {i:Nat} (h:MX md ops listed) (hi:listed.getD i true=false): ∀ (f j:Nat),Be md ops i f j=true->listed.getD j true=false
 |0,_,hd=>by cases hd
 |f+1,j,hd=>by
  unfold Be at hd
  split at hd
  rename_i oj hoj
  obtain⟨e,he,hb⟩:=Array.any_eq_true'.1 hd
  simp only[bg,sL]at hb
  obtain⟨hb,hon⟩:=hb
  cases hl:listed.getD j true with
  |false=>rfl
  |true=>
   have h1:=h j oj hoj hl e he hb
   rcases hon with hon|hon
   rw[ba hon,hi]at h1;cases h1
   rw[h.dep hi f _ hon]at h1;cases h1
  cases hd
theorem MX.unready {listed:Array Bool} {i f j:Nat} (h:MX md ops listed) (hi:listed.getD i true=false) (hd:Be md ops i f j=true): ¬ j∈Region.ready md ops listed:=fun hj=>by
 cases f with
 |zero=>cases hd
 |succ f=>
  obtain⟨-,o,ho,hall⟩:=mem_ready.1 hj
  unfold Be at hd
  rw[ho]at hd
  obtain⟨e,he,hb⟩:=Array.any_eq_true'.1 hd
  simp only[bg,sL]at hb
  obtain⟨hb,hon⟩:=hb
  have h1:=Kz (hall e he hb)
  rcases hon with hon|hon
  rw[ba hon,hi]at h1;cases h1
  rw[h.dep hi f _ hon]at h1;cases h1
theorem za {i:Nat} {oi:Oper} (hC: ∀ w w',C w->Below w.heap.size w w'->C w') (h0: ∃ w,C w) (hi:ops[i]? =some oi) (hsel: ∀ (j:Nat) (o:Oper) cs b,ops[j]? =some o->o.op≠ .select cs b)
  (hiS:S.contains i=false) (hlp:pu.contains i=true->lo.contains i=false)
  (hB:pu.contains i=false-> ∀ j,S.contains j=true->Be md ops i 8 j=true)
  (hQ: ∀ c a w,¬ Q (.panic c) a w):
  ∀ (f:Nat) (listed:Array Bool) (a:Act) (Fc:iO),MX md ops listed->
   (∀ j oj,ops[j]? =some oj->j≠i->listed.getD j true=false->(∀ e∈oj.after,Region.binds md e=true->e.on≠i)->oi.apart ops oj=true)->
   i∈Region.ready md ops listed->zp P ops C lo pu spec i (IF P md ops C S lo pu spec Q f (listed.setIfInBounds i true)) a Fc->IF P md ops C S lo pu spec Q (f+1) listed a Fc:=by
 intro f
 induction f with
 |zero=>
  intro listed a Fc _ _ hr H
  refine⟨fun h=>(by rw[h]at hr;cases hr),fun j hj=> ?_⟩
  by_cases hji:j=i
  subst hji;rw[if_neg (by rw[hiS];simp)];exact H
  obtain⟨a',f',hk⟩:=N6 hC h0 H
  have:=ready_mono hj hji
  rw[hk.1]at this
  cases this
 |succ f ih=>
  intro listed a Fc hclo hfree hr H
  refine⟨fun h=>(by rw[h]at hr;cases hr),fun j hj=> ?_⟩
  by_cases hji:j=i
  subst hji;rw[if_neg (by rw[hiS];simp)];exact H
  obtain⟨hjun,oj,hoj,hall⟩:=mem_ready.1 hj
  have hnot: ∀ e∈oj.after,Region.binds md e=true->e.on≠i:=fun e he hb heq=>by
   have h1:=hall e he hb
   have h0:=(mem_ready.1 hr).1
   rw[heq]at h1
   rcases fC i listed.size with h'|h'
   simp[h']at h0 h1;rw[h0]at h1;cases h1
   simp[pV h']at h1
  have hapt:=hfree j oj hoj hji hjun hnot
  have hfree': ∀ k ok,ops[k]? =some ok->k≠i->(listed.setIfInBounds j true).getD k true=false->
    (∀ e∈ok.after,Region.binds md e=true->e.on≠i)->oi.apart ops ok=true:=fun k ok hk hki hun hno=>by
   refine hfree k ok hk hki ?_ hno
   by_cases hjk:j=k
   subst hjk;exact hjun
   rw[getD_set_ne true hjk]at hun;exact hun
  split
  rename_i hjS
  cases hp:pu.contains i with
  |false=>
   exact absurd hj (hclo.unready (mem_ready.1 hr).1 (hB hp j hjS))
  |true=>
   intro w hc hw
   have hy: ∃ v,Yields P ops oi v a/\IF P md ops C S lo pu spec Q (f+1) (listed.setIfInBounds i true) (a.put oi.dst v) Fc:=by
    unfold zp at H
    simp only[hi,hlp hp,hp,if_true,dh,if_false]at H
    by_cases hwi:Region.wanted oi (yielded ops a.tmps)=true
    simp only[hwi,if_true]at H
    obtain⟨v,e1,e2⟩:=H
    exact⟨v,.inl ⟨hwi,fun w=>e1 w trivial⟩,e2⟩
    simp only[hwi,dh,if_false]at H
    exact⟨undef,.inr ⟨by simpa using hwi,rfl⟩,H⟩
   obtain⟨v,hy,hG⟩:=hy
   have h1:=hG.2 j (ready_mono hj hji)
   rw[if_pos hjS]at h1
   have h2:=wpOp_put hoj hapt (fun cs b=>hsel i oi cs b hi) (fun cs b=>hsel j oj cs b hoj) (fun c a w h=>absurd h (hQ c _ w)) hy (h1 w hc hw)
   refine wpOp_mono (fun a' w' h3=>wpAny_first hi hsel (fun c a w h=>absurd h (hQ c _ w)) f (listed.setIfInBounds j true) a' w' hfree' (ready_mono hr (Ne.symm hji)) h3.1 ?_) h2
   rw[Array.setIfInBounds_comm _ _ hji]
   exact h3.2
  rename_i hjS
  have h1:zp P ops C lo pu spec i (zp P ops C lo pu spec j (IF P md ops C S lo pu spec Q f ((listed.setIfInBounds i true).setIfInBounds j true))) a Fc:=
   kr (fun a' f1 f2 h12 hk=>by
    have h4:=hk.2 j (ready_mono hj hji)
    rw[if_neg hjS]at h4
    exact kr (fun a'' g1 g2 hg hk'=>sM f _ a'' g1 g2 hg hk') h12 h4) (fun _ h=>h) H
  have h2:=N5 hC h0 (fun a f1 f2 h12 hk=>sM f _ a f1 f2 h12 hk) hi hoj hapt (fun cs b=>hsel i oi cs b hi) (fun cs b=>hsel j oj cs b hoj) h1
  refine kr (fun a' f1 f2 h12 h3=>ih (listed.setIfInBounds j true) a' f2 (hclo.put hj) hfree' (ready_mono hr (Ne.symm hji)) ?_) (fun _ h=>h) h2
  rw[Array.setIfInBounds_comm _ _ hji]
  exact kr (fun a f1 f2 hfg hk=>sM f _ a f1 f2 hfg hk) h12 h3
def DF (md:Region.Mode) (ops:Array Oper) (S pu lo:List Nat):List Nat->Array Bool->Bool
 |[],listed=>seqB S listed
 |i::r,listed=>(Region.ready md ops listed).contains i&&Region.free md ops listed i&&!S.contains i&&!(pu.contains i&&lo.contains i)&&
  (pu.contains i||S.all fun j=>Be md ops i 8 j)&&DF md ops S pu lo r (listed.setIfInBounds i true)
where seqB:List Nat->Array Bool->Bool
 |[],listed=>(Region.ready md ops listed).isEmpty
 |j::r,listed=>(match Region.ready md ops listed with|[k]=>eG k j|_=>false)&&seqB r (listed.setIfInBounds j true)
def AO (P:Program) (ops:Array Oper) (C:iO) (lo pu:List Nat) (spec:Nat->Value->iO) (T:Act->iO->Prop):List Nat->Act->iO->Prop
 |[],a,Fc=>T a Fc
 |i::r,a,Fc=>zp P ops C lo pu spec i (AO P ops C lo pu spec T r) a Fc
theorem Ej: ∀ (S:List Nat) (listed:Array Bool) (a:Act) (w:World),DF.seqB md ops S listed=true->wpOps P ops Q S a w->wpAny P md ops Q S.length listed a w
 |[],listed,a,w,hB,h=>⟨by simpa [DF.seqB]using hB,by simpa [wpOps]using h⟩
 |j::r,listed,a,w,hB,h=>by
  simp only[DF.seqB,bg]at hB
  obtain⟨h1,h2⟩:=hB
  split at h1
  rename_i k hk
  obtain rfl:=ba h1
  refine⟨fun h=>(by rw[hk]at h;cases h),fun i hi=> ?_⟩
  rw[hk]at hi
  obtain rfl:=aq.1 hi
  rw[wpOps_cons]at h
  exact wpOp_mono (fun a w h=>Ej r _ a w h2 h) h
  cases h1
theorem PT (S':List Nat) (hS: ∀ j∈S',S.contains j=true) (listed:Array Bool) (a:Act) (Fc:iO) (hB:DF.seqB md ops S' listed=true) (h: ∀ w,C w->Fc w->wpOps P ops Q S' a w):IF P md ops C S lo pu spec Q S'.length listed a Fc:=by
 cases S' with
 |nil=>exact⟨by simpa [DF.seqB]using hB,fun w hc hw=>by simpa [wpOps]using h w hc hw⟩
 |cons j r=>
  have hB':=hB
  simp only[DF.seqB,bg]at hB
  obtain⟨h1,h2⟩:=hB
  split at h1
  rename_i k hk
  obtain rfl:=ba h1
  refine⟨fun h=>(by rw[hk]at h;cases h),fun i hi=> ?_⟩
  rw[hk]at hi
  obtain rfl:=aq.1 hi
  rw[if_pos (hS i (aA ..))]
  intro w hc hw
  have:=h w hc hw
  rw[wpOps_cons]at this
  exact wpOp_mono (fun a w h=>Ej r _ a w h2 h) this
  cases h1
theorem J7 (hC: ∀ w w',C w->Below w.heap.size w w'->C w') (h0: ∃ w,C w) (hsel: ∀ (j:Nat) (o:Oper) cs b,ops[j]? =some o->o.op≠ .select cs b) (hQ: ∀ c a w,¬ Q (.panic c) a w):
  ∀ (ord:List Nat) (listed:Array Bool) (a:Act) (Fc:iO),MX md ops listed->DF md ops S pu lo ord listed=true->AO P ops C lo pu spec (fun a' F'=> ∀ w,C w->F' w->wpOps P ops Q S a' w) ord a Fc->
   IF P md ops C S lo pu spec Q (ord.length+S.length) listed a Fc
 |[],listed,a,Fc,_,hB,h=>by
  have:=PT (P:=P) (C:=C) (S:=S) (lo:=lo) (pu:=pu) (spec:=spec) (Q:=Q) S (fun j hj=>by simpa using hj) listed a Fc hB h
  simpa using this
 |i::r,listed,a,Fc,hclo,hB,h=>by
  simp only[DF,bg]at hB
  obtain⟨⟨⟨⟨⟨hr,hf⟩,hS⟩,hl⟩,hw⟩,hB'⟩:=hB
  have hi: ∃ oi,ops[i]? =some oi:=by
   cases ho:ops[i]? with
   |none=>unfold AO zp at h;simp only[ho]at h
   |some o=>exact⟨o,rfl⟩
  obtain⟨oi,hi⟩:=hi
  have:=za (P:=P) (C:=C) (S:=S) (lo:=lo) (pu:=pu) (spec:=spec) (Q:=Q) (md:=md) hC h0 hi hsel (by simpa using hS) (fun hp=>by rw[hp]at hl;simpa using hl) (fun hp j hjS=>by
    rw[hp]at hw
    simp only[Bool.false_or]at hw
    exact eD.1 hw j (by simpa using hjS)) hQ (r.length+S.length) listed a Fc hclo (Region.free_spec hi hf) (by simpa using hr)
   (kr (fun a' f1 f2 h12 hk=>sM _ _ a' f1 f2 h12 (J7 hC h0 hsel hQ r _ a' f1 (hclo.put (by simpa using hr)) hB' hk)) (fun _ h=>h) h)
  have e:(i::r).length+S.length=r.length+S.length+1:=by simp only[bf];omega
  rw[e]
  exact this
end
def pp (w:World):iO:=fun w'=>Below w.heap.size w w'
theorem pp.closed {w:World}: ∀ w1 w2,pp w w1->Below w1.heap.size w1 w2->pp w w2:=fun _ _ h hb=>h.trans (hb.mono h.size)
section
variable {P:Program} {n:Nat} {Q:ig} {ρ:gV} {w:World} {ops:Array Oper}
def AW (P:Program) (n:Nat) (ops:Array Oper) (C:iO) (lo pu:List Nat) (spec:Nat->Value->iO) (T:gV->iO->Prop) (l:List Nat) (ρ:gV) (Fc:iO):Prop:=
 ∀ a,St n ρ a->AO P ops C lo pu spec (fun a' F'=> ∃ ρ',St n ρ' a'/\T ρ' F') l a Fc
def pick (ops:Array Oper) (S:List Nat):List Oper:=S.filterMap (ops[·]?)
theorem tw {Q':Exit->Act->World->Prop}: ∀ (S:List Nat),(S.all fun i=>(ops[i]?).isSome)=true->wpOps P ops Q' S=wpList P ops Q' (pick ops S)
 |[],_=>by funext a w;simp[wpOps,pick,wpList]
 |i::r,h=>by
  simp only[List.all_cons,bg]at h
  obtain⟨o,ho⟩:=Option.isSome_iff_exists.1 h.1
  have ih:=tw (Q':=Q') r h.2
  funext a w
  simp only[pick]at ih
  simp only[wpOps,ho,pick,List.filterMap_cons,wpList,ih]
theorem bG {id:Nat} {l:List Oper} (hm:P.follows .mixedOrders=true) (ord S lo pu:List Nat) (spec:Nat->Value->iO) (hn:Region.noSelect l.toArray=true) (hB:DF .any l.toArray S pu lo ord (fU l.toArray.size false)=true)
  (hS:(S.all fun i=>(l.toArray[i]?).isSome)=true) (hl:eG (ord.length+S.length) l.length=true) (hQ: ∀ c ρ w,¬ Q (.panic c) ρ w) (hsp: ∀ i v w1 w2,pp w w1->Below w1.heap.size w1 w2->spec i v w1->spec i v w2)
  (h:AW P n l.toArray (pp w) lo pu spec (fun ρ' F'=> ∀ w',pp w w'->F' w'->LW P n l.toArray (pick l.toArray S) Q ρ' w') ord ρ (fun _=>True)):CW P n (.region id l.toArray true) Q ρ w:=fun a ha=>by
 refine wp_region_any hm ?_
 have hlen:l.toArray.size=ord.length+S.length:=by
  have:=ba hl
  simpa using this.symm
 have hc0:pp w {w with drawn:=w.drawn+1}:=(Below.refl w.heap.size w).drew
 have hG:=J7 (P:=P) (ops:=l.toArray) (md:=.any) (C:=pp w) (S:=S) (lo:=lo) (pu:=pu) (spec:=spec) (Q:=EP n Q) pp.closed ⟨_,hc0⟩ (Region.noSelect_spec hn) (fun c a w ⟨ρ,_,hq⟩=>hQ c ρ w hq)
  ord (fU l.toArray.size false) a (fun _=>True) (fun k ok hk hl=>by
   have hlt:=(ux.1 hk).1
   simp only[dK]at hlt
   simp[hlt]at hl) hB ?_
 rw[hlen]
 rw[hlen]at hG
 exact kS pp.closed (fun i v w1 w2 h1 h2 h3=>hsp i v w1 w2 h1 h2 h3) _ _ _ _ (fun _ _ _ _ _=>trivial) hG _ hc0 trivial
 have:=h a ha
 have key: ∀ (ord:List Nat) (a:Act) (Fc:iO),AO P l.toArray (pp w) lo pu spec (fun a' F'=> ∃ ρ',St n ρ' a'/\ ∀ w',pp w w'->F' w'->LW P n l.toArray (pick l.toArray S) Q ρ' w') ord a Fc->
   AO P l.toArray (pp w) lo pu spec (fun a' F'=> ∀ w',pp w w'->F' w'->wpOps P l.toArray (EP n Q) S a' w') ord a Fc:=by
  intro ord
  induction ord with
  |nil=>
   intro a Fc ⟨ρ',hs,hk⟩ w' h1 h2
   rw[tw S hS]
   exact hk w' h1 h2 a hs
  |cons i r ih=>
   intro a Fc hk
   exact kr (fun a f1 f2 h12 hk=>ih a f2 (by
    have mono: ∀ (r:List Nat) a f1 f2,(∀ w,f2 w->f1 w)->AO P l.toArray (pp w) lo pu spec (fun a' F'=> ∃ ρ',St n ρ' a'/\ ∀ w',pp w w'->F' w'->LW P n l.toArray (pick l.toArray S) Q ρ' w') r a f1->AO P l.toArray (pp w) lo pu spec (fun a' F'=> ∃ ρ',St n ρ' a'/\ ∀ w',pp w w'->F' w'->LW P n l.toArray (pick l.toArray S) Q ρ' w') r a f2:=by
     intro r
     induction r with
     |nil=>intro a f1 f2 h12 ⟨ρ',hs,hk⟩;exact⟨ρ',hs,fun w' h1 h2=>hk w' h1 (h12 _ h2)⟩
     |cons i r ih=>intro a f1 f2 h12 hk;exact kr (fun a f1 f2 h12 hk=>ih a f1 f2 h12 hk) h12 hk
    exact mono r a f1 f2 h12 hk)) (fun _ h=>h) hk
 exact key ord a _ this
end
end
section
def kf (ops:Array Oper) (ρ:gV) (o:Oper):Bool:=
 match o.guard with
 |none=>true
 |some (j,b)=>match ops[j]? with
  |some o'=>match o'.dst with
   |some d=>match ρ d with
    |.bool b'=>b'==b
    |_=>false
   |none=>false
  |none=>false
abbrev Og (dst:Option Nat) (op:Op) (t:TypeId) (p:String) (af:Array Edge) (g:Option (Nat×Bool)):Oper:={dst:=dst,op:=op,type:=t,pos:=p,after:=af,guard:=g}
def cut (A:Option Addr) (cap l sz:Nat):Option Addr:=if cap=l then A else A.map (·.add (l*sz))
theorem s9 {A:Option Addr} {cap l len sz:Nat} (h:len<=cap):xW A (cut A cap l sz) l len sz:=fun hlt b o hA=>by
 subst hA
 unfold cut
 rw[if_neg (by omega)]
 simp[Addr.add_lit]
section
variable {P:Program} {n:Nat} {Q:ig} {ρ:gV} {w:World} {ops:Array Oper} {rest:List Oper} {d:Nat} {t:TypeId} {p:String} {af:Array Edge} {g:Option (Nat×Bool)} {dst:Option Nat}
theorem St.wants {a:Act} (ha:St n ρ a) (o:Oper):Region.wanted o (Go.yielded ops a.tmps)=kf ops ρ o:=by
 unfold Region.wanted kf
 cases hg:o.guard with
 |none=>rfl
 |some q=>
  obtain⟨j,b⟩:=q
  simp only
  cases hj:ops[j]? with
  |none=>simp[Go.yielded,hj]
  |some o'=>
   simp only
   cases hd:o'.dst with
   |none=>simp[Go.yielded,hj,hd]
   |some dj=>
    simp only
    have hgt:=ha.get dj
    simp only[Go.yielded,hj,cQ,hd]
    rw[cZ]at hgt
    cases h:a.tmps[dj]? with
    |none=>
     rw[h]at hgt
     simp only[Option.getD_none]at hgt
     rw[<-hgt]
     rfl
    |some v=>
     rw[h]at hgt
     simp only[qW]at hgt
     subst hgt
     cases hv:ρ dj<;>simp[BEq.comm]
theorem vd {o:Oper} (hw:kf ops ρ o=true) (h:LW P n ops ({o with guard:=none}::rest) Q ρ w):LW P n ops (o::rest) Q ρ w:=fun a ha=>by
 have:=h a ha
 unfold wpList at this⊢
 rw[ha.wants o,hw]
 have hw':Region.wanted {o with guard:=none} (Go.yielded ops a.tmps)=true:=rfl
 rw[hw']at this
 exact this
theorem sV {o:Oper} (hw:kf ops ρ o=false) (hd:o.dst=some d) (hdn:aQ d n=true) (h:LW P n ops rest Q (fB ρ d undef) w):LW P n ops (o::rest) Q ρ w:=fun a ha=>by
 refine wpList_skip (by rw[ha.wants o,hw]) ?_
 rw[hd]
 exact h _ (ha.put hdn _)
theorem iG {x:Operand} {v:Value} (hx:ev ρ x=v):(execOp (ev ρ) (Og dst (.move x) t p af g)).run P w=.ok (.value v) w:=by simp[execOp,hx]
theorem MJ {x:Operand} {v:Value} (hx:ev ρ x=v):(execOp (ev ρ) (Og dst (.assign x) t p af g)).run P w=.ok (.value v) w:=by simp[execOp,hx]
theorem cI {x y:Operand} {ty ty':TypeId} {k:IntKind} {a b:Int} (hx:ev ρ x=.int k a) (hy:ev ρ y=.int k b):(execOp (ev ρ) (Og dst (.binOp .lss ty x y ty') t p af g)).run P w=.ok (.value (.bool (decide (a<b)))) w:=by simp[execOp,hx,hy,eqGuard,binOp,Op.intCmp]
theorem Kv {x y:Operand} {ty ty':TypeId} {k:IntKind} {a b:Int} (hx:ev ρ x=.int k a) (hy:ev ρ y=.int k b):(execOp (ev ρ) (Og dst (.binOp .leq ty x y ty') t p af g)).run P w=.ok (.value (.bool (decide (a<=b)))) w:=by simp[execOp,hx,hy,eqGuard,binOp,Op.intCmp]
theorem nC {x y:Operand} {ty ty':TypeId} {k:IntKind} {a b:Int} (hx:ev ρ x=.int k a) (hy:ev ρ y=.int k b):(execOp (ev ρ) (Og dst (.binOp .gtr ty x y ty') t p af g)).run P w=.ok (.value (.bool (decide (b<a)))) w:=by simp[execOp,hx,hy,eqGuard,binOp,Op.intCmp]
theorem pN {x y:Operand} {ty ty':TypeId} {k:IntKind} {a b:Int} (hx:ev ρ x=.int k a) (hy:ev ρ y=.int k b):(execOp (ev ρ) (Og dst (.binOp .geq ty x y ty') t p af g)).run P w=.ok (.value (.bool (decide (b<=a)))) w:=by simp[execOp,hx,hy,eqGuard,binOp,Op.intCmp]
theorem cr {x y:Operand} {ty ty':TypeId} {k:IntKind} {a b:Int} (hx:ev ρ x=.int k a) (hy:ev ρ y=.int k b):(execOp (ev ρ) (Og dst (.binOp .eql ty x y ty') t p af g)).run P w=.ok (.value (.bool (decide (a=b)))) w:=by
 simp[execOp,hx,hy,eqGuard,binOp,Op.intCmp];try rfl
theorem jv {x y:Operand} {ty ty':TypeId} {k:IntKind} {a b:Int} (hx:ev ρ x=.int k a) (hy:ev ρ y=.int k b):(execOp (ev ρ) (Og dst (.binOp .neq ty x y ty') t p af g)).run P w=.ok (.value (.bool (!decide (a=b)))) w:=by
 simp[execOp,hx,hy,eqGuard,binOp,Op.intCmp];try rfl
theorem bn {x y:Operand} {ty ty':TypeId} {a b:Int} (hx:ev ρ x=.int .i64 a) (hy:ev ρ y=.int .i64 b) (h1: -9000000000000000000<=a+b) (h2:a+b<=9000000000000000000):(execOp (ev ρ) (Og dst (.binOp .add ty x y ty') t p af g)).run P w=.ok (.value (.int .i64 (a+b))) w:=by simp[execOp,hx,hy,eqGuard,binOp,Op.intArith,wO h1 h2]
theorem qt {x y:Operand} {ty ty':TypeId} {a b:Int} (hx:ev ρ x=.int .i64 a) (hy:ev ρ y=.int .i64 b) (h1: -9000000000000000000<=a-b) (h2:a-b<=9000000000000000000):(execOp (ev ρ) (Og dst (.binOp .sub ty x y ty') t p af g)).run P w=.ok (.value (.int .i64 (a-b))) w:=by simp[execOp,hx,hy,eqGuard,binOp,Op.intArith,wO h1 h2]
theorem d9 {x:Operand} {ty:TypeId} {b:Bool} (hx:ev ρ x=.bool b):(execOp (ev ρ) (Og dst (.unOp .not ty x) t p af g)).run P w=.ok (.value (.bool (!b))) w:=by simp[execOp,hx,Op.unary]
theorem NX {c x y:Operand} {v:Value} (hc:ev ρ c=.bool true) (hx:ev ρ x=v):(execOp (ev ρ) (Og dst (.pick c x y) t p af g)).run P w=.ok (.value v) w:=by simp[execOp,hc,hx,asBool]
theorem Km {c x y:Operand} {v:Value} (hc:ev ρ c=.bool false) (hy:ev ρ y=v):(execOp (ev ρ) (Og dst (.pick c x y) t p af g)).run P w=.ok (.value v) w:=by simp[execOp,hc,hy,asBool]
theorem Mr {x:Operand} {i:Nat} {vs:List Value} {v:Value} (hx:ev ρ x=.tuple vs.toArray) (hi:vs[i]? =some v):(execOp (ev ρ) (Og dst (.extract x i) t p af g)).run P w=.ok (.value v) w:=by simp[execOp,hx,Instr.extract,hi]
theorem aM {x:Operand} {a:Addr} (hx:ev ρ x=.pointer (some a)):(execOp (ev ρ) (Og dst (.nilCheck x) t p af g)).run P w=.ok (.value (.pointer (some a))) w:=by simp[execOp,hx]
theorem TY {x:Operand} {T f off b o:Nat} (hf:cn P T f off=true) (hx:ev ρ x=.pointer (some ⟨b,o,none⟩)):(execOp (ev ρ) (Og dst (.fieldAddr T x f) t p af g)).run P w=.ok (.value (.pointer (some ⟨b,o+off,none⟩))) w:=by
 obtain⟨fs,q,i,h1,h2,h3,h4,h5⟩:=HX hf
 simp only[execOp,hx,Instr.fieldAt,Sem.run_bind,run_underlying h1,Result.andThen_ok,h2,Instr.sureAddr,Sem.run_pure,fieldPlace,fV h4,h5,if_false,h3,Addr.add_lit]
theorem yr {x y:Operand} {T E sz b o l c:Nat} {k:IntKind} {i:Int} (hT:ek P T E sz=true) (hx:ev ρ x=.slice (some ⟨b,o,none⟩) l c) (hy:ev ρ y=.int k i) (h0:0<=i) (hl:i<l):(execOp (ev ρ) (Og dst (.indexAddr T x y) t p af g)).run P w=.ok (.value (.pointer (some ⟨b,o+i.toNat*sz,none⟩))) w:=by
 obtain⟨h1,j,h2,h3⟩:=fe hT
 simp only[execOp,hx,hy,Instr.indexAt,asIntOf,Sem.run_bind,run_underlying h1,Result.andThen_ok,Sem.run_pure]
 simp[h0,hl,fV h2,h3,Addr.add_lit]
theorem bd {x:Operand} {T:TypeId} {a:Addr} {v:Value} (hT:qx P T=true) (hx:ev ρ x=.pointer (some a)) (hc:w.cell? a=some v):(execOp (ev ρ) (Og dst (.load T x) t p af g)).run P w=.ok (.value v) w:=by
 simp only[execOp,hx,Instr.loadAt,Instr.sureAddr,Sem.run_bind,Sem.run_pure,Result.andThen_ok,Ae hT hc]
theorem jF {x:Operand} {T sz b o:Nat} {xs:List Value} (hT:lO P T sz=true) (hx:ev ρ x=.pointer (some ⟨b,o,none⟩)) (hl:xs.length=sz) (hc: ∀ j v,xs[j]? =some v->w.cell? ⟨b,o+j,none⟩=some v):(execOp (ev ρ) (Og dst (.load T x) t p af g)).run P w=.ok (.value (.agg xs.toArray)) w:=by
 simp only[execOp,hx,Instr.loadAt,Instr.sureAddr,Sem.run_bind,Sem.run_pure,Result.andThen_ok,i6 hT hl (fun j v hj=>by rw[Addr.add_lit];exact hc j v hj)]
theorem bl {x:Operand} {T:TypeId} {A:Option Addr} {l c:Nat} (hT:p6 P T=true) (hx:ev ρ x=.slice A l c):(execOp (ev ρ) (Og dst (.call {callee:=.builtin .len,args:= #[x],argTypes:= #[T]}) t p af g)).run P w=.ok (.value (.int .i64 l)) w:=by
 unfold p6 at hT
 split at hT
 rename_i e hu
 simp[execOp,resolve,invoke,builtin,Builtin.len_,hx,run_underlying hu,goInt]
 cases hT
theorem pY {x lo:Operand} {T E sz:Nat} {A:Option Addr} {len cap:Nat} {k:IntKind} {i:Int} (hT:ek P T E sz=true) (hx:ev ρ x=.slice A len cap) (hl:ev ρ lo=.int k i) (h0:0<=i) (h1:i<=len):(execOp (ev ρ) (Og dst (.slice T x (some lo) none none) t p af g)).run P w=.ok (.value (.slice (cut A cap i.toNat sz) (len-i.toNat) (cap-i.toNat))) w:=by
 obtain⟨hu,j,h2,h3⟩:=fe hT
 simp only[execOp,Instr.sliceAt,dA,jA,hx,hl,Sem.run_bind,run_underlying hu,Result.andThen_ok,Instr.slice,Instr.sliceBounds,Instr.sliceBound,asIntOf,Sem.run_pure]
 simp[h0,h1,fV h2,h3,cut]
theorem FA {x hi:Operand} {T E sz:Nat} {A:Option Addr} {len cap:Nat} {k:IntKind} {i:Int} (hT:ek P T E sz=true) (hx:ev ρ x=.slice A len cap) (hl:ev ρ hi=.int k i) (h0:0<=i) (h1:i<=cap):(execOp (ev ρ) (Og dst (.slice T x none (some hi) none) t p af g)).run P w=.ok (.value (.slice (cut A cap 0 sz) i.toNat cap)) w:=by
 obtain⟨hu,j,h2,h3⟩:=fe hT
 simp only[execOp,Instr.sliceAt,dA,jA,hx,hl,Sem.run_bind,run_underlying hu,Result.andThen_ok,Instr.slice,Instr.sliceBounds,Instr.sliceBound,asIntOf,Sem.run_pure]
 simp[h0,h1,fV h2,h3,cut]
theorem E5 {x:Operand} {S T:TypeId} {k k':IntKind} {a b:Int} (hS:pB P S k=true) (hT:pB P T k'=true) (hx:ev ρ x=.int k a) (hw:k'.wrap a=b):(execOp (ev ρ) (Og dst (.convert S T x) t p af g)).run P w=.ok (.value (.int k' b)) w:=by
 unfold pB at hS hT
 split at hS
 rename_i k1 h1
 split at hT
 rename_i k2 h2
 have:=of_decide_eq_true hT
 subst this
 simp[execOp,convert,hx,run_underlying h1,run_underlying h2,Conv.intToInt,hw]
 cases hT
 cases hS
theorem xB {x y:Operand} {ty ty':TypeId} {k:IntKind} {a b:Int} (hx:ev ρ x=.int k a) (hy:ev ρ y=.int k b) (hp:a<b):(execOp (ev ρ) (Og dst (.binOp .lss ty x y ty') t p af g)).run P w=.ok (.value (.bool true)) w:=by rw[cI hx hy];simp[hp]
theorem cV {x y:Operand} {ty ty':TypeId} {k:IntKind} {a b:Int} (hx:ev ρ x=.int k a) (hy:ev ρ y=.int k b) (hp: ¬ a<b):(execOp (ev ρ) (Og dst (.binOp .lss ty x y ty') t p af g)).run P w=.ok (.value (.bool false)) w:=by rw[cI hx hy];simp[hp]
theorem Sf {x y:Operand} {ty ty':TypeId} {k:IntKind} {a b:Int} (hx:ev ρ x=.int k a) (hy:ev ρ y=.int k b) (hp:a<=b):(execOp (ev ρ) (Og dst (.binOp .leq ty x y ty') t p af g)).run P w=.ok (.value (.bool true)) w:=by rw[Kv hx hy];simp[hp]
theorem OA {x y:Operand} {ty ty':TypeId} {k:IntKind} {a b:Int} (hx:ev ρ x=.int k a) (hy:ev ρ y=.int k b) (hp: ¬ a<=b):(execOp (ev ρ) (Og dst (.binOp .leq ty x y ty') t p af g)).run P w=.ok (.value (.bool false)) w:=by rw[Kv hx hy];simp[hp]
theorem Jz {x y:Operand} {ty ty':TypeId} {k:IntKind} {a b:Int} (hx:ev ρ x=.int k a) (hy:ev ρ y=.int k b) (hp:b<a):(execOp (ev ρ) (Og dst (.binOp .gtr ty x y ty') t p af g)).run P w=.ok (.value (.bool true)) w:=by rw[nC hx hy];simp[hp]
theorem dX {x y:Operand} {ty ty':TypeId} {k:IntKind} {a b:Int} (hx:ev ρ x=.int k a) (hy:ev ρ y=.int k b) (hp: ¬ b<a):(execOp (ev ρ) (Og dst (.binOp .gtr ty x y ty') t p af g)).run P w=.ok (.value (.bool false)) w:=by rw[nC hx hy];simp[hp]
theorem Sm {x y:Operand} {ty ty':TypeId} {k:IntKind} {a b:Int} (hx:ev ρ x=.int k a) (hy:ev ρ y=.int k b) (hp:b<=a):(execOp (ev ρ) (Og dst (.binOp .geq ty x y ty') t p af g)).run P w=.ok (.value (.bool true)) w:=by rw[pN hx hy];simp[hp]
theorem nP {x y:Operand} {ty ty':TypeId} {k:IntKind} {a b:Int} (hx:ev ρ x=.int k a) (hy:ev ρ y=.int k b) (hp: ¬ b<=a):(execOp (ev ρ) (Og dst (.binOp .geq ty x y ty') t p af g)).run P w=.ok (.value (.bool false)) w:=by rw[pN hx hy];simp[hp]
theorem sw {x y:Operand} {ty ty':TypeId} {k:IntKind} {a b:Int} (hx:ev ρ x=.int k a) (hy:ev ρ y=.int k b) (hp:a=b):(execOp (ev ρ) (Og dst (.binOp .eql ty x y ty') t p af g)).run P w=.ok (.value (.bool true)) w:=by rw[cr hx hy];simp[hp]
theorem me {x y:Operand} {ty ty':TypeId} {k:IntKind} {a b:Int} (hx:ev ρ x=.int k a) (hy:ev ρ y=.int k b) (hp: ¬ a=b):(execOp (ev ρ) (Og dst (.binOp .eql ty x y ty') t p af g)).run P w=.ok (.value (.bool false)) w:=by rw[cr hx hy];simp[hp]
theorem l9 {x y:Operand} {ty ty':TypeId} {k:IntKind} {a b:Int} (hx:ev ρ x=.int k a) (hy:ev ρ y=.int k b) (hp: ¬ a=b):(execOp (ev ρ) (Og dst (.binOp .neq ty x y ty') t p af g)).run P w=.ok (.value (.bool true)) w:=by rw[jv hx hy];simp[hp]
theorem cj {x y:Operand} {ty ty':TypeId} {k:IntKind} {a b:Int} (hx:ev ρ x=.int k a) (hy:ev ρ y=.int k b) (hp:a=b):(execOp (ev ρ) (Og dst (.binOp .neq ty x y ty') t p af g)).run P w=.ok (.value (.bool false)) w:=by rw[jv hx hy];simp[hp]
variable {C:iO} {lo pu:List Nat} {spec:Nat->Value->iO} {T:gV->iO->Prop} {r:List Nat} {Fc:iO} {i:Nat} {o:Oper}
theorem aT (h:T ρ Fc):AW P n ops C lo pu spec T [] ρ Fc:=fun _ ha=>⟨ρ,ha,h⟩
theorem aw {v:Value} (hi:ops[i]? =some o) (hw:kf ops ρ o=true) (hl:lo.contains i=false) (hd:o.dst=some d) (hdn:aQ d n=true) (hr: ∀ w',(bif pu.contains i then True else C w')->(execOp (ev ρ) o).run P w'=.ok (.value v) w')
  (h:AW P n ops C lo pu spec T r (fB ρ d v) Fc):AW P n ops C lo pu spec T (i::r) ρ Fc:=fun a ha=>by
 unfold AO zp
 simp only[hi,ha.wants o,hw,if_true,hl,dh,if_false]
 refine⟨v,fun w' hc=> ?_,by rw[hd];exact h _ (ha.put hdn v)⟩
 rw[ha.eval]
 refine hr w' ?_
 cases hp:pu.contains i
 rw[hp]at hc;exact hc
 trivial
theorem eW (hi:ops[i]? =some o) (hw:kf ops ρ o=false) (hd:o.dst=some d) (hdn:aQ d n=true) (h:AW P n ops C lo pu spec T r (fB ρ d undef) Fc):AW P n ops C lo pu spec T (i::r) ρ Fc:=fun a ha=>by
 unfold AO zp
 simp only[hi,ha.wants o,hw,dh,if_false]
 rw[hd]
 exact h _ (ha.put hdn _)
theorem Tt (hi:ops[i]? =some o) (hw:kf ops ρ o=true) (hl:lo.contains i=true) (hd:o.dst=some d) (hdn:aQ d n=true)
  (hr: ∀ a,St n ρ a-> ∀ w',C w'->M0 P o a (spec i) w') (h: ∀ v,(∃ w',C w'/\spec i v w')->AW P n ops C lo pu spec T r (fB ρ d v) (fun w=>Fc w/\spec i v w)):AW P n ops C lo pu spec T (i::r) ρ Fc:=fun a ha=>by
 unfold AO zp
 simp only[hi,ha.wants o,hw,if_true,hl]
 exact⟨hr a ha,fun v hv=>by rw[hd];exact h v hv _ (ha.put hdn v)⟩
theorem AE {f:FuncId} {xs:List Operand} {ats:Array TypeId} {vs:List Value} (hf:bh P f=true) (hi:ops[i]? =some (Og (some d) (.call {callee:=.value (.func f),args:=xs.toArray,argTypes:=ats}) t p af g)) (hw:kf ops ρ (Og (some d) (.call {callee:=.value (.func f),args:=xs.toArray,argTypes:=ats}) t p af g)=true) (hl:lo.contains i=true) (hdn:aQ d n=true)
  (hc: ∀ w',C w'->di P f vs w' fun v w2=>Below w'.heap.size w' w2/\spec i v w2) (hv:xs.map (ev ρ)=vs)
  (h: ∀ v,(∃ w',C w'/\spec i v w')->AW P n ops C lo pu spec T r (fB ρ d v) (fun w=>Fc w/\spec i v w)):AW P n ops C lo pu spec T (i::r) ρ Fc:=
 Tt hi hw hl rfl hdn (fun a ha w' hcw=>by
  unfold M0
  have hr:(execOp a.eval (Og (some d) (.call {callee:=.value (.func f),args:=xs.toArray,argTypes:=ats}) t p af g)).run P w'=.ok (.enter f vs.toArray) w':=by
   rw[ha.eval];subst hv
   simp[execOp,resolve,ev,Deferred.ofValue,invoke,p5 hf]
  rw[hr]
  exact⟨rfl,Calls.mono (hc w' hcw) fun e w2 ⟨v,he,hb,hs⟩=>⟨v,he,hb,hs⟩⟩) h
theorem RL {T':TypeId} {z:Value} (hz:(P.info? T').bind (·.zero)=some z) (hi:ops[i]? =some (Og (some d) (.alloc T') t p af g)) (hw:kf ops ρ (Og (some d) (.alloc T') t p af g)=true) (hl:lo.contains i=true) (hdn:aQ d n=true)
  (hs: ∀ w' w2 b,C w'->w'.heap.size<=b->w2.heap[b]? =some (.cells z.cells T' (0,0))->spec i (.pointer (some ⟨b,0,none⟩)) w2)
  (h: ∀ v,(∃ w',C w'/\spec i v w')->AW P n ops C lo pu spec T r (fB ρ d v) (fun w=>Fc w/\spec i v w)):AW P n ops C lo pu spec T (i::r) ρ Fc:=
 Tt hi hw hl rfl hdn (fun a _ w' hcw=>by
  unfold M0
  have hr:(execOp a.eval (Og (some d) (.alloc T') t p af g)).run P w'=.ok (.value (.pointer (some ⟨w'.heap.size,0,none⟩))) (w'.alloc (.cells z.cells T')):=by
   cases hii:P.info? T' with
   |none=>rw[hii]at hz;cases hz
   |some ii=>
    rw[hii]at hz
    simp only[cQ]at hz
    simp only[execOp,Instr.alloc,zeroValue,kV hii,hz,newVar,newRow,newObj,Sem.run_bind,Sem.run_pure,Result.andThen_ok]
    rfl
  rw[hr]
  exact⟨(Below.refl _ _).alloc (ap _) _,hs w' _ _ hcw (ap _) (heap_alloc_new w' _)⟩) h
end
structure Sp where
 V:Value->iO
 st: ∀ v w1 w2,Below w1.heap.size w1 w2->V v w1->V v w2
def sp (l:List (Nat×Sp)) (i:Nat) (v:Value):iO:=match l.find? (fun q=>eG q.1 i)with
 |some q=>q.2.V v
 |none=>fun _=>True
theorem cG {w:World} (l:List (Nat×Sp)): ∀ i v w1 w2,pp w w1->Below w1.heap.size w1 w2->sp l i v w1->sp l i v w2:=fun i v w1 w2 _ hb h=>by
 unfold sp at*
 cases hq:l.find? (fun q=>eG q.1 i)with
 |none=>trivial
 |some q=>rw[hq]at h;exact q.2.st v w1 w2 hb h
def Sp.one (u:Value):Sp:=⟨fun v _=>v=u,fun _ _ _ _ h=>h⟩
def Sp.blk (lo:Nat) (z:Value) (T:TypeId):Sp:=⟨fun v w=> ∃ b,v=.pointer (some ⟨b,0,none⟩)/\lo<=b/\w.heap[b]? =some (.cells z.cells T (0,0)),fun _ _ _ hb ⟨b,h1,h2,h3⟩=>⟨b,h1,h2,(hb.block b (bX h3)).trans h3⟩⟩
end
section
section
variable {P:Program} {n:Nat} {Q:ig} {ρ:gV} {w:World} {ops:Array Oper} {rest:List Oper} {d:Nat} {t:TypeId} {p:String} {af:Array Edge}
variable {w0:World} {L:List (Nat×Obj)} {F:List cf}
def pz (cs:Array Value) (o:Nat) (new:List Value):Array Value:=(cs.toList.take o++new++cs.toList.drop (o+new.length)).toArray
theorem QR (cs:Array Value) (new:List Value) (h:cs.size=new.length):pz cs 0 new=new.toArray:=by
 unfold pz
 rw[AJ,jC,eE (by simp[h]),aP]
theorem Tm (H:Hp w0 w L F) (i:Nat) {x y:Operand} {T:TypeId} {b o sz:Nat} {cs:Array Value} {tt:TypeId} {v:Value} (hT:(P.info? T).map (·.size)=some sz) (hx:ev ρ x=.pointer (some ⟨b,o,none⟩)) (hy:ev ρ y=v) (hi:L[i]? =some (b,.cells cs tt (0,0)))
  (hs:v.cells.size=sz) (hf:o+sz<=cs.size) (h1:v.cells.toList.all (·.oneCell')=true)
  (h: ∀ w',Hp w0 w' (L.set i (b,.cells (pz cs o v.cells.toList) tt)) F->LW P n ops rest Q ρ w'):LW P n ops ({dst:=none,op:=.store T x y,type:=t,pos:=p,after:=af,guard:=none}::rest) Q ρ w:=
 Uk H i hT hx hy hi hs hf h1 fun w' h'=>h w' (by unfold pz;rw[ch,hs];exact h')
theorem PO (H:Hp w0 w L F) (i:Nat) {x y:Operand} {T:TypeId} {b sz:Nat} {cs:Array Value} {tt:TypeId} {c2:Array Value} (hT:(P.info? T).map (·.size)=some sz) (hx:ev ρ x=.pointer (some ⟨b,0,none⟩)) (hy:ev ρ y=.agg c2) (hi:L[i]? =some (b,.cells cs tt (0,0)))
  (hs:c2.size=sz) (hf:cs.size=sz) (h1:c2.toList.all (·.oneCell')=true)
  (h: ∀ w',Hp w0 w' (L.set i (b,.cells c2 tt)) F->LW P n ops rest Q ρ w'):LW P n ops ({dst:=none,op:=.store T x y,type:=t,pos:=p,after:=af,guard:=none}::rest) Q ρ w:=
 Tm H i hT hx hy hi hs (by omega) h1 fun w' h'=>h w' (by
  have e:pz cs 0 (Value.agg c2).cells.toList=c2:=QR cs _ (by simp[Value.cells,hs,hf])
  rw[e]at h';exact h')
theorem To (H:Hp w0 w L F) (i:Nat) {x y:Operand} {T:TypeId} {b o:Nat} {cs:Array Value} {tt:TypeId} {v:Value} (hT:(P.info? T).map (·.size)=some 1) (hx:ev ρ x=.pointer (some ⟨b,o,none⟩)) (hy:ev ρ y=v) (hi:L[i]? =some (b,.cells cs tt (0,0)))
  (hs:v.cells= #[v]) (hf:o<cs.size) (h1:v.oneCell'=true)
  (h: ∀ w',Hp w0 w' (L.set i (b,.cells (pz cs o [v]) tt)) F->LW P n ops rest Q ρ w'):LW P n ops ({dst:=none,op:=.store T x y,type:=t,pos:=p,after:=af,guard:=none}::rest) Q ρ w:=
 Tm H i hT hx hy hi (by rw[hs];rfl) (by omega) (by rw[hs];simpa using h1) fun w' h'=>h w' (by rw[hs]at h';exact h')
theorem Tn (H:Hp w0 w L F) (i:Nat) {x y:Operand} {T:TypeId} {b o:Nat} {cs:Array Value} {tt:TypeId} {k:IntKind} {m:Int} (hT:(P.info? T).map (·.size)=some 1) (hx:ev ρ x=.pointer (some ⟨b,o,none⟩)) (hy:ev ρ y=.int k m) (hi:L[i]? =some (b,.cells cs tt (0,0))) (hf:o<cs.size)
 (h: ∀ w',Hp w0 w' (L.set i (b,.cells (pz cs o [.int k m]) tt)) F->LW P n ops rest Q ρ w'):LW P n ops ({dst:=none,op:=.store T x y,type:=t,pos:=p,after:=af,guard:=none}::rest) Q ρ w:=To H i hT hx hy hi rfl hf rfl h
theorem SR (H:Hp w0 w L F) (i:Nat) {x y:Operand} {T:TypeId} {b o:Nat} {cs:Array Value} {tt:TypeId} {m:Bool} (hT:(P.info? T).map (·.size)=some 1) (hx:ev ρ x=.pointer (some ⟨b,o,none⟩)) (hy:ev ρ y=.bool m) (hi:L[i]? =some (b,.cells cs tt (0,0))) (hf:o<cs.size)
 (h: ∀ w',Hp w0 w' (L.set i (b,.cells (pz cs o [.bool m]) tt)) F->LW P n ops rest Q ρ w'):LW P n ops ({dst:=none,op:=.store T x y,type:=t,pos:=p,after:=af,guard:=none}::rest) Q ρ w:=To H i hT hx hy hi rfl hf rfl h
theorem Uj (H:Hp w0 w L F) (i:Nat) {x y:Operand} {T:TypeId} {b o:Nat} {cs:Array Value} {tt:TypeId} {A:Option Addr} {l c:Nat} (hT:(P.info? T).map (·.size)=some 1) (hx:ev ρ x=.pointer (some ⟨b,o,none⟩)) (hy:ev ρ y=.slice A l c) (hi:L[i]? =some (b,.cells cs tt (0,0))) (hf:o<cs.size)
 (h: ∀ w',Hp w0 w' (L.set i (b,.cells (pz cs o [.slice A l c]) tt)) F->LW P n ops rest Q ρ w'):LW P n ops ({dst:=none,op:=.store T x y,type:=t,pos:=p,after:=af,guard:=none}::rest) Q ρ w:=To H i hT hx hy hi rfl hf rfl h
theorem Ui (H:Hp w0 w L F) (i:Nat) {x y:Operand} {T:TypeId} {b o:Nat} {cs:Array Value} {tt:TypeId} {s:ByteArray} (hT:(P.info? T).map (·.size)=some 1) (hx:ev ρ x=.pointer (some ⟨b,o,none⟩)) (hy:ev ρ y=.string s) (hi:L[i]? =some (b,.cells cs tt (0,0))) (hf:o<cs.size)
 (h: ∀ w',Hp w0 w' (L.set i (b,.cells (pz cs o [.string s]) tt)) F->LW P n ops rest Q ρ w'):LW P n ops ({dst:=none,op:=.store T x y,type:=t,pos:=p,after:=af,guard:=none}::rest) Q ρ w:=To H i hT hx hy hi rfl hf rfl h
theorem gU (H:Hp w0 w L F) {x:Operand} {T:TypeId} {c:Array Value} (hx:ev ρ x=.agg c) (hdn:aQ d n=true)
 (h: ∀ w' b,Hp w0 w' ((b,.cells c T)::L) F->LW P n ops rest Q (fB ρ d (.pointer (some ⟨b,0,none⟩))) w'):LW P n ops (O d (.box T x) t p af::rest) Q ρ w:=box H hx hdn h
theorem TL (H:Hp w0 w L F) {x:Operand} {T:TypeId} {s:ByteArray} (hx:ev ρ x=.string s) (hdn:aQ d n=true)
 (h: ∀ w' b,Hp w0 w' ((b,.cells #[.string s] T)::L) F->LW P n ops rest Q (fB ρ d (.pointer (some ⟨b,0,none⟩))) w'):LW P n ops (O d (.box T x) t p af::rest) Q ρ w:=box H hx hdn h
theorem Uw (H:Hp w0 w L F) {x:Operand} {T:TypeId} {A:Option Addr} {l c:Nat} (hx:ev ρ x=.slice A l c) (hdn:aQ d n=true)
 (h: ∀ w' b,Hp w0 w' ((b,.cells #[.slice A l c] T)::L) F->LW P n ops rest Q (fB ρ d (.pointer (some ⟨b,0,none⟩))) w'):LW P n ops (O d (.box T x) t p af::rest) Q ρ w:=box H hx hdn h
end
end
section
theorem wN {n:Nat} (h:n<=9000000000000000000):IntKind.i64.wrap (n:Int)=n:=wO (by omega) (by omega)
theorem Ei {n:Nat} (h:n<256):IntKind.u8.wrap (n:Int)=n:=by
 simp[IntKind.wrap,IntKind.signed,IntKind.bits]
 omega
theorem J1 {a b m:Nat} (h:a<m):a&&&b<m:=Nat.lt_of_le_of_lt Nat.and_le_left h
section
variable {P:Program} {n:Nat} {Q:ig} {ρ:gV} {w:World} {ops:Array Oper} {rest:List Oper} {d:Nat} {t:TypeId} {p:String} {af:Array Edge} {g:Option (Nat×Bool)} {dst:Option Nat}
theorem RM {x y:Operand} {ty ty':TypeId} {a b:Nat} (hx:ev ρ x=.int .i64 a) (hy:ev ρ y=.int .i64 b) (ha:a<4611686018427387904) (hb:b<4611686018427387904):(execOp (ev ρ) (Og dst (.binOp .and ty x y ty') t p af g)).run P w=.ok (.value (.int .i64 (a&&&b:Nat))) w:=by
 have ea:a%2 ^ IntKind.i64.bits=a:=hZ (gg ha (by decide))
 have eb:b%2 ^ IntKind.i64.bits=b:=hZ (gg hb (by decide))
 have hlt:a&&&b<4611686018427387904:=J1 ha
 have ew:IntKind.i64.wrap ((a&&&b:Nat):Int)=(a&&&b:Nat):=wN (by omega)
 simp only[execOp,hx,hy,eqGuard,binOp,Op.intBits,Sem.run_bind,Sem.run_pure]
 simp[ea,eb,ew]
theorem Qt {x y:Operand} {ty ty':TypeId} {a b:Nat} (hx:ev ρ x=.int .i64 a) (hy:ev ρ y=.int .i64 b) (ha:a<4611686018427387904) (hb:b<4611686018427387904):(execOp (ev ρ) (Og dst (.binOp .or ty x y ty') t p af g)).run P w=.ok (.value (.int .i64 (a|||b:Nat))) w:=by
 have ea:a%2 ^ IntKind.i64.bits=a:=hZ (gg ha (by decide))
 have eb:b%2 ^ IntKind.i64.bits=b:=hZ (gg hb (by decide))
 have hlt:a|||b<2 ^ 62:=Nat.or_lt_two_pow (by omega) (by omega)
 have ew:IntKind.i64.wrap ((a|||b:Nat):Int)=(a|||b:Nat):=wN (by omega)
 simp only[execOp,hx,hy,eqGuard,binOp,Op.intBits,Sem.run_bind,Sem.run_pure]
 simp[ea,eb,ew]
theorem PA {x y:Operand} {ty ty':TypeId} {a b:Nat} (hx:ev ρ x=.int .u8 a) (hy:ev ρ y=.int .u8 b) (ha:a<256) (hb:b<256):(execOp (ev ρ) (Og dst (.binOp .and ty x y ty') t p af g)).run P w=.ok (.value (.int .u8 (a&&&b:Nat))) w:=by
 have ea:a%2 ^ IntKind.u8.bits=a:=hZ (gg ha (by decide))
 have eb:b%2 ^ IntKind.u8.bits=b:=hZ (gg hb (by decide))
 have ew:IntKind.u8.wrap ((a&&&b:Nat):Int)=(a&&&b:Nat):=Ei (J1 ha)
 simp only[execOp,hx,hy,eqGuard,binOp,Op.intBits,Sem.run_bind,Sem.run_pure]
 simp[ea,eb,ew]
theorem Rx {x y:Operand} {ty ty':TypeId} {a b:Nat} {k:IntKind} (hx:ev ρ x=.int .i64 a) (hy:ev ρ y=.int k b) (hb:b<=64):(execOp (ev ρ) (Og dst (.binOp .shr ty x y ty') t p af g)).run P w=.ok (.value (.int .i64 (a/2 ^ b:Nat))) w:=by
 have e:(a:Int).fdiv (2 ^ b)=((a/2 ^ b:Nat):Int):=by
  rw[Int.fdiv_eq_ediv_of_nonneg _ (Int.le_of_lt (Int.pow_pos (by decide)))]
  simp
 simp only[execOp,hx,hy,eqGuard,binOp,Op.shift,Sem.run_bind,Sem.run_pure]
 simp[e,bE (show b<=IntKind.i64.bits from hb)]
 intro h;omega
theorem Ry {x y:Operand} {ty ty':TypeId} {a b:Nat} {k:IntKind} (hx:ev ρ x=.int .i64 a) (hy:ev ρ y=.int k b) (hb:b<=64) (hm:a*2 ^ b<=9000000000000000000):(execOp (ev ρ) (Og dst (.binOp .shl ty x y ty') t p af g)).run P w=.ok (.value (.int .i64 (a*2 ^ b:Nat))) w:=by
 have e:IntKind.i64.wrap ((a:Int)*2 ^ b)=((a*2 ^ b:Nat):Int):=by
  have:(a:Int)*2 ^ b=((a*2 ^ b:Nat):Int):=by simp
  rw[this,wN hm]
 simp only[execOp,hx,hy,eqGuard,binOp,Op.shift,Sem.run_bind,Sem.run_pure]
 simp[bE (show b<=IntKind.i64.bits from hb),e]
 intro h;omega
theorem l1 {o:Oper} {v:Value} (hr:(execOp (ev ρ) o).run P w=.ok (.value v) w) (hg:o.guard=none) (hd:o.dst=some d) (hdn:aQ d n=true) (h:LW P n ops rest Q (fB ρ d v) w):LW P n ops (o::rest) Q ρ w:=dE hg hd hdn hr h
variable {w0:World} {F:List cf}
theorem UA {T Uu:TypeId} {e:TypeId} (hT:GH P T e 1 1=true) (hU:yh P Uu=true) {Y:fu UInt8} (hY:Y.sz=1) (hYf: ∀ s:ByteArray,Y.all s.data.toList=Lib.strCells s) {K L M:List (Nat×Obj)} (H:Hp w0 w (K++L++M) F) {v:Value} {es:List UInt8} (ho:gb Y v e es L) (hne:es≠[]) {s x:Operand} {tx:ByteArray}
  (hs:ev ρ s=v) (hx:ev ρ x=.string tx) (hb:es.length+tx.size<=140737488355328) (hdn:aQ d n=true)
  (h: ∀ A cp w' L',(es++tx.data.toList).length<=cp->cp<=maxLen->gb Y (.slice A (es++tx.data.toList).length cp) e (es++tx.data.toList) L'->Hp w0 w' (K++L'++M) F->LW P n ops rest Q (fB ρ d (.slice A (es++tx.data.toList).length cp)) w'):
  LW P n ops (O d (.call {callee:=.builtin .append,args:= #[s,x],argTypes:= #[T,Uu]}) t p af::rest) Q ρ w:=by
 obtain⟨i,z,h1,h2,h3,h4,h5,h6,h7,-⟩:=KJ hT
 have hu:P.underlying Uu=some .string:=by
  unfold yh at hU
  split at hU
  assumption
  cases hU
 have hsz:tx.data.toList.length=tx.size:=by rw[ch];rfl
 have h63:es.length+tx.size<=maxLen:=by simp only[maxLen];omega
 obtain⟨hxl,ho'⟩:=ho
 rw[hY]at hxl
 have hlen:(es++tx.data.toList).length=es.length+tx.size:=by rw[av,hsz]
 have hall:Y.all (es++tx.data.toList)=Y.all es++Lib.strCells tx:=by rw[fu.all_append,hYf]
 rcases ho' with⟨_,hn,_⟩|⟨g,cap,cur,rfl,rfl,hnc,hcm,hcs,htake⟩
 exact absurd (bS hn) hne
 rw[hY]at hcs htake
 have hg:w.heap[g]? =some (.cells cur e (0,0)):=H.ent (i:=K.length) (by simp)
 have fin: ∀ A cp w' L',es.length+tx.size<=cp->cp<=maxLen->(Builtin.append_ #[T,Uu] t #[.slice (some ⟨g,0,none⟩) es.length cap,.string tx]).run P w=.ok (.slice A (es.length+tx.size) cp) w'->
   sI (.slice A (es.length+tx.size) cp) e 1 (es.length+tx.size) (Y.all es++Lib.strCells tx) L'->Hp w0 w' (K++L'++M) F->
   LW P n ops (O d (.call {callee:=.builtin .append,args:= #[s,x],argTypes:= #[T,Uu]}) t p af::rest) Q ρ w:=by
  intro A cp w' L' hc1 hc2 hr hOw hH
  refine dE rfl rfl hdn ?_ (h A cp w' L' (by rw[hlen];exact hc1) hc2 (by unfold gb;rw[hlen,hall,hY];exact hOw) hH)
  rw[hlen]
  simp[execOp,resolve,invoke,builtin,hs,hx,hr]
 have hcl:(Y.all es++Lib.strCells tx).length=(es.length+tx.size)*1:=by rw[av,hxl,Lib.strCells_length];omega
 by_cases hroom:es.length+tx.size<=cap
 have hr:=Lib.run_append_room_string (P:=P) w T Uu t e i h1 hu h2 h4 g es.length cap cur hg tx hroom (by omega)
 have hH:=H.put (i:=K.length) (b:=g) (o:=.cells cur e) (by simp) (o':=.cells (cur.toList.take es.length++Lib.strCells tx++cur.toList.drop (es.length+tx.size)).toArray e) (w':=w.setRow g (cur.toList.take es.length++Lib.strCells tx++cur.toList.drop (es.length+tx.size)).toArray) (setRow_heap w g cur _ e _ hg) (by simp[World.setRow]) rfl rfl rfl (fun k hk=>setRow_other w g k _ hk)
 refine fin _ _ _ [(g,.cells (cur.toList.take es.length++Lib.strCells tx++cur.toList.drop (es.length+tx.size)).toArray e (0,0))] hroom hcm hr ⟨hcl,.inr ⟨g,cap,_,rfl,rfl,hroom,hcm,?_,?_⟩⟩ (by simpa using hH)
 have:=Lib.strCells_length tx
 simp only[dK,av,aI,dL,ch]
 omega
 rw[Nat.mul_one]at htake
 rw[htake,<-hcl]
 exact jq
 have holds: ∀ j u,(Y.all es)[j]? =some u->w.cell? ((⟨g,0,none⟩:Addr).add j)=some u:=fun j u hj=>by
  rw[Addr.add_lit,cC]
  refine aK hg ?_
  rw[<-htake,dz]at hj
  split at hj
  simpa using hj
  cases hj
 have hr:=Lib.run_append_grow_string (P:=P) w T Uu t e i z h1 hu h2 h3 ⟨g,0,none⟩ es.length cap (Y.all es) (by rw[hxl,h4]) holds tx (by omega) (by omega) (growslice_fits (by omega) (by rw[h5];omega))
 have hge:=grownCap_ge w (es.length+tx.size) cap e
 refine fin _ _ _ _ hge (grownCap_le_maxLen w _ cap e h63) hr ⟨hcl,.inr ⟨_,_,_,rfl,rfl,hge,grownCap_le_maxLen w _ cap e h63,?_,?_⟩⟩ (H.dropIn.addIn ((Below.refl _ _).drew.alloc (ap _) _) (heap_alloc_new w.drew _) (ap _))
 simp only[pU,dK,size_zeroCells,h6,hxl,Lib.strCells_length]
 omega
 simp only[tl]
 rw[<-hcl]
 exact jq
end
end
section
def E1:List Value->Nat->List (Nat×Value)
 |[],_=>[]
 |v::r,k=>(k,v)::E1 r (k+1)
def rF (vs:List Value):List Value:=vs.flatMap fun v=>v.cells.toList
theorem EZ (off:Nat): ∀ (l:List Value) (k:Nat) (cs:Array Value),off+k+l.length<=cs.size->
  ((l.zipIdx k).foldl (fun cs (q:Value×Nat)=>cs.setIfInBounds (off+q.2) q.1) cs)=(cs.toList.take (off+k)++l++cs.toList.drop (off+k+l.length)).toArray
 |[],k,cs,_=>by simp
 |v::r,k,cs,h=>by
  simp only[bf]at h
  simp only[List.zipIdx_cons,List.foldl_cons]
  rw[EZ off r (k+1) _ (by simp;omega)]
  congr 1
  simp only[Array.toList_setIfInBounds,bf]
  have e:=list_seg_step cs.toList (off+k) v r (by simp;omega)
  have e1:off+(k+1)=off+k+1:=by omega
  rw[e1]
  simpa [lx]using e
theorem E0 {sz:Nat}: ∀ (vs:List Value) (k:Nat) (cs:Array Value),(∀ v∈vs,v.cells.size=sz)->k*sz+vs.length*sz<=cs.size->
  Instr.fill (fun i=>some (i*sz,sz)) cs (E1 vs k)=some (cs.toList.take (k*sz)++rF vs++cs.toList.drop (k*sz+vs.length*sz)).toArray
 |[],k,cs,_,_=>by simp[E1,Instr.fill,rF]
 |v::r,k,cs,hv,hs=>by
  have hv0:=hv v (aA ..)
  simp only[bf,cW,gj]at hs
  have hl:v.cells.toList.length=sz:=by simpa using hv0
  simp only[E1,Instr.fill]
  rw[if_neg (show¬ ((decide (v.cells.size≠sz)||decide (k*sz+v.cells.size>cs.size))=true) by simp[hv0];omega)]
  have hz:v.cells.zipIdx.foldl (fun cs x=>match x with|(c,j)=>cs.setIfInBounds (k*sz+j) c) cs=(cs.toList.take (k*sz)++v.cells.toList++cs.toList.drop (k*sz+sz)).toArray:=by
   rw[<-Array.foldl_toList,Array.toList_zipIdx]
   have:=EZ (k*sz) v.cells.toList 0 cs (by rw[hl];omega)
   rw[hl]at this
   simpa using this
  rw[hz]
  have hlen:(cs.toList.take (k*sz)++v.cells.toList++cs.toList.drop (k*sz+sz)).length=cs.size:=by
   simp only[av,aI,dL,ch,hv0];omega
  rw[E0 r (k+1) _ (fun u hu=>hv u (aj _ hu)) (by simp only[dK,hlen,cW,gj];omega)]
  have hA:(cs.toList.take (k*sz)++v.cells.toList).length=(k+1)*sz:=by
   simp only[av,aI,ch,hv0,cW,gj];omega
  have e1:(cs.toList.take (k*sz)++v.cells.toList++cs.toList.drop (k*sz+sz)).take ((k+1)*sz)=cs.toList.take (k*sz)++v.cells.toList:=List.take_left' hA
  have e2:(cs.toList.take (k*sz)++v.cells.toList++cs.toList.drop (k*sz+sz)).drop ((k+1)*sz+r.length*sz)=cs.toList.drop (k*sz+(r.length+1)*sz):=by
   rw[List.drop_append,eE (by rw[hA];omega),jC,hA,km]
   congr 1
   simp only[cW,gj];omega
  rw[bf,e1,e2]
  simp only[rF,gy,aB]
theorem FB {ρ:gV}: ∀ p∈([]:List (Nat×Value)),ρ p.1=p.2:=by simp
theorem Tp {ρ:gV} {a:Nat} {v:Value} {l:List (Nat×Value)} (h:ρ a=v) (h2: ∀ p∈l,ρ p.1=p.2): ∀ p∈(a,v)::l,ρ p.1=p.2:=List.forall_mem_cons.2 ⟨h,h2⟩
theorem ef {ρ:gV} {a:Nat} {v:Value} (h:ρ a=v): ∀ p∈[(a,v)],ρ p.1=p.2:=Tp h FB
theorem jT {ρ:gV} {a a2:Nat} {v v2:Value} (h:ρ a=v) (h2:ρ a2=v2): ∀ p∈[(a,v),(a2,v2)],ρ p.1=p.2:=Tp h (ef h2)
theorem SU {ρ:gV} {a a2 a3:Nat} {v v2 v3:Value} (h:ρ a=v) (h2:ρ a2=v2) (h3:ρ a3=v3): ∀ p∈[(a,v),(a2,v2),(a3,v3)],ρ p.1=p.2:=Tp h (jT h2 h3)
theorem Tq {ρ:gV} {a a2 a3 a4:Nat} {v v2 v3 v4:Value} (h:ρ a=v) (h2:ρ a2=v2) (h3:ρ a3=v3) (h4:ρ a4=v4): ∀ p∈[(a,v),(a2,v2),(a3,v3),(a4,v4)],ρ p.1=p.2:=Tp h (SU h2 h3 h4)
section
variable {P:Program} {n:Nat} {Q:ig} {ρ:gV} {w:World} {ops:Array Oper} {rest:List Oper} {d:Nat} {t:TypeId} {p:String} {af:Array Edge}
variable {w0:World} {L:List (Nat×Obj)} {F:List cf}
theorem OV {sz len:Nat} {z:Array Value} {vs:List Value} (hl:vs.length=len) (hv: ∀ v∈vs,v.cells.size=sz):
  Instr.fill (fun i=>some (i*sz,sz)) ((Array.range (len*sz)).map (z[· %z.size]!)) (E1 vs 0)=some (rF vs).toArray:=by
 have:=E0 vs 0 ((Array.range (len*sz)).map (z[· %z.size]!)) hv (by simp[hl])
 rw[this]
 congr 2
 simp[hl]
theorem sK (H:Hp w0 w L F) {T E sz len:Nat} {parts:List (Nat×Operand)} {z:Value} {vs:List Value} (hT:ek P T E sz=true) (hz:(P.info? E).bind (·.zero)=some z) (hp:(parts.map fun q=>(q.1,ev ρ q.2))=E1 vs 0) (hl:eG vs.length len=true) (hv:(vs.all fun v=>eG v.cells.size sz)=true) (hn:aQ 0 (len*sz)=true) (hm:Nat.ble (len*sz) 16777216=true) (hdn:aQ d n=true)
  (h: ∀ w' b,Hp w0 w' ((b,.cells (rF vs).toArray E)::L) F->LW P n ops rest Q (fB ρ d (.slice (some ⟨b,0,none⟩) len len)) w'):LW P n ops (O d (.buildSlice T len parts.toArray) t p af::rest) Q ρ w:=
 Ux H hT hz hn hm (by rw[hp];exact OV (ba hl) (fun v hv'=>ba (eD.1 hv v hv'))) hdn h
end
end
section
theorem IN {a b:ByteArray}:a.toList=b.toList↔a=b:=by
 rw[ByteArray.toList_eq,ByteArray.toList_eq]
 obtain⟨⟨x⟩⟩:=a
 obtain⟨⟨y⟩⟩:=b
 simp
theorem BP (a b:ByteArray):(a.toList==b.toList)=decide (a=b):=by
 rw[Bool.eq_iff_iff]
 simp[IN]
section
variable {P:Program} {n:Nat} {Q:ig} {ρ:gV} {w:World} {ops:Array Oper} {rest:List Oper} {d:Nat} {t:TypeId} {p:String} {af:Array Edge} {g:Option (Nat×Bool)} {dst:Option Nat}
theorem uZ {x y:Operand} {ty ty':TypeId} {a b:ByteArray} (hx:ev ρ x=.string a) (hy:ev ρ y=.string b):(execOp (ev ρ) (Og dst (.binOp .eql ty x y ty') t p af g)).run P w=.ok (.value (.bool (decide (a=b)))) w:=by
 simp[execOp,hx,hy,eqGuard,binOp,Op.stringOp,BP]
theorem Nv {x y:Operand} {ty ty':TypeId} {a b:ByteArray} (hx:ev ρ x=.string a) (hy:ev ρ y=.string b):(execOp (ev ρ) (Og dst (.binOp .neq ty x y ty') t p af g)).run P w=.ok (.value (.bool (!decide (a=b)))) w:=by
 simp[execOp,hx,hy,eqGuard,binOp,Op.stringOp,BP]
theorem P4 {x y:Operand} {ty ty':TypeId} {a b:ByteArray} (hx:ev ρ x=.string a) (hy:ev ρ y=.string b) (h: ¬ a=b):(execOp (ev ρ) (Og dst (.binOp .neq ty x y ty') t p af g)).run P w=.ok (.value (.bool true)) w:=by rw[Nv hx hy];simp[h]
theorem P6 {x y:Operand} {ty ty':TypeId} {a b:ByteArray} (hx:ev ρ x=.string a) (hy:ev ρ y=.string b) (h:a=b):(execOp (ev ρ) (Og dst (.binOp .neq ty x y ty') t p af g)).run P w=.ok (.value (.bool false)) w:=by rw[Nv hx hy];simp[h]
end
end
theorem Hp.perm {w0 w:World} {L L':List (Nat×Obj)} {F:List cf} (H:Hp w0 w L F) (hp:L'.Perm L):Hp w0 w L' F:=
 ⟨H.below,fun e he=>H.ents e (hp.mem_iff.1 he),(hp.map _).nodup_iff.2 H.nodup,fun f hf=>by
  obtain⟨a,b,c⟩:=H.facts f hf
  exact⟨a,b,fun e he=>c e (hp.mem_iff.1 he)⟩⟩
theorem Hp.swap {w0 w:World} {a b:Nat×Obj} {L:List (Nat×Obj)} {F:List cf} (H:Hp w0 w (a::b::L) F):Hp w0 w (b::a::L) F:=H.perm (am _ _ _)
section
def iJ (P:Program) (T:TypeId) (pl:List (Nat×Nat)):Bool:=match P.underlying T with
 |some (.struct fs)=>decide (fs.toList.map (fun f=>(f.offset,(P.info? f.type).map (·.size)))=pl.map fun q=>(q.1,some q.2))
 |_=>false
theorem wR {P:Program}: ∀ (l:List Field) (pl:List (Nat×Nat)) (w:World),l.map (fun f=>(f.offset,(P.info? f.type).map (·.size)))=pl.map (fun q=>(q.1,some q.2))->
  (l.mapM (fun f=>Prod.mk f.offset<$>sizeOf f.type)).run P w=.ok pl w
 |[],[],w,_=>by simp
 |[],_::_,_,h=>by simp at h
 |_::_,[],_,h=>by simp at h
 |f::l,q::pl,w,h=>by
  simp only[dB,List.cons.injEq,Prod.mk.injEq]at h
  obtain⟨⟨h1,h2⟩,h3⟩:=h
  cases hi:P.info? f.type with
  |none=>rw[hi]at h2;cases h2
  |some i=>
   rw[hi]at h2
   simp only[dA,jI]at h2
   have:=wR l pl w h3
   simp[fV hi,h1,h2,this]
section
variable {P:Program} {n:Nat} {Q:ig} {ρ:gV} {w:World} {ops:Array Oper} {rest:List Oper} {d:Nat} {t:TypeId} {p:String} {af:Array Edge} {g:Option (Nat×Bool)} {dst:Option Nat}
theorem bp {T:TypeId} {pl:List (Nat×Nat)} {z:Value} {parts:List (Nat×Operand)} {cs:Array Value} (hT:iJ P T pl=true) (hz:(P.info? T).bind (·.zero)=some z)
  (hf:Instr.fill (fun i=>pl[i]?) z.cells (parts.map fun q=>(q.1,ev ρ q.2))=some cs):(execOp (ev ρ) (Og dst (.build T parts.toArray) t p af g)).run P w=.ok (.value (.agg cs)) w:=by
 unfold iJ at hT
 split at hT
 rename_i fs hu
 have hp:=wR (P:=P) fs.toList pl w (of_decide_eq_true hT)
 cases hii:P.info? T with
 |none=>rw[hii]at hz;cases hz
 |some ii=>
  rw[hii]at hz
  simp only[cQ]at hz
  simp[execOp,Instr.build,run_underlying hu,kV hii,zeroValue,hz,Array.mapM_eq_mapM_toList,hp,hf]
 cases hT
theorem Sv {x:Operand} {S T e:TypeId} {A:Option Addr} {l:List UInt8} {m c:Nat} {lo hi:Nat} {Y:fu UInt8} (hS:ek P S e 1=true) (he:pB P e .u8=true) (hT:yh P T=true) (hx:ev ρ x=.slice A m c) (hm:m=l.length) (hY: ∀ c:UInt8,Y.f c=[.int .u8 c.toNat]) (hr:Rd Y lo hi A l w):
  (execOp (ev ρ) (Og dst (.convert S T x) t p af g)).run P w=.ok (.value (.string ⟨l.toArray⟩)) w:=by
 obtain⟨hS1,-,-⟩:=fe hS
 have he1:P.underlying e=some (.int .u8):=by
  unfold pB at he
  split at he
  rename_i k hk;rw[hk,of_decide_eq_true he]
  cases he
 have hT1:P.underlying T=some .string:=by
  unfold yh at hT
  split at hT
  assumption
  cases hT
 subst hm
 have hall: ∀ l,Y.all l=(l.map fun c=>Value.int .u8 c.toNat):=fun l=>by
  unfold fu.all
  induction l with
  |nil=>rfl
  |cons a l ih=>
   rw[gy,hY,ih]
   rfl
 have key:(convert S T (.slice A l.length c)).run P w=.ok (.string ⟨l.toArray⟩) w:=by
  cases A with
  |none=>
   have:l=[]:=by
    cases l with
    |nil=>rfl
    |cons a l=>obtain⟨b,o,h,_⟩:=hr (by simp);cases h
   subst this
   exact run_convert_bytes_nil w S e hS1 he1 _ _ T hT1
  |some a=>
   have hl:(loadCells a l.length).run P w=.ok ((l.map fun c=>(c.toNat:Int)).map (Value.int .u8)).toArray w:=by
    have:=run_loadCells_list (P:=P) w a (l.map fun c=>Value.int .u8 c.toNat) (fun j v hj=>by
     have hjl:j<l.length:=by
      have:=(aC.1 hj).1
      simpa using this
     obtain⟨b,o,h,_,_,hc⟩:=hr (by omega)
     cases h
     rw[Addr.add_lit]
     exact hc j v (by rw[hall];exact hj))
    rw[bF]at this
    rw[this]
    simp
   rw[run_convert_bytes_string w S T e _ l.length c hS1 he1 hT1,run_bytesToString w a l.length c _ hl,foldl_push_bytes]
   have e:l.map ((fun n:Int=>UInt8.ofNat n.toNat)∘fun c:UInt8=>(c.toNat:Int))=l:=by simp[Function.comp_def]
   simp[ByteArray.empty,ByteArray.emptyWithCapacity,e]
   rfl
 simp[execOp,hx,key]
theorem OT {fn:Func} {R:Value->World->Prop} {a u T sz b:Nat} {cs:Array Value} {tt:TypeId} {fr:Nat×Nat} {v2:Value} (h:fn.results= #[.cell a T,.tmp u]) (hT:lO P T sz=true) (ha:ρ a=.pointer (some ⟨b,0,none⟩)) (hb:w.heap[b]? =some (.cells cs tt fr)) (hs:cs.size=sz) (hv2:ρ u=v2) (hR:R (.tuple #[.agg cs,v2]) w):MU P fn R .ret ρ w:=
 ⟨_,fun ac hac=>by
  have hl:=i6 (P:=P) (w:=w) (a:=⟨b,0,none⟩) (xs:=cs.toList) hT (by simpa using hs) (fun j v hj=>by rw[Addr.add_lit,cC];exact aK hb (by simpa using hj))
  have h1:=hac.get a
  rw[ha,cZ]at h1
  rw[<-hv2,<-hac.get u]
  simp[results,h,h1,asAddr,hl],hR⟩
end
end
section
theorem Hp.adoptNew {w0 w w':World} {L:List (Nat×Obj)} {F:List cf} (H:Hp w0 w L F) (hw:Below w.heap.size w w') {b:Nat} {o:Obj} (hb:w'.heap[b]? =some o) (hge:w.heap.size<=b):Hp w0 w' ((b,o)::L) F:=H.addIn (K:=[]) hw hb hge
section
variable {P:Program} {n:Nat} {Q:ig} {ρ:gV} {w:World} {ops:Array Oper} {rest:List Oper} {d:Nat} {t:TypeId} {p:String} {af:Array Edge} {g:Option (Nat×Bool)} {dst:Option Nat}
theorem kh {x:Operand} {T sz b:Nat} {cs:Array Value} {tt:TypeId} {fr:Nat×Nat} (hT:lO P T sz=true) (hx:ev ρ x=.pointer (some ⟨b,0,none⟩)) (hb:w.heap[b]? =some (.cells cs tt fr)) (hs:cs.size=sz):(execOp (ev ρ) (Og dst (.load T x) t p af g)).run P w=.ok (.value (.agg cs)) w:=by
 have:=jF (P:=P) (dst:=dst) (t:=t) (p:=p) (af:=af) (g:=g) (w:=w) (xs:=cs.toList) hT hx (by simpa using hs) (fun j v hj=>by rw[cC];exact aK hb (by simpa using hj))
 exact this
end
end
section
section
variable {P:Program} {w:World}
variable {n:Nat} {ρ:gV} {t:TypeId} {p:String} {af:Array Edge} {g:Option (Nat×Bool)} {dst:Option Nat}
theorem NE {x y:Operand} {T ty':TypeId} {a b:ByteArray} (hx:ev ρ x=.string a) (hy:ev ρ y=.string b) (hb:a.size+b.size<=1000000):(execOp (ev ρ) (Og dst (.binOp .add T x y ty') t p af g)).run P w=.ok (.value (.string (a++b))) w:=by
 simp[execOp,hx,hy,eqGuard,binOp,Op.stringOp]
 omega
end
end
section
theorem Rr {n:Int} (h1: -9223372036854775808<=n) (h2:n<=9223372036854775807):IntKind.i64.wrap n=n:=by
 simp[IntKind.wrap,IntKind.signed,IntKind.bits]
 omega
section
variable {P:Program} {w:World} {ρ:gV} {t:TypeId} {p:String} {af:Array Edge} {g:Option (Nat×Bool)} {dst:Option Nat}
theorem SE {x y:Operand} {ty ty':TypeId} {a b:Int} (hx:ev ρ x=.int .i64 a) (hy:ev ρ y=.int .i64 b) (h1: -9223372036854775808<=a+b) (h2:a+b<=9223372036854775807):(execOp (ev ρ) (Og dst (.binOp .add ty x y ty') t p af g)).run P w=.ok (.value (.int .i64 (a+b))) w:=by
 simp[execOp,hx,hy,eqGuard,binOp,Op.intArith,Rr h1 h2]
theorem Sc {x:Operand} {ty:TypeId} {a:Int} (hx:ev ρ x=.int .i64 a) (h1: -9223372036854775808<= -a) (h2: -a<=9223372036854775807):(execOp (ev ρ) (Og dst (.unOp .neg ty x) t p af g)).run P w=.ok (.value (.int .i64 (-a))) w:=by
 simp[execOp,hx,Op.unary,Op.intArith,Rr h1 h2]
end
end
section
section
variable {P:Program} {n:Nat} {Q:ig} {ρ:gV} {w:World} {ops:Array Oper} {rest:List Oper} {d:Nat} {t:TypeId} {p:String} {af:Array Edge} {g:Option (Nat×Bool)} {dst:Option Nat}
theorem TS {x:Operand} {k:IntKind} {i:Int} (hx:ev ρ x=.int k i):(execOp (ev ρ) (Og dst (.move x) t p af g)).run P w=.ok (.value (.int k i)) w:=iG hx
theorem TU {x:Operand} {b:Bool} (hx:ev ρ x=.bool b):(execOp (ev ρ) (Og dst (.move x) t p af g)).run P w=.ok (.value (.bool b)) w:=iG hx
theorem TQ {x:Operand} {A:Option Addr} {l c:Nat} (hx:ev ρ x=.slice A l c):(execOp (ev ρ) (Og dst (.move x) t p af g)).run P w=.ok (.value (.slice A l c)) w:=iG hx
theorem TR {x:Operand} {A:Option Addr} (hx:ev ρ x=.pointer A):(execOp (ev ρ) (Og dst (.move x) t p af g)).run P w=.ok (.value (.pointer A)) w:=iG hx
theorem TP {x:Operand} {s:ByteArray} (hx:ev ρ x=.string s):(execOp (ev ρ) (Og dst (.move x) t p af g)).run P w=.ok (.value (.string s)) w:=iG hx
theorem TV {x:Operand} {c:Array Value} (hx:ev ρ x=.agg c):(execOp (ev ρ) (Og dst (.move x) t p af g)).run P w=.ok (.value (.agg c)) w:=iG hx
theorem TO {x:Operand} {c:Array Value} (hx:ev ρ x=.tuple c):(execOp (ev ρ) (Og dst (.move x) t p af g)).run P w=.ok (.value (.tuple c)) w:=iG hx
theorem On {x:Operand} {c:Option Nat} (hx:ev ρ x=.map c):(execOp (ev ρ) (Og dst (.move x) t p af g)).run P w=.ok (.value (.map c)) w:=iG hx
theorem Ub {x:Operand} {k:IntKind} {i:Int} (hx:ev ρ x=.int k i):(execOp (ev ρ) (Og dst (.assign x) t p af g)).run P w=.ok (.value (.int k i)) w:=MJ hx
theorem Uc {x:Operand} {b:Bool} (hx:ev ρ x=.bool b):(execOp (ev ρ) (Og dst (.assign x) t p af g)).run P w=.ok (.value (.bool b)) w:=MJ hx
theorem T9 {x:Operand} {A:Option Addr} {l c:Nat} (hx:ev ρ x=.slice A l c):(execOp (ev ρ) (Og dst (.assign x) t p af g)).run P w=.ok (.value (.slice A l c)) w:=MJ hx
theorem Ua {x:Operand} {A:Option Addr} (hx:ev ρ x=.pointer A):(execOp (ev ρ) (Og dst (.assign x) t p af g)).run P w=.ok (.value (.pointer A)) w:=MJ hx
theorem T8 {x:Operand} {s:ByteArray} (hx:ev ρ x=.string s):(execOp (ev ρ) (Og dst (.assign x) t p af g)).run P w=.ok (.value (.string s)) w:=MJ hx
theorem Px {x:Operand} {c:Option Nat} (hx:ev ρ x=.map c):(execOp (ev ρ) (Og dst (.assign x) t p af g)).run P w=.ok (.value (.map c)) w:=MJ hx
theorem T4 {x:Operand} {i:Nat} {vs:List Value} {k:IntKind} {m:Int} (hx:ev ρ x=.tuple vs.toArray) (hi:vs[i]? =some (.int k m)):(execOp (ev ρ) (Og dst (.extract x i) t p af g)).run P w=.ok (.value (.int k m)) w:=Mr hx hi
theorem T5 {x:Operand} {i:Nat} {vs:List Value} {m:Bool} (hx:ev ρ x=.tuple vs.toArray) (hi:vs[i]? =some (.bool m)):(execOp (ev ρ) (Og dst (.extract x i) t p af g)).run P w=.ok (.value (.bool m)) w:=Mr hx hi
theorem T3 {x:Operand} {i:Nat} {vs:List Value} {A:Option Addr} {l c:Nat} (hx:ev ρ x=.tuple vs.toArray) (hi:vs[i]? =some (.slice A l c)):(execOp (ev ρ) (Og dst (.extract x i) t p af g)).run P w=.ok (.value (.slice A l c)) w:=Mr hx hi
theorem RI {x:Operand} {i:Nat} {vs:List Value} {s:ByteArray} (hx:ev ρ x=.tuple vs.toArray) (hi:vs[i]? =some (.string s)):(execOp (ev ρ) (Og dst (.extract x i) t p af g)).run P w=.ok (.value (.string s)) w:=Mr hx hi
theorem S7 {x:Operand} {i:Nat} {vs:List Value} {A:Option Addr} (hx:ev ρ x=.tuple vs.toArray) (hi:vs[i]? =some (.pointer A)):(execOp (ev ρ) (Og dst (.extract x i) t p af g)).run P w=.ok (.value (.pointer A)) w:=Mr hx hi
theorem T6 {x:Operand} {i:Nat} {vs:List Value} {c:Array Value} (hx:ev ρ x=.tuple vs.toArray) (hi:vs[i]? =some (.agg c)):(execOp (ev ρ) (Og dst (.extract x i) t p af g)).run P w=.ok (.value (.agg c)) w:=Mr hx hi
theorem TB {c x y:Operand} {v:Bool} (hc:ev ρ c=.bool true) (hx:ev ρ x=.bool v):(execOp (ev ρ) (Og dst (.pick c x y) t p af g)).run P w=.ok (.value (.bool v)) w:=NX hc hx
theorem TC {c x y:Operand} {v:Bool} (hc:ev ρ c=.bool false) (hx:ev ρ y=.bool v):(execOp (ev ρ) (Og dst (.pick c x y) t p af g)).run P w=.ok (.value (.bool v)) w:=Km hc hx
theorem FT {x:Operand} {T:TypeId} {s:ByteArray} (hT:yh P T=true) (hx:ev ρ x=.string s):(execOp (ev ρ) (Og dst (.call {callee:=.builtin .len,args:= #[x],argTypes:= #[T]}) t p af g)).run P w=.ok (.value (.int .i64 s.size)) w:=by
 unfold yh at hT
 split at hT
 rename_i hu
 simp[execOp,resolve,invoke,builtin,Builtin.len_,hx,run_underlying hu,goInt]
 cases hT
theorem zu {x y:Operand} {T T':TypeId} {k:IntKind} {a b:Int} (hx:ev ρ x=.int k a) (hy:ev ρ y=.int k b):(execOp (ev ρ) (Og dst (.call {callee:=.builtin .min,args:= #[x,y],argTypes:= #[T,T']}) t p af g)).run P w=.ok (.value (.int k (min a b))) w:=by
 simp[execOp,resolve,invoke,builtin,Builtin.min_,Builtin.min2,hx,hy,Int.min_def]
 split<;>split<;>omega
theorem FS {x y:Operand} {T T':TypeId} {k:IntKind} {a b:Int} (hx:ev ρ x=.int k a) (hy:ev ρ y=.int k b):(execOp (ev ρ) (Og dst (.call {callee:=.builtin .max,args:= #[x,y],argTypes:= #[T,T']}) t p af g)).run P w=.ok (.value (.int k (max a b))) w:=by
 simp[execOp,resolve,invoke,builtin,Builtin.max_,Builtin.max2,hx,hy,Int.max_def]
 split<;>split<;>omega
theorem RD {x y:Operand} {ty ty':TypeId} {a b:Int} (hx:ev ρ x=.int .i64 a) (hy:ev ρ y=.int .i64 b) (h1: -9000000000000000000<=a*b) (h2:a*b<=9000000000000000000):(execOp (ev ρ) (Og dst (.binOp .mul ty x y ty') t p af g)).run P w=.ok (.value (.int .i64 (a*b))) w:=by simp[execOp,hx,hy,eqGuard,binOp,Op.intArith,wO h1 h2]
theorem Rz {x y:Operand} {ty ty':TypeId} {a b:Int} (hx:ev ρ x=.int .i64 a) (hy:ev ρ y=.int .i64 b) (h1:0<=a) (h2:0<b):(execOp (ev ρ) (Og dst (.binOp .rem ty x y ty') t p af g)).run P w=.ok (.value (.int .i64 (a%b))) w:=by
 have hb:b≠0:=by omega
 simp[execOp,hx,hy,eqGuard,binOp,Op.intDiv,hb,Int.tmod_eq_emod_of_nonneg h1]
theorem SV {x y:Operand} {ty ty':TypeId} {a b:Int} (hx:ev ρ x=.int .i64 a) (hy:ev ρ y=.int .i64 b) (h1:0<=a) (h2:0<b) (h3:a<=9000000000000000000):(execOp (ev ρ) (Og dst (.binOp .quo ty x y ty') t p af g)).run P w=.ok (.value (.int .i64 (a/b))) w:=by
 have hb:b≠0:=by omega
 have hq:a/b<=a:=Int.ediv_le_self b h1
 have hq0:0<=a/b:=Int.ediv_nonneg h1 (by omega)
 simp[execOp,hx,hy,eqGuard,binOp,Op.intDiv,hb,Int.tdiv_eq_ediv_of_nonneg h1]
 exact wO (by omega) (by omega)
def I4 (P:Program) (T:TypeId):Bool:=match P.underlying T with
 |some (.pointer _)=>true
 |_=>false
theorem R5 {T:TypeId} (h:I4 P T=true):P.underlying T=some (.pointer (P.pointee T)):=by
 unfold I4 at h
 split at h
 rename_i e he
 rw[he];simp[Program.pointee,he]
 cases h
theorem RC {x:Operand} {ty ty':TypeId} {A:Option Addr} (hT:I4 P ty=true) (hx:ev ρ x=.pointer A):(execOp (ev ρ) (Og dst (.binOp .eql ty x (.const (.pointer none)) ty') t p af g)).run P w=.ok (.value (.bool A.isNone)) w:=by
 have:=run_eql_pointer_nil (P:=P) w ty A (R5 hT)
 have e:ev ρ (.const (.pointer none))=.pointer none:=rfl
 simp only[execOp,e,hx,eqGuard,Sem.run_bind,Sem.run_pure]
 simp[this]
theorem zl {x:Operand} {ty ty':TypeId} (hT:I4 P ty=true) (hx:ev ρ x=.pointer none):(execOp (ev ρ) (Og dst (.binOp .eql ty x (.const (.pointer none)) ty') t p af g)).run P w=.ok (.value (.bool true)) w:=RC hT hx
theorem xw {x:Operand} {ty ty':TypeId} {a:Addr} (hT:I4 P ty=true) (hx:ev ρ x=.pointer (some a)):(execOp (ev ρ) (Og dst (.binOp .eql ty x (.const (.pointer none)) ty') t p af g)).run P w=.ok (.value (.bool false)) w:=RC hT hx
theorem dZ {o:Oper} {q:Prop} [Decidable q] (hr:(execOp (ev ρ) o).run P w=.ok (.value (.bool (decide q))) w) (hg:o.guard=none) (hd:o.dst=some d) (hdn:aQ d n=true)
  (ht:q->LW P n ops rest Q (fB ρ d (.bool true)) w) (hf: ¬ q->LW P n ops rest Q (fB ρ d (.bool false)) w):LW P n ops (o::rest) Q ρ w:=by
 refine l1 hr hg hd hdn ?_
 by_cases h:q
 rw[decide_eq_true h];exact ht h
 rw[decide_eq_false h];exact hf h
theorem sU {o:Oper} {q:Prop} [Decidable q] (hr:(execOp (ev ρ) o).run P w=.ok (.value (.bool (!decide q))) w) (hg:o.guard=none) (hd:o.dst=some d) (hdn:aQ d n=true)
  (ht: ¬ q->LW P n ops rest Q (fB ρ d (.bool true)) w) (hf:q->LW P n ops rest Q (fB ρ d (.bool false)) w):LW P n ops (o::rest) Q ρ w:=by
 refine l1 hr hg hd hdn ?_
 by_cases h:q
 rw[decide_eq_true h];exact hf h
 rw[decide_eq_false h];exact ht h
theorem By {o:Oper} {b:Bool} (hr:(execOp (ev ρ) o).run P w=.ok (.value (.bool b)) w) (hg:o.guard=none) (hd:o.dst=some d) (hdn:aQ d n=true)
  (ht:b=true->LW P n ops rest Q (fB ρ d (.bool true)) w) (hf:b=false->LW P n ops rest Q (fB ρ d (.bool false)) w):LW P n ops (o::rest) Q ρ w:=by
 refine l1 hr hg hd hdn ?_
 cases b
 exact hf rfl
 exact ht rfl
theorem GQ {v:Value} (h:ρ d=v):fB ρ d v=ρ:=by
 funext t
 unfold fB
 cases hb:eG t d
 rfl
 rw[ba hb,h];rfl
theorem px (d:Nat) {b:Bool} (hb:ρ d=.bool b) (ht:b=true->LW P n ops rest Q (fB ρ d (.bool true)) w) (hf:b=false->LW P n ops rest Q (fB ρ d (.bool false)) w):LW P n ops rest Q ρ w:=by
 cases b
 have:=hf rfl;rwa[GQ hb]at this
 have:=ht rfl;rwa[GQ hb]at this
variable {C:iO} {lo pu:List Nat} {spec:Nat->Value->iO} {T:gV->iO->Prop} {r:List Nat} {Fc:iO} {i:Nat} {o:Oper}
theorem Ef {q:Prop} [Decidable q] (hi:ops[i]? =some o) (hw:kf ops ρ o=true) (hl:lo.contains i=false) (hd:o.dst=some d) (hdn:aQ d n=true) (hr: ∀ w',(bif pu.contains i then True else C w')->(execOp (ev ρ) o).run P w'=.ok (.value (.bool (decide q))) w')
  (ht:q->AW P n ops C lo pu spec T r (fB ρ d (.bool true)) Fc) (hf: ¬ q->AW P n ops C lo pu spec T r (fB ρ d (.bool false)) Fc):AW P n ops C lo pu spec T (i::r) ρ Fc:=by
 refine aw hi hw hl hd hdn hr ?_
 by_cases h:q
 rw[decide_eq_true h];exact ht h
 rw[decide_eq_false h];exact hf h
theorem SC {q:Prop} [Decidable q] (hi:ops[i]? =some o) (hw:kf ops ρ o=true) (hl:lo.contains i=false) (hd:o.dst=some d) (hdn:aQ d n=true) (hr: ∀ w',(bif pu.contains i then True else C w')->(execOp (ev ρ) o).run P w'=.ok (.value (.bool (!decide q))) w')
  (ht: ¬ q->AW P n ops C lo pu spec T r (fB ρ d (.bool true)) Fc) (hf:q->AW P n ops C lo pu spec T r (fB ρ d (.bool false)) Fc):AW P n ops C lo pu spec T (i::r) ρ Fc:=by
 refine aw hi hw hl hd hdn hr ?_
 by_cases h:q
 rw[decide_eq_true h];exact hf h
 rw[decide_eq_false h];exact ht h
end
section
variable {P:Program} {n:Nat} {Q:ig} {ρ:gV} {w w0:World} {ops:Array Oper} {rest:List Oper} {d:Nat} {t:TypeId} {p:String} {af:Array Edge} {g:Option (Nat×Bool)} {dst:Option Nat} {L:List (Nat×Obj)} {F:List cf}
variable {α:Type} {Y:fu α}
structure El (Y:fu α) (es:List α) (k:Nat) (w:World) (b o:Nat) (e:α):Prop where
 at_:es[k]? =some e
 lt:b<w.heap.size
 cl: ∀ j u,(Y.f e)[j]? =some u->w.cell? ⟨b,o+j,none⟩=some u
theorem El.later {es:List α} {k b o:Nat} {e:α} {w':World} (h:El Y es k w b o e) (hw:pp w w') (j:Nat) (u:Value) (hj:(Y.f e)[j]? =some u):w'.cell? ⟨b,o+j,none⟩=some u:=
 (hw.cell (p:=⟨b,_,none⟩) h.lt).trans (h.cl j u hj)
theorem Rd.el {lo hi:Nat} {es:List α} {A:Option Addr} (hR:Rd Y lo hi A es w) (hhi:hi<=w.heap.size) {k:Nat} (hk:k<es.length): ∃ b o e,A=some ⟨b,o,none⟩/\El Y es k w b (o+k*Y.sz) e:=by
 obtain⟨b,o,hA,-,h2,hc⟩:=hR.at_ hk
 exact⟨b,o,_,hA,⟨ai hk,by omega,hc⟩⟩
theorem rE {lo hi:Nat} {es:List α} {A:Option Addr} (H:Hp w0 w L F) (i:Nat) (hF:F[i]? =some (ee Y lo hi A es)) {x y:Operand} {T E l c k:Nat} {kd:IntKind} (hT:ek P T E Y.sz=true) (hx:ev ρ x=.slice A l c) (hy:ev ρ y=.int kd k) (h1:k<es.length) (h2:k<l) (hdn:aQ d n=true)
  (h: ∀ b o e,El Y es k w b o e->LW P n ops rest Q (fB ρ d (.pointer (some ⟨b,o,none⟩))) w):LW P n ops (O d (.indexAddr T x y) t p af::rest) Q ρ w:=by
 obtain⟨b,o,e,rfl,he⟩:=Rd.el (H.fact hF) (H.facts _ (ab hF)).2.1 h1
 exact SK hT hx hy (by omega) (by omega) hdn (h b _ e (by simpa using he))
variable {C:iO} {lo' pu:List Nat} {spec:Nat->Value->iO} {TT:gV->iO->Prop} {r:List Nat} {Fc:iO} {ii:Nat}
theorem pP {lo hi:Nat} {es:List α} {A:Option Addr} (H:Hp w0 w L F) (i:Nat) (hF:F[i]? =some (ee Y lo hi A es)) {x y:Operand} {T E l c k:Nat} {kd:IntKind} (hi':ops[ii]? =some (Og (some d) (.indexAddr T x y) t p af g)) (hw:kf ops ρ (Og (some d) (.indexAddr T x y) t p af g)=true) (hl:lo'.contains ii=false) (hdn:aQ d n=true)
  (hT:ek P T E Y.sz=true) (hx:ev ρ x=.slice A l c) (hy:ev ρ y=.int kd k) (h1:k<es.length) (h2:k<l)
  (h: ∀ b o e,El Y es k w b o e->AW P n ops C lo' pu spec TT r (fB ρ d (.pointer (some ⟨b,o,none⟩))) Fc):AW P n ops C lo' pu spec TT (ii::r) ρ Fc:=by
 obtain⟨b,o,e,rfl,he⟩:=Rd.el (H.fact hF) (H.facts _ (ab hF)).2.1 h1
 exact aw hi' hw hl rfl hdn (fun _ _=>yr hT hx hy (by omega) (by omega)) (h b _ e (by simpa using he))
end
end
section
theorem RQ {n:Nat} (h:n<2147483648):IntKind.i32.wrap (n:Int)=n:=by
 simp[IntKind.wrap,IntKind.signed,IntKind.bits]
 omega
section
variable {P:Program} {n:Nat} {Q:ig} {ρ:gV} {w:World} {ops:Array Oper} {rest:List Oper} {d:Nat} {t:TypeId} {p:String} {af:Array Edge} {g:Option (Nat×Bool)} {dst:Option Nat}
theorem Mu {m:Nat} (h:m<128):Utf8.encode (m:Int)=⟨#[UInt8.ofNat m]⟩:=by
 have hv:Utf8.valid (m:Int)=true:=by simp[Utf8.valid];omega
 have hc:m<0x80:=h
 simp[Utf8.encode,hv,hc]
theorem Su {x:Operand} {S T:TypeId} {k:IntKind} {a:Int} {m:Nat} (hS:pB P S k=true) (hT:yh P T=true) (hx:ev ρ x=.int k a) (ha:a=m) (hm:m<128):(execOp (ev ρ) (Og dst (.convert S T x) t p af g)).run P w=.ok (.value (.string ⟨#[UInt8.ofNat m]⟩)) w:=by
 have h1:(P.underlying S).isSome=true:=by
  unfold pB at hS
  split at hS
  rename_i k hk;simp[hk]
  cases hS
 have h2:P.underlying T=some .string:=by
  unfold yh at hT
  split at hT
  assumption
  cases hT
 subst ha
 have:=run_convert_int_string (P:=P) w S T k (m:Int) h1 h2
 rw[Mu hm]at this
 simp[execOp,hx,this]
variable {C:iO} {lo pu:List Nat} {spec:Nat->Value->iO} {T:gV->iO->Prop} {r:List Nat} {Fc:iO} {i:Nat} {o:Oper}
theorem jy {u:Value} {f:FuncId} {xs:List Operand} {ats:Array TypeId} {vs:List Value} (hf:bh P f=true) (hi:ops[i]? =some (Og (some d) (.call {callee:=.value (.func f),args:=xs.toArray,argTypes:=ats}) t p af g)) (hw:kf ops ρ (Og (some d) (.call {callee:=.value (.func f),args:=xs.toArray,argTypes:=ats}) t p af g)=true) (hl:lo.contains i=true) (hdn:aQ d n=true)
  (hs:spec i=fun v _=>v=u) (hc: ∀ w',C w'->di P f vs w' fun v w2=>v=u/\Below w'.heap.size w' w2) (hv:xs.map (ev ρ)=vs)
  (h:AW P n ops C lo pu spec T r (fB ρ d u) (fun w=>Fc w/\True)):AW P n ops C lo pu spec T (i::r) ρ Fc:=
 AE hf hi hw hl hdn (fun w' hw'=>(hc w' hw').mono fun v w2 ⟨h1,h2⟩=>⟨h2,by rw[hs];exact h1⟩) hv fun v ⟨w',_,hv'⟩=>by
  rw[hs]at hv'⊢
  subst hv'
  simpa using h
theorem y1 {T':TypeId} {z:Value} {lo':Nat} (hz:(P.info? T').bind (·.zero)=some z) (hi:ops[i]? =some (Og (some d) (.alloc T') t p af g)) (hw:kf ops ρ (Og (some d) (.alloc T') t p af g)=true) (hl:lo.contains i=true) (hdn:aQ d n=true)
  (hs:spec i=(Sp.blk lo' z T').V) (hC: ∀ w',C w'->lo'<=w'.heap.size)
  (h: ∀ b,AW P n ops C lo pu spec T r (fB ρ d (.pointer (some ⟨b,0,none⟩))) (fun w=>Fc w/\(Sp.blk lo' z T').V (.pointer (some ⟨b,0,none⟩)) w)):AW P n ops C lo pu spec T (i::r) ρ Fc:=
 RL hz hi hw hl hdn (fun w' w2 b hC' hb hh=>by rw[hs];exact⟨b,rfl,aW (hC w' hC') hb,hh⟩) fun v ⟨w',_,hv'⟩=>by
  rw[hs]at hv'⊢
  obtain⟨b,rfl,_,_⟩:=hv'
  exact h b
end
section
variable {P:Program} {n:Nat} {Q:ig} {ρ:gV} {w:World} {ops:Array Oper} {rest:List Oper} {d:Nat} {t:TypeId} {p:String} {af:Array Edge}
variable {w0:World} {L:List (Nat×Obj)} {F:List cf}
theorem bI (H:Hp w0 w L F) (i:Nat) (cs':Array Value) {x y:Operand} {T:TypeId} {b o sz:Nat} {cs:Array Value} {tt:TypeId} {v:Value} (hT:(P.info? T).map (·.size)=some sz) (hx:ev ρ x=.pointer (some ⟨b,o,none⟩)) (hy:ev ρ y=v) (hi:L[i]? =some (b,.cells cs tt (0,0)))
  (hs:v.cells.size=sz) (hf:Nat.ble (o+sz) cs.size=true) (h1:v.cells.toList.all (·.oneCell')=true) (hc:pz cs o v.cells.toList=cs')
  (h: ∀ w',Hp w0 w' (L.set i (b,.cells cs' tt)) F->LW P n ops rest Q ρ w'):LW P n ops ({dst:=none,op:=.store T x y,type:=t,pos:=p,after:=af,guard:=none}::rest) Q ρ w:=
 Tm H i hT hx hy hi hs (fk hf) h1 fun w' h'=>h w' (by rw[hc]at h';exact h')
end
section
variable {P:Program} {ρ:gV} {w:World}
theorem gB {fn:Func} {R:Value->World->Prop} {a0 T0 sz0 b0:Nat} {cs0:Array Value} {tt0:TypeId} {fr0:Nat×Nat} (h:fn.results= #[.cell a0 T0]) (hT0:lO P T0 sz0=true) (ha0:ρ a0=.pointer (some ⟨b0,0,none⟩)) (hb0:w.heap[b0]? =some (.cells cs0 tt0 fr0)) (hs0:cs0.size=sz0) (hR:R (.agg cs0) w):MU P fn R .ret ρ w:=
 ⟨_,fun ac hac=>by
  have hl0:=i6 (P:=P) (w:=w) (a:=⟨b0,0,none⟩) (xs:=cs0.toList) hT0 (by simpa using hs0) (fun j v hj=>by rw[Addr.add_lit,cC];exact aK hb0 (by simpa using hj))
  have h10:=hac.get a0
  rw[ha0,cZ]at h10
  simp[results,h,asAddr,h10,hl0],hR⟩
theorem gM {fn:Func} {R:Value->World->Prop} {a0 T0 sz0 b0:Nat} {cs0:Array Value} {tt0:TypeId} {fr0:Nat×Nat} {u1:Nat} {v1:Value} {u2:Nat} {v2:Value} (h:fn.results= #[.cell a0 T0,.tmp u1,.tmp u2]) (hT0:lO P T0 sz0=true) (ha0:ρ a0=.pointer (some ⟨b0,0,none⟩)) (hb0:w.heap[b0]? =some (.cells cs0 tt0 fr0)) (hs0:cs0.size=sz0) (hv1:ρ u1=v1) (hv2:ρ u2=v2) (hR:R (.tuple #[.agg cs0,v1,v2]) w):MU P fn R .ret ρ w:=
 ⟨_,fun ac hac=>by
  have hl0:=i6 (P:=P) (w:=w) (a:=⟨b0,0,none⟩) (xs:=cs0.toList) hT0 (by simpa using hs0) (fun j v hj=>by rw[Addr.add_lit,cC];exact aK hb0 (by simpa using hj))
  have h10:=hac.get a0
  rw[ha0,cZ]at h10
  rw[<-hv1,<-hac.get u1]
  rw[<-hv2,<-hac.get u2]
  simp[results,h,asAddr,h10,hl0],hR⟩
theorem na {fn:Func} {R:Value->World->Prop} {a0 T0 sz0 b0:Nat} {cs0:Array Value} {tt0:TypeId} {fr0:Nat×Nat} {u1:Nat} {v1:Value} {u2:Nat} {v2:Value} {u3:Nat} {v3:Value} (h:fn.results= #[.cell a0 T0,.tmp u1,.tmp u2,.tmp u3]) (hT0:lO P T0 sz0=true) (ha0:ρ a0=.pointer (some ⟨b0,0,none⟩)) (hb0:w.heap[b0]? =some (.cells cs0 tt0 fr0)) (hs0:cs0.size=sz0) (hv1:ρ u1=v1) (hv2:ρ u2=v2) (hv3:ρ u3=v3) (hR:R (.tuple #[.agg cs0,v1,v2,v3]) w):MU P fn R .ret ρ w:=
 ⟨_,fun ac hac=>by
  have hl0:=i6 (P:=P) (w:=w) (a:=⟨b0,0,none⟩) (xs:=cs0.toList) hT0 (by simpa using hs0) (fun j v hj=>by rw[Addr.add_lit,cC];exact aK hb0 (by simpa using hj))
  have h10:=hac.get a0
  rw[ha0,cZ]at h10
  rw[<-hv1,<-hac.get u1]
  rw[<-hv2,<-hac.get u2]
  rw[<-hv3,<-hac.get u3]
  simp[results,h,asAddr,h10,hl0],hR⟩
theorem yM {fn:Func} {R:Value->World->Prop} {u0:Nat} {v0:Value} {u1:Nat} {v1:Value} {a2 T2 sz2 b2:Nat} {cs2:Array Value} {tt2:TypeId} {fr2:Nat×Nat} {u3:Nat} {v3:Value} (h:fn.results= #[.tmp u0,.tmp u1,.cell a2 T2,.tmp u3]) (hv0:ρ u0=v0) (hv1:ρ u1=v1) (hT2:lO P T2 sz2=true) (ha2:ρ a2=.pointer (some ⟨b2,0,none⟩)) (hb2:w.heap[b2]? =some (.cells cs2 tt2 fr2)) (hs2:cs2.size=sz2) (hv3:ρ u3=v3) (hR:R (.tuple #[v0,v1,.agg cs2,v3]) w):MU P fn R .ret ρ w:=
 ⟨_,fun ac hac=>by
  rw[<-hv0,<-hac.get u0]
  rw[<-hv1,<-hac.get u1]
  have hl2:=i6 (P:=P) (w:=w) (a:=⟨b2,0,none⟩) (xs:=cs2.toList) hT2 (by simpa using hs2) (fun j v hj=>by rw[Addr.add_lit,cC];exact aK hb2 (by simpa using hj))
  have h12:=hac.get a2
  rw[ha2,cZ]at h12
  rw[<-hv3,<-hac.get u3]
  simp[results,h,asAddr,h12,hl2],hR⟩
end
theorem Hp.learnRd {α:Type} {Y:fu α} {w0 w w':World} {L:List (Nat×Obj)} {F:List cf} {A:Option Addr} {es:List α} (H:Hp w0 w L F) (hb:Below w.heap.size w w') (hr:Rd Y w.heap.size w'.heap.size A es w'):Hp w0 w' L (ee Y w.heap.size w'.heap.size A es::F):=
 H.learn hb _ hr (ap _) (ap _)
theorem Hp.startRd {α:Type} {Y:fu α} {w:World} {A:Option Addr} {es:List α} (hr:Rd Y 0 w.heap.size A es w):Hp w w [] [ee Y 0 w.heap.size A es]:=(Hp.start w).learnOld _ hr (ap _)
theorem Hp.rd0 {α:Type} {Y:fu α} {w0 w:World} {L:List (Nat×Obj)} {F:List cf} {lo hi:Nat} {A:Option Addr} {es:List α} (H:Hp w0 w L F) (i:Nat) (hF:F[i]? =some (ee Y lo hi A es)):Rd Y 0 w.heap.size A es w:=
 Rd.mono (H.fact hF) (aV _) (H.facts _ (ab hF)).2.1
end
section
/-- what a callee made, joined to what the caller has -/
theorem Hp.join {w0 w w':World} {L L':List (Nat×Obj)} {F:List cf} (H:Hp w0 w L F) (H':Hp w w' L' []):Hp w0 w' (L'++L) F:=by
 have h:=H.later H'.below
 refine⟨h.below,fun e he=> ?_,?_,fun f hf=> ?_⟩
 rcases ar.1 he with he|he
 exact⟨(H'.ents e he).1,aW H.size (H'.ents e he).2⟩
 exact h.ents e he
 rw[bi]
 refine pQ.2 ⟨H'.nodup,h.nodup,fun a ha b hb=> ?_⟩
 obtain⟨e,he,rfl⟩:=bK.1 ha
 obtain⟨e2,he2,rfl⟩:=bK.1 hb
 have h1:=(H'.ents e he).2
 have h2:=H.ltAll e2 he2
 omega
 obtain⟨h1,h2,h3⟩:=h.facts f hf
 refine⟨h1,h2,fun e he=> ?_⟩
 rcases ar.1 he with he|he
 exact .inr (aW (H.facts f hf).2.1 (H'.ents e he).2)
 exact h3 e he
section
variable {P:Program} {n:Nat} {Q:ig} {ρ:gV} {w:World} {ops:Array Oper} {rest:List Oper} {d:Nat} {t:TypeId} {p:String} {af:Array Edge} {g:Option (Nat×Bool)} {dst:Option Nat}
variable {w0:World} {L:List (Nat×Obj)} {F:List cf}
theorem Rg (H:Hp w0 w L F) {T E sz:Nat} (hT:ek P T E sz=true) (hdn:aQ d n=true)
  (h: ∀ w' b,Hp w0 w' ((b,.cells #[] E)::L) F->LW P n ops rest Q (fB ρ d (.slice (some ⟨b,0,none⟩) 0 0)) w'):LW P n ops (O d (.buildSlice T 0 #[]) t p af::rest) Q ρ w:=by
 obtain⟨hu,q,h3,h4⟩:=fe hT
 refine dE rfl rfl hdn ?_ (h _ _ (H.alloc (.cells #[] E)))
 simp only[execOp,Instr.buildSlice,Sem.run_bind,run_underlying hu,Result.andThen_ok,fV h3,xY]
 have e0: ∀ z:Array Value,(Array.range 0).map (fun i=>z[i%z.size]!)= #[]:=fun z=>by simp
 have hm': ¬ (0>2 ^ 24):=by decide
 have e1:(Array.map (fun(x:Nat×Operand)=>(x.fst,ev ρ x.snd)) #[]).toList=[]:=by simp
 simp only[if_true,e0,if_neg hm',Sem.run_bind,Sem.run_pure,Result.andThen_ok,e1,Instr.fill,newRow,newObj]
 rfl
theorem pX {x:Operand} {ty ty':TypeId} {A:Option Addr} {l c:Nat} (hT:p6 P ty=true) (hx:ev ρ x=.slice A l c):(execOp (ev ρ) (Og dst (.binOp .eql ty x (.const (.slice none 0 0)) ty') t p af g)).run P w=.ok (.value (.bool A.isNone)) w:=by
 have e:ev ρ (.const (.slice none 0 0))=.slice none 0 0:=rfl
 have key:(Op.equal ty (.slice A l c) (.slice none 0 0)).run P w=.ok A.isNone w:=by
  unfold p6 at hT
  split at hT
  rename_i q hu
  show(Op.equalIn (9999+1) ty _ _).run P w=_
  cases A<;>(unfold Op.equalIn;simp only[Sem.run_bind,run_underlying hu,Result.andThen_ok,Sem.run_pure];try rfl)
  cases hT
 simp only[execOp,e,hx,eqGuard,Sem.run_bind,Sem.run_pure]
 simp[binOp,key]
end
end
section
/-- a block's cells, of which the first are those of es -/
structure d8 {α:Type} (Y:fu α) (es:List α) (cap:Nat) (cur:Array Value):Prop where
 size:cur.size=cap*Y.sz
 all:cur.toList.take (es.length*Y.sz)=Y.all es
 le:es.length<=cap
 max:cap<=maxLen
section
variable {α:Type} {Y:fu α} {es:List α} {cap:Nat} {cur:Array Value}
theorem gb.row {A:Option Addr} {n c:Nat} {e:TypeId} {L:List (Nat×Obj)} (h:gb Y (.slice A n c) e es L) (h0:0<es.length): ∃ g cur,A=some ⟨g,0,none⟩/\L=[(g,.cells cur e (0,0))]/\d8 Y es c cur:=by
 rcases h.2 with⟨_,hn,_⟩|⟨g,cap,cur,rfl,hv,h1,h2,h3,h4⟩
 omega
 simp only[Value.slice.injEq]at hv
 obtain⟨rfl,_,rfl⟩:=hv
 exact⟨g,cur,rfl,rfl,h3,h4,h1,h2⟩
theorem d8.own {g:Nat} {e:TypeId} (h:d8 Y es cap cur):gb Y (.slice (some ⟨g,0,none⟩) es.length cap) e es [(g,.cells cur e (0,0))]:=
 ⟨fu.length es,.inr ⟨g,cap,cur,rfl,rfl,h.le,h.max,h.size,h.all⟩⟩
theorem d8.get (h:d8 Y es cap cur) {k:Nat} {e:α} (hk:es[k]? =some e) {j:Nat} {v:Value} (hj:(Y.f e)[j]? =some v):cur[k*Y.sz+j]? =some v:=by
 obtain⟨hlt,rfl⟩:=aC.1 hk
 have hjs:j<Y.sz:=by
  have:=(aC.1 hj).1
  rwa[Y.len]at this
 have h1:=fu.get (Y:=Y) hlt hjs
 rw[hj,<-h.all,dz]at h1
 split at h1
 simpa using h1
 cases h1
theorem d8.put (h:d8 Y es cap cur) {k:Nat} {e:α} (hk:es[k]? =some e) {j:Nat} {new:List Value} (e':α) (hj:j+new.length<=Y.sz) (he:Y.f e'=(Y.f e).take j++new++(Y.f e).drop (j+new.length)):
  d8 Y (es.set k e') cap (pz cur (k*Y.sz+j) new):=by
 obtain⟨hlt,rfl⟩:=aC.1 hk
 have hsz:(k+1)*Y.sz<=es.length*Y.sz:=cN _ hlt
 have hcap:es.length*Y.sz<=cap*Y.sz:=cN _ h.le
 rw[cW,gj]at hsz
 have hcl:cur.toList.length=cap*Y.sz:=by rw[ch,h.size]
 refine⟨?_,?_,by rw[ae];exact h.le,h.max⟩
 simp only[pz,dK,av,aI,dL,hcl]
 omega
 rw[ae]
 apply dg
 intro i
 have hYf:=Y.len es[k]
 by_cases hi:i<es.length*Y.sz
 rw[fd hi]
 have hdm:i=i/Y.sz*Y.sz+i%Y.sz:=(Nat.div_add_mod' i Y.sz).symm
 have hm:i%Y.sz<Y.sz:=jU _ Y.pos
 have hq:i/Y.sz<es.length:=by
  rw[Nat.div_lt_iff_lt_mul Y.pos];exact hi
 have hrhs:=fu.get (Y:=Y) (es:=es.set k e') (k:=i/Y.sz) (j:=i%Y.sz) (by rw[ae];exact hq) hm
 have hold:=fu.get (Y:=Y) (es:=es) (k:=i/Y.sz) (j:=i%Y.sz) hq hm
 rw[<-hdm]at hrhs hold
 rw[<-h.all,fd hi]at hold
 rw[hrhs]
 unfold pz
 by_cases hkq:k=i/Y.sz
 subst hkq
 simp only[List.getElem_set_self,he]
 by_cases h1:i%Y.sz<j
 rw[aB,bU (by rw[aI,hcl];omega),fd (by omega),aB,bU (by rw[aI,hYf];omega),fd h1]
 exact hold
 by_cases h2:i%Y.sz<j+new.length
 rw[aB,cy (by rw[aI,hcl];omega),bU (by rw[aI,hcl];omega),aB,cy (by rw[aI,hYf];omega),bU (by rw[aI,hYf];omega)]
 congr 1
 rw[aI,aI,hcl,hYf];omega
 rw[cy (by rw[av,aI,hcl];omega),cy (by rw[av,aI,hYf];omega),df,df]
 have e1:i/Y.sz*Y.sz+j+new.length+(i- (ug (i/Y.sz*Y.sz+j) cur.toList++new).length)=i:=by rw[av,aI,hcl];omega
 have e2:j+new.length+(i%Y.sz- (ug j (Y.f es[i/Y.sz])++new).length)=i%Y.sz:=by rw[av,aI,hYf];omega
 rw[e1,e2]
 exact hold
 have hne:(es.set k e')[i/Y.sz]'(by rw[ae];exact hq)=es[i/Y.sz]:=BI hkq _
 rw[hne,<-hold]
 rcases Nat.lt_or_gt_of_ne hkq with hl|hg
 have:(k+1)*Y.sz<=i/Y.sz*Y.sz:=cN _ hl
 rw[cW,gj]at this
 rw[cy (by rw[av,aI,hcl];omega),df]
 congr 1
 rw[av,aI,hcl];omega
 have:(i/Y.sz+1)*Y.sz<=k*Y.sz:=cN _ hg
 rw[cW,gj]at this
 rw[aB,bU (by rw[aI,hcl];omega),fd (by omega)]
 rw[dz,if_neg hi,bL]
 rw[fu.length,ae];omega
end
section
variable {P:Program} {n:Nat} {Q:ig} {ρ:gV} {w:World} {ops:Array Oper} {rest:List Oper} {d:Nat} {t:TypeId} {p:String} {af:Array Edge} {g:Option (Nat×Bool)} {dst:Option Nat}
variable {w0:World} {L:List (Nat×Obj)} {F:List cf} {α:Type} {Y:fu α} {es:List α} {cap:Nat} {cur:Array Value}
theorem cL {x y:Operand} {T E sz b l c k:Nat} {kd:IntKind} (hT:ek P T E sz=true) (hx:ev ρ x=.slice (some ⟨b,0,none⟩) l c) (hy:ev ρ y=.int kd (k:Nat)) (hl:k<l):(execOp (ev ρ) (Og dst (.indexAddr T x y) t p af g)).run P w=.ok (.value (.pointer (some ⟨b,k*sz,none⟩))) w:=by
 have:=yr (P:=P) (w:=w) (dst:=dst) (t:=t) (p:=p) (af:=af) (g:=g) hT hx hy (by omega) (by omega)
 simpa using this
theorem bW {x:Operand} {T:TypeId} {b k:Nat} {v:Value} {tt:TypeId} {fr:Nat×Nat} {e:α} (hT:qx P T=true) (hR:d8 Y es cap cur) (hk:es[k]? =some e) (j:Nat) (hx:ev ρ x=.pointer (some ⟨b,k*Y.sz+j,none⟩)) (hb:w.heap[b]? =some (.cells cur tt fr)) (hj:(Y.f e)[j]? =some v):(execOp (ev ρ) (Og dst (.load T x) t p af g)).run P w=.ok (.value v) w:=
 bd hT hx (aK hb (hR.get hk hj))
theorem py {x:Operand} {T sz:TypeId} {b k:Nat} {tt:TypeId} {fr:Nat×Nat} {e:α} (hT:lO P T sz=true) (hR:d8 Y es cap cur) (hk:es[k]? =some e) (hx:ev ρ x=.pointer (some ⟨b,k*Y.sz,none⟩)) (hs:(Y.f e).length=sz) (hb:w.heap[b]? =some (.cells cur tt fr)):(execOp (ev ρ) (Og dst (.load T x) t p af g)).run P w=.ok (.value (.agg (Y.f e).toArray)) w:=
 jF hT hx hs fun _ _ hj=>aK hb (hR.get hk hj)
theorem nt (H:Hp w0 w L F) (i:Nat) (e':α) {x y:Operand} {T:TypeId} {b k sz:Nat} {tt:TypeId} {v:Value} {e:α} (hT:(P.info? T).map (·.size)=some sz) (hR:d8 Y es cap cur) (hk:es[k]? =some e) (j:Nat) (hx:ev ρ x=.pointer (some ⟨b,k*Y.sz+j,none⟩)) (hy:ev ρ y=v) (hi:L[i]? =some (b,.cells cur tt (0,0)))
  (hs:v.cells.size=sz) (h1:v.cells.toList.all (·.oneCell')=true) (hj:Nat.ble (j+sz) Y.sz=true) (he:Y.f e'=(Y.f e).take j++v.cells.toList++(Y.f e).drop (j+sz))
  (h: ∀ w' cur',d8 Y (es.set k e') cap cur'->Hp w0 w' (L.set i (b,.cells cur' tt)) F->LW P n ops rest Q ρ w'):LW P n ops ({dst:=none,op:=.store T x y,type:=t,pos:=p,after:=af,guard:=none}::rest) Q ρ w:=by
 obtain⟨hlt,-⟩:=aC.1 hk
 have hj':=fk hj
 have hl:v.cells.toList.length=sz:=by simpa using hs
 refine Tm H i hT hx hy hi hs ?_ h1 fun w' h'=>h w' _ (hR.put hk e' (by rw[hl];exact hj') (by rw[hl];exact he)) h'
 rw[hR.size]
 have h2:(k+1)*Y.sz<=cap*Y.sz:=cN _ (gg hlt hR.le)
 rw[cW,gj]at h2
 omega
theorem Po {x y:Operand} {ty ty':TypeId} {a b:Bool} (hT:P.underlying ty=some .bool) (hx:ev ρ x=.bool a) (hy:ev ρ y=.bool b):(execOp (ev ρ) (Og dst (.binOp .eql ty x y ty') t p af g)).run P w=.ok (.value (.bool (a==b))) w:=by
 have key:(Op.equal ty (.bool a) (.bool b)).run P w=.ok (a==b) w:=by
  have:=run_equalIn_bool' (P:=P) w 9999 ty a b hT
  exact this
 simp only[execOp,hx,hy,eqGuard,Sem.run_bind,Sem.run_pure]
 simp[binOp,key]
end
end
section
open Go.ChangeMaps (setBlock)
/-- the entries of a map with int keys, in the order in which they came -/
def nK:Nat->List (Int×Value)->List MapEntry
 |_,[]=>[]
 |i,q::r=>{key:=.int .i64 q.1,val:=q.2,born:=i}::nK (i+1) r
theorem vc: ∀ (i:Nat) (S:List (Int×Value)) (j:Nat),(nK i S)[j]? =(S[j]?).map fun q=>{key:=.int .i64 q.1,val:=q.2,born:=i+j}
 |_,[],j=>by simp[nK]
 |i,q::r,0=>by simp[nK]
 |i,q::r,j+1=>by
  simp only[nK,pi,vc (i+1) r j]
  congr 1;funext q;congr 1;omega
theorem Am: ∀ (i:Nat) (S:List (Int×Value)) (q:Int×Value),nK i (S++[q])=nK i S++[{key:=.int .i64 q.1,val:=q.2,born:=i+S.length}]
 |i,[],q=>by simp[nK]
 |i,p::r,q=>by simp only[qZ,nK,Am (i+1) r q,bf,show i+1+r.length=i+(r.length+1) by omega]
abbrev va (S:List (Int×Value)):Obj:=.map (nK 0 S).toArray S.length
theorem xK (q:IntKind) (k:Int): ∀ (i j:Nat) (S:List (Int×Value)),(∀ p∈S,p.1≠k)->Instr.findNow (.int q) (.int .i64 k) (nK i S) j=some none
 |_,_,[],_=>rfl
 |i,j,p::r,h=>by
  have h1:(k==p.1)=false:=by
   have:=h p (aA ..)
   simp;omega
  simp only[nK,Instr.findNow,Instr.sameNow,if_true,h1]
  exact xK q k (i+1) (j+1) r fun x hx=>h x (aj _ hx)
theorem CV (q:IntKind) (k:Int) (v:Value): ∀ (i j m:Nat) (S:List (Int×Value)),(S.map (·.1)).Nodup->S[m]? =some (k,v)->Instr.findNow (.int q) (.int .i64 k) (nK i S) j=some (some (j+m,v))
 |_,_,_,[],_,h=>by simp at h
 |i,j,0,p::r,_,h=>by
  simp at h;subst h
  simp[nK,Instr.findNow,Instr.sameNow]
 |i,j,m+1,p::r,hn,h=>by
  simp only[dB,jB]at hn
  simp only[pi]at h
  have hne:(k==p.1)=false:=by
   have:p.1≠k:=fun e=>hn.1 (bK.2 ⟨(k,v),ab h,e.symm⟩)
   simp;omega
  simp only[nK,Instr.findNow,Instr.sameNow,if_true,hne]
  rw[CV q k v (i+1) (j+1) m r hn.2 h]
  congr 3;omega
def Hr (P:Program) (T K E:TypeId):Bool:=(match P.underlying T with
 |some (.map k e)=>eG k K&&eG e E
 |_=>false)&&(match P.underlying K with
 |some (.int _)=>true
 |_=>false)
theorem Jl {P:Program} {T K E:TypeId} (h:Hr P T K E=true):P.underlying T=some (.map K E)/\ ∃ q,P.underlying K=some (.int q):=by
 unfold Hr at h
 simp only[bg]at h
 obtain⟨h1,h2⟩:=h
 constructor
 split at h1
 rename_i k e hd
 simp only[bg]at h1
 rw[hd,ba h1.1,ba h1.2]
 cases h1
 split at h2
 rename_i q hd;exact⟨q,hd⟩
 cases h2
section
variable {P:Program} {n:Nat} {Q:ig} {ρ:gV} {w:World} {ops:Array Oper} {rest:List Oper} {d:Nat} {t:TypeId} {p:String} {af:Array Edge} {g:Option (Nat×Bool)} {dst:Option Nat}
variable {w0:World} {L:List (Nat×Obj)} {F:List cf}
theorem yl {K:TypeId} {q:IntKind} (hk:P.underlying K=some (.int q)) (e:Bool) (k:Int):(Instr.checkKey e 10000 K (.int .i64 k)).run P w=.ok () w:=by
 show(Instr.checkKey e (9999+1) K (.int .i64 k)).run P w=_
 unfold Instr.checkKey
 simp only[Sem.run_bind,run_underlying hk,Result.andThen_ok,Sem.run_pure]
theorem Us (H:Hp w0 w L F) {T:TypeId} (hdn:aQ d n=true)
  (h: ∀ w' b,Hp w0 w' ((b,va [])::L) F->LW P n ops rest Q (fB ρ d (.map (some b))) w'):LW P n ops (O d (.makeMap T none) t p af::rest) Q ρ w:=by
 refine dE rfl rfl hdn ?_ (h _ _ (H.alloc (.map #[] 0)))
 simp only[execOp,jA,Instr.makeMap,newObj,Sem.run_bind,Sem.run_pure]
 rfl
theorem B2 {T K E:TypeId} {b:Nat} {S:List (Int×Value)} {k:Int} {r:Option (Nat×Value)} {z:Value} (hT:Hr P T K E=true) (hz:(P.info? E).bind (·.zero)=some z) (hb:w.heap[b]? =some (va S)) (hf: ∀ q,Instr.findNow (.int q) (.int .i64 k) (nK 0 S) 0=some r) (c:Bool):
  (Instr.lookup T (.map (some b)) (.int .i64 k) c).run P w=.ok (if c then .tuple #[(r.map (·.2)).getD z,.bool r.isSome]else(r.map (·.2)).getD z) w:=by
 obtain⟨h1,q,h2⟩:=Jl hT
 have hzr:(zeroValue E).run P w=.ok z w:=by
  cases hi:P.info? E with
  |none=>rw[hi]at hz;cases hz
  |some i=>
   rw[hi]at hz
   simp only[cQ]at hz
   simp[zeroValue,kV hi,hz]
 simp only[Instr.lookup,Sem.run_bind,run_underlying h1,Result.andThen_ok,getObj,Sem.run,hb,Sem.run_pure,yl h2,Instr.findKey,run_underlying h2,hf q]
 cases r with
 |none=>cases c<;>simp[hzr]
 |some q=>cases c<;>simp
theorem RG {x y:Operand} {T K E:TypeId} {b:Nat} {S:List (Int×Value)} {k:Int} {z:Value} (hT:Hr P T K E=true) (hz:(P.info? E).bind (·.zero)=some z) (hx:ev ρ x=.map (some b)) (hy:ev ρ y=.int .i64 k) (hb:w.heap[b]? =some (va S)) (hk: ∀ p∈S,p.1≠k):(execOp (ev ρ) (Og dst (.lookup T x y false) t p af g)).run P w=.ok (.value z) w:=by
 have:=B2 (w:=w) hT hz hb (fun q=>xK q k 0 0 S hk) false
 simp[execOp,hx,hy,this]
theorem RF {x y:Operand} {T K E:TypeId} {b:Nat} {S:List (Int×Value)} {k:Int} {z v:Value} {m:Nat} (hT:Hr P T K E=true) (hz:(P.info? E).bind (·.zero)=some z) (hx:ev ρ x=.map (some b)) (hy:ev ρ y=.int .i64 k) (hb:w.heap[b]? =some (va S)) (hn:(S.map (·.1)).Nodup) (hm:S[m]? =some (k,v)):(execOp (ev ρ) (Og dst (.lookup T x y false) t p af g)).run P w=.ok (.value v) w:=by
 have:=B2 (w:=w) hT hz hb (fun q=>CV q k v 0 0 m S hn hm) false
 simp[execOp,hx,hy,this]
theorem Ur (H:Hp w0 w L F) (i:Nat) {x y u:Operand} {T K E:TypeId} {b:Nat} {S:List (Int×Value)} {k:Int} {v:Value} (hT:Hr P T K E=true) (hx:ev ρ x=.map (some b)) (hy:ev ρ y=.int .i64 k) (hu:ev ρ u=v) (hi:L[i]? =some (b,va S)) (hk: ∀ p∈S,p.1≠k)
  (h: ∀ w',Hp w0 w' (L.set i (b,va (S++[(k,v)]))) F->LW P n ops rest Q ρ w'):LW P n ops ({dst:=none,op:=.mapUpdate T x y u,type:=t,pos:=p,after:=af,guard:=none}::rest) Q ρ w:=by
 obtain⟨h1,q,h2⟩:=Jl hT
 have hb:=H.ent hi
 have hlt:=bX hb
 have e:va (S++[(k,v)])=.map ((nK 0 S).toArray.push {key:=.int .i64 k,val:=v,born:=S.length}) (S.length+1):=by
  simp[va,Am]
 refine Ks rfl rfl (w':=setBlock w b (va (S++[(k,v)]))) ?_ (h _ (H.put hi (by simp[setBlock,hlt]) (by simp[setBlock]) rfl rfl rfl fun j hj=>by simp[setBlock,Ne.symm hj]))
 rw[e]
 simp only[execOp,hx,hy,hu,Instr.mapUpdate,Sem.run_bind,run_underlying h1,Result.andThen_ok,getObj,Sem.run,hb,Sem.run_pure,yl h2,Instr.findKey,run_underlying h2,xK q k 0 0 S hk,setObj]
 simp[setBlock]
theorem Ul (H:Hp w0 w L F) (i:Nat) {x:Operand} {T K E:TypeId} {b:Nat} {S:List (Int×Value)} (hT:Hr P T K E=true) (hx:ev ρ x=.map (some b)) (hi:L[i]? =some (b,va S)) (hdn:aQ d n=true)
  (h: ∀ w' r,Hp w0 w' ((r,.mapIter (some b) S.length #[] S.length)::L) F->LW P n ops rest Q (fB ρ d (.pointer (some ⟨r,0,none⟩))) w'):LW P n ops (O d (.range T x) t p af::rest) Q ρ w:=by
 obtain⟨h1,q,h2⟩:=Jl hT
 refine dE rfl rfl hdn ?_ (h _ _ (H.alloc _))
 simp only[execOp,hx]
 have:=run_range_map (P:=P) w T K E b (nK 0 S).toArray S.length h1 (H.ent hi)
 simp[this]
theorem Uo (H:Hp w0 w L F) (i j:Nat) {x:Operand} {b r:Nat} {S:List (Int×Value)} {seen:Array Nat} (hx:ev ρ x=.pointer (some ⟨r,0,none⟩)) (hi:L[i]? =some (r,.mapIter (some b) S.length seen S.length)) (hj:L[j]? =some (b,va S)) (hdn:aQ d n=true)
  (hno:(∀ m,m<S.length->seen.contains m=true)->LW P n ops rest Q (fB ρ d (.tuple #[.bool false])) w)
  (hyes: ∀ m k v w',S[m]? =some (k,v)->seen.contains m=false->Hp w0 w' (L.set i (r,.mapIter (some b) S.length (seen.push m) S.length)) F->LW P n ops rest Q (fB ρ d (.tuple #[.bool true,.int .i64 k,v])) w'):
  LW P n ops (O d (.next x false) t p af::rest) Q ρ w:=by
 have hr:=H.ent hi
 have hb:=H.ent hj
 have hborn: ∀ e∈(nK 0 S).toArray.toList,e.born<S.length:=fun e he=>by
  obtain⟨m,hm⟩:=aN.1 he
  rw[vc]at hm
  cases hs:S[m]? with
  |none=>rw[hs]at hm;cases hm
  |some q=>
   rw[hs]at hm
   simp at hm
   have:=(aC.1 hs).1
   rw[<-hm];simp;omega
 rcases run_next_at (P:=P) w t r b S.length S.length seen (nK 0 S).toArray S.length hr hb hborn (ap _)with⟨h0,hrun⟩|⟨e,he,w1,hw1,hrun⟩
 refine dE rfl rfl hdn ?_ (hno ?_)
 simp[execOp,hx,hrun]
 intro m hm
 have:=all_seen _ _ h0 {key:=.int .i64 (S[m]).1,val:=(S[m]).2,born:=m} (by
  refine aN.2 ⟨m,?_⟩
  rw[vc,ai hm];simp)
 exact this
 obtain⟨hm1,hm2⟩:=mem_left he
 obtain⟨m,hm⟩:=aN.1 hm1
 rw[vc]at hm
 cases hs:S[m]? with
 |none=>rw[hs]at hm;cases hm
 |some q=>
  rw[hs]at hm
  simp at hm
  obtain⟨k,v⟩:=q
  subst hm
  simp only at hrun hm2
  have H1:Hp w0 w1 L F:=by
   rcases hw1 with rfl|rfl
   exact H
   exact H.drew
  have hlt:=bX (H1.ent hi)
  refine dE rfl rfl hdn (w':=setBlock w1 r (.mapIter (some b) S.length (seen.push m) S.length)) ?_ (hyes m k v _ hs hm2 (H1.put hi (by simp[setBlock,hlt]) (by simp[setBlock]) rfl rfl rfl fun j hj=>by simp[setBlock,Ne.symm hj]))
  simp[execOp,hx,hrun]
theorem S8 {x:Operand} {b r m:Nat} {S:List (Int×Value)} {seen:Array Nat} {k:Int} {v:Value} (hx:ev ρ x=.pointer (some ⟨r,0,none⟩)) (hr:w.heap[r]? =some (.mapIter (some b) S.length (seen.push m) S.length)) (hb:w.heap[b]? =some (va S)) (hm:S[m]? =some (k,v)):(execOp (ev ρ) (Og dst (.entry x) t p af g)).run P w=.ok (.value (.tuple #[.int .i64 k,v])) w:=by
 have hmem:({key:=.int .i64 k,val:=v,born:=m}:MapEntry)∈(nK 0 S).toArray.toList:=by
  refine aN.2 ⟨m,?_⟩
  rw[vc,hm];simp
 have hnd:((nK 0 S).toArray.toList.map (·.born)).Nodup:=by
  have: ∀ i (S:List (Int×Value)),((nK i S).map (·.born))=List.range' i S.length:=by
   intro i S
   induction S generalizing i with
   |nil=>rfl
   |cons a r ih=>simp[nK,ih,List.range'_succ]
  rw[show(nK 0 S).toArray.toList=nK 0 S from rfl,this]
  exact List.nodup_range'
 have:=run_entry_at (P:=P) w r b S.length seen (nK 0 S).toArray S.length _ hr hb hmem hnd
 simp[execOp,hx,this]
end
end
section
theorem Nu {α:Type} {p:List α->Prop} (h0:p []) (h1: ∀ l a,p l->p (l++[a])) (l:List α):p l:=by
 have: ∀ r:List α,p r.reverse:=by
  intro r
  induction r with
  |nil=>exact h0
  |cons a r ih=>rw[List.reverse_cons];exact h1 _ _ ih
 have h:=this l.reverse
 rwa[List.reverse_reverse]at h
theorem Hp.base {w w' w2:World} {L:List (Nat×Obj)} (hw:Below w.heap.size w w') (H:Hp w' w2 L []):Hp w w2 L []:=
 ⟨hw.trans (H.below.mono hw.size),fun e he=>⟨(H.ents e he).1,aW hw.size (H.ents e he).2⟩,H.nodup,by simp⟩
section
variable {P:Program} {n:Nat} {Q:ig} {ρ:gV} {w:World} {ops:Array Oper} {rest:List Oper} {d:Nat} {t:TypeId} {p:String} {af:Array Edge}
variable {w0:World} {L:List (Nat×Obj)} {F:List cf} {α:Type} {Y:fu α}
theorem Hp.also (H:Hp w0 w L F) {lo hi:Nat} {A A':Option Addr} {es es':List α} (i:Nat) (hF:F[i]? =some (ee Y lo hi A es)) (h: ∀ w,Rd Y lo hi A es w->Rd Y lo hi A' es' w):Hp w0 w L (ee Y lo hi A' es'::F):=by
 refine⟨H.below,H.ents,H.nodup,fun g hg=> ?_⟩
 rcases ay.1 hg with rfl|hg
 obtain⟨h1,h2,h3⟩:=H.facts _ (ab hF)
 exact⟨h w h1,h2,h3⟩
 exact H.facts g hg
theorem xu {lo hi:Nat} {es:List α} {A:Option Addr} (H:Hp w0 w L F) (i:Nat) (hF:F[i]? =some (ee Y lo hi A es)) {x y:Operand} {T E l c k:Nat} {kd:IntKind} (hT:ek P T E Y.sz=true) (hx:ev ρ x=.slice A l c) (hy:ev ρ y=.int kd (k:Nat)) (hc:es.length<=c) (h1:k<=c) (hdn:aQ d n=true)
  (h: ∀ A',Hp w0 w L (ee Y lo hi A' (es.take k)::F)->LW P n ops rest Q (fB ρ d (.slice A' k c)) w):LW P n ops (O d (.slice T x none (some y) none) t p af::rest) Q ρ w:=
 BS hT hx hy (by omega) (by omega) hdn fun A' hA=>by
  have:=h A' (H.also i hF fun w' hr=>by
   by_cases h0:0<c
   rw[hA h0];exact hr.take k
   intro h2;rw[aI]at h2;omega)
  simpa using this
theorem RY {lo hi:Nat} {es:List α} {A:Option Addr} (H:Hp w0 w L F) (i:Nat) (hF:F[i]? =some (ee Y lo hi A es)) {x y:Operand} {T E l c k:Nat} {kd:IntKind} (hT:ek P T E Y.sz=true) (hx:ev ρ x=.slice A l c) (hy:ev ρ y=.int kd (k:Nat)) (hl:l=es.length) (hc:es.length<=c) (h1:k<=l) (hdn:aQ d n=true)
  (h: ∀ A',Hp w0 w L (ee Y lo hi A' (es.drop k)::F)->LW P n ops rest Q (fB ρ d (.slice A' (l-k) (c-k))) w):LW P n ops (O d (.slice T x (some y) none none) t p af::rest) Q ρ w:=
 ui hT hx hy (by omega) (by omega) (by omega) hdn fun A' hA=>by
  have:=h A' (H.also i hF fun w' hr=>Rd.from_ hr (k:=k) (len:=l) (by simpa using hA) (fun h=>by omega))
  simpa using this
end
end
section
section
variable {P:Program} {n:Nat} {Q:ig} {ρ:gV} {w:World} {ops:Array Oper} {rest:List Oper} {d:Nat} {t:TypeId} {p:String} {af:Array Edge} {g:Option (Nat×Bool)} {dst:Option Nat}
theorem Ce {f:FuncId} {xs:List Operand} {vs:List Value} (hv:xs.map (ev ρ)=vs):(execOp (ev ρ) (Og dst (.makeFunc (.func f) #[] xs.toArray) t p af g)).run P w=.ok (.value (.func (.func f) #[] vs.toArray)) w:=by
 subst hv
 simp[execOp,Instr.makeFunc]
theorem uj {x:Operand} {f:Fn} {a b:Array Value} (hx:ev ρ x=.func f a b):(execOp (ev ρ) (Og dst (.move x) t p af g)).run P w=.ok (.value (.func f a b)) w:=iG hx
end
section
variable {P:Program} {n:Nat} {Q:ig} {ρ:gV} {w:World} {ops:Array Oper} {rest:List Oper} {d:Nat} {t:TypeId} {p:String} {af:Array Edge}
variable {w0:World} {L:List (Nat×Obj)} {F:List cf} {α:Type} {Y:fu α}
end
end
section
section
variable {P:Program} {n:Nat} {Q:ig} {ρ:gV} {w:World} {ops:Array Oper} {rest:List Oper} {d:Nat} {t:TypeId} {p:String} {af:Array Edge} {g:Option (Nat×Bool)} {dst:Option Nat}
variable {w0:World} {L:List (Nat×Obj)} {F:List cf}
theorem GF {x:Operand} {T:TypeId} {A:Option Addr} {l c:Nat} (hT:p6 P T=true) (hx:ev ρ x=.slice A l c):(execOp (ev ρ) (Og dst (.call {callee:=.builtin .cap,args:= #[x],argTypes:= #[T]}) t p af g)).run P w=.ok (.value (.int .i64 c)) w:=by
 unfold p6 at hT
 split at hT
 rename_i e hu
 simp[execOp,resolve,invoke,builtin,Builtin.cap_,hx,run_underlying hu,goInt]
 cases hT
theorem Uz {T e sz by_ tn:Nat} {kn:IntKind} (hT:GH P T e sz by_=true) (htn:pB P tn kn=true) (H:Hp w0 w L F) {s x:Operand} {k:IntKind} {m:Nat} (hs:ev ρ s=.slice none 0 0) (hx:ev ρ x=.int k (m:Nat)) (h0:0<m) (hb:m*by_<=140737488355328) (hdn:aQ d n=true)
  (h: ∀ w' b cp cur,cur.size=cp*sz->m<=cp->cp<=maxLen->Hp w0 w' ((b,.cells cur e)::L) F->LW P n ops rest Q (fB ρ d (.slice (some ⟨b,0,none⟩) m cp)) w'):
  LW P n ops (O d (.call {callee:=.builtin .append,args:= #[s,x],argTypes:= #[T,tn]}) t p af::rest) Q ρ w:=by
 obtain⟨i,z,h1,h2,h3,h4,h5,h6,h7,h8⟩:=KJ hT
 have hu:P.underlying tn=some (.int kn):=by
  unfold pB at htn
  split at htn
  rename_i k' hk;rw[hk,of_decide_eq_true htn]
  cases htn
 have hm:m<=maxLen:=by
  have:=xm m h8
  simp only[maxLen];omega
 have hr:=Lib.run_append_nil_zeros (P:=P) w T tn t e i z k kn h1 hu h2 h3 m h0 (by omega) (by simp only[maxLen]at hm;omega) (by rw[h5];omega)
 have hge:=grownCap_ge w m 0 e
 refine dE rfl rfl hdn ?_ (h _ _ _ (Builtin.zeroCells z.cells m++Builtin.zeroCells z.cells (grownCap w m 0 e-m)) ?_ hge (grownCap_le_maxLen w m 0 e hm) ((H.drew).alloc _))
 simp[execOp,resolve,invoke,builtin,hs,hx,hr]
 simp only[pU,size_zeroCells,h6,<-cW]
 congr 1
 omega
end
end
section
section
variable {P:Program} {ops:Array Oper} {Q Q':Exit->Act->World->Prop}
theorem GP {o:Oper} {a:Act} {next:Act->World->Prop} (hp: ∀ c a w,Q' (.panic c) a w->Q (.panic c) a w) (ho: ∀ a w,Q' .outgrown a w->Q .outgrown a w) {r:Result Next} (h:o.upon P a next Q' r):o.upon P a next Q r:=by
 unfold Oper.upon at*
 split at h
 exact h
 exact h
 exact h
 refine Calls.mono h fun e w' he=> ?_
 cases e with
 |returned v=>exact he
 |panicked c=>exact hp _ _ _ he
 |outgrown=>obtain⟨a,w,hq⟩:=he;exact⟨a,w,ho _ _ hq⟩
 exact h
 exact hp _ _ _ h
 exact h.elim
theorem z5 {i:Nat} {K:Act->World->Prop} {a:Act} {w:World} (hp: ∀ c a w,Q' (.panic c) a w->Q (.panic c) a w) (ho: ∀ a w,Q' .outgrown a w->Q .outgrown a w) (h:wpOp P ops Q' i K a w):wpOp P ops Q i K a w:=by
 unfold wpOp at*
 split
 rename_i hn;rw[hn]at h;exact h
 rename_i o hs
 rw[hs]at h
 simp only at h
 split
 rename_i hw
 rw[if_pos hw]at h
 rcases h with h|⟨h1,a,w,h2⟩
 exact .inl (GP hp ho h)
 exact .inr ⟨h1,a,w,ho _ _ h2⟩
 rename_i hw
 rw[if_neg hw]at h
 exact h
end
def N2 (md:Region.Mode) (ops:Array Oper) (S pu:List Nat):List Nat->Array Bool->Bool
 |[],listed=>(Region.ready md ops listed).all fun i=>S.contains i
 |i::r,listed=>(Region.ready md ops listed).contains i&&Region.free md ops listed i&&!S.contains i&&pu.contains i&&N2 md ops S pu r (listed.setIfInBounds i true)
def qz:List Nat->Array Bool->Array Bool
 |[],l=>l
 |i::r,l=>qz r (l.setIfInBounds i true)
section
variable {P:Program} {n:Nat} {Q:ig} {ρ:gV} {w:World} {ops:Array Oper}
def XW (P:Program) (n:Nat) (ops:Array Oper) (Q:ig) (f:Nat) (listed:Array Bool) (ρ:gV) (w:World):Prop:= ∀ a,St n ρ a->wpAny P .any ops (EP n Q) f listed a w
theorem cz {f:Nat} {listed:Array Bool} (hr:(Region.ready .any ops listed).isEmpty=true) (h:Q .normal ρ w):XW P n ops Q f listed ρ w:=fun a ha=>by
 have hr':Region.ready .any ops listed=[]:=by simpa using hr
 cases f with
 |zero=>exact⟨hr',ρ,ha,h⟩
 |succ f=>exact⟨fun _=>⟨ρ,ha,h⟩,fun i hi=>by rw[hr']at hi;cases hi⟩
theorem wM {f i:Nat} {listed:Array Bool} (hi:(ops[i]?).isSome=true) (h:LW P n ops (pick ops [i]) (Fu (XW P n ops Q f (listed.setIfInBounds i true)) Q) ρ w) (a:Act) (ha:St n ρ a):wpOp P ops (EP n Q) i (wpAny P .any ops (EP n Q) f (listed.setIfInBounds i true)) a w:=by
 have h1:=h a ha
 rw[<-tw [i] (by simp[hi]),wpOps_cons]at h1
 refine z5 (fun c a w h=>h) (fun a w h=>h) (wpOp_mono (fun a' w' h2=> ?_) h1)
 obtain⟨ρ',hs,hk⟩:=h2
 exact hk a' hs
theorem db (i:Nat) {f:Nat} {listed:Array Bool} (hr:(Region.ready .any ops listed==[i])=true) (hi:(ops[i]?).isSome=true) (h:LW P n ops (pick ops [i]) (Fu (XW P n ops Q f (listed.setIfInBounds i true)) Q) ρ w):XW P n ops Q (f+1) listed ρ w:=fun a ha=>by
 have hr':Region.ready .any ops listed=[i]:=by simpa using hr
 refine⟨fun h0=>(by rw[hr']at h0;cases h0),fun j hj=> ?_⟩
 rw[hr']at hj
 obtain rfl:=aq.1 hj
 exact wM hi h a ha
theorem uN (i j:Nat) {f:Nat} {listed:Array Bool} (hr:(Region.ready .any ops listed==[i,j])=true) (hi:(ops[i]?).isSome=true) (hj:(ops[j]?).isSome=true) (h1:LW P n ops (pick ops [i]) (Fu (XW P n ops Q f (listed.setIfInBounds i true)) Q) ρ w) (h2:LW P n ops (pick ops [j]) (Fu (XW P n ops Q f (listed.setIfInBounds j true)) Q) ρ w):XW P n ops Q (f+1) listed ρ w:=fun a ha=>by
 have hr':Region.ready .any ops listed=[i,j]:=by simpa using hr
 refine⟨fun h0=>(by rw[hr']at h0;cases h0),fun k hk=> ?_⟩
 rw[hr']at hk
 simp only[ay,bu,or_false]at hk
 rcases hk with rfl|rfl
 exact wM hi h1 a ha
 exact wM hj h2 a ha
theorem Tl (i j m:Nat) {f:Nat} {listed:Array Bool} (hr:(Region.ready .any ops listed==[i,j,m])=true) (hi:(ops[i]?).isSome=true) (hj:(ops[j]?).isSome=true) (hm:(ops[m]?).isSome=true) (h1:LW P n ops (pick ops [i]) (Fu (XW P n ops Q f (listed.setIfInBounds i true)) Q) ρ w) (h2:LW P n ops (pick ops [j]) (Fu (XW P n ops Q f (listed.setIfInBounds j true)) Q) ρ w) (h3:LW P n ops (pick ops [m]) (Fu (XW P n ops Q f (listed.setIfInBounds m true)) Q) ρ w):XW P n ops Q (f+1) listed ρ w:=fun a ha=>by
 have hr':Region.ready .any ops listed=[i,j,m]:=by simpa using hr
 refine⟨fun h0=>(by rw[hr']at h0;cases h0),fun k hk=> ?_⟩
 rw[hr']at hk
 simp only[ay,bu,or_false]at hk
 rcases hk with rfl|rfl|rfl
 exact wM hi h1 a ha
 exact wM hj h2 a ha
 exact wM hm h3 a ha
theorem BM {C:iO} {S pu:List Nat} {spec:Nat->Value->iO} {Q':Exit->Act->World->Prop} (k:Nat) (hC: ∀ w w',C w->Below w.heap.size w w'->C w') (h0: ∃ w,C w) (hsel: ∀ (j:Nat) (o:Oper) cs b,ops[j]? =some o->o.op≠ .select cs b) (hQ: ∀ c a w,¬ Q' (.panic c) a w):
  ∀ (ord:List Nat) (listed:Array Bool) (a:Act),MX .any ops listed->N2 .any ops S pu ord listed=true->AO P ops C [] pu spec (fun a' _=> ∀ w,C w->wpAny P .any ops Q' k (qz ord listed) a' w) ord a (fun _=>True)->
   IF P .any ops C S [] pu spec Q' (ord.length+k) listed a (fun _=>True)
 |[],listed,a,_,hB,h=>by
  unfold N2 at hB
  unfold AO qz at h
  have hB':=eD.1 hB
  simp only[fT,cC]
  cases k with
  |zero=>
   obtain⟨w,hw⟩:=h0
   exact⟨(h w hw).1,fun w hc _=>(h w hc).2⟩
  |succ k=>exact⟨fun hr w hc _=>(h w hc).1 hr,fun i hi=>by rw[if_pos (hB' i hi)];exact fun w hc _=>(h w hc).2 i hi⟩
 |i::r,listed,a,hclo,hB,h=>by
  simp only[N2,bg]at hB
  obtain⟨⟨⟨⟨hr,hf⟩,hS⟩,hp⟩,hB'⟩:=hB
  have hi: ∃ oi,ops[i]? =some oi:=by
   cases ho:ops[i]? with
   |none=>unfold AO zp at h;simp only[ho]at h
   |some o=>exact⟨o,rfl⟩
  obtain⟨oi,hi⟩:=hi
  have key:zp P ops C [] pu spec i (IF P .any ops C S [] pu spec Q' (r.length+k) (listed.setIfInBounds i true)) a (fun _=>True):=by
   unfold AO at h
   unfold zp at h⊢
   simp only[hi]at h⊢
   split at h
   rename_i hwt
   rw[if_pos hwt]
   simp only[List.contains_nil,dh,if_false]at h⊢
   obtain⟨v,h1,h2⟩:=h
   exact⟨v,(by first|exact h1|(rw[if_pos hp];exact h1)),BM k hC h0 hsel hQ r _ _ (hclo.put (by simpa using hr)) hB' h2⟩
   rename_i hwt
   rw[if_neg hwt]
   exact BM k hC h0 hsel hQ r _ _ (hclo.put (by simpa using hr)) hB' h
  have:=za (P:=P) (C:=C) (S:=S) (lo:=[]) (pu:=pu) (spec:=spec) (Q:=Q') (md:=.any) hC h0 hi hsel (by simpa using hS) (fun _=>by simp) (fun hp'=>by rw[hp]at hp';cases hp') hQ (r.length+k) listed a (fun _=>True) hclo (Region.free_spec hi hf) (by simpa using hr) key
  have e:(i::r).length+k=r.length+k+1:=by simp only[bf];omega
  rw[e]
  exact this
theorem rL {id:Nat} {l:List Oper} (hm:P.follows .mixedOrders=true) (ord S pu:List Nat) (k:Nat) (hn:Region.noSelect l.toArray=true) (hB:N2 .any l.toArray S pu ord (fU l.toArray.size false)=true) (hl:eG (ord.length+k) l.length=true) (hQ: ∀ c ρ w,¬ Q (.panic c) ρ w)
  (h:AW P n l.toArray (pp w) [] pu (fun _ _ _=>True) (fun ρ' _=> ∀ w',pp w w'->XW P n l.toArray Q k (qz ord (fU l.toArray.size false)) ρ' w') ord ρ (fun _=>True)):CW P n (.region id l.toArray true) Q ρ w:=fun a ha=>by
 refine wp_region_any hm ?_
 have hlen:l.toArray.size=ord.length+k:=by
  have:=ba hl
  simpa using this.symm
 have hc0:pp w {w with drawn:=w.drawn+1}:=(Below.refl w.heap.size w).drew
 have hG:=BM (P:=P) (ops:=l.toArray) (C:=pp w) (S:=S) (pu:=pu) (spec:=fun _ _ _=>True) (Q':=EP n Q) k pp.closed ⟨_,hc0⟩ (Region.noSelect_spec hn) (fun c a w ⟨ρ,_,hq⟩=>hQ c ρ w hq)
  ord (fU l.toArray.size false) a (fun k ok hk hl=>by
   have hlt:=(ux.1 hk).1
   simp only[dK]at hlt
   simp[hlt]at hl) hB ?_
 rw[hlen]
 rw[hlen]at hG
 exact kS pp.closed (fun _ _ _ _ _ _ _=>trivial) _ _ _ _ (fun _ _ _ _ _=>trivial) hG _ hc0 trivial
 have h1:=h a ha
 have key: ∀ (ord:List Nat) (a:Act) (Fc:iO) (lst:Array Bool),AO P l.toArray (pp w) [] pu (fun _ _ _=>True) (fun a' F'=> ∃ ρ',St n ρ' a'/\ ∀ w',pp w w'->XW P n l.toArray Q k lst ρ' w') ord a Fc->
   AO P l.toArray (pp w) [] pu (fun _ _ _=>True) (fun a' F'=> ∀ w',pp w w'->wpAny P .any l.toArray (EP n Q) k lst a' w') ord a Fc:=by
  intro ord
  induction ord with
  |nil=>
   intro a Fc lst ⟨ρ',hs,hk⟩ w' h2
   exact hk w' h2 a hs
  |cons i r ih=>
   intro a Fc lst hk
   unfold AO zp at hk⊢
   split at hk
   exact hk.elim
   split at hk
   rename_i hw
   rw[if_pos hw]
   simp only[List.contains_nil,dh,if_false]at hk⊢
   obtain⟨v,e1,e2⟩:=hk
   exact⟨v,e1,ih _ _ _ e2⟩
   rename_i hw
   rw[if_neg hw]
   exact ih _ _ _ hk
 exact key ord a _ _ h1
end
def Sp.row {α:Type} (lo:Nat) (Y:fu α) (es:List α):Sp:=⟨fun v w=> ∃ A c,v=.slice A es.length c/\es.length<=c/\Rd Y lo w.heap.size A es w,fun _ _ _ hb ⟨A,c,h1,h2,h3⟩=>⟨A,c,h1,h2,(h3.below hb).mono (ap _) hb.size⟩⟩
section
variable {P:Program} {n:Nat} {ρ:gV} {ops:Array Oper} {d:Nat} {t:TypeId} {p:String} {af:Array Edge} {g:Option (Nat×Bool)}
variable {C:iO} {lo pu:List Nat} {spec:Nat->Value->iO} {T:gV->iO->Prop} {r:List Nat} {Fc:iO} {i:Nat} {α:Type} {Y:fu α}
theorem E8 {es:List α} {lo':Nat} {f:FuncId} {xs:List Operand} {ats:Array TypeId} {vs:List Value} (hf:bh P f=true) (hi:ops[i]? =some (Og (some d) (.call {callee:=.value (.func f),args:=xs.toArray,argTypes:=ats}) t p af g)) (hw:kf ops ρ (Og (some d) (.call {callee:=.value (.func f),args:=xs.toArray,argTypes:=ats}) t p af g)=true) (hl:lo.contains i=true) (hdn:aQ d n=true)
  (hs:spec i=(Sp.row lo' Y es).V) (hC: ∀ w',C w'->lo'<=w'.heap.size) (hc: ∀ w',C w'->di P f vs w' fun v w2=> ∃ A c,v=.slice A es.length c/\es.length<=c/\Rd Y w'.heap.size w2.heap.size A es w2/\Below w'.heap.size w' w2) (hv:xs.map (ev ρ)=vs)
  (h: ∀ A c,es.length<=c->AW P n ops C lo pu spec T r (fB ρ d (.slice A es.length c)) (fun w=>Fc w/\(Sp.row lo' Y es).V (.slice A es.length c) w)):AW P n ops C lo pu spec T (i::r) ρ Fc:=
 AE hf hi hw hl hdn (fun w' hw'=>(hc w' hw').mono fun v w2 ⟨A,c,h1,h2,h3,h4⟩=>⟨h4,by rw[hs];exact⟨A,c,h1,h2,h3.mono (hC w' hw') (ap _)⟩⟩) hv fun v ⟨w',_,hv'⟩=>by
  rw[hs]at hv'⊢
  obtain⟨A,c,rfl,h2,_⟩:=hv'
  exact h A c h2
end
theorem Hp.learnOwn {α:Type} {Y:fu α} {w0 w w':World} {L L':List (Nat×Obj)} {F:List cf} {A:Option Addr} {n c:Nat} {e:TypeId} {es:List α} (H:Hp w0 w L F) (hj:Hp w w' L' []) (ho:gb Y (.slice A n c) e es L'):Hp w0 w' L (ee Y w.heap.size w'.heap.size A es::F):=
 H.learnRd hj.below (ho.rd (K:=[]) (M:=[]) (by simpa using hj))
section
variable {P:Program} {ρ:gV} {w:World}
theorem cu {fn:Func} {R:Value->World->Prop} {a0 T0 sz0 b0:Nat} {cs0:Array Value} {tt0:TypeId} {fr0:Nat×Nat} {u1:Nat} {v1:Value} (h:fn.results= #[.cell a0 T0,.tmp u1]) (hT0:lO P T0 sz0=true) (ha0:ρ a0=.pointer (some ⟨b0,0,none⟩)) (hb0:w.heap[b0]? =some (.cells cs0 tt0 fr0)) (hs0:cs0.size=sz0) (hv1:ρ u1=v1) (hR:R (.tuple #[.agg cs0,v1]) w):MU P fn R .ret ρ w:=
 ⟨_,fun ac hac=>by
  have hl0:=i6 (P:=P) (w:=w) (a:=⟨b0,0,none⟩) (xs:=cs0.toList) hT0 (by simpa using hs0) (fun j v hj=>by rw[Addr.add_lit,cC];exact aK hb0 (by simpa using hj))
  have h10:=hac.get a0
  rw[ha0,cZ]at h10
  rw[<-hv1,<-hac.get u1]
  simp[results,h,asAddr,h10,hl0],hR⟩
end
end
section
/-- a row of new memory within a call's value -/
def Sp.nrow {α:Type} (lo:Nat) (Y:fu α) (es:List α) (gv:Option Addr->Nat->Value):Sp:=⟨fun v w=> ∃ A c,v=gv A c/\es.length<=c/\Rd Y lo w.heap.size A es w,fun _ _ _ hb ⟨A,c,h1,h2,h3⟩=>⟨A,c,h1,h2,(h3.below hb).mono (ap _) hb.size⟩⟩
section
variable {P:Program} {n:Nat} {ρ:gV} {ops:Array Oper} {d:Nat} {t:TypeId} {p:String} {af:Array Edge} {g:Option (Nat×Bool)}
variable {C:iO} {lo pu:List Nat} {spec:Nat->Value->iO} {T:gV->iO->Prop} {r:List Nat} {Fc:iO} {i:Nat} {α:Type} {Y:fu α}
theorem JU {es:List α} {lo':Nat} {gv:Option Addr->Nat->Value} {f:FuncId} {xs:List Operand} {ats:Array TypeId} {vs:List Value} (hf:bh P f=true) (hi:ops[i]? =some (Og (some d) (.call {callee:=.value (.func f),args:=xs.toArray,argTypes:=ats}) t p af g)) (hw:kf ops ρ (Og (some d) (.call {callee:=.value (.func f),args:=xs.toArray,argTypes:=ats}) t p af g)=true) (hl:lo.contains i=true) (hdn:aQ d n=true)
  (hs:spec i=(Sp.nrow lo' Y es gv).V) (hC: ∀ w',C w'->lo'<=w'.heap.size) (hc: ∀ w',C w'->di P f vs w' fun v w2=> ∃ A c,v=gv A c/\es.length<=c/\Rd Y w'.heap.size w2.heap.size A es w2/\Below w'.heap.size w' w2) (hv:xs.map (ev ρ)=vs)
  (h: ∀ A c,es.length<=c->AW P n ops C lo pu spec T r (fB ρ d (gv A c)) (fun w=>Fc w/\(Sp.nrow lo' Y es gv).V (gv A c) w)):AW P n ops C lo pu spec T (i::r) ρ Fc:=
 AE hf hi hw hl hdn (fun w' hw'=>(hc w' hw').mono fun v w2 ⟨A,c,h1,h2,h3,h4⟩=>⟨h4,by rw[hs];exact⟨A,c,h1,h2,h3.mono (hC w' hw') (ap _)⟩⟩) hv fun v ⟨w',_,hv'⟩=>by
  rw[hs]at hv'⊢
  obtain⟨A,c,rfl,h2,_⟩:=hv'
  exact h A c h2
end
theorem Hp.learnApart {α:Type} {Y:fu α} {w0 w w':World} {L:List (Nat×Obj)} {F F0:List cf} {b:Nat} {o:Obj} {A:Option Addr} {es:List α} (H0:Hp w0 w L F0) (H:Hp w0 w' ((b,o)::L) F) (hw:w.heap.size<=w'.heap.size) (hr:Rd Y w.heap.size w'.heap.size A es w')
  (hap:0<es.length-> ∃ (j:Nat) (u:Value),(Y.all es)[j]? =some u/\ ∀ k,w'.cell? ⟨b,k,none⟩≠some u): ∃ lo hi,w.heap.size<=lo/\Hp w0 w' ((b,o)::L) (ee Y lo hi A es::F):=by
 by_cases h0:0<es.length
 obtain⟨b',o',hA,h1,h2,hc⟩:=hr h0
 obtain⟨j,u,hj,hu⟩:=hap h0
 have hne:b≠b':=fun e=>hu _ (e▸hc j u hj)
 refine⟨b',b'+1,h1,H.below,H.ents,H.nodup,fun f hf=> ?_⟩
 rcases ay.1 hf with rfl|hf
 refine⟨fun _=>⟨b',o',hA,ap _,xl _,hc⟩,h2,fun e he=> ?_⟩
 show e.1<b'∨b'+1<=e.1
 rcases ay.1 he with rfl|he
 dsimp only;omega
 have:=H0.ltAll e he
 omega
 exact H.facts f hf
 refine⟨w.heap.size,w.heap.size,ap _,H.below,H.ents,H.nodup,fun f hf=> ?_⟩
 rcases ay.1 hf with rfl|hf
 refine⟨fun h=>absurd h h0,hw,fun e _=> ?_⟩
 show e.1<w.heap.size∨w.heap.size<=e.1
 omega
 exact H.facts f hf
theorem Hp.joinR {w0 w w':World} {L L':List (Nat×Obj)} {F:List cf} (H:Hp w0 w L F) (H':Hp w w' L' []):Hp w0 w' (L++L'++[]) F:=by
 rw[aP];exact(H.join H').perm y8
theorem Rb {w:World} {b k:Nat} {cs:Array Value} {T:TypeId} {fr:Nat×Nat} {u:Value} (h:w.heap[b]? =some (.cells cs T fr)) (hc:w.cell? ⟨b,k,none⟩=some u):u∈cs:=by
 simp only[World.cell?,h]at hc
 simp at hc
 exact Array.mem_of_getElem? hc
end
section
section
variable {P:Program} {n:Nat} {Q:ig} {ρ:gV} {w:World} {ops:Array Oper} {rest:List Oper} {d:Nat} {t:TypeId} {p:String} {af:Array Edge}
variable {w0:World} {L:List (Nat×Obj)} {F:List cf}
theorem TW (H:Hp w0 w L F) {T E bytes m:Nat} {z:Value} {kx ky:IntKind} {x y:Operand} (hT:ek P T E 1=true) (hI:(P.info? E).map (fun i=>(i.zero,i.size,i.bytes))=some (some z,1,bytes)) (hz1:z.cells= #[z])
  (hx:ev ρ x=.int kx (m:Nat)) (hy:ev ρ y=.int ky (m:Nat)) (hb:bytes*m<=281474976710656) (h63:m<=9223372036854775807) (hdn:aQ d n=true)
  (h: ∀ w' b,Hp w0 w' ((b,.cells (ao m z).toArray E)::L) F->LW P n ops rest Q (fB ρ d (.slice (some ⟨b,0,none⟩) m m)) w'):LW P n ops (O d (.makeSlice T x y) t p af::rest) Q ρ w:=by
 obtain⟨hu,-,-⟩:=fe hT
 have hm:madeCells #[z] m=(ao m z).toArray:=by
  apply Array.ext
  simp[madeCells]
  intro i h1 h2
  simp[madeCells,Nat.mod_one]
 refine dE rfl rfl hdn ?_ (h _ _ (H.alloc (.cells (ao m z).toArray E)))
 have:=run_make_row' (P:=P) T E z bytes hu hI hz1 kx ky m hb h63 w
 rw[hm]at this
 simp only[execOp,hx,hy,Sem.run_bind,this]
 rfl
end
end
section
open Go Go.RowKit Go.MapKept
open Go.Maps (Keyed)
/-- a map to ints: what it answers for each key -/
structure IE {κ:Type} (P:Program) (kt:TypeId) (kv:κ->Value) (f:κ->Int) (es:Array MapEntry) (clock:Nat):Prop where
 vals: ∀ x∈es.toList,∃ k,x.key=kv k/\x.val=.int .i64 (f k)
 keys: ∀ x∈es.toList,∃ l,keyOf P kt x.key=some l
 has: ∀ k,f k≠0-> ∃ x∈es.toList,x.key=kv k
 born: ∀ (i:Nat) (x:MapEntry),es.toList[i]? =some x->x.born=i
 clk:clock=es.size
 one: ∀ (i j:Nat) (x y:MapEntry),es.toList[i]? =some x->es.toList[j]? =some y->x.key=y.key->i=j
def P9 {κ:Type} [DecidableEq κ] (f:κ->Int) (k:κ) (v:Int):κ->Int:=fun x=>if x=k then v else f x
section
variable {κ:Type} [DecidableEq κ] {P:Program} {kt:TypeId} {kv:κ->Value} {f:κ->Int} {es:Array MapEntry} {clock:Nat}
theorem IE.nil:IE P kt kv (fun _=>0) #[] 0:=⟨by simp,by simp,fun k h=>absurd rfl h,by simp,rfl,by simp⟩
theorem IE.push (M:IE P kt kv f es clock) {k:κ} {l:Lit} (hl:keyOf P kt (kv k)=some l) (hno: ∀ e∈es.toList,e.key≠kv k) (v:Int):IE P kt kv (P9 f k v) (es.push {key:=kv k,val:=.int .i64 v,born:=clock}) (clock+1):=by
 have hget: ∀ i x,(es.push {key:=kv k,val:=.int .i64 v,born:=clock}).toList[i]? =some x->es.toList[i]? =some x∨(i=es.size/\x={key:=kv k,val:=.int .i64 v,born:=clock}):=fun i x hx=>by
  rw[vW,List.getElem?_append]at hx
  split at hx
  exact .inl hx
  rename_i h
  right
  simp at h
  have hi:i-es.toList.length=0:=by
   have:=(aC.1 hx).1
   simpa using this
  rw[hi]at hx
  simp at hx hi
  exact⟨by omega,hx.symm⟩
 refine⟨fun x hx=> ?_,fun x hx=> ?_,fun a ha=> ?_,fun i x hx=> ?_,by rw[M.clk];simp,fun i i' x y hx hy he=> ?_⟩
 rw[vW]at hx
 rcases ar.1 hx with hx|hx
 obtain⟨a,ha,hv⟩:=M.vals x hx
 refine⟨a,ha,?_⟩
 have:a≠k:=fun h=>hno x hx (by rw[ha,h])
 simp[P9,this,hv]
 rw[aq.1 hx]
 exact⟨k,rfl,by simp[P9]⟩
 rw[vW]at hx
 rcases ar.1 hx with hx|hx
 exact M.keys x hx
 rw[aq.1 hx];exact⟨l,hl⟩
 rw[vW]
 by_cases hak:a=k
 subst hak;exact⟨_,ce _ (eh _),rfl⟩
 have:f a≠0:=by simpa [P9,hak]using ha
 obtain⟨y,hy,h1⟩:=M.has a this
 exact⟨y,gk _ hy,h1⟩
 rcases hget i x hx with hx|⟨rfl,rfl⟩
 exact M.born i x hx
 exact M.clk
 rcases hget i x hx with hx|⟨rfl,rfl⟩
 rcases hget i' y hy with hy|⟨rfl,rfl⟩
 exact M.one i i' x y hx hy he
 exact absurd he (hno x (ab hx))
 rcases hget i' y hy with hy|⟨rfl,rfl⟩
 exact absurd he.symm (hno y (ab hy))
 rfl
theorem IE.congr {g:κ->Int} (M:IE P kt kv f es clock) (h:f=g):IE P kt kv g es clock:=h▸M
end
section
variable {P:Program} {n:Nat} {Q:ig} {ρ:gV} {w:World} {ops:Array Oper} {rest:List Oper} {d:Nat} {t:TypeId} {p:String} {af:Array Edge} {g:Option (Nat×Bool)} {dst:Option Nat}
variable {w0:World} {L:List (Nat×Obj)} {F:List cf} {κ:Type} [DecidableEq κ] {kt et:TypeId} {kv:κ->Value} {f:κ->Int} {es:Array MapEntry} {clock:Nat} {T:TypeId} {b:Nat} {k:κ} {l:Lit}
end
end
section
section
variable {P:Program} {n:Nat} {Q:ig} {ρ:gV} {w:World} {ops:Array Oper} {rest:List Oper} {d:Nat} {t:TypeId} {p:String} {af:Array Edge}
variable {w0:World} {L:List (Nat×Obj)} {F:List cf}
theorem RU {T:TypeId} (h:yh P T=true):P.underlying T=some .string:=by
 unfold yh at h
 split at h
 assumption
 cases h
theorem Sg {T:TypeId} {k:IntKind} (h:pB P T k=true):P.underlying T=some (.int k):=by
 unfold pB at h
 split at h
 rename_i k' hk;rw[hk,of_decide_eq_true h]
 cases h
theorem Ta {Y:fu UInt8} (H:Hp w0 w L F) {x:Operand} {S T E:TypeId} {s:ByteArray} (hS:yh P S=true) (hT:ek P T E 1=true) (he:pB P E .u8=true) (hx:ev ρ x=.string s) (hY: ∀ c:UInt8,Y.f c=[.int .u8 c.toNat]) (_h1:Y.sz=1) (hdn:aQ d n=true)
  (h: ∀ w' A c,s.data.toList.length<=c->Hp w0 w' L (ee Y w.heap.size w'.heap.size A s.data.toList::F)->LW P n ops rest Q (fB ρ d (.slice A s.data.toList.length c)) w'):LW P n ops (O d (.convert S T x) t p af::rest) Q ρ w:=by
 obtain⟨hT1,-,-⟩:=fe hT
 have hr:=Lib.run_convert_string_bytes (P:=P) w S T E s (RU hS) hT1 (Sg he)
 have hsz:s.size=s.data.toList.length:=by rw[ch];rfl
 have hall: ∀ l:List UInt8,Y.all l=(l.map fun c=>Value.int .u8 c.toNat):=fun l=>by
  unfold fu.all
  induction l with
  |nil=>rfl
  |cons a l ih=>
   rw[gy,hY,ih]
   rfl
 have hB:Below w.heap.size w (Lib.bytesWorld w E s):=⟨rfl,rfl,rfl,by rw[Lib.bytesWorld_size];omega,fun k hk=>Lib.bytesWorld_at_old w E s k hk⟩
 have hR:Rd Y w.heap.size (Lib.bytesWorld w E s).heap.size (some ⟨w.heap.size,0,none⟩) s.data.toList (Lib.bytesWorld w E s):=fun h0=>⟨w.heap.size,0,rfl,ap _,by rw[Lib.bytesWorld_size];omega,fun j u hj=>by
  rw[hall]at hj
  have hjl:j<s.data.toList.length:=by
   have:=(aC.1 hj).1
   simpa using this
  rw[cC,Lib.bytesWorld_cell w E s j (by omega)]
  rw[aJ,ai hjl]at hj
  simp only[dA,jI]at hj
  rw[<-hj,cS,ai hjl]
  rfl⟩
 rw[hsz]at hr
 refine dE rfl rfl hdn (w':=Lib.bytesWorld w E s) ?_ (h _ _ (grownCap w s.data.toList.length 0 E) (grownCap_ge _ _ _ _) (H.learnRd hB hR))
 simp only[execOp,hx,Sem.run_bind,hr,Result.andThen_ok,Sem.run_pure]
end
end
section
/-- a row of new memory, to be written -/
def Sp.orow {α:Type} (lo:Nat) (Y:fu α) (e:TypeId) (es:List α):Sp:=⟨fun v w=> ∃ (A:Option Addr) (c:Nat) (L':List (Nat×Obj)),v=.slice A es.length c/\es.length<=c/\c<=maxLen/\gb Y (.slice A es.length c) e es L'/\(∀ q∈L',w.heap[q.1]? =some q.2/\lo<=q.1)/\(L'.map Prod.fst).Nodup,fun _ _ _ hb ⟨A,c,L',h1,h2,h3,h4,h5,h6⟩=>⟨A,c,L',h1,h2,h3,h4,fun q hq=>⟨(hb.block q.1 (bX (h5 q hq).1)).trans (h5 q hq).1,(h5 q hq).2⟩,h6⟩⟩
section
variable {P:Program} {n:Nat} {ρ:gV} {ops:Array Oper} {d:Nat} {t:TypeId} {p:String} {af:Array Edge} {g:Option (Nat×Bool)}
variable {C:iO} {lo pu:List Nat} {spec:Nat->Value->iO} {T:gV->iO->Prop} {r:List Nat} {Fc:iO} {i:Nat} {α:Type} {Y:fu α}
theorem zW {es:List α} {lo':Nat} {e:TypeId} {f:FuncId} {xs:List Operand} {ats:Array TypeId} {vs:List Value} (hf:bh P f=true) (hi:ops[i]? =some (Og (some d) (.call {callee:=.value (.func f),args:=xs.toArray,argTypes:=ats}) t p af g)) (hw:kf ops ρ (Og (some d) (.call {callee:=.value (.func f),args:=xs.toArray,argTypes:=ats}) t p af g)=true) (hl:lo.contains i=true) (hdn:aQ d n=true)
  (hs:spec i=(Sp.orow lo' Y e es).V) (hC: ∀ w',C w'->lo'<=w'.heap.size) (hc: ∀ w',C w'->di P f vs w' fun v w2=> ∃ A c L',v=.slice A es.length c/\es.length<=c/\c<=maxLen/\gb Y (.slice A es.length c) e es L'/\Hp w' w2 L' []) (hv:xs.map (ev ρ)=vs)
  (h: ∀ A c,es.length<=c->AW P n ops C lo pu spec T r (fB ρ d (.slice A es.length c)) (fun w=>Fc w/\(Sp.orow lo' Y e es).V (.slice A es.length c) w)):AW P n ops C lo pu spec T (i::r) ρ Fc:=
 AE hf hi hw hl hdn (fun w' hw'=>(hc w' hw').mono fun v w2 ⟨A,c,L',h1,h2,h3,h4,h5⟩=>⟨h5.below,by rw[hs];exact⟨A,c,L',h1,h2,h3,h4,fun q hq=>⟨(h5.ents q hq).1,aW (hC w' hw') (h5.ents q hq).2⟩,h5.nodup⟩⟩) hv fun v ⟨w',_,hv'⟩=>by
  rw[hs]at hv'⊢
  obtain⟨A,c,L',rfl,h2,_⟩:=hv'
  exact h A c h2
end
theorem Hp.ofNew {w w':World} {L':List (Nat×Obj)} (hb:Below w.heap.size w w') (h1: ∀ q∈L',w'.heap[q.1]? =some q.2/\w.heap.size<=q.1) (h2:(L'.map Prod.fst).Nodup):Hp w w' L' []:=⟨hb,h1,h2,by simp⟩
end
section
theorem d8.rd {α:Type} {Y:fu α} {es:List α} {cap g:Nat} {cur:Array Value} {tt:TypeId} {fr:Nat×Nat} {w:World} (h:d8 Y es cap cur) (hb:w.heap[g]? =some (.cells cur tt fr)):Rd Y g (g+1) (some ⟨g,0,none⟩) es w:=fun _=>by
 refine⟨g,0,rfl,ap _,xl _,fun j u hu=> ?_⟩
 have h2:cur.toList[j]? =some u:=by
  have h3:=h.all
  rw[<-h3,dz]at hu
  split at hu
  exact hu
  cases hu
 rw[cC]
 exact aK hb (by simpa using h2)
theorem d8.rd0 {α:Type} {Y:fu α} {es:List α} {cap g:Nat} {cur:Array Value} {tt:TypeId} {fr:Nat×Nat} {w:World} (h:d8 Y es cap cur) (hb:w.heap[g]? =some (.cells cur tt fr)):Rd Y 0 w.heap.size (some ⟨g,0,none⟩) es w:=(h.rd hb).mono (aV _) (bX hb)
theorem Gx {w:World} {b o:Nat} {ys:List Value} (h: ∀ j v,ys[j]? =some v->w.cell? ⟨b,o+j,none⟩=some v) (off:Nat) {xs:List Value} (hx:(ys.drop off).take xs.length=xs): ∀ j v,xs[j]? =some v->w.cell? ⟨b,o+off+j,none⟩=some v:=fun j v hj=>by
 rw[<-hx,dz]at hj
 split at hj
 rw[df]at hj
 rw[lx]
 exact h _ _ hj
 cases hj
section
variable {P:Program} {ρ:gV} {w:World} {t:TypeId} {p:String} {af:Array Edge} {g:Option (Nat×Bool)} {dst:Option Nat}
theorem jW {x:Operand} {T sz b:Nat} {cs:Array Value} {tt:TypeId} {fr:Nat×Nat} (off:Nat) (xs:List Value) (hT:lO P T sz=true) (hx:ev ρ x=.pointer (some ⟨b,off,none⟩)) (hs:xs.length=sz) (hb:w.heap[b]? =some (.cells cs tt fr)) (hc:(cs.toList.drop off).take xs.length=xs):(execOp (ev ρ) (Og dst (.load T x) t p af g)).run P w=.ok (.value (.agg xs.toArray)) w:=
 jF hT hx hs (by
  have h0:=Gx (w:=w) (b:=b) (o:=0) (ys:=cs.toList) (fun j v hj=>by rw[cC];exact aK hb (by simpa using hj)) off hc
  intro j v hj
  have:=h0 j v hj
  rwa[cC]at this)
theorem xC {α:Type} {Y:fu α} {es:List α} {cap:Nat} {cur:Array Value} {x:Operand} {T sz b k:Nat} {tt:TypeId} {fr:Nat×Nat} {e:α} (off:Nat) (xs:List Value) (hT:lO P T sz=true) (hR:d8 Y es cap cur) (hk:es[k]? =some e) (hx:ev ρ x=.pointer (some ⟨b,k*Y.sz+off,none⟩)) (hs:xs.length=sz) (hb:w.heap[b]? =some (.cells cur tt fr)) (hc:((Y.f e).drop off).take xs.length=xs):(execOp (ev ρ) (Og dst (.load T x) t p af g)).run P w=.ok (.value (.agg xs.toArray)) w:=
 jF hT hx hs (Gx (fun _ _ hj=>aK hb (hR.get hk hj)) off hc)
end
theorem tb {w:World} {b1 b2:Nat} {c1 c2:Array Value} {T1 T2:TypeId} {f1 f2:Nat×Nat} (h1:w.heap[b1]? =some (.cells c1 T1 f1)) (h2:w.heap[b2]? =some (.cells c2 T2 f2)) (hT:eG T1 T2=false):b1≠b2:=fun h=>by
 subst h
 rw[h1]at h2
 injection h2 with h2
 injection h2 with _ h3 _
 subst h3
 simp at hT
theorem Hp.adopt2 {w0 w w':World} {L:List (Nat×Obj)} {F:List cf} (H:Hp w0 w L F) (hw:Below w.heap.size w w') {b1 b2:Nat} {o1 o2:Obj} (h1:w'.heap[b1]? =some o1/\w.heap.size<=b1) (h2:w'.heap[b2]? =some o2/\w.heap.size<=b2) (n12:b1≠b2):Hp w0 w' ((b1,o1)::(b2,o2)::L) F:=by
 have H2:=H.adoptNew hw h2.1 h2.2
 refine H2.adopt h1.1 (aW H.size h1.2) (fun e he=> ?_) (fun f hf=> ?_)
 rcases ay.1 he with rfl|he
 exact fun h=>n12 h.symm
 have:=H.ltAll e he;omega
 have:=(H.facts f hf).2.1;omega
theorem Hp.adopt3 {w0 w w':World} {L:List (Nat×Obj)} {F:List cf} (H:Hp w0 w L F) (hw:Below w.heap.size w w') {b1 b2 b3:Nat} {o1 o2 o3:Obj} (h1:w'.heap[b1]? =some o1/\w.heap.size<=b1) (h2:w'.heap[b2]? =some o2/\w.heap.size<=b2) (h3:w'.heap[b3]? =some o3/\w.heap.size<=b3) (n12:b1≠b2) (n13:b1≠b3) (n23:b2≠b3):Hp w0 w' ((b1,o1)::(b2,o2)::(b3,o3)::L) F:=by
 have H2:=H.adopt2 hw h2 h3 n23
 refine H2.adopt h1.1 (aW H.size h1.2) (fun e he=> ?_) (fun f hf=> ?_)
 rcases ay.1 he with rfl|he
 exact fun h=>n12 h.symm
 rcases ay.1 he with rfl|he
 exact fun h=>n13 h.symm
 have:=H.ltAll e he;omega
 have:=(H.facts f hf).2.1;omega
theorem RK {α β:Type} {f:α->β} {out xs:List α} {k:Nat} {x x':α} (hx:out[k]? =some x) (hma:out.map f=xs.map f) (hdr:out.drop k=xs.drop k) (ha:f x'=f x):(out.set k x').map f=xs.map f/\(out.set k x').drop (k+1)=xs.drop (k+1)/\(out.set k x').take (k+1)=out.take k++[x']:=by
 have hl:k<out.length:=(aC.1 hx).1
 refine⟨?_,?_,?_⟩
 rw[cO,ha,<-hma]
 apply dg
 intro i
 rw[lQ]
 split
 rename_i hi
 subst hi
 rw[aJ,hx,if_pos (by simpa using hl)]
 rfl
 rfl
 rw[tj (by omega)]
 have:=congrArg (List.drop 1) hdr
 rwa[km,km]at this
 rw[List.take_add_one,BG (ap k),ak hl]
 rfl
theorem BB {α:Type} {out xs:List α} {k:Nat} {x:α} (hdr:out.drop k=xs.drop k) (hx:out[k]? =some x):xs[k]? =some x:=by
 have:=congrArg (fun l=>l[0]?) hdr
 simp only[df,mS]at this
 rw[<-this];exact hx
theorem Hp.joinF {w0 w w':World} {L L':List (Nat×Obj)} {F F':List cf} (H:Hp w0 w L F) (H':Hp w w' L' F') (hlo: ∀ f∈F',w.heap.size<=f.lo):Hp w0 w' (L'++L) (F++F'):=by
 have h:=H.later H'.below
 refine⟨h.below,fun e he=> ?_,?_,fun f hf=> ?_⟩
 rcases ar.1 he with he|he
 obtain⟨h1,h2⟩:=H'.ents e he
 exact⟨h1,aW H.size h2⟩
 exact h.ents e he
 rw[bi,pQ]
 refine⟨H'.nodup,h.nodup,fun a ha b hb hab=> ?_⟩
 obtain⟨x,hx,rfl⟩:=bK.1 ha
 obtain⟨y,hy,rfl⟩:=bK.1 hb
 have h1:=(H'.ents x hx).2
 have h2:=H.ltAll y hy
 omega
 rcases ar.1 hf with hf|hf
 obtain⟨h1,h2,h3⟩:=h.facts f hf
 refine⟨h1,h2,fun e he=> ?_⟩
 rcases ar.1 he with he|he
 have h4:=(H.facts f hf).2.1
 have h5:=(H'.ents e he).2
 exact .inr (by omega)
 exact h3 e he
 obtain⟨h1,h2,h3⟩:=H'.facts f hf
 refine⟨h1,h2,fun e he=> ?_⟩
 rcases ar.1 he with he|he
 exact h3 e he
 have h4:=H.ltAll e he
 have h5:=hlo f hf
 exact .inl (by omega)
theorem Hp.learnNil {α:Type} {Y:fu α} {w0 w:World} {L:List (Nat×Obj)} {F:List cf} (H:Hp w0 w L F) (n:Nat) (hn:n<=w.heap.size) (A:Option Addr):Hp w0 w L (ee Y n n A ([]:List α)::F):=by
 refine⟨H.below,H.ents,H.nodup,fun f hf=> ?_⟩
 rcases ay.1 hf with rfl|hf
 exact⟨Rd.nil,hn,fun e _=>fC e.1 n⟩
 exact H.facts f hf
theorem xk {α:Type} {Y:fu α} {a:α} {z:Array Value} (hz:z.toList=Y.f a) (m:Nat):(madeCells z (m*Y.sz)).toList=Y.all (ao m a):=by
 have hzs:z.size=Y.sz:=by rw[<-ch,hz,Y.len]
 have hpos:=Y.pos
 apply dg
 intro i
 by_cases hi:i<m*Y.sz
 have h1:i/Y.sz<m:=AI (by rw[Fe];exact hi)
 have h2:i%Y.sz<Y.sz:=jU _ hpos
 have h3:=fu.get (Y:=Y) (es:=ao m a) (k:=i/Y.sz) (j:=i%Y.sz) (by simpa using h1) h2
 have h4:i/Y.sz*Y.sz+i%Y.sz=i:=by rw[Fe];exact Nat.div_add_mod i Y.sz
 rw[h4,List.getElem_replicate,<-hz]at h3
 rw[h3]
 simp only[madeCells,Array.getElem?_toList,Array.getElem?_map,hzs]
 rw[Array.getElem?_range]
 simp[hi,hzs,h2]
 rw[bL (by simp[madeCells];omega),bL (by rw[fu.length];simp;omega)]
section
variable {P:Program} {n:Nat} {Q:ig} {ρ:gV} {w:World} {ops:Array Oper} {rest:List Oper} {d:Nat} {t:TypeId} {p:String} {af:Array Edge}
variable {w0:World} {L:List (Nat×Obj)} {F:List cf}
theorem pM {α:Type} {Y:fu α} (a:α) (m:Nat) (H:Hp w0 w L F) {T E bytes:Nat} {z:Value} {kx ky:IntKind} {x y:Operand} (hT:ek P T E Y.sz=true) (hI:(P.info? E).map (fun i=>(i.zero,i.size,i.bytes))=some (some z,Y.sz,bytes)) (hz1:z.cells.toList=Y.f a)
  (hx:ev ρ x=.int kx (m:Nat)) (hy:ev ρ y=.int ky (m:Nat)) (hb:bytes*m<=281474976710656) (h63:m<=9223372036854775807) (hdn:aQ d n=true)
  (h: ∀ w' b cur,d8 Y (ao m a) m cur->Hp w0 w' ((b,.cells cur E (0,0))::L) F->LW P n ops rest Q (fB ρ d (.slice (some ⟨b,0,none⟩) m m)) w'):LW P n ops (O d (.makeSlice T x y) t p af::rest) Q ρ w:=by
 obtain⟨hu,-,-⟩:=fe hT
 obtain⟨i,hi,hzz⟩:=i4.1 hI
 simp only[Prod.mk.injEq]at hzz
 obtain⟨hz,hs,hby⟩:=hzz
 have hb':(i.bytes:Int)*(m:Int)<=281474976710656:=by
  rw[hby]
  have h:((bytes*m:Nat):Int)<=281474976710656:=by omega
  rwa[Int.natCast_mul]at h
 have hr:=run_make (P:=P) w T E i z hu hi hz kx ky m m (by omega) (fj _) hb' (by omega)
 simp only[lR,hs]at hr
 have hrow:d8 Y (ao m a) m (madeCells z.cells (m*Y.sz)):=
  ⟨size_madeCells _ _,by rw[xk hz1,bc];exact fD (by rw[fu.length];simp),by simp,h63⟩
 refine dE rfl rfl hdn ?_ (h _ _ _ hrow (H.alloc (.cells (madeCells z.cells (m*Y.sz)) E)))
 simp only[execOp,hx,hy,Sem.run_bind,hr]
 rfl
end
theorem Uh {P:Program} {n:Nat} {Q:ig} {ρ:gV} {w:World} {ops:Array Oper} (i j m q:Nat) {f:Nat} {listed:Array Bool} (hr:(Region.ready .any ops listed==[i,j,m,q])=true) (hi:(ops[i]?).isSome=true) (hj:(ops[j]?).isSome=true) (hm:(ops[m]?).isSome=true) (hq:(ops[q]?).isSome=true) (h1:LW P n ops (pick ops [i]) (Fu (XW P n ops Q f (listed.setIfInBounds i true)) Q) ρ w) (h2:LW P n ops (pick ops [j]) (Fu (XW P n ops Q f (listed.setIfInBounds j true)) Q) ρ w) (h3:LW P n ops (pick ops [m]) (Fu (XW P n ops Q f (listed.setIfInBounds m true)) Q) ρ w) (h4:LW P n ops (pick ops [q]) (Fu (XW P n ops Q f (listed.setIfInBounds q true)) Q) ρ w):XW P n ops Q (f+1) listed ρ w:=fun a ha=>by
 have hr':Region.ready .any ops listed=[i,j,m,q]:=by simpa using hr
 refine⟨fun h0=>(by rw[hr']at h0;cases h0),fun k hk=> ?_⟩
 rw[hr']at hk
 simp only[ay,bu,or_false]at hk
 rcases hk with rfl|rfl|rfl|rfl
 exact wM hi h1 a ha
 exact wM hj h2 a ha
 exact wM hm h3 a ha
 exact wM hq h4 a ha
structure Deep (τ:Type) where
 rd:τ->Nat->Nat->World->Prop
 st: ∀ t lo hi w w',(∀ k,lo<=k->k<hi->w'.heap[k]? =w.heap[k]?)->rd t lo hi w->rd t lo hi w'
 mono: ∀ t lo hi lo' hi' w,rd t lo hi w->lo'<=lo->hi<=hi'->rd t lo' hi' w
def Sp.deep {τ:Type} (lo:Nat) (D:Deep τ) (val:τ->Array Value) (g:Array Value->Value) (φ:τ->Prop):Sp:=⟨fun v w=> ∃ t,v=g (val t)/\φ t/\D.rd t lo w.heap.size w,fun _ _ _ hb ⟨t,h1,h2,h3⟩=>⟨t,h1,h2,D.mono _ _ _ _ _ _ (D.st _ _ _ _ _ (fun k _ hk=>hb.block k hk) h3) (ap _) hb.size⟩⟩
section
variable {P:Program} {n:Nat} {ρ:gV} {ops:Array Oper} {d:Nat} {t:TypeId} {p:String} {af:Array Edge} {g:Option (Nat×Bool)}
variable {C:iO} {lo pu:List Nat} {spec:Nat->Value->iO} {T:gV->iO->Prop} {r:List Nat} {Fc:iO} {i:Nat} {τ:Type} {D:Deep τ} {val:τ->Array Value} {gv:Array Value->Value} {φ:τ->Prop}
theorem ud {lo':Nat} {f:FuncId} {xs:List Operand} {ats:Array TypeId} {vs:List Value} (hf:bh P f=true) (hi:ops[i]? =some (Og (some d) (.call {callee:=.value (.func f),args:=xs.toArray,argTypes:=ats}) t p af g)) (hw:kf ops ρ (Og (some d) (.call {callee:=.value (.func f),args:=xs.toArray,argTypes:=ats}) t p af g)=true) (hl:lo.contains i=true) (hdn:aQ d n=true)
  (hs:spec i=(Sp.deep lo' D val gv φ).V) (hC: ∀ w',C w'->lo'<=w'.heap.size) (hc: ∀ w',C w'->di P f vs w' fun v w2=> ∃ t,v=gv (val t)/\φ t/\D.rd t w'.heap.size w2.heap.size w2/\Below w'.heap.size w' w2) (hv:xs.map (ev ρ)=vs)
  (h: ∀ cs,AW P n ops C lo pu spec T r (fB ρ d (gv cs)) (fun w=>Fc w/\(Sp.deep lo' D val gv φ).V (gv cs) w)):AW P n ops C lo pu spec T (i::r) ρ Fc:=
 AE hf hi hw hl hdn (fun w' hw'=>(hc w' hw').mono fun v w2 ⟨t,h1,h2,h3,h4⟩=>⟨h4,by rw[hs];exact⟨t,h1,h2,D.mono _ _ _ _ _ _ h3 (hC w' hw') (ap _)⟩⟩) hv fun v ⟨w',_,hv'⟩=>by
  rw[hs]at hv'⊢
  obtain⟨t,rfl,_,_⟩:=hv'
  exact h (val t)
end
section
variable {P:Program} {ρ:gV} {w:World} {t:TypeId} {p:String} {af:Array Edge} {g:Option (Nat×Bool)} {dst:Option Nat}
end
section
variable {P:Program} {ρ:gV} {w:World} {t:TypeId} {p:String} {af:Array Edge} {g:Option (Nat×Bool)} {dst:Option Nat}
end
end
section
section
variable {P:Program} {n:Nat} {Q:ig} {ρ:gV} {w:World} {ops:Array Oper} {rest:List Oper} {d:Nat} {t:TypeId} {p:String} {af:Array Edge} {g:Option (Nat×Bool)} {dst:Option Nat} {op:Op}
theorem G {v:Value} (hr:(execOp (ev ρ) (O d op t p af)).run P w=.ok (.value v) w) (h:LW P n ops rest Q (fB ρ d v) w) (hdn:aQ d n=true:=by rfl):LW P n ops (O d op t p af::rest) Q ρ w:=dE rfl rfl hdn hr h
theorem ZG {o:Oper} (h:LW P n ops ({o with guard:=none}::rest) Q ρ w) (hw:kf ops ρ o=true:=by rfl):LW P n ops (o::rest) Q ρ w:=vd hw h
theorem ZN (h:LW P n ops rest Q (fB ρ d undef) w) (hw:kf ops ρ (Og (some d) op t p af g)=false:=by rfl) (hdn:aQ d n=true:=by rfl):LW P n ops (Og (some d) op t p af g::rest) Q ρ w:=sV hw rfl hdn h
theorem Zd {w0:World} {L:List (Nat×Obj)} {F:List cf} {x:Operand} {T b o:Nat} {v:Value} {cs:Array Value} {tt:TypeId} {fr:Nat×Nat} (hT:qx P T=true) (H:Hp w0 w L F) (i:Nat) (hx:ev ρ x=.pointer (some ⟨b,o,none⟩)) (hi:L[i]? =some (b,.cells cs tt fr)) (hc:cs[o]? =some v):(execOp (ev ρ) (Og dst (.load T x) t p af g)).run P w=.ok (.value v) w:=
 bd hT hx (aK (H.ent hi) hc)
theorem Zw {w0:World} {L:List (Nat×Obj)} {F:List cf} {x:Operand} {T sz b:Nat} {cs:Array Value} {tt:TypeId} {fr:Nat×Nat} (hT:lO P T sz=true) (H:Hp w0 w L F) (i:Nat) (hx:ev ρ x=.pointer (some ⟨b,0,none⟩)) (hi:L[i]? =some (b,.cells cs tt fr)) (hs:cs.size=sz):(execOp (ev ρ) (Og dst (.load T x) t p af g)).run P w=.ok (.value (.agg cs)) w:=
 kh hT hx (H.ent hi) hs
end
end
section
section
variable {P:Program} {n:Nat} {ρ:gV} {ops:Array Oper} {d:Nat} {t:TypeId} {p:String} {af:Array Edge} {g:Option (Nat×Bool)}
variable {C:iO} {lo pu:List Nat} {spec:Nat->Value->iO} {T:gV->iO->Prop} {r:List Nat} {Fc:iO} {i:Nat} {α:Type} {Y:fu α}
theorem KH (a:α) (m:Nat) {T' E bytes lo':Nat} {z:Value} {kx ky:IntKind} {x y:Operand} (hT:ek P T' E Y.sz=true) (hI:(P.info? E).map (fun i=>(i.zero,i.size,i.bytes))=some (some z,Y.sz,bytes)) (hz1:z.cells.toList=Y.f a)
  (hi:ops[i]? =some (Og (some d) (.makeSlice T' x y) t p af g)) (hw:kf ops ρ (Og (some d) (.makeSlice T' x y) t p af g)=true) (hl:lo.contains i=true) (hdn:aQ d n=true)
  (hs:spec i=(Sp.orow lo' Y E (ao m a)).V) (hC: ∀ w',C w'->lo'<=w'.heap.size) (hx:ev ρ x=.int kx (m:Nat)) (hy:ev ρ y=.int ky (m:Nat)) (hb:bytes*m<=281474976710656) (h63:m<=9223372036854775807)
  (h: ∀ A c,m<=c->AW P n ops C lo pu spec T r (fB ρ d (.slice A (ao m a).length c)) (fun w=>Fc w/\(Sp.orow lo' Y E (ao m a)).V (.slice A (ao m a).length c) w)):AW P n ops C lo pu spec T (i::r) ρ Fc:=by
 obtain⟨hu,-,-⟩:=fe hT
 obtain⟨ii,hii,hzz⟩:=i4.1 hI
 simp only[Prod.mk.injEq]at hzz
 obtain⟨hz,hsz,hby⟩:=hzz
 have hb':(ii.bytes:Int)*(m:Int)<=281474976710656:=by
  rw[hby]
  have h:((bytes*m:Nat):Int)<=281474976710656:=by omega
  rwa[Int.natCast_mul]at h
 have hrow:d8 Y (ao m a) m (madeCells z.cells (m*Y.sz)):=
  ⟨size_madeCells _ _,by rw[xk hz1,bc];exact fD (by rw[fu.length];simp),by simp,h63⟩
 refine Tt hi hw hl rfl hdn (fun b hab w' hcw=> ?_) fun v ⟨w',_,hv'⟩=> ?_
 have hr:=run_make (P:=P) w' T' E ii z hu hii hz kx ky m m (by omega) (fj _) hb' (by omega)
 simp only[lR,hsz]at hr
 unfold M0
 have hr2:(execOp b.eval (Og (some d) (.makeSlice T' x y) t p af g)).run P w'=.ok (.value (.slice (some ⟨w'.heap.size,0,none⟩) m m)) (w'.alloc (.cells (madeCells z.cells (m*Y.sz)) E)):=by
  rw[hab.eval]
  simp only[execOp,hx,hy,Sem.run_bind,hr]
  rfl
 rw[hr2]
 refine⟨(Below.refl _ _).alloc (ap _) _,?_⟩
 rw[hs]
 have ho:=d8.own (g:=w'.heap.size) (e:=E) hrow
 refine⟨some ⟨w'.heap.size,0,none⟩,m,_,by rw[bc],by rw[bc];exact ap _,h63,ho,fun q hq=> ?_,by simp⟩
 rw[aq.1 hq]
 exact⟨heap_alloc_new w' _,hC w' hcw⟩
 rw[hs]at hv'⊢
 obtain⟨A,c,L',rfl,h2,_⟩:=hv'
 exact h A c (by simpa using h2)
end
end
section
section
variable {P:Program} {md:Region.Mode} {Q:Exit->Act->World->Prop}
def Qu (d:Nat) (o:Oper):Oper:={o with after:=o.after.push ⟨d,.data⟩}
def uf (l:List Oper) (k d:Nat):List Oper:=l.mapIdx fun i o=>if eG i k then Qu d o else o
theorem tf (l:List Oper) (k d i:Nat):(uf l k d).toArray[i]? =(l.toArray[i]?).map fun o=>if i=k then Qu d o else o:=by
 unfold uf
 simp only[List.getElem?_toArray,List.getElem?_mapIdx]
 cases l[i]? with
 |none=>rfl
 |some o=>
  by_cases h:i=k
  subst h;simp
  simp[h]
theorem xV (l:List Oper) (k d:Nat) (t:Array Value):yielded (uf l k d).toArray t=yielded l.toArray t:=by
 funext j
 unfold yielded
 rw[tf]
 cases l.toArray[j]? with
 |none=>rfl
 |some o=>
  show(match ((if j=k then Qu d o else o).dst).bind (t[·]?)with|some (.bool b)=>some b|_=>none)=_
  by_cases h:j=k
  rw[if_pos h];rfl
  rw[if_neg h];rfl
theorem GJ (l:List Oper) (k d i:Nat) (K:Act->World->Prop) (a:Act) (w:World):wpOp P (uf l k d).toArray Q i K a w=wpOp P l.toArray Q i K a w:=by
 unfold wpOp
 rw[tf,xV]
 cases l.toArray[i]? with
 |none=>rfl
 |some o=>
  simp only[dA]
  by_cases h:i=k
  rw[if_pos h];rfl
  rw[if_neg h]
theorem Dl {l:List Oper} {k d i:Nat} {listed:Array Bool} (h:i∈Region.ready md (uf l k d).toArray listed):i∈Region.ready md l.toArray listed:=by
 rw[mem_ready]at h⊢
 obtain⟨h1,o,ho,ha⟩:=h
 rw[tf]at ho
 obtain⟨o',ho',he⟩:=i4.1 ho
 refine⟨h1,o',ho',fun e hm hb=>ha e ?_ hb⟩
 rw[<-he]
 by_cases hik:i=k
 rw[if_pos hik];exact Array.mem_push.2 (.inl hm)
 rw[if_neg hik];exact hm
theorem kp {l:List Oper} {k d i:Nat} {listed:Array Bool} (h:i∈Region.ready md l.toArray listed) (hd:i=k->listed.getD d false=true):i∈Region.ready md (uf l k d).toArray listed:=by
 rw[mem_ready]at h⊢
 obtain⟨h1,o,ho,ha⟩:=h
 refine⟨h1,if i=k then Qu d o else o,by rw[tf,ho];rfl,fun e hm hb=> ?_⟩
 by_cases hik:i=k
 rw[if_pos hik]at hm
 rcases Array.mem_push.1 hm with hm|hm
 exact ha e hm hb
 rw[hm];exact hd hik
 rw[if_neg hik]at hm;exact ha e hm hb
theorem Ml {listed:Array Bool} {i j:Nat} (h:listed.getD j false=true):(listed.setIfInBounds i true).getD j false=true:=by
 by_cases hij:i=j
 subst hij
 rcases fC i listed.size with h'|h'
 simp[h']
 simp[pV h']at h
 rw[getD_set_ne false hij];exact h
theorem HP {listed:Array Bool} {i:Nat} (h:listed.getD i true=false):(listed.setIfInBounds i true).getD i false=true:=by
 rcases fC i listed.size with h'|h'
 simp[h']
 simp[h']at h
theorem Di {l:List Oper} {k d:Nat}: ∀ (f:Nat) (listed:Array Bool) (a:Act) (w:World),listed.getD d false=true->wpAny P md (uf l k d).toArray Q f listed a w->wpAny P md l.toArray Q f listed a w
 |0,listed,a,w,hd,h=>by
  refine⟨?_,h.2⟩
  cases hr:Region.ready md l.toArray listed with
  |nil=>rfl
  |cons i r=>
   have:=kp (k:=k) (d:=d) (show i∈Region.ready md l.toArray listed by rw[hr];exact aA ..) fun _=>hd
   rw[h.1]at this;cases this
 |f+1,listed,a,w,hd,h=>by
  refine⟨fun hr=>h.1 ?_,fun i hi=> ?_⟩
  cases hr2:Region.ready md (uf l k d).toArray listed with
  |nil=>rfl
  |cons i r=>
   have:=Dl (show i∈Region.ready md (uf l k d).toArray listed by rw[hr2];exact aA ..)
   rw[hr]at this;cases this
  have:=h.2 i (kp hi fun _=>hd)
  rw[GJ]at this
  exact wpOp_mono (fun a w h=>Di f _ a w (Ml hd) h) this
theorem zX {C:iO} {S1 S2 lo1 lo2 pu1 pu2:List Nat} {sp1 sp2:Nat->Value->iO} {l:List Oper} {i j:Nat} (hij:i≠j) (hC: ∀ w w',C w->Below w.heap.size w w'->C w')
  (h1s: ∀ i v w w',C w->Below w.heap.size w w'->sp1 i v w->sp1 i v w') (h2s: ∀ i v w w',C w->Below w.heap.size w w'->sp2 i v w->sp2 i v w')
  (hdep: ∀ k,k≠i->k≠j->(S1.contains k||S2.contains k||lo1.contains k||lo2.contains k)=true->Be md l.toArray i 8 k=true∨Be md l.toArray j 8 k=true):
  ∀ (f:Nat) (listed:Array Bool) (a:Act) (F1 F2:iO),MX md l.toArray listed->listed.getD i true=false->listed.getD j true=false->(∀ w w',C w->Below w.heap.size w w'->F1 w->F1 w')->(∀ w w',C w->Below w.heap.size w w'->F2 w->F2 w')->
   IF P md (uf l j i).toArray C S1 lo1 pu1 sp1 Q f listed a F1->IF P md (uf l i j).toArray C S2 lo2 pu2 sp2 Q f listed a F2-> ∀ w,C w->F1 w->F2 w->wpAny P md l.toArray Q f listed a w
 |0,listed,a,F1,F2,_,_,_,_,_,h1,h2,w,hc,hf1,_=>by
  refine⟨?_,h1.2 w hc hf1⟩
  cases hr:Region.ready md l.toArray listed with
  |nil=>rfl
  |cons k r=>
   have hk:k∈Region.ready md l.toArray listed:=by rw[hr];exact aA ..
   by_cases hkj:k=j
   have:=kp (k:=i) (d:=j) hk fun h=>absurd (h.symm.trans hkj) hij
   rw[h2.1]at this;cases this
   have:=kp (k:=j) (d:=i) hk fun h=>absurd h hkj
   rw[h1.1]at this;cases this
 |f+1,listed,a,F1,F2,hclo,hi,hj,hF1,hF2,h1,h2,w,hc,hf1,hf2=>by
  refine⟨fun hr=>h1.1 ?_ w hc hf1,fun k hk=> ?_⟩
  cases hr2:Region.ready md (uf l j i).toArray listed with
  |nil=>rfl
  |cons k r=>
   have:=Dl (show k∈Region.ready md (uf l j i).toArray listed by rw[hr2];exact aA ..)
   rw[hr]at this;cases this
  by_cases hki:k=i
  subst hki
  have h3:=(kS hC h1s (f+1) listed a F1 hF1 h1 w hc hf1).2 k (kp hk fun h=>absurd h hij)
  rw[GJ]at h3
  exact wpOp_mono (fun a w h=>Di f _ a w (HP hi) h) h3
  by_cases hkj:k=j
  subst hkj
  have h3:=(kS hC h2s (f+1) listed a F2 hF2 h2 w hc hf2).2 k (kp hk fun h=>absurd h hki)
  rw[GJ]at h3
  exact wpOp_mono (fun a w h=>Di f _ a w (HP hj) h) h3
  have hno:(S1.contains k||S2.contains k||lo1.contains k||lo2.contains k)=false:=by
   cases h:(S1.contains k||S2.contains k||lo1.contains k||lo2.contains k)with
   |false=>rfl
   |true=>
    rcases hdep k hki hkj h with h|h
    exact absurd hk (hclo.unready hi h)
    exact absurd hk (hclo.unready hj h)
  simp only[Bool.or_eq_false_iff]at hno
  obtain⟨⟨⟨n1,n2⟩,n3⟩,n4⟩:=hno
  have g1:=h1.2 k (kp hk fun h=>absurd h hkj)
  have g2:=h2.2 k (kp hk fun h=>absurd h hki)
  rw[if_neg (by rw[n1];decide)]at g1
  rw[if_neg (by rw[n2];decide)]at g2
  obtain⟨-,o,ho,-⟩:=mem_ready.1 hk
  have o1:(uf l j i).toArray[k]? =some o:=by rw[tf,ho];simp[hkj]
  have o2:(uf l i j).toArray[k]? =some o:=by rw[tf,ho];simp[hki]
  unfold zp at g1 g2
  simp only[o1,xV,n3,dh,if_false]at g1
  simp only[o2,xV,n4,dh,if_false]at g2
  have hi':(listed.setIfInBounds k true).getD i true=false:=by rw[getD_set_ne true hki];exact hi
  have hj':(listed.setIfInBounds k true).getD j true=false:=by rw[getD_set_ne true hkj];exact hj
  unfold wpOp
  simp only[ho]
  by_cases hw:Region.wanted o (yielded l.toArray a.tmps)=true
  rw[if_pos hw]at g1 g2⊢
  obtain⟨v1,e1,r1⟩:=g1
  obtain⟨v2,e2,r2⟩:=g2
  have x1:=e1 w (by split<;>first|trivial|exact hc)
  have x2:=e2 w (by split<;>first|trivial|exact hc)
  have hv:v1=v2:=by
   have:=x1.symm.trans x2
   simpa using this
  subst hv
  refine .inl ?_
  unfold Oper.wp
  rw[x1]
  exact zX hij hC h1s h2s hdep f _ _ F1 F2 (hclo.put hk) hi' hj' hF1 hF2 r1 r2 w hc hf1 hf2
  rw[if_neg hw]at g1 g2⊢
  exact zX hij hC h1s h2s hdep f _ _ F1 F2 (hclo.put hk) hi' hj' hF1 hF2 g1 g2 w hc hf1 hf2
end
end
section
section
variable {P:Program} {ops:Array Oper} {md:Region.Mode} {C:iO} {S lo pu:List Nat} {spec:Nat->Value->iO} {Q:Exit->Act->World->Prop}
def N3 (md:Region.Mode) (ops:Array Oper) (S pu lo:List Nat):List Nat->Array Bool->Bool
 |[],listed=>(Region.ready md ops listed).all fun i=>S.contains i
 |i::r,listed=>(Region.ready md ops listed).contains i&&Region.free md ops listed i&&!S.contains i&&!(pu.contains i&&lo.contains i)&&
  (pu.contains i||S.all fun j=>Be md ops i 8 j)&&N3 md ops S pu lo r (listed.setIfInBounds i true)
theorem J8 (k:Nat) (hC: ∀ w w',C w->Below w.heap.size w w'->C w') (h0: ∃ w,C w) (hsel: ∀ (j:Nat) (o:Oper) cs b,ops[j]? =some o->o.op≠ .select cs b) (hQ: ∀ c a w,¬ Q (.panic c) a w):
  ∀ (ord:List Nat) (listed:Array Bool) (a:Act) (Fc:iO),MX md ops listed->N3 md ops S pu lo ord listed=true->AO P ops C lo pu spec (fun a' F'=> ∀ w,C w->F' w->wpAny P md ops Q (k+1) (qz ord listed) a' w) ord a Fc->
   IF P md ops C S lo pu spec Q (ord.length+(k+1)) listed a Fc
 |[],listed,a,Fc,_,hB,h=>by
  unfold N3 at hB
  unfold AO qz at h
  have hB':=eD.1 hB
  simp only[fT,cC]
  exact⟨fun hr w hc hf=>(h w hc hf).1 hr,fun i hi=>by rw[if_pos (hB' i hi)];exact fun w hc hf=>(h w hc hf).2 i hi⟩
 |i::r,listed,a,Fc,hclo,hB,h=>by
  simp only[N3,bg]at hB
  obtain⟨⟨⟨⟨⟨hr,hf⟩,hS⟩,hl⟩,hw⟩,hB'⟩:=hB
  have hi: ∃ oi,ops[i]? =some oi:=by
   cases ho:ops[i]? with
   |none=>unfold AO zp at h;simp only[ho]at h
   |some o=>exact⟨o,rfl⟩
  obtain⟨oi,hi⟩:=hi
  have:=za (P:=P) (C:=C) (S:=S) (lo:=lo) (pu:=pu) (spec:=spec) (Q:=Q) (md:=md) hC h0 hi hsel (by simpa using hS) (fun hp=>by rw[hp]at hl;simpa using hl) (fun hp j hjS=>by
    rw[hp]at hw
    simp only[Bool.false_or]at hw
    exact eD.1 hw j (by simpa using hjS)) hQ (r.length+(k+1)) listed a Fc hclo (Region.free_spec hi hf) (by simpa using hr)
   (kr (fun a' f1 f2 h12 hk=>sM _ _ a' f1 f2 h12 (J8 k hC h0 hsel hQ r _ a' f1 (hclo.put (by simpa using hr)) hB' hk)) (fun _ h=>h) h)
  have e:(i::r).length+(k+1)=r.length+(k+1)+1:=by simp only[bf];omega
  rw[e]
  exact this
end
section
variable {P:Program} {n:Nat} {Q:ig} {ρ:gV} {w:World} {ops:Array Oper}
def KR (P:Program) (n:Nat) (l:List Oper) (Q:ig) (S lo pu:List Nat) (spec:Nat->Value->iO) (ρ:gV) (w:World):Prop:=
 ∀ a,St n ρ a->IF P .any l.toArray (pp w) S lo pu spec (EP n Q) l.length (fU l.length false) a (fun _=>True)
theorem Tc (l:List Oper):MX .any l.toArray (fU l.length false):=fun k ok hk hl=>by
 have hlt:=(ux.1 hk).1
 simp only[dK]at hlt
 simp[hlt]at hl
theorem jS {l:List Oper} (ord S lo pu:List Nat) (k:Nat) (spec:Nat->Value->iO) (hn:Region.noSelect l.toArray=true) (hB:N3 .any l.toArray S pu lo ord (fU l.length false)=true) (hl:eG (ord.length+(k+1)) l.length=true) (hQ: ∀ c ρ w,¬ Q (.panic c) ρ w)
  (h:AW P n l.toArray (pp w) lo pu spec (fun ρ' F'=> ∀ w',pp w w'->F' w'->XW P n l.toArray Q (k+1) (qz ord (fU l.length false)) ρ' w') ord ρ (fun _=>True)):KR P n l Q S lo pu spec ρ w:=fun a ha=>by
 have hc0:pp w w:=Below.refl w.heap.size w
 have el:ord.length+(k+1)=l.length:=ba hl
 have key: ∀ (ord:List Nat) (a:Act) (Fc:iO) (lst:Array Bool),AO P l.toArray (pp w) lo pu spec (fun a' F'=> ∃ ρ',St n ρ' a'/\ ∀ w',pp w w'->F' w'->XW P n l.toArray Q (k+1) lst ρ' w') ord a Fc->
   AO P l.toArray (pp w) lo pu spec (fun a' F'=> ∀ w',pp w w'->F' w'->wpAny P .any l.toArray (EP n Q) (k+1) lst a' w') ord a Fc:=by
  intro ord
  induction ord with
  |nil=>
   intro a Fc lst ⟨ρ',hs,hk⟩ w' h1 h2
   exact hk w' h1 h2 a hs
  |cons i r ih=>
   intro a Fc lst hk
   have mono: ∀ (r:List Nat) a f1 f2,(∀ w,f2 w->f1 w)->AO P l.toArray (pp w) lo pu spec (fun a' F'=> ∃ ρ',St n ρ' a'/\ ∀ w',pp w w'->F' w'->XW P n l.toArray Q (k+1) lst ρ' w') r a f1->AO P l.toArray (pp w) lo pu spec (fun a' F'=> ∃ ρ',St n ρ' a'/\ ∀ w',pp w w'->F' w'->XW P n l.toArray Q (k+1) lst ρ' w') r a f2:=by
    intro r
    induction r with
    |nil=>intro a f1 f2 h12 ⟨ρ',hs,hk⟩;exact⟨ρ',hs,fun w' h1 h2=>hk w' h1 (h12 _ h2)⟩
    |cons i r ih=>intro a f1 f2 h12 hk;exact kr (fun a f1 f2 h12 hk=>ih a f1 f2 h12 hk) h12 hk
   exact kr (fun a f1 f2 h12 hk=>ih a f2 lst (mono r a f1 f2 h12 hk)) (fun _ h=>h) hk
 have hG:=J8 (P:=P) (ops:=l.toArray) (md:=.any) (C:=pp w) (S:=S) (lo:=lo) (pu:=pu) (spec:=spec) (Q:=EP n Q) k pp.closed ⟨_,hc0⟩ (Region.noSelect_spec hn) (fun c a w ⟨ρ,_,hq⟩=>hQ c ρ w hq) ord _ a (fun _=>True) (Tc l) hB (key ord a _ _ (h a ha))
 rw[el]at hG
 exact hG
theorem PI (l:List Oper) (k d:Nat):(uf l k d).length=l.length:=by unfold uf;simp
theorem oX {id:Nat} {l:List Oper} (hm:P.follows .mixedOrders=true) (i j:Nat) (S1 lo1 pu1 S2 lo2 pu2:List Nat) (sp1 sp2:Nat->Value->iO) (hij:eG i j=false) (hil:aQ i l.length=true) (hjl:aQ j l.length=true)
  (hd:((S1++S2++lo1++lo2).all fun k=>eG k i||eG k j||Be .any l.toArray i 8 k||Be .any l.toArray j 8 k)=true)
  (h1s: ∀ i v w1 w2,pp w w1->Below w1.heap.size w1 w2->sp1 i v w1->sp1 i v w2) (h2s: ∀ i v w1 w2,pp w w1->Below w1.heap.size w1 w2->sp2 i v w1->sp2 i v w2)
  (h1:KR P n (uf l j i) Q S1 lo1 pu1 sp1 ρ w) (h2:KR P n (uf l i j) Q S2 lo2 pu2 sp2 ρ w):CW P n (.region id l.toArray true) Q ρ w:=fun a ha=>by
 refine wp_region_any hm ?_
 have hc0:pp w {w with drawn:=w.drawn+1}:=(Below.refl w.heap.size w).drew
 have g1:=h1 a ha
 have g2:=h2 a ha
 rw[PI]at g1 g2
 have hil':i<l.length:=by simpa [uu]using hil
 have hjl':j<l.length:=by simpa [uu]using hjl
 rw[show l.toArray.size=l.length from by simp]
 refine zX (i:=i) (j:=j) (fun h=>by rw[h]at hij;simp at hij) pp.closed (fun i v w1 w2 a b c=>h1s i v w1 w2 a b c) (fun i v w1 w2 a b c=>h2s i v w1 w2 a b c) (fun k hki hkj hk=> ?_) l.length _ a _ _ (Tc l) (by simp[hil']) (by simp[hjl']) (fun _ _ _ _ _=>trivial) (fun _ _ _ _ _=>trivial) g1 g2 _ hc0 trivial trivial
 have hmem:k∈S1++S2++lo1++lo2:=by
  simp only[sL,List.contains_iff_mem]at hk
  simp only[ar]
  exact hk
 have:=eD.1 hd k hmem
 simp only[sL]at this
 rcases this with((h|h)|h)|h
 exact absurd (ba h) hki
 exact absurd (ba h) hkj
 exact .inl h
 exact .inr h
theorem bw (i:Nat) {f:Nat} {listed:Array Bool} {d:Nat} {o:Oper} {v:Value} (hr:(Region.ready .any ops listed).contains i=true) (hf:Region.free .any ops listed i=true) (hn:Region.noSelect ops=true) (hi:ops[i]? =some o) (hw:kf ops ρ o=true) (hd:o.dst=some d) (hdn:aQ d n=true) (hQ: ∀ c ρ w,¬ Q (.panic c) ρ w)
  (hv: ∀ w,(execOp (ev ρ) o).run P w=.ok (.value v) w) (h:XW P n ops Q f (listed.setIfInBounds i true) (fB ρ d v) w):XW P n ops Q (f+1) listed ρ w:=fun a ha=>by
 refine wpAny_first (v:=v) hi (Region.noSelect_spec hn) (fun c a w ⟨ρ,_,hq⟩=>(hQ c ρ w hq).elim) f listed a w (Region.free_spec hi hf) (by simpa using hr) (.inl ⟨by rw[ha.wants o];exact hw,fun w=>by rw[ha.eval];exact hv w⟩) ?_
 rw[hd]
 exact h _ (ha.put hdn v)
end
end
section
section
variable {P:Program} {n:Nat} {Q:ig} {ρ:gV} {w:World}
theorem JO {id:Nat} {l:List Oper} (hm:P.follows .mixedOrders=true) (S lo pu:List Nat) (h:KR P n l Q S lo pu (fun _ _ _=>True) ρ w):CW P n (.region id l.toArray true) Q ρ w:=fun a ha=>by
 refine wp_region_any hm ?_
 have hc0:pp w {w with drawn:=w.drawn+1}:=(Below.refl w.heap.size w).drew
 rw[show l.toArray.size=l.length from by simp]
 exact kS pp.closed (fun _ _ _ _ _ _ _=>trivial) _ _ _ _ (fun _ _ _ _ _=>trivial) (h a ha) _ hc0 trivial
theorem OS {fn:Func} {R:Value->World->Prop} {u0:Nat} {v0:Value} {a1 T1 sz1 b1:Nat} {cs1:Array Value} {tt1:TypeId} {fr1:Nat×Nat} {u2:Nat} {v2:Value} (h:fn.results= #[.tmp u0,.cell a1 T1,.tmp u2]) (hv0:ρ u0=v0) (hT1:lO P T1 sz1=true) (ha1:ρ a1=.pointer (some ⟨b1,0,none⟩)) (hb1:w.heap[b1]? =some (.cells cs1 tt1 fr1)) (hs1:cs1.size=sz1) (hv2:ρ u2=v2) (hR:R (.tuple #[v0,.agg cs1,v2]) w):MU P fn R .ret ρ w:=
 ⟨_,fun ac hac=>by
  rw[<-hv0,<-hac.get u0]
  have hl1:=i6 (P:=P) (w:=w) (a:=⟨b1,0,none⟩) (xs:=cs1.toList) hT1 (by simpa using hs1) (fun j v hj=>by rw[Addr.add_lit,cC];exact aK hb1 (by simpa using hj))
  have h11:=hac.get a1
  rw[ha1,cZ]at h11
  rw[<-hv2,<-hac.get u2]
  simp[results,h,asAddr,h11,hl1],hR⟩
end
end
section
section
variable {P:Program} {n:Nat} {Q:ig} {ρ:gV} {w:World} {ops:Array Oper} {S:World->Prop}
def XH (P:Program) (n:Nat) (ops:Array Oper) (Q:ig) (S:World->Prop) (f:Nat) (listed:Array Bool) (ρ:gV) (w:World):Prop:= ∀ a,St n ρ a->wpAnyH P .any ops (EP n Q) S f listed a w
theorem wv {id:Nat} {l:List Oper} (hm:P.follows .mixedOrders=true) (S:World->Prop) (h: ∀ w',pp w w'->XH P n l.toArray Q S l.length (fU l.length false) ρ w'):CW P n (.region id l.toArray true) Q ρ w:=fun a ha=>by
 refine wp_region_any hm ?_
 rw[show l.toArray.size=l.length from by simp]
 exact wpAny_of_held _ _ _ _ (h _ ((Below.refl w.heap.size w).drew) a ha)
theorem y9 {f:Nat} {listed:Array Bool} (hr:(Region.ready .any ops listed).isEmpty=true) (h:Q .normal ρ w):XH P n ops Q S f listed ρ w:=fun a ha=>by
 have hr':Region.ready .any ops listed=[]:=by simpa using hr
 cases f with
 |zero=>exact⟨hr',ρ,ha,h⟩
 |succ f=>exact⟨fun _=>⟨ρ,ha,h⟩,fun i hi=>by rw[hr']at hi;cases hi⟩
theorem SP {f i:Nat} {listed:Array Bool} (hi:(ops[i]?).isSome=true) (h:LW P n ops (pick ops [i]) (Fu (fun ρ' w'=>S w'/\XH P n ops Q S f (listed.setIfInBounds i true) ρ' w') Q) ρ w) (a:Act) (ha:St n ρ a):wpOp P ops (EP n Q) i (fun a' w'=>S w'/\wpAnyH P .any ops (EP n Q) S f (listed.setIfInBounds i true) a' w') a w:=by
 have h1:=h a ha
 rw[<-tw [i] (by simp[hi]),wpOps_cons]at h1
 refine z5 (fun c a w h=>h) (fun a w h=>h) (wpOp_mono (fun a' w' h2=> ?_) h1)
 obtain⟨ρ',hs,hk,hx⟩:=h2
 exact⟨hk,hx a' hs⟩
theorem MY (i:Nat) {f:Nat} {listed:Array Bool} (hr:(Region.ready .any ops listed==[i])=true) (hi:(ops[i]?).isSome=true) (h:LW P n ops (pick ops [i]) (Fu (fun ρ' w'=>S w'/\XH P n ops Q S f (listed.setIfInBounds i true) ρ' w') Q) ρ w):XH P n ops Q S (f+1) listed ρ w:=fun a ha=>by
 have hr':Region.ready .any ops listed=[i]:=by simpa using hr
 refine⟨fun h0=>(by rw[hr']at h0;cases h0),fun j hj=> ?_⟩
 rw[hr']at hj
 obtain rfl:=aq.1 hj
 exact SP hi h a ha
theorem cJ (i:Nat) {f:Nat} {listed:Array Bool} {d:Nat} {o:Oper} {v:Value} (hr:(Region.ready .any ops listed).contains i=true) (hf:Region.free .any ops listed i=true) (hn:Region.noSelect ops=true) (hi:ops[i]? =some o) (hw:kf ops ρ o=true) (hd:o.dst=some d) (hdn:aQ d n=true) (hQ: ∀ c ρ w,¬ Q (.panic c) ρ w)
  (hS:S w) (hv: ∀ w,S w->(execOp (ev ρ) o).run P w=.ok (.value v) w) (h:XH P n ops Q S f (listed.setIfInBounds i true) (fB ρ d v) w):XH P n ops Q S (f+1) listed ρ w:=fun a ha=>by
 refine wpAnyH_first (v:=v) hi (Region.noSelect_spec hn) (fun c a w ⟨ρ,_,hq⟩=>(hQ c ρ w hq).elim) f listed a w (Region.free_spec hi hf) (by simpa using hr) (.inl ⟨by rw[ha.wants o];exact hw,fun w hs=>by rw[ha.eval];exact hv w hs⟩) hS ?_
 rw[hd]
 exact h _ (ha.put hdn v)
end
end
section
theorem Hp.putM {w0 w:World} {K M:List (Nat×Obj)} {F:List cf} {g:Nat} {cur:Array Value} {e:TypeId} (H:Hp w0 w (K++[(g,.cells cur e (0,0))]++M) F) (new:Array Value):Hp w0 (w.setRow g new) (K++[(g,.cells new e (0,0))]++M) F:=by
 have hg:w.heap[g]? =some (.cells cur e (0,0)):=H.ent (i:=K.length) (by simp)
 have h:=H.put (i:=K.length) (b:=g) (o:=.cells cur e) (by simp) (o':=.cells new e) (w':=w.setRow g new) (setRow_heap w g cur _ e _ hg) (by simp[World.setRow]) rfl rfl rfl fun k hk=>setRow_other w g k _ hk
 simpa using h
theorem jX {cs:Array Value} {o:Nat} {new:List Value} (h:o+new.length<=cs.size):(pz cs o new).size=cs.size:=by
 have:cs.toList.length=cs.size:=ch
 simp only[pz,dK,av,aI,dL]
 omega
section
variable {P:Program} {w0 w:World} {F:List cf} {n:Nat} {Q:ig} {ρ:gV} {ops:Array Oper} {rest:List Oper} {d:Nat} {t:TypeId} {p:String} {af:Array Edge} {K M L:List (Nat×Obj)} {g:Nat} {cur:Array Value} {e T sz:Nat}
theorem Kr {o:Oper} {v:Value} {w':World} (hg:o.guard=none) (hd:o.dst=none) (hr:(execOp (ev ρ) o).run P w=.ok (.value v) w')
  (h:LW P n ops rest Q ρ w'):LW P n ops (o::rest) Q ρ w:=fun a ha=>
 wpList_plain hg fun _ hK=>by
  unfold Oper.wp
  rw[ha.eval,hr]
  simp only[Oper.upon,hd]
  exact hK _ _ (h _ (ha.put_none _))
theorem xv (hg:w.heap[g]? =some (.cells cur e (0,0))) {o:Nat} {news:List Value} (hf:o+news.length<=cur.size) (h1: ∀ u∈news,u.oneCell'=true):(storeCells ⟨g,o,none⟩ news).run P w=.ok () (w.setRow g (pz cur o news)):=by
 have hst:=run_storeCells_at P g o e news 0 cur w hg (by simpa using hf) h1
 simp only[mS]at hst
 exact hst
theorem EB {X:Option Addr} {m sl sc:Nat} {news:List Value} (hs:wL w X m sz news):(Builtin.firstCells sz m (.slice X sl sc)).run P w=.ok news.toArray w:=by
 obtain⟨hl,hn⟩:=hs
 cases X with
 |some ad=>
  refine run_firstCells_some (P:=P) w sz m ad sl sc news hl ?_
  by_cases h:0<m
  obtain⟨ad',he,hc⟩:=hn h
  cases he
  exact hc
  have:news=[]:=bS (by rw[hl,xZ h,xY])
  subst this
  simp
 |none=>
  have:news=[]:=bS (by
   by_cases h:0<m
   obtain⟨ad',he,hc⟩:=hn h
   cases he
   rw[hl,xZ h,xY])
  subst this
  simp[Builtin.firstCells]
theorem RJ (hT:ek P T e sz=true) (H:Hp w0 w (K++[(g,.cells cur e (0,0))]++M) F) {x y:Operand} {D X:Option Addr} {dl dc sl sc o m:Nat} {news:List Value} {ty:TypeId} (hx:ev ρ x=.slice D dl dc) (hy:ev ρ y=.slice X sl sc) (hm:Nat.min sl dl=m)
  (hD:0<m->D=some ⟨g,o,none⟩) (hs:wL w X m sz news) (h1: ∀ u∈news,u.oneCell'=true) (hf:o+news.length<=cur.size) (hdn:aQ d n=true)
  (h: ∀ w',Hp w0 w' (K++[(g,.cells (pz cur o news) e (0,0))]++M) F->LW P n ops rest Q (fB ρ d (.int .i64 (m:Nat))) w'):
  LW P n ops (O d (.call {callee:=.builtin .copy,args:= #[x,y],argTypes:= #[T,ty]}) t p af::rest) Q ρ w:=by
 obtain⟨hu,j,h2,h3⟩:=fe hT
 have hg:w.heap[g]? =some (.cells cur e (0,0)):=H.ent (i:=K.length) (by simp)
 have hfc:(Builtin.firstCells sz m (.slice X sl sc)).run P w=.ok news.toArray w:=EB hs
 have hst:=xv (P:=P) hg hf h1
 by_cases h0:0<m
 obtain rfl:=hD h0
 refine dE rfl rfl hdn ?_ (h _ (H.putM _))
 simp[execOp,resolve,invoke,builtin,Builtin.copy_,hx,hy,run_underlying hu,Builtin.lenOf,fV h2,h3,hm,hfc,hst,goInt]
 have hn:news=[]:=bS (by rw[hs.1,xZ h0,xY])
 subst hn
 have e1:pz cur o []=cur:=by simp[pz]
 rw[e1]at h
 refine dE rfl rfl hdn ?_ (h _ H)
 cases D<;>simp[execOp,resolve,invoke,builtin,Builtin.copy_,hx,hy,run_underlying hu,Builtin.lenOf,fV h2,h3,hm,hfc,storeCells,goInt]
theorem T7 (hT:ek P T e sz=true) {z:Value} (hz:(P.info? e).bind (·.zero)=some z) (hzs:z.cells.size=sz) (hz1:z.cells.toList.all (·.oneCell')=true) (H:Hp w0 w (K++[(g,.cells cur e (0,0))]++M) F) {x:Operand} {D:Option Addr} {m dc o:Nat} (hx:ev ρ x=.slice D m dc)
  (hD:0<m->D=some ⟨g,o,none⟩) (hf:o+m*sz<=cur.size)
  (h: ∀ w',Hp w0 w' (K++[(g,.cells (pz cur o (Builtin.zeroCells z.cells m).toList) e (0,0))]++M) F->LW P n ops rest Q ρ w'):
  LW P n ops ({dst:=none,op:=.call {callee:=.builtin .clear,args:= #[x],argTypes:= #[T]},type:=t,pos:=p,after:=af,guard:=none}::rest) Q ρ w:=by
 obtain⟨hu,j,h2,h3⟩:=fe hT
 have hg:w.heap[g]? =some (.cells cur e (0,0)):=H.ent (i:=K.length) (by simp)
 have hlen:(Builtin.zeroCells z.cells m).toList.length=m*sz:=by rw[ch,size_zeroCells,hzs]
 have hj:j.zero=some z:=by rw[h2]at hz;exact hz
 by_cases h0:0<m
 obtain rfl:=hD h0
 have hst:=xv (P:=P) (news:=(Builtin.zeroCells z.cells m).toList) hg (by rw[hlen];exact hf) (fun u hu=>by
  simp only[Builtin.zeroCells,Array.mem_toList_iff,Array.mem_map]at hu
  obtain⟨i,hi,rfl⟩:=hu
  have hi':i<m*z.cells.size:=by simpa using hi
  have hpos:0<z.cells.size:=Nat.pos_of_ne_zero fun he=>by rw[he,Nat.mul_zero]at hi';omega
  have hlt:i%z.cells.size<z.cells.size:=jU _ hpos
  rw[getElem!_pos z.cells _ hlt]
  exact eD.1 hz1 _ (by simp))
 obtain⟨m',rfl⟩: ∃ m',m=m'+1:=⟨m-1,by omega⟩
 refine Kr rfl rfl (v:=.tuple #[]) (w':=w.setRow g _) ?_ (h _ (H.putM _))
 simp[execOp,resolve,invoke,builtin,Builtin.clear_,hx,run_underlying hu,zeroValue,typeInfo,h2,hj,hst]
 obtain rfl:m=0:=by omega
 have e1:pz cur o (Builtin.zeroCells z.cells 0).toList=cur:=by simp[pz,Builtin.zeroCells]
 rw[e1]at h
 refine Kr rfl rfl (v:=.tuple #[]) (w':=w) ?_ (h _ H)
 cases D<;>simp[execOp,resolve,invoke,builtin,Builtin.clear_,hx,run_underlying hu]
theorem UB (hT:ek P T e sz=true) (H:Hp w0 w (K++[(g,.cells cur e (0,0))]++M) F) {x y:Operand} {X:Option Addr} {k c m cx:Nat} {news:List Value} (hx:ev ρ x=.slice (some ⟨g,0,none⟩) k c) (hy:ev ρ y=.slice X m cx) (hs:wL w X m sz news) (h1: ∀ u∈news,u.oneCell'=true)
  (hroom:k+m<=c) (hf:k*sz+news.length<=cur.size) (hdn:aQ d n=true)
  (h: ∀ w',Hp w0 w' (K++[(g,.cells (pz cur (k*sz) news) e (0,0))]++M) F->LW P n ops rest Q (fB ρ d (.slice (some ⟨g,0,none⟩) (k+m) c)) w'):
  LW P n ops (O d (.call {callee:=.builtin .append,args:= #[x,y],argTypes:= #[T,T]}) t p af::rest) Q ρ w:=by
 obtain⟨hu,j,h2,h3⟩:=fe hT
 have hg:w.heap[g]? =some (.cells cur e (0,0)):=H.ent (i:=K.length) (by simp)
 have hfc:(Builtin.firstCells sz m (.slice X m cx)).run P w=.ok news.toArray w:=EB hs
 have hst:=xv (P:=P) hg hf h1
 refine dE rfl rfl hdn ?_ (h _ (H.putM _))
 simp[execOp,resolve,invoke,builtin,Builtin.append_,hx,hy,run_underlying hu,Builtin.lenOf,sizeOf,typeInfo,h2,h3,hroom,hfc,Addr.add_lit,hst]
theorem Ud {by_ tn:Nat} {kn:IntKind} (hT:GH P T e sz by_=true) (htn:pB P tn kn=true) (H:Hp w0 w L F) {x y:Operand} {b:Addr} {k c m:Nat} {kd:IntKind} {olds:List Value} (hx:ev ρ x=.slice (some b) k c) (hy:ev ρ y=.int kd (m:Nat))
  (ho:olds.length=k*sz) (hold: ∀ j u,olds[j]? =some u->w.cell? (b.add j)=some u) (hg:c<k+m) (hm:0<m) (hb:(k+m)*by_<=140737488355328) (hdn:aQ d n=true)
  (h: ∀ w' g2 cp cur2,cur2.size=cp*sz->k+m<=cp->cp<=maxLen->cur2.toList.take (k*sz)=olds->Hp w0 w' ((g2,.cells cur2 e (0,0))::L) F->LW P n ops rest Q (fB ρ d (.slice (some ⟨g2,0,none⟩) (k+m) cp)) w'):
  LW P n ops (O d (.call {callee:=.builtin .append,args:= #[x,y],argTypes:= #[T,tn]}) t p af::rest) Q ρ w:=by
 obtain⟨i,z,h1,h2,h3,h4,h5,h6,h7,h8⟩:=KJ hT
 have hu:P.underlying tn=some (.int kn):=by
  unfold pB at htn
  split at htn
  rename_i k' hk;rw[hk,of_decide_eq_true htn]
  cases htn
 have hmx:k+m<=maxLen:=by
  have:=xm (k+m) h8
  simp only[maxLen];omega
 have hge:=grownCap_ge w (k+m) c e
 have hsm:k+m<=9223372036854775807:=by simp only[maxLen]at hmx;omega
 have hmby:m*by_<=(k+m)*by_:=cN _ (by omega)
 have hfit:=growslice_fits hg hb
 have hn: ¬ (k+m<=c):=by omega
 have hw:IntKind.i64.wrap (m:Int)=m:=by rw[IntKind.wrap_i64];omega
 have h63': ¬ (9223372036854775807<((k:Int)+(m:Int))):=by omega
 have h48': ¬ (281474976710656<Builtin.nextslicecap (k+m) c*i.bytes):=by rw[h5];omega
 have h48i: ¬ (281474976710656<(m:Int)*(i.bytes:Int)):=by
  rw[<-Int.natCast_mul,h5]
  omega
 have hneg: ¬ ((m:Int)<0):=by omega
 have hns: ¬ (m*i.size=0):=Nat.mul_ne_zero (by omega) (by omega)
 have hfo:=run_firstCells_some (P:=P) w.drew i.size k b k c olds (by rw[ho,h4]) (by simpa using hold)
 refine dE rfl rfl hdn (v:=.slice (some ⟨w.heap.size,0,none⟩) (k+m) (grownCap w (k+m) c e)) (w':=w.drew.alloc (.cells (olds.toArray++Builtin.zeroCells z.cells m++Builtin.zeroCells z.cells (grownCap w (k+m) c e- (k+m))) e)) ?_ (h _ _ _ _ ?_ hge (grownCap_le_maxLen w _ c e hmx) ?_ (H.drew.alloc _))
 simp[execOp,resolve,invoke,builtin,hx,hy,Builtin.append_,run_underlying h1,run_underlying hu,sizeOf,typeInfo,zeroValue,h2,h3,asInt,asIntOf,hw,hneg,hns,hn,h63',h48',h48i,Question.forced,hfo,newRow,grownCap]
 simp only[pU,dK,size_zeroCells,h6,ho,<-cW]
 congr 1
 omega
 simp only[tl,aB]
 rw[<-ho]
 exact jq
theorem Td {f:FuncId} {xs:List Operand} {ats:Array TypeId} {vs:List Value} {v:Value} (hr:(callFunc f vs.toArray).run P w=.ok (.value v) w) (hv:xs.map (ev ρ)=vs) (hdn:aQ d n=true) (h:LW P n ops rest Q (fB ρ d v) w):
  LW P n ops (O d (.call {callee:=.value (.func f),args:=xs.toArray,argTypes:=ats}) t p af::rest) Q ρ w:=by
 subst hv
 refine dE rfl rfl hdn ?_ h
 simp[execOp,resolve,ev,Deferred.ofValue,invoke,hr]
theorem Tz {x lo hi mx:Operand} {A:Option Addr} {len cap:Nat} {k k' k'':IntKind} {i j m:Int} (hT:ek P T e sz=true) (hx:ev ρ x=.slice A len cap) (hl:ev ρ lo=.int k i) (hh:ev ρ hi=.int k' j) (hm:ev ρ mx=.int k'' m) (h0:0<=i/\i<=j) (h2:j<=m) (h3:m<=cap) (hdn:aQ d n=true)
  (h: ∀ A' l' c',LW P n ops rest Q (fB ρ d (.slice A' l' c')) w):LW P n ops (O d (.slice T x (some lo) (some hi) (some mx)) t p af::rest) Q ρ w:=by
 obtain⟨hu,q,h5,h4⟩:=fe hT
 obtain⟨h0,h1⟩:=h0
 obtain⟨i,rfl⟩:=xo h0
 obtain⟨j,rfl⟩:=xo (show 0<=j by omega)
 obtain⟨m,rfl⟩:=xo (show 0<=m by omega)
 have a1:i<=j:=by omega
 have a2:j<=m:=by omega
 have a3:m<=cap:=by omega
 refine dE (v:=.slice (if m=i then A else A.map (·.add (i*sz))) (j-i) (m-i)) rfl rfl hdn ?_ (h _ _ _)
 simp[execOp,Instr.sliceAt,hx,hl,hh,hm,Sem.run_bind,run_underlying hu,Instr.slice,Instr.sliceBounds,Instr.sliceBound,asIntOf,a1,a2,a3,fV h5,h4]
end
end
section
section
variable {cs:Array Value} {o:Nat} {new:List Value}
theorem Cv {a:Nat} (ha:a<=o) (h:o<=cs.size):(pz cs o new).toList.take a=cs.toList.take a:=by
 have h1:(cs.toList.take o).length=o:=by rw[aI,ch];omega
 simp only[pz,aB]
 rw[kQ (by omega),dt,bE ha]
theorem Cu (h:o<=cs.size):(pz cs o new).toList.take (o+new.length)=cs.toList.take o++new:=by
 have h1:(cs.toList.take o).length=o:=by rw[aI,ch];omega
 have h2:(cs.toList.take o++new).length=o+new.length:=by rw[av,h1]
 show ug (o+new.length) (cs.toList.take o++new++cs.toList.drop (o+new.length))=_
 rw[<-h2]
 exact jq
theorem OC (h:o<=cs.size):(pz cs o new).toList.drop o=new++cs.toList.drop (o+new.length):=by
 have h1:(cs.toList.take o).length=o:=by rw[aI,ch];omega
 simp only[pz,aB]
 rw[List.drop_append_of_le_length (by omega),eE (by omega),jC]
end
theorem EM {a b m:Nat} (h:a=m) (h2:m<=b):Nat.min a b=m:=by subst h;exact bE h2
theorem RE {a b m:Nat} (h:b=m) (h2:m<=a):Nat.min a b=m:=by subst h;exact Nat.min_eq_right h2
section
variable {α:Type} {Y:fu α} {es:List α} {c:Nat} {cur:Array Value} {i j:Nat} {x:α}
theorem wk (hi:i<=es.length):(es.take i++[x]++es.drop i).length=es.length+1:=by simp;omega
theorem all_one (x:α):Y.all [x]=Y.f x:=by simp[fu.all]
theorem Kw (x:α) (es:List α) (i:Nat):Y.all (es.take i++[x]++es.drop i)=Y.all (es.take i)++Y.f x++Y.all (es.drop i):=by rw[fu.all_append,fu.all_append,all_one]
theorem d8.fit (h:d8 Y es c cur) (hi:i<=c):i*Y.sz<=cur.size:=by rw[h.size];exact cN _ hi
theorem d8.pre (h:d8 Y es c cur) (hi:i<=es.length):cur.toList.take (i*Y.sz)=Y.all (es.take i):=by
 have h1:i*Y.sz<=es.length*Y.sz:=cN _ hi
 rw[fu.all_take,<-h.all,dt,bE h1]
theorem d8.insIn (h:d8 Y es c cur) (hi:i<=es.length) (hc:es.length+1<=c):d8 Y (es.take i++[x]++es.drop i) c (pz (pz cur ((i+1)*Y.sz) (Y.all (es.drop i))) (i*Y.sz) (Y.f x)):=by
 have hl1:(Y.all (es.drop i)).length=(es.length-i)*Y.sz:=by rw[fu.length,dL]
 have hs:(i+1)*Y.sz+(Y.all (es.drop i)).length=(es.length+1)*Y.sz:=by rw[hl1,<-cW];congr 1;omega
 have hf1:=h.fit hc
 have hz1:(pz cur ((i+1)*Y.sz) (Y.all (es.drop i))).size=cur.size:=jX (by omega)
 have hf:(Y.f x).length=Y.sz:=Y.len x
 have hi1:(i+1)*Y.sz=i*Y.sz+Y.sz:=by rw[cW,gj]
 have hle:=h.fit (i:=i+1) (by omega)
 have hz2:(pz (pz cur ((i+1)*Y.sz) (Y.all (es.drop i))) (i*Y.sz) (Y.f x)).size=cur.size:=by rw[jX (by omega),hz1]
 refine⟨by rw[hz2,h.size],?_,by rw[wk hi];exact hc,h.max⟩
 rw[wk hi,Kw,<-hs,hi1]
 have h3:(pz (pz cur (i*Y.sz+Y.sz) (Y.all (es.drop i))) (i*Y.sz) (Y.f x)).toList=Y.all (es.take i)++Y.f x++(Y.all (es.drop i)++cur.toList.drop (i*Y.sz+Y.sz+(Y.all (es.drop i)).length)):=by
  show ug _ _++_++List.drop _ _=_
  rw[Cv (by omega) (by omega),h.pre hi,hf,OC (by omega)]
 rw[h3,<-aB]
 have h4:i*Y.sz+Y.sz+(Y.all (es.drop i)).length=(Y.all (es.take i)++Y.f x++Y.all (es.drop i)).length:=by
  rw[av,av,hf,fu.length,fu.length,aI,bE hi]
 rw[h4]
 exact jq
theorem d8.insNew {c2:Nat} {cur2:Array Value} (hs2:cur2.size=c2*Y.sz) (hm:c2<=maxLen) (hp:cur2.toList.take (i*Y.sz)=Y.all (es.take i)) (hi:i<=es.length) (hc:es.length+1<=c2):
  d8 Y (es.take i++[x]++es.drop i) c2 (pz (pz cur2 (i*Y.sz) (Y.f x)) ((i+1)*Y.sz) (Y.all (es.drop i))):=by
 have hl1:(Y.all (es.drop i)).length=(es.length-i)*Y.sz:=by rw[fu.length,dL]
 have hs:(i+1)*Y.sz+(Y.all (es.drop i)).length=(es.length+1)*Y.sz:=by rw[hl1,<-cW];congr 1;omega
 have hfit:(es.length+1)*Y.sz<=cur2.size:=by rw[hs2];exact cN _ hc
 have hf:(Y.f x).length=Y.sz:=Y.len x
 have hi1:(i+1)*Y.sz=i*Y.sz+Y.sz:=by rw[cW,gj]
 have hle:(i+1)*Y.sz<=(es.length+1)*Y.sz:=cN _ (by omega)
 have hz1:(pz cur2 (i*Y.sz) (Y.f x)).size=cur2.size:=jX (by omega)
 have hz2:(pz (pz cur2 (i*Y.sz) (Y.f x)) ((i+1)*Y.sz) (Y.all (es.drop i))).size=cur2.size:=by rw[jX (by omega),hz1]
 refine⟨by rw[hz2,hs2],?_,by rw[wk hi];exact hc,hm⟩
 rw[wk hi,Kw,<-hs,Cu (by omega),hi1,show i*Y.sz+Y.sz=i*Y.sz+(Y.f x).length by rw[hf],Cu (by omega),hp]
theorem Gv (hij:i<=j) (hj:j<=es.length):(es.take i++es.drop j).length=i+(es.length-j):=by simp;omega
theorem d8.del (h:d8 Y es c cur) (hij:i<=j) (hj:j<=es.length) {o:Nat} {zs:List Value} (ho:(i+(es.length-j))*Y.sz<=o) (hz:o+zs.length<=cur.size):d8 Y (es.take i++es.drop j) c (pz (pz cur (i*Y.sz) (Y.all (es.drop j))) o zs):=by
 have hl1:(Y.all (es.drop j)).length=(es.length-j)*Y.sz:=by rw[fu.length,dL]
 have hs:i*Y.sz+(Y.all (es.drop j)).length=(i+(es.length-j))*Y.sz:=by rw[hl1,<-cW]
 have hle:=h.le
 have hf1:=h.fit (i:=i) (by omega)
 have hz1:(pz cur (i*Y.sz) (Y.all (es.drop j))).size=cur.size:=jX (by omega)
 refine⟨by rw[jX (by omega),hz1,h.size],?_,by rw[Gv hij hj];omega,h.max⟩
 rw[Gv hij hj,Cv ho (by omega),<-hs,Cu hf1,h.pre (by omega),fu.all_append]
theorem d8.from_ (h:d8 Y es c cur) {g:Nat} {T:TypeId} {fr:Nat×Nat} {w:World} (hb:w.heap[g]? =some (.cells cur T fr)) (j:Nat): ∀ m u,(Y.all (es.drop j))[m]? =some u->w.cell? ⟨g,j*Y.sz+m,none⟩=some u:=fun m u hu=>by
 rw[fu.all_drop,df,<-h.all,dz]at hu
 split at hu
 exact aK hb (by simpa using hu)
 cases hu
theorem d8.srcFrom (h:d8 Y es c cur) {g:Nat} {T:TypeId} {fr:Nat×Nat} {w:World} (hb:w.heap[g]? =some (.cells cur T fr)) {A:Option Addr} {l:Nat} (hj:j<=es.length) (hA:xW (some ⟨g,0,none⟩) A j l Y.sz) (hl:j<es.length->j<l):wL w A (es.length-j) Y.sz (Y.all (es.drop j)):=by
 refine⟨by rw[fu.length,dL],fun h0=>⟨⟨g,j*Y.sz,none⟩,?_,fun m u hu=> ?_⟩⟩
 have:=hA (hl (by omega)) g 0 rfl
 rw[cC]at this
 exact this
 rw[Addr.add_lit]
 exact h.from_ hb j m u hu
end
theorem C7 {g cap l sz:Nat} (h:l<cap):cut (some ⟨g,0,none⟩) cap l sz=some ⟨g,l*sz,none⟩:=by
 have:=s9 (A:=some ⟨g,0,none⟩) (l:=l) (sz:=sz) (ap cap) h g 0 rfl
 rw[cC]at this;exact this
theorem xW.at0 {g cap l sz:Nat} {A:Option Addr} (h:xW (some ⟨g,0,none⟩) A l cap sz) (hl:l<cap):A=some ⟨g,l*sz,none⟩:=by
 have:=h hl g 0 rfl
 rw[cC]at this;exact this
theorem Hp.swapRow {w0 w:World} {F:List cf} {K M:List (Nat×Obj)} {a b:Nat×Obj} (H:Hp w0 w ([]++[a]++(K++[b]++M)) F):Hp w0 w (K++[a]++M) F:=by
 have h1:Hp w0 w (a::(K++[b]++M)) F:=H
 have hs:List.Sublist (K++M) (K++[b]++M):=List.Sublist.append (aE K [b]) (au M)
 have h:Hp w0 w (a::(K++M)) F:=h1.forget (List.Sublist.cons_cons a hs) (fun _ h=>h)
 exact h.perm (by rw[aB];exact qY)
end
section
section
variable {P:Program} {n:Nat} {ρ:gV} {w:World} {ops:Array Oper} {d:Nat} {t:TypeId} {p:String} {af:Array Edge} {g:Option (Nat×Bool)}
variable {C:iO} {lo pu:List Nat} {spec:Nat->Value->iO} {T:gV->iO->Prop} {r:List Nat} {Fc:iO} {i:Nat}
theorem Rj {u:Value} {f:FuncId} {x:Operand} {xs:List Operand} {ats:Array TypeId} {cap vs:List Value} (hf:bh P f=true) (hx:ev ρ x=.func (.func f) #[] cap.toArray) (hi:ops[i]? =some (Og (some d) (.call {callee:=.value x,args:=xs.toArray,argTypes:=ats}) t p af g)) (hw:kf ops ρ (Og (some d) (.call {callee:=.value x,args:=xs.toArray,argTypes:=ats}) t p af g)=true) (hl:lo.contains i=true) (hdn:aQ d n=true)
  (hs:spec i=fun v _=>v=u) (hc: ∀ w',C w'->di P f vs w' fun v w2=>v=u/\Below w'.heap.size w' w2) (hv:xs.map (ev ρ)++cap=vs)
  (h:AW P n ops C lo pu spec T r (fB ρ d u) (fun w=>Fc w/\True)):AW P n ops C lo pu spec T (i::r) ρ Fc:=
 Tt hi hw hl rfl hdn (fun a ha w' hcw=>by
  unfold M0
  have hr:(execOp a.eval (Og (some d) (.call {callee:=.value x,args:=xs.toArray,argTypes:=ats}) t p af g)).run P w'=.ok (.enter f vs.toArray) w':=by
   rw[ha.eval];subst hv
   simp[execOp,resolve,hx,Deferred.ofValue,invoke,p5 hf]
  rw[hr]
  exact⟨rfl,Calls.mono (hc w' hcw) fun e w2 ⟨v,he,h1,h2⟩=>⟨v,he,h2,by rw[hs];exact h1⟩⟩) fun v ⟨w',_,hv'⟩=>by
  rw[hs]at hv'⊢
  subst hv'
  simpa using h
end
end
section
section
variable {P:Program} {ρ:gV} {w:World} {t:TypeId} {p:String} {af:Array Edge} {g:Option (Nat×Bool)} {dst:Option Nat}
def SJ (a b:ByteArray):Bool:=Op.bytesLess a.toList b.toList
theorem RX {x y:Operand} {ty ty':TypeId} {a b:ByteArray} (hx:ev ρ x=.string a) (hy:ev ρ y=.string b):(execOp (ev ρ) (Og dst (.binOp .lss ty x y ty') t p af g)).run P w=.ok (.value (.bool (SJ a b))) w:=by
 simp[execOp,hx,hy,eqGuard,binOp,Op.stringOp,SJ]
theorem R0 {x y:Operand} {ty ty':TypeId} {a b:ByteArray} (hx:ev ρ x=.string a) (hy:ev ρ y=.string b):(execOp (ev ρ) (Og dst (.binOp .gtr ty x y ty') t p af g)).run P w=.ok (.value (.bool (!(SJ a b||a.toList==b.toList)))) w:=by
 simp[execOp,hx,hy,eqGuard,binOp,Op.stringOp,SJ]
end
end
section
section
variable {P:Program} {n:Nat} {Q:ig} {ρ:gV} {w:World} {ops:Array Oper} {S:World->Prop}
end
end
section
section
variable {P:Program} {ρ:gV} {w:World} {t:TypeId} {p:String} {af:Array Edge} {g:Option (Nat×Bool)} {dst:Option Nat}
theorem Rv {x lo hi:Operand} {T:TypeId} {s:ByteArray} {k k':IntKind} {i j:Int} (hT:P.underlying T=some .string) (hx:ev ρ x=.string s) (hl:ev ρ lo=.int k i) (hh:ev ρ hi=.int k' j) (h0:0<=i) (h1:i<=j) (h2:j<=s.size):(execOp (ev ρ) (Og dst (.slice T x (some lo) (some hi) none) t p af g)).run P w=.ok (.value (.string (s.extract i.toNat j.toNat))) w:=by
 have:=run_slice_string (P:=P) w T s k k' i j hT h0 h1 h2
 simp only[execOp,Instr.sliceAt,dA,jA,hx,hl,hh,Sem.run_bind,run_underlying hT,Result.andThen_ok,this,Sem.run_pure]
end
theorem Hp.freeze {α:Type} {Y:fu α} {w0 w:World} {L:List (Nat×Obj)} {F:List cf} {b c:Nat} {cur:Array Value} {T:TypeId} {fr:Nat×Nat} {es:List α} (H:Hp w0 w ((b,.cells cur T fr)::L) F) (hrow:d8 Y es c cur):Hp w0 w L (ee Y b (b+1) (some ⟨b,0,none⟩) es::F):=by
 have hb:=H.ent (i:=0) (b:=b) (o:=.cells cur T fr) rfl
 have H2:=H.forget (L':=L) (aS _ _) (fun _ h=>h)
 refine⟨H2.below,H2.ents,H2.nodup,fun f hf=> ?_⟩
 rcases ay.1 hf with rfl|hf
 refine⟨hrow.rd hb,bX hb,?_⟩
 intro e he
 have hn:=H.nodup
 rw[dB,jB]at hn
 have:e.1≠b:=fun hh=>hn.1 (hh▸bM (f:=(·.1)) he)
 show _∨_
 first|omega|(show e.1<b∨b+1<=e.1;omega)
 exact H2.facts f hf
end
theorem Z.{u} {α:Sort u} {a:α}:a=a:=rfl
theorem N {p:Prop} (h:p:=by kernel_rfl):p:=h
theorem I {p:Prop} (h:p:=by omega):p:=h
theorem Nq {p:Prop} (h:p:=by exact fun _ _ _ h=>h):p:=h
theorem Qg {M:List Nat} {ρ ρ':gV} (h:GM M ρ ρ':=by repeat (first|exact GM.refl _ _|exact nj|refine lV rfl ?_|refine jZ _ rfl ?_|refine Th rfl ?_)):GM M ρ ρ':=h
abbrev J (n:Int):Value:=.int .i64 n
abbrev Qd (b:Nat):Option Addr:=some ⟨b,0,none⟩
end Go.Eng
