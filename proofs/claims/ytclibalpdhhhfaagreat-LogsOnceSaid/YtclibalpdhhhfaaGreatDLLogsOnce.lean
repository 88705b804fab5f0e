/- LogsOnce: the statement holds for every input. The walks stand in the other parts. -/
import Derived.Test.YtclibalpdhhhfaaGreatDF5
namespace Go.Proofs.YtclibalpdhhhfaaGreat.logsOnce
open Go.ChangeShapes Go.WideShapes Go.ChangeAt Go.RowKit Go.Eng
open Go.Proofs.Tryz renaming prog→aa
set_option maxRecDepth 100000
set_option linter.unusedVariables false
theorem contract (H:Type) (enc:TypeId×Value->H) (Ww:World) (base:Nat) (args:Array Value) (ds gs:List (DataW H)) (before:List MemPlace)
  (hval: ∀ (j:Nat) t v,Tryz.f7.params[j]? =some t->args[j]? =some v->Value.okWide aa Ww .any base t v)
  (hW:DataW.Whole enc aa Tryz.f7.params.toList Rows.logsOnceSpec.vars false Ww args.toList ds gs before):
  Calls aa 7 args Ww fun e W'=> ∃ v,e=.returned v/\Rows.logsOnceSpec.post enc aa Tryz.f7 false true false false Ww args v W':=by
 have hW':=hW
 obtain⟨p,q,hA0,hV,rfl,hfz,hnd⟩:=hW
 have hA:DataW.TrodAll enc aa Ww 0 (fun _=>true) true Tryz.f7.params.toList args.toList ds p:=hA0
 rw[Tryz.params7]at hA hval
 obtain⟨v0,vs0,d0,ds0,p0,q0,hargs,rfl,rfl,h0,r0⟩:=trodAll_cons hA
 obtain⟨v1,vs1,d1,ds1,p1,q1,rfl,rfl,rfl,h1,r1⟩:=trodAll_cons r0
 obtain⟨v2,vs2,d2,ds2,p2,q2,rfl,rfl,rfl,h2,r2⟩:=trodAll_cons r1
 obtain⟨rfl,rfl,rfl⟩:=trodAll_nil r2
 obtain rfl:args= #[v0,v1,v2]:=by cases args;simp_all
 obtain⟨rfl,rfl⟩:=trodVars_none hV
 have k0:=h0
 have lt0: ∀ x∈p0,x.block<Ww.heap.size:=by obtain⟨m,hm⟩:=k0;exact DataW.trod_lt m _ _ _ hm
 obtain⟨A0,l0,c0,rfl⟩:=okWide_slice Tryz.underlying22 (hval 0 22 v0 rfl rfl)
 obtain⟨rs0,hl0,hc0,hm0,hr0,hok0⟩:=Kp (Y:=vC) Tryz.underlying22 yk Hw.ok (fun _ _ _ h=>IR h) h0
 have hmx0:rs0.length<=9223372036854775807:=by simp only[maxLen]at hm0;omega
 subst hl0
 have k1:=h1
 have lt1: ∀ x∈p1,x.block<Ww.heap.size:=by obtain⟨m,hm⟩:=k1;exact DataW.trod_lt m _ _ _ hm
 obtain⟨a1,rfl,rfl,rfl,w1⟩:=open_int Tryz.underlying3 (hval 1 3 v1 rfl rfl) h1
 have i1:=xp w1
 have k2:=h2
 have lt2: ∀ x∈p2,x.block<Ww.heap.size:=by obtain⟨m,hm⟩:=k2;exact DataW.trod_lt m _ _ _ hm
 obtain⟨a2,rfl,rfl,rfl,w2⟩:=open_int Tryz.underlying3 (hval 2 3 v2 rfl rfl) h2
 have i2:=xp w2
 have main:Calls aa 7 #[.slice A0 rs0.length c0,.int .i64 a1,.int .i64 a2] Ww fun e w'=>e=.returned (.bool true)/\Below Ww.heap.size Ww w':=by
  exact IM (Ff rs0 A0 c0 a1 a2 Ww hr0 hok0 hmx0 i1 i2)
 clear hA0
 refine main.mono fun e W' ⟨he,bel⟩=> ?_
 subst he
 exact⟨_,rfl,_,_,_,[],_,[],hW',trodAll_mk1 (shut_bool Tryz.underlying4 _),(trodAll_cons_mk (Below.trod za (by kernel_rfl) (of_decide_eq_true (by kernel_rfl)) k0 bel lt0) (trodAll_cons_mk (Below.trod za (by kernel_rfl) (of_decide_eq_true (by kernel_rfl)) k1 bel lt1) (trodAll_cons_mk (Below.trod za (by kernel_rfl) (of_decide_eq_true (by kernel_rfl)) k2 bel lt2) trodAll_mk0))),rfl,bel.frame _,fun h=>by cases h⟩
theorem lifted (os:Os) (started:os.Started) (H:Type) (enc:TypeId×Value->H):
  ReturnsInHanded {} Tryz.checked os 7 .any (Rows.logsOnceSpec.pre6 enc aa Tryz.f7 Rows.logsOnceRow.domain false) (Rows.logsOnceSpec.post enc aa Tryz.f7 false true false false):=by
 refine returnsInHanded_of_change (C:=Tryz.checked) GE started (by kernel_rfl) Tryz.func7
  (ChangeSpec.witness6 (enc:=enc) (C:=Tryz.checked) false ⟨#[],#[.slice none 0 0,.int .i64 0,.int .i64 0],[]⟩ 8 (by kernel_rfl) (by kernel_rfl) (by kernel_rfl) (by kernel_rfl)) ?_
 intro Ww base args ds gs before hval hW _ _
 exact contract H enc Ww base args ds gs before hval hW
theorem closed:joinedFacts Tryz.checked.prog 7 Tryz.f7 Rows.logsOnceSpec Rows.logsOnceRow=true:=by
 unfold joinedFacts
 rw[za,GO,KS,KT,Gz,ED,I5,Fg,KZ]
 kernel_rfl
theorem over:Rows.logsOnceRow.holds Tryz.pinned (OpenSpec.ofChange Rows.logsOnceSpec):=
 OpenClaim.holds_of_wide 7 Tryz.f7 rfl rfl rfl rfl rfl rfl rfl ⟨rfl,rfl,rfl,rfl,rfl⟩ rfl rfl rfl rfl rfl (by kernel_rfl) Tryz.func7 closed
  (of_decide_eq_true (by kernel_rfl)) (by unfold Func.isWrapper;first|(rw[if_pos (by decide+kernel)];kernel_rfl)|(rw[if_neg (by decide+kernel)];exact⟨rfl,rfl⟩))
  (fun os started H enc _=>lifted os started H enc)
theorem proved:Rows.LogsOnceSaid:=over
end Go.Proofs.YtclibalpdhhhfaaGreat.logsOnce
