/- TopOrder: the statement holds for every input. The walks stand in the other parts. -/
import Derived.Test.YtclibalpdhhhfaaGreatDoorAF5
namespace Go.Proofs.YtclibalpdhhhfaaGreatDoor.topOrder
open Go.ChangeShapes Go.WideShapes Go.ChangeAt Go.RowKit Go.Eng
open Go.Proofs.Tryz renaming prog→aa
open _root_.Option.some renaming inj→aT
set_option maxRecDepth 100000
set_option linter.unusedVariables false
theorem contract (H:Type) (enc:TypeId×Value->H) (Ww:World) (base:Nat) (args:Array Value) (ds gs:List (DataW H)) (before:List MemPlace)
  (hval: ∀ (j:Nat) t v,Tryz.f4.params[j]? =some t->args[j]? =some v->Value.okWide aa Ww .any base t v)
  (hW:DataW.Whole enc aa Tryz.f4.params.toList Rows.topOrderSpec.vars false Ww args.toList ds gs before):
  Calls aa 4 args Ww fun e W'=> ∃ v,e=.returned v/\Rows.topOrderSpec.post enc aa Tryz.f4 false true false false Ww args v W':=by
 have hW':=hW
 obtain⟨p,q,hA0,hV,rfl,hfz,hnd⟩:=hW
 have hA:DataW.TrodAll enc aa Ww 0 (fun _=>true) true Tryz.f4.params.toList args.toList ds p:=hA0
 rw[Tryz.params4]at hA hval
 obtain⟨v0,vs0,d0,ds0,p0,q0,hargs,rfl,rfl,h0,r0⟩:=trodAll_cons hA
 obtain⟨v1,vs1,d1,ds1,p1,q1,rfl,rfl,rfl,h1,r1⟩:=trodAll_cons r0
 obtain⟨v2,vs2,d2,ds2,p2,q2,rfl,rfl,rfl,h2,r2⟩:=trodAll_cons r1
 obtain⟨rfl,rfl,rfl⟩:=trodAll_nil r2
 obtain rfl:args= #[v0,v1,v2]:=by cases args;simp_all
 obtain⟨rfl,rfl⟩:=trodVars_none hV
 have k0:=h0
 have lt0: ∀ x∈p0,x.block<Ww.heap.size:=by obtain⟨m,hm⟩:=k0;exact DataW.trod_lt m _ _ _ hm
 obtain⟨A0,l0,c0,rfl⟩:=okWide_slice Tryz.underlying23 (hval 0 23 v0 rfl rfl)
 obtain⟨rs0,hl0,hc0,hm0,hr0,hok0⟩:=KZ (Y:=bN) Tryz.underlying23 FA i64 (fun _ _ _ h=>JL h) h0
 have hmx0:rs0.length<=9223372036854775807:=by simp only[maxLen]at hm0;omega
 subst hl0
 have k1:=h1
 have lt1: ∀ x∈p1,x.block<Ww.heap.size:=by obtain⟨m,hm⟩:=k1;exact DataW.trod_lt m _ _ _ hm
 obtain⟨a1,rfl,rfl,rfl,w1⟩:=open_int Tryz.underlying3 (hval 1 3 v1 rfl rfl) h1
 have i1:=GA w1
 have k2:=h2
 have lt2: ∀ x∈p2,x.block<Ww.heap.size:=by obtain⟨m,hm⟩:=k2;exact DataW.trod_lt m _ _ _ hm
 obtain⟨a2,rfl,rfl,rfl,w2⟩:=open_int Tryz.underlying3 (hval 2 3 v2 rfl rfl) h2
 have i2:=GA w2
 have main:Calls aa 4 #[.slice A0 rs0.length c0,.int .i64 a1,.int .i64 a2] Ww fun e w'=>e=.returned (.bool true)/\Below Ww.heap.size Ww w':=by
  exact Jh (ER rs0 A0 c0 a1 a2 Ww hr0 hok0 hmx0 i1 i2)
 clear hA0
 refine main.mono fun e W' ⟨he,bel⟩=> ?_
 subst he
 exact⟨_,rfl,_,_,_,[],_,[],hW',trodAll_mk1 (shut_bool Tryz.underlying4 _),(trodAll_cons_mk (Below.trod zC (by kernel_rfl) (of_decide_eq_true (by kernel_rfl)) k0 bel lt0) (trodAll_cons_mk (Below.trod zC (by kernel_rfl) (of_decide_eq_true (by kernel_rfl)) k1 bel lt1) (trodAll_cons_mk (Below.trod zC (by kernel_rfl) (of_decide_eq_true (by kernel_rfl)) k2 bel lt2) trodAll_mk0))),rfl,bel.frame _,fun h=>by cases h⟩
theorem lifted (os:Os) (started:os.Started) (H:Type) (enc:TypeId×Value->H):
  ReturnsInHanded {} Tryz.checked os 4 .any (fun w args=>(Rows.topOrderSpec.pre enc aa Tryz.f4 [] false w args/\laidMetH aa Rows.topOrderRow.laid w)/\sizedMet enc aa Tryz.f4 (OpenSpec.ofChange Rows.topOrderSpec) false w args) (Rows.topOrderSpec.post enc aa Tryz.f4 false true false false):=by
 refine returnsInHanded_of_change_and (C:=Tryz.checked) (X:=fun w _=>laidMetH aa Rows.topOrderRow.laid w) (fun _ _ _ hh h=>h.of_heap hh) G1 started (by kernel_rfl) Tryz.func4
  (ChangeSpec.witness_at (enc:=enc) (C:=Tryz.checked) (os:=os) (X:=fun w _=>laidMetH aa Rows.topOrderRow.laid w) false (World.laidAll aa os Rows.topOrderRow.laid) #[.slice none 0 0,.int .i64 0,.int .i64 0] 8 rfl (by kernel_rfl) (by kernel_rfl) (by kernel_rfl) (by kernel_rfl) (by kernel_rfl) (by rw[Go.MakeChecks.laidMetH_plain _ _ _ (by kernel_rfl)];exact laidMet_laidAll _ (by kernel_rfl) (by kernel_rfl))) ?_
 intro Ww base args ds gs before hval hW _ _ hL _
 exact contract H enc Ww base args ds gs before hval hW
theorem closed:joinedFacts Tryz.checked.prog 4 Tryz.f4 Rows.topOrderSpec Rows.topOrderRow=true:=by
 unfold joinedFacts
 rw[zC,Ha,LI,LJ,GV,EY,JB,Fu,LR]
 kernel_rfl
theorem over:Rows.topOrderRow.holds Tryz.pinned (OpenSpec.ofChange Rows.topOrderSpec):=
 OpenClaim.holds_of_wide 4 Tryz.f4 rfl rfl rfl rfl rfl rfl rfl ⟨rfl,rfl,rfl,rfl,rfl⟩ rfl rfl rfl rfl rfl (by kernel_rfl) Tryz.func4 closed
  (of_decide_eq_true (by kernel_rfl)) (by unfold Func.isWrapper;first|(rw[if_pos (by decide+kernel)];kernel_rfl)|(rw[if_neg (by decide+kernel)];exact⟨rfl,rfl⟩))
  (fun os started H enc _=>lifted os started H enc)
theorem proved:Rows.TopOrderCardSaid:=
 Claim7.holds_tied_plain_at .later [] [.data,.data,.data] true (true, "007a4d8a169976b0ba2aaf4c57cec0e1c4973fa92c663323ef8e144715bd72c6") false
  over (fun _ h=>by cases h) (by kernel_rfl) (fun _ h=>by cases h) topOrder_row_tie rfl ⟨rfl,rfl⟩ (by kernel_rfl) rfl
  (fun f fn hf hfn=>by
   obtain rfl:f=4:=aT ((show aa.funcNamed "tailrace/tailracetop.TopOrder" =some 4 by kernel_rfl).symm.trans hf)|>.symm
   obtain rfl:fn=Tryz.f4:=(aT (Tryz.func4.symm.trans hfn)).symm
   exact⟨by kernel_rfl,fun j t ht=>by
    rw[Tryz.params4]at ht
    rcases j with _|_|_|j
    obtain rfl:t=23:=by simpa using ht.symm
    exact(show aa.wantsStandIn 23=false by kernel_rfl)
    obtain rfl:t=3:=by simpa using ht.symm
    exact(show aa.wantsStandIn 3=false by kernel_rfl)
    obtain rfl:t=3:=by simpa using ht.symm
    exact(show aa.wantsStandIn 3=false by kernel_rfl)
    simp at ht⟩)
  (by kernel_rfl)
end Go.Proofs.YtclibalpdhhhfaaGreatDoor.topOrder
