/- TopAtomic: the statement holds for every input. The walks stand in the other parts. -/
import Derived.Test.YtclibalpdhhhfaaGreatDoorCF5
namespace Go.Proofs.YtclibalpdhhhfaaGreatDoor.topAtomic
open Go.ChangeShapes Go.WideShapes Go.ChangeAt Go.RowKit Go.Eng
open Go.Proofs.Tryz renaming prog→aa
open _root_.Option.some renaming inj→aZ
set_option maxRecDepth 100000
set_option linter.unusedVariables false
theorem contract (H:Type) (enc:TypeId×Value->H) (Ww:World) (base:Nat) (args:Array Value) (ds gs:List (DataW H)) (before:List MemPlace)
  (hval: ∀ (j:Nat) t v,Tryz.f3.params[j]? =some t->args[j]? =some v->Value.okWide aa Ww .any base t v)
  (hW:DataW.Whole enc aa Tryz.f3.params.toList Rows.topAtomicSpec.vars false Ww args.toList ds gs before):
  Calls aa 3 args Ww fun e W'=> ∃ v,e=.returned v/\Rows.topAtomicSpec.post enc aa Tryz.f3 false true false false Ww args v W':=by
 have hW':=hW
 obtain⟨p,q,hA0,hV,rfl,hfz,hnd⟩:=hW
 have hA:DataW.TrodAll enc aa Ww 0 (fun _=>true) true Tryz.f3.params.toList args.toList ds p:=hA0
 rw[Tryz.params3]at hA hval
 obtain⟨v0,vs0,d0,ds0,p0,q0,hargs,rfl,rfl,h0,r0⟩:=trodAll_cons hA
 obtain⟨v1,vs1,d1,ds1,p1,q1,rfl,rfl,rfl,h1,r1⟩:=trodAll_cons r0
 obtain⟨v2,vs2,d2,ds2,p2,q2,rfl,rfl,rfl,h2,r2⟩:=trodAll_cons r1
 obtain⟨v3,vs3,d3,ds3,p3,q3,rfl,rfl,rfl,h3,r3⟩:=trodAll_cons r2
 obtain⟨v4,vs4,d4,ds4,p4,q4,rfl,rfl,rfl,h4,r4⟩:=trodAll_cons r3
 obtain⟨rfl,rfl,rfl⟩:=trodAll_nil r4
 obtain rfl:args= #[v0,v1,v2,v3,v4]:=by cases args;simp_all
 obtain⟨rfl,rfl⟩:=trodVars_none hV
 have k0:=h0
 have lt0: ∀ x∈p0,x.block<Ww.heap.size:=by obtain⟨m,hm⟩:=k0;exact DataW.trod_lt m _ _ _ hm
 obtain⟨A0,l0,c0,rfl⟩:=okWide_slice Tryz.underlying22 (hval 0 22 v0 rfl rfl)
 obtain⟨rs0,hl0,hc0,hm0,hr0,hok0⟩:=G1 (Y:=I3) Tryz.underlying22 Ah J5.ok (fun _ _ _ h=>Lx h) h0
 have hmx0:rs0.length<=9223372036854775807:=by simp only[maxLen]at hm0;omega
 subst hl0
 have k1:=h1
 have lt1: ∀ x∈p1,x.block<Ww.heap.size:=by obtain⟨m,hm⟩:=k1;exact DataW.trod_lt m _ _ _ hm
 obtain⟨a1,rfl,rfl,rfl,w1⟩:=open_int Tryz.underlying3 (hval 1 3 v1 rfl rfl) h1
 have i1:=xr w1
 have k2:=h2
 have lt2: ∀ x∈p2,x.block<Ww.heap.size:=by obtain⟨m,hm⟩:=k2;exact DataW.trod_lt m _ _ _ hm
 obtain⟨a2,rfl,rfl,rfl,w2⟩:=open_int Tryz.underlying3 (hval 2 3 v2 rfl rfl) h2
 have i2:=xr w2
 have k3:=h3
 have lt3: ∀ x∈p3,x.block<Ww.heap.size:=by obtain⟨m,hm⟩:=k3;exact DataW.trod_lt m _ _ _ hm
 obtain⟨a3,rfl,rfl,rfl⟩:=open_bool Tryz.underlying4 (hval 3 4 v3 rfl rfl) h3
 have k4:=h4
 have lt4: ∀ x∈p4,x.block<Ww.heap.size:=by obtain⟨m,hm⟩:=k4;exact DataW.trod_lt m _ _ _ hm
 obtain⟨A4,l4,c4,rfl⟩:=okWide_slice Tryz.underlying23 (hval 4 23 v4 rfl rfl)
 obtain⟨rs4,hl4,hc4,hm4,hr4,hok4⟩:=G1 (Y:=bR) Tryz.underlying23 HA i64 (fun _ _ _ h=>L0 h) h4
 have hmx4:rs4.length<=9223372036854775807:=by simp only[maxLen]at hm4;omega
 subst hl4
 have main:Calls aa 3 #[.slice A0 rs0.length c0,.int .i64 a1,.int .i64 a2,.bool a3,.slice A4 rs4.length c4] Ww fun e w'=>e=.returned (.bool true)/\Below Ww.heap.size Ww w':=by
  exact Lk (Fs rs0 A0 c0 a1 a2 a3 rs4 A4 c4 Ww hr0 hok0 hmx0 i1 i2 hr4 hok4 hmx4)
 clear hA0
 refine main.mono fun e W' ⟨he,bel⟩=> ?_
 subst he
 exact⟨_,rfl,_,_,_,[],_,[],hW',trodAll_mk1 (shut_bool Tryz.underlying4 _),(trodAll_cons_mk (Below.trod wh (by kernel_rfl) (of_decide_eq_true (by kernel_rfl)) k0 bel lt0) (trodAll_cons_mk (Below.trod wh (by kernel_rfl) (of_decide_eq_true (by kernel_rfl)) k1 bel lt1) (trodAll_cons_mk (Below.trod wh (by kernel_rfl) (of_decide_eq_true (by kernel_rfl)) k2 bel lt2) (trodAll_cons_mk (Below.trod wh (by kernel_rfl) (of_decide_eq_true (by kernel_rfl)) k3 bel lt3) (trodAll_cons_mk (Below.trod wh (by kernel_rfl) (of_decide_eq_true (by kernel_rfl)) k4 bel lt4) trodAll_mk0))))),rfl,bel.frame _,fun h=>by cases h⟩
theorem lifted (os:Os) (started:os.Started) (H:Type) (enc:TypeId×Value->H):
  ReturnsInHanded {} Tryz.checked os 3 .any (fun w args=>(Rows.topAtomicSpec.pre enc aa Tryz.f3 [] false w args/\laidMetH aa Rows.topAtomicRow.laid w)/\sizedMet enc aa Tryz.f3 (OpenSpec.ofChange Rows.topAtomicSpec) false w args) (Rows.topAtomicSpec.post enc aa Tryz.f3 false true false false):=by
 refine returnsInHanded_of_change_and (C:=Tryz.checked) (X:=fun w _=>laidMetH aa Rows.topAtomicRow.laid w) (fun _ _ _ hh h=>h.of_heap hh) Jb started (by kernel_rfl) Tryz.func3
  (ChangeSpec.witness_at (enc:=enc) (C:=Tryz.checked) (os:=os) (X:=fun w _=>laidMetH aa Rows.topAtomicRow.laid w) false (World.laidAll aa os Rows.topAtomicRow.laid) #[.slice none 0 0,.int .i64 0,.int .i64 0,.bool false,.slice none 0 0] 8 rfl (by kernel_rfl) (by kernel_rfl) (by kernel_rfl) (by kernel_rfl) (by kernel_rfl) (by rw[Go.MakeChecks.laidMetH_plain _ _ _ (by kernel_rfl)];exact laidMet_laidAll _ (by kernel_rfl) (by kernel_rfl))) ?_
 intro Ww base args ds gs before hval hW _ _ hL _
 exact contract H enc Ww base args ds gs before hval hW
theorem closed:joinedFacts Tryz.checked.prog 3 Tryz.f3 Rows.topAtomicSpec Rows.topAtomicRow=true:=by
 unfold joinedFacts
 rw[wh,Jj,Ob,Oc,I6,GZ,LM,Hu,Ov]
 kernel_rfl
theorem over:Rows.topAtomicRow.holds Tryz.pinned (OpenSpec.ofChange Rows.topAtomicSpec):=
 OpenClaim.holds_of_wide 3 Tryz.f3 rfl rfl rfl rfl rfl rfl rfl ⟨rfl,rfl,rfl,rfl,rfl⟩ rfl rfl rfl rfl rfl (by kernel_rfl) Tryz.func3 closed
  (of_decide_eq_true (by kernel_rfl)) (by unfold Func.isWrapper;first|(rw[if_pos (by decide+kernel)];kernel_rfl)|(rw[if_neg (by decide+kernel)];exact⟨rfl,rfl⟩))
  (fun os started H enc _=>lifted os started H enc)
theorem proved:Rows.TopAtomicCardSaid:=
 Claim7.holds_tied_plain_at .later [] [.data,.data,.data] true (true, "007a4d8a169976b0ba2aaf4c57cec0e1c4973fa92c663323ef8e144715bd72c6") false
  over (fun _ h=>by cases h) (by kernel_rfl) (fun _ h=>by cases h) topAtomic_row_tie rfl ⟨rfl,rfl⟩ (by kernel_rfl) rfl
  (fun f fn hf hfn=>by
   obtain rfl:f=3:=aZ ((show aa.funcNamed "tailrace/tailracetop.TopAtomic" =some 3 by kernel_rfl).symm.trans hf)|>.symm
   obtain rfl:fn=Tryz.f3:=(aZ (Tryz.func3.symm.trans hfn)).symm
   exact⟨by kernel_rfl,fun j t ht=>by
    rw[Tryz.params3]at ht
    rcases j with _|_|_|_|_|j
    obtain rfl:t=22:=by simpa using ht.symm
    exact(show aa.wantsStandIn 22=false by kernel_rfl)
    obtain rfl:t=3:=by simpa using ht.symm
    exact(show aa.wantsStandIn 3=false by kernel_rfl)
    obtain rfl:t=3:=by simpa using ht.symm
    exact(show aa.wantsStandIn 3=false by kernel_rfl)
    obtain rfl:t=4:=by simpa using ht.symm
    exact(show aa.wantsStandIn 4=false by kernel_rfl)
    obtain rfl:t=23:=by simpa using ht.symm
    exact(show aa.wantsStandIn 23=false by kernel_rfl)
    simp at ht⟩)
  (by kernel_rfl)
end Go.Proofs.YtclibalpdhhhfaaGreatDoor.topAtomic
