/- Part 1 of the proofs over this seat: what its theorems say holds for every input that they name. -/
import Derived.Test.YtclibalpdhhhfaaGreatDoorAE0
namespace Go.Proofs.YtclibalpdhhhfaaGreatDoor
open Go Go.Eng Go.RowKit
open Go.Eng renaming bL→U, bD→W, ba→Zr, jl→Zk, ur→Zt, g8→Zb, p5→Zx, eM→Yi, Af→Yb, qf→Ys, QF→Yp, Is→Yu, pz→Wi, Gj→Wb, vI→Ws, QK→Wp, FY→Zf, IH→Xi, OF→Xa, OE→Xb, IG→Xs, GW→Kt, GX→N, gL→ZT, eS→ZF
open Go.Proofs.Tryz renaming prog→aa
open _root_.List renaming mem_of_getElem?→ab,length_set→ae,getElem?_eq_getElem→ai,mem_cons_of_mem→aj,getElem?_set_self→am,replicate→ap,mem_append→aq,mem_singleton→ar,mem_cons→av,length_append→ax,mem_cons_self→az,getElem?_eq_some_iff→aA,append_assoc→aB,mem_or_eq_of_mem_set→aC,length_take→aF,getElem?_map→aH,mem_iff_getElem?→aM,findIdx?_eq_some_iff_getElem→aP,sublist_cons_self→aR,append_nil→aW,map_append→bh,length_map→bl,mem_nil_iff→bu,length_cons→bv,mem_map_of_mem→bG,take_length→bM,length_replicate→bO,eq_nil_of_length_eq_zero→bR,mem_map→bS,getElem?_append_left→cd,getElem?_append_right→cj,mem_append_right→cB,length_singleton→cF,getD_eq_getElem?_getD→cR,map_set→cT,findIdx?_eq_none_iff→cZ,length_drop→db,length→di,getElem?_drop→dk,take_take→dv,take_of_length_le→dS,mem_singleton_self→d6,all_eq_true→ef,ext_getElem?→ei,drop_of_length_le→ej,map_cons→eN,getElem?_take_of_lt→eY,getElem?_replicate→fm,length_nil→ft,drop_length→fz,flatMap_cons→gm,take_append_drop→gQ,mem_append_left→ir,take_left→jg,filter_append→jh,nodup_cons→jq,replicate_succ→jY,drop_drop→j7,take_append_of_le_length→kI,nil_append→kZ,getElem?_set→lx,cons_append→mr,drop_eq_getElem_cons→m0,flatMap_append→m4,getElem?_cons_succ→oU,nodup_append→pD,map_nil→pE,find?_cons_of_neg→pH,take_subset→qE,perm_middle→qF,range→tI,perm_append_singleton→tJ,any_eq_false→uH,filter_eq_nil_iff→wD,mem_of_mem_take→y8,set_cons_zero→BL,find?_eq_none→BM,take_succ_eq_append_getElem→Dq
open _root_.List.Perm renaming swap→ak
open _root_.Nat renaming le_refl→ao,le_trans→aX,zero_le→bx,min_eq_left→bB,zero_add→cE,add_mul→cN,mul_le_mul_right→dp,le_of_ble_eq_true→fh,mod_eq_of_lt→gX,lt_or_ge→iS,mod_lt→jH,add_assoc→jI,sub_self→mp,le_of_lt→mq,add_sub_cancel_left→oS,add_zero→pB,two_pow_add_eq_or_of_lt→sG,mul_le_mul→tG,div_lt_of_lt_mul→y6,mul_comm→Do,add_comm→Dp
open _root_.List.Sublist renaming refl→au
open _root_.Option.some renaming inj→aT
open _root_.Array renaming length_toList→bY
open _root_.Int renaming le_refl→ff,toNat_natCast→uI
open _root_.List.Mem renaming head→hM,tail→qP
open _root_.Bool renaming true_and→hZ
set_option maxHeartbeats 4000000
set_option maxRecDepth 20000
set_option linter.unusedSimpArgs false
set_option linter.unusedVariables false
set_option linter.unusedSectionVars false
section
open Go Go.Eng
theorem cD:aa.follows .mixedOrders=true:=by kernel_rfl
abbrev da:TypeId:=3
theorem al:qe aa 3=true:=by kernel_rfl
theorem bV:(aa.info? 3).map (·.size)=some 1:=by kernel_rfl
theorem iY:tM aa 3 .i64=true:=by kernel_rfl
theorem Cy:(aa.info? 3).bind (·.zero)=some (.int .i64 0):=by kernel_rfl
abbrev jX:TypeId:=4
theorem eL:qe aa 4=true:=by kernel_rfl
theorem mz:(aa.info? 4).map (·.size)=some 1:=by kernel_rfl
theorem wI:aa.underlying 4=some .bool:=by kernel_rfl
abbrev mY:TypeId:=5
theorem mF:qe aa 5=true:=by kernel_rfl
theorem iw:tM aa 5 .u8=true:=by kernel_rfl
theorem zL:(aa.info? 5).bind (·.zero)=some (.int .u8 0):=by kernel_rfl
abbrev qA:TypeId:=9
theorem aZ:qe aa 9=true:=by kernel_rfl
theorem GM:(aa.info? 9).map (·.size)=some 1:=by kernel_rfl
theorem j9:zc aa 9=true:=by kernel_rfl
theorem EM:(aa.info? 9).bind (·.zero)=some (.string ⟨#[]⟩):=by kernel_rfl
abbrev yE:TypeId:=23
theorem cC:qe aa 23=true:=by kernel_rfl
theorem jK:(aa.info? 23).map (·.size)=some 1:=by kernel_rfl
theorem bd:eg aa 23 3 1=true:=by kernel_rfl
theorem eA:qi aa 23=true:=by kernel_rfl
theorem zG:EI aa 23 3 1 8=true:=by kernel_rfl
abbrev lB:TypeId:=25
theorem sy:lP aa 25 4=true:=by kernel_rfl
theorem CR:(aa.info? 25).map (·.size)=some 4:=by kernel_rfl
theorem KS:iz aa 25 [(0,1),(1,1),(2,1),(3,1)]=true:=by kernel_rfl
theorem wn:cy aa 25 0 0=true:=by kernel_rfl
theorem wl:cy aa 25 1 1=true:=by kernel_rfl
theorem Bh:cy aa 25 2 2=true:=by kernel_rfl
theorem Bg:cy aa 25 3 3=true:=by kernel_rfl
theorem Dt:(aa.info? 25).bind (·.zero)=some (.agg #[.int .i64 0,.int .i64 0,.int .i64 0,.int .i64 0]):=by kernel_rfl
theorem qS:eg aa 27 31 7=true:=by kernel_rfl
theorem wQ:qi aa 27=true:=by kernel_rfl
theorem IQ:EI aa 27 31 7 72=true:=by kernel_rfl
abbrev jf:TypeId:=31
theorem dU:lP aa 31 7=true:=by kernel_rfl
theorem Nb:(aa.info? 31).map (·.size)=some 7:=by kernel_rfl
theorem sN:iz aa 31 [(0,1),(1,1),(2,1),(3,1),(4,1),(5,1),(6,1)]=true:=by kernel_rfl
theorem un:cy aa 31 0 0=true:=by kernel_rfl
theorem fl:cy aa 31 1 1=true:=by kernel_rfl
theorem fe:cy aa 31 2 2=true:=by kernel_rfl
theorem gh:cy aa 31 3 3=true:=by kernel_rfl
theorem Mo:cy aa 31 4 4=true:=by kernel_rfl
theorem FX:cy aa 31 5 5=true:=by kernel_rfl
theorem kz:cy aa 31 6 6=true:=by kernel_rfl
theorem pp:(aa.info? 31).bind (·.zero)=some (.agg #[.int .i64 0,.string ⟨#[]⟩,.int .i64 0,.int .i64 0,.int .i64 0,.string ⟨#[]⟩,.int .i64 0]):=by kernel_rfl
theorem GK:eg aa 35 71 3=true:=by kernel_rfl
theorem Fw:qi aa 35=true:=by kernel_rfl
theorem HR:EI aa 35 71 3 40=true:=by kernel_rfl
theorem dZ:qe aa 36=true:=by kernel_rfl
theorem uM:(aa.info? 36).map (·.size)=some 1:=by kernel_rfl
theorem gx:eg aa 36 52 7=true:=by kernel_rfl
theorem lW:qi aa 36=true:=by kernel_rfl
theorem xz:EI aa 36 52 7 104=true:=by kernel_rfl
theorem dK:qe aa 37=true:=by kernel_rfl
theorem zZ:(aa.info? 37).map (·.size)=some 1:=by kernel_rfl
theorem gK:eg aa 37 163 7=true:=by kernel_rfl
theorem lk:qi aa 37=true:=by kernel_rfl
theorem IP:EI aa 37 163 7 80=true:=by kernel_rfl
abbrev bc:TypeId:=39
theorem ay:lP aa 39 4=true:=by kernel_rfl
theorem aE:(aa.info? 39).map (·.size)=some 4:=by kernel_rfl
theorem fD:iz aa 39 [(0,1),(1,1),(2,1),(3,1)]=true:=by kernel_rfl
theorem kw:cy aa 39 0 0=true:=by kernel_rfl
theorem ku:cy aa 39 1 1=true:=by kernel_rfl
theorem wq:cy aa 39 2 2=true:=by kernel_rfl
theorem cP:cy aa 39 3 3=true:=by kernel_rfl
theorem cH:(aa.info? 39).bind (·.zero)=some (.agg #[.int .i64 0,.int .i64 0,.int .i64 0,.slice none 0 0]):=by kernel_rfl
theorem dw:qe aa 40=true:=by kernel_rfl
theorem t7:(aa.info? 40).map (·.size)=some 1:=by kernel_rfl
theorem eE:eg aa 40 181 3=true:=by kernel_rfl
theorem gz:qi aa 40=true:=by kernel_rfl
theorem Bx:EI aa 40 181 3 48=true:=by kernel_rfl
abbrev yF:TypeId:=41
theorem ez:qe aa 41=true:=by kernel_rfl
theorem od:(aa.info? 41).map (·.size)=some 1:=by kernel_rfl
theorem de:eg aa 41 192 2=true:=by kernel_rfl
theorem ik:qi aa 41=true:=by kernel_rfl
theorem wx:EI aa 41 192 2 16=true:=by kernel_rfl
abbrev cK:TypeId:=43
theorem aO:lP aa 43 5=true:=by kernel_rfl
theorem bA:(aa.info? 43).map (·.size)=some 5:=by kernel_rfl
theorem ka:iz aa 43 [(0,1),(1,1),(2,1),(3,1),(4,1)]=true:=by kernel_rfl
theorem jE:cy aa 43 0 0=true:=by kernel_rfl
theorem wo:cy aa 43 1 1=true:=by kernel_rfl
theorem ks:cy aa 43 2 2=true:=by kernel_rfl
theorem dJ:cy aa 43 3 3=true:=by kernel_rfl
theorem dX:cy aa 43 4 4=true:=by kernel_rfl
theorem d9:(aa.info? 43).bind (·.zero)=some (.agg #[.int .i64 0,.int .i64 0,.int .i64 0,.slice none 0 0,.slice none 0 0]):=by kernel_rfl
theorem ke:qe aa 44=true:=by kernel_rfl
theorem E1:(aa.info? 44).map (·.size)=some 1:=by kernel_rfl
theorem sO:eg aa 44 142 6=true:=by kernel_rfl
theorem ud:qi aa 44=true:=by kernel_rfl
theorem HQ:EI aa 44 142 6 88=true:=by kernel_rfl
abbrev n9:TypeId:=46
theorem nT:lP aa 46 11=true:=by kernel_rfl
theorem lR:(aa.info? 46).map (·.size)=some 11:=by kernel_rfl
theorem KR:iz aa 46 [(0,1),(1,4),(5,5),(10,1)]=true:=by kernel_rfl
theorem dx:cy aa 46 0 0=true:=by kernel_rfl
theorem eH:cy aa 46 1 1=true:=by kernel_rfl
theorem jD:cy aa 46 2 5=true:=by kernel_rfl
theorem kr:cy aa 46 3 10=true:=by kernel_rfl
theorem pM:(aa.info? 46).bind (·.zero)=some (.agg #[.slice none 0 0,.int .i64 0,.int .i64 0,.int .i64 0,.slice none 0 0,.int .i64 0,.int .i64 0,.int .i64 0,.slice none 0 0,.slice none 0 0,.slice none 0 0]):=by kernel_rfl
theorem lU:qe aa 49=true:=by kernel_rfl
theorem Jb:(aa.info? 49).map (·.size)=some 1:=by kernel_rfl
theorem fa:eg aa 49 4 1=true:=by kernel_rfl
theorem yc:qi aa 49=true:=by kernel_rfl
theorem MN:EI aa 49 4 1 1=true:=by kernel_rfl
theorem cJ:qe aa 50=true:=by kernel_rfl
theorem DK:(aa.info? 50).map (·.size)=some 1:=by kernel_rfl
theorem bQ:eg aa 50 57 4=true:=by kernel_rfl
theorem ib:qi aa 50=true:=by kernel_rfl
theorem Gk:EI aa 50 57 4 48=true:=by kernel_rfl
abbrev bK:TypeId:=52
theorem bk:lP aa 52 7=true:=by kernel_rfl
theorem bi:(aa.info? 52).map (·.size)=some 7:=by kernel_rfl
theorem dy:iz aa 52 [(0,1),(1,1),(2,1),(3,1),(4,1),(5,1),(6,1)]=true:=by kernel_rfl
theorem qa:cy aa 52 0 0=true:=by kernel_rfl
theorem en:cy aa 52 1 1=true:=by kernel_rfl
theorem kP:cy aa 52 2 2=true:=by kernel_rfl
theorem iQ:cy aa 52 3 3=true:=by kernel_rfl
theorem dP:cy aa 52 4 4=true:=by kernel_rfl
theorem yq:cy aa 52 5 5=true:=by kernel_rfl
theorem yp:cy aa 52 6 6=true:=by kernel_rfl
theorem bT:(aa.info? 52).bind (·.zero)=some (.agg #[.int .i64 0,.int .i64 0,.slice none 0 0,.slice none 0 0,.slice none 0 0,.int .i64 0,.int .i64 0]):=by kernel_rfl
theorem eO:qe aa 53=true:=by kernel_rfl
theorem CS:(aa.info? 53).map (·.size)=some 1:=by kernel_rfl
theorem ey:eg aa 53 5 1=true:=by kernel_rfl
theorem eW:qi aa 53=true:=by kernel_rfl
theorem oP:EI aa 53 5 1 1=true:=by kernel_rfl
theorem Du:(aa.info? 53).bind (·.zero)=some (.slice none 0 0):=by kernel_rfl
abbrev Gq:TypeId:=55
theorem fA:lP aa 55 2=true:=by kernel_rfl
theorem kK:(aa.info? 55).map (·.size)=some 2:=by kernel_rfl
theorem vT:iz aa 55 [(0,1),(1,1)]=true:=by kernel_rfl
theorem i5:cy aa 55 0 0=true:=by kernel_rfl
theorem oH:cy aa 55 1 1=true:=by kernel_rfl
theorem tr:(aa.info? 55).bind (·.zero)=some (.agg #[.slice none 0 0,.int .i64 0]):=by kernel_rfl
abbrev gO:TypeId:=57
theorem oR:lP aa 57 4=true:=by kernel_rfl
theorem oc:(aa.info? 57).map (·.size)=some 4:=by kernel_rfl
theorem kO:cy aa 57 0 0=true:=by kernel_rfl
theorem dT:cy aa 57 1 1=true:=by kernel_rfl
theorem eR:cy aa 57 2 3=true:=by kernel_rfl
theorem rZ:(aa.info? 57).bind (·.zero)=some (.agg #[.bool false,.slice none 0 0,.int .i64 0,.int .i64 0]):=by kernel_rfl
theorem ny:qe aa 58=true:=by kernel_rfl
theorem dV:eg aa 58 87 7=true:=by kernel_rfl
theorem eG:qi aa 58=true:=by kernel_rfl
theorem Ki:EI aa 58 87 7 64=true:=by kernel_rfl
abbrev ma:TypeId:=64
theorem jr:qe aa 64=true:=by kernel_rfl
theorem E0:(aa.info? 64).map (·.size)=some 1:=by kernel_rfl
theorem jw:eg aa 64 9 1=true:=by kernel_rfl
theorem iX:qi aa 64=true:=by kernel_rfl
theorem ww:EI aa 64 9 1 16=true:=by kernel_rfl
abbrev ee:TypeId:=71
theorem aK:lP aa 71 3=true:=by kernel_rfl
theorem aN:(aa.info? 71).map (·.size)=some 3:=by kernel_rfl
theorem iN:iz aa 71 [(0,1),(1,1),(2,1)]=true:=by kernel_rfl
theorem yY:cy aa 71 2 2=true:=by kernel_rfl
theorem du:(aa.info? 71).bind (·.zero)=some (.agg #[.int .i64 0,.int .i64 0,.slice none 0 0]):=by kernel_rfl
abbrev Gp:TypeId:=83
theorem nX:GT aa 83=true:=by kernel_rfl
theorem qQ:(aa.info? 83).bind (·.zero)=some (.pointer none):=by kernel_rfl
abbrev lQ:TypeId:=85
theorem yI:iz aa 85 [(0,1),(1,1),(2,1),(3,1)]=true:=by kernel_rfl
theorem jR:cy aa 85 0 0=true:=by kernel_rfl
theorem fv:cy aa 85 1 1=true:=by kernel_rfl
theorem d8:cy aa 85 2 2=true:=by kernel_rfl
theorem io:cy aa 85 3 3=true:=by kernel_rfl
theorem zK:(aa.info? 85).bind (·.zero)=some (.agg #[.int .i64 0,.int .i64 0,.int .i64 0,.int .i64 0]):=by kernel_rfl
abbrev dz:TypeId:=87
theorem dI:lP aa 87 7=true:=by kernel_rfl
theorem eV:(aa.info? 87).map (·.size)=some 7:=by kernel_rfl
theorem ob:iz aa 87 [(0,1),(1,1),(2,1),(3,1),(4,1),(5,1),(6,1)]=true:=by kernel_rfl
theorem nM:cy aa 87 0 0=true:=by kernel_rfl
theorem fo:cy aa 87 1 1=true:=by kernel_rfl
theorem eI:cy aa 87 2 2=true:=by kernel_rfl
theorem fd:cy aa 87 3 3=true:=by kernel_rfl
theorem fc:cy aa 87 4 4=true:=by kernel_rfl
theorem jb:cy aa 87 5 5=true:=by kernel_rfl
theorem qt:cy aa 87 6 6=true:=by kernel_rfl
theorem gp:(aa.info? 87).bind (·.zero)=some (.agg #[.int .i64 0,.int .i64 0,.int .i64 0,.int .i64 0,.int .i64 0,.bool false,.string ⟨#[]⟩]):=by kernel_rfl
abbrev bF:TypeId:=95
theorem I9:iz aa 95 [(0,11)]=true:=by kernel_rfl
theorem aS:cy aa 95 0 0=true:=by kernel_rfl
theorem KA:(aa.info? 95).bind (·.zero)=some (.agg #[.slice none 0 0,.int .i64 0,.int .i64 0,.int .i64 0,.slice none 0 0,.int .i64 0,.int .i64 0,.int .i64 0,.slice none 0 0,.slice none 0 0,.slice none 0 0]):=by kernel_rfl
theorem Fz:tM aa 99 .u64=true:=by kernel_rfl
abbrev uF:TypeId:=122
theorem I8:iz aa 122 [(0,1),(1,1)]=true:=by kernel_rfl
theorem l7:cy aa 122 0 0=true:=by kernel_rfl
theorem kp:cy aa 122 1 1=true:=by kernel_rfl
theorem Kz:(aa.info? 122).bind (·.zero)=some (.agg #[.slice none 0 0,.bool false]):=by kernel_rfl
theorem iV:GT aa 139=true:=by kernel_rfl
abbrev fF:TypeId:=142
theorem zX:(aa.info? 142).map (·.size)=some 6:=by kernel_rfl
theorem xP:iz aa 142 [(0,1),(1,1),(2,1),(3,1),(4,1),(5,1)]=true:=by kernel_rfl
theorem oE:cy aa 142 0 0=true:=by kernel_rfl
theorem FW:cy aa 142 1 1=true:=by kernel_rfl
theorem um:cy aa 142 2 2=true:=by kernel_rfl
theorem oD:cy aa 142 3 3=true:=by kernel_rfl
theorem yX:cy aa 142 4 4=true:=by kernel_rfl
theorem l8:cy aa 142 5 5=true:=by kernel_rfl
theorem wF:(aa.info? 142).bind (·.zero)=some (.agg #[.string ⟨#[]⟩,.int .i64 0,.int .i64 0,.bool false,.slice none 0 0,.slice none 0 0]):=by kernel_rfl
abbrev dG:TypeId:=163
theorem zH:lP aa 163 7=true:=by kernel_rfl
theorem Ic:(aa.info? 163).map (·.size)=some 7:=by kernel_rfl
theorem OQ:iz aa 163 [(0,1),(1,1),(2,1),(3,1),(4,1),(5,1),(6,1)]=true:=by kernel_rfl
theorem oB:cy aa 163 0 0=true:=by kernel_rfl
theorem lp:cy aa 163 1 1=true:=by kernel_rfl
theorem gD:cy aa 163 2 2=true:=by kernel_rfl
theorem cU:cy aa 163 3 3=true:=by kernel_rfl
theorem dC:cy aa 163 4 4=true:=by kernel_rfl
theorem uk:cy aa 163 5 5=true:=by kernel_rfl
theorem jo:cy aa 163 6 6=true:=by kernel_rfl
theorem HV:(aa.info? 163).bind (·.zero)=some (.agg #[.string ⟨#[]⟩,.int .i64 0,.int .i64 0,.int .i64 0,.slice none 0 0,.int .i64 0,.int .i64 0]):=by kernel_rfl
abbrev dh:TypeId:=181
theorem nU:lP aa 181 3=true:=by kernel_rfl
theorem sP:(aa.info? 181).map (·.size)=some 3:=by kernel_rfl
theorem Ja:iz aa 181 [(0,1),(1,1),(2,1)]=true:=by kernel_rfl
theorem oG:cy aa 181 0 0=true:=by kernel_rfl
theorem qX:cy aa 181 1 1=true:=by kernel_rfl
theorem i4:cy aa 181 2 2=true:=by kernel_rfl
theorem t5:(aa.info? 181).bind (·.zero)=some (.agg #[.string ⟨#[]⟩,.int .i64 0,.slice none 0 0]):=by kernel_rfl
abbrev ed:TypeId:=192
theorem Bz:lP aa 192 2=true:=by kernel_rfl
theorem zY:(aa.info? 192).map (·.size)=some 2:=by kernel_rfl
theorem uL:iz aa 192 [(0,1),(1,1)]=true:=by kernel_rfl
theorem ju:cy aa 192 0 0=true:=by kernel_rfl
theorem oF:cy aa 192 1 1=true:=by kernel_rfl
theorem li:(aa.info? 192).bind (·.zero)=some (.agg #[.int .i64 0,.int .i64 0]):=by kernel_rfl
theorem wL:eg aa 211 23 1=true:=by kernel_rfl
theorem JF:qi aa 211=true:=by kernel_rfl
theorem r7:eg aa 221 53 1=true:=by kernel_rfl
theorem Az:qi aa 221=true:=by kernel_rfl
abbrev sW:FuncId:=4
theorem su:aa.funcs[(4:Nat)]? =some Tryz.f4:=Tryz.func4
abbrev oo:FuncId:=6
theorem tS:aa.funcs[(6:Nat)]? =some Tryz.f6:=Tryz.func6
theorem tU:bg aa 6=true:=by kernel_rfl
abbrev wc:FuncId:=7
theorem vf:aa.funcs[(7:Nat)]? =some Tryz.f7:=Tryz.func7
theorem g9:bg aa 7=true:=by kernel_rfl
abbrev tO:FuncId:=9
theorem s7:aa.funcs[(9:Nat)]? =some Tryz.f9:=Tryz.func9
theorem jG:bg aa 9=true:=by kernel_rfl
abbrev wV:FuncId:=12
theorem wg:aa.funcs[(12:Nat)]? =some Tryz.f12:=Tryz.func12
theorem qv:bg aa 12=true:=by kernel_rfl
abbrev vv:FuncId:=13
theorem AY:aa.funcs[(13:Nat)]? =some Tryz.f13:=Tryz.func13
theorem gF:bg aa 13=true:=by kernel_rfl
abbrev BZ:FuncId:=14
theorem AV:aa.funcs[(14:Nat)]? =some Tryz.f14:=Tryz.func14
theorem uw:bg aa 14=true:=by kernel_rfl
abbrev yU:FuncId:=15
theorem xe:aa.funcs[(15:Nat)]? =some Tryz.f15:=Tryz.func15
theorem xq:bg aa 15=true:=by kernel_rfl
abbrev ug:FuncId:=16
theorem s9:aa.funcs[(16:Nat)]? =some Tryz.f16:=Tryz.func16
theorem mT:bg aa 16=true:=by kernel_rfl
abbrev tN:FuncId:=17
theorem s6:aa.funcs[(17:Nat)]? =some Tryz.f17:=Tryz.func17
theorem fT:bg aa 17=true:=by kernel_rfl
abbrev sj:FuncId:=18
theorem rI:aa.funcs[(18:Nat)]? =some Tryz.f18:=Tryz.func18
theorem rS:bg aa 18=true:=by kernel_rfl
abbrev Ee:FuncId:=22
theorem Ch:aa.funcs[(22:Nat)]? =some Tryz.f22:=Tryz.func22
theorem Ct:bg aa 22=true:=by kernel_rfl
abbrev yV:FuncId:=23
theorem Ek:aa.funcs[(23:Nat)]? =some Tryz.f23:=Tryz.func23
theorem p7:bg aa 23=true:=by kernel_rfl
abbrev BX:FuncId:=24
theorem AT:aa.funcs[(24:Nat)]? =some Tryz.f24:=Tryz.func24
theorem mR:bg aa 24=true:=by kernel_rfl
abbrev BY:FuncId:=25
theorem AU:aa.funcs[(25:Nat)]? =some Tryz.f25:=Tryz.func25
theorem uv:bg aa 25=true:=by kernel_rfl
abbrev FC:FuncId:=26
theorem Ej:aa.funcs[(26:Nat)]? =some Tryz.f26:=Tryz.func26
theorem Ez:bg aa 26=true:=by kernel_rfl
abbrev D8:FuncId:=27
theorem B8:aa.funcs[(27:Nat)]? =some Tryz.f27:=Tryz.func27
theorem ls:bg aa 27=true:=by kernel_rfl
abbrev AO:FuncId:=29
theorem zm:aa.funcs[(29:Nat)]? =some Tryz.f29:=Tryz.func29
theorem zv:bg aa 29=true:=by kernel_rfl
abbrev ve:FuncId:=30
theorem ui:aa.funcs[(30:Nat)]? =some Tryz.f30:=Tryz.func30
theorem uy:bg aa 30=true:=by kernel_rfl
abbrev jt:FuncId:=31
theorem nG:aa.funcs[(31:Nat)]? =some Tryz.f31:=Tryz.func31
theorem nO:bg aa 31=true:=by kernel_rfl
abbrev Hn:FuncId:=32
theorem FO:aa.funcs[(32:Nat)]? =some Tryz.f32:=Tryz.func32
theorem yZ:bg aa 32=true:=by kernel_rfl
abbrev FB:FuncId:=33
theorem Ei:aa.funcs[(33:Nat)]? =some Tryz.f33:=Tryz.func33
theorem Ey:bg aa 33=true:=by kernel_rfl
abbrev pe:FuncId:=34
theorem oy:aa.funcs[(34:Nat)]? =some Tryz.f34:=Tryz.func34
theorem oM:bg aa 34=true:=by kernel_rfl
abbrev FD:FuncId:=35
theorem Em:aa.funcs[(35:Nat)]? =some Tryz.f35:=Tryz.func35
theorem kR:bg aa 35=true:=by kernel_rfl
abbrev Hq:FuncId:=40
theorem FR:aa.funcs[(40:Nat)]? =some Tryz.f40:=Tryz.func40
theorem Gh:bg aa 40=true:=by kernel_rfl
abbrev FH:FuncId:=41
theorem Es:aa.funcs[(41:Nat)]? =some Tryz.f41:=Tryz.func41
theorem ED:bg aa 41=true:=by kernel_rfl
abbrev FF:FuncId:=42
theorem Ep:aa.funcs[(42:Nat)]? =some Tryz.f42:=Tryz.func42
theorem EB:bg aa 42=true:=by kernel_rfl
abbrev yW:FuncId:=43
theorem Eo:aa.funcs[(43:Nat)]? =some Tryz.f43:=Tryz.func43
theorem mU:bg aa 43=true:=by kernel_rfl
abbrev kh:FuncId:=44
theorem nj:aa.funcs[(44:Nat)]? =some Tryz.f44:=Tryz.func44
theorem tV:bg aa 44=true:=by kernel_rfl
abbrev jU:FuncId:=45
theorem mO:aa.funcs[(45:Nat)]? =some Tryz.f45:=Tryz.func45
theorem tl:bg aa 45=true:=by kernel_rfl
abbrev iZ:FuncId:=46
theorem jV:aa.funcs[(46:Nat)]? =some Tryz.f46:=Tryz.func46
theorem nn:bg aa 46=true:=by kernel_rfl
abbrev jB:FuncId:=47
theorem l6:aa.funcs[(47:Nat)]? =some Tryz.f47:=Tryz.func47
theorem l9:bg aa 47=true:=by kernel_rfl
abbrev kg:FuncId:=48
theorem ni:aa.funcs[(48:Nat)]? =some Tryz.f48:=Tryz.func48
theorem nt:bg aa 48=true:=by kernel_rfl
abbrev ow:FuncId:=49
theorem tT:aa.funcs[(49:Nat)]? =some Tryz.f49:=Tryz.func49
theorem nk:bg aa 49=true:=by kernel_rfl
abbrev ln:FuncId:=50
theorem qM:aa.funcs[(50:Nat)]? =some Tryz.f50:=Tryz.func50
theorem gg:bg aa 50=true:=by kernel_rfl
abbrev lZ:FuncId:=51
theorem rN:aa.funcs[(51:Nat)]? =some Tryz.f51:=Tryz.func51
theorem dM:bg aa 51=true:=by kernel_rfl
abbrev gB:FuncId:=52
theorem iB:aa.funcs[(52:Nat)]? =some Tryz.f52:=Tryz.func52
theorem eh:bg aa 52=true:=by kernel_rfl
abbrev yf:FuncId:=53
theorem xi:aa.funcs[(53:Nat)]? =some Tryz.f53:=Tryz.func53
theorem bJ:bg aa 53=true:=by kernel_rfl
abbrev uf:FuncId:=54
theorem tR:aa.funcs[(54:Nat)]? =some Tryz.f54:=Tryz.func54
theorem iD:bg aa 54=true:=by kernel_rfl
abbrev D4:FuncId:=55
theorem B3:aa.funcs[(55:Nat)]? =some Tryz.f55:=Tryz.func55
theorem rQ:bg aa 55=true:=by kernel_rfl
abbrev qG:FuncId:=56
theorem qn:aa.funcs[(56:Nat)]? =some Tryz.f56:=Tryz.func56
theorem qw:bg aa 56=true:=by kernel_rfl
abbrev qH:FuncId:=62
theorem qp:aa.funcs[(62:Nat)]? =some Tryz.f62:=Tryz.func62
theorem qx:bg aa 62=true:=by kernel_rfl
abbrev lX:FuncId:=63
theorem rG:aa.funcs[(63:Nat)]? =some Tryz.f63:=Tryz.func63
theorem gu:bg aa 63=true:=by kernel_rfl
abbrev m7:FuncId:=64
theorem mN:aa.funcs[(64:Nat)]? =some Tryz.f64:=Tryz.func64
theorem mS:bg aa 64=true:=by kernel_rfl
abbrev kW:FuncId:=65
theorem qo:aa.funcs[(65:Nat)]? =some Tryz.f65:=Tryz.func65
theorem fU:bg aa 65=true:=by kernel_rfl
abbrev mL:FuncId:=66
theorem nZ:aa.funcs[(66:Nat)]? =some Tryz.f66:=Tryz.func66
theorem n8:bg aa 66=true:=by kernel_rfl
abbrev jA:FuncId:=67
theorem l5:aa.funcs[(67:Nat)]? =some Tryz.f67:=Tryz.func67
theorem dD:bg aa 67=true:=by kernel_rfl
abbrev tQ:FuncId:=68
theorem ta:aa.funcs[(68:Nat)]? =some Tryz.f68:=Tryz.func68
theorem d5:bg aa 68=true:=by kernel_rfl
abbrev vw:FuncId:=69
theorem Bb:aa.funcs[(69:Nat)]? =some Tryz.f69:=Tryz.func69
theorem kF:bg aa 69=true:=by kernel_rfl
abbrev ss:FuncId:=70
theorem rO:aa.funcs[(70:Nat)]? =some Tryz.f70:=Tryz.func70
theorem lu:bg aa 70=true:=by kernel_rfl
abbrev lY:FuncId:=71
theorem pY:aa.funcs[(71:Nat)]? =some Tryz.f71:=Tryz.func71
theorem xt:bg aa 71=true:=by kernel_rfl
abbrev wZ:FuncId:=72
theorem Cf:aa.funcs[(72:Nat)]? =some Tryz.f72:=Tryz.func72
theorem vH:bg aa 72=true:=by kernel_rfl
abbrev Ho:FuncId:=73
theorem FQ:aa.funcs[(73:Nat)]? =some Tryz.f73:=Tryz.func73
theorem rb:bg aa 73=true:=by kernel_rfl
abbrev xa:FuncId:=74
theorem Cg:aa.funcs[(74:Nat)]? =some Tryz.f74:=Tryz.func74
theorem Cs:bg aa 74=true:=by kernel_rfl
abbrev sY:FuncId:=75
theorem vz:aa.funcs[(75:Nat)]? =some Tryz.f75:=Tryz.func75
theorem vG:bg aa 75=true:=by kernel_rfl
abbrev Eb:FuncId:=76
theorem Cc:aa.funcs[(76:Nat)]? =some Tryz.f76:=Tryz.func76
theorem vF:bg aa 76=true:=by kernel_rfl
abbrev D6:FuncId:=77
theorem B6:aa.funcs[(77:Nat)]? =some Tryz.f77:=Tryz.func77
theorem Cn:bg aa 77=true:=by kernel_rfl
abbrev FE:FuncId:=78
theorem En:aa.funcs[(78:Nat)]? =some Tryz.f78:=Tryz.func78
theorem EA:bg aa 78=true:=by kernel_rfl
abbrev D7:FuncId:=82
theorem B7:aa.funcs[(82:Nat)]? =some Tryz.f82:=Tryz.func82
theorem Cp:bg aa 82=true:=by kernel_rfl
abbrev pT:FuncId:=85
theorem rL:aa.funcs[(85:Nat)]? =some Tryz.f85:=Tryz.func85
theorem Cq:bg aa 85=true:=by kernel_rfl
abbrev pU:FuncId:=87
theorem rM:aa.funcs[(87:Nat)]? =some Tryz.f87:=Tryz.func87
theorem Cr:bg aa 87=true:=by kernel_rfl
abbrev jQ:FuncId:=88
theorem km:aa.funcs[(88:Nat)]? =some Tryz.f88:=Tryz.func88
theorem Br:bg aa 88=true:=by kernel_rfl
abbrev nY:FuncId:=89
theorem qq:aa.funcs[(89:Nat)]? =some Tryz.f89:=Tryz.func89
theorem mV:bg aa 89=true:=by kernel_rfl
abbrev wY:FuncId:=92
theorem vy:aa.funcs[(92:Nat)]? =some Tryz.f92:=Tryz.func92
theorem iq:bg aa 92=true:=by kernel_rfl
abbrev ov:FuncId:=93
theorem pZ:aa.funcs[(93:Nat)]? =some Tryz.f93:=Tryz.func93
theorem xv:bg aa 93=true:=by kernel_rfl
abbrev rD:FuncId:=94
theorem qr:aa.funcs[(94:Nat)]? =some Tryz.f94:=Tryz.func94
theorem gG:bg aa 94=true:=by kernel_rfl
abbrev B1:FuncId:=95
theorem Ba:aa.funcs[(95:Nat)]? =some Tryz.f95:=Tryz.func95
theorem kE:bg aa 95=true:=by kernel_rfl
abbrev D5:FuncId:=96
theorem B4:aa.funcs[(96:Nat)]? =some Tryz.f96:=Tryz.func96
theorem Cl:bg aa 96=true:=by kernel_rfl
abbrev wW:FuncId:=97
theorem B5:aa.funcs[(97:Nat)]? =some Tryz.f97:=Tryz.func97
theorem vD:bg aa 97=true:=by kernel_rfl
abbrev nE:FuncId:=98
theorem na:aa.funcs[(98:Nat)]? =some Tryz.f98:=Tryz.func98
theorem ec:bg aa 98=true:=by kernel_rfl
abbrev rz:FuncId:=99
theorem qK:aa.funcs[(99:Nat)]? =some Tryz.f99:=Tryz.func99
theorem kX:bg aa 99=true:=by kernel_rfl
abbrev xb:FuncId:=100
theorem vA:aa.funcs[(100:Nat)]? =some Tryz.f100:=Tryz.func100
theorem jc:bg aa 100=true:=by kernel_rfl
abbrev B0:FuncId:=101
theorem AZ:aa.funcs[(101:Nat)]? =some Tryz.f101:=Tryz.func101
theorem ux:bg aa 101=true:=by kernel_rfl
abbrev ze:FuncId:=102
theorem yj:aa.funcs[(102:Nat)]? =some Tryz.f102:=Tryz.func102
theorem kS:bg aa 102=true:=by kernel_rfl
abbrev Ec:FuncId:=103
theorem Cd:aa.funcs[(103:Nat)]? =some Tryz.f103:=Tryz.func103
theorem n7:bg aa 103=true:=by kernel_rfl
abbrev fC:FuncId:=104
theorem im:aa.funcs[(104:Nat)]? =some Tryz.f104:=Tryz.func104
theorem lq:bg aa 104=true:=by kernel_rfl
abbrev zf:FuncId:=105
theorem yk:aa.funcs[(105:Nat)]? =some Tryz.f105:=Tryz.func105
theorem yw:bg aa 105=true:=by kernel_rfl
abbrev ye:FuncId:=106
theorem xf:aa.funcs[(106:Nat)]? =some Tryz.f106:=Tryz.func106
theorem rc:bg aa 106=true:=by kernel_rfl
abbrev JR:FuncId:=107
theorem Hw:aa.funcs[(107:Nat)]? =some Tryz.f107:=Tryz.func107
theorem wu:bg aa 107=true:=by kernel_rfl
abbrev C8:FuncId:=108
theorem Hv:aa.funcs[(108:Nat)]? =some Tryz.f108:=Tryz.func108
theorem HG:bg aa 108=true:=by kernel_rfl
abbrev AK:FuncId:=109
theorem zi:aa.funcs[(109:Nat)]? =some Tryz.f109:=Tryz.func109
theorem pi:bg aa 109=true:=by kernel_rfl
abbrev AJ:FuncId:=110
theorem FP:aa.funcs[(110:Nat)]? =some Tryz.f110:=Tryz.func110
theorem Gg:bg aa 110=true:=by kernel_rfl
abbrev Ea:FuncId:=113
theorem Cb:aa.funcs[(113:Nat)]? =some Tryz.f113:=Tryz.func113
theorem gw:bg aa 113=true:=by kernel_rfl
abbrev sX:FuncId:=115
theorem rK:aa.funcs[(115:Nat)]? =some Tryz.f115:=Tryz.func115
theorem ip:bg aa 115=true:=by kernel_rfl
abbrev qk:FuncId:=116
theorem pW:aa.funcs[(116:Nat)]? =some Tryz.f116:=Tryz.func116
theorem fH:bg aa 116=true:=by kernel_rfl
abbrev nC:FuncId:=117
theorem m8:aa.funcs[(117:Nat)]? =some Tryz.f117:=Tryz.func117
theorem eX:bg aa 117=true:=by kernel_rfl
abbrev Ed:FuncId:=118
theorem Ce:aa.funcs[(118:Nat)]? =some Tryz.f118:=Tryz.func118
theorem rU:bg aa 118=true:=by kernel_rfl
abbrev pS:FuncId:=119
theorem pg:aa.funcs[(119:Nat)]? =some Tryz.f119:=Tryz.func119
theorem dF:bg aa 119=true:=by kernel_rfl
abbrev gU:FuncId:=120
theorem ym:aa.funcs[(120:Nat)]? =some Tryz.f120:=Tryz.func120
theorem iu:bg aa 120=true:=by kernel_rfl
abbrev rx:FuncId:=121
theorem qI:aa.funcs[(121:Nat)]? =some Tryz.f121:=Tryz.func121
theorem iL:bg aa 121=true:=by kernel_rfl
abbrev AM:FuncId:=122
theorem zk:aa.funcs[(122:Nat)]? =some Tryz.f122:=Tryz.func122
theorem tD:bg aa 122=true:=by kernel_rfl
abbrev FG:FuncId:=123
theorem Er:aa.funcs[(123:Nat)]? =some Tryz.f123:=Tryz.func123
theorem EC:bg aa 123=true:=by kernel_rfl
abbrev nD:FuncId:=124
theorem m9:aa.funcs[(124:Nat)]? =some Tryz.f124:=Tryz.func124
theorem nb:bg aa 124=true:=by kernel_rfl
abbrev sr:FuncId:=125
theorem xh:aa.funcs[(125:Nat)]? =some Tryz.f125:=Tryz.func125
theorem xu:bg aa 125=true:=by kernel_rfl
abbrev BW:FuncId:=126
theorem AS:aa.funcs[(126:Nat)]? =some Tryz.f126:=Tryz.func126
theorem uu:bg aa 126=true:=by kernel_rfl
abbrev ql:FuncId:=127
theorem pX:aa.funcs[(127:Nat)]? =some Tryz.f127:=Tryz.func127
theorem fI:bg aa 127=true:=by kernel_rfl
abbrev AN:FuncId:=128
theorem zl:aa.funcs[(128:Nat)]? =some Tryz.f128:=Tryz.func128
theorem zu:bg aa 128=true:=by kernel_rfl
abbrev wd:FuncId:=129
theorem vg:aa.funcs[(129:Nat)]? =some Tryz.f129:=Tryz.func129
theorem vi:bg aa 129=true:=by kernel_rfl
abbrev si:FuncId:=130
theorem rH:aa.funcs[(130:Nat)]? =some Tryz.f130:=Tryz.func130
theorem lr:bg aa 130=true:=by kernel_rfl
abbrev D9:FuncId:=131
theorem Ca:aa.funcs[(131:Nat)]? =some Tryz.f131:=Tryz.func131
theorem vE:bg aa 131=true:=by kernel_rfl
abbrev lf:FuncId:=132
theorem kM:aa.funcs[(132:Nat)]? =some Tryz.f132:=Tryz.func132
theorem kQ:bg aa 132=true:=by kernel_rfl
abbrev sm:FuncId:=133
theorem xg:aa.funcs[(133:Nat)]? =some Tryz.f133:=Tryz.func133
theorem xr:bg aa 133=true:=by kernel_rfl
abbrev ou:FuncId:=134
theorem nI:aa.funcs[(134:Nat)]? =some Tryz.f134:=Tryz.func134
theorem nQ:bg aa 134=true:=by kernel_rfl
abbrev ot:FuncId:=135
theorem nH:aa.funcs[(135:Nat)]? =some Tryz.f135:=Tryz.func135
theorem nP:bg aa 135=true:=by kernel_rfl
abbrev mf:FuncId:=136
theorem lL:aa.funcs[(136:Nat)]? =some Tryz.f136:=Tryz.func136
theorem dr:bg aa 136=true:=by kernel_rfl
abbrev AL:FuncId:=137
theorem zj:aa.funcs[(137:Nat)]? =some Tryz.f137:=Tryz.func137
theorem zt:bg aa 137=true:=by kernel_rfl
abbrev ly:FuncId:=138
theorem yi:aa.funcs[(138:Nat)]? =some Tryz.f138:=Tryz.func138
theorem nR:bg aa 138=true:=by kernel_rfl
abbrev sh:FuncId:=139
theorem rF:aa.funcs[(139:Nat)]? =some Tryz.f139:=Tryz.func139
theorem rR:bg aa 139=true:=by kernel_rfl
abbrev pd:FuncId:=140
abbrev mK:FuncId:=142
theorem mh:aa.funcs[(142:Nat)]? =some Tryz.f142:=Tryz.func142
theorem iI:bg aa 142=true:=by kernel_rfl
abbrev tB:FuncId:=143
theorem yl:aa.funcs[(143:Nat)]? =some Tryz.f143:=Tryz.func143
theorem yx:bg aa 143=true:=by kernel_rfl
abbrev tP:FuncId:=144
abbrev BV:FuncId:=146
theorem AR:aa.funcs[(146:Nat)]? =some Tryz.f146:=Tryz.func146
theorem Bq:bg aa 146=true:=by kernel_rfl
abbrev ry:FuncId:=147
theorem qJ:aa.funcs[(147:Nat)]? =some Tryz.f147:=Tryz.func147
theorem qN:bg aa 147=true:=by kernel_rfl
abbrev zg:FuncId:=148
theorem yn:aa.funcs[(148:Nat)]? =some Tryz.f148:=Tryz.func148
theorem yy:bg aa 148=true:=by kernel_rfl
abbrev tA:FuncId:=149
theorem yh:aa.funcs[(149:Nat)]? =some Tryz.f149:=Tryz.func149
theorem yv:bg aa 149=true:=by kernel_rfl
abbrev mJ:FuncId:=150
theorem mg:aa.funcs[(150:Nat)]? =some Tryz.f150:=Tryz.func150
theorem ml:bg aa 150=true:=by kernel_rfl
abbrev wX:FuncId:=151
theorem wh:aa.funcs[(151:Nat)]? =some Tryz.f151:=Tryz.func151
theorem wv:bg aa 151=true:=by kernel_rfl
abbrev oq:FuncId:=153
theorem nF:aa.funcs[(153:Nat)]? =some Tryz.f153:=Tryz.func153
theorem nN:bg aa 153=true:=by kernel_rfl
abbrev qj:FuncId:=155
theorem pV:aa.funcs[(155:Nat)]? =some Tryz.f155:=Tryz.func155
theorem p6:bg aa 155=true:=by kernel_rfl
abbrev me:FuncId:=158
theorem lK:aa.funcs[(158:Nat)]? =some Tryz.f158:=Tryz.func158
theorem lO:bg aa 158=true:=by kernel_rfl
end
structure cv where
 epoch:Int
 pid:Int
 ver:Int
 seq:Int
 kind:Int
 txn:Bool
 text:ByteArray
 deriving DecidableEq
def cv.c (e:cv):List Value:=[.int .i64 e.epoch,.int .i64 e.pid,.int .i64 e.ver,.int .i64 e.seq,.int .i64 e.kind,.bool e.txn,.string e.text]
abbrev cv.v (e:cv):Value:=.agg e.c.toArray
def gV:fq cv:=⟨cv.c,7,fun _=>rfl,by decide,fun a u hu=>by
 simp only[cv.c,av,bu,or_false]at hu
 rcases hu with h|h|h|h|h|h|h<;>subst h<;>rfl⟩
def bN:fq Int:=⟨fun n=>[.int .i64 n],1,fun _=>rfl,by decide,fun a u hu=>by
 simp only[av,bu,or_false]at hu
 subst hu;rfl⟩
def dN:fq UInt8:=⟨fun n=>[.int .u8 n.toNat],1,fun _=>rfl,by decide,fun a u hu=>by
 simp only[av,bu,or_false]at hu
 subst hu;rfl⟩
def my:fq ByteArray:=⟨fun s=>[.string s],1,fun _=>rfl,by decide,fun a u hu=>by
 simp only[av,bu,or_false]at hu
 subst hu;rfl⟩
def CL:Nat->Nat->List UInt8->Nat
 |_,n,[]=>n
 |i,n,c::l=>CL (i+1) ((n+(i+1)*c.toNat)%65521) l
def mw (l:List UInt8):Nat:=CL 0 0 l
theorem EU: ∀ (l:List UInt8) (i n:Nat),n<65521->CL i n l<65521
 |[],_,_,h=>h
 |_::l,i,_,_=>EU l (i+1) _ (jH _ (by decide))
theorem DD (l:List UInt8):mw l<65521:=EU l 0 0 (by decide)
theorem KN (l:List UInt8) (A:Option Addr) (c:Nat) (w:World) (hr:Rd dN 0 w.heap.size A l w) (hb:l.length<=1000000000000000):
  dt aa Hn [.slice A l.length c] w fun v w2=>v=J (mw l:Nat)/\Below w.heap.size w w2:=by
 refine aG FO Z Z ?_
 have H:=Hp.start w
 refine W ?_
 refine Zr ?_
 refine pn Z Z ?_
 refine U<|W ?_
 refine Zr ?_
 refine pn Z Z ?_
 refine U<|W<|W ?_
 refine Zr ?_
 refine mn Z Z ?_
 refine vd eW Z Z ?_
 refine iF Z Z ?_
 refine U<|Zb ?_
 refine bW (τ:=Nat×Nat) [3,4,5,8,9,10,11,12,13,14,15,16,17,18,19,20,21] (fun x=>[(3,J x.1),(8,J x.2)]) (fun x w'=>x.1<65521/\x.2<=l.length/\Hp w w' [] []/\CL x.2 x.1 (l.drop x.2)=mw l) (fun x=>l.length-x.2) (0,0) ⟨by decide,by simp,H,rfl⟩ (lE Z Z) ?_
 rintro⟨m,k⟩ ρ1 w1 ⟨hm,hk,H,hs⟩
 show CW _ _ _ _ (dH (gT _ _ ρ1) [(3,J (m:Nat)),(8,J (k:Nat))]) w1
 refine W ?_
 refine Zr ?_
 refine He Z Z Z (fun h9=> ?_) (fun h9=> ?_)
 all_goals refine bL ?_
 all_goals refine bD ?_
 ·refine gL Z ?_
  refine Zk ?_
  have hkl:k<l.length:=by omega
  obtain⟨b,o,rfl,-,hbl,hcl⟩:=hr.at_ hkl
  have hd:l.drop k=l[k]::l.drop (k+1):=m0 hkl
  have h256:l[k].toNat<256:=UInt8.toNat_lt _
  generalize hc:l[k]=x at*
  have hmul:(k+1)*x.toNat<=(k+1)*256:=Nat.mul_le_mul_left _ I
  have hmul2:((k:Int)+1)*(x.toNat:Int)=(((k+1)*x.toNat:Nat):Int):=by simp
  refine W<|Zb<|W ?_
  refine Zr ?_
  refine iF Z Z ?_
  refine PI ey Z Z I I Z ?_
  refine ld mF Z ((H.below.cell (p:=⟨b,_,none⟩) hbl).trans (hcl 0 _ Z)) Z ?_
  refine pn Z Z ?_
  refine pn Z Z ?_
  refine U ?_
  refine Zr ?_
  refine iF Z Z ?_
  refine iF Z Z ?_
  refine add Z Z I I Z ?_
  refine iF Z Z ?_
  refine N9 iw iY Z (vm I) Z ?_
  refine mul Z Z I I Z ?_
  refine add Z Z I I Z ?_
  refine rem Z Z I I Z ?_
  refine pn Z Z ?_
  refine U ?_
  refine Zr ?_
  refine add Z Z I I Z ?_
  refine iF Z Z ?_
  refine U ?_
  refine⟨((m+(k+1)*x.toNat)%65521,k+1),⟨jH _ (by decide),by omega,H,?_⟩,?_,by repeat (first|exact iE|refine ie Z ?_|refine fV _ Z ?_),by show l.length- (k+1)<l.length-k;omega⟩
  ·rw[<-hs,hd,CL]
  ·intro p hp
   simp only[av,bu,or_false]at hp
   rcases hp with rfl|rfl
   ·show Value.int .i64 _=Value.int .i64 _
    congr 1
   ·rfl
 ·refine eS Z ?_
  refine Zx ?_
  have hkl:k=l.length:=by omega
  subst hkl
  simp only[fz,CL]at hs
  subst hs
  refine W ?_
  refine Zr ?_
  refine iF Z Z ?_
  refine pn Z Z ?_
  refine U<|Zt ?_
  exact cn Z Z ⟨rfl,H.below⟩
/-- a number in as few bytes as may be -/
def zd (n:Nat):List UInt8:=if h:n<=127 then [UInt8.ofNat n]else UInt8.ofNat (n%128+128)::zd (n/128)
termination_by n
decreasing_by omega
theorem uQ {n:Nat} (h:n<=127):zd n=[UInt8.ofNat n]:=by rw[zd,dif_pos h]
theorem DS {n:Nat} (h:127<n):zd n=UInt8.ofNat (n%128+128)::zd (n/128):=by rw[zd,dif_neg I]
theorem MP (n:Nat):n&&&127=n%128:=Nat.and_two_pow_sub_one_eq_mod n 7
theorem PT (n:Nat) (h:n<128):n|||128=n+128:=by
 have:=sG (i:=7) (b:=n) (by simpa using h) 1
 rw[Nat.or_comm];simp at this;omega
theorem PG (n:Nat) (h:n<256):((UInt8.ofNat n).toNat:Int)=n:=by
 simp[gX h]
theorem Iq: ∀ (k n:Nat),n<128 ^ k->(zd n).length<=max k 1
 |0,n,h=>by
  have:n=0:=by simpa using h
  subst this;rw[uQ I];simp
 |k+1,n,h=>by
  by_cases hn:n<=127
  rw[uQ hn];simp
  have:=Iq k (n/128) (by rw[Nat.pow_succ]at h;exact y6 I)
  rw[DS I]
  simp only[bv]
  have hk:k≠0:=by
   rintro rfl
   simp at h;omega
  omega
theorem Jz {w0 w:World} {F:List cf} {K M L:List (Nat×Obj)} {es:List UInt8} {A:Option Addr} {c:Nat} (n:Nat) (H:Hp w0 w (K++L++M) F) (ho:gH dN (.slice A es.length c) mY es L) (hn:n<4611686018427387904) (hb:es.length+n<140737488355328):
  dt aa BV [.slice A es.length c,J n] w fun v w2=> ∃ A' c' L',v=.slice A' (es++zd n).length c'/\gH dN (.slice A' (es++zd n).length c') mY (es++zd n) L'/\Hp w0 w2 (K++L'++M) F:=by
 refine aG AR Z Z ?_
 refine W ?_
 refine Zr ?_
 refine vj Z Z ?_
 refine U<|W<|Zb ?_
 refine bW (τ:=Option Addr×Nat×List UInt8×Nat) [0,1,5,6,7,8,9,10,11,12,13,15,14] (fun(A,c,l,m)=>[(0,.slice A l.length c),(1,J m)])
  (fun(A,c,l,m) w'=>m<4611686018427387904/\l.length+m<140737488355328/\l++zd m=es++zd n/\ ∃ L',gH dN (.slice A l.length c) mY l L'/\Hp w0 w' (K++L'++M) F) (fun(_,_,_,m)=>m) (A,c,es,n) ⟨hn,hb,rfl,L,ho,H⟩ (lE Z Z) ?_
 rintro⟨A1,c1,l,m⟩ ρ1 w1 ⟨hm,hb1,hl,L1,ho1,H1⟩
 show CW _ _ _ _ (dH (gT _ _ ρ1) [(0,.slice A1 l.length c1),(1,J (m:Nat))]) w1
 refine W<|W ?_
 refine Zr ?_
 refine iF Z Z ?_
 refine JS Z Z Z (fun h6=> ?_) (fun h6=> ?_)
 all_goals refine bL ?_
 ·refine gL Z ?_
  refine Zk ?_
  have hmod:m%128<128:=jH _ (by decide)
  refine Zb<|W ?_
  refine Zr ?_
  refine mn Z Z ?_
  refine iF Z Z ?_
  refine G (OJ (b:=127) Z Z I I) ?_
  rw[MP]
  refine G (Ny (b:=128) Z Z I I) ?_
  rw[PT _ hmod]
  refine N9 iY iw Z (Cz I) Z ?_
  refine uA (vs:=[.int .u8 _]) H1 ey zL Z Z Z Z Z Z ?_;intro w2 b12 H2
  refine xA (Y:=dN) oP (K:=(b12,_)::K) (L:=L1) (M:=M) H2 ho1 (news:=[UInt8.ofNat (m%128+128)]) Z Z Z ?_ ?_ Z ?_
  ·have:=y3.row (m:=1) (sz:=1) (H2.ent (i:=0) Z) Z
   have e:dN.all [UInt8.ofNat (m%128+128)]=[.int .u8 ((m%128+128:Nat):Int)]:=by
    show [Value.int .u8 _]=_
    rw[PG _ I]
   rw[e]
   exact this
  ·simp only[cF];omega
  intro A3 c3 w3 L3 _ _ ho3 H3
  refine vj Z Z ?_
  refine U ?_
  refine Zr ?_
  refine iF Z Z ?_
  refine G (Ot (b:=7) Z Z I) ?_
  refine pn Z Z ?_
  refine U ?_
  refine⟨(A3,c3,l++[UInt8.ofNat (m%128+128)],m/2 ^ 7),⟨by omega,by simp;omega,?_,L3,ho3,H3.forget (by simp) (fun _ h=>h)⟩,lE Z Z,by repeat (first|exact iE|refine ie Z ?_|refine fV _ Z ?_),by show m/2 ^ 7<m;omega⟩
  rw[<-hl,DS (n:=m) I];simp
 ·refine eS Z ?_
  refine Zx<|W ?_
  refine Zr ?_
  refine mn Z Z ?_
  refine iF Z Z ?_
  refine N9 iY iw Z (Cz I) Z ?_
  refine uA (vs:=[.int .u8 _]) H1 ey zL Z Z Z Z Z Z ?_;intro w2 b19 H2
  refine xA (Y:=dN) oP (K:=(b19,_)::K) (L:=L1) (M:=M) H2 ho1 (news:=[UInt8.ofNat m]) Z Z Z ?_ ?_ Z ?_
  ·have:=y3.row (m:=1) (sz:=1) (H2.ent (i:=0) Z) Z
   have e:dN.all [UInt8.ofNat m]=[.int .u8 (m:Int)]:=by
    show [Value.int .u8 _]=_
    rw[PG _ I]
   rw[e]
   exact this
  ·simp only[cF];omega
  intro A3 c3 w3 L3 _ _ ho3 H3
  refine vj Z Z ?_
  refine U<|Zt ?_
  rw[uQ I]at hl
  rw[hl]at ho3
  refine cn Z (v:=.slice A3 (es++zd n).length c3) (by rw[<-hl];rfl) ⟨A3,c3,L3,rfl,ho3,H3.forget (by simp) (fun _ h=>h)⟩
def iH (n:Int):Bool:=decide (0<=n)&&decide (n<=1073741824)
theorem uW {n:Int} (h:iH n=true):0<=n/\n<=1073741824:=by simpa [iH]using h
theorem NX {n:Int} (h: ¬ iH n=true):n<0∨1073741824<n:=by
 simp[iH]at h;omega
def cv.nums (e:cv):List Int:=[e.epoch,e.pid,e.ver,e.seq]
def cv.noForm (e:cv):Prop:=(e.kind≠1/\(e.pid=0∨e.txn=false∨e.seq≠0∨e.text≠⟨#[]⟩))∨(e.pid=0/\(e.txn=true∨0<e.ver+e.seq))
instance (e:cv):Decidable e.noForm:=by unfold cv.noForm;infer_instance
def eB (e:cv):Int:=
 if e.kind<1∨3<e.kind then 3
 else if¬ e.nums.all iH=true then 2
 else if 40<e.text.size then 1
 else if e.noForm then 4 else 0
theorem xL (e:cv) (w:World):dt aa D4 [e.v] w fun v w2=>v=J (eB e)/\Below w.heap.size w w2:=by
 refine aG B3 Z Z ?_
 have H:=Hp.start w
 refine W ?_
 refine Zr ?_
 refine gM H Z Z ?_;intro w1 b1 H
 refine pn Z Z ?_
 refine U<|W<|W ?_
 refine Zr ?_
 refine sF fc Z Z ?_
 refine v9 H 0 al Z Z Z Z ?_
 refine He Z Z Z (fun h7=> ?_) (fun h7=> ?_)
 ·have hE:eB e=3:=by unfold eB;rw[if_pos (.inl h7)]
  refine Ah Z Z ?_
  iterate 3 refine rt Z Z Z ?_
  refine wO Z Z Z ?_
  refine U<|ZT Z<|W ?_
  refine Zr ?_
  refine pn Z Z ?_
  refine U<|Zt ?_
  exact cn (v:=J 3) Z Z ⟨by rw[hE],H.below⟩
 refine Ah Z Z ?_
 refine ZG ?_
 refine sF fc Z Z ?_
 refine ZG ?_
 refine v9 H 0 al Z Z Z Z ?_
 refine ZG ?_
 refine JS Z Z Z (fun h11=> ?_) (fun h11=> ?_)
 ·have hE:eB e=3:=by unfold eB;rw[if_pos (.inr h11)]
  refine sS Z Z Z ?_
  refine U<|ZT Z<|W ?_
  refine Zr ?_
  refine pn Z Z ?_
  refine U<|Zt ?_
  exact cn (v:=J 3) Z Z ⟨by rw[hE],H.below⟩
 refine sS Z Z Z ?_
 refine U<|ZF Z<|Zk ?_
 have hk0: ¬ (e.kind<1∨3<e.kind):=by omega
 refine W<|W ?_
 refine Zr ?_
 refine sF nM Z Z ?_
 refine v9 H 0 al Z Z Z Z ?_
 refine sF fo Z Z ?_
 refine v9 H 0 al Z Z Z Z ?_
 refine sF eI Z Z ?_
 refine v9 H 0 al Z Z Z Z ?_
 refine sF fd Z Z ?_
 refine v9 H 0 al Z Z Z Z ?_
 refine uA (vs:=[J _,J _,J _,J _]) H bd Cy Z Z Z Z Z Z ?_;intro w2 b21 H
 refine vd eA Z Z ?_
 refine iF Z Z ?_
 refine U<|Zb ?_
 have hns: ∀ k,k<4->(tC [J e.epoch,J e.pid,J e.ver,J e.seq]).toArray[0+k*1]? =some (J (e.nums.getD k 0)):=by
  intro k hk
  have:k=0∨k=1∨k=2∨k=3:=by omega
  rcases this with rfl|rfl|rfl|rfl<;>rfl
 have hmem: ∀ k,k<4->e.nums.getD k 0∈e.nums:=by
  intro k hk
  have:k=0∨k=1∨k=2∨k=3:=by omega
  rcases this with rfl|rfl|rfl|rfl<;>simp[cv.nums]
 refine bW (τ:=Nat) [4,23,24,25,26,27,28,29,30,31,32,33,2] (fun k=>[(23,J k)]) (fun k w'=>k<=4/\(∀ j,j<k->(e.nums.getD j 0|>iH)=true)/\Hp w w' [(b21,_),(b1,_)] []) (fun k=>4-k) 0 ⟨by omega,by simp,H⟩ (dO Z) ?_
 rintro k ρ1 w1 ⟨hk4,hgood,H⟩
 refine W ?_
 refine Zr ?_
 refine He Z Z Z (fun h24=> ?_) (fun h24=> ?_)
 all_goals refine bL ?_
 all_goals refine bD ?_
 ·refine gL Z ?_
  refine Zk ?_
  have hk:k<4:=by omega
  have hns:=hns k hk
  have hm:=hmem k hk
  generalize hx:e.nums.getD k 0=x at hns hm
  refine W<|Zb<|W ?_
  refine Zr ?_
  refine PI bd Z Z I I Z ?_
  refine v9 H 0 al Z Z hns Z ?_
  refine pn Z Z ?_
  refine U<|W ?_
  refine Zr ?_
  refine iF Z Z ?_
  by_cases hin:iH x=true
  ·obtain⟨h0,h1⟩:=uW hin
   refine Pb Z Z I Z ?_
   refine Ah Z Z ?_
   refine ZG ?_
   refine iF Z Z ?_
   refine ZG ?_
   refine Pk Z Z I Z ?_
   refine sS Z Z Z ?_
   refine U<|ZF Z<|Zk ?_
   refine Zr ?_
   refine add Z Z I I Z ?_
   refine iF Z Z ?_
   refine U ?_
   refine⟨k+1,⟨by omega,fun j hj=> ?_,H⟩,dO Z,by repeat (first|exact iE|refine ie Z ?_|refine fV _ Z ?_),by show 4- (k+1)<4-k;omega⟩
   by_cases hjk:j=k
   ·subst hjk;rw[hx];exact hin
   ·exact hgood j I
  ·have hE:eB e=2:=by
    unfold eB
    rw[if_neg hk0,if_pos]
    intro ha
    exact hin (ef.1 ha x hm)
   have hbad:=NX hin
   by_cases h0:x<0
   ·refine PV Z Z h0 Z ?_
    refine Ah Z Z ?_
    iterate 2 refine rt Z Z Z ?_
    refine wO Z Z Z ?_
    refine U<|ZT Z<|W ?_
    refine Zr ?_
    refine pn Z Z ?_
    refine U<|Zt ?_
    exact cn (v:=J 2) Z Z ⟨by rw[hE],H.below⟩
   ·refine Pb Z Z h0 Z ?_
    refine Ah Z Z ?_
    refine ZG ?_
    refine iF Z Z ?_
    refine ZG ?_
    refine Pj Z Z I Z ?_
    refine sS Z Z Z ?_
    refine U<|ZT Z<|W ?_
    refine Zr ?_
    refine pn Z Z ?_
    refine U<|Zt ?_
    exact cn (v:=J 2) Z Z ⟨by rw[hE],H.below⟩
 ·refine eS Z ?_
  refine Zx ?_
  have hk:k=4:=by omega
  subst hk
  have hall:e.nums.all iH=true:=by
   have g0:=hgood 0 I
   have g1:=hgood 1 I
   have g2:=hgood 2 I
   have g3:=hgood 3 I
   simp only[cv.nums,List.getD_cons_zero,List.getD_cons_succ]at g0 g1 g2 g3
   simp[cv.nums,g0,g1,g2,g3]
  have hv:=uW (ef.1 hall e.ver (by simp[cv.nums]))
  have hs:=uW (ef.1 hall e.seq (by simp[cv.nums]))
  refine W<|W ?_
  refine Zr ?_
  refine sF qt Z Z ?_
  refine v9 H 1 aZ Z Z Z Z ?_
  refine Qx j9 Z Z ?_
  refine JS Z Z Z (fun h37=> ?_) (fun h37=> ?_)
  all_goals refine bL ?_
  ·refine gL Z ?_
   refine W ?_
   refine Zr ?_
   refine pn Z Z ?_
   refine U<|Zt ?_
   have hE:eB e=1:=by
    unfold eB
    rw[if_neg hk0,if_neg (by simpa using hall),if_pos I]
   exact cn (v:=J 1) Z Z ⟨by rw[hE],H.below⟩
  refine ZF Z<|Zk ?_
  have hE:eB e=if e.noForm then 4 else 0:=by
   unfold eB
   rw[if_neg hk0,if_neg (by simpa using hall),if_neg I]
  refine W<|W ?_
  refine Zr ?_
  by_cases hx:e.text=⟨#[]⟩
  all_goals cases ht:e.txn
  all_goals (have h5:e.c.toArray[0+5]? =some (.bool e.txn):=rfl;rw[ht]at h5)
  all_goals (refine sF fc Z Z ?_)
  all_goals (refine v9 H 1 al Z Z Z Z ?_)
  all_goals (refine PU Z Z Z (fun _=> ?_) (fun _=> ?_))
  all_goals (refine Ah Z Z ?_)
  all_goals first|refine rt Z Z Z ?_|(refine qg Z ?_;(refine sF fo Z Z ?_))
  all_goals first|refine rt Z Z Z ?_|(refine qg Z ?_;(refine v9 H 1 al Z Z Z Z ?_))
  all_goals first|refine rt Z Z Z ?_|(refine qg Z ?_;(refine Mr Z Z Z (fun _=> ?_) (fun _=> ?_)))
  all_goals first|refine rt Z Z Z ?_|(refine qg Z ?_;(refine Ah Z Z ?_))
  all_goals first|refine rt Z Z Z ?_|(refine qg Z ?_;(refine sF jb Z Z ?_))
  all_goals first|refine rt Z Z Z ?_|(refine qg Z ?_;(refine v9 H 1 eL Z Z h5 Z ?_))
  all_goals first|refine rt Z Z Z ?_|(refine qg Z ?_;(refine not Z Z ?_))
  all_goals first|refine rt Z Z Z ?_|(refine qg Z ?_;(first|refine wO Z Z Z ?_|refine sS Z Z Z ?_))
  all_goals first|refine rt Z Z Z ?_|(refine qg Z ?_;(refine Ah Z Z ?_))
  all_goals first|refine rt Z Z Z ?_|(refine qg Z ?_;(refine sF fd Z Z ?_))
  all_goals first|refine rt Z Z Z ?_|(refine qg Z ?_;(refine v9 H 1 al Z Z Z Z ?_))
  all_goals first|refine rt Z Z Z ?_|(refine qg Z ?_;(refine PU Z Z Z (fun _=> ?_) (fun _=> ?_)))
  all_goals first|refine rt Z Z Z ?_|(refine qg Z ?_;(first|refine wO Z Z Z ?_|refine sS Z Z Z ?_))
  all_goals first|refine rt Z Z Z ?_|(refine qg Z ?_;(refine Ah Z Z ?_))
  all_goals first|refine rt Z Z Z ?_|(refine qg Z ?_;(refine sF qt Z Z ?_))
  all_goals first|refine rt Z Z Z ?_|(refine qg Z ?_;(refine v9 H 1 aZ Z Z Z Z ?_))
  all_goals first|refine rt Z Z Z ?_|(refine qg Z ?_;(first|refine l1 (Na Z Z hx) Z Z Z ?_|refine l1 (DH Z Z hx) Z Z Z ?_))
  all_goals first|refine rt Z Z Z ?_|(refine qg Z ?_;(first|refine wO Z Z Z ?_|refine sS Z Z Z ?_))
  all_goals (first|refine wO Z Z Z ?_|refine sS Z Z Z ?_)
  all_goals (refine Ah Z Z ?_)
  all_goals first|refine rt Z Z Z ?_|(refine qg Z ?_;(refine sF fo Z Z ?_))
  all_goals first|refine rt Z Z Z ?_|(refine qg Z ?_;(refine v9 H 1 al Z Z Z Z ?_))
  all_goals first|refine rt Z Z Z ?_|(refine qg Z ?_;(refine Mr Z Z Z (fun _=> ?_) (fun _=> ?_)))
  all_goals first|refine rt Z Z Z ?_|(refine qg Z ?_;(refine Ah Z Z ?_))
  all_goals first|refine rt Z Z Z ?_|(refine qg Z ?_;(refine sF jb Z Z ?_))
  all_goals first|refine rt Z Z Z ?_|(refine qg Z ?_;(refine v9 H 1 eL Z Z h5 Z ?_))
  all_goals first|refine rt Z Z Z ?_|(refine qg Z ?_;(refine Ah Z Z ?_))
  all_goals first|refine rt Z Z Z ?_|(refine qg Z ?_;(refine sF eI Z Z ?_))
  all_goals first|refine rt Z Z Z ?_|(refine qg Z ?_;(refine v9 H 1 al Z Z Z Z ?_))
  all_goals first|refine rt Z Z Z ?_|(refine qg Z ?_;(refine sF fd Z Z ?_))
  all_goals first|refine rt Z Z Z ?_|(refine qg Z ?_;(refine v9 H 1 al Z Z Z Z ?_))
  all_goals first|refine rt Z Z Z ?_|(refine qg Z ?_;(refine add Z Z I I Z ?_))
  all_goals first|refine rt Z Z Z ?_|(refine qg Z ?_;(refine JS Z Z Z (fun _=> ?_) (fun _=> ?_)))
  all_goals first|refine rt Z Z Z ?_|(refine qg Z ?_;(first|refine wO Z Z Z ?_|refine sS Z Z Z ?_))
  all_goals first|refine rt Z Z Z ?_|(refine qg Z ?_;(first|refine wO Z Z Z ?_|refine sS Z Z Z ?_))
  all_goals (first|refine wO Z Z Z ?_|refine sS Z Z Z ?_)
  all_goals refine bL ?_
  all_goals first
   |(
     refine gL Z ?_
     refine W ?_
     refine Zr ?_
     refine pn Z Z<|U<|Zt ?_
     exact cn (v:=J 4) Z Z ⟨by rw[hE,if_pos (by simp[cv.noForm, *])],H.below⟩)
   |(
     refine eS Z ?_
     refine Zk<|W ?_
     refine Zr ?_
     refine pn Z Z<|U<|Zt ?_
     exact cn (v:=J 0) Z Z ⟨by rw[hE,if_neg (by simp[cv.noForm, *]<;>omega)],H.below⟩)
def om (e:cv):UInt8:=UInt8.ofNat (e.kind.toNat+if e.txn then 16 else 0)
def ol (l:List Int):List UInt8:=l.flatMap fun n=>zd n.toNat
def eT (e:cv):List UInt8:=om e::ol e.nums++e.text.data.toList
def mj (e:cv):List UInt8:=UInt8.ofNat (eT e).length::eT e++[UInt8.ofNat (mw (eT e)/256),UInt8.ofNat (mw (eT e)%256)]
theorem OL (n:Nat):IntKind.u8.wrap (n:Int)=(n%256:Nat):=by
 simp[IntKind.wrap,IntKind.signed,IntKind.bits]
theorem Qa (s:ByteArray):dN.all s.data.toList=Lib.strCells s:=by
 unfold fq.all Lib.strCells
 show List.flatMap (fun n:UInt8=>[Value.int .u8 n.toNat]) _=_
 induction s.data.toList with
 |nil=>rfl
 |cons a l ih=>simp only[gm,eN,ih];rfl
theorem qY {e:cv} (h:eB e=0):1<=e.kind/\e.kind<=3/\(∀ n∈e.nums,0<=n/\n<=1073741824)/\e.text.size<=40/\ ¬ e.noForm:=by
 unfold eB at h
 split at h;· omega
 split at h;· omega
 split at h;· omega
 split at h;· omega
 rename_i h1 h2 h3 h4
 refine⟨by omega,by omega,fun n hn=> ?_,by omega,h4⟩
 have:=ef.1 (Classical.not_not.1 h2) n hn
 exact uW this
theorem xY: ∀ (l:List Int),(∀ n∈l,0<=n/\n<=1073741824)->(ol l).length<=5*l.length
 |[],_=>by simp[ol]
 |n::l,h=>by
  have h1:=xY l fun m hm=>h m (aj _ hm)
  have h2:=h n (az ..)
  have h3:=Iq 5 n.toNat I
  simp only[ol,gm,ax,bv]at*
  omega
theorem yz {e:cv} (h:eB e=0):(eT e).length<=61/\0<(eT e).length:=by
 obtain⟨_,_,h3,h4,_⟩:=qY h
 have:=xY _ h3
 have hs:e.text.data.toList.length=e.text.size:=by rw[bY];rfl
 simp only[eT,ax,bv,hs]
 have h4':e.nums.length=4:=rfl
 omega
theorem Df (e:cv) (w:World) (h:eB e=0):dt aa BW [e.v] w fun v w2=> ∃ A c,v=.tuple #[.slice A (mj e).length c,J 0]/\Rd dN w.heap.size w2.heap.size A (mj e) w2/\(mj e).length<=c/\Below w.heap.size w w2:=by
 obtain⟨hk1,hk3,hnn,htx,-⟩:=qY h
 obtain⟨hl61,hl0⟩:=yz h
 refine aG AS Z Z ?_
 have H:=Hp.start w
 refine W ?_
 refine Zr ?_
 refine gM H Z Z ?_;intro w1 b1 H
 refine vj Z Z ?_
 refine pn Z Z ?_
 refine U<|W<|W ?_
 refine Zr ?_
 refine QH H 0 dI Z Z Z Z ?_
 refine cz rQ (xL e _) Z Z ?_;rintro _ w2 ⟨rfl,hb2⟩;replace H:=H.later hb2
 refine pn Z Z ?_
 refine U<|W ?_
 refine Zr ?_
 refine iF Z Z ?_
 refine G (ch Z Z h)<|U<|ZF Z<|Zk<|W ?_
 refine Zr ?_
 refine sF fc Z Z ?_
 refine v9 H 0 al Z Z Z Z ?_
 refine pn Z Z ?_
 refine U<|W ?_
 obtain⟨k,hk⟩: ∃ k:Nat,e.kind=k:=⟨e.kind.toNat,by omega⟩
 have hkB:om e=UInt8.ofNat (k+if e.txn then 16 else 0):=by unfold om;rw[hk];rfl
 refine fp (τ:=Unit) [17,18,19,20,5] (fun _=>[(5,J (k+if e.txn then 16 else 0:Nat))]) (fun _ w'=>Hp w w' [(b1,.cells e.c.toArray dz)] []) ?_ ?_
 ·refine bD ?_
  refine Zr ?_
  refine sF jb Z Z ?_
  refine v9 H 0 eL Z Z Z Z ?_
  refine U ?_
  refine kD (b:=e.txn) Z (fun ht=> ?_) (fun ht=> ?_)
  ·refine ba ?_
   refine iF Z Z ?_
   have h16:k|||16=k+16:=by
    have:k=1∨k=2∨k=3:=by omega
    rcases this with rfl|rfl|rfl<;>rfl
   rw[hk]
   refine G (Ny (a:=k) (b:=16) Z Z I I) ?_
   rw[h16]
   refine pn Z Z ?_
   refine U ?_
   refine⟨(),H,dO (by rw[ht];rfl),by repeat (first|exact y9.refl _ _|exact iE|refine ie Z ?_|refine fV _ Z ?_)⟩
  ·refine jl ?_
   rw[hk]
   refine⟨(),H,dO (by rw[ht];rfl),by repeat (first|exact y9.refl _ _|exact iE|refine ie Z ?_|refine fV _ Z ?_)⟩
 rintro _ ρ1 w3 H
 show CW _ _ _ _ (dH (gT _ _ ρ1) [(5,J (k+if e.txn then 16 else 0:Nat))]) w3
 have hk19:(k+if e.txn then 16 else 0)<256:=by split<;>omega
 refine W ?_
 refine Zr ?_
 refine iF Z Z ?_
 refine N9 iY iw Z (Cz hk19) Z ?_
 refine uA (vs:=[.int .u8 _]) H ey zL Z Z Z Z Z Z ?_;intro w4 b23 H
 refine vj Z Z ?_
 refine U ?_
 replace H:=H.swap
 have ho:gH dN (.slice (Qd b23) 1 1) mY [om e] [(b23,.cells (tC [.int .u8 (k+if e.txn then 16 else 0:Nat)]).toArray mY)]:=by
  have e1:dN.all [om e]=(tC [.int .u8 (k+if e.txn then 16 else 0:Nat)]).toArray.toList:=by
   show [Value.int .u8 _]=_
   rw[hkB,PG _ hk19]
   rfl
  unfold gH
  rw[e1]
  exact rV.lit (n:=1) (by decide) Z
 refine W<|W ?_
 refine Zr ?_
 refine sF nM Z Z ?_
 refine v9 H 0 al Z Z Z Z ?_
 refine sF fo Z Z ?_
 refine v9 H 0 al Z Z Z Z ?_
 refine sF eI Z Z ?_
 refine v9 H 0 al Z Z Z Z ?_
 refine sF fd Z Z ?_
 refine v9 H 0 al Z Z Z Z ?_
 refine uA (vs:=[J _,J _,J _,J _]) H bd Cy Z Z Z Z Z Z ?_;intro w5 b32 H
 refine vd eA Z Z ?_
 refine iF Z Z ?_
 refine U<|Zb ?_
 have hns: ∀ k,k<4->(tC [J e.epoch,J e.pid,J e.ver,J e.seq]).toArray[0+k*1]? =some (J (e.nums.getD k 0)):=by
  intro k hk
  have:k=0∨k=1∨k=2∨k=3:=by omega
  rcases this with rfl|rfl|rfl|rfl<;>rfl
 have hmem: ∀ k,k<4->e.nums.getD k 0∈e.nums:=by
  intro k hk
  have:k=0∨k=1∨k=2∨k=3:=by omega
  rcases this with rfl|rfl|rfl|rfl<;>simp[cv.nums]
 have hstep: ∀ k,k<4->e.nums.take (k+1)=e.nums.take k++[e.nums.getD k 0]:=by
  intro k hk
  have:k=0∨k=1∨k=2∨k=3:=by omega
  rcases this with rfl|rfl|rfl|rfl<;>rfl
 have hnlen: ∀ k,k<=4->(ol (e.nums.take k)).length<=20:=by
  intro k hk
  have:=xY (e.nums.take k) fun n hn=>hnn n (y8 hn)
  have h2:(e.nums.take k).length<=4:=by simp[cv.nums];omega
  omega
 refine bW (τ:=Nat×Option Addr×Nat) [6,8,34,35,36,37,38,39,40,41] (fun(k,A,c)=>[(6,.slice A (om e::ol (e.nums.take k)).length c),(34,J k)])
  (fun(k,A,c) w'=>k<=4/\ ∃ L',gH dN (.slice A (om e::ol (e.nums.take k)).length c) mY (om e::ol (e.nums.take k)) L'/\Hp w w' ([(b32,.cells (tC [J e.epoch,J e.pid,J e.ver,J e.seq]).toArray da),(b1,.cells e.c.toArray dz)]++L'++[]) []) (fun(k,_,_)=>4-k) (0,_,1) ⟨by omega,_,ho,H⟩ (lE Z Z) ?_
 rintro⟨j,A1,c1⟩ ρ1 w1 ⟨hj4,L1,ho,H⟩
 show CW _ _ _ _ (dH (gT _ _ ρ1) [(6,.slice A1 (om e::ol (e.nums.take j)).length c1),(34,J j)]) w1
 refine W ?_
 refine Zr ?_
 refine He Z Z Z (fun h35=> ?_) (fun h35=> ?_)
 all_goals refine bL ?_
 all_goals refine bD ?_
 ·refine gL Z ?_
  refine Zk ?_
  have hj:j<4:=by omega
  have hns:=hns j hj
  obtain⟨hm0,hm1⟩:=hnn _ (hmem j hj)
  have hstep:=hstep j hj
  have hnl:=hnlen j hj4
  generalize e.nums.getD j 0=x at*
  obtain⟨m,rfl⟩: ∃ m:Nat,x=m:=⟨x.toNat,by omega⟩
  refine W<|Zb<|W ?_
  refine Zr ?_
  refine PI bd Z Z I I Z ?_
  refine v9 H 0 al Z Z hns Z ?_
  refine pn Z Z ?_
  refine U ?_
  refine Zr ?_
  refine mn Z Z ?_
  refine iF Z Z ?_
  refine cz Bq (Jz m H ho I (by simp only[bv];omega)) Z Z ?_;rintro _ w5 ⟨A2,c2,L2,rfl,ho2,H2⟩
  refine vj Z Z ?_
  refine U ?_
  refine Zr ?_
  refine add Z Z I I Z ?_
  refine iF Z Z ?_
  refine U ?_
  have hnx:om e::ol (e.nums.take (j+1))=om e::ol (e.nums.take j)++zd m:=by
   rw[hstep];simp[ol]
  rw[<-hnx]at ho2
  refine⟨(j+1,A2,c2),⟨by omega,L2,ho2,H2⟩,lE (by rw[hnx];rfl) Z,by repeat (first|exact iE|refine ie Z ?_|refine fV _ Z ?_),by show 4- (j+1)<4-j;omega⟩
 ·refine eS Z ?_
  refine Zx ?_
  have hj:j=4:=by omega
  subst hj
  have h20:=hnlen 4 I
  have e4:e.nums.take 4=e.nums:=rfl
  rw[e4]at*
  have hne:om e::ol e.nums≠[]:=by simp
  refine W ?_
  refine Zr ?_
  refine mn Z Z ?_
  refine sF qt Z Z ?_
  refine v9 H 1 aZ Z Z Z Z ?_
  refine Q5 (Y:=dN) oP j9 Z Qa H ho hne Z Z (by simp only[bv];omega) Z ?_
  intro A2 c2 w2 L2 hc1 hc2 ho H
  refine vj Z Z ?_
  refine U ?_
  have eb:om e::ol e.nums++e.text.data.toList=eT e:=rfl
  rw[eb]at*
  refine W ?_
  refine Zr ?_
  refine mn Z Z ?_
  refine cz yZ (KN (eT e) A2 c2 w2 ((ho.rd H).mono (bx _) (ao _)) I) Z Z ?_;rintro _ w6 ⟨rfl,hb6⟩;replace H:=H.later hb6
  refine pn Z Z ?_
  refine U ?_
  have hs:=DD (eT e)
  refine W ?_
  refine Zr ?_
  refine mn Z Z ?_
  refine vd eW Z Z ?_
  refine N9 iY iw Z (Cz (n:=(eT e).length) I) Z ?_
  refine uA (vs:=[.int .u8 _]) H ey zL Z Z Z Z Z Z ?_;intro w7 b51 H7
  refine mn Z Z ?_
  have ho5:gH dN (.slice (Qd b51) 1 1) mY [UInt8.ofNat (eT e).length] [(b51,.cells (tC [.int .u8 ((eT e).length:Nat)]).toArray mY)]:=by
   have e1:dN.all [UInt8.ofNat (eT e).length]=(tC [.int .u8 ((eT e).length:Nat)]).toArray.toList:=by
    show [Value.int .u8 _]=_
    rw[PG _ I]
    rfl
   unfold gH
   rw[e1]
   exact rV.lit (n:=1) (by decide) Z
  refine xA (Y:=dN) oP (K:=[]) (M:=_) H7 ho5 (news:=eT e) Z Z Z (ho.rd (K:=(b51,_)::[_,_]) (M:=[]) H7).src (by simp only[bv,ft];omega) Z ?_
  intro A8 c8 w8 L8 _ _ ho8 H8
  refine iF Z Z ?_
  refine G (Ot (b:=8) Z Z I) ?_
  refine N9 iY iw Z (Cz (n:=mw (eT e)/2 ^ 8) I) Z ?_
  refine iF Z Z ?_
  refine N9 iY iw Z (OL (mw (eT e))) Z ?_
  refine uA (vs:=[.int .u8 _,.int .u8 _]) H8 ey zL Z Z Z Z Z Z ?_;intro w9 b59 H9
  refine xA (Y:=dN) oP (K:=[_]) (M:=_) H9 ho8 (news:=[UInt8.ofNat (mw (eT e)/256),UInt8.ofNat (mw (eT e)%256)]) Z Z Z ?_ (by simp only[ax,bv,ft];omega) Z ?_
  ·have:=y3.row (m:=2) (sz:=1) (H9.ent (i:=0) Z) Z
   have e1:dN.all [UInt8.ofNat (mw (eT e)/256),UInt8.ofNat (mw (eT e)%256)]=[.int .u8 (mw (eT e)/256:Nat),.int .u8 (mw (eT e)%256:Nat)]:=by
    show [Value.int .u8 _,Value.int .u8 _]=_
    rw[PG _ I,PG _ I]
   rw[e1]
   exact this
  intro A9 c9 w10 L9 hc9 _ ho9 H10
  refine vj Z Z ?_
  refine pn Z Z ?_
  refine U<|Zt ?_
  refine mi Z Z Z ⟨A9,c9,rfl,?_,hc9,H10.below⟩
  exact ho9.rd H10
/-- the number that is next, from its i-th byte on -/
def rn:Nat->Nat->List UInt8->Nat×List UInt8×Bool
 |_,_,[]=>(0,[],true)
 |i,n,c::l=>if i=5 then(0,c::l,true)else if c.toNat<128 then(n+c.toNat%128*2 ^ (7*i),l,decide (c.toNat=0)&&decide (0<i))else rn (i+1) (n+c.toNat%128*2 ^ (7*i)) l
def E7 (l:List UInt8) (bad:Bool):Nat×List UInt8×Bool:=if bad then(0,l,true)else rn 0 0 l
theorem O5 {n x i:Nat} (hn:n<2 ^ (7*i)):n|||x*2 ^ (7*i)=n+x*2 ^ (7*i):=by
 have:=sG hn x
 rw[Nat.or_comm,Do,<-this,Dp]
theorem sR {w0 w:World} {F:List cf} {M:List (Nat×Obj)} {b:Nat} {l:List UInt8} {A:Option Addr} {c:Nat} {bad:Bool} (H:Hp w0 w ((b,.cells #[.slice A l.length c,.bool bad] uF)::M) F) (hr:Rd dN 0 w0.heap.size A l w0) (hc:l.length<=c):
  dt aa uf [.pointer (Qd b)] w fun v w2=>v=J ((E7 l bad).1:Nat)/\ ∃ A' c',Hp w0 w2 ((b,.cells #[.slice A' (E7 l bad).2.1.length c',.bool (E7 l bad).2.2] uF)::M) F/\Rd dN 0 w0.heap.size A' (E7 l bad).2.1 w0/\(E7 l bad).2.1.length<=c':=by
 refine aG tR Z Z ?_
 refine W ?_
 refine Zr ?_
 refine pn Z Z ?_
 refine U<|W ?_
 refine Zr ?_
 refine pn Z Z ?_
 refine U<|W ?_
 refine Zr ?_
 refine pn Z Z ?_
 refine U<|Zb ?_
 refine bW (τ:=Nat×Nat×List UInt8×Bool) [2,3,4,5,6,7,8,9,10,11,12,13,14,15,16,17,18,19,20,21,22,23,24,25,26,27,28,29,30,31,32,33,34,35,36,37,38,39,40,41,42,43,44,45,46,47,48,49,50,51,52,53,54,55,56,57,58,59,60]
  (fun(i,n,_,_)=>[(3,J (n:Nat)),(4,J (i:Nat))])
  (fun(i,n,l1,bad1) w'=>i<=5/\n<2 ^ (7*i)/\(if bad1 then(0,l1,true)else rn i n l1)=E7 l bad/\ ∃ A c,Hp w0 w' ((b,.cells #[.slice A l1.length c,.bool bad1] uF)::M) F/\Rd dN 0 w0.heap.size A l1 w0/\l1.length<=c) (fun(_,_,l1,_)=>l1.length) (0,0,l,bad) ⟨by omega,by decide,rfl,A,c,H,hr,hc⟩ (lE Z Z) ?_
 rintro⟨i,n,l1,bad1⟩ ρ1 w1 ⟨hi5,hn,hrn,A1,c1,H,hr,hc⟩
 show CW _ _ _ _ (dH (gT _ _ ρ1) [(3,J (n:Nat)),(4,J (i:Nat))]) w1
 refine W<|Zb<|W<|W ?_
 refine Zr ?_
 refine G6 Z Z ?_
 refine Kv Z Z ?_
 refine sF kp Z Z ?_
 refine v9 H 0 eL Z Z Z Z ?_
 refine Ah Z Z ?_
 by_cases hstop:bad1=true∨l1=[]∨i=5
 ·have hres:E7 l bad=(0,l1,true):=by
   rw[<-hrn]
   rcases hstop with h|h|h
   ·rw[if_pos h]
   ·subst h;split<;>rfl
   ·subst h;split
    ·rfl
    ·cases l1<;>simp[rn]
  cases bad1
  ·refine qg Z ?_
   refine G6 Z Z ?_
   refine ZG ?_
   refine Kv Z Z ?_
   refine ZG ?_
   refine sF l7 Z Z ?_
   refine ZG ?_
   refine v9 H 0 eO Z Z Z Z ?_
   refine ZG ?_
   refine vd eW Z Z ?_
   refine ZG ?_
   by_cases hl:l1=[]
   ·refine Mq Z Z (by rw[hl];rfl) Z ?_
    refine sS Z Z Z ?_
    refine Ah Z Z ?_
    iterate 2 refine rt Z Z Z ?_
    refine wO Z Z Z ?_
    refine U<|ZT Z<|W ?_
    refine Zr ?_
    refine G6 Z Z ?_
    refine Kv Z Z ?_
    refine sF kp Z Z ?_
    refine PO H 0 mz Z Z Z (by simp) fun w2 H2=>U<|W ?_
    refine Zr ?_
    refine pn Z Z ?_
    refine U<|Zt ?_
    rw[hres]
    exact cn (v:=J 0) Z Z ⟨rfl,A1,c1,H2,hr,hc⟩
   ·have hi:i=5:=by
     rcases hstop with h|h|h
     ·cases h
     ·exact absurd h hl
     ·exact h
    have hl0:l1.length≠0:=fun h=>hl (bR h)
    refine HA Z Z I Z ?_
    refine sS Z Z Z ?_
    refine Ah Z Z ?_
    refine ZG ?_
    refine iF Z Z ?_
    refine ZG<|Mq Z Z I Z ?_
    refine sS Z Z Z ?_
    refine U<|ZT Z<|W ?_
    refine Zr ?_
    refine G6 Z Z ?_
    refine Kv Z Z ?_
    refine sF kp Z Z ?_
    refine PO H 0 mz Z Z Z (by simp) fun w2 H2=>U<|W ?_
    refine Zr ?_
    refine pn Z Z ?_
    refine U<|Zt ?_
    rw[hres]
    exact cn (v:=J 0) Z Z ⟨rfl,A1,c1,H2,hr,hc⟩
  ·iterate 6 refine rt Z Z Z ?_
   refine wO Z Z Z ?_
   refine Ah Z Z ?_
   iterate 2 refine rt Z Z Z ?_
   refine wO Z Z Z ?_
   refine U<|ZT Z<|W ?_
   refine Zr ?_
   refine G6 Z Z ?_
   refine Kv Z Z ?_
   refine sF kp Z Z ?_
   refine PO H 0 mz Z Z Z (by simp) fun w2 H2=>U<|W ?_
   refine Zr ?_
   refine pn Z Z ?_
   refine U<|Zt ?_
   rw[hres]
   exact cn (v:=J 0) Z Z ⟨rfl,A1,c1,H2,hr,hc⟩
 ·have hb1:bad1=false:=by
   cases bad1
   ·rfl
   ·exact absurd (.inl Z) hstop
  subst hb1
  have hi:i<5:=by
   have:i≠5:=fun h=>hstop (.inr (.inr h))
   omega
  obtain⟨x,l2,rfl⟩: ∃ x l2,l1=x::l2:=by
   cases l1 with
   |nil=>exact absurd (.inr (.inl Z)) hstop
   |cons x l2=>exact⟨x,l2,rfl⟩
  have hx:x.toNat<256:=UInt8.toNat_lt _
  obtain⟨bb,o,rfl,-,hbl,hcl⟩:=hr.at_ (k:=0) (by simp)
  rw[if_neg (by decide),rn,if_neg I]at hrn
  have h7:2 ^ (7*i)<=2 ^ 28:=Nat.pow_le_pow_right (by decide) I
  have hmod:x.toNat%128<128:=jH _ (by decide)
  have hmul:x.toNat%128*2 ^ (7*i)<=128*2 ^ 28:=tG I h7
  have h71:2 ^ (7*(i+1))=128*2 ^ (7*i):=by rw[Nat.mul_add,Nat.pow_add];omega
  have hmul2:x.toNat%128*2 ^ (7*i)<=127*2 ^ (7*i):=dp _ I
  refine ZG ?_
  refine G6 Z Z ?_
  refine ZG ?_
  refine Kv Z Z ?_
  refine ZG ?_
  refine sF l7 Z Z ?_
  refine ZG ?_
  refine v9 H 0 eO Z Z Z Z ?_
  refine ZG ?_
  refine vd eW Z Z ?_
  refine ZG<|HA Z Z (by simp;omega) Z ?_
  refine sS Z Z Z ?_
  refine Ah Z Z ?_
  refine ZG ?_
  refine iF Z Z ?_
  refine ZG<|HA Z Z I Z ?_
  refine sS Z Z Z ?_
  refine U<|ZF Z<|Zk<|W ?_
  refine Zr ?_
  refine G6 Z Z ?_
  refine Kv Z Z ?_
  refine sF l7 Z Z ?_
  refine v9 H 0 eO Z Z Z Z ?_
  refine PI ey Z Z I (by simp) Z ?_
  refine ld mF Z ((H.below.cell (p:=⟨bb,_,none⟩) hbl).trans (hcl 0 _ Z)) Z ?_
  refine N9 iw iY Z (vm (n:=x.toNat) I) Z ?_
  refine pn Z Z ?_
  refine U<|W ?_
  refine Zr ?_
  refine G6 Z Z ?_
  refine G6 Z Z ?_
  refine Kv Z Z ?_
  refine sF l7 Z Z ?_
  refine v9 H 0 eO Z Z Z Z ?_
  refine tu ey Z Z I (by simp;omega) hc Z ?_;intro A39 hA39
  refine Kv Z Z ?_
  refine sF l7 Z Z ?_
  refine QP H 0 CS Z Z Z (by simp) fun w2 H2=> ?_
  have hr2:Rd dN 0 w0.heap.size A39 l2 w0:=hr.from_ (k:=1) hA39 (fun h=>h)
  have H:Hp w0 w2 ((b,.cells #[.slice A39 l2.length (c1-1),.bool false] uF)::M) F:=H2
  have hc2:l2.length<=c1-1:=by simp only[bv]at hc;omega
  refine U<|W ?_
  refine Zr ?_
  refine iF Z Z ?_
  refine iF Z Z ?_
  refine G (OJ (a:=x.toNat) (b:=127) Z Z I I) ?_
  rw[MP]
  refine iF Z Z ?_
  refine mul Z Z I I Z ?_
  refine G (Ou (a:=x.toNat%128) (b:=7*i) (k:=.i64) Z (by simp;rfl) I I)<|G (Ny (a:=n) (b:=x.toNat%128*2 ^ (7*i)) Z Z I I) ?_
  rw[O5 hn]
  refine pn Z Z ?_
  refine U<|W ?_
  refine Zr ?_
  refine iF Z Z ?_
  refine He Z Z Z (fun h50=> ?_) (fun h50=> ?_)
  all_goals refine bL ?_
  ·rw[if_pos I]at hrn
   refine ZT Z<|W ?_
   refine Zr ?_
   refine G6 Z Z ?_
   refine iF Z Z ?_
   by_cases hx0:x.toNat=0
   ·refine Mq Z Z I Z ?_
    refine Ah Z Z ?_
    refine ZG ?_
    refine iF Z Z ?_
    refine ZG<|G (kj (a:=(i:Int)) (b:=0) Z Z) ?_
    refine wO Z Z Z ?_
    refine Kv Z Z ?_
    refine sF kp Z Z ?_
    refine PO H 0 mz Z Z Z (by simp) fun w3 H3=>U<|W ?_
    refine Zr ?_
    refine iF Z Z ?_
    refine pn Z Z ?_
    refine U<|Zt ?_
    rw[<-hrn]
    have e:(decide (x.toNat=0)&&decide (0<i))=decide ((0:Int)<i):=by
     rw[decide_eq_true hx0,hZ];exact decide_eq_decide.2 I
    rw[e]
    exact cn (v:=J (n+x.toNat%128*2 ^ (7*i):Nat)) Z Z ⟨rfl,A39,c1-1,H3,hr2,hc2⟩
   ·refine HA Z Z I Z ?_
    refine Ah Z Z ?_
    iterate 2 refine rt Z Z Z ?_
    refine sS Z Z Z ?_
    refine Kv Z Z ?_
    refine sF kp Z Z ?_
    refine PO H 0 mz Z Z Z (by simp) fun w3 H3=>U<|W ?_
    refine Zr ?_
    refine iF Z Z ?_
    refine pn Z Z ?_
    refine U<|Zt ?_
    rw[<-hrn]
    have e:(decide (x.toNat=0)&&decide (0<i))=false:=by rw[decide_eq_false hx0];rfl
    rw[e]
    exact cn (v:=J (n+x.toNat%128*2 ^ (7*i):Nat)) Z Z ⟨rfl,A39,c1-1,H3,hr2,hc2⟩
  ·rw[if_neg I]at hrn
   refine ZF Z<|Zk ?_
   refine Zr ?_
   refine iF Z Z ?_
   refine add Z Z I I Z ?_
   refine pn Z Z ?_
   refine U ?_
   refine⟨(i+1,n+x.toNat%128*2 ^ (7*i),l2,false),⟨by omega,by rw[h71];omega,by rw[<-hrn];rfl,A39,c1-1,H,hr2,hc2⟩,lE Z Z,by repeat (first|exact iE|refine ie Z ?_|refine fV _ Z ?_),by show l2.length<l2.length+1;omega⟩
/-- an entry out of a body -/
def tE (c:UInt8) (l:List UInt8):cv×Bool:=
 let q1:=E7 l false
 let q2:=E7 q1.2.1 q1.2.2
 let q3:=E7 q2.2.1 q2.2.2
 let q4:=E7 q3.2.1 q3.2.2
 (⟨(q1.1:Nat),(q2.1:Nat),(q3.1:Nat),(q4.1:Nat),(c.toNat&&&15:Nat),!decide (((c.toNat&&&16:Nat):Int)=0),⟨q4.2.1.toArray⟩⟩,q4.2.2)
def uB (c:UInt8) (l:List UInt8):Bool:=!(tE c l).2&&decide (c.toNat<32)&&decide (eB (tE c l).1=0)
theorem Oe (c0:UInt8) (l:List UInt8) (A:Option Addr) (c:Nat) (w:World) (hr:Rd dN 0 w.heap.size A (c0::l) w) (hc:(c0::l).length<=c):
  dt aa FB [.slice A (c0::l).length c] w fun v w2=>v=.tuple #[(tE c0 l).1.v,.bool (uB c0 l)]/\Below w.heap.size w w2:=by
 obtain⟨bb,o,rfl,-,hbl,hcl⟩:=hr.at_ (k:=0) (by simp)
 have hc0:c0.toNat<256:=UInt8.toNat_lt _
 refine aG Ei Z Z ?_
 have H:=Hp.start w
 refine W ?_
 refine Zr ?_
 refine fg H gp Z ?_;intro w1 b2 H
 refine Qc Z Z ?_
 refine U<|W ?_
 refine Zr ?_
 refine mn Z Z ?_
 refine tu ey Z Z I (by simp;omega) hc Z ?_;intro A7 hA7
 have hr7:Rd dN 0 w.heap.size A7 l w:=hr.from_ (k:=1) hA7 (fun h=>h)
 have hc7:l.length<=c-1:=by simp only[bv]at hc;omega
 refine G (v:=.agg #[.slice A7 l.length (c-1),.bool false]) (bE I8 Kz Z) ?_
 refine gM H Z Z ?_;intro w2 b9 H
 refine Q3 Z Z ?_
 refine U<|W ?_
 have hcl2:=fun(w':World) (hw':oX w2 w')=>((H.later hw').below.cell (p:=⟨bb,_,none⟩) hbl).trans (hcl 0 _ Z)
 refine bP cD [0,1,2,3,4,5,6,7,8,9,10,11] [12] [11] [0,1,3,4,5,6,8,9,10] (sp [(11,Sp.blk w2.heap.size (.agg #[J 0,J 0,J 0,J 0,J 0,.bool false,.string ⟨#[]⟩]) dz)]) N N N N Nq (cO _) ?_
 refine aw Z Z Z Z Z (fun _ _=>iv Z) ?_
 refine aw Z Z Z Z Z (fun _ _=>AE ey Z Z I (by simp)) ?_
 refine aw Z Z Z Z Z (fun w' hw'=>bf mF Z (hcl2 w' hw')) ?_
 refine aw Z Z Z Z Z (fun _ _=>MO (a:=c0.toNat) (b:=15) Z Z I I) ?_
 refine aw Z Z Z Z Z (fun _ _=>F8 iw iY Z (vm (n:=c0.toNat&&&15) (mq (HS I)))) ?_
 refine aw Z Z Z Z Z (fun _ _=>iv Z) ?_
 refine aw Z Z Z Z Z (fun _ _=>AE ey Z Z I (by simp)) ?_
 refine aw Z Z Z Z Z (fun w' hw'=>bf mF Z (hcl2 w' hw')) ?_
 refine aw Z Z Z Z Z (fun _ _=>MO (a:=c0.toNat) (b:=16) Z Z I I) ?_
 refine aw Z Z Z Z Z (fun _ _=>je (k:=.u8) (a:=((c0.toNat&&&16:Nat):Int)) (b:=0) Z Z) ?_
 refine aw (v:=.agg (cv.c ⟨0,0,0,0,(c0.toNat&&&15:Nat),!decide (((c0.toNat&&&16:Nat):Int)=0),⟨#[]⟩⟩).toArray) Z Z Z Z Z (fun _ _=>bE ob gp Z)<|OI gp Z Z Z Z (fun w' w2 b hC hb hh=>⟨b,rfl,aX hC.size hb,hh⟩) ?_
 rintro _ ⟨_,_,b5,rfl,_,_⟩
 refine aU ?_
 rintro w3 hw3 ⟨-,b,he,hge,hb5⟩
 cases he
 replace H:=(H.adoptNew hw3 hb5 hge).swap
 refine KT H 1 eV Z Z Z Z Z Z ?_;intro w4 H
 refine U<|W ?_
 refine Zr ?_
 refine G6 Z Z ?_
 refine cz iD (sR (l:=l) (bad:=false) H hr7 hc7) Z Z ?_;rintro _ w5 ⟨rfl,A1,c1,H1,hr1,hc1⟩
 refine G6 Z Z ?_
 refine cz iD (sR H1 hr1 hc1) Z Z ?_;rintro _ w6 ⟨rfl,A2,c2,H2,hr2,hc2⟩
 refine G6 Z Z ?_
 refine cz iD (sR H2 hr2 hc2) Z Z ?_;rintro _ w7 ⟨rfl,A3,c3,H3,hr3,hc3⟩
 refine G6 Z Z ?_
 refine cz iD (sR H3 hr3 hc3) Z Z ?_;rintro _ w8 ⟨rfl,A4,c4,H4,hr4,hc4⟩
 generalize hE:tE c0 l=E
 have hEE:E=_:=hE.symm
 unfold tE at hEE
 simp only at hEE
 generalize hq1:E7 l false=q1 at*
 generalize hq2:E7 q1.2.1 q1.2.2=q2 at*
 generalize hq3:E7 q2.2.1 q2.2.2=q3 at*
 generalize hq4:E7 q3.2.1 q3.2.2=q4 at*
 obtain⟨n1,l1,x1⟩:=q1
 obtain⟨n2,l2,x2⟩:=q2
 obtain⟨n3,l3,x3⟩:=q3
 obtain⟨n4,l4,x4⟩:=q4
 dsimp only at*
 clear H H1 H2 H3 hr1 hr2 hr3 hc1 hc2 hc3 hq1 hq2 hq3 hq4
 refine sF nM Z Z ?_
 refine Qk H4 1 bV Z Z Z (fh Z) ?_;intro w9 H
 refine sF fo Z Z ?_
 refine Qk H 1 bV Z Z Z (fh Z) ?_;intro w10 H
 refine sF eI Z Z ?_
 refine Qk H 1 bV Z Z Z (fh Z) ?_;intro w11 H
 refine sF fd Z Z ?_
 refine Qk H 1 bV Z Z Z (fh Z) ?_;intro w12 H
 refine U<|W ?_
 refine Zr ?_
 refine G6 Z Z ?_
 refine Kv Z Z ?_
 refine sF l7 Z Z ?_
 refine v9 H 0 eO Z Z Z Z ?_
 refine Go.Eng.l1 (Ps ey iw j9 Z Z (fun _=>rfl) (hr4.below H.below)) Z Z Z ?_
 refine sF qt Z Z ?_
 refine QO H 1 GM Z Z Z (fh Z) ?_;intro w13 H
 refine U ?_
 have H:Hp w w13 [(b9,.cells #[.slice A4 l4.length c4,.bool x4] uF),(b5,.cells E.1.c.toArray dz),(b2,.cells (cv.c ⟨0,0,0,0,0,false,⟨#[]⟩⟩).toArray dz)] []:=by rw[hEE];exact H
 have hx4:E.2=x4:=by rw[hEE]
 have hcl3:=fun(w':World) (hw':oX w13 w')=>((H.later hw').below.cell (p:=⟨bb,_,none⟩) hbl).trans (hcl 0 _ Z)
 obtain⟨E,x5⟩:=E
 dsimp only at*
 subst hx4
 clear hEE
 refine W ?_
 refine bP cD [0,1,2,3,4,5,6,7,8,9,10,11,12,13,14,15,16] [17,18] [14] [1,2,3,5,6,7,8,10,11,12,15,16] (sp [(14,Sp.one (J (eB E)))]) N N N N Nq (cO _) ?_
 refine aw Z Z Z Z Z (fun w' hw'=>js dI Z ((H.later hw').ent (i:=1) Z) Z) ?_
 refine aw Z Z Z Z Z (fun _ _=>iv Z) ?_
 refine aw Z Z Z Z Z (fun _ _=>aI Z) ?_
 refine aw Z Z Z Z Z (fun _ _=>Zf kp Z) ?_
 refine aw Z Z Z Z Z (fun w' hw'=>bf eL Z (aJ ((H.later hw').ent (i:=0) Z) Z)) ?_
 refine aw Z Z Z Z Z (fun _ _=>d7 Z) ?_
 refine aw Z Z Z Z Z (fun _ _=>iv Z) ?_
 have hob:uB c0 l=(!x5&&decide (c0.toNat<32)&&decide (eB E=0)):=by unfold uB;rw[hE]
 rw[hob]
 cases x5
 ·refine aw Z Z Z Z Z (fun _ _=>iv Z) ?_
  refine aw Z Z Z Z Z (fun _ _=>AE ey Z Z I (by simp)) ?_
  refine aw Z Z Z Z Z (fun w' hw'=>bf mF Z (hcl3 w' hw')) ?_
  refine aw Z Z Z Z Z (fun _ _=>cL (k:=.u8) (a:=(c0.toNat:Int)) (b:=32) Z Z) ?_
  refine aw Z Z Z Z Z (fun _ _=>Lx Z Z) ?_
  refine aw Z Z Z Z Z (fun _ _=>iv Z) ?_
  have h32:decide ((c0.toNat:Int)<32)=decide (c0.toNat<32):=decide_eq_decide.2 I
  rw[h32]
  cases h:decide (c0.toNat<32)
  ·iterate 3 refine eU Z Z Z Z ?_
   refine aw Z Z Z Z Z (fun _ _=>In Z Z) ?_
   refine aU ?_
   intro w' hw' hF;replace H:=H.later hw';clear hw'
   refine KT H 2 eV Z Z Z Z Z Z ?_;intro w15 H
   refine Qc Z Z<|U<|Zt ?_
   exact Mk Z dI Z (H.ent (i:=2) Z) Z Z ⟨rfl,H.below⟩
  ·refine aw Z Z Z Z Z (fun w' hw'=>js dI Z ((H.later hw').ent (i:=1) Z) Z) ?_
   refine y1 rQ Z Z Z Z (fun w' _=>(xL E w').mono (fun v w2 ⟨h1,h2⟩=>⟨h2,h1⟩)) Z ?_
   rintro _ ⟨_,_,rfl⟩
   refine aw Z Z Z Z Z (fun _ _=>br Z Z) ?_
   refine aw Z Z Z Z Z (fun _ _=>Lx Z Z) ?_
   refine aU ?_
   intro w' hw' hF;replace H:=H.later hw';clear hw'
   refine KT H 2 eV Z Z Z Z Z Z ?_;intro w15 H
   refine Qc Z Z<|U<|Zt ?_
   exact Mk Z dI Z (H.ent (i:=2) Z) Z Z ⟨rfl,H.below⟩
 ·iterate 4 refine eU Z Z Z Z ?_
  refine aw Z Z Z Z Z (fun _ _=>In Z Z) ?_
  refine aw Z Z Z Z Z (fun _ _=>iv Z) ?_
  iterate 3 refine eU Z Z Z Z ?_
  refine aw Z Z Z Z Z (fun _ _=>In Z Z) ?_
  refine aU ?_
  intro w' hw' hF;replace H:=H.later hw';clear hw'
  refine KT H 2 eV Z Z Z Z Z Z ?_;intro w15 H
  refine Qc Z Z<|U<|Zt ?_
  exact Mk Z dI Z (H.ent (i:=2) Z) Z Z ⟨rfl,H.below⟩
/-- the entry that is first, and how many bytes it takes -/
def step:List UInt8->Option (cv×Nat)
 |[]=>none
 |n::r=>
  if n.toNat=0∨r.length<n.toNat+2 then none
  else if mw (r.take n.toNat)≠(r.getD n.toNat 0).toNat*256+(r.getD (n.toNat+1) 0).toNat then none
  else if uB (r.headD 0) (r.take n.toNat).tail=true then some ((tE (r.headD 0) (r.take n.toNat).tail).1,n.toNat+3)else none
inductive Ky:List UInt8->List cv->Nat->Prop
 |stop {l:List UInt8} (h:step l=none):Ky l [] 0
 |go {l:List UInt8} {e:cv} {k n:Nat} {es:List cv} (h:step l=some (e,k)) (hd:Ky (l.drop k) es n):Ky l (e::es) (k+n)
theorem PR {a b:Nat} (hb:b<256):a*2 ^ 8|||b=a*256+b:=by
 have:=sG (i:=8) (b:=b) (by simpa using hb) a
 rw[Do,<-this]
theorem u5 (l:List UInt8) (A:Option Addr) (c:Nat) (w:World) (hr:Rd dN 0 w.heap.size A l w) (hc:l.length<=c) (hbd:l.length<=1000000000000):
  dt aa BX [.slice A l.length c] w fun v w2=> ∃ es n A' c',v=.tuple #[.slice A' es.length c',J (n:Nat)]/\Ky l es n/\Rd gV w.heap.size w2.heap.size A' es w2/\es.length<=c'/\Below w.heap.size w w2:=by
 refine aG AT Z Z ?_
 have H:=Hp.start w
 refine W ?_
 refine Zr ?_
 refine vj Z Z ?_
 refine pn Z Z ?_
 refine U<|W ?_
 refine Zr ?_
 refine vj Z Z ?_
 refine U<|W ?_
 refine Zr ?_
 refine pn Z Z ?_
 refine U<|W<|Zb ?_
 refine bW (τ:=Nat×List cv×Option Addr×Nat) [4,5,6,7,8,9,10,11,12,13,14,15,16,17,18,19,20,21,22,23,24,25,26,27,28,29,30,31,32,33,34,35,36,37,38,39,40,41,42,43,44,45,46,47,48,49,50,51,52,53,54,55,56,57,58,59,60,61,62,63,64,65,66,67,68,69,70,71,72,73]
  (fun(at_,out,A1,c1)=>[(4,.slice A1 out.length c1),(5,J (at_:Nat))])
  (fun(at_,out,A1,c1) w'=>at_<=l.length/\out.length<=at_/\(∀ es n,Ky (l.drop at_) es n->Ky l (out++es) (at_+n))/\ ∃ L',gH gV (.slice A1 out.length c1) dz out L'/\Hp w w' ([]++L'++[]) [])
  (fun(at_,_,_,_)=>l.length-at_) (0,[],none,0) ⟨by omega,by simp,fun es n h=>by simpa using h,[],gH.nil,H⟩ (lE Z Z) ?_
 rintro⟨at_,out,A1,c1⟩ ρ1 w1 ⟨hat,hout,hdec,L1,ho,H⟩
 show CW _ _ _ _ (dH (gT _ _ ρ1) [(4,.slice A1 out.length c1),(5,J (at_:Nat))]) w1
 have hfin: ∀ {w2:World},step (l.drop at_)=none->Hp w w2 ([]++L1++[]) []-> ∃ es n A' c',(Value.tuple #[.slice A1 out.length c1,J (at_:Nat)])=.tuple #[.slice A' es.length c',J (n:Nat)]/\Ky l es n/\Rd gV w.heap.size w2.heap.size A' es w2/\es.length<=c'/\Below w.heap.size w w2:=fun hs H=>by
  have hd:=hdec [] 0 (.stop hs)
  rw[aW,pB]at hd
  obtain⟨A2,c2,he,hlc,-⟩:=ho.form
  injection he with h1 h2 h3
  subst h3
  exact⟨out,at_,A1,c1,rfl,hd,ho.rd H,hlc,H.below⟩
 refine W<|W ?_
 refine Zr ?_
 refine iF Z Z ?_
 refine mn Z Z ?_
 refine vd eW Z Z ?_
 refine He Z Z Z (fun h13=> ?_) (fun h13=> ?_)
 all_goals refine bL ?_
 ·refine gL Z ?_
  refine Zk ?_
  have hlt:at_<l.length:=by omega
  obtain⟨bb,o,hA,-,hbl,hcl0⟩:=hr.at_ hlt
  subst hA
  have hcl: ∀ {k:Nat} (hk:k<l.length) (w':World),Below w.heap.size w w'->w'.cell? ⟨bb,o+k*1,none⟩=some (.int .u8 (l[k].toNat:Nat)):=fun{k} hk w' hb=>by
   obtain⟨bb',o',hA,-,hbl,hcl⟩:=hr.at_ hk
   injection hA with hA
   injection hA with h1 h2
   subst h1;subst h2
   exact(hb.cell (p:=⟨bb,_,none⟩) hbl).trans (hcl 0 _ Z)
  have hd0:l.drop at_=l[at_]::l.drop (at_+1):=m0 hlt
  have hx:=hcl hlt
  have h256:l[at_].toNat<256:=UInt8.toNat_lt _
  generalize hn:l[at_].toNat=n at*
  refine Zb<|W ?_
  refine Zr ?_
  refine mn Z Z ?_
  refine iF Z Z ?_
  refine PI ey Z Z I I Z ?_
  refine ld mF Z (hx _ H.below) Z ?_
  refine N9 iw iY Z (vm (n:=n) I) Z ?_
  refine pn Z Z ?_
  refine U<|W<|W ?_
  refine Zr ?_
  refine iF Z Z ?_
  by_cases hstop:n=0∨l.length<at_+n+3
  ·have hs:step (l.drop at_)=none:=by
    rw[hd0,step,hn,if_pos]
    rw[db];omega
   by_cases hn0:n=0
   ·refine Mq Z Z I Z ?_
    refine Ah Z Z ?_
    iterate 7 refine rt Z Z Z ?_
    refine wO Z Z Z ?_
    refine U<|ZT Z<|Zx<|W ?_
    refine Zr ?_
    refine mn Z Z ?_
    refine iF Z Z ?_
    refine vj Z Z ?_
    refine pn Z Z ?_
    refine U<|Zt ?_
    exact mi Z Z Z (hfin hs H)
   ·refine HA Z Z I Z ?_
    refine Ah Z Z ?_
    refine ZG ?_
    refine iF Z Z ?_
    refine ZG ?_
    refine iF Z Z ?_
    refine ZG ?_
    refine add Z Z I I Z ?_
    refine ZG ?_
    refine add Z Z I I Z ?_
    refine ZG ?_
    refine mn Z Z ?_
    refine ZG ?_
    refine vd eW Z Z ?_
    refine ZG<|Pj Z Z I Z ?_
    refine sS Z Z Z ?_
    refine U<|ZT Z<|Zx<|W ?_
    refine Zr ?_
    refine mn Z Z ?_
    refine iF Z Z ?_
    refine vj Z Z ?_
    refine pn Z Z ?_
    refine U<|Zt ?_
    exact mi Z Z Z (hfin hs H)
  have hn0:n≠0:=fun h=>hstop (.inl h)
  have hlen:at_+n+3<=l.length:=by omega
  refine HA Z Z I Z ?_
  refine Ah Z Z ?_
  refine ZG ?_
  refine iF Z Z ?_
  refine ZG ?_
  refine iF Z Z ?_
  refine ZG ?_
  refine add Z Z I I Z ?_
  refine ZG ?_
  refine add Z Z I I Z ?_
  refine ZG ?_
  refine mn Z Z ?_
  refine ZG ?_
  refine vd eW Z Z ?_
  refine ZG<|Pk Z Z I Z ?_
  refine sS Z Z Z ?_
  refine U<|ZF Z<|Zk<|W ?_
  refine Zr ?_
  refine mn Z Z ?_
  refine iF Z Z ?_
  refine add Z Z I I Z ?_
  refine iF Z Z ?_
  refine add Z Z I I Z ?_
  refine iF Z Z ?_
  refine add Z Z I I Z ?_
  refine Oq ey Z Z Z I I I Z ?_;intro A37 hA37
  have e1:((at_:Int)+1).toNat=at_+1:=by omega
  have e2:((at_:Int)+1+n).toNat- (at_+1)=n:=by omega
  rw[e1]at hA37⊢
  rw[e2]
  have hrx:Rd dN 0 w.heap.size A37 ((l.drop (at_+1)).take n) w:=(hr.from_ hA37 (fun h=>by omega)).take n
  have hxl:((l.drop (at_+1)).take n).length=n:=by rw[aF,db];omega
  refine vj Z Z ?_
  refine U ?_
  have hg1:(l.drop (at_+1)).getD n 0=l[at_+n+1]:=by
   rw[cR,dk,show at_+1+n=at_+n+1 by omega,ai I];rfl
  have hg2:(l.drop (at_+1)).getD (n+1) 0=l[at_+n+2]:=by
   rw[cR,dk,show at_+1+(n+1)=at_+n+2 by omega,ai I];rfl
  have hc1:=hcl (k:=at_+n+1) I
  have hc2:=hcl (k:=at_+n+2) I
  have hb1:l[at_+n+1].toNat<256:=UInt8.toNat_lt _
  have hb2:l[at_+n+2].toNat<256:=UInt8.toNat_lt _
  generalize l[at_+n+1]=x1 at*
  generalize l[at_+n+2]=x2 at*
  generalize hX:(l.drop (at_+1)).take n=X at*
  have hstep:step (l.drop at_)=if mw X≠x1.toNat*256+x2.toNat then none else if uB (X.headD 0) X.tail=true then some ((tE (X.headD 0) X.tail).1,n+3)else none:=by
   rw[hd0,step,hn,if_neg (by rw[db];omega),hX,hg1,hg2]
   have:(l.drop (at_+1)).headD 0=X.headD 0:=by
    rw[<-hX]
    cases h:l.drop (at_+1)with
    |nil=>simp
    |cons a r=>
     cases n with
     |zero=>exact absurd Z hn0
     |succ n=>rfl
   rw[this]
  have hcy1:((at_:Int)+n+1).toNat=at_+n+1:=by omega
  have hcy2:((at_:Int)+n+2).toNat=at_+n+2:=by omega
  rw[<-hcy1]at hc1
  rw[<-hcy2]at hc2
  have hor:x1.toNat*2 ^ 8|||x2.toNat=x1.toNat*256+x2.toNat:=PR hb2
  have hslt:=DD X
  refine W<|W ?_
  refine bP cD [0,2,3,4,5,6,7,8,9,10,11,12,13,14,15,16,17,18,19,1,20] [] [1] [0,2,3,4,5,6,7,9,10,11,12,13,14,15,16,18,19,20] (sp [(1,Sp.one (J (mw X:Nat)))]) N N N N Nq (cO _) ?_
  refine aw Z Z Z Z Z (fun _ _=>iv Z) ?_
  refine aw Z Z Z Z Z (fun _ _=>iv Z) ?_
  refine aw Z Z Z Z Z (fun _ _=>iv Z) ?_
  refine aw Z Z Z Z Z (fun _ _=>iv Z) ?_
  refine aw Z Z Z Z Z (fun _ _=>bn Z Z I I) ?_
  refine aw Z Z Z Z Z (fun _ _=>bn Z Z I I) ?_
  refine aw Z Z Z Z Z (fun _ _=>AE ey Z Z I I) ?_
  refine aw Z Z Z Z Z (fun w' hw'=>bf mF Z (hc1 w' (H.later hw').below)) ?_
  refine aw Z Z Z Z Z (fun _ _=>F8 iw iY Z (vm (n:=x1.toNat) I)) ?_
  refine aw Z Z Z Z Z (fun _ _=>Ou (a:=x1.toNat) (b:=8) (k:=.u64) Z Z I I) ?_
  refine aw Z Z Z Z Z (fun _ _=>iv Z) ?_
  refine aw Z Z Z Z Z (fun _ _=>iv Z) ?_
  refine aw Z Z Z Z Z (fun _ _=>iv Z) ?_
  refine aw Z Z Z Z Z (fun _ _=>bn Z Z I I) ?_
  refine aw Z Z Z Z Z (fun _ _=>bn Z Z I I) ?_
  refine aw Z Z Z Z Z (fun _ _=>AE ey Z Z I I) ?_
  refine aw Z Z Z Z Z (fun w' hw'=>bf mF Z (hc2 w' (H.later hw').below)) ?_
  refine aw Z Z Z Z Z (fun _ _=>F8 iw iY Z (vm (n:=x2.toNat) I)) ?_
  refine aw Z Z Z Z Z (fun _ _=>Ny (a:=x1.toNat*2 ^ 8) (b:=x2.toNat) Z Z I I) ?_
  rw[hor]
  refine y1 yZ Z Z Z Z (fun w' hw'=>(KN X A37 (c- (at_+1)) w' ((hrx.below (H.later hw').below).mono (ao _) (H.later hw').size) I).mono (fun v w2 ⟨h1,h2⟩=>⟨h2,h1⟩)) (by rw[hxl];rfl) ?_
  rintro _ ⟨_,_,rfl⟩
  by_cases hsum:mw X=x1.toNat*256+x2.toNat
  ·refine aw Z Z Z Z Z (fun _ _=>ch Z Z I) ?_
   refine aU ?_
   intro w' hw' hF;replace H:=H.later hw';clear hw' hF
   refine U<|ZF Z<|Zk ?_
   obtain⟨c0,X',rfl⟩: ∃ c0 X',X=c0::X':=by
    cases X with
    |nil=>simp at hxl;omega
    |cons a X=>exact⟨a,X,rfl⟩
   rw[if_neg I]at hstep
   refine W ?_
   refine Zr ?_
   refine mn Z Z ?_
   rw[<-hxl]
   refine cz Ey (Oe c0 X' A37 _ _ ((hrx.below H.below).mono (ao _) H.size) (by rw[hxl];omega)) Z Z ?_;rintro _ w2 ⟨rfl,hb2⟩;replace H:=H.later hb2
   rw[hxl]
   refine QV Z Z ?_
   refine QI Z Z Z ?_
   refine QI Z Z Z ?_
   refine fg H gp Z ?_;intro w3 b8 H
   refine KT H 0 eV Z Z Z Z Z Z ?_;intro w4 H
   refine Qc Z Z ?_
   refine U<|W<|W ?_
   refine Zr ?_
   refine Ah Z Z ?_
   refine not Z Z ?_
   refine U ?_
   refine kD (b:=!uB c0 X') Z (fun hb=> ?_) (fun hb=> ?_)
   ·rw[if_neg (by simpa using hb)]at hstep
    refine Zx<|W ?_
    refine Zr ?_
    refine mn Z Z ?_
    refine iF Z Z ?_
    refine vj Z Z ?_
    refine pn Z Z ?_
    refine U<|Zt ?_
    exact mi Z Z Z (hfin hstep (H.forget (by simp) (fun _ h=>h)))
   ·rw[if_pos (by simpa using hb)]at hstep
    refine Zk<|W ?_
    refine Zr ?_
    refine mn Z Z ?_
    refine QH H 0 dI Z Z Z Z ?_
    refine uA (vs:=[.agg _]) H dV gp Z Z Z Z Z Z ?_;intro w5 b68 H5
    refine xA (Y:=gV) Ki (K:=[_,_]) (L:=L1) (M:=[]) H5 ho (news:=[(tE c0 X').1]) Z Z Z ?_ (by simp only[cF];omega) Z ?_
    ·exact y3.row (m:=1) (sz:=7) (H5.ent (i:=0) Z) Z
    intro A6 c6 w6 L6 _ _ ho6 H6
    refine vj Z Z ?_
    refine U ?_
    refine Zr ?_
    refine iF Z Z ?_
    refine iF Z Z ?_
    refine add Z Z I I Z ?_
    refine add Z Z I I Z ?_
    refine pn Z Z ?_
    refine U ?_
    refine⟨(at_+(n+3),out++[(tE c0 X').1],A6,c6),⟨by omega,by simp;omega,fun es m hD=> ?_,L6,ho6,H6.forget (by simp) (fun _ h=>h)⟩,lE Z ?_,by repeat (first|exact iE|refine ie Z ?_|refine fV _ Z ?_),by show l.length- (at_+(n+3))<l.length-at_;omega⟩
    ·have:=hdec _ _ (.go hstep (by rw[j7];exact hD))
     rw[aB,jI]
     exact this
    ·show Value.int .i64 _=Value.int .i64 _
     congr 1
  ·rw[if_pos hsum]at hstep
   refine aw Z Z Z Z Z (fun _ _=>lH Z Z I) ?_
   refine aU ?_
   intro w' hw' hF;replace H:=H.later hw';clear hw'
   refine U<|ZT Z<|Zx<|W ?_
   refine Zr ?_
   refine mn Z Z ?_
   refine iF Z Z ?_
   refine vj Z Z ?_
   refine pn Z Z ?_
   refine U<|Zt ?_
   exact mi Z Z Z (hfin hstep H)
 ·refine eS Z ?_
  refine Zx ?_
  have hs:step (l.drop at_)=none:=by rw[ej I];rfl
  refine W ?_
  refine Zr ?_
  refine mn Z Z ?_
  refine iF Z Z ?_
  refine vj Z Z ?_
  refine pn Z Z ?_
  refine U<|Zt ?_
  exact mi Z Z Z (hfin hs H)
def nW (e:cv):Prop:=eB e=0
def bH (es:List cv):List UInt8:=es.flatMap mj
theorem CG (n:Nat) (h:n<256):(UInt8.ofNat n).toNat=n:=by simp[gX h]
theorem K9: ∀ (k n i m:Nat) (rest:List UInt8),n<128 ^ k->i+k<=5->(0<k)->(n≠0∨i=0)->rn i m (zd n++rest)=(m+n*2 ^ (7*i),rest,false)
 |0,_,_,_,_,_,_,h0,_=>absurd h0 (by decide)
 |k+1,n,i,m,rest,hn,hi,_,hz=>by
  by_cases h:n<=127
  rw[uQ h]
  simp only[mr,kZ,rn]
  rw[if_neg I,CG n I,if_pos I,gX I]
  have:(decide (n=0)&&decide (0<i))=false:=by
   rcases hz with h|h
   simp[h]
   simp[h]
  rw[this]
  rw[DS I]
  simp only[mr,rn]
  have hm:n%128<128:=jH _ (by decide)
  rw[if_neg I,CG _ I,if_neg I]
  have hk:k≠0:=by rintro rfl;simp at hn;omega
  rw[K9 k (n/128) (i+1) _ rest (by rw[Nat.pow_succ]at hn;exact y6 I) I I (.inl I)]
  congr 1
  have e1:(n%128+128)%128=n%128:=by omega
  have e2:2 ^ (7*(i+1))=128*2 ^ (7*i):=by rw[Nat.mul_add,Nat.pow_add];omega
  rw[e1,e2]
  have e3:n/128*(128*2 ^ (7*i))=(n/128*128)*2 ^ (7*i):=(Nat.mul_assoc _ _ _).symm
  rw[e3,jI,<-cN]
  congr 2
  omega
theorem zy {n:Nat} (hn:n<=1073741824) (rest:List UInt8):E7 (zd n++rest) false=(n,rest,false):=by
 unfold E7
 rw[if_neg (by decide),K9 5 n 0 0 rest I I I (.inr Z)]
 simp
theorem JH: ∀ k:Nat,k<4-> ∀ t:Bool,let c:=k+if t then 16 else 0;c<32/\(c&&&15)=k/\(!decide (((c&&&16:Nat):Int)=0))=t:=by decide
theorem MF {e:cv} (h:nW e): ∃ c x,eT e=c::x/\uB c x=true/\(tE c x).1=e:=by
 obtain⟨h1,h2,h3,h4,-⟩:=qY h
 refine⟨om e,ol e.nums++e.text.data.toList,rfl,?_⟩
 obtain⟨ep,pid,ver,seq,kind,txn,text⟩:=e
 simp only[cv.nums,av,bu,or_false,forall_eq_or_imp,forall_eq]at h3
 dsimp only at h1 h2
 obtain⟨a1,a2,a3,a4⟩:=h3
 obtain⟨n1,rfl⟩: ∃ n:Nat,ep=n:=⟨ep.toNat,by omega⟩
 obtain⟨n2,rfl⟩: ∃ n:Nat,pid=n:=⟨pid.toNat,by omega⟩
 obtain⟨n3,rfl⟩: ∃ n:Nat,ver=n:=⟨ver.toNat,by omega⟩
 obtain⟨n4,rfl⟩: ∃ n:Nat,seq=n:=⟨seq.toNat,by omega⟩
 obtain⟨k,rfl⟩: ∃ n:Nat,kind=n:=⟨kind.toNat,by omega⟩
 have hb:ol (cv.nums ⟨(n1:Nat),(n2:Nat),(n3:Nat),(n4:Nat),(k:Nat),txn,text⟩)++text.data.toList=zd n1++(zd n2++(zd n3++(zd n4++text.data.toList))):=by
  simp[ol,cv.nums]
 obtain⟨j1,j2,j3⟩:=JH k I txn
 have hkb:(om ⟨(n1:Nat),(n2:Nat),(n3:Nat),(n4:Nat),(k:Nat),txn,text⟩).toNat=k+if txn then 16 else 0:=by
  unfold om
  exact CG _ (by simp only[uI];exact Nat.lt_trans j1 (by decide))
 have hE:tE (om ⟨(n1:Nat),(n2:Nat),(n3:Nat),(n4:Nat),(k:Nat),txn,text⟩) (zd n1++(zd n2++(zd n3++(zd n4++text.data.toList))))=(⟨(n1:Nat),(n2:Nat),(n3:Nat),(n4:Nat),(k:Nat),txn,text⟩,false):=by
  unfold tE
  simp only[zy (show n1<=1073741824 by omega),zy (show n2<=1073741824 by omega),zy (show n3<=1073741824 by omega),zy (show n4<=1073741824 by omega),hkb,j2,j3]
 dsimp only
 rw[hb]
 refine⟨?_,by rw[hE]⟩
 unfold uB
 rw[hE,hkb]
 simp[j1,show eB _=0 from h]
theorem F4 (e:cv):(mj e).length=(eT e).length+3:=by simp[mj]
theorem KP {e:cv} (h:nW e) (rest:List UInt8):step (mj e++rest)=some (e,(mj e).length):=by
 obtain⟨hl,h0⟩:=yz h
 have hs:=DD (eT e)
 obtain⟨c,x,h1,h2,h3⟩:=MF h
 have e1:mj e++rest=UInt8.ofNat (eT e).length::(eT e++(UInt8.ofNat (mw (eT e)/256)::UInt8.ofNat (mw (eT e)%256)::rest)):=by simp[mj]
 rw[e1,step,CG _ I,if_neg (by simp only[ax,bv];omega)]
 have t1:(eT e++(UInt8.ofNat (mw (eT e)/256)::UInt8.ofNat (mw (eT e)%256)::rest)).take (eT e).length=eT e:=jg
 have t2:(eT e++(UInt8.ofNat (mw (eT e)/256)::UInt8.ofNat (mw (eT e)%256)::rest)).getD (eT e).length 0=UInt8.ofNat (mw (eT e)/256):=by
  rw[cR,cj (ao _),mp];rfl
 have t3:(eT e++(UInt8.ofNat (mw (eT e)/256)::UInt8.ofNat (mw (eT e)%256)::rest)).getD ((eT e).length+1) 0=UInt8.ofNat (mw (eT e)%256):=by
  rw[cR,cj I,oS];rfl
 rw[t1,t2,t3,CG _ I,CG _ I,if_neg (fun h=>h (Nat.div_add_mod' _ _).symm)]
 have t4:(eT e++(UInt8.ofNat (mw (eT e)/256)::UInt8.ofNat (mw (eT e)%256)::rest)).headD 0=c:=by rw[h1];rfl
 rw[t4,F4]
 rw[h1]
 simp[h2,h3]
theorem IK: ∀ (es:List cv) (rest:List UInt8),(∀ e∈es,nW e)->step rest=none->Ky (bH es++rest) es (bH es).length
 |[],rest,_,h=> .stop h
 |e::es,rest,hg,h=>by
  have h1:=KP (hg e (az ..)) (bH es++rest)
  have h2:=IK es rest (fun x hx=>hg x (aj _ hx)) h
  have e1:bH (e::es)++rest=mj e++(bH es++rest):=by simp[bH]
  have e2:(bH (e::es)).length=(mj e).length+(bH es).length:=by simp[bH]
  rw[e1,e2]
  exact .go h1 (by rw[List.drop_left];exact h2)
theorem qZ {l:List UInt8} {es es':List cv} {n n':Nat} (h:Ky l es n) (h':Ky l es' n'):es=es'/\n=n':=by
 induction h generalizing es' n' with
 |stop h=>cases h' with
  |stop=>exact⟨rfl,rfl⟩
  |go h1 _=>rw[h]at h1;cases h1
 |go h hd ih=>cases h' with
  |stop h1=>rw[h]at h1;cases h1
  |go h1 hd1=>
   rw[h]at h1
   injection h1 with h1;injection h1 with h1 h2
   subst h1;subst h2
   obtain⟨a,b⟩:=ih hd1
   exact⟨by rw[a],by rw[b]⟩
theorem Mf (e:cv):bH [e]=mj e:=by simp[bH]
theorem JV {es:List cv} {k:Nat} (h:k<es.length):bH (es.take (k+1))=bH (es.take k)++mj es[k]:=by
 unfold bH
 rw[Dq h,m4,List.flatMap_singleton]
theorem fR (es:List cv) (k:Nat):(bH (es.take k)).length<=(bH es).length:=by
 have:bH es=bH (es.take k)++bH (es.drop k):=by
  unfold bH;rw[<-m4,gQ]
 rw[this,ax];omega
def e0:cv:=⟨0,1,0,0,2,true,⟨#[]⟩⟩
section
open Go.ChangeShapes Go.WideShapes Go.ChangeAt Go.RowKit Go.Eng
/-- the row's end, out of a function's contract -/
theorem Jh {f:FuncId} {vs:List Value} {w:World} (h:dt aa f vs w fun v w2=>v=.bool true/\Below w.heap.size w w2):Calls aa f vs.toArray w fun e w'=>e=.returned (.bool true)/\Below w.heap.size w w':=
 Calls.mono h fun _ _ ⟨_,he,hv,hb⟩=>⟨by rw[he,hv],hb⟩
end


/-- picked -/
def pk (n:Int) (m:Nat):Nat:=(if n<0 then(-(n+1)).toNat else n.toNat)%m
theorem tv (n:Int) {m:Nat} (h:0<m):pk n m<m:=jH _ h
theorem r8 (n:Int) (m:Nat) (w:World) (h1: -9223372036854775808<=n) (h2:n<=9223372036854775807) (hm:0<m) (hm2:m<=1000000000000):
  dt aa tN [J n,J (m:Nat)] w fun v w2=>v=J (pk n m:Nat)/\Below w.heap.size w w2:=by
 refine aG s6 Z Z ?_
 have H:=Hp.start w
 refine W ?_
 refine Zr ?_
 refine pn Z Z ?_
 refine U<|W ?_
 obtain⟨a,ha⟩: ∃ a:Nat,(if n<0 then(-(n+1)).toNat else n.toNat)=a:=⟨_,rfl⟩
 refine fp (τ:=Unit) [5,6,7,8,9,0] (fun _=>[(0,J (a:Nat))]) (fun _ w'=>Hp w w' [] []) ?_ ?_
 ·refine bD ?_
  refine Zr ?_
  refine iF Z Z ?_
  refine He Z Z Z (fun h6=> ?_) (fun h6=> ?_)
  all_goals refine bL ?_
  ·refine gL Z ?_
   refine Zr ?_
   refine iF Z Z ?_
   refine G (PA Z Z I I)<|G (O8 Z I I) ?_
   refine pn Z Z ?_
   refine U ?_
   have e: -(n+1)=(a:Nat):=by rw[if_pos h6]at ha;omega
   rw[e]
   refine⟨(),H,dO Z,by repeat (first|exact y9.refl _ _|exact iE|refine ie Z ?_|refine fV _ Z ?_)⟩
  ·refine eS Z ?_
   refine Zk ?_
   have e:n=(a:Nat):=by rw[if_neg h6]at ha;omega
   subst e
   refine⟨(),H,dO Z,by repeat (first|exact y9.refl _ _|exact iE|refine ie Z ?_|refine fV _ Z ?_)⟩
 rintro _ ρ1 w1 H
 show CW _ _ _ _ (dH (gT _ _ ρ1) [(0,J (a:Nat))]) w1
 refine W ?_
 refine Zr ?_
 refine iF Z Z ?_
 refine iF Z Z ?_
 refine rem Z Z I I Z ?_
 refine pn Z Z ?_
 refine U<|Zt ?_
 have e:((a:Int)%(m:Int))=(pk n m:Nat):=by unfold pk;rw[ha];rfl
 rw[e]
 exact cn (v:=J (pk n m:Nat)) Z Z ⟨rfl,H.below⟩
structure PK where
 kind:Int
 a:Int
 b:Int
 c:Int
def PK.cs (r:PK):List Value:=[J r.kind,J r.a,J r.b,J r.c]
def i64 (n:Int):Prop:= -9223372036854775808<=n/\n<=9223372036854775807
def PK.ok (r:PK):Prop:=i64 r.kind/\i64 r.a/\i64 r.b/\i64 r.c
def yH (n:Nat):List UInt8:=if h:n=0 then []else UInt8.ofNat (97+n%10)::yH (n/10)
termination_by n
decreasing_by omega
theorem I0 {n:Nat} (h:0<n):yH n=UInt8.ofNat (97+n%10)::yH (n/10):=by rw[yH,dif_neg I]
theorem zN:yH 0=[]:=by rw[yH];simp
theorem CC: ∀ (k n:Nat),n<10 ^ k->(yH n).length<=k
 |0,n,h=>by
  have:n=0:=by simpa using h
  subst this;rw[zN];simp
 |k+1,n,h=>by
  by_cases hn:n=0
  subst hn;rw[zN];simp
  rw[I0 I]
  have:=CC k (n/10) (by rw[Nat.pow_succ]at h;omega)
  simp;omega
def CB (n:Int):ByteArray:=⟨(yH (pk n 10000)).toArray⟩
theorem IZ (n:Int):(CB n).size<=4:=by
 have:=CC 4 (pk n 10000) (tv n (by decide))
 simpa [CB,ByteArray.size]using this
def PK.entry (r:PK):cv:=
 let p:=pk r.b 4
 if p=0 then⟨pk r.a 4,0,0,0,1,false,CB r.c⟩
 else if pk r.kind 6=0∨pk r.kind 6=1 then⟨pk r.a 4,p,pk r.a 3,0,2+pk r.c 2,true,⟨#[]⟩⟩
 else⟨pk r.a 4,p,pk r.a 3,pk r.c 5,1,decide (((pk r.c 2:Nat):Int)=0),CB r.c⟩
section
open Go.ChangeShapes Go.WideShapes Go.ChangeAt Go.RowKit Go.Eng
theorem GA {n:Int} (h:(Lit.int .i64 n).wf=true):i64 n:=by
 have: -9223372036854775808<=n/\n<=9223372036854775807:=by simpa [Lit.wf,IntKind.min,IntKind.max,IntKind.signed,IntKind.bits]using h
 exact this
section
variable {H:Type} {enc:TypeId×Value->H} {w:World} {base:Nat} {sp:Nat->Bool} {held:Bool}
theorem FA:aa.cellsOf da=1:=by kernel_rfl
theorem M6:aa.underlying da=some (.int .i64):=by kernel_rfl
theorem JL {n:Nat} {cs:List Value} {x:DataW H×List MemPlace} (h:DataW.trod enc aa w base sp held n da cs=some x): ∃ r:Int,cs=bN.f r/\i64 r:=by
 obtain⟨m,rfl,_,wm⟩:=DataW.trod_int M6 h
 exact⟨m,rfl,GA wm⟩
theorem KZ {α:Type} {Y:fq α} {T e:TypeId} (hT:aa.underlying T=some (.slice e)) (hce:aa.cellsOf e=Y.sz) (ok:α->Prop) (hel: ∀ n cs x,DataW.trod enc aa w base sp held n e cs=some x-> ∃ r:α,cs=Y.f r/\ok r)
  {A:Option Addr} {l c:Nat} {d:DataW H} {ps:List MemPlace} (h:DataW.Trod enc aa w base sp held T (.slice A l c) d ps):
  ∃ rs:List α,rs.length=l/\l<=c/\c<=maxLen/\Rd Y 0 w.heap.size A rs w/\ ∀ r∈rs,ok r:=by
 obtain⟨fuel,hf⟩:=h
 rcases Go.Deep.open_slice hT hf with⟨hcs,_⟩|⟨a,len,cap,m,n,D,Pl,hcs,_,hl,hm,hmm,_,hx⟩
 simp[Value.cells]at hcs
 obtain⟨rfl,rfl,rfl⟩:=hcs
 exact⟨[],rfl,ao _,bx _,Rd.nil,by simp⟩
 simp[Value.cells]at hcs
 obtain⟨rfl,rfl,rfl⟩:=hcs
 have hlm:l<=m:=by rw[hmm];split<;>omega
 have each: ∀ i,i<l-> ∃ r:α,ok r/\ ∀ j u,(Y.f r)[j]? =some u->w.cell? ((a.add (i*Y.sz)).add j)=some u:=by
  intro i hi
  obtain⟨cs',h1,h2⟩:=hx i (by omega)
  obtain⟨r,hr,hok⟩:=hel _ _ _ h2
  rw[hce]at h1
  obtain⟨_,hlen,hcell⟩:=World.cells?_some h1
  refine⟨r,hok,fun j u hj=> ?_⟩
  have hjl:j<Y.sz:=by
   have:=(aA.1 hj).1
   rwa[Y.len]at this
  rw[hcell j hjl,hr,hj]
 have build: ∀ k,k<=l-> ∃ rs:List α,rs.length=k/\(∀ r∈rs,ok r)/\ ∀ i r,rs[i]? =some r-> ∀ j u,(Y.f r)[j]? =some u->w.cell? ((a.add (i*Y.sz)).add j)=some u:=by
  intro k
  induction k with
  |zero=>intro _;exact⟨[],rfl,by simp,by simp⟩
  |succ k ih=>
   intro hk
   obtain⟨rs,h1,h2,h3⟩:=ih (by omega)
   obtain⟨r,hok,hr⟩:=each k (by omega)
   refine⟨rs++[r],by simp[h1],?_,?_⟩
   intro q hq
   rcases aq.1 hq with hq|hq
   exact h2 q hq
   rw[ar.1 hq];exact hok
   intro i q hq
   by_cases hi:i<rs.length
   rw[cd hi]at hq;exact h3 i q hq
   rw[cj (by omega)]at hq
   have:i=k:=by
    have:=(aA.1 hq).1
    simp at this;omega
   subst this
   rw[<-h1]at hq hr⊢
   simp at hq
   rw[<-hq];exact hr
 obtain⟨rs,h1,h2,h3⟩:=build l (ao _)
 refine⟨rs,h1,hl,hm,fun h0=> ?_,h2⟩
 obtain⟨r0,hr0e⟩: ∃ r,rs[0]? =some r:=⟨_,ai h0⟩
 have hpos:0<(Y.f r0).length:=by rw[Y.len];exact Y.pos
 obtain⟨u0,hu0⟩: ∃ u,(Y.f r0)[0]? =some u:=⟨_,ai hpos⟩
 have hc0:=h3 0 r0 hr0e 0 u0 hu0
 have hz:(a.add (0*Y.sz)).add 0=a:=by simp[Addr.add]
 rw[hz]at hc0
 have hs:=World.cell?_spot hc0
 obtain⟨b,o,s⟩:=a
 simp only at hs
 subst hs
 refine⟨b,o,rfl,bx _,?_,fun j u hj=> ?_⟩
 unfold World.cell? at hc0
 split at hc0
 rename_i hb;exact bU hb
 cases hc0
 have hjl:j<rs.length*Y.sz:=by
  have:=(aA.1 hj).1
  rwa[fq.length]at this
 have hq:j/Y.sz<rs.length:=by rw[Nat.div_lt_iff_lt_mul Y.pos];exact hjl
 have hm2:j%Y.sz<Y.sz:=jH _ Y.pos
 have hdm:j/Y.sz*Y.sz+j%Y.sz=j:=Nat.div_add_mod' j Y.sz
 have hg:=fq.get (Y:=Y) hq hm2
 rw[hdm,hj]at hg
 have:=h3 (j/Y.sz) _ (ai hq) (j%Y.sz) u hg.symm
 rw[Addr.add_lit,Addr.add_lit,jI,hdm]at this
 exact this
end
end
section
open Go.ChangeShapes Go.WideShapes Go.ChangeAt Go.RowKit
theorem KD (r:List Char):wordsSigns (' '::r)=[]::wordsSigns r:=by rw[wordsSigns]
theorem KE (c:Char) (hc:c≠' ') (l w:List Char) (ws:List (List Char)) (h:wordsSigns l=w::ws):wordsSigns (c::l)=(c::w)::ws:=by
 rw[wordsSigns,h]
 exact hc
theorem sI: ∀ (a r:List Char),(∀ c∈a,c≠' ')->wordsSigns (a++' '::r)=a::wordsSigns r
 |[],r,_=>KD r
 |c::a,r,h=>KE c (h c (az ..)) _ _ _ (sI a r fun x hx=>h x (aj _ hx))
def xc:List Char:=['a','t',' ','t','a','i','l','r','a','c','e','/','t','a','i','l','r','a','c','e','t','o','p','.','T','o','p','A','t','o','m','i','c',' ','t','a','i','l','r','a','c','e','/','t','a','i','l','r','a','c','e','t','o','p','.','T','o','p','O','r','d','e','r',' ','t','a','i','l','r','a','c','e','/','t','a','i','l','r','a','c','e','t','o','p','.','T','o','p','P','o','l','l','e','d']
def IB:List Char:=['0','0','7','a','4','d','8','a','1','6','9','9','7','6','b','0','b','a','2','a','a','f','4','c','5','7','c','e','c','0','e','1','c','4','9','7','3','f','a','9','2','c','6','6','3','3','2','3','e','f','8','e','1','4','4','7','1','5','b','d','7','2','c','6']
theorem N0:Tryz.checked.prog.initOrder=String.ofList (['h','a','r','n','e','s','s']++' '::(IB++' '::(['c','u','t']++' '::xc))):=by kernel_rfl
theorem sZ:behindMainWord (wordsSigns Tryz.checked.prog.initOrder.toList)=['c','u','t']::wordsSigns xc:=by
 rw[N0,String.toList_ofList,sI _ _ (by decide),sI _ _ (by decide+kernel),sI _ _ (by decide)]
 have hs:isSumSigns IB=true:=by decide+kernel
 simp[behindMainWord,hs]
theorem Qt: "gc".toList=['g','c']:=by simp
theorem OO: "spec".toList=['s','p','e','c']:=by simp
theorem On: "cut".toList=['c','u','t']:=by simp
theorem NO {P:Program} {c:List Char} {r:List (List Char)} (h:behindMainWord (wordsSigns P.initOrder.toList)=c::r) (hg:(c== "gc".toList||c== "spec".toList)=false) (hc:(c== "cut".toList||(c== "finals".toList&&r.head? ==some "cut".toList))=true):P.make=some .cut:=by
 unfold Program.make
 rw[h]
 simp only[hg,hc]
 rfl
theorem Pu:(['c','u','t']== "gc".toList||['c','u','t']== "spec".toList)=false:=by rw[Qt,OO];decide
theorem P7 (r:List (List Char)):(['c','u','t']== "cut".toList||(['c','u','t']== "finals".toList&&r.head? ==some "cut".toList))=true:=by rw[On];rfl
theorem CM (ws:List (List Char)):stripLifts liftWords (['c','u','t']::ws)=([],['c','u','t']::ws):=by
 simp[stripLifts,liftWords]
theorem Ms {P:Program} {c:List Char} {r:List (List Char)} (h:behindMainWord (wordsSigns P.initOrder.toList)=c::r) (hs:stripLifts liftWords (c::r)=([],c::r)) (hc:(c== "cut".toList)=true) (hl:P.laysLater=false) (hb:P.bearsReflect=false) (hd:P.doorFits []=true):P.mayEnter=true:=by
 have e:((c::r).head? ==some "cut".toList)=true:=by
  rw[eq_of_beq hc];simp
 unfold Program.mayEnter
 rw[h]
 simp only[hs,hl,hb,hd,e]
 simp
theorem Oa:(['c','u','t']== "cut".toList)=true:=by rw[On];rfl
theorem Hr:Tryz.checked.prog.headLifts=[]:=by
 unfold Program.headLifts
 rw[sZ]
 generalize wordsSigns xc=ws
 simp[CM]
theorem Fu:Tryz.checked.prog.liftsFinal=false:=by
 unfold Program.liftsFinal
 rw[sZ,Hr]
 generalize wordsSigns xc=ws
 simp
theorem LR:Tryz.checked.prog.make=some .cut:=NO sZ Pu (P7 _)
theorem Hh:Tryz.checked.prog.laysLater=false:=by kernel_rfl
theorem Cu:Tryz.checked.prog.bearsReflect=false:=by kernel_rfl
theorem J2:Tryz.checked.prog.doorFits []=true:=by kernel_rfl
theorem JB:Tryz.checked.prog.mayEnter=true:=Ms sZ (CM _) Oa Hh Cu J2
theorem G1:ownKnob aa.godebug=none:=by kernel_rfl
theorem zC:laidOutB Tryz.checked.prog=true:=by kernel_rfl
theorem Ha:mapsRowed Tryz.checked.prog=true:=by kernel_rfl
theorem LI:(Tryz.checked.prog.stops==[])=true:=by kernel_rfl
theorem LJ:(Tryz.checked.prog.stopKnobs==[])=true:=by kernel_rfl
theorem GV:Tryz.checked.prog.plainKeys=true:=by kernel_rfl
theorem EY:Tryz.checked.prog.stopsHeard=true:=by kernel_rfl
end
theorem IJ {e:cv} (h:nW e):(mj e).length<=64:=by
 have:=(yz h).1
 rw[F4];omega
theorem Et: ∀ (es:List cv),(∀ e∈es,nW e)->(bH es).length<=64*es.length
 |[],_=>by simp[bH]
 |e::es,h=>by
  have h1:=IJ (h e (az ..))
  have h2:=Et es fun x hx=>h x (aj _ hx)
  have:bH (e::es)=mj e++bH es:=by simp[bH]
  rw[this];simp;omega
theorem uo (es:List cv) (h: ∀ e∈es,nW e):Ky (bH es) es (bH es).length:=by
 have:=IK es [] h Z
 rwa[aW]at this
theorem cu {α:Type} {l:List α} {k:Nat} {e:α} (h:l[k]? =some e): ∃ hk:k<l.length,l[k]=e:=aA.1 h
theorem uj {es:List cv} {k:Nat} {e:cv} (h:es[k]? =some e):bH (es.take (k+1))=bH (es.take k)++mj e:=by
 obtain⟨hk,rfl⟩:=cu h
 exact JV hk
structure Prod where
 ver:Int
 seq:Int
 open_:Int
 mark:Int
def Prod.c (p:Prod):List Value:=[J p.ver,J p.seq,J p.open_,J p.mark]
def p0:Prod:=⟨0,-1,-1,-1⟩
abbrev IU:TypeId:=81
theorem sf:Fr aa IU da Gp=true:=by kernel_rfl
def pv (e:cv) (p:Prod):Prod:=if e.ver≠p.ver then⟨e.ver,-1,p.open_,p.mark⟩else p
def fj (i:Nat) (e:cv) (p:Prod):Prod:=
 if e.kind≠1 then⟨(pv e p).ver,(pv e p).seq,-1,i⟩
 else if e.txn=true/\(pv e p).open_<0 then⟨(pv e p).ver,e.seq,i,(pv e p).mark⟩
 else⟨(pv e p).ver,e.seq,(pv e p).open_,(pv e p).mark⟩
def fO (es:List cv) (pid:Int):Option Prod:=
 es.zipIdx.foldl (fun a q=>if q.1.pid≠0/\q.1.pid=pid then some (fj q.2 q.1 (a.getD p0))else a) none
theorem Jm (pid:Int):fO [] pid=none:=rfl
theorem qd (es:List cv) (e:cv) (pid:Int):fO (es++[e]) pid=if e.pid≠0/\e.pid=pid then some (fj es.length e ((fO es pid).getD p0))else fO es pid:=by
 unfold fO
 rw[List.zipIdx_append,List.foldl_append]
 simp
theorem dY {α:Type} {l:List α} {k:Nat} {e:α} (h:l[k]? =some e):l.take (k+1)=l.take k++[e]:=by
 obtain⟨hk,rfl⟩:=cu h
 exact Dq hk
theorem z9 {es:List cv} {k:Nat} {e:cv} (h:es[k]? =some e) (pid:Int):fO (es.take (k+1)) pid=if e.pid≠0/\e.pid=pid then some (fj k e ((fO (es.take k) pid).getD p0))else fO (es.take k) pid:=by
 obtain⟨hk,-⟩:=cu h
 rw[dY h,qd,aF,bB I]
abbrev PB:=Int×Nat×Prod
abbrev BS (b:Nat):Value:=.pointer (Qd b)
def rm (S:List PB):List (Int×Value):=S.map fun q=>(q.1,BS q.2.1)
def xT (q:PB):Nat×Obj:=(q.2.1,.cells q.2.2.c.toArray lQ (0,0))
def jy (bm:Nat) (S:List PB):List (Nat×Obj):=(bm,ub (rm S))::S.map xT
def vc (S:List PB) (pid:Int):Option Prod:=(S.find? (fun q=>decide (q.1=pid))).map (·.2.2)
theorem uO (S:List PB):(rm S).map (·.1)=S.map (·.1):=by simp[rm]
theorem Fa {S:List PB} {j:Nat} {pid:Int} {b:Nat} {p:Prod} (h:S[j]? =some (pid,b,p)):(rm S)[j]? =some (pid,BS b):=by simp[rm,h]
theorem gy {S:List PB} {j:Nat} {pid:Int} {b:Nat} {p p':Prod} (h:S[j]? =some (pid,b,p)):rm (S.set j (pid,b,p'))=rm S:=by
 unfold rm
 apply ei
 intro i
 rw[aH,aH,lx]
 split
 rename_i hij;subst hij
 obtain⟨hlt,hg⟩:=cu h
 simp[hlt,hg]
 rfl
theorem LY {S:List PB} {j:Nat} {pid:Int} {b:Nat} {p p':Prod} (h:S[j]? =some (pid,b,p)):(S.set j (pid,b,p')).map (·.1)=S.map (·.1):=by
 rw[<-uO,gy h,uO]
theorem Fg {S:List PB} {j:Nat} {q:PB} (h:S[j]? =some q):(xT q::(S.eraseIdx j).map xT).Perm (S.map xT):=by
 obtain⟨hlt,rfl⟩:=cu h
 have:=Go.ChangeMaps.set_perm S j hlt S[j]
 rw[List.set_getElem_self]at this
 exact(this.map xT).symm
theorem jk {S:List PB} {j:Nat} {q q':PB} (h:S[j]? =some q):((S.set j q').map xT).Perm (xT q'::(S.eraseIdx j).map xT):=by
 obtain⟨hlt,-⟩:=cu h
 exact(Go.ChangeMaps.set_perm S j hlt q').map xT
theorem C3 {S:List PB} {pid:Int} (h: ∀ q∈S,q.1≠pid):vc S pid=none:=by
 unfold vc
 rw[BM.2 (fun q hq=>by simpa using h q hq)];rfl
theorem uT {S:List PB} (hn:(S.map (·.1)).Nodup) {j:Nat} {pid:Int} {b:Nat} {p:Prod} (h:S[j]? =some (pid,b,p)):vc S pid=some p:=by
 unfold vc
 induction S generalizing j with
 |nil=>simp at h
 |cons q r ih=>
  simp only[eN,jq]at hn
  cases j with
  |zero=>simp at h;subst h;simp
  |succ j=>
   simp only[oU]at h
   have hne: ¬ q.1=pid:=fun e=>hn.1 (bS.2 ⟨_,ab h,e.symm⟩)
   rw[pH (by simpa using hne)]
   exact ih hn.2 h
theorem Ay (S:List PB) (pid:Int):(∀ q∈S,q.1≠pid)∨ ∃ (j b:Nat) (p:Prod),S[j]? =some (pid,b,p):=by
 by_cases h: ∃ q∈S,q.1=pid
 obtain⟨⟨a,b,p⟩,hq,rfl⟩:=h
 obtain⟨j,hj⟩:=aM.1 hq
 exact .inr ⟨j,b,p,hj⟩
 exact .inl fun q hq e=>h ⟨q,hq,e⟩
theorem LU (S:List PB) (q:PB) {pid:Int} (h:q.1≠pid):vc (S++[q]) pid=vc S pid:=by
 unfold vc
 rw[List.find?_append,pH (by simpa using h)]
 simp
theorem LT {S:List PB} {j:Nat} {k:Int} {b:Nat} {p p':Prod} (h:S[j]? =some (k,b,p)) {pid:Int} (hp:k≠pid):vc (S.set j (k,b,p')) pid=vc S pid:=by
 unfold vc
 induction S generalizing j with
 |nil=>simp at h
 |cons q r ih=>
  cases j with
  |zero=>
   simp at h;subst h
   simp only[BL]
   rw[pH (by simpa using hp),pH (by simpa using hp)]
  |succ j=>
   simp only[oU]at h
   simp only[List.set_cons_succ,List.find?_cons]
   split
   rfl
   exact ih h
def PS (S:List PB) (es:List cv):Prop:=(S.map (·.1)).Nodup/\ ∀ pid,vc S pid=fO es pid
theorem Ns {S:List PB} {es:List cv} {k:Nat} {e:cv} (h:es[k]? =some e) (h0:e.pid=0) (hs:PS S (es.take k)):PS S (es.take (k+1)):=
 ⟨hs.1,fun pid=>by rw[z9 h,if_neg (fun x=>x.1 h0)];exact hs.2 pid⟩
theorem la {S:List PB} {es:List cv} {k j:Nat} {e:cv} {b:Nat} {p:Prod} (h:es[k]? =some e) (h0:e.pid≠0) (hn:(S.map (·.1)).Nodup) (hj:S[j]? =some (e.pid,b,p)) (hp:p=(fO (es.take k) e.pid).getD p0) (ho: ∀ pid,pid≠e.pid->vc S pid=fO (es.take k) pid) {p':Prod} (hp':p'=fj k e p):
  PS (S.set j (e.pid,b,p')) (es.take (k+1)):=by
 have hn':((S.set j (e.pid,b,p')).map (·.1)).Nodup:=by rw[LY hj];exact hn
 refine⟨hn',fun pid=> ?_⟩
 rw[z9 h]
 by_cases hpid:e.pid=pid
 subst hpid
 obtain⟨hlt,-⟩:=cu hj
 rw[if_pos ⟨h0,rfl⟩,uT hn' (am hlt),hp',<-hp]
 rw[if_neg (fun x=>hpid x.2),LT hj hpid]
 exact ho pid (Ne.symm hpid)
theorem CU (es:List cv) (A:Option Addr) (c:Nat) (w:World) (hr:Rd gV 0 w.heap.size A es w) (hb:es.length<=1000000):
  dt aa BY [.slice A es.length c] w fun v w2=> ∃ S bm,v=.map (some bm)/\PS S es/\Hp w w2 (jy bm S) []:=by
 refine aG AU Z Z ?_
 have H:=Hp.startRd hr
 refine W<|Zr<|G (ML Z)<|U<|W<|Zr<|QY H Z fun w1 bm H=>G (ML Z)<|U<|W<|W<|Zr<|G (Ys Z)<|G (bj eG Z)<|G (Yi Z)<|U<|Zb ?_
 refine bW (τ:=Nat×List PB) [4,5,6,10,11,12,13,14,15,16,17,18,19,20,21,22,23,24,25,26,27,28,29,30,31,32,33,34,35,36,37,38,39,40,41,42,43,44,45,46,47,48,49,50,51,52,53,54,55,56,57,58,59,60,61,62,63,64,65,66,67,68,69,70,71,72,73,74] (fun(k,S)=>[(10,J (k:Nat))]) (fun(k,S) w'=>k<=es.length/\PS S (es.take k)/\Hp w w' (jy bm S) [d4 gV 0 w.heap.size A es]) (fun(k,_)=>es.length-k) (0,[]) ⟨by omega,⟨List.nodup_nil,fun pid=>rfl⟩,H⟩ (dO Z) ?_
 rintro⟨k,S⟩ ρ1 w2 ⟨hk,hS,H⟩
 show CW _ _ _ _ (dH (gT _ _ ρ1) [(10,J (k:Nat))]) w2
 refine W<|Zr ?_
 refine dq (cL Z Z) Z Z Z (fun h11=> ?_) (fun h11=> ?_)
 ·
  refine U<|W<|ZT Z<|Zk<|W<|Zb<|W<|Zr<|G (Yi Z)<|px H 0 Z dV Z Z I I Z fun b3 o3 x3 e3=>G (jL (xs:=cv.c x3) dI Z Z e3.cl)<|fg H gp Z fun w4 b5 H=>G (Wi Z)<|KT H 0 eV Z Z Z Z Z Z fun w5 H=>U<|W<|W<|Zr<|G (Zf fo Z)<|G (Zd al H 0 Z Z Z) ?_
  refine dq (br Z Z) Z Z Z (fun h17=> ?_) (fun h17=> ?_)
  ·
   refine U<|ZT Z<|Zx<|Zr<|G (bn Z Z I I)<|G (Yi Z)<|U ?_
   refine⟨(k+1,S),⟨by have:=(cu e3.at_).1;omega,Ns e3.at_ h17 hS,H.forget (aR _ _) (fun _ h=>h)⟩,dO Z,Qg,by show es.length- (k+1)<es.length-k;omega⟩
  ·
   refine U<|ZF Z<|Zk<|W<|Zr<|G (LP Z)<|G (Zf fo Z)<|G (Zd al H 0 Z Z Z) ?_
   rcases Ay S x3.pid with hno|⟨j,b,p,hj⟩
   ·
    refine G (OB sf qQ Z Z (H.ent (i:=1) Z) (by intro q hq;obtain⟨a,ha,rfl⟩:=bS.1 hq;exact hno a ha))<|G (Wp Z)<|U<|W ?_
    refine fp (τ:=List PB×Nat×Nat×Prod) [6,22,23,24,25,26,27,28,29] (fun(S1,j,b,p)=>[(6,BS b)]) (fun(S1,j,b,p) w'=>(S1.map (·.1)).Nodup/\S1[j]? =some (x3.pid,b,p)/\p=(fO (es.take k) x3.pid).getD p0/\(∀ pid,pid≠x3.pid->vc S1 pid=fO (es.take k) pid)/\Hp w w' ((b,.cells p.c.toArray lQ (0,0))::(b5,.cells (cv.c x3).toArray dz (0,0))::(bm,ub (rm S1))::(S1.eraseIdx j).map xT) [d4 gV 0 w.heap.size A es]) ?_ ?_
    ·skip
     refine W<|Zr<|G (Yp Z)<|G (xS nX Z)<|U<|ZT Z<|W<|Zr<|G (bE (cs:=(Prod.c p0).toArray) yI zK N)<|gM H Z Z fun w6 b25 H=>G (Wp Z)<|U<|Zr<|G (LP Z)<|G (Zf fo Z)<|G (Zd al H 1 Z Z Z)<|G (Yp Z)<|QW H 2 sf Z Z Z Z (by intro q hq;obtain⟨a,ha,rfl⟩:=bS.1 hq;exact hno a ha) fun w7 H=>U ?_
     have hj:(S++[(x3.pid,b25,p0)])[S.length]? =some (x3.pid,b25,p0):=by simp
     have hkn:vc S x3.pid=none:=C3 hno
     rw[hS.2]at hkn
     refine⟨(S++[(x3.pid,b25,p0)],S.length,b25,p0),⟨?_,hj,by rw[hkn];rfl,fun pid hpid=>by rw[LU _ _ (Ne.symm hpid)];exact hS.2 pid,?_⟩,dO Z,Qg⟩
     ·rw[bh];exact pD.2 ⟨hS.1,by simp,by intro a ha c hc;simp at hc;subst hc;obtain⟨q,hq,rfl⟩:=bS.1 ha;exact hno q hq⟩
     ·have hmm:rm (S++[(x3.pid,b25,p0)])=rm S++[(x3.pid,BS b25)]:=by simp[rm]
      have hee:(S++[(x3.pid,b25,p0)]).eraseIdx S.length=S:=by rw[List.eraseIdx_append_of_length_le (ao _)];simp
      rw[hmm,hee];exact H
    rintro⟨S1,j,b,p⟩ ρ2 w8 ⟨hn,hj,hp,ho,H⟩
    show CW _ _ _ _ (dH (gT _ _ ρ2) [(6,BS b)]) w8
    refine W<|W ?_
    refine bP cD [0,1,2,3,4,5,6] [] [] [0,2,3,4,6] (sp []) N N N N Nq (cO _) ?_
    refine aw Z Z Z Z Z (fun w' hw'=>Zf eI Z)<|aw Z Z Z Z Z (fun w' hw'=>bf al Z (aJ ((H.later hw').ent (i:=1) Z) Z))<|aw Z Z Z Z Z (fun w' hw'=>Yp Z)<|aw Z Z Z Z Z (fun w' hw'=>aI Z)<|aw Z Z Z Z Z (fun w' hw'=>Zf jR Z)<|aw Z Z Z Z Z (fun w' hw'=>bf al Z (aJ ((H.later hw').ent (i:=0) Z) Z)) ?_
    refine Py Z Z Z Z Z (fun w' hw'=>je Z Z) (fun h36=> ?_) (fun h36=> ?_)
    ·
     refine aU ?_
     intro w9 hw' hF
     replace H:=H.later hw';clear hw' hF
     refine U<|ZT Z<|Zr<|G (Yp Z)<|G (Yp Z)<|G (Zf eI Z)<|G (Zd al H 1 Z Z Z)<|G (aI Z)<|G (Zf jR Z)<|bC H 0 ((Prod.c ⟨x3.ver,p.seq,p.open_,p.mark⟩).toArray) bV Z Z Z Z Z N N fun w10 H=>G (aI Z)<|G (Zf fv Z)<|bC H 0 ((Prod.c ⟨x3.ver,-1,p.open_,p.mark⟩).toArray) bV Z Z Z Z Z N N fun w11 H=>U<|Zb<|W<|Zr<|G (Zf fc Z)<|G (Zd al H 1 Z Z Z) ?_
     refine rq (je Z Z) Z Z Z (fun h66=> ?_) (fun h66=> ?_)
     ·
      refine G (Wb Z)<|U<|ZT Z<|Zr<|G (Yp Z)<|G (Yp Z)<|G (Yi Z)<|G (aI Z)<|G (Zf d8 Z)<|bC H 0 ((Prod.c ⟨x3.ver,-1,-1,p.mark⟩).toArray) bV Z Z Z Z Z N N fun w12 H=>G (aI Z)<|G (Zf io Z)<|bC H 0 ((Prod.c ⟨x3.ver,-1,-1,k⟩).toArray) bV Z Z Z Z Z N N fun w13 H=>U<|Zr<|G (bn Z Z I I)<|G (Yi Z)<|U ?_
      have hst:(⟨x3.ver,-1,-1,k⟩:Prod)=fj k x3 p:=by
       simp[fj,pv,h36,h66]
      have hP:=jk (q':=(x3.pid,b,(⟨x3.ver,-1,-1,k⟩:Prod))) hj
      refine⟨(k+1,S1.set j (x3.pid,b,(⟨x3.ver,-1,-1,k⟩:Prod))),⟨by omega,la e3.at_ h17 hn hj hp ho hst,(H.perm (L':=(b5,_)::jy bm (S1.set j (x3.pid,b,_))) (by unfold jy;rw[gy hj];exact((hP.cons _).cons _).trans (((ak _ _ _).cons _).trans (ak _ _ _)))).forget (aR _ _) (fun _ h=>h)⟩,dO Z,Qg,by show es.length- (k+1)<es.length-k;omega⟩
     ·
      refine G (Wb Z)<|U<|ZF Z<|W<|Zr<|G (Yp Z)<|G (Zf fd Z)<|G (Zd al H 1 Z Z Z)<|G (aI Z)<|G (Zf fv Z)<|bC H 0 ((Prod.c ⟨x3.ver,x3.seq,p.open_,p.mark⟩).toArray) bV Z Z Z Z Z N N fun w14 H=>U<|W<|Zr<|G (Zf jb Z) ?_
      refine zB (bf eL Z (aJ (H.ent (i:=1) Z) Z)) Z Z Z (fun h51=> ?_) (fun h51=> ?_)
      ·
       refine G (Yb Z)<|ZG<|G (Yp Z)<|ZG<|G (aI Z)<|ZG<|G (Zf d8 Z)<|ZG<|G (Zd al H 0 Z Z Z)<|ZG ?_
       refine dq (cL Z Z) Z Z Z (fun h57=> ?_) (fun h57=> ?_)
       ·
        refine G (Kt Z Z)<|U<|ZT Z<|Zr<|G (Yp Z)<|G (Yi Z)<|G (aI Z)<|G (Zf d8 Z)<|bC H 0 ((Prod.c ⟨x3.ver,x3.seq,k,p.mark⟩).toArray) bV Z Z Z Z Z N N fun w15 H=>U<|Zr<|G (bn Z Z I I)<|G (Yi Z)<|U ?_
        replace h57:p.open_<0:=h57
        have hst:(⟨x3.ver,x3.seq,k,p.mark⟩:Prod)=fj k x3 p:=by
         simp[fj,pv,h36,h66,h51,h57]
        have hP:=jk (q':=(x3.pid,b,(⟨x3.ver,x3.seq,k,p.mark⟩:Prod))) hj
        refine⟨(k+1,S1.set j (x3.pid,b,(⟨x3.ver,x3.seq,k,p.mark⟩:Prod))),⟨by omega,la e3.at_ h17 hn hj hp ho hst,(H.perm (L':=(b5,_)::jy bm (S1.set j (x3.pid,b,_))) (by unfold jy;rw[gy hj];exact((hP.cons _).cons _).trans (((ak _ _ _).cons _).trans (ak _ _ _)))).forget (aR _ _) (fun _ h=>h)⟩,dO Z,Qg,by show es.length- (k+1)<es.length-k;omega⟩
       ·
        refine G (Kt Z Z)<|U<|ZF Z<|Zk<|Zr<|G (bn Z Z I I)<|G (Yi Z)<|U ?_
        replace h57: ¬ p.open_<0:=h57
        have hst:(⟨x3.ver,x3.seq,p.open_,p.mark⟩:Prod)=fj k x3 p:=by
         simp[fj,pv,h36,h66,h51,h57]
        have hP:=jk (q':=(x3.pid,b,(⟨x3.ver,x3.seq,p.open_,p.mark⟩:Prod))) hj
        refine⟨(k+1,S1.set j (x3.pid,b,(⟨x3.ver,x3.seq,p.open_,p.mark⟩:Prod))),⟨by omega,la e3.at_ h17 hn hj hp ho hst,(H.perm (L':=(b5,_)::jy bm (S1.set j (x3.pid,b,_))) (by unfold jy;rw[gy hj];exact((hP.cons _).cons _).trans (((ak _ _ _).cons _).trans (ak _ _ _)))).forget (aR _ _) (fun _ h=>h)⟩,dO Z,Qg,by show es.length- (k+1)<es.length-k;omega⟩
      ·
       refine G (Yb Z)<|ZN<|ZN<|ZN<|ZN<|ZN<|G (N Z Z)<|U<|ZF Z<|Zk<|Zr<|G (bn Z Z I I)<|G (Yi Z)<|U ?_
       have hst:(⟨x3.ver,x3.seq,p.open_,p.mark⟩:Prod)=fj k x3 p:=by
        simp[fj,pv,h36,h66,h51]
       have hP:=jk (q':=(x3.pid,b,(⟨x3.ver,x3.seq,p.open_,p.mark⟩:Prod))) hj
       refine⟨(k+1,S1.set j (x3.pid,b,(⟨x3.ver,x3.seq,p.open_,p.mark⟩:Prod))),⟨by omega,la e3.at_ h17 hn hj hp ho hst,(H.perm (L':=(b5,_)::jy bm (S1.set j (x3.pid,b,_))) (by unfold jy;rw[gy hj];exact((hP.cons _).cons _).trans (((ak _ _ _).cons _).trans (ak _ _ _)))).forget (aR _ _) (fun _ h=>h)⟩,dO Z,Qg,by show es.length- (k+1)<es.length-k;omega⟩
    ·
     refine aU ?_
     intro w16 hw' hF
     replace H:=H.later hw';clear hw' hF
     refine U<|ZF Z<|Zk<|Zb<|W<|Zr<|G (Zf fc Z)<|G (Zd al H 1 Z Z Z) ?_
     refine rq (je Z Z) Z Z Z (fun h66=> ?_) (fun h66=> ?_)
     ·
      refine G (Wb Z)<|U<|ZT Z<|Zr<|G (Yp Z)<|G (Yp Z)<|G (Yi Z)<|G (aI Z)<|G (Zf d8 Z)<|bC H 0 ((Prod.c ⟨p.ver,p.seq,-1,p.mark⟩).toArray) bV Z Z Z Z Z N N fun w17 H=>G (aI Z)<|G (Zf io Z)<|bC H 0 ((Prod.c ⟨p.ver,p.seq,-1,k⟩).toArray) bV Z Z Z Z Z N N fun w18 H=>U<|Zr<|G (bn Z Z I I)<|G (Yi Z)<|U ?_
      have hst:(⟨p.ver,p.seq,-1,k⟩:Prod)=fj k x3 p:=by
       simp[fj,pv,h36,h66]
      have hP:=jk (q':=(x3.pid,b,(⟨p.ver,p.seq,-1,k⟩:Prod))) hj
      refine⟨(k+1,S1.set j (x3.pid,b,(⟨p.ver,p.seq,-1,k⟩:Prod))),⟨by omega,la e3.at_ h17 hn hj hp ho hst,(H.perm (L':=(b5,_)::jy bm (S1.set j (x3.pid,b,_))) (by unfold jy;rw[gy hj];exact((hP.cons _).cons _).trans (((ak _ _ _).cons _).trans (ak _ _ _)))).forget (aR _ _) (fun _ h=>h)⟩,dO Z,Qg,by show es.length- (k+1)<es.length-k;omega⟩
     ·
      refine G (Wb Z)<|U<|ZF Z<|W<|Zr<|G (Yp Z)<|G (Zf fd Z)<|G (Zd al H 1 Z Z Z)<|G (aI Z)<|G (Zf fv Z)<|bC H 0 ((Prod.c ⟨p.ver,x3.seq,p.open_,p.mark⟩).toArray) bV Z Z Z Z Z N N fun w19 H=>U<|W<|Zr<|G (Zf jb Z) ?_
      refine zB (bf eL Z (aJ (H.ent (i:=1) Z) Z)) Z Z Z (fun h51=> ?_) (fun h51=> ?_)
      ·
       refine G (Yb Z)<|ZG<|G (Yp Z)<|ZG<|G (aI Z)<|ZG<|G (Zf d8 Z)<|ZG<|G (Zd al H 0 Z Z Z)<|ZG ?_
       refine dq (cL Z Z) Z Z Z (fun h57=> ?_) (fun h57=> ?_)
       ·
        refine G (Kt Z Z)<|U<|ZT Z<|Zr<|G (Yp Z)<|G (Yi Z)<|G (aI Z)<|G (Zf d8 Z)<|bC H 0 ((Prod.c ⟨p.ver,x3.seq,k,p.mark⟩).toArray) bV Z Z Z Z Z N N fun w20 H=>U<|Zr<|G (bn Z Z I I)<|G (Yi Z)<|U ?_
        replace h57:p.open_<0:=h57
        have hst:(⟨p.ver,x3.seq,k,p.mark⟩:Prod)=fj k x3 p:=by
         simp[fj,pv,h36,h66,h51,h57]
        have hP:=jk (q':=(x3.pid,b,(⟨p.ver,x3.seq,k,p.mark⟩:Prod))) hj
        refine⟨(k+1,S1.set j (x3.pid,b,(⟨p.ver,x3.seq,k,p.mark⟩:Prod))),⟨by omega,la e3.at_ h17 hn hj hp ho hst,(H.perm (L':=(b5,_)::jy bm (S1.set j (x3.pid,b,_))) (by unfold jy;rw[gy hj];exact((hP.cons _).cons _).trans (((ak _ _ _).cons _).trans (ak _ _ _)))).forget (aR _ _) (fun _ h=>h)⟩,dO Z,Qg,by show es.length- (k+1)<es.length-k;omega⟩
       ·
        refine G (Kt Z Z)<|U<|ZF Z<|Zk<|Zr<|G (bn Z Z I I)<|G (Yi Z)<|U ?_
        replace h57: ¬ p.open_<0:=h57
        have hst:(⟨p.ver,x3.seq,p.open_,p.mark⟩:Prod)=fj k x3 p:=by
         simp[fj,pv,h36,h66,h51,h57]
        have hP:=jk (q':=(x3.pid,b,(⟨p.ver,x3.seq,p.open_,p.mark⟩:Prod))) hj
        refine⟨(k+1,S1.set j (x3.pid,b,(⟨p.ver,x3.seq,p.open_,p.mark⟩:Prod))),⟨by omega,la e3.at_ h17 hn hj hp ho hst,(H.perm (L':=(b5,_)::jy bm (S1.set j (x3.pid,b,_))) (by unfold jy;rw[gy hj];exact((hP.cons _).cons _).trans (((ak _ _ _).cons _).trans (ak _ _ _)))).forget (aR _ _) (fun _ h=>h)⟩,dO Z,Qg,by show es.length- (k+1)<es.length-k;omega⟩
      ·
       refine G (Yb Z)<|ZN<|ZN<|ZN<|ZN<|ZN<|G (N Z Z)<|U<|ZF Z<|Zk<|Zr<|G (bn Z Z I I)<|G (Yi Z)<|U ?_
       have hst:(⟨p.ver,x3.seq,p.open_,p.mark⟩:Prod)=fj k x3 p:=by
        simp[fj,pv,h36,h66,h51]
       have hP:=jk (q':=(x3.pid,b,(⟨p.ver,x3.seq,p.open_,p.mark⟩:Prod))) hj
       refine⟨(k+1,S1.set j (x3.pid,b,(⟨p.ver,x3.seq,p.open_,p.mark⟩:Prod))),⟨by omega,la e3.at_ h17 hn hj hp ho hst,(H.perm (L':=(b5,_)::jy bm (S1.set j (x3.pid,b,_))) (by unfold jy;rw[gy hj];exact((hP.cons _).cons _).trans (((ak _ _ _).cons _).trans (ak _ _ _)))).forget (aR _ _) (fun _ h=>h)⟩,dO Z,Qg,by show es.length- (k+1)<es.length-k;omega⟩
   ·
    refine G (OA sf qQ Z Z (H.ent (i:=1) Z) (by rw[uO];exact hS.1) (Fa hj))<|G (Wp Z)<|U<|W ?_
    refine fp (τ:=List PB×Nat×Nat×Prod) [6,22,23,24,25,26,27,28,29] (fun(S1,j,b,p)=>[(6,BS b)]) (fun(S1,j,b,p) w'=>(S1.map (·.1)).Nodup/\S1[j]? =some (x3.pid,b,p)/\p=(fO (es.take k) x3.pid).getD p0/\(∀ pid,pid≠x3.pid->vc S1 pid=fO (es.take k) pid)/\Hp w w' ((b,.cells p.c.toArray lQ (0,0))::(b5,.cells (cv.c x3).toArray dz (0,0))::(bm,ub (rm S1))::(S1.eraseIdx j).map xT) [d4 gV 0 w.heap.size A es]) ?_ ?_
    ·skip
     refine W<|Zr<|G (Yp Z)<|G (vY nX Z)<|U<|ZF Z<|Zk ?_
     refine⟨(S,j,b,p),⟨hS.1,hj,by rw[<-hS.2,uT hS.1 hj];rfl,fun pid _=>hS.2 pid,H.perm ?_⟩,dO Z,Qg⟩
     have hP:=Fg hj
     exact((ak _ _ _).trans ((ak _ _ _).cons _)).trans ((hP.cons _).cons _)
    rintro⟨S1,j,b,p⟩ ρ2 w21 ⟨hn,hj,hp,ho,H⟩
    show CW _ _ _ _ (dH (gT _ _ ρ2) [(6,BS b)]) w21
    refine W<|W ?_
    refine bP cD [0,1,2,3,4,5,6] [] [] [0,2,3,4,6] (sp []) N N N N Nq (cO _) ?_
    refine aw Z Z Z Z Z (fun w' hw'=>Zf eI Z)<|aw Z Z Z Z Z (fun w' hw'=>bf al Z (aJ ((H.later hw').ent (i:=1) Z) Z))<|aw Z Z Z Z Z (fun w' hw'=>Yp Z)<|aw Z Z Z Z Z (fun w' hw'=>aI Z)<|aw Z Z Z Z Z (fun w' hw'=>Zf jR Z)<|aw Z Z Z Z Z (fun w' hw'=>bf al Z (aJ ((H.later hw').ent (i:=0) Z) Z)) ?_
    refine Py Z Z Z Z Z (fun w' hw'=>je Z Z) (fun h36=> ?_) (fun h36=> ?_)
    ·
     refine aU ?_
     intro w22 hw' hF
     replace H:=H.later hw';clear hw' hF
     refine U<|ZT Z<|Zr<|G (Yp Z)<|G (Yp Z)<|G (Zf eI Z)<|G (Zd al H 1 Z Z Z)<|G (aI Z)<|G (Zf jR Z)<|bC H 0 ((Prod.c ⟨x3.ver,p.seq,p.open_,p.mark⟩).toArray) bV Z Z Z Z Z N N fun w23 H=>G (aI Z)<|G (Zf fv Z)<|bC H 0 ((Prod.c ⟨x3.ver,-1,p.open_,p.mark⟩).toArray) bV Z Z Z Z Z N N fun w24 H=>U<|Zb<|W<|Zr<|G (Zf fc Z)<|G (Zd al H 1 Z Z Z) ?_
     refine rq (je Z Z) Z Z Z (fun h66=> ?_) (fun h66=> ?_)
     ·
      refine G (Wb Z)<|U<|ZT Z<|Zr<|G (Yp Z)<|G (Yp Z)<|G (Yi Z)<|G (aI Z)<|G (Zf d8 Z)<|bC H 0 ((Prod.c ⟨x3.ver,-1,-1,p.mark⟩).toArray) bV Z Z Z Z Z N N fun w25 H=>G (aI Z)<|G (Zf io Z)<|bC H 0 ((Prod.c ⟨x3.ver,-1,-1,k⟩).toArray) bV Z Z Z Z Z N N fun w26 H=>U<|Zr<|G (bn Z Z I I)<|G (Yi Z)<|U ?_
      have hst:(⟨x3.ver,-1,-1,k⟩:Prod)=fj k x3 p:=by
       simp[fj,pv,h36,h66]
      have hP:=jk (q':=(x3.pid,b,(⟨x3.ver,-1,-1,k⟩:Prod))) hj
      refine⟨(k+1,S1.set j (x3.pid,b,(⟨x3.ver,-1,-1,k⟩:Prod))),⟨by omega,la e3.at_ h17 hn hj hp ho hst,(H.perm (L':=(b5,_)::jy bm (S1.set j (x3.pid,b,_))) (by unfold jy;rw[gy hj];exact((hP.cons _).cons _).trans (((ak _ _ _).cons _).trans (ak _ _ _)))).forget (aR _ _) (fun _ h=>h)⟩,dO Z,Qg,by show es.length- (k+1)<es.length-k;omega⟩
     ·
      refine G (Wb Z)<|U<|ZF Z<|W<|Zr<|G (Yp Z)<|G (Zf fd Z)<|G (Zd al H 1 Z Z Z)<|G (aI Z)<|G (Zf fv Z)<|bC H 0 ((Prod.c ⟨x3.ver,x3.seq,p.open_,p.mark⟩).toArray) bV Z Z Z Z Z N N fun w27 H=>U<|W<|Zr<|G (Zf jb Z) ?_
      refine zB (bf eL Z (aJ (H.ent (i:=1) Z) Z)) Z Z Z (fun h51=> ?_) (fun h51=> ?_)
      ·
       refine G (Yb Z)<|ZG<|G (Yp Z)<|ZG<|G (aI Z)<|ZG<|G (Zf d8 Z)<|ZG<|G (Zd al H 0 Z Z Z)<|ZG ?_
       refine dq (cL Z Z) Z Z Z (fun h57=> ?_) (fun h57=> ?_)
       ·
        refine G (Kt Z Z)<|U<|ZT Z<|Zr<|G (Yp Z)<|G (Yi Z)<|G (aI Z)<|G (Zf d8 Z)<|bC H 0 ((Prod.c ⟨x3.ver,x3.seq,k,p.mark⟩).toArray) bV Z Z Z Z Z N N fun w28 H=>U<|Zr<|G (bn Z Z I I)<|G (Yi Z)<|U ?_
        replace h57:p.open_<0:=h57
        have hst:(⟨x3.ver,x3.seq,k,p.mark⟩:Prod)=fj k x3 p:=by
         simp[fj,pv,h36,h66,h51,h57]
        have hP:=jk (q':=(x3.pid,b,(⟨x3.ver,x3.seq,k,p.mark⟩:Prod))) hj
        refine⟨(k+1,S1.set j (x3.pid,b,(⟨x3.ver,x3.seq,k,p.mark⟩:Prod))),⟨by omega,la e3.at_ h17 hn hj hp ho hst,(H.perm (L':=(b5,_)::jy bm (S1.set j (x3.pid,b,_))) (by unfold jy;rw[gy hj];exact((hP.cons _).cons _).trans (((ak _ _ _).cons _).trans (ak _ _ _)))).forget (aR _ _) (fun _ h=>h)⟩,dO Z,Qg,by show es.length- (k+1)<es.length-k;omega⟩
       ·
        refine G (Kt Z Z)<|U<|ZF Z<|Zk<|Zr<|G (bn Z Z I I)<|G (Yi Z)<|U ?_
        replace h57: ¬ p.open_<0:=h57
        have hst:(⟨x3.ver,x3.seq,p.open_,p.mark⟩:Prod)=fj k x3 p:=by
         simp[fj,pv,h36,h66,h51,h57]
        have hP:=jk (q':=(x3.pid,b,(⟨x3.ver,x3.seq,p.open_,p.mark⟩:Prod))) hj
        refine⟨(k+1,S1.set j (x3.pid,b,(⟨x3.ver,x3.seq,p.open_,p.mark⟩:Prod))),⟨by omega,la e3.at_ h17 hn hj hp ho hst,(H.perm (L':=(b5,_)::jy bm (S1.set j (x3.pid,b,_))) (by unfold jy;rw[gy hj];exact((hP.cons _).cons _).trans (((ak _ _ _).cons _).trans (ak _ _ _)))).forget (aR _ _) (fun _ h=>h)⟩,dO Z,Qg,by show es.length- (k+1)<es.length-k;omega⟩
      ·
       refine G (Yb Z)<|ZN<|ZN<|ZN<|ZN<|ZN<|G (N Z Z)<|U<|ZF Z<|Zk<|Zr<|G (bn Z Z I I)<|G (Yi Z)<|U ?_
       have hst:(⟨x3.ver,x3.seq,p.open_,p.mark⟩:Prod)=fj k x3 p:=by
        simp[fj,pv,h36,h66,h51]
       have hP:=jk (q':=(x3.pid,b,(⟨x3.ver,x3.seq,p.open_,p.mark⟩:Prod))) hj
       refine⟨(k+1,S1.set j (x3.pid,b,(⟨x3.ver,x3.seq,p.open_,p.mark⟩:Prod))),⟨by omega,la e3.at_ h17 hn hj hp ho hst,(H.perm (L':=(b5,_)::jy bm (S1.set j (x3.pid,b,_))) (by unfold jy;rw[gy hj];exact((hP.cons _).cons _).trans (((ak _ _ _).cons _).trans (ak _ _ _)))).forget (aR _ _) (fun _ h=>h)⟩,dO Z,Qg,by show es.length- (k+1)<es.length-k;omega⟩
    ·
     refine aU ?_
     intro w29 hw' hF
     replace H:=H.later hw';clear hw' hF
     refine U<|ZF Z<|Zk<|Zb<|W<|Zr<|G (Zf fc Z)<|G (Zd al H 1 Z Z Z) ?_
     refine rq (je Z Z) Z Z Z (fun h66=> ?_) (fun h66=> ?_)
     ·
      refine G (Wb Z)<|U<|ZT Z<|Zr<|G (Yp Z)<|G (Yp Z)<|G (Yi Z)<|G (aI Z)<|G (Zf d8 Z)<|bC H 0 ((Prod.c ⟨p.ver,p.seq,-1,p.mark⟩).toArray) bV Z Z Z Z Z N N fun w30 H=>G (aI Z)<|G (Zf io Z)<|bC H 0 ((Prod.c ⟨p.ver,p.seq,-1,k⟩).toArray) bV Z Z Z Z Z N N fun w31 H=>U<|Zr<|G (bn Z Z I I)<|G (Yi Z)<|U ?_
      have hst:(⟨p.ver,p.seq,-1,k⟩:Prod)=fj k x3 p:=by
       simp[fj,pv,h36,h66]
      have hP:=jk (q':=(x3.pid,b,(⟨p.ver,p.seq,-1,k⟩:Prod))) hj
      refine⟨(k+1,S1.set j (x3.pid,b,(⟨p.ver,p.seq,-1,k⟩:Prod))),⟨by omega,la e3.at_ h17 hn hj hp ho hst,(H.perm (L':=(b5,_)::jy bm (S1.set j (x3.pid,b,_))) (by unfold jy;rw[gy hj];exact((hP.cons _).cons _).trans (((ak _ _ _).cons _).trans (ak _ _ _)))).forget (aR _ _) (fun _ h=>h)⟩,dO Z,Qg,by show es.length- (k+1)<es.length-k;omega⟩
     ·
      refine G (Wb Z)<|U<|ZF Z<|W<|Zr<|G (Yp Z)<|G (Zf fd Z)<|G (Zd al H 1 Z Z Z)<|G (aI Z)<|G (Zf fv Z)<|bC H 0 ((Prod.c ⟨p.ver,x3.seq,p.open_,p.mark⟩).toArray) bV Z Z Z Z Z N N fun w32 H=>U<|W<|Zr<|G (Zf jb Z) ?_
      refine zB (bf eL Z (aJ (H.ent (i:=1) Z) Z)) Z Z Z (fun h51=> ?_) (fun h51=> ?_)
      ·
       refine G (Yb Z)<|ZG<|G (Yp Z)<|ZG<|G (aI Z)<|ZG<|G (Zf d8 Z)<|ZG<|G (Zd al H 0 Z Z Z)<|ZG ?_
       refine dq (cL Z Z) Z Z Z (fun h57=> ?_) (fun h57=> ?_)
       ·
        refine G (Kt Z Z)<|U<|ZT Z<|Zr<|G (Yp Z)<|G (Yi Z)<|G (aI Z)<|G (Zf d8 Z)<|bC H 0 ((Prod.c ⟨p.ver,x3.seq,k,p.mark⟩).toArray) bV Z Z Z Z Z N N fun w33 H=>U<|Zr<|G (bn Z Z I I)<|G (Yi Z)<|U ?_
        replace h57:p.open_<0:=h57
        have hst:(⟨p.ver,x3.seq,k,p.mark⟩:Prod)=fj k x3 p:=by
         simp[fj,pv,h36,h66,h51,h57]
        have hP:=jk (q':=(x3.pid,b,(⟨p.ver,x3.seq,k,p.mark⟩:Prod))) hj
        refine⟨(k+1,S1.set j (x3.pid,b,(⟨p.ver,x3.seq,k,p.mark⟩:Prod))),⟨by omega,la e3.at_ h17 hn hj hp ho hst,(H.perm (L':=(b5,_)::jy bm (S1.set j (x3.pid,b,_))) (by unfold jy;rw[gy hj];exact((hP.cons _).cons _).trans (((ak _ _ _).cons _).trans (ak _ _ _)))).forget (aR _ _) (fun _ h=>h)⟩,dO Z,Qg,by show es.length- (k+1)<es.length-k;omega⟩
       ·
        refine G (Kt Z Z)<|U<|ZF Z<|Zk<|Zr<|G (bn Z Z I I)<|G (Yi Z)<|U ?_
        replace h57: ¬ p.open_<0:=h57
        have hst:(⟨p.ver,x3.seq,p.open_,p.mark⟩:Prod)=fj k x3 p:=by
         simp[fj,pv,h36,h66,h51,h57]
        have hP:=jk (q':=(x3.pid,b,(⟨p.ver,x3.seq,p.open_,p.mark⟩:Prod))) hj
        refine⟨(k+1,S1.set j (x3.pid,b,(⟨p.ver,x3.seq,p.open_,p.mark⟩:Prod))),⟨by omega,la e3.at_ h17 hn hj hp ho hst,(H.perm (L':=(b5,_)::jy bm (S1.set j (x3.pid,b,_))) (by unfold jy;rw[gy hj];exact((hP.cons _).cons _).trans (((ak _ _ _).cons _).trans (ak _ _ _)))).forget (aR _ _) (fun _ h=>h)⟩,dO Z,Qg,by show es.length- (k+1)<es.length-k;omega⟩
      ·
       refine G (Yb Z)<|ZN<|ZN<|ZN<|ZN<|ZN<|G (N Z Z)<|U<|ZF Z<|Zk<|Zr<|G (bn Z Z I I)<|G (Yi Z)<|U ?_
       have hst:(⟨p.ver,x3.seq,p.open_,p.mark⟩:Prod)=fj k x3 p:=by
        simp[fj,pv,h36,h66,h51]
       have hP:=jk (q':=(x3.pid,b,(⟨p.ver,x3.seq,p.open_,p.mark⟩:Prod))) hj
       refine⟨(k+1,S1.set j (x3.pid,b,(⟨p.ver,x3.seq,p.open_,p.mark⟩:Prod))),⟨by omega,la e3.at_ h17 hn hj hp ho hst,(H.perm (L':=(b5,_)::jy bm (S1.set j (x3.pid,b,_))) (by unfold jy;rw[gy hj];exact((hP.cons _).cons _).trans (((ak _ _ _).cons _).trans (ak _ _ _)))).forget (aR _ _) (fun _ h=>h)⟩,dO Z,Qg,by show es.length- (k+1)<es.length-k;omega⟩
 ·
  refine U<|W<|ZF Z<|Zx<|W<|Zr<|G (LP Z)<|G (ML Z)<|U<|Zt ?_
  have hke:k=es.length:=by omega
  subst hke
  rw[bM]at hS
  exact cn (v:=.map (some bm)) Z Z ⟨S,bm,rfl,hS,H.forget (au _) (by simp)⟩
/-- an entry of a transaction that has no end yet -/
def nw (es:List cv) (k:Nat) (pid:Int):Prop:= ∃ e,es[k]? =some e/\e.kind=1/\e.txn=true/\e.pid=pid/\pid≠0/\ ∀ j f,k<j->es[j]? =some f->f.pid=pid->f.kind=1
theorem lT {es:List cv} {x:cv} {k:Nat} {pid:Int}:nw (es++[x]) k pid↔(k<es.length/\nw es k pid/\(x.pid=pid->x.kind=1))∨(k=es.length/\x.kind=1/\x.txn=true/\x.pid=pid/\pid≠0):=by
 constructor
 rintro⟨e,h1,h2,h3,h4,h5,h6⟩
 have hk:=(aA.1 h1).1
 simp at hk
 by_cases hkl:k<es.length
 left
 rw[cd hkl]at h1
 refine⟨hkl,⟨e,h1,h2,h3,h4,h5,fun j f hj hf hp=>h6 j f hj (by rw[cd (aA.1 hf).1];exact hf) hp⟩,fun hp=>h6 es.length x hkl (by simp) hp⟩
 right
 have:k=es.length:=by omega
 subst this
 simp at h1
 subst h1
 exact⟨rfl,h2,h3,h4,h5⟩
 rintro(⟨hk,⟨e,h1,h2,h3,h4,h5,h6⟩,hx⟩|⟨rfl,h2,h3,h4,h5⟩)
 refine⟨e,by rw[cd hk];exact h1,h2,h3,h4,h5,fun j f hj hf hp=> ?_⟩
 by_cases hjl:j<es.length
 rw[cd hjl]at hf;exact h6 j f hj hf hp
 have hj2:=(aA.1 hf).1
 simp at hj2
 have:j=es.length:=by omega
 subst this
 simp at hf
 subst hf
 exact hx hp
 refine⟨x,by simp,h2,h3,h4,h5,fun j f hj hf _=> ?_⟩
 have hj2:=(aA.1 hf).1
 simp at hj2
 omega
structure Ko (es:List cv) (pid:Int) (p:Prod):Prop where
 opn:p.open_= -1∨ ∃ k:Nat,p.open_=k/\nw es k pid
 least: ∀ k,nw es k pid->0<=p.open_/\p.open_<=k
 mark:p.mark= -1∨ ∃ (k:Nat) (e:cv),p.mark=k/\es[k]? =some e/\e.pid=pid/\e.kind≠1
 seq:p.seq= -1∨ ∃ e∈es,e.pid=pid/\e.kind=1/\p.seq=e.seq/\p.ver=e.ver
 ver: ∃ e∈es,e.pid=pid/\p.ver=e.ver
theorem CX {es:List cv} {x:cv} {p:Prod} (h0:x.pid≠0) (h:p=p0/\(∀ k,¬ nw es k x.pid)∨Ko es x.pid p):Ko (es++[x]) x.pid (fj es.length x p):=by
 have hpv:(pv x p).ver=x.ver/\(pv x p).open_=p.open_/\(pv x p).mark=p.mark/\((pv x p).seq= -1∨((pv x p).seq=p.seq/\p.ver=x.ver)):=by
  unfold pv
  split
  exact⟨rfl,rfl,rfl,.inl Z⟩
  rename_i hv
  have hv':x.ver=p.ver:=Classical.not_not.1 hv
  exact⟨hv'.symm,rfl,rfl,.inr ⟨rfl,hv'.symm⟩⟩
 obtain⟨v1,v2,v3,v4⟩:=hpv
 have hxm:x∈es++[x]:=by simp
 have hmark:p.mark= -1∨ ∃ (k:Nat) (e:cv),p.mark=k/\(es++[x])[k]? =some e/\e.pid=x.pid/\e.kind≠1:=by
  rcases h with⟨rfl,_⟩|h
  exact .inl Z
  rcases h.mark with h|⟨k,e,h1,h2,h3,h4⟩
  exact .inl h
  exact .inr ⟨k,e,h1,by rw[cd (aA.1 h2).1];exact h2,h3,h4⟩
 have hseq:(pv x p).seq= -1∨ ∃ e∈es++[x],e.pid=x.pid/\e.kind=1/\(pv x p).seq=e.seq/\x.ver=e.ver:=by
  rcases v4 with h1|⟨h1,h2⟩
  exact .inl h1
  rcases h with⟨rfl,_⟩|h
  exact .inl h1
  rcases h.seq with h|⟨e,he,a1,a2,a3,a4⟩
  exact .inl (h1.trans h)
  exact .inr ⟨e,ir _ he,a1,a2,h1.trans a3,h2.symm.trans a4⟩
 unfold fj
 split
 rename_i hk
 refine⟨.inl Z,fun k hok=> ?_,.inr ⟨es.length,x,rfl,by simp,rfl,hk⟩,?_,⟨x,hxm,rfl,v1⟩⟩
 rcases lT.1 hok with⟨_,_,h⟩|⟨_,h,_⟩
 exact absurd (h Z) hk
 exact absurd h hk
 rcases hseq with h|⟨e,he,a1,a2,a3,a4⟩
 exact .inl h
 exact .inr ⟨e,he,a1,a2,a3,v1.trans a4⟩
 rename_i hk
 have hk1:x.kind=1:=Classical.not_not.1 hk
 have hold: ∀ k,nw es k x.pid->nw (es++[x]) k x.pid:=fun k hok=>lT.2 (.inl ⟨by obtain⟨e,h,_⟩:=hok;exact(aA.1 h).1,hok,fun _=>hk1⟩)
 split
 rename_i ht
 rw[v2]at ht
 refine⟨.inr ⟨es.length,rfl,lT.2 (.inr ⟨rfl,hk1,ht.1,rfl,h0⟩)⟩,fun k hok=> ?_,by rw[v3];exact hmark,.inr ⟨x,hxm,rfl,hk1,rfl,v1⟩,⟨x,hxm,rfl,v1⟩⟩
 rcases lT.1 hok with⟨_,h1,_⟩|⟨rfl,_⟩
 rcases h with⟨_,hn⟩|h
 exact absurd h1 (hn k)
 have:=h.least k h1;omega
 exact⟨by simp,ff _⟩
 rename_i ht
 rw[v2]at ht
 refine⟨?_,fun k hok=> ?_,by rw[v3];exact hmark,.inr ⟨x,hxm,rfl,hk1,rfl,v1⟩,⟨x,hxm,rfl,v1⟩⟩
 rw[v2]
 rcases h with⟨rfl,_⟩|h
 exact .inl Z
 rcases h.opn with h|⟨k,h1,h2⟩
 exact .inl h
 exact .inr ⟨k,h1,hold k h2⟩
 rw[v2]
 rcases lT.1 hok with⟨_,h1,_⟩|⟨rfl,_,h2,_⟩
 rcases h with⟨_,hn⟩|h
 exact absurd h1 (hn k)
 exact h.least k h1
 rcases h with⟨rfl,_⟩|h
 exact absurd ⟨h2,by decide⟩ ht
 rcases h.opn with h|⟨k,h1,hok2⟩
 exact absurd ⟨h2,by omega⟩ ht
 obtain⟨_,hok3,_⟩:=hok2
 have:=(aA.1 hok3).1
 omega
theorem Jp {es:List cv} {x:cv} {pid:Int} {p:Prod} (h0:x.pid≠pid) (h:Ko es pid p):Ko (es++[x]) pid p:=by
 have hold: ∀ k,nw (es++[x]) k pid↔nw es k pid:=fun k=>by
  rw[lT]
  constructor
  rintro(⟨_,h,_⟩|⟨_,_,_,h,_⟩)
  exact h
  exact absurd h h0
  intro h
  exact .inl ⟨by obtain⟨e,h,_⟩:=h;exact(aA.1 h).1,h,fun h=>absurd h h0⟩
 refine⟨?_,fun k hk=>h.least k ((hold k).1 hk),?_,?_,?_⟩
 rcases h.opn with h|⟨k,h1,h2⟩
 exact .inl h
 exact .inr ⟨k,h1,(hold k).2 h2⟩
 rcases h.mark with h|⟨k,e,h1,h2,h3⟩
 exact .inl h
 exact .inr ⟨k,e,h1,by rw[cd (aA.1 h2).1];exact h2,h3⟩
 rcases h.seq with h|⟨e,he,h⟩
 exact .inl h
 exact .inr ⟨e,ir _ he,h⟩
 obtain⟨e,he,h⟩:=h.ver
 exact⟨e,ir _ he,h⟩
theorem jN (es:List cv) (pid:Int):(∀ p,fO es pid=some p->Ko es pid p)/\(fO es pid=none-> ∀ e∈es,e.pid=pid->pid=0):=by
 induction es using KV with
 |h0=>exact⟨fun p h=>by simp[Jm]at h,fun _ e he=>by cases he⟩
 |h1 es x ih=>
  obtain⟨ih1,ih2⟩:=ih
  rw[qd]
  by_cases hc:x.pid≠0/\x.pid=pid
  obtain⟨h0,rfl⟩:=hc
  rw[if_pos ⟨h0,rfl⟩]
  refine⟨fun p hp=> ?_,fun h=>by cases h⟩
  injection hp with hp
  subst hp
  cases hq:fO es x.pid with
  |none=>
   refine CX h0 (.inl ⟨rfl,fun k hok=> ?_⟩)
   obtain⟨e,h1,_,_,h4,h5,_⟩:=hok
   exact h5 (ih2 hq e (ab h1) h4)
  |some q=>exact CX h0 (.inr (ih1 q hq))
  rw[if_neg hc]
  refine⟨fun p hp=> ?_,fun h e he hpe=> ?_⟩
  by_cases hx:x.pid=pid
  have h0:x.pid=0:=Classical.byContradiction fun h=>hc ⟨h,hx⟩
  obtain⟨e,he,h1,h1v⟩:=(ih1 p hp).ver
  have h:=ih1 p hp
  have hz:pid=0:=hx▸h0
  have hnone: ∀ l k,¬ nw l k pid:=fun l k ⟨_,_,_,_,_,h,_⟩=>h hz
  refine⟨?_,fun k hk=>absurd hk (hnone _ k),?_,?_,?_⟩
  rcases h.opn with h|⟨k,_,h2⟩
  exact .inl h
  exact absurd h2 (hnone _ k)
  rcases h.mark with h|⟨k,e,h1,h2,h3⟩
  exact .inl h
  exact .inr ⟨k,e,h1,by rw[cd (aA.1 h2).1];exact h2,h3⟩
  rcases h.seq with h|⟨e,he,h⟩
  exact .inl h
  exact .inr ⟨e,ir _ he,h⟩
  exact⟨e,ir _ he,h1,h1v⟩
  exact Jp hx (ih1 p hp)
  rcases aq.1 he with he|he
  exact ih2 h e he hpe
  rw[ar.1 he]at hpe
  exact Classical.byContradiction fun h0=>hc ⟨fun h=>h0 (hpe▸h),hpe⟩
def ru (es:List cv) (n:Nat):Prop:=n<=es.length/\(∀ k pid,nw es k pid->n<=k)/\(n=es.length∨ ∃ pid,nw es n pid)
theorem Hj {es:List cv} {n m:Nat} (h:ru es n) (h':ru es m):n=m:=by
 obtain⟨a1,a2,a3⟩:=h
 obtain⟨b1,b2,b3⟩:=h'
 have h1:n<=m:=by
  rcases b3 with h|⟨pid,h⟩
  omega
  exact a2 _ _ h
 have h2:m<=n:=by
  rcases a3 with h|⟨pid,h⟩
  omega
  exact b2 _ _ h
 omega
theorem JK {es:List cv} {S:List PB} (hS:PS S es) {out:Int} (h1:out<=es.length) (h2: ∀ q∈S,0<=q.2.2.open_->out<=q.2.2.open_) (h3:out=es.length∨ ∃ q∈S,0<=q.2.2.open_/\out=q.2.2.open_): ∃ n:Nat,out=n/\ru es n:=by
 have hq: ∀ q∈S,Ko es q.1 q.2.2:=fun q hq=>by
  obtain⟨a,b,p⟩:=q
  obtain⟨j,hj⟩:=aM.1 hq
  have:=uT hS.1 hj
  rw[hS.2]at this
  exact(jN es a).1 p this
 have h4: ∀ k pid,nw es k pid->out<=k:=fun k pid hok=>by
  cases hp:fO es pid with
  |none=>
   obtain⟨e,e1,_,_,e4,e5,_⟩:=hok
   exact absurd ((jN es pid).2 hp e (ab e1) e4) e5
  |some p=>
   have hl:=(((jN es pid).1 p hp).least k hok)
   have hlk:=hS.2 pid
   rw[hp]at hlk
   unfold vc at hlk
   cases hf:S.find? (fun q=>decide (q.1=pid))with
   |none=>rw[hf]at hlk;cases hlk
   |some q=>
    rw[hf]at hlk
    simp at hlk
    have hm:=List.mem_of_find?_eq_some hf
    have:=h2 q hm (by rw[hlk];exact hl.1)
    rw[hlk]at this
    omega
 rcases h3 with rfl|⟨q,hqm,q0,rfl⟩
 exact⟨es.length,rfl,ao _,fun k pid h=>by have:=h4 k pid h;omega,.inl Z⟩
 rcases(hq q hqm).opn with h|⟨k,hk,hok⟩
 omega
 refine⟨k,hk,by omega,fun j pid h=>by have:=h4 j pid h;omega,.inr ⟨_,hok⟩⟩
def yd (es:List cv) (p:Int):Bool:=
 match es.find? (fun e=>!decide (e.kind=1)&&decide (e.pid=p))with
 |some e=>decide (e.kind=2)
 |none=>false
def wS (es:List cv) (i:Nat) (e:cv):Bool:=!e.txn||yd (es.drop (i+1)) e.pid
theorem ue (e:cv) (es:List cv) (p:Int):yd (e::es) p=if¬ e.kind=1/\e.pid=p then decide (e.kind=2)else yd es p:=by
 unfold yd
 rw[List.find?_cons]
 by_cases h1:e.kind=1<;>by_cases h2:e.pid=p<;>simp[h1,h2]
theorem cM {α:Type} {l:List α} {k:Nat} {e:α} (h:l[k]? =some e):l.drop k=e::l.drop (k+1):=by
 obtain⟨hk,rfl⟩:=cu h
 exact m0 hk
theorem NU (es:List cv) (A:Option Addr) (c i:Nat) (x:cv) (w:World) (hr:Rd gV 0 w.heap.size A es w) (hi:es[i]? =some x) (hc:es.length<=c) (hb:es.length<=1000000):
  dt aa FC [.slice A es.length c,J (i:Nat)] w fun v w2=>v=.bool (wS es i x)/\Below w.heap.size w w2:=by
 refine aG Ej Z Z ?_
 have H:=Hp.startRd hr
 have hil:=(cu hi).1
 refine W<|Zr<|G (Wb Z)<|U<|W<|W<|Zr<|G (Ys Z)<|G (Yi Z)<|px H 0 Z dV Z Z I I Z fun b1 o1 x1 e1=> ?_
 obtain rfl:x=x1:=by have:=e1.at_;rw[hi]at this;injection this
 refine G (Zf jb Z) ?_
 refine zB (bf eL Z (e1.cl 5 _ Z)) Z Z Z (fun h11=> ?_) (fun h11=> ?_)
 refine G (d7 Z)<|U<|ZF Z<|Zk<|W<|W<|Zr<|G (Ys Z)<|G (Yi Z)<|G (bn Z Z I I) ?_
 have h15:(i:Int)+1=((i+1:Nat):Int):=by omega
 rw[h15]
 refine OT (k:=i+1) H 0 Z dV Z Z Z hc I Z fun A16 H=> ?_
 generalize hds:es.drop (i+1)=ds at H
 have hdl:es.length- (i+1)=ds.length:=by rw[<-hds];simp
 rw[hdl]
 refine G (bj eG Z)<|G (Yi Z)<|U<|Zb ?_
 refine bW (τ:=Nat) [4,6,18,19,20,21,22,23,24,25,26,27,28,29,30,31,32,33,34,35,36,37,38] (fun k=>[(18,J (k:Nat))]) (fun k w'=>k<=ds.length/\yd ds x.pid=yd (ds.drop k) x.pid/\Hp w w' [] [d4 gV 0 w.heap.size A16 ds,d4 gV 0 w.heap.size A es]) (fun k=>ds.length-k) 0 ⟨by omega,rfl,H⟩ (dO Z) ?_
 rintro k ρ1 w2 ⟨hk,hkp,H⟩
 show CW _ _ _ _ (dH (gT _ _ ρ1) [(18,J (k:Nat))]) w2
 refine W<|Zr ?_
 refine dq (cL Z Z) Z Z Z (fun h19=> ?_) (fun h19=> ?_)
 refine U<|W<|ZT Z<|Zk<|W<|Zb<|W<|Zr<|px H 0 Z dV Z Z I I Z fun b3 o3 x3 e3=>G (jL (xs:=cv.c x3) dI Z Z e3.cl)<|fg H gp Z fun w4 b6 H=>KT H 0 eV Z Z Z Z Z Z fun w5 H=>U<|W ?_
 refine bP cD [0,1,2,3,4,5,6,7,8,9,10,11,12] [] [] [0,2,3,4,6,7,8,9,11,12] (sp []) N N N N Nq (cO _) ?_
 refine aw Z Z Z Z Z (fun w' hw'=>Zf fc Z)<|aw Z Z Z Z Z (fun w' hw'=>bf al Z (aJ ((H.later hw').ent (i:=0) Z) Z)) ?_
 refine Py Z Z Z Z Z (fun w' hw'=>je Z Z) (fun h24=> ?_) (fun h24=> ?_)
 refine aw Z Z Z Z Z (fun w' hw'=>Yb Z)<|aw Z Z Z Z Z (fun w' hw'=>Zf fo Z)<|aw Z Z Z Z Z (fun w' hw'=>bf al Z (aJ ((H.later hw').ent (i:=0) Z) Z))<|aw Z Z Z Z Z (fun w' hw'=>Ys Z)<|aw Z Z Z Z Z (fun w' hw'=>Yi Z)<|py H 1 Z Z Z Z Z dV Z Z I I fun b6 o6 x6 e6=> ?_
 obtain rfl:x=x6:=by have:=e6.at_;rw[hi]at this;injection this
 refine aw Z Z Z Z Z (fun w' hw'=>Zf fo Z)<|aw Z Z Z Z Z (fun w' hw'=>bf al Z (e6.later hw' 1 _ Z)) ?_
 refine Cv Z Z Z Z Z (fun w' hw'=>br Z Z) (fun h33=> ?_) (fun h33=> ?_)
 refine aw Z Z Z Z Z (fun w' hw'=>Kt Z Z)<|aU ?_
 intro w7 hw' hF
 replace H:=H.later hw';clear hw' hF
 refine U<|ZT Z<|W<|Zr<|G (Zf fc Z)<|G (Zd al H 0 Z Z Z)<|G (br Z Z)<|G (Wb Z)<|U<|Zt ?_
 have hdk:=cM e3.at_
 have hx:wS es i x=decide (x3.kind=2):=by
  unfold wS;rw[h11,hds,hkp,hdk,ue,if_pos ⟨h24,h33⟩];rfl
 exact cn (v:=.bool (decide (x3.kind=2))) Z Z ⟨by rw[hx],H.below⟩
 refine aw Z Z Z Z Z (fun w' hw'=>Kt Z Z)<|aU ?_
 intro w8 hw' hF
 replace H:=H.later hw';clear hw' hF
 refine U<|ZF Z<|Zk<|Zr<|G (bn Z Z I I)<|G (Yi Z)<|U ?_
 have hdk:=cM e3.at_
 rw[hdk,ue]at hkp
 rw[if_neg (by rintro⟨a,b⟩;first|exact a h24|exact h33 b)]at hkp
 refine⟨k+1,⟨by omega,hkp,H.forget (by simp) (fun _ h=>h)⟩,dO Z,Qg,by show ds.length- (k+1)<ds.length-k;omega⟩
 refine aw Z Z Z Z Z (fun w' hw'=>Yb Z)<|eU Z Z Z Z<|eU Z Z Z Z<|eU Z Z Z Z<|eU Z Z Z Z<|eU Z Z Z Z<|eU Z Z Z Z<|eU Z Z Z Z<|eU Z Z Z Z<|aw Z Z Z Z Z (fun w' hw'=>N Z Z)<|aU ?_
 intro w9 hw' hF
 replace H:=H.later hw';clear hw' hF
 refine U<|ZF Z<|Zk<|Zr<|G (bn Z Z I I)<|G (Yi Z)<|U ?_
 have hdk:=cM e3.at_
 rw[hdk,ue]at hkp
 rw[if_neg (by rintro⟨a,b⟩;first|exact a h24|exact h33 b)]at hkp
 refine⟨k+1,⟨by omega,hkp,H.forget (by simp) (fun _ h=>h)⟩,dO Z,Qg,by show ds.length- (k+1)<ds.length-k;omega⟩
 refine U<|W<|ZF Z<|Zx<|W<|Zr<|G (Wb Z)<|U<|Zt ?_
 have hx:wS es i x=false:=by
  unfold wS;rw[h11,hds,hkp,ej I];rfl
 exact cn (v:=.bool false) Z Z ⟨by rw[hx],H.below⟩
 refine G (d7 Z)<|U<|ZT Z<|W<|Zr<|G (Wb Z)<|U<|Zt ?_
 have hx:wS es i x=true:=by simp[wS,h11]
 exact cn (v:=.bool true) Z Z ⟨by rw[hx],H.below⟩
theorem Lv {S:List PB} {m:Nat} {k:Int} {v:Value} (h:(rm S)[m]? =some (k,v)): ∃ (b:Nat) (p:Prod),S[m]? =some (k,b,p)/\v=BS b:=by
 unfold rm at h
 rw[aH]at h
 cases hs:S[m]? with
 |none=>rw[hs]at h;cases h
 |some q=>
  rw[hs]at h
  obtain⟨a,b,p⟩:=q
  simp at h
  exact⟨b,p,by rw[h.1],h.2.symm⟩
def DA (n:Nat) (seen:Array Nat):Nat:=((tI n).filter fun m=>!seen.contains m).length
theorem CF {n m:Nat} {seen:Array Nat} (hm:m<n) (hs:seen.contains m=false):DA n (seen.push m)<DA n seen:=by
 unfold DA
 refine filter_lt _ _ (fun x hx=> ?_) m (by rw[hs];rfl) (by simp) _ (List.mem_range.2 hm)
 simp at hx⊢
 exact hx.1
theorem CO (es:List cv) (A:Option Addr) (c n:Nat) (w:World) (hr:Rd gV 0 w.heap.size A es w) (hc:es.length<=c) (hb:es.length<=1000000) (hn:n<=es.length):
  dt aa BZ [.slice A es.length c,J (n:Nat)] w fun v w2=> ∃ m:Nat,ru (es.take n) m/\v=.tuple #[J (m:Nat),J 0]/\Below w.heap.size w w2:=by
 refine aG AV Z Z ?_
 have H:=Hp.startRd hr
 refine W<|Zr<|G (Wi Z)<|G (Wi Z)<|U<|W<|W<|Zr<|G (Yi Z)<|G (dn Z Z I)<|G (Yb Z)<|ZG<|G (Yi Z)<|ZG<|G (Ys Z)<|ZG<|G (bj eG Z)<|ZG<|G (eu Z Z I)<|G (N Z Z)<|U<|ZF Z<|Zk<|W<|Zr<|G (Yi Z)<|G (Wi Z)<|U<|W<|W<|Zr<|G (Ys Z)<|G (Yi Z)<|vU (k:=n) H 0 Z dV Z Z hc I Z fun A20 H=> ?_
 obtain⟨ds,hds⟩: ∃ ds,es.take n=ds:=⟨_,rfl⟩
 have hdl:n=ds.length:=by rw[<-hds];simp;omega
 rw[hds]at H⊢
 subst hdl
 refine cz uv (CU ds _ _ _ (H.rd0 0 Z) I) Z Z ?_
 rintro _ w1 ⟨S,bm,rfl,hS,hj⟩;replace H:=H.join hj;clear hj
 refine QR H 0 sf Z Z Z fun w2 it H=>U<|Zb ?_
 refine bW (τ:=Array Nat×Int) [6,8,23,24,25,26,27,28,29,30,31,32,33,34,35,36,37] (fun(seen,out)=>[(6,J out)]) (fun(seen,out) w'=>out<=ds.length/\(∀ m q,S[m]? =some q->seen.contains m=true->0<=q.2.2.open_->out<=q.2.2.open_)/\(out=ds.length∨ ∃ q∈S,0<=q.2.2.open_/\out=q.2.2.open_)/\Hp w w' ((it,.mapIter (some bm) (rm S).length seen (rm S).length)::(jy bm S++[])) [d4 gV 0 w.heap.size A20 ds,d4 gV 0 w.heap.size A es]) (fun(seen,_)=>DA S.length seen) (#[],(ds.length:Int)) ⟨by omega,by simp,.inl Z,H⟩ (dO Z) ?_
 rintro⟨seen,out⟩ ρ1 w3 ⟨ho1,ho2,ho3,H⟩
 show CW _ _ _ _ (dH (gT _ _ ρ1) [(6,J out)]) w3
 refine W<|Zr ?_
 refine QU H 0 1 Z Z Z Z ?_ ?_
 intro hall
 refine G (Xb Z Z)<|U<|W<|ZF Z<|Zx<|W<|Zr<|G (Yi Z)<|G (Wi Z)<|G (Wi Z)<|U<|Zt ?_
 have hpl:(rm S).length=S.length:=by simp[rm]
 obtain⟨m,rfl,hst⟩:=JK hS ho1 (fun q hq h0=>by obtain⟨m,hm⟩:=aM.1 hq;exact ho2 m q hm (hall m (by rw[hpl];exact(cu hm).1)) h0) ho3
 exact mi Z Z Z ⟨m,by first|exact hst|(rw[hds];exact hst),rfl,H.below⟩
 intro m k v w4 hm hsn H
 obtain⟨b,p,hmS,rfl⟩:=Lv hm
 have hbk:=H.ent (i:=m+2) (b:=b) (o:=.cells p.c.toArray lQ (0,0)) (by simp[jy,xT,hmS])
 have hml:=(cu hmS).1
 refine G (Xb Z Z)<|U<|W<|ZT Z<|Zk<|Zb<|W<|Zr<|G (P3 Z (H.ent (i:=0) Z) (H.ent (i:=1) Z) hm)<|G (P2 Z Z)<|G (Wp Z)<|U<|W<|Zr<|G (Yp Z)<|G (aI Z)<|G (Zf d8 Z)<|G (bf al Z (aJ hbk Z)) ?_
 refine dq (kk Z Z) Z Z Z (fun h31=> ?_) (fun h31=> ?_)
 refine U<|ZT Z<|Zr<|G (Yi Z)<|G (Yp Z)<|G (aI Z)<|G (Zf d8 Z)<|G (bf al Z (aJ hbk Z))<|G (ya Z Z)<|G (Wi Z)<|U ?_
 refine⟨(seen.push m,min out p.open_),⟨by omega,fun m2 q hq hs h0=> ?_,?_,H⟩,dO Z,Qg,CF hml hsn⟩
 rw[Array.contains_push]at hs
 rcases Bool.or_eq_true_iff.1 hs with hs|hs
 have:=ho2 m2 q hq hs h0;omega
 have hmm:m2=m:=by simpa using hs
 subst hmm;rw[hmS]at hq;injection hq with hq;subst hq;try dsimp only at h0⊢
 omega
 by_cases hmin:out<=p.open_
 rw[Int.min_eq_left hmin];exact ho3
 exact .inr ⟨_,ab hmS,h31,by dsimp only;omega⟩
 refine U<|ZF Z<|Zk ?_
 refine⟨(seen.push m,out),⟨by omega,fun m2 q hq hs h0=> ?_,?_,H⟩,dO Z,Qg,CF hml hsn⟩
 rw[Array.contains_push]at hs
 rcases Bool.or_eq_true_iff.1 hs with hs|hs
 have:=ho2 m2 q hq hs h0;omega
 have hmm:m2=m:=by simpa using hs
 subst hmm;rw[hmS]at hq;injection hq with hq;subst hq;try dsimp only at h0⊢
 exfalso;exact h31 h0
 exact ho3
def v6 (es:List cv) (m:Int) (x:cv):Bool:=match es[m.toNat]? with
 |some e=>decide (e.kind=x.kind)&&decide (e.ver=x.ver)
 |none=>false
def kV (x e:cv):Bool:=decide (e.kind=1)&&decide (e.pid=x.pid)&&decide (e.ver=x.ver)&&decide (e.seq=x.seq)
def mt (es:List cv) (x:cv) (p:Prod):Int×Int:=
 if x.ver<p.ver then(0,10)
 else if¬ x.kind=1 then(if p.open_<0/\0<=p.mark/\v6 es p.mark x=true then(p.mark,0)else(-1,0))
 else if(if p.ver<x.ver then-1 else p.seq)+1<x.seq then(0,11)
 else if x.seq=(if p.ver<x.ver then-1 else p.seq)+1 then(-1,0)
 else match es.findIdx? (kV x)with
  |some i=>((i:Int),0)
  |none=>(0,11)
def fi (es:List cv) (x:cv):Int×Int:=if x.pid=0 then(-1,0)else mt es x ((fO es x.pid).getD ⟨x.ver,-1,-1,-1⟩)
def Qe (w:World) (es:List cv):Sp:=⟨fun v w2=> ∃ S bm,v=.map (some bm)/\PS S es/\Hp w w2 (jy bm S) [],fun _ _ _ hb ⟨S,bm,h1,h2,h3⟩=>⟨S,bm,h1,h2,h3.later hb⟩⟩
def seqB (es:List cv):Prop:= ∀ e∈es,-1000000000000000<=e.seq/\e.seq<=1000000000000000
theorem E9 {es:List cv} {x:cv} (hq:seqB es) {p:Prod} (hp:p=(fO es x.pid).getD ⟨x.ver,-1,-1,-1⟩):(p.mark= -1∨ ∃ (k:Nat) (y:cv),p.mark=k/\es[k]? =some y)/\ -1000000000000000<=p.seq/\p.seq<=1000000000000000:=by
 cases h:fO es x.pid with
 |none=>rw[h]at hp;subst hp;exact⟨.inl Z,by simp⟩
 |some q=>
  rw[h]at hp
  simp at hp
  subst hp
  have hi:=(jN es x.pid).1 p h
  refine⟨?_,?_⟩
  rcases hi.mark with h|⟨k,e,h1,h2,_⟩
  exact .inl h
  exact .inr ⟨k,e,h1,h2⟩
  rcases hi.seq with h|⟨e,he,_,_,h,_⟩
  omega
  have:=hq e he;omega
theorem F6 {es:List cv} {x:cv} (h: ∀ j e,j<es.length->es[j]? =some e->kV x e=false):es.findIdx? (kV x)=none:=by
 rw[cZ]
 intro e he
 obtain⟨j,hj⟩:=aM.1 he
 exact h j e (cu hj).1 hj
theorem Bj {es:List cv} {x y:cv} {k:Nat} (hk:es[k]? =some y) (hy:kV x y=true) (h: ∀ j e,j<k->es[j]? =some e->kV x e=false):es.findIdx? (kV x)=some k:=by
 rw[aP]
 obtain⟨hl,rfl⟩:=cu hk
 exact⟨hl,hy,fun j hj=>by rw[h j _ hj (ai I)];simp⟩
theorem QZ (S:List PB) (pid:Int) {w:World} {b:Nat} (hn:(S.map (·.1)).Nodup) (hb:w.heap[b]? =some (ub (rm S))): ∃ q:Option Addr,((q=none/\ ∀ r∈S,r.1≠pid)∨ ∃ (j c:Nat) (p:Prod),S[j]? =some (pid,c,p)/\q=some ⟨c,0,none⟩)/\ ∀ {ρ:gJ} {dst:Option Nat} {x y:Operand} {t:TypeId} {p:String} {af:Array Edge} {g:Option (Nat×Bool)},ev ρ x=.map (some b)->ev ρ y=J pid->(execOp (ev ρ) (Og dst (.lookup IU x y false) t p af g)).run aa w=.ok (.value (.pointer q)) w:=by
 rcases Ay S pid with h|⟨j,c,p,h⟩
 exact⟨none,.inl ⟨rfl,h⟩,fun hx hy=>OB sf qQ hx hy hb (by intro q hq;obtain⟨a,ha,rfl⟩:=bS.1 hq;exact h a ha)⟩
 exact⟨some ⟨c,0,none⟩,.inr ⟨j,c,p,h,rfl⟩,fun hx hy=>OA sf qQ hx hy hb (by rw[uO];exact hn) (Fa h)⟩
theorem I3 (es:List cv) (A:Option Addr) (c:Nat) (x:cv) (w:World) (hr:Rd gV 0 w.heap.size A es w) (hb:es.length<=1000000) (hq:seqB es):
  dt aa D5 [.slice A es.length c,x.v] w fun v w2=>v=.tuple #[J (fi es x).1,J (fi es x).2]/\Below w.heap.size w w2:=by
 refine aG B4 Z Z ?_
 have H:=Hp.startRd hr
 refine W<|Zr<|gM H Z Z fun w1 b3 H=>G (Wi Z)<|G (Wi Z)<|U<|W<|W<|Zr<|G (Zf fo Z)<|G (Zd al H 0 Z Z Z) ?_
 refine dq (br Z Z) Z Z Z (fun h11=> ?_) (fun h11=> ?_)
 refine U<|ZT Z<|W<|Zr<|G (Wi Z)<|G (Wi Z)<|U<|Zt ?_
 have hv:fi es x=(-1,0):=by unfold fi;rw[if_pos h11]
 exact mi (v:=J (-1)) (v2:=J 0) Z Z Z ⟨by rw[hv],H.below⟩
 refine U<|ZF Z<|Zk<|W ?_
 refine bP cD [0,2,3,1] [4,5] [1] [0,2] (sp [(1,Qe w1 es)]) N N N N Nq (cO _) ?_
 refine aw Z Z Z Z Z (fun w' hw'=>Ys Z)<|aw Z Z Z Z Z (fun w' hw'=>Zf fo Z)<|aw Z Z Z Z Z (fun w' hw'=>bf al Z (aJ ((H.later hw').ent (i:=0) Z) Z)) ?_
 refine y1 uv Z Z Z Z (fun w' hw'=>(CU es _ _ w' ((H.later hw').rd0 0 Z) hb).mono (fun v w2 ⟨S,bm,h1,h2,h3⟩=>⟨h3.below,S,bm,h1,h2,Hp.base hw' h3⟩)) Z ?_;rintro v13-
 refine aU ?_
 intro w2 hw' hF
 obtain⟨-,S,bm,rfl,hS,hj⟩:=hF
 replace H:=H.join hj;clear hj hw'
 have hb3:=H.ent (i:=S.length+1) (b:=b3) (o:=.cells (cv.c x).toArray dz (0,0)) (by simp[jy])
 obtain⟨P16,hP16,hx16⟩:=QZ S x.pid hS.1 (H.ent (i:=0) Z)
 refine G (hx16 Z Z)<|G (Wp Z)<|U<|W ?_
 refine fp (τ:=Nat×Int×Int×Int×Int×List (Nat×Obj)) [6,17,18,19,20,21,22] (fun(b,_,_,_,_,_)=>[(6,BS b)]) (fun(b,pv_,ps,po,pm,K) w'=>(⟨pv_,ps,po,pm⟩:Prod)=(fO es x.pid).getD ⟨x.ver,-1,-1,-1⟩/\Hp w w' ((b,.cells #[J pv_,J ps,J po,J pm] lQ (0,0))::(b3,.cells (cv.c x).toArray dz (0,0))::K) [d4 gV 0 w.heap.size A es]) ?_ ?_
 refine W<|Zr ?_
 rcases hP16 with⟨rfl,hno⟩|⟨j,b,p,hj,rfl⟩
 refine G (Yp Z)<|G (xS nX Z)<|U<|ZT Z<|Zr<|G (Zf eI Z)<|G (bf al Z (aJ hb3 Z))<|G (bE (cs:= #[J x.ver,J (-1),J (-1),J (-1)]) yI zK N)<|gM H Z Z fun w3 b22 H=>G (Wp Z)<|U ?_
 refine⟨(b22,x.ver,-1,-1,-1,jy bm S),⟨by rw[<-hS.2,C3 hno];rfl,H.perm ((tJ _ _).symm.cons _)⟩,dO Z,Qg⟩
 refine G (Yp Z)<|G (vY nX Z)<|U<|ZF Z<|Zk ?_
 have hP:=Fg hj
 refine⟨(b,p.ver,p.seq,p.open_,p.mark,(bm,ub (rm S))::(S.eraseIdx j).map xT),⟨by rw[<-hS.2,uT hS.1 hj];rfl,H.perm ?_⟩,dO Z,Qg⟩
 exact(qF (l₁:=[_,_])).symm.trans (((hP.cons _).cons _).trans (tJ _ _).symm)
 rintro⟨b,pv_,ps,po,pm,K⟩ ρ2 w4 ⟨hp,H⟩
 show CW _ _ _ _ (dH (gT _ _ ρ2) [(6,BS b)]) w4
 obtain⟨hmark,hsq1,hsq2⟩:=E9 hq hp
 dsimp only at hsq1 hsq2
 refine W<|Zb<|W ?_
 refine bP cD [0,1,2,3,4,5,6,7] [] [] [0,2,3,4,6,7] (sp []) N N N N Nq (cO _) ?_
 refine aw Z Z Z Z Z (fun w' hw'=>Zf eI Z)<|aw Z Z Z Z Z (fun w' hw'=>bf al Z (aJ ((H.later hw').ent (i:=1) Z) Z))<|aw Z Z Z Z Z (fun w' hw'=>Yp Z)<|aw Z Z Z Z Z (fun w' hw'=>aI Z)<|aw Z Z Z Z Z (fun w' hw'=>Zf jR Z)<|aw Z Z Z Z Z (fun w' hw'=>bf al Z (aJ ((H.later hw').ent (i:=0) Z) Z)) ?_
 refine Cv Z Z Z Z Z (fun w' hw'=>cL Z Z) (fun h30=> ?_) (fun h30=> ?_)
 refine aw Z Z Z Z Z (fun w' hw'=>Wb Z)<|aU ?_
 intro w5 hw' hF
 replace H:=H.later hw';clear hw' hF
 refine U<|ZT Z<|W<|Zr<|G (Wi Z)<|G (Wi Z)<|U<|Zt ?_
 have hv:fi es x=(0,10):=by
  unfold fi;rw[if_neg h11,<-hp];unfold mt;simp[h30]
 exact mi (v:=J (0)) (v2:=J 10) Z Z Z ⟨by rw[hv],H.below⟩
 refine aw Z Z Z Z Z (fun w' hw'=>Wb Z)<|aU ?_
 intro w6 hw' hF
 replace H:=H.later hw';clear hw' hF
 refine U<|ZF Z<|W<|Zr<|G (Zf fc Z)<|G (Zd al H 1 Z Z Z) ?_
 refine rq (je Z Z) Z Z Z (fun h34=> ?_) (fun h34=> ?_)
 refine G (Wb Z)<|U<|ZT Z<|W<|W ?_
 refine bP cD [0,1,2,3,4,5,6,7,8,9,10,11,12,13,14,15,16,17,18,19,20,21,22,23,24,25,26,27,28,29,30,31,32,33,34,35,36,37] [] [] [0,1,2,4,5,6,7,8,10,11,12,13,14,15,16,18,19,21,23,24,25,26,27,28,29,31,32,34,36,37] (sp []) N N N N Nq (cO _) ?_
 refine aw Z Z Z Z Z (fun w' hw'=>Yp Z)<|aw Z Z Z Z Z (fun w' hw'=>aI Z)<|aw Z Z Z Z Z (fun w' hw'=>Zf d8 Z)<|aw Z Z Z Z Z (fun w' hw'=>bf al Z (aJ ((H.later hw').ent (i:=0) Z) Z)) ?_
 refine Cv Z Z Z Z Z (fun w' hw'=>cL Z Z) (fun h39=> ?_) (fun h39=> ?_)
 refine aw Z Z Z Z Z (fun w' hw'=>Yb Z)<|aw Z Z Z Z Z (fun w' hw'=>Yp Z)<|aw Z Z Z Z Z (fun w' hw'=>aI Z)<|aw Z Z Z Z Z (fun w' hw'=>Zf io Z)<|aw Z Z Z Z Z (fun w' hw'=>bf al Z (aJ ((H.later hw').ent (i:=0) Z) Z)) ?_
 refine Cv Z Z Z Z Z (fun w' hw'=>kk Z Z) (fun h45=> ?_) (fun h45=> ?_)
 rcases hmark with hm1|⟨k,y,hmk,hyk⟩
 exfalso;dsimp only at hm1 h45;omega
 dsimp only at hmk
 subst hmk
 have hkl:=(cu hyk).1
 refine aw Z Z Z Z Z (fun w' hw'=>Kt Z Z)<|aw Z Z Z Z Z (fun w' hw'=>Yb Z)<|aw Z Z Z Z Z (fun w' hw'=>Ys Z)<|aw Z Z Z Z Z (fun w' hw'=>Yp Z)<|aw Z Z Z Z Z (fun w' hw'=>aI Z)<|aw Z Z Z Z Z (fun w' hw'=>Zf io Z)<|aw Z Z Z Z Z (fun w' hw'=>bf al Z (aJ ((H.later hw').ent (i:=0) Z) Z))<|py H 0 Z Z Z Z Z dV Z Z I I fun b7 o7 x7 e7=> ?_
 obtain rfl:y=x7:=by have:=e7.at_;rw[hyk]at this;injection this
 refine aw Z Z Z Z Z (fun w' hw'=>Zf fc Z)<|aw Z Z Z Z Z (fun w' hw'=>bf al Z (e7.later hw' 4 _ Z))<|aw Z Z Z Z Z (fun w' hw'=>Zf fc Z)<|aw Z Z Z Z Z (fun w' hw'=>bf al Z (aJ ((H.later hw').ent (i:=1) Z) Z)) ?_
 refine Cv Z Z Z Z Z (fun w' hw'=>br Z Z) (fun h58=> ?_) (fun h58=> ?_)
 refine aw Z Z Z Z Z (fun w' hw'=>Kt Z Z)<|aw Z Z Z Z Z (fun w' hw'=>Yb Z)<|aw Z Z Z Z Z (fun w' hw'=>Ys Z)<|aw Z Z Z Z Z (fun w' hw'=>Yp Z)<|aw Z Z Z Z Z (fun w' hw'=>aI Z)<|aw Z Z Z Z Z (fun w' hw'=>Zf io Z)<|aw Z Z Z Z Z (fun w' hw'=>bf al Z (aJ ((H.later hw').ent (i:=0) Z) Z))<|py H 0 Z Z Z Z Z dV Z Z I I fun b8 o8 x8 e8=> ?_
 obtain rfl:y=x8:=by have:=e8.at_;rw[hyk]at this;injection this
 refine aw Z Z Z Z Z (fun w' hw'=>Zf eI Z)<|aw Z Z Z Z Z (fun w' hw'=>bf al Z (e8.later hw' 2 _ Z))<|aw Z Z Z Z Z (fun w' hw'=>Zf eI Z)<|aw Z Z Z Z Z (fun w' hw'=>bf al Z (aJ ((H.later hw').ent (i:=1) Z) Z)) ?_
 refine Cv Z Z Z Z Z (fun w' hw'=>br Z Z) (fun h71=> ?_) (fun h71=> ?_)
 refine aw Z Z Z Z Z (fun w' hw'=>Kt Z Z)<|aU ?_
 intro w9 hw' hF
 replace H:=H.later hw';clear hw' hF
 refine U<|ZT Z<|W<|Zr<|G (Yp Z)<|G (aI Z)<|G (Zf io Z)<|G (Zd al H 0 Z Z Z)<|G (Wi Z)<|G (Wi Z)<|U<|Zt ?_
 have hmk:v6 es (k:Nat) x=true:=by
  unfold v6;rw[show((k:Nat):Int).toNat=k from rfl,hyk];simp[h58,h71]
 have hv:fi es x=((k:Int),0):=by
  unfold fi;rw[if_neg h11,<-hp];unfold mt;simp[h30,h34,h39,h45,h58,h71,hmk]
 exact mi (v:=J ((k:Int))) (v2:=J 0) Z Z Z ⟨by rw[hv],H.below⟩
 refine aw Z Z Z Z Z (fun w' hw'=>Kt Z Z)<|aU ?_
 intro w10 hw' hF
 replace H:=H.later hw';clear hw' hF
 refine U<|ZF Z<|Zk<|W<|Zr<|G (Wi Z)<|G (Wi Z)<|U<|Zt ?_
 have hmk:v6 es (k:Nat) x=false:=by
  unfold v6;rw[show((k:Nat):Int).toNat=k from rfl,hyk];simp[h58,h71]
 have hv:fi es x=(-1,0):=by
  unfold fi;rw[if_neg h11,<-hp];unfold mt;simp[h30,h34,h39,h45,h58,h71,hmk]
 exact mi (v:=J (-1)) (v2:=J 0) Z Z Z ⟨by rw[hv],H.below⟩
 refine aw Z Z Z Z Z (fun w' hw'=>Kt Z Z)<|aw Z Z Z Z Z (fun w' hw'=>Yb Z)<|eU Z Z Z Z<|eU Z Z Z Z<|eU Z Z Z Z<|eU Z Z Z Z<|eU Z Z Z Z<|eU Z Z Z Z<|eU Z Z Z Z<|eU Z Z Z Z<|eU Z Z Z Z<|eU Z Z Z Z<|eU Z Z Z Z<|aw Z Z Z Z Z (fun w' hw'=>N Z Z)<|aU ?_
 intro w11 hw' hF
 replace H:=H.later hw';clear hw' hF
 refine U<|ZF Z<|Zk<|W<|Zr<|G (Wi Z)<|G (Wi Z)<|U<|Zt ?_
 have hmk:v6 es (k:Nat) x=false:=by
  unfold v6;rw[show((k:Nat):Int).toNat=k from rfl,hyk];simp[h58]
 have hv:fi es x=(-1,0):=by
  unfold fi;rw[if_neg h11,<-hp];unfold mt;simp[h30,h34,h39,h45,h58,hmk]
 exact mi (v:=J (-1)) (v2:=J 0) Z Z Z ⟨by rw[hv],H.below⟩
 refine aw Z Z Z Z Z (fun w' hw'=>Kt Z Z)<|aw Z Z Z Z Z (fun w' hw'=>Yb Z)<|eU Z Z Z Z<|eU Z Z Z Z<|eU Z Z Z Z<|eU Z Z Z Z<|eU Z Z Z Z<|eU Z Z Z Z<|eU Z Z Z Z<|eU Z Z Z Z<|eU Z Z Z Z<|eU Z Z Z Z<|eU Z Z Z Z<|aw Z Z Z Z Z (fun w' hw'=>N Z Z)<|aw Z Z Z Z Z (fun w' hw'=>Yb Z)<|eU Z Z Z Z<|eU Z Z Z Z<|eU Z Z Z Z<|eU Z Z Z Z<|eU Z Z Z Z<|eU Z Z Z Z<|eU Z Z Z Z<|eU Z Z Z Z<|eU Z Z Z Z<|eU Z Z Z Z<|eU Z Z Z Z<|aw Z Z Z Z Z (fun w' hw'=>N Z Z)<|aU ?_
 intro w12 hw' hF
 replace H:=H.later hw';clear hw' hF
 refine U<|ZF Z<|Zk<|W<|Zr<|G (Wi Z)<|G (Wi Z)<|U<|Zt ?_
 have hv:fi es x=(-1,0):=by
  unfold fi;rw[if_neg h11,<-hp];unfold mt;simp[h30,h34,h39,h45]
 exact mi (v:=J (-1)) (v2:=J 0) Z Z Z ⟨by rw[hv],H.below⟩
 refine aw Z Z Z Z Z (fun w' hw'=>Yb Z)<|eU Z Z Z Z<|eU Z Z Z Z<|eU Z Z Z Z<|eU Z Z Z Z<|eU Z Z Z Z<|aw Z Z Z Z Z (fun w' hw'=>N Z Z)<|aw Z Z Z Z Z (fun w' hw'=>Yb Z)<|eU Z Z Z Z<|eU Z Z Z Z<|eU Z Z Z Z<|eU Z Z Z Z<|eU Z Z Z Z<|eU Z Z Z Z<|eU Z Z Z Z<|eU Z Z Z Z<|eU Z Z Z Z<|eU Z Z Z Z<|eU Z Z Z Z<|aw Z Z Z Z Z (fun w' hw'=>N Z Z)<|aw Z Z Z Z Z (fun w' hw'=>Yb Z)<|eU Z Z Z Z<|eU Z Z Z Z<|eU Z Z Z Z<|eU Z Z Z Z<|eU Z Z Z Z<|eU Z Z Z Z<|eU Z Z Z Z<|eU Z Z Z Z<|eU Z Z Z Z<|eU Z Z Z Z<|eU Z Z Z Z<|aw Z Z Z Z Z (fun w' hw'=>N Z Z)<|aU ?_
 intro w13 hw' hF
 replace H:=H.later hw';clear hw' hF
 refine U<|ZF Z<|Zk<|W<|Zr<|G (Wi Z)<|G (Wi Z)<|U<|Zt ?_
 have hv:fi es x=(-1,0):=by
  unfold fi;rw[if_neg h11,<-hp];unfold mt;simp[h30,h34,h39]
 exact mi (v:=J (-1)) (v2:=J 0) Z Z Z ⟨by rw[hv],H.below⟩
 refine G (Wb Z)<|U<|ZF Z<|W ?_
 refine bP cD [0,1,2,3,4,5,6,7] [] [] [0,2,3,4,6,7] (sp []) N N N N Nq (cO _) ?_
 refine aw Z Z Z Z Z (fun w' hw'=>Zf eI Z)<|aw Z Z Z Z Z (fun w' hw'=>bf al Z (aJ ((H.later hw').ent (i:=1) Z) Z))<|aw Z Z Z Z Z (fun w' hw'=>Yp Z)<|aw Z Z Z Z Z (fun w' hw'=>aI Z)<|aw Z Z Z Z Z (fun w' hw'=>Zf jR Z)<|aw Z Z Z Z Z (fun w' hw'=>bf al Z (aJ ((H.later hw').ent (i:=0) Z) Z)) ?_
 refine Cv Z Z Z Z Z (fun w' hw'=>kj Z Z) (fun h84=> ?_) (fun h84=> ?_)
 refine aw Z Z Z Z Z (fun w' hw'=>Wb Z)<|aU ?_
 intro w14 hw' hF
 replace H:=H.later hw';clear hw' hF
 refine U<|ZT Z<|Zr<|G (Yp Z)<|G (aI Z)<|G (Zf fv Z)<|bC H 0 (#[J pv_,J (-1),J po,J pm]) bV Z Z Z Z Z N N fun w15 H=>U<|W<|W ?_
 refine bP cD [0,1,2,3,4,5,6,7] [] [] [0,2,3,4,6,7] (sp []) N N N N Nq (cO _) ?_
 refine aw Z Z Z Z Z (fun w' hw'=>Zf fd Z)<|aw Z Z Z Z Z (fun w' hw'=>bf al Z (aJ ((H.later hw').ent (i:=1) Z) Z))<|aw Z Z Z Z Z (fun w' hw'=>Yp Z)<|aw Z Z Z Z Z (fun w' hw'=>aI Z)<|aw Z Z Z Z Z (fun w' hw'=>Zf fv Z)<|aw Z Z Z Z Z (fun w' hw'=>bf al Z (aJ ((H.later hw').ent (i:=0) Z) Z))<|aw Z Z Z Z Z (fun w' hw'=>bn Z Z I I) ?_
 refine Cv Z Z Z Z Z (fun w' hw'=>kj Z Z) (fun h95=> ?_) (fun h95=> ?_)
 refine aU ?_
 intro w16 hw' hF
 replace H:=H.later hw';clear hw' hF
 refine U<|ZT Z<|W<|Zr<|G (Wi Z)<|G (Wi Z)<|U<|Zt ?_
 replace h95:0<x.seq:=by omega
 have hv:fi es x=(0,11):=by
  unfold fi;rw[if_neg h11,<-hp];unfold mt;simp[h30,h34,h84,h95]
 exact mi (v:=J (0)) (v2:=J 11) Z Z Z ⟨by rw[hv],H.below⟩
 refine aU ?_
 intro w17 hw' hF
 replace H:=H.later hw';clear hw' hF
 refine U<|ZF Z<|Zk<|W<|W ?_
 refine bP cD [0,1,2,3,4,5,6,7] [] [] [0,2,3,4,6,7] (sp []) N N N N Nq (cO _) ?_
 refine aw Z Z Z Z Z (fun w' hw'=>Zf fd Z)<|aw Z Z Z Z Z (fun w' hw'=>bf al Z (aJ ((H.later hw').ent (i:=1) Z) Z))<|aw Z Z Z Z Z (fun w' hw'=>Yp Z)<|aw Z Z Z Z Z (fun w' hw'=>aI Z)<|aw Z Z Z Z Z (fun w' hw'=>Zf fv Z)<|aw Z Z Z Z Z (fun w' hw'=>bf al Z (aJ ((H.later hw').ent (i:=0) Z) Z))<|aw Z Z Z Z Z (fun w' hw'=>bn Z Z I I) ?_
 refine Cv Z Z Z Z Z (fun w' hw'=>br Z Z) (fun h103=> ?_) (fun h103=> ?_)
 refine aU ?_
 intro w18 hw' hF
 replace H:=H.later hw';clear hw' hF
 refine U<|ZT Z<|W<|Zr<|G (Wi Z)<|G (Wi Z)<|U<|Zt ?_
 replace h95: ¬ 0<x.seq:=by omega
 replace h103:x.seq=0:=by omega
 have hv:fi es x=(-1,0):=by
  unfold fi;rw[if_neg h11,<-hp];unfold mt;simp[h30,h34,h84,h95,h103]
 exact mi (v:=J (-1)) (v2:=J 0) Z Z Z ⟨by rw[hv],H.below⟩
 refine aU ?_
 intro w19 hw' hF
 replace H:=H.later hw';clear hw' hF
 refine U<|ZF Z<|Zk<|W<|W<|Zr<|G (Ys Z)<|G (bj eG Z)<|G (Yi Z)<|U<|Zb ?_
 refine bW (τ:=Nat) [4,5,7,8,106,107,108,109,110,111,112,113,114,115,116,117,118,119,120,121,122,123,124,125,126,127,128,129,130,131,132,133,134,135,136] (fun i=>[(106,J (i:Nat))]) (fun i w'=>i<=es.length/\(∀ j e,j<i->es[j]? =some e->kV x e=false)/\Hp w w' ((b,.cells #[J pv_,J (-1),J po,J pm] lQ (0,0))::(b3,.cells (cv.c x).toArray dz (0,0))::K) [d4 gV 0 w.heap.size A es]) (fun i=>es.length-i) 0 ⟨by omega,by intro j e hj;omega,H⟩ (dO Z) ?_
 rintro i ρ3 w20 ⟨hi,hno,H⟩
 show CW _ _ _ _ (dH (gT _ _ ρ3) [(106,J (i:Nat))]) w20
 refine W<|Zr ?_
 refine dq (cL Z Z) Z Z Z (fun h107=> ?_) (fun h107=> ?_)
 refine U<|W<|ZT Z<|Zk<|W<|Zb<|W<|Zr<|G (Yi Z)<|px H 0 Z dV Z Z I I Z fun b21 o21 x21 e21=>G (jL (xs:=cv.c x21) dI Z Z e21.cl)<|fg H gp Z fun w22 b8 H=>G (Wi Z)<|KT H 0 eV Z Z Z Z Z Z fun w23 H=>U<|W<|Zr<|G (Zf fc Z)<|G (Zd al H 0 Z Z Z) ?_
 refine dq (br Z Z) Z Z Z (fun h113=> ?_) (fun h113=> ?_)
 refine G (Yb Z)<|ZG<|G (Zf fo Z)<|ZG<|G (Zd al H 0 Z Z Z)<|ZG<|G (Zf fo Z)<|ZG<|G (Zd al H 2 Z Z Z)<|ZG ?_
 refine dq (br Z Z) Z Z Z (fun h119=> ?_) (fun h119=> ?_)
 refine G (Kt Z Z)<|G (Yb Z)<|ZG<|G (Zf eI Z)<|ZG<|G (Zd al H 0 Z Z Z)<|ZG<|G (Zf eI Z)<|ZG<|G (Zd al H 2 Z Z Z)<|ZG ?_
 refine dq (br Z Z) Z Z Z (fun h126=> ?_) (fun h126=> ?_)
 refine G (Kt Z Z)<|G (Yb Z)<|ZG<|G (Zf fd Z)<|ZG<|G (Zd al H 0 Z Z Z)<|ZG<|G (Zf fd Z)<|ZG<|G (Zd al H 2 Z Z Z)<|ZG ?_
 refine dq (br Z Z) Z Z Z (fun h133=> ?_) (fun h133=> ?_)
 refine G (Kt Z Z)<|U<|ZT Z<|W<|Zr<|G (Yi Z)<|G (Wi Z)<|G (Wi Z)<|U<|Zt ?_
 replace h95: ¬ 0<x.seq:=by omega
 replace h103: ¬ x.seq=0:=by omega
 have hdup:=Bj e21.at_ (by simp[kV,h113,h119,h126,h133]) hno
 have hv:fi es x=((i:Int),0):=by
  unfold fi;rw[if_neg h11,<-hp];unfold mt;simp[h30,h34,h84,h95,h103,hdup]
 exact mi (v:=J ((i:Int))) (v2:=J 0) Z Z Z ⟨by rw[hv],H.below⟩
 refine G (Kt Z Z)<|U<|ZF Z<|Zk<|Zr<|G (bn Z Z I I)<|G (Yi Z)<|U ?_
 refine⟨i+1,⟨by omega,fun j e hj he=> ?_,H.forget (aR _ _) (fun _ h=>h)⟩,dO Z,Qg,by show es.length- (i+1)<es.length-i;omega⟩
 by_cases hji:j<i
 exact hno j e hji he
 have:j=i:=by omega
 subst this;have he2:=e21.at_;rw[he]at he2;injection he2 with he2;subst he2
 simp[kV,h113,h119,h126,h133]
 refine G (Kt Z Z)<|G (Yb Z)<|ZN<|ZN<|ZN<|ZN<|ZN<|G (N Z Z)<|U<|ZF Z<|Zk<|Zr<|G (bn Z Z I I)<|G (Yi Z)<|U ?_
 refine⟨i+1,⟨by omega,fun j e hj he=> ?_,H.forget (aR _ _) (fun _ h=>h)⟩,dO Z,Qg,by show es.length- (i+1)<es.length-i;omega⟩
 by_cases hji:j<i
 exact hno j e hji he
 have:j=i:=by omega
 subst this;have he2:=e21.at_;rw[he]at he2;injection he2 with he2;subst he2
 simp[kV,h113,h119,h126]
 refine G (Kt Z Z)<|G (Yb Z)<|ZN<|ZN<|ZN<|ZN<|ZN<|G (N Z Z)<|G (Yb Z)<|ZN<|ZN<|ZN<|ZN<|ZN<|G (N Z Z)<|U<|ZF Z<|Zk<|Zr<|G (bn Z Z I I)<|G (Yi Z)<|U ?_
 refine⟨i+1,⟨by omega,fun j e hj he=> ?_,H.forget (aR _ _) (fun _ h=>h)⟩,dO Z,Qg,by show es.length- (i+1)<es.length-i;omega⟩
 by_cases hji:j<i
 exact hno j e hji he
 have:j=i:=by omega
 subst this;have he2:=e21.at_;rw[he]at he2;injection he2 with he2;subst he2
 simp[kV,h113,h119]
 refine G (Yb Z)<|ZN<|ZN<|ZN<|ZN<|ZN<|G (N Z Z)<|G (Yb Z)<|ZN<|ZN<|ZN<|ZN<|ZN<|G (N Z Z)<|G (Yb Z)<|ZN<|ZN<|ZN<|ZN<|ZN<|G (N Z Z)<|U<|ZF Z<|Zk<|Zr<|G (bn Z Z I I)<|G (Yi Z)<|U ?_
 refine⟨i+1,⟨by omega,fun j e hj he=> ?_,H.forget (aR _ _) (fun _ h=>h)⟩,dO Z,Qg,by show es.length- (i+1)<es.length-i;omega⟩
 by_cases hji:j<i
 exact hno j e hji he
 have:j=i:=by omega
 subst this;have he2:=e21.at_;rw[he]at he2;injection he2 with he2;subst he2
 simp[kV,h113]
 refine U<|W<|ZF Z<|Zx<|W<|Zr<|G (Wi Z)<|G (Wi Z)<|U<|Zt ?_
 replace h95: ¬ 0<x.seq:=by omega
 replace h103: ¬ x.seq=0:=by omega
 have hdup:=F6 (x:=x) (es:=es) (fun j e hj he=>hno j e I he)
 have hv:fi es x=(0,11):=by
  unfold fi;rw[if_neg h11,<-hp];unfold mt;simp[h30,h34,h84,h95,h103,hdup]
 exact mi (v:=J (0)) (v2:=J 11) Z Z Z ⟨by rw[hv],H.below⟩
 refine aw Z Z Z Z Z (fun w' hw'=>Wb Z)<|aU ?_
 intro w24 hw' hF
 replace H:=H.later hw';clear hw' hF
 refine U<|ZF Z<|Zk<|W<|W ?_
 refine bP cD [0,1,2,3,4,5,6,7] [] [] [0,2,3,4,6,7] (sp []) N N N N Nq (cO _) ?_
 refine aw Z Z Z Z Z (fun w' hw'=>Zf fd Z)<|aw Z Z Z Z Z (fun w' hw'=>bf al Z (aJ ((H.later hw').ent (i:=1) Z) Z))<|aw Z Z Z Z Z (fun w' hw'=>Yp Z)<|aw Z Z Z Z Z (fun w' hw'=>aI Z)<|aw Z Z Z Z Z (fun w' hw'=>Zf fv Z)<|aw Z Z Z Z Z (fun w' hw'=>bf al Z (aJ ((H.later hw').ent (i:=0) Z) Z))<|aw Z Z Z Z Z (fun w' hw'=>bn Z Z I I) ?_
 refine Cv Z Z Z Z Z (fun w' hw'=>kj Z Z) (fun h95=> ?_) (fun h95=> ?_)
 refine aU ?_
 intro w25 hw' hF
 replace H:=H.later hw';clear hw' hF
 refine U<|ZT Z<|W<|Zr<|G (Wi Z)<|G (Wi Z)<|U<|Zt ?_
 have hv:fi es x=(0,11):=by
  unfold fi;rw[if_neg h11,<-hp];unfold mt;simp[h30,h34,h84,h95]
 exact mi (v:=J (0)) (v2:=J 11) Z Z Z ⟨by rw[hv],H.below⟩
 refine aU ?_
 intro w26 hw' hF
 replace H:=H.later hw';clear hw' hF
 refine U<|ZF Z<|Zk<|W<|W ?_
 refine bP cD [0,1,2,3,4,5,6,7] [] [] [0,2,3,4,6,7] (sp []) N N N N Nq (cO _) ?_
 refine aw Z Z Z Z Z (fun w' hw'=>Zf fd Z)<|aw Z Z Z Z Z (fun w' hw'=>bf al Z (aJ ((H.later hw').ent (i:=1) Z) Z))<|aw Z Z Z Z Z (fun w' hw'=>Yp Z)<|aw Z Z Z Z Z (fun w' hw'=>aI Z)<|aw Z Z Z Z Z (fun w' hw'=>Zf fv Z)<|aw Z Z Z Z Z (fun w' hw'=>bf al Z (aJ ((H.later hw').ent (i:=0) Z) Z))<|aw Z Z Z Z Z (fun w' hw'=>bn Z Z I I) ?_
 refine Cv Z Z Z Z Z (fun w' hw'=>br Z Z) (fun h103=> ?_) (fun h103=> ?_)
 refine aU ?_
 intro w27 hw' hF
 replace H:=H.later hw';clear hw' hF
 refine U<|ZT Z<|W<|Zr<|G (Wi Z)<|G (Wi Z)<|U<|Zt ?_
 have hv:fi es x=(-1,0):=by
  unfold fi;rw[if_neg h11,<-hp];unfold mt;simp[h30,h34,h84,h95,h103]
 exact mi (v:=J (-1)) (v2:=J 0) Z Z Z ⟨by rw[hv],H.below⟩
 refine aU ?_
 intro w28 hw' hF
 replace H:=H.later hw';clear hw' hF
 refine U<|ZF Z<|Zk<|W<|W<|Zr<|G (Ys Z)<|G (bj eG Z)<|G (Yi Z)<|U<|Zb ?_
 refine bW (τ:=Nat) [4,5,7,8,106,107,108,109,110,111,112,113,114,115,116,117,118,119,120,121,122,123,124,125,126,127,128,129,130,131,132,133,134,135,136] (fun i=>[(106,J (i:Nat))]) (fun i w'=>i<=es.length/\(∀ j e,j<i->es[j]? =some e->kV x e=false)/\Hp w w' ((b,.cells #[J pv_,J ps,J po,J pm] lQ (0,0))::(b3,.cells (cv.c x).toArray dz (0,0))::K) [d4 gV 0 w.heap.size A es]) (fun i=>es.length-i) 0 ⟨by omega,by intro j e hj;omega,H⟩ (dO Z) ?_
 rintro i ρ3 w29 ⟨hi,hno,H⟩
 show CW _ _ _ _ (dH (gT _ _ ρ3) [(106,J (i:Nat))]) w29
 refine W<|Zr ?_
 refine dq (cL Z Z) Z Z Z (fun h107=> ?_) (fun h107=> ?_)
 refine U<|W<|ZT Z<|Zk<|W<|Zb<|W<|Zr<|G (Yi Z)<|px H 0 Z dV Z Z I I Z fun b30 o30 x30 e30=>G (jL (xs:=cv.c x30) dI Z Z e30.cl)<|fg H gp Z fun w31 b8 H=>G (Wi Z)<|KT H 0 eV Z Z Z Z Z Z fun w32 H=>U<|W<|Zr<|G (Zf fc Z)<|G (Zd al H 0 Z Z Z) ?_
 refine dq (br Z Z) Z Z Z (fun h113=> ?_) (fun h113=> ?_)
 refine G (Yb Z)<|ZG<|G (Zf fo Z)<|ZG<|G (Zd al H 0 Z Z Z)<|ZG<|G (Zf fo Z)<|ZG<|G (Zd al H 2 Z Z Z)<|ZG ?_
 refine dq (br Z Z) Z Z Z (fun h119=> ?_) (fun h119=> ?_)
 refine G (Kt Z Z)<|G (Yb Z)<|ZG<|G (Zf eI Z)<|ZG<|G (Zd al H 0 Z Z Z)<|ZG<|G (Zf eI Z)<|ZG<|G (Zd al H 2 Z Z Z)<|ZG ?_
 refine dq (br Z Z) Z Z Z (fun h126=> ?_) (fun h126=> ?_)
 refine G (Kt Z Z)<|G (Yb Z)<|ZG<|G (Zf fd Z)<|ZG<|G (Zd al H 0 Z Z Z)<|ZG<|G (Zf fd Z)<|ZG<|G (Zd al H 2 Z Z Z)<|ZG ?_
 refine dq (br Z Z) Z Z Z (fun h133=> ?_) (fun h133=> ?_)
 refine G (Kt Z Z)<|U<|ZT Z<|W<|Zr<|G (Yi Z)<|G (Wi Z)<|G (Wi Z)<|U<|Zt ?_
 have hdup:=Bj e30.at_ (by simp[kV,h113,h119,h126,h133]) hno
 have hv:fi es x=((i:Int),0):=by
  unfold fi;rw[if_neg h11,<-hp];unfold mt;simp[h30,h34,h84,h95,h103,hdup]
 exact mi (v:=J ((i:Int))) (v2:=J 0) Z Z Z ⟨by rw[hv],H.below⟩
 refine G (Kt Z Z)<|U<|ZF Z<|Zk<|Zr<|G (bn Z Z I I)<|G (Yi Z)<|U ?_
 refine⟨i+1,⟨by omega,fun j e hj he=> ?_,H.forget (aR _ _) (fun _ h=>h)⟩,dO Z,Qg,by show es.length- (i+1)<es.length-i;omega⟩
 by_cases hji:j<i
 exact hno j e hji he
 have:j=i:=by omega
 subst this;have he2:=e30.at_;rw[he]at he2;injection he2 with he2;subst he2
 simp[kV,h113,h119,h126,h133]
 refine G (Kt Z Z)<|G (Yb Z)<|ZN<|ZN<|ZN<|ZN<|ZN<|G (N Z Z)<|U<|ZF Z<|Zk<|Zr<|G (bn Z Z I I)<|G (Yi Z)<|U ?_
 refine⟨i+1,⟨by omega,fun j e hj he=> ?_,H.forget (aR _ _) (fun _ h=>h)⟩,dO Z,Qg,by show es.length- (i+1)<es.length-i;omega⟩
 by_cases hji:j<i
 exact hno j e hji he
 have:j=i:=by omega
 subst this;have he2:=e30.at_;rw[he]at he2;injection he2 with he2;subst he2
 simp[kV,h113,h119,h126]
 refine G (Kt Z Z)<|G (Yb Z)<|ZN<|ZN<|ZN<|ZN<|ZN<|G (N Z Z)<|G (Yb Z)<|ZN<|ZN<|ZN<|ZN<|ZN<|G (N Z Z)<|U<|ZF Z<|Zk<|Zr<|G (bn Z Z I I)<|G (Yi Z)<|U ?_
 refine⟨i+1,⟨by omega,fun j e hj he=> ?_,H.forget (aR _ _) (fun _ h=>h)⟩,dO Z,Qg,by show es.length- (i+1)<es.length-i;omega⟩
 by_cases hji:j<i
 exact hno j e hji he
 have:j=i:=by omega
 subst this;have he2:=e30.at_;rw[he]at he2;injection he2 with he2;subst he2
 simp[kV,h113,h119]
 refine G (Yb Z)<|ZN<|ZN<|ZN<|ZN<|ZN<|G (N Z Z)<|G (Yb Z)<|ZN<|ZN<|ZN<|ZN<|ZN<|G (N Z Z)<|G (Yb Z)<|ZN<|ZN<|ZN<|ZN<|ZN<|G (N Z Z)<|U<|ZF Z<|Zk<|Zr<|G (bn Z Z I I)<|G (Yi Z)<|U ?_
 refine⟨i+1,⟨by omega,fun j e hj he=> ?_,H.forget (aR _ _) (fun _ h=>h)⟩,dO Z,Qg,by show es.length- (i+1)<es.length-i;omega⟩
 by_cases hji:j<i
 exact hno j e hji he
 have:j=i:=by omega
 subst this;have he2:=e30.at_;rw[he]at he2;injection he2 with he2;subst he2
 simp[kV,h113]
 refine U<|W<|ZF Z<|Zx<|W<|Zr<|G (Wi Z)<|G (Wi Z)<|U<|Zt ?_
 have hdup:=F6 (x:=x) (es:=es) (fun j e hj he=>hno j e I he)
 have hv:fi es x=(0,11):=by
  unfold fi;rw[if_neg h11,<-hp];unfold mt;simp[h30,h34,h84,h95,h103,hdup]
 exact mi (v:=J (0)) (v2:=J 11) Z Z Z ⟨by rw[hv],H.below⟩
def Dx (es:List cv) (n i:Nat):List ByteArray:=match es[i]? with
 |some e=>if e.kind=1/\wS (es.take n) i e=true then [e.text]else []
 |none=>[]
def texts (es:List cv) (n a b:Nat):List ByteArray:=(List.range' a (b-a)).flatMap (Dx es n)
theorem zS (es:List cv) (n a:Nat):texts es n a a=[]:=by simp[texts]
theorem sL {es:List cv} {n a b:Nat} (h:a<=b):texts es n a (b+1)=texts es n a b++Dx es n b:=by
 unfold texts
 have e:b+1-a=(b-a)+1:=by omega
 rw[e,List.range'_1_concat,m4]
 have e2:a+(b-a)=b:=by omega
 simp[e2]
def y4 (es:List cv) (n st a most:Nat) (out:List ByteArray) (b:Nat):Prop:=a<=b/\(b=a∨b<=st)/\out=texts es n a b/\out.length<=most/\(st<=b∨out.length=most)/\ ∀ bq_,a<=bq_->bq_<b->(texts es n a bq_).length<most
theorem Nl (es:List cv) (A:Option Addr) (c n a most:Nat) (w:World) (hr:Rd gV 0 w.heap.size A es w) (hc:es.length<=c) (hb:es.length<=1000000) (hn:n<=es.length) (ha:a<=es.length) (hm1:1<=most) (hm2:most<=20):
  dt aa yU [.slice A es.length c,J (n:Nat),J (a:Nat),J (most:Nat)] w fun v w2=> ∃ (st:Nat) (out:List ByteArray) (b:Nat) (A':Option Addr) (c':Nat),ru (es.take n) st/\y4 es n st a most out b/\v=.tuple #[.slice A' out.length c',J (b:Nat),J 0]/\Rd my w.heap.size w2.heap.size A' out w2/\out.length<=c'/\Below w.heap.size w w2:=by
 refine aG xe Z Z ?_
 have H:=Hp.startRd hr
 refine W<|Zr<|G (Ws Z)<|G (Wi Z)<|G (Wi Z)<|U<|W<|Zr<|G (Ys Z)<|G (Yi Z)<|cz uw (CO es _ _ n _ (H.rd0 0 Z) hc hb hn) Z Z ?_
 rintro _ w1 ⟨st,hst,rfl,hb2⟩;replace H:=H.later hb2;clear hb2
 have hstl:st<=n:=by have:=hst.1;simp at this;omega
 refine G (Yu Z)<|G (Xi Z Z)<|G (Xi Z Z)<|G (Wi Z)<|G (Wi Z)<|U<|W<|W<|Zr<|G (Yi Z)<|G (ch Z Z Z)<|U<|ZF Z<|Zk<|W<|W<|Zr<|G (Yi Z)<|G (dn Z Z I)<|G (Yb Z)<|ZG<|G (Yi Z)<|ZG<|G (Ys Z)<|ZG<|G (bj eG Z)<|ZG<|G (eu Z Z I)<|G (N Z Z)<|G (Yb Z)<|ZG<|G (Yi Z)<|ZG<|G (dn Z Z I)<|G (N Z Z)<|G (Yb Z)<|ZG<|G (Yi Z)<|ZG<|G (eu Z Z I) ?_
 refine G (N Z Z)<|U<|ZF Z<|Zk<|W<|Zr<|G (Ws Z)<|U<|W<|Zr<|G (Yi Z)<|G (Wi Z)<|U<|W<|Zb ?_
 refine bW (τ:=Nat×List ByteArray×Option Addr×Nat) [13,14,41,42,43,44,45,46,47,48,49,50,51,52,53,54,55,56,57,58,59,60,61,62,63,64,65,66,67,68,69,70,71,72] (fun(at_,out,A1,c1)=>[(13,.slice A1 out.length c1),(14,J (at_:Nat))]) (fun(at_,out,A1,c1) w'=>a<=at_/\(at_=a∨at_<=st)/\out=texts es n a at_/\out.length<=most/\(∀ bq_,a<=bq_->bq_<at_->(texts es n a bq_).length<most)/\ ∃ L',gH my (.slice A1 out.length c1) qA out L'/\Hp w w' ([]++L'++[]) [d4 gV 0 w.heap.size A es]) (fun(at_,_,_,_)=>st-at_) (a,[],none,0) ⟨by omega,.inl Z,(zS _ _ _).symm,by simp,(fun _ _ _=>by omega),[],gH.nil,H⟩ (lE Z Z) ?_
 rintro⟨at_,out,A1,c1⟩ ρ1 w2 ⟨hat1,hat2,hout,hol,hmin,L1,ho,H⟩
 show CW _ _ _ _ (dH (gT _ _ ρ1) [(13,.slice A1 out.length c1),(14,J (at_:Nat))]) w2
 refine W<|W<|Zr<|G (Yi Z)<|G (Yi Z) ?_
 refine dq (cL Z Z) Z Z Z (fun h43=> ?_) (fun h43=> ?_)
 refine G (Yb Z)<|ZG<|G (Ys Z)<|ZG<|G (bj iX Z)<|ZG<|G (Yi Z)<|ZG ?_
 refine dq (cL Z Z) Z Z Z (fun h48=> ?_) (fun h48=> ?_)
 refine G (Kt Z Z)<|U<|ZT Z<|Zk<|W<|Zb<|W<|Zr<|G (Ys Z)<|G (Yi Z)<|px H 0 Z dV Z Z I I Z fun b3 o3 x3 e3=> ?_
 have hxt:(es.take n)[at_]? =some x3:=by rw[eY I];exact e3.at_
 refine G (Zf fc Z)<|G (bf al Z (e3.cl 4 _ Z)) ?_
 refine dq (br Z Z) Z Z Z (fun h57=> ?_) (fun h57=> ?_)
 refine G (Yb Z)<|ZG<|G (Ys Z)<|ZG<|G (Yi Z)<|ZG<|vU (k:=n) H 0 Z dV Z Z hc I Z fun A61 H=>ZG ?_
 have hK:=NU (es.take n) A61 c at_ x3 _ (H.rd0 0 Z) hxt (by simp;omega) (by simp;omega)
 rw[show(es.take n).length=n by simp;omega]at hK
 refine G (Yi Z)<|ZG<|cz Ez (hK) Z Z ?_
 rintro _ w4 ⟨rfl,hb2⟩;replace H:=H.later hb2;clear hb2
 refine G (Kt Z Z)<|U ?_
 refine kD Z (fun hc64=> ?_) (fun hc64=> ?_)
 refine Zr<|G (Ys Z)<|G (Ys Z)<|G (Yi Z)<|px H 1 Z dV Z Z I I Z fun b5 o5 x5 e5=>G (Zf qt Z)<|G (bf aZ Z (e5.cl 6 _ Z))<|uA (vs:=[.string x5.text]) H jw EM Z Z Z Z Z Z fun w6 b71 H=> ?_
 have hxx:x5=x3:=by have h1:=e3.at_;rw[e5.at_]at h1;injection h1
 refine xA (Y:=my) ww (K:=[(b71,_)]) (L:=L1) (M:=[]) H ho (news:=[x5.text]) Z Z Z (y3.row (m:=1) (sz:=1) (H.ent (i:=0) Z) Z) (by simp only[cF];omega) Z ?_
 intro A3 c3 w7 L3 h3a _ ho3 H
 refine G (Ws Z)<|U<|Zr<|G (Yi Z)<|G (bn Z Z I I)<|G (Wi Z)<|U ?_
 have hvis:Dx es n at_=[x5.text]:=by unfold Dx;rw[e3.at_];simp only;rw[if_pos ⟨h57,hc64⟩,hxx]
 refine⟨(at_+1,out++[x5.text],A3,c3),⟨by omega,.inr I,by rw[sL hat1,hvis,hout],by simp;omega,(fun bq_ h1 h2=>by rcases iS bq_ at_ with h3|h3;exact hmin bq_ h1 h3;rw[show bq_=at_ by omega,<-hout];omega),L3,ho3,H.forget (by simp) (by simp)⟩,lE Z Z,Qg,by show st- (at_+1)<st-at_;omega⟩
 refine Zk<|Zr<|G (Yi Z)<|G (bn Z Z I I)<|G (Wi Z)<|U ?_
 have hvis:Dx es n at_=[]:=by unfold Dx;rw[e3.at_];simp only;rw[if_neg (by rintro⟨p,q⟩;first|exact h57 p|(rw[hc64]at q;cases q))]
 refine⟨(at_+1,out,A1,c1),⟨by omega,.inr I,by rw[sL hat1,hvis,hout,aW],hol,(fun bq_ h1 h2=>by rcases iS bq_ at_ with h3|h3;exact hmin bq_ h1 h3;rw[show bq_=at_ by omega,<-hout];omega),L1,ho,H.forget (by simp) (by simp)⟩,lE Z Z,Qg,by show st- (at_+1)<st-at_;omega⟩
 refine G (Yb Z)<|ZN<|ZN<|ZN<|ZN<|ZN<|G (N Z Z)<|U<|ZF Z<|Zk<|Zr<|G (Yi Z)<|G (bn Z Z I I)<|G (Wi Z)<|U ?_
 have hvis:Dx es n at_=[]:=by unfold Dx;rw[e3.at_];simp only;rw[if_neg (by rintro⟨p,q⟩;first|exact h57 p|(rw[hc64]at q;cases q))]
 refine⟨(at_+1,out,A1,c1),⟨by omega,.inr I,by rw[sL hat1,hvis,hout,aW],hol,(fun bq_ h1 h2=>by rcases iS bq_ at_ with h3|h3;exact hmin bq_ h1 h3;rw[show bq_=at_ by omega,<-hout];omega),L1,ho,H.forget (by simp) (by simp)⟩,lE Z Z,Qg,by show st- (at_+1)<st-at_;omega⟩
 refine G (Kt Z Z)<|U<|ZF Z<|Zx<|W<|Zr<|G (Ys Z)<|G (Yi Z)<|G (Ws Z)<|G (Wi Z)<|G (Wi Z)<|U<|Zt ?_
 obtain⟨A2,c2,he,hlc,-⟩:=ho.form
 injection he with h1 h2 h3
 subst h3
 exact Hy Z Z Z Z ⟨st,out,at_,A1,c1,hst,⟨hat1,hat2,hout,hol,by omega,hmin⟩,rfl,ho.rd H,hlc,H.below⟩
 refine G (Yb Z)<|ZN<|ZN<|ZN<|ZN<|G (N Z Z)<|U<|ZF Z<|Zx<|W<|Zr<|G (Ys Z)<|G (Yi Z)<|G (Ws Z)<|G (Wi Z)<|G (Wi Z)<|U<|Zt ?_
 obtain⟨A2,c2,he,hlc,-⟩:=ho.form
 injection he with h1 h2 h3
 subst h3
 exact Hy Z Z Z Z ⟨st,out,at_,A1,c1,hst,⟨hat1,hat2,hout,hol,by omega,hmin⟩,rfl,ho.rd H,hlc,H.below⟩
/-- what IndexFunc answers -/
def lI:Option Nat->Int
 |some i=>i
 |none=> -1
theorem Rd.blk {α:Type} {Y:fq α} {w:World} {b:Nat} {cs:Array Value} {T:TypeId} {fr:Nat×Nat} {es:List α} (h:w.heap[b]? =some (.cells cs T fr)) (hc:cs.toList=Y.all es):Rd Y 0 w.heap.size (Qd b) es w:=
 fun _=>⟨b,0,rfl,bx _,bU h,fun j u hj=>by rw[cE];exact aJ h (by rw[<-hc]at hj;simpa using hj)⟩
def Pp:cv:=⟨0,0,0,0,1,false,⟨#[97]⟩⟩
inductive tW:List cv->Prop
 |nil:tW []
 |snoc {es:List cv} {x:cv}:tW es->(fi es x).2=0->(fi es x).1<0->tW (es++[x])
theorem K5 {l:List cv} {f:cv} (h:tW (l++[f])):tW l/\(fi l f).2=0/\(fi l f).1<0:=by
 generalize hl:l++[f]=m at h
 cases h with
 |nil=>simp at hl
 |snoc hs a b=>
  obtain⟨rfl,hx⟩:=List.append_inj' hl Z
  simp at hx
  subst hx
  exact⟨hs,a,b⟩
theorem tW.take {es:List cv} (h:tW es): ∀ k,tW (es.take k):=by
 induction h with
 |nil=>intro k;simp;exact .nil
 |@snoc es x h h1 h2 ih=>
  intro k
  by_cases hk:k<=es.length
  rw[kI hk];exact ih k
  rw[dS (by simp;omega)];exact .snoc h h1 h2
def BK (es:List cv) (pid ver:Int):Nat:=(es.filter fun e=>decide (e.kind=1)&&decide (e.pid=pid)&&decide (e.ver=ver)).length
theorem ut (es:List cv) (x:cv) (pid ver:Int):BK (es++[x]) pid ver=BK es pid ver+if x.kind=1/\x.pid=pid/\x.ver=ver then 1 else 0:=by
 unfold BK
 rw[jh,ax]
 congr 1
 by_cases h1:x.kind=1<;>by_cases h2:x.pid=pid<;>by_cases h3:x.ver=ver<;>simp[h1,h2,h3]
theorem Gc {es:List cv} {a b:Nat} (h:a<=b) (pid ver:Int):BK (es.take a) pid ver<=BK (es.take b) pid ver:=by
 unfold BK
 refine List.Sublist.length_le (List.Sublist.filter _ ?_)
 have:es.take a=(es.take b).take a:=by rw[dv,bB h]
 rw[this]
 exact List.take_sublist _ _
theorem xn {es:List cv} {pid ver:Int} (h: ∀ e∈es,e.pid=pid->e.ver≠ver):BK es pid ver=0:=by
 unfold BK
 rw[List.length_eq_zero_iff,wD]
 intro e he hc
 simp at hc
 exact h e he hc.1.2 hc.2
theorem EO {es:List cv} {x:cv} (h0:x.pid≠0) (h1:(fi es x).2=0) (h2:(fi es x).1<0) {p:Prod} (hp:p=(fO es x.pid).getD ⟨x.ver,-1,-1,-1⟩):p.ver<=x.ver/\(x.kind=1->x.seq=(if p.ver<x.ver then-1 else p.seq)+1):=by
 unfold fi at h1 h2
 rw[if_neg h0,<-hp]at h1 h2
 unfold mt at h1 h2
 split at h1
 simp at h1
 rename_i hv
 rw[if_neg hv]at h2
 refine⟨by omega,fun hk=> ?_⟩
 rw[if_neg (fun h=>h hk)]at h1 h2
 generalize (if p.ver<x.ver then(-1:Int)else p.seq)=s at h1 h2⊢
 split at h1
 simp at h1
 rename_i hg
 rw[if_neg hg]at h2
 split at h1
 assumption
 rename_i hs
 rw[if_neg hs]at h2
 exfalso
 split at h1
 rename_i i hi
 rw[hi]at h2
 simp at h2
 omega
 simp at h1
theorem xQ {es:List cv} (h:tW es): ∀ pid,pid≠0->(∀ p,fO es pid=some p->(∀ e∈es,e.pid=pid->e.ver<=p.ver)/\p.seq=(BK es pid p.ver:Int)-1):=by
 induction h with
 |nil=>intro pid _ p hp;cases hp
 |@snoc es x h h1 h2 ih=>
  intro pid h0 p hp
  rw[qd]at hp
  by_cases hx:x.pid=pid
  subst hx
  rw[if_pos ⟨h0,rfl⟩]at hp
  injection hp with hp
  obtain⟨v1,v2⟩:=EO h0 h1 h2 Z
  have hver:p.ver=x.ver:=by
   rw[<-hp];unfold fj pv
   split<;>(split<;>(try split)<;>simp_all)
  have hle: ∀ e∈es,e.pid=x.pid->e.ver<=x.ver:=fun e he hpe=>by
   cases hq:fO es x.pid with
   |none=>exact absurd hpe.symm (fun h=>h0 ((jN es x.pid).2 hq e he hpe))
   |some q=>
    rw[hq]at v1
    have:=(ih x.pid h0 q hq).1 e he hpe
    simp at v1
    omega
  refine⟨fun e he hpe=> ?_,?_⟩
  rw[hver]
  rcases aq.1 he with he|he
  exact hle e he hpe
  rw[ar.1 he];exact ff _
  rw[hver,ut]
  have hold:(pv x ((fO es x.pid).getD p0)).seq=(BK es x.pid x.ver:Int)-1:=by
   cases hq:fO es x.pid with
   |none=>
    have hz:BK es x.pid x.ver=0:=xn fun e he hpe=>absurd ((jN es x.pid).2 hq e he hpe) h0
    rw[hz];unfold pv;simp only[Option.getD_none];split<;>simp[p0]
   |some q=>
    obtain⟨i1,i2⟩:=ih x.pid h0 q hq
    unfold pv
    simp only[Option.getD_some]
    split
    rename_i hne
    rw[hq]at v1
    simp at v1
    have hz:BK es x.pid x.ver=0:=xn fun e he hpe hev=>by have:=i1 e he hpe;omega
    rw[hz];rfl
    rename_i heq
    have:x.ver=q.ver:=Classical.not_not.1 heq
    rw[i2,this]
  by_cases hk:x.kind=1
  rw[if_pos ⟨hk,rfl,rfl⟩]
  have hs:=v2 hk
  have hseq:p.seq=x.seq:=by
   rw[<-hp];unfold fj
   rw[if_neg (fun h=>h hk)]
   split<;>rfl
  have hcnt:x.seq=(BK es x.pid x.ver:Int):=by
   cases hq:fO es x.pid with
   |none=>
    have hz:BK es x.pid x.ver=0:=xn fun e he hpe=>absurd ((jN es x.pid).2 hq e he hpe) h0
    rw[hq]at hs;simp at hs;omega
   |some q=>
    obtain⟨i1,i2⟩:=ih x.pid h0 q hq
    rw[hq]at hs v1
    simp at hs v1
    by_cases hlt:q.ver<x.ver
    rw[if_pos hlt]at hs
    have hz:BK es x.pid x.ver=0:=xn fun e he hpe hev=>by have:=i1 e he hpe;omega
    omega
    rw[if_neg hlt]at hs
    have:q.ver=x.ver:=by omega
    rw[this]at i2
    omega
  omega
  rw[if_neg (fun h=>hk h.1)]
  have hseq:p.seq=(pv x ((fO es x.pid).getD p0)).seq:=by
   rw[<-hp];unfold fj
   rw[if_pos hk]
  rw[hseq,hold];simp
  rw[if_neg (fun h=>hx h.2)]at hp
  obtain⟨i1,i2⟩:=ih pid h0 p hp
  refine⟨fun e he hpe=> ?_,?_⟩
  rcases aq.1 he with he|he
  exact i1 e he hpe
  rw[ar.1 he]at hpe;exact absurd hpe hx
  rw[ut,if_neg (fun h=>hx h.2.1),i2];simp
theorem K4 {es:List cv} (h:tW es) {j:Nat} {f:cv} (hj:es[j]? =some f) (h0:f.pid≠0): ∀ e∈es.take j,e.pid=f.pid->e.ver<=f.ver:=by
 have h1:=h.take (j+1)
 rw[dY hj]at h1
 generalize es.take j=l at h1⊢
 obtain⟨hs,a,b⟩:=K5 h1
 intro e he hpe
 obtain⟨v1,-⟩:=EO h0 a b Z
 cases hq:fO l f.pid with
 |none=>exact absurd ((jN l f.pid).2 hq e he hpe) h0
 |some q=>
  rw[hq]at v1
  simp at v1
  have:=(xQ hs f.pid h0 q hq).1 e he hpe
  omega
theorem E4 {es:List cv} (h:tW es) {j:Nat} {f:cv} (hj:es[j]? =some f) (h0:f.pid≠0) (hk:f.kind=1):f.seq=(BK (es.take j) f.pid f.ver:Int):=by
 have h1:=h.take (j+1)
 rw[dY hj]at h1
 have h2:=xQ h1 f.pid h0 _ (by rw[qd,if_pos ⟨h0,rfl⟩])
 have hver:(fj (es.take j).length f ((fO (es.take j) f.pid).getD p0)).ver=f.ver:=by
  unfold fj pv
  split<;>(split<;>(try split)<;>simp_all)
 have hseq:(fj (es.take j).length f ((fO (es.take j) f.pid).getD p0)).seq=f.seq:=by
  unfold fj
  rw[if_neg (fun h=>h hk)]
  split<;>rfl
 rw[hver,hseq,ut,if_pos ⟨hk,rfl,rfl⟩]at h2
 omega
theorem Jd {es:List cv} (h: ∀ e∈es,nW e):seqB es:=fun e he=>by
 obtain⟨_,_,h3,_⟩:=qY (h e he)
 have:=h3 e.seq (by simp[cv.nums])
 omega
def later (es:List cv) (k:Nat) (x:cv):Bool:=(es.drop k).any fun y=>decide (y.pid=x.pid)&&decide (x.ver<y.ver)
theorem GB {es:List cv} {x:cv} {k:Nat} (hk:es[k]? =some x) (h0:x.pid≠0): ∃ p,fO es x.pid=some p:=by
 cases hq:fO es x.pid with
 |none=>exact absurd ((jN es x.pid).2 hq x (ab hk) Z) h0
 |some p=>exact⟨p,rfl⟩
theorem GC {es:List cv} (h:tW es) {k:Nat} {x:cv} (hk:es[k]? =some x) (h0:x.pid≠0) (hl:later es k x=false) (hd:x.kind=1):fi es x=((k:Int),0):=by
 obtain⟨p,hp⟩:=GB hk h0
 obtain⟨l1,l2⟩:=xQ h x.pid h0 p hp
 have hkl:=(cu hk).1
 have hxle:=l1 x (ab hk) Z
 have hver:p.ver=x.ver:=by
  obtain⟨e,he,hpe,hve⟩:=((jN es x.pid).1 p hp).ver
  obtain⟨j,hj⟩:=aM.1 he
  by_cases hjk:j<k
  have:=K4 h hk h0 e (ab (by rw[eY hjk];exact hj)) hpe
  omega
  have hmem:e∈es.drop k:=ab (i:=j-k) (by rw[dk,show k+(j-k)=j by omega];exact hj)
  have hnl:=uH.1 hl e hmem
  simp[hpe]at hnl
  omega
 have hseq:=E4 h hk h0 hd
 have hc1:BK (es.take (k+1)) x.pid x.ver=BK (es.take k) x.pid x.ver+1:=by
  rw[dY hk,ut,if_pos ⟨hd,rfl,rfl⟩]
 have hc2:BK (es.take (k+1)) x.pid x.ver<=BK es x.pid x.ver:=by
  have:=Gc (es:=es) (a:=k+1) (b:=es.length) I x.pid x.ver
  rwa[bM]at this
 rw[hver]at l2
 have hdup:es.findIdx? (kV x)=some k:=Bj hk (by simp[kV,hd]) fun j e hj he=>by
  by_cases hi:kV x e=true
  exfalso
  simp[kV]at hi
  obtain⟨⟨⟨a1,a2⟩,a3⟩,a4⟩:=hi
  have s1:=E4 h he (by rw[a2];exact h0) a1
  rw[a2,a3]at s1
  have s2:BK (es.take (j+1)) x.pid x.ver=BK (es.take j) x.pid x.ver+1:=by
   rw[dY he,ut,if_pos ⟨a1,a2,a3⟩]
  have s3:=Gc (es:=es) (a:=j+1) (b:=k) I x.pid x.ver
  omega
  simpa using hi
 unfold fi
 rw[if_neg h0,hp]
 unfold mt
 simp only[Option.getD_some,hver]
 rw[if_neg I,if_neg (fun h=>h hd),if_neg (by omega: ¬ x.ver<x.ver),if_neg I,if_neg I,hdup]
theorem Cj (es:List UInt8) (A:Option Addr) (c:Nat) (w:World) (hr:Rd dN 0 w.heap.size A es w) (hb:es.length*1<=140737488355328):
  dt aa kW [.slice A es.length c] w fun v w2=> ∃ A' c' L',v=.slice A' es.length c'/\es.length<=c'/\c'<=maxLen/\gH dN (.slice A' es.length c') mY es L'/\Hp w w2 L' []:=by
 refine aG qo Z Z ?_
 have H:=Hp.startRd hr
 refine W<|Zr<|G (Ws Z)<|U<|W<|W<|Zr<|G (Ys Z) ?_
 refine zB (pO eW Z) Z Z Z (fun h4=> ?_) (fun h4=> ?_)
 refine U<|ZT Z<|W<|Zr<|G (Ws Z)<|U<|Zt ?_
 have he:es=[]:=by
  cases es with
  |nil=>rfl
  |cons e es=>obtain⟨b,o,hA,_⟩:=hr (by simp);subst hA;cases h4
 subst he
 exact cn Z Z ⟨none,0,[],rfl,by simp,by decide,gH.nil,H.forget (by simp) (by simp)⟩
 refine U<|ZF Z<|Zk<|W<|Zr<|Od H ey Z fun w1 b5 H=>G (Ys Z)<|xA (Y:=dN) oP (K:=[]) (L:=[(b5,_)]) (M:=[]) H (rV.lit (by decide) (by rfl)) (es:=[]) (news:=es) Z Z Z (Rd.src (H.fact (i:=0) Z)) (by simpa using hb) Z ?_
 intro A3 c3 w3 L3 h3a h3b ho3 H
 refine G (Ws Z)<|U<|Zt ?_
 exact cn Z Z ⟨A3,c3,L3,rfl,h3a,h3b,ho3,H.forget (by simp) (by simp)⟩
theorem tj (es:List Int) (A:Option Addr) (c:Nat) (w:World) (hr:Rd bN 0 w.heap.size A es w) (hb:es.length*8<=140737488355328):
  dt aa lX [.slice A es.length c] w fun v w2=> ∃ A' c' L',v=.slice A' es.length c'/\es.length<=c'/\c'<=maxLen/\gH bN (.slice A' es.length c') da es L'/\Hp w w2 L' []:=by
 refine aG rG Z Z ?_
 have H:=Hp.startRd hr
 refine W<|Zr<|G (Ws Z)<|U<|W<|W<|Zr<|G (Ys Z) ?_
 refine zB (pO eA Z) Z Z Z (fun h4=> ?_) (fun h4=> ?_)
 refine U<|ZT Z<|W<|Zr<|G (Ws Z)<|U<|Zt ?_
 have he:es=[]:=by
  cases es with
  |nil=>rfl
  |cons e es=>obtain⟨b,o,hA,_⟩:=hr (by simp);subst hA;cases h4
 subst he
 exact cn Z Z ⟨none,0,[],rfl,by simp,by decide,gH.nil,H.forget (by simp) (by simp)⟩
 refine U<|ZF Z<|Zk<|W<|Zr<|Od H bd Z fun w1 b5 H=>G (Ys Z)<|xA (Y:=bN) zG (K:=[]) (L:=[(b5,_)]) (M:=[]) H (rV.lit (by decide) (by rfl)) (es:=[]) (news:=es) Z Z Z (Rd.src (H.fact (i:=0) Z)) (by simpa using hb) Z ?_
 intro A3 c3 w3 L3 h3a h3b ho3 H
 refine G (Ws Z)<|U<|Zt ?_
 exact cn Z Z ⟨A3,c3,L3,rfl,h3a,h3b,ho3,H.forget (by simp) (by simp)⟩

/-- a row of rows of bytes -/
abbrev RB:=Option Addr×List UInt8×Nat
def K8:fq RB:=⟨fun p=>[.slice p.1 p.2.1.length p.2.2],1,fun _=>rfl,by decide,fun a u hu=>by
 simp only[av,bu,or_false]at hu
 subst hu;rfl⟩
def xH (ps:List RB):List UInt8:=ps.flatMap fun p=>p.2.1
theorem uz {ps:List RB} {k:Nat} {p:RB} (h:ps[k]? =some p):xH (ps.take (k+1))=xH (ps.take k)++p.2.1:=by
 rw[dY h];simp[xH]
theorem EE (ps:List RB) (k:Nat):(xH (ps.take k)).length<=(xH ps).length:=by
 have:xH ps=xH (ps.take k)++xH (ps.drop k):=by unfold xH;rw[<-m4,gQ]
 rw[this];simp
theorem Jt {g cp:Nat} {cur:Array Value} (h:cur.size=cp*1) (hm:cp<=maxLen):gH dN (.slice (Qd g) 0 cp) mY [] [(g,.cells cur mY (0,0))]:=
 ⟨by simp[fq.all],.inr ⟨g,cp,cur,rfl,rfl,bx _,hm,h,by simp[fq.all]⟩⟩
theorem N2 (n:Nat) (w:World) (hn:n<=1000000):dt aa ry [.slice none 0 0,J (n:Nat)] w fun v w2=> ∃ A' c' L',v=.slice A' 0 c'/\gH dN (.slice A' 0 c') mY [] L'/\Hp w w2 L' []:=by
 refine aG qJ Z Z ?_
 have H:=Hp.start w
 refine W<|Zr<|G (Ws Z)<|U<|W<|W<|Zr<|G (Yi Z)<|G (dn Z Z I)<|U<|ZF Z<|Zk<|W<|W<|Zr<|G (Yi Z)<|G (Ys Z)<|G (EF eW Z)<|G (Ys Z)<|G (bj eW Z)<|G (ng Z Z I I)<|G (ng Z Z I I)<|G (Wi Z)<|U<|W<|Zr<|G (Yi Z) ?_
 refine dq (kj Z Z) Z Z Z (fun h16=> ?_) (fun h16=> ?_)
 refine U<|ZT Z<|Zr<|G (Ys Z)<|G (Ys Z)<|G (EF eW Z)<|G (DJ (i:=0) ey Z Z I I)<|G (Yi Z)<|Q4 (m:=n) oP iY H Z (by show Value.int .i64 _=_;congr 1) I I Z fun w1 g cp cur hcs hncp hcpm H=>G (Ys Z)<|G (bj eW Z)<|zW ey Z Z I I Z fun A25 hA25=> ?_
 obtain rfl:=hA25 I
 refine G (Ws Z)<|U<|W<|Zr<|G (Ys Z)<|G (Ws Z)<|U<|Zt ?_
 exact cn Z Z ⟨_,_,_,rfl,Jt hcs hcpm,H⟩
 refine U<|ZF Z<|Zk<|W<|Zr<|G (Ys Z)<|G (Ws Z)<|U<|Zt ?_
 exact cn Z Z ⟨none,0,[],rfl,gH.nil,H⟩
theorem u7 (ps:List RB) (A:Option Addr) (c:Nat) (w:World) (hr:Rd K8 0 w.heap.size A ps w) (hp: ∀ p∈ps,Rd dN 0 w.heap.size p.1 p.2.1 w) (hb:(xH ps).length<=1000000) (hl:ps.length<=1000):
  dt aa ql [.slice A ps.length c] w fun v w2=> ∃ A' c' L',v=.slice A' (xH ps).length c'/\(xH ps).length<=c'/\c'<=maxLen/\gH dN (.slice A' (xH ps).length c') mY (xH ps) L'/\Hp w w2 L' []:=by
 refine aG pX Z Z ?_
 have H:=Hp.startRd hr
 refine W<|Zr<|G (Ws Z)<|U<|W<|Zr<|G (Wi Z)<|U<|W<|W<|Zr<|G (Ys Z)<|G (bj Az Z)<|G (Yi Z)<|U<|Zb ?_
 refine bW (τ:=Nat) [3,5,11,12,13,14,15,16,17,18,19,20,21,22] (fun k=>[(3,J ((xH (ps.take k)).length:Nat)),(11,J (k:Nat))]) (fun k w'=>k<=ps.length/\Hp w w' [] [d4 K8 0 w.heap.size A ps]) (fun k=>ps.length-k) 0 ⟨by omega,H⟩ (lE Z Z) ?_
 rintro k ρ1 w1 ⟨hk,H⟩
 show CW _ _ _ _ (dH (gT _ _ ρ1) [(3,J ((xH (ps.take k)).length:Nat)),(11,J (k:Nat))]) w1
 have hle:=EE ps k
 refine W<|Zr ?_
 refine dq (cL Z Z) Z Z Z (fun h12=> ?_) (fun h12=> ?_)
 refine U<|W<|ZT Z<|Zk<|W<|Zb<|W<|Zr<|px H 0 Z r7 Z Z I I Z fun b2 o2 x2 e2=> ?_
 have hle2:=EE ps (k+1)
 rw[uz e2.at_,ax]at hle2
 refine G (bf eO Z (e2.cl 0 _ Z))<|G (Ws Z)<|U<|W<|Zr<|G (Yi Z)<|G (Ys Z)<|G (bj eW Z)<|G (bn Z Z I I)<|G (Wi Z)<|U<|W<|Zr<|G (Yi Z)<|G (dn Z Z I)<|U<|ZF Z<|Zk<|Zr<|G (bn Z Z I I)<|G (Yi Z)<|U ?_
 refine⟨k+1,⟨by omega,H⟩,lE (by rw[uz e2.at_,ax];rfl) Z,Qg,by show ps.length- (k+1)<ps.length-k;omega⟩
 refine U<|W<|ZF Z<|Zx<|W<|Zr<|G (Yi Z)<|cz qN (N2 (xH (ps.take k)).length _ I) Z Z ?_
 rintro _ w3 ⟨A24,c24,L24,rfl,ho24,hj24⟩;replace H:=H.join hj24;clear hj24
 refine G (Ws Z)<|U<|W<|W<|Zr<|G (Ys Z)<|G (bj Az Z)<|G (Yi Z)<|U<|Zb ?_
 refine bW (τ:=Nat×Option Addr×Nat) [6,8,27,28,29,30,31,32,33,34] (fun(j,Ag,cg)=>[(6,.slice Ag (xH (ps.take j)).length cg),(27,J (j:Nat))]) (fun(j,Ag,cg) w'=>j<=ps.length/\ ∃ L',gH dN (.slice Ag (xH (ps.take j)).length cg) mY (xH (ps.take j)) L'/\Hp w w' ([]++L'++[]) [d4 K8 0 w.heap.size A ps]) (fun(j,_,_)=>ps.length-j) (0,A24,c24) ⟨by omega,L24,ho24,by simpa using H⟩ (lE Z Z) ?_
 rintro⟨j,Ag,cg⟩ ρ2 w4 ⟨hj,L1,ho,H⟩
 show CW _ _ _ _ (dH (gT _ _ ρ2) [(6,.slice Ag (xH (ps.take j)).length cg),(27,J (j:Nat))]) w4
 have hle:=EE ps j
 refine W<|Zr ?_
 refine dq (cL Z Z) Z Z Z (fun h28=> ?_) (fun h28=> ?_)
 refine U<|W<|ZT Z<|Zk<|W<|Zb<|W<|Zr<|px H 0 Z r7 Z Z I I Z fun b5 o5 x5 e5=> ?_
 have hle2:=EE ps (j+1)
 rw[uz e5.at_,ax]at hle2
 have hpx:=(hp _ (ab e5.at_)).below H.below
 refine G (bf eO Z (e5.cl 0 _ Z))<|G (Ws Z)<|U<|Zr<|G (Ys Z)<|G (Ys Z)<|xA (Y:=dN) oP (K:=[]) (L:=L1) (M:=[]) H ho (news:=x5.2.1) Z Z Z (Rd.src hpx) I Z ?_
 intro A3 c3 w6 L3 h3a _ ho3 H
 refine G (Ws Z)<|U<|Zr<|G (bn Z Z I I)<|G (Yi Z)<|U ?_
 refine⟨(j+1,A3,c3),⟨by omega,L3,by rw[uz e5.at_];exact ho3,H⟩,lE (by rw[uz e5.at_];rfl) Z,Qg,by show ps.length- (j+1)<ps.length-j;omega⟩
 refine U<|W<|ZF Z<|Zx<|W<|Zr<|G (Ys Z)<|G (Ws Z)<|U<|Zt ?_
 have hjp:j=ps.length:=by omega
 subst hjp
 rw[bM]at ho
 obtain⟨A2,c2,he,hlc,hmx⟩:=ho.form
 injection he with h1 h2 h3
 subst h3
 exact cn (v:=.slice Ag (xH (ps.take ps.length)).length cg) Z Z ⟨Ag,cg,L1,by rw[bM],hlc,hmx,ho,H.forget (by simp) (by simp)⟩
theorem Hx (es:List cv) (s:Nat):bH es=bH (es.take s)++bH (es.drop s):=by
 unfold bH;rw[<-m4,gQ]
theorem xN (es:List cv) (s:Nat):(bH es).take (bH (es.take s)).length=bH (es.take s):=by
 rw[Hx es s]
 exact List.take_left' Z
theorem Mg (a b:List cv):bH (a++b)=bH a++bH b:=by simp[bH]
structure oT where
 A:Option Addr
 cap:Nat
 es:List cv
 s:Nat
abbrev iK (es:List cv) (s:Nat):Nat:=(bH (es.take s)).length
def oT.c (l:oT):List Value:=[.slice l.A (bH l.es).length l.cap,J (iK l.es l.s:Nat)]
structure GL (es:List cv) (s:Nat):Prop where
 good: ∀ e∈es,nW e
 len:es.length<=400
 sz:(bH es).length<=40000
 sle:s<=es.length
structure oT.ok (l:oT) (w:World):Prop where
 gl:GL l.es l.s
 cap:(bH l.es).length<=l.cap
 rd:Rd dN 0 w.heap.size l.A (bH l.es) w
theorem xm {es:List cv} {s:Nat} (h:GL es s):Ky (bH (es.take s)) (es.take s) (iK es s):=uo _ fun e he=>h.good e (qE _ _ he)
theorem yK (l:oT) (w:World) (h:l.ok w):dt aa yV [.agg l.c.toArray] w fun v w2=>v=J 0/\Below w.heap.size w w2:=by
 refine aG Ek Z Z ?_
 have hgl:=h.gl
 have hcap:=h.cap
 have hsz:=hgl.sz
 have hln:=hgl.len
 have hsle:=hgl.sle
 have hss:iK l.es l.s<=(bH l.es).length:=fR l.es l.s
 have H:=Hp.startRd h.rd
 obtain⟨lA,lc,es,s⟩:=l
 dsimp only at hgl hcap hsz hln hsle hss H
 have hss2:(bH (es.take s)).length<=(bH es).length:=hss
 show CW _ _ _ _ (args [.agg #[.slice lA (bH es).length lc,J (iK es s:Nat)]]) w
 refine W<|Zr<|gM H Z Z fun w1 b1 H=>G (Wi Z)<|U<|W<|W<|Zr<|G (Zf i5 Z)<|G (Zd eO H 0 Z Z Z)<|G (bj eW Z)<|G (eu Z Z I)<|U<|ZF Z<|Zk<|W<|Zr<|G (Zf i5 Z)<|G (Zd eO H 0 Z Z Z)<|cz mR (u5 (bH es) _ _ _ (H.rd0 0 Z) hcap I) Z Z ?_
 have hlo14:=H.size
 rintro _ w2 ⟨ds,nd,A14,c14,rfl,hd,hr14,hc14,hb14⟩;replace H:=H.learnRd hb14 hr14;clear hr14 hb14
 have hde:=(qZ hd (uo es hgl.good)).1.symm
 have hdn:=(qZ hd (uo es hgl.good)).2.symm
 subst hde;subst hdn;clear hd
 refine G (Yu Z)<|G (Xs Z Z)<|G (Xi Z Z)<|G (Ws Z)<|G (Wi Z)<|U<|W<|W<|Zr<|G (Yi Z)<|G (Zf i5 Z)<|G (Zd eO H 0 Z Z Z)<|G (bj eW Z)<|G (ch Z Z Z)<|G (Yb Z)<|ZG<|G (Ys Z)<|ZG<|G (bj eG Z)<|ZG<|G (eu Z Z I)<|G (N Z Z)<|U<|ZF Z<|Zk<|W<|W<|Zr<|G (Zf oH Z)<|G (Zd al H 0 Z Z Z)<|G (dn Z Z I)<|G (Yb Z)<|ZG<|G (Zf oH Z)<|ZG<|G (Zd al H 0 Z Z Z)<|ZG<|G (Yi Z)<|ZG<|G (eu Z Z I) ?_
 refine G (N Z Z)<|U<|ZF Z<|Zk<|W<|W<|Zr<|G (Zf i5 Z)<|G (Zd eO H 0 Z Z Z)<|G (Zf oH Z)<|G (Zd al H 0 Z Z Z)<|vU (k:=iK es s) H 1 Z ey Z Z hcap I Z fun A41 H=> ?_
 rw[xN]at H
 refine cz mR (u5 (bH (es.take s)) _ _ _ (H.rd0 0 Z) I I) Z Z ?_
 have hlo42:=H.size
 rintro _ w3 ⟨ds,nd,A42,c42,rfl,hd,hr42,hc42,hb42⟩;replace H:=H.learnRd hb42 hr42;clear hr42 hb42
 have hde:=(qZ hd (xm hgl)).1.symm
 have hdn:=(qZ hd (xm hgl)).2.symm
 subst hde;subst hdn;clear hd
 refine G (Yu Z)<|G (Xs Z Z)<|G (Xi Z Z)<|G (Ws Z)<|G (Wi Z)<|U<|W<|Zr<|G (Yi Z)<|G (Zf oH Z)<|G (Zd al H 0 Z Z Z)<|G (ch Z Z Z)<|U<|ZF Z<|Zk<|W<|Zr<|G (Wi Z)<|U<|Zt ?_
 exact cn Z Z ⟨rfl,H.below⟩
theorem BQ (l:oT) (w:World) (h:l.ok w):dt aa vv [.agg l.c.toArray] w fun v w2=> ∃ A' c',v=.tuple #[.slice A' l.es.length c',J (l.s:Nat),J 0]/\Rd gV w.heap.size w2.heap.size A' l.es w2/\l.es.length<=c'/\Below w.heap.size w w2:=by
 refine aG AY Z Z ?_
 have hgl:=h.gl
 have hcap:=h.cap
 have hsz:=hgl.sz
 have hln:=hgl.len
 have hsle:=hgl.sle
 have hss:iK l.es l.s<=(bH l.es).length:=fR l.es l.s
 have H:=Hp.startRd h.rd
 obtain⟨lA,lc,es,s⟩:=l
 dsimp only at hgl hcap hsz hln hsle hss H
 have hss2:(bH (es.take s)).length<=(bH es).length:=hss
 show CW _ _ _ _ (args [.agg #[.slice lA (bH es).length lc,J (iK es s:Nat)]]) w
 refine W<|Zr<|gM H Z Z fun w1 b1 H=>G (Ws Z)<|G (Wi Z)<|G (Wi Z)<|U<|W<|W<|Zr<|G (Zw fA H 0 Z Z Z)<|cz p7 (yK ⟨lA,lc,es,s⟩ _ ⟨hgl,hcap,H.rd0 0 Z⟩) Z Z ?_
 rintro _ w2 ⟨rfl,hb⟩;replace H:=H.later hb;clear hb
 refine G (Wi Z)<|U<|W<|Zr<|G (Yi Z)<|G (ch Z Z Z)<|U<|ZF Z<|Zk<|W<|Zr<|G (Zf i5 Z)<|G (Zd eO H 0 Z Z Z)<|cz mR (u5 (bH es) _ _ _ (H.rd0 0 Z) hcap I) Z Z ?_
 have hlo18:=H.size
 rintro _ w3 ⟨ds,nd,A18,c18,rfl,hd,hr18,hc18,hb18⟩;replace H:=H.learnRd hb18 hr18;clear hr18 hb18
 have hde:=(qZ hd (uo es hgl.good)).1.symm
 have hdn:=(qZ hd (uo es hgl.good)).2.symm
 subst hde;subst hdn;clear hd
 refine G (Yu Z)<|G (Xs Z Z)<|G (Xi Z Z)<|G (Ws Z)<|G (Wi Z)<|U<|W<|Zr<|G (Zf i5 Z)<|G (Zd eO H 0 Z Z Z)<|G (Zf oH Z)<|G (Zd al H 0 Z Z Z)<|vU (k:=iK es s) H 1 Z ey Z Z hcap I Z fun A26 H=> ?_
 rw[xN]at H
 refine cz mR (u5 (bH (es.take s)) _ _ _ (H.rd0 0 Z) I I) Z Z ?_
 have hlo27:=H.size
 rintro _ w4 ⟨ds,nd,A27,c27,rfl,hd,hr27,hc27,hb27⟩;replace H:=H.learnRd hb27 hr27;clear hr27 hb27
 have hde:=(qZ hd (xm hgl)).1.symm
 have hdn:=(qZ hd (xm hgl)).2.symm
 subst hde;subst hdn;clear hd
 refine G (Yu Z)<|G (Xs Z Z)<|G (Xi Z Z)<|G (Ws Z)<|G (Wi Z)<|U<|W<|Zr<|G (Ys Z)<|G (Ys Z)<|G (bj eG Z)<|G (Ws Z)<|G (Wi Z)<|G (Wi Z)<|U<|Zt ?_
 have hls:(es.take s).length=s:=by simp;omega
 have hrd:=Rd.mono (H.fact (i:=2) Z) hlo18 (H.facts _ (ab (i:=2) Z)).2.1
 exact Hy (v:=.slice A18 es.length c18) (v2:=J ((es.take s).length:Nat)) (v3:=J 0) Z Z Z Z ⟨A18,c18,by rw[hls],hrd,hc18,H.below⟩
theorem ij (A:Option Addr) (c:Nat) (es:List cv) (s:Nat) (w:World) (h:(⟨A,c,es,s⟩:oT).ok w):dt aa vv [.agg #[.slice A (bH es).length c,J (iK es s:Nat)]] w fun v w2=> ∃ A' c',v=.tuple #[.slice A' es.length c',J (s:Nat),J 0]/\Rd gV w.heap.size w2.heap.size A' es w2/\es.length<=c'/\Below w.heap.size w w2:=BQ ⟨A,c,es,s⟩ w h
theorem t9 (A:Option Addr) (c:Nat) (es:List cv) (s:Nat) (w:World) (h:(⟨A,c,es,s⟩:oT).ok w):dt aa yV [.agg #[.slice A (bH es).length c,J (iK es s:Nat)]] w fun v w2=>v=J 0/\Below w.heap.size w w2:=yK ⟨A,c,es,s⟩ w h
theorem n6 (es:List UInt8) (A:Option Addr) (c:Nat) (w:World) (hr:Rd dN 0 w.heap.size A es w) (hb:es.length*1<=140737488355328):
  dt aa kW [.slice A es.length c] w fun v w2=> ∃ A' c',v=.slice A' es.length c'/\es.length<=c'/\Rd dN w.heap.size w2.heap.size A' es w2/\Below w.heap.size w w2:=
 (Cj es A c w hr hb).mono fun v w2 ⟨A',c',L',h1,h2,_,h4,h5⟩=>⟨A',c',h1,h2,h4.rd (K:=[]) (M:=[]) (by simpa using h5),h5.below⟩
theorem xo (es:List Int) (A:Option Addr) (c:Nat) (w:World) (hr:Rd bN 0 w.heap.size A es w) (hb:es.length*8<=140737488355328):
  dt aa lX [.slice A es.length c] w fun v w2=> ∃ A' c',v=.slice A' es.length c'/\es.length<=c'/\Rd bN w.heap.size w2.heap.size A' es w2/\Below w.heap.size w w2:=
 (tj es A c w hr hb).mono fun v w2 ⟨A',c',L',h1,h2,_,h4,h5⟩=>⟨A',c',h1,h2,h4.rd (K:=[]) (M:=[]) (by simpa using h5),h5.below⟩
def BF (w w2:World) (A:Option Addr) (c:Nat) (es:List cv) (s:Nat):Prop:=GL es s/\(bH es).length<=c/\Rd dN w.heap.size w2.heap.size A (bH es) w2
theorem BF.ok {w w2:World} {A:Option Addr} {c:Nat} {es:List cv} {s:Nat} (h:BF w w2 A c es s):(⟨A,c,es,s⟩:oT).ok w2:=⟨h.1,h.2.1,h.2.2.mono (bx _) (ao _)⟩
theorem kN (es:List cv) (x:cv):bH (es++[x])=bH es++mj x:=by rw[Mg,Mf]
theorem wP {es:List cv} {s:Nat} (x:cv) (h:s<=es.length):iK (es++[x]) s=iK es s:=by unfold iK;rw[kI h]
def B2 (es:List cv) (x:cv):Prop:=es.length=400∨40000<(bH es).length+(mj x).length
theorem GL.snoc {es:List cv} {s:Nat} {x:cv} (h:GL es s) (hx:nW x) (hf: ¬ B2 es x):GL (es++[x]) s:=by
 unfold B2 at hf
 refine⟨fun e he=> ?_,by simp;have:=h.len;omega,by rw[kN,ax];omega,by simp;have:=h.sle;omega⟩
 rcases aq.1 he with he|he
 exact h.good e he
 rw[ar.1 he];exact hx
theorem GL.all {es:List cv} {s:Nat} (h:GL es s):GL es es.length:=⟨h.good,h.len,h.sz,ao _⟩
theorem GL.take {es:List cv} {s:Nat} (h:GL es s) (n:Nat) {t:Nat} (ht:t<=(es.take n).length):GL (es.take n) t:=⟨fun e he=>h.good e (qE _ _ he),by simp;have:=h.len;omega,by have:=fR es n;have:=h.sz;omega,ht⟩
theorem DM (l:oT) (x:cv) (w:World) (h:l.ok w) (hx:nW x) (hf: ¬ B2 l.es x):dt aa wW [.agg l.c.toArray,x.v] w fun v w2=> ∃ A' c',v=.tuple #[.agg (oT.c ⟨A',c',l.es++[x],l.s⟩).toArray,J 0]/\BF w w2 A' c' (l.es++[x]) l.s/\Below w.heap.size w w2:=by
 refine aG B5 Z Z ?_
 have hgl:=h.gl
 have hcap:=h.cap
 have hsz:=hgl.sz
 have hln:=hgl.len
 have hsle:=hgl.sle
 have hss:iK l.es l.s<=(bH l.es).length:=fR l.es l.s
 have H:=Hp.startRd h.rd
 obtain⟨lA,lc,es,s⟩:=l
 dsimp only at hgl hcap hsz hln hsle hss H
 have hss2:(bH (es.take s)).length<=(bH es).length:=hss
 show CW _ _ _ _ (args [.agg #[.slice lA (bH es).length lc,J (iK es s:Nat)],x.v]) w
 unfold B2 at hf
 dsimp only at hf
 have hel:=IJ hx
 refine W<|Zr<|gM H Z Z fun w1 b2 H=>gM H Z Z fun w2 b3 H=>fg H tr Z fun w3 b4 H=>G (Wi Z)<|U<|W<|Zr<|G (Zw fA H 2 Z Z Z)<|cz gF (ij lA lc es s _ ⟨hgl,hcap,H.rd0 0 Z⟩) Z Z ?_
 rintro _ w4 ⟨A12,c12,rfl,hr12,hc12,hb12⟩;replace H:=H.learnRd hb12 hr12;clear hr12 hb12
 refine G (Yu Z)<|G (Xs Z Z)<|G (Xi Z Z)<|G (Xi Z Z)<|G (Ws Z)<|G (Wi Z)<|G (Wi Z)<|U<|W<|W<|Zr<|G (Yi Z)<|G (ch Z Z Z)<|U<|ZF Z<|Zk<|W<|Zr<|G (Zw dI H 1 Z Z Z)<|cz uu (Df x _ hx) Z Z ?_
 rintro _ w6 ⟨A5,c5,rfl,hr5,hc5,hb5⟩;replace H:=H.learnRd hb5 hr5;clear hr5 hb5
 refine G (Yu Z)<|G (Xs Z Z)<|G (Xi Z Z)<|G (Ws Z)<|G (Wi Z)<|U<|W<|W<|Zr<|G (Yi Z)<|G (ch Z Z Z)<|U<|ZF Z<|Zk<|W<|W<|Zr<|G (Ys Z)<|G (bj eG Z)<|G (lM Z Z I)<|G (Yb Z)<|ZG<|G (Zf i5 Z)<|ZG<|G (Zd eO H 2 Z Z Z)<|ZG<|G (bj eW Z)<|ZG<|G (Ys Z)<|ZG<|G (bj eW Z)<|ZG<|G (bn Z Z I I)<|ZG<|G (eu Z Z I)<|G (N Z Z)<|U<|ZF Z<|Zk<|W ?_
 refine ra cD [0,2,5] [1,3,4,6,7,8,9] [0,2,5] 7 N N N Nq ?_
 refine aw Z Z Z Z Z (fun w' hw'=>Zf i5 Z)<|aw Z Z Z Z Z (fun w' hw'=>Ys Z)<|aw Z Z Z Z Z (fun w' hw'=>Zf oH Z)<|aU ?_
 intro w7 hw';replace H:=H.later hw';clear hw'
 refine t0 1 6 N Z Z ?_ ?_
 refine G (Zd eO H 2 Z Z Z)<|U ?_
 refine t0 3 6 N Z Z ?_ ?_
 refine uA (vs:=[.slice lA (bH es).length lc,.slice A5 (mj x).length c5]) H r7 Du Z Z Z Z Z Z fun w8 b45 H=> ?_
 have hcat:xH [(lA,bH es,lc),(A5,mj x,c5)]=bH (es++[x]):=by rw[kN];simp[xH]
 refine U ?_
 refine t0 4 6 N Z Z ?_ ?_
 have hC:=u7 [(lA,bH es,lc),(A5,mj x,c5)] (Qd b45) 2 _ (Rd.blk (H.ent (i:=0) Z) Z) (by intro p hp;simp at hp;rcases hp with rfl|rfl;exact H.rd0 2 Z;exact H.rd0 0 Z) (by rw[hcat,kN,ax];omega) (by simp)
 rw[hcat]at hC
 have hloX:=H.size
 refine cz fI hC Z Z ?_;rintro _ w9 ⟨AX,cX,LX,rfl,hcX,-,hoX,hjX⟩;replace H:=H.learnOwn hjX hoX
 refine U<|dg 6 N Z<|G (Zd al H 3 Z Z Z)<|U<|dg 7 N Z<|G (bE (cs:= #[.slice AX (bH (es++[x])).length cX,J (iK es s:Nat)]) vT tr N)<|U<|dg 8 N Z<|bC H 1 (#[.slice AX (bH (es++[x])).length cX,J (iK es s:Nat)]) kK Z Z Z Z Z N N fun w10 H=>U<|dg 9 N Z<|G (Wi Z)<|U<|cr N<|Zt ?_
 exact ci (cs0:= #[.slice AX (bH (es++[x])).length cX,J (iK es s:Nat)]) (v1:=J 0) Z fA Z (H.ent (i:=1) Z) Z Z ⟨AX,cX,by unfold oT.c;rw[wP _ hsle],⟨hgl.snoc hx (by unfold B2;omega),hcX,Rd.mono (H.fact (i:=0) Z) hloX (H.facts _ (ab (i:=0) Z)).2.1⟩,H.below⟩
 refine G (Zd al H 3 Z Z Z)<|U<|dg 4 N Z ?_
 have hC:=u7 [(lA,bH es,lc),(A5,mj x,c5)] (Qd b45) 2 _ (Rd.blk (H.ent (i:=0) Z) Z) (by intro p hp;simp at hp;rcases hp with rfl|rfl;exact H.rd0 2 Z;exact H.rd0 0 Z) (by rw[hcat,kN,ax];omega) (by simp)
 rw[hcat]at hC
 have hloX:=H.size
 refine cz fI hC Z Z ?_;rintro _ w11 ⟨AX,cX,LX,rfl,hcX,-,hoX,hjX⟩;replace H:=H.learnOwn hjX hoX
 refine U<|dg 7 N Z<|G (bE (cs:= #[.slice AX (bH (es++[x])).length cX,J (iK es s:Nat)]) vT tr N)<|U<|dg 8 N Z<|bC H 1 (#[.slice AX (bH (es++[x])).length cX,J (iK es s:Nat)]) kK Z Z Z Z Z N N fun w12 H=>U<|dg 9 N Z<|G (Wi Z)<|U<|cr N<|Zt ?_
 exact ci (cs0:= #[.slice AX (bH (es++[x])).length cX,J (iK es s:Nat)]) (v1:=J 0) Z fA Z (H.ent (i:=1) Z) Z Z ⟨AX,cX,by unfold oT.c;rw[wP _ hsle],⟨hgl.snoc hx (by unfold B2;omega),hcX,Rd.mono (H.fact (i:=0) Z) hloX (H.facts _ (ab (i:=0) Z)).2.1⟩,H.below⟩
 refine G (Zd al H 2 Z Z Z)<|U<|dg 3 N Z<|uA (vs:=[.slice lA (bH es).length lc,.slice A5 (mj x).length c5]) H r7 Du Z Z Z Z Z Z fun w13 b45 H=> ?_
 have hcat:xH [(lA,bH es,lc),(A5,mj x,c5)]=bH (es++[x]):=by rw[kN];simp[xH]
 refine U<|dg 4 N Z ?_
 have hC:=u7 [(lA,bH es,lc),(A5,mj x,c5)] (Qd b45) 2 _ (Rd.blk (H.ent (i:=0) Z) Z) (by intro p hp;simp at hp;rcases hp with rfl|rfl;exact H.rd0 2 Z;exact H.rd0 0 Z) (by rw[hcat,kN,ax];omega) (by simp)
 rw[hcat]at hC
 have hloX:=H.size
 refine cz fI hC Z Z ?_;rintro _ w14 ⟨AX,cX,LX,rfl,hcX,-,hoX,hjX⟩;replace H:=H.learnOwn hjX hoX
 refine U<|dg 7 N Z<|G (bE (cs:= #[.slice AX (bH (es++[x])).length cX,J (iK es s:Nat)]) vT tr N)<|U<|dg 8 N Z<|bC H 1 (#[.slice AX (bH (es++[x])).length cX,J (iK es s:Nat)]) kK Z Z Z Z Z N N fun w15 H=>U<|dg 9 N Z<|G (Wi Z)<|U<|cr N<|Zt ?_
 exact ci (cs0:= #[.slice AX (bH (es++[x])).length cX,J (iK es s:Nat)]) (v1:=J 0) Z fA Z (H.ent (i:=1) Z) Z Z ⟨AX,cX,by unfold oT.c;rw[wP _ hsle],⟨hgl.snoc hx (by unfold B2;omega),hcX,Rd.mono (H.fact (i:=0) Z) hloX (H.facts _ (ab (i:=0) Z)).2.1⟩,H.below⟩
 refine G (Zd al H 2 Z Z Z)<|U<|dg 1 N Z<|G (Zd eO H 2 Z Z Z)<|U<|dg 3 N Z<|uA (vs:=[.slice lA (bH es).length lc,.slice A5 (mj x).length c5]) H r7 Du Z Z Z Z Z Z fun w16 b45 H=> ?_
 have hcat:xH [(lA,bH es,lc),(A5,mj x,c5)]=bH (es++[x]):=by rw[kN];simp[xH]
 refine U<|dg 4 N Z ?_
 have hC:=u7 [(lA,bH es,lc),(A5,mj x,c5)] (Qd b45) 2 _ (Rd.blk (H.ent (i:=0) Z) Z) (by intro p hp;simp at hp;rcases hp with rfl|rfl;exact H.rd0 2 Z;exact H.rd0 0 Z) (by rw[hcat,kN,ax];omega) (by simp)
 rw[hcat]at hC
 have hloX:=H.size
 refine cz fI hC Z Z ?_;rintro _ w17 ⟨AX,cX,LX,rfl,hcX,-,hoX,hjX⟩;replace H:=H.learnOwn hjX hoX
 refine U<|dg 7 N Z<|G (bE (cs:= #[.slice AX (bH (es++[x])).length cX,J (iK es s:Nat)]) vT tr N)<|U<|dg 8 N Z<|bC H 1 (#[.slice AX (bH (es++[x])).length cX,J (iK es s:Nat)]) kK Z Z Z Z Z N N fun w18 H=>U<|dg 9 N Z<|G (Wi Z)<|U<|cr N<|Zt ?_
 exact ci (cs0:= #[.slice AX (bH (es++[x])).length cX,J (iK es s:Nat)]) (v1:=J 0) Z fA Z (H.ent (i:=1) Z) Z Z ⟨AX,cX,by unfold oT.c;rw[wP _ hsle],⟨hgl.snoc hx (by unfold B2;omega),hcX,Rd.mono (H.fact (i:=0) Z) hloX (H.facts _ (ab (i:=0) Z)).2.1⟩,H.below⟩
theorem NQ (es:List cv):iK es es.length=(bH es).length:=by unfold iK;rw[bM]
theorem Ft {es:List cv} {a b:Nat} (h:a<=b):iK es a<=iK es b:=by
 have:=fR (es.take b) a
 unfold iK
 rwa[dv,bB h]at this
theorem NP (es:List cv) (s n:Nat):min ((iK es s:Nat):Int) ((iK es n:Nat):Int)=(iK (es.take n) (min s n):Nat):=by
 have e:iK (es.take n) (min s n)=iK es (min s n):=by
  unfold iK;rw[dv,bB (Nat.min_le_right _ _)]
 rw[e]
 by_cases h:s<=n
 have:=Ft (es:=es) h
 rw[bB h];omega
 have:=Ft (es:=es) (show n<=s by omega)
 rw[Nat.min_eq_right I];omega
theorem Rd.cut0 {α:Type} {Y:fq α} {lo hi cap sz:Nat} {A:Option Addr} {es:List α} {w:World} (h:Rd Y lo hi A es w) (k:Nat):Rd Y lo hi (cut A cap 0 sz) (es.take k) w:=by
 have e:cut A cap 0 sz=A:=by
  unfold cut
  split
  rfl
  cases A<;>simp[Addr.add]
 rw[e]
 exact h.take k
theorem GP (l:oT) (w:World) (h:l.ok w):dt aa AJ [.agg l.c.toArray] w fun v w2=> ∃ A' c',v=.tuple #[.agg (oT.c ⟨A',c',l.es,l.es.length⟩).toArray,J 0]/\BF w w2 A' c' l.es l.es.length/\Below w.heap.size w w2:=by
 refine aG FP Z Z ?_
 have hgl:=h.gl
 have hcap:=h.cap
 have hsz:=hgl.sz
 have hln:=hgl.len
 have hsle:=hgl.sle
 have hss:iK l.es l.s<=(bH l.es).length:=fR l.es l.s
 have H:=Hp.startRd h.rd
 obtain⟨lA,lc,es,s⟩:=l
 dsimp only at hgl hcap hsz hln hsle hss H
 have hss2:(bH (es.take s)).length<=(bH es).length:=hss
 show CW _ _ _ _ (args [.agg #[.slice lA (bH es).length lc,J (iK es s:Nat)]]) w
 refine W<|Zr<|gM H Z Z fun w1 b1 H=>fg H tr Z fun w2 b2 H=>G (Wi Z)<|U<|W<|W<|Zr<|G (Zw fA H 1 Z Z Z)<|cz p7 (t9 lA lc es s _ ⟨hgl,hcap,H.rd0 0 Z⟩) Z Z ?_
 rintro _ w3 ⟨rfl,hb⟩;replace H:=H.later hb;clear hb
 refine G (Wi Z)<|U<|W<|Zr<|G (Yi Z)<|G (ch Z Z Z)<|U<|ZF Z<|Zk<|W ?_
 have hlo:=H.size
 refine bP cD [0,1,3,4,5,2,6] [7,8] [2] [0,3,5,6] (sp [(2,Sp.row w3.heap.size dN (bH es))]) N N N N Nq (cO _) ?_
 refine aw Z Z Z Z Z (fun w' hw'=>Zf i5 Z)<|aw Z Z Z Z Z (fun w' hw'=>bf eO Z (aJ ((H.later hw').ent (i:=1) Z) Z))<|aw Z Z Z Z Z (fun w' hw'=>Zf i5 Z)<|aw Z Z Z Z Z (fun w' hw'=>bf eO Z (aJ ((H.later hw').ent (i:=1) Z) Z))<|aw Z Z Z Z Z (fun w' hw'=>bj eW Z)<|Dj fU Z Z Z Z Z (fun w' hw'=>hw'.size) (fun w' hw'=>n6 (bH es) _ _ w' ((H.later hw').rd0 0 Z) I) Z fun A13 c13 hc13=>aw Z Z Z Z Z (fun w' hw'=>bE (cs:= #[.slice A13 (bH es).length c13,J ((bH es).length:Nat)]) vT tr N)<|aU ?_
 intro w4 hw' hF
 obtain⟨hF,Aq,cq,eq,hcq,hrw13⟩:=hF;cases eq;clear hcq
 replace H:=H.learnRd hw' hrw13
 clear hw' hF
 refine bC H 0 (#[.slice A13 (bH es).length c13,J ((bH es).length:Nat)]) kK Z Z Z Z Z N N fun w5 H=>G (Wi Z)<|U<|Zt ?_
 exact ci (cs0:= #[.slice A13 (bH es).length c13,J ((bH es).length:Nat)]) (v1:=J 0) Z fA Z (H.ent (i:=0) Z) Z Z ⟨A13,c13,by unfold oT.c;rw[NQ],⟨hgl.all,hc13,Rd.mono (H.fact (i:=0) Z) hlo (H.facts _ (ab (i:=0) Z)).2.1⟩,H.below⟩
theorem Jg (l:oT) (n:Nat) (w:World) (h:l.ok w) (hn:n<=l.es.length):dt aa C8 [.agg l.c.toArray,J (n:Nat)] w fun v w2=> ∃ A' c',v=.tuple #[.agg (oT.c ⟨A',c',l.es.take n,min l.s n⟩).toArray,J 0]/\BF w w2 A' c' (l.es.take n) (min l.s n)/\Below w.heap.size w w2:=by
 refine aG Hv Z Z ?_
 have hgl:=h.gl
 have hcap:=h.cap
 have hsz:=hgl.sz
 have hln:=hgl.len
 have hsle:=hgl.sle
 have hss:iK l.es l.s<=(bH l.es).length:=fR l.es l.s
 have H:=Hp.startRd h.rd
 obtain⟨lA,lc,es,s⟩:=l
 dsimp only at hgl hcap hsz hln hsle hss H
 have hss2:(bH (es.take s)).length<=(bH es).length:=hss
 show CW _ _ _ _ (args [.agg #[.slice lA (bH es).length lc,J (iK es s:Nat)],J (n:Nat)]) w
 dsimp only at hn
 refine W<|Zr<|gM H Z Z fun w1 b2 H=>fg H tr Z fun w2 b4 H=>G (Wi Z)<|U<|W<|Zr<|G (Zw fA H 1 Z Z Z)<|cz gF (ij lA lc es s _ ⟨hgl,hcap,H.rd0 0 Z⟩) Z Z ?_
 rintro _ w3 ⟨A16,c16,rfl,hr16,hc16,hb16⟩;replace H:=H.learnRd hb16 hr16;clear hr16 hb16
 refine G (Yu Z)<|G (Xs Z Z)<|G (Xi Z Z)<|G (Xi Z Z)<|G (Ws Z)<|G (Wi Z)<|G (Wi Z)<|U<|W<|W<|Zr<|G (Yi Z)<|G (ch Z Z Z)<|U<|ZF Z<|Zk<|W<|W<|Zr<|G (Yi Z)<|G (dn Z Z I)<|G (Yb Z)<|ZG<|G (Yi Z)<|ZG<|G (Ys Z)<|ZG<|G (bj eG Z)<|ZG<|G (eu Z Z I)<|G (N Z Z)<|U<|ZF Z<|Zk<|W<|W<|Zr<|G (Yi Z)<|G (Ys Z)<|G (bj eG Z) ?_
 refine dq (br Z Z) Z Z Z (fun h36=> ?_) (fun h36=> ?_)
 refine U<|ZT Z<|W ?_
 have hlo:=H.size
 refine bP cD [0,1,3,4,2,5] [6,7] [2] [0,3,5] (sp [(2,Sp.row w3.heap.size dN (bH es))]) N N N N Nq (cO _) ?_
 refine aw Z Z Z Z Z (fun w' hw'=>Zf i5 Z)<|aw Z Z Z Z Z (fun w' hw'=>bf eO Z (aJ ((H.later hw').ent (i:=1) Z) Z))<|aw Z Z Z Z Z (fun w' hw'=>Zf oH Z)<|aw Z Z Z Z Z (fun w' hw'=>bf al Z (aJ ((H.later hw').ent (i:=1) Z) Z))<|Dj fU Z Z Z Z Z (fun w' hw'=>hw'.size) (fun w' hw'=>n6 (bH es) _ _ w' ((H.later hw').rd0 1 Z) I) Z fun A39 c39 hc39=>aw Z Z Z Z Z (fun w' hw'=>bE (cs:= #[.slice A39 (bH es).length c39,J (iK es s:Nat)]) vT tr N)<|aU ?_
 intro w4 hw' hF
 obtain⟨hF,Aq,cq,eq,hcq,hrw39⟩:=hF;cases eq;clear hcq
 replace H:=H.learnRd hw' hrw39
 clear hw' hF
 refine bC H 0 (#[.slice A39 (bH es).length c39,J (iK es s:Nat)]) kK Z Z Z Z Z N N fun w5 H=>G (Wi Z)<|U<|Zt ?_
 have hnl:n=es.length:=by omega
 subst hnl
 exact ci (cs0:= #[.slice A39 (bH es).length c39,J (iK es s:Nat)]) (v1:=J 0) Z fA Z (H.ent (i:=0) Z) Z Z ⟨A39,c39,by unfold oT.c;rw[bB hsle,bM],⟨by rw[bB hsle,bM];exact hgl,by rw[bM];exact hc39,by rw[bM];exact Rd.mono (H.fact (i:=0) Z) hlo (H.facts _ (ab (i:=0) Z)).2.1⟩,H.below⟩
 refine U<|ZF Z<|Zk<|W<|Zr<|G (Wi Z)<|U<|W<|W<|Zr<|G (Ys Z)<|G (Yi Z)<|vU (k:=n) H 0 Z dV Z Z hc16 I Z fun A45 H=>G (bj eG Z)<|G (Yi Z)<|U<|Zb ?_
 refine bW (τ:=Nat) [9,11,12,13,47,48,49,50,51,52,53,54,55,56,57,58,59,60] (fun k=>[(9,J (iK es k:Nat)),(47,J (k:Nat))]) (fun k w'=>k<=n/\Hp w w' [(b4,.cells #[.slice none 0 0,J 0] Gq (0,0)),(b2,.cells #[.slice lA (bH es).length lc,J (iK es s:Nat)] Gq (0,0))] [d4 gV w2.heap.size w3.heap.size A45 (es.take n),d4 gV w2.heap.size w3.heap.size A16 es,d4 dN 0 w.heap.size lA (bH es)]) (fun k=>n-k) 0 ⟨by omega,H⟩ (lE Z Z) ?_
 rintro k ρ1 w6 ⟨hk,H⟩
 show CW _ _ _ _ (dH (gT _ _ ρ1) [(9,J (iK es k:Nat)),(47,J (k:Nat))]) w6
 have hsk0:iK es k<=(bH es).length:=fR es k
 refine W<|Zr ?_
 refine dq (cL Z Z) Z Z Z (fun h48=> ?_) (fun h48=> ?_)
 refine U<|W<|ZT Z<|Zk<|W<|Zb<|W<|Zr ?_
 have htl:(es.take n).length=n:=by simp;omega
 refine px H 0 Z dV Z Z I I Z fun b7 o7 x7 e7=> ?_
 have hxk:es[k]? =some x7:=by have:=e7.at_;rwa[eY I]at this
 have hg:=hgl.good _ (ab hxk)
 have hsk:=fR es (k+1)
 rw[uj hxk,ax]at hsk
 have hsk2:iK es k+(mj x7).length<=(bH es).length:=hsk
 refine G (jL (xs:=cv.c x7) dI Z Z e7.cl)<|fg H gp Z fun w8 b11 H=>KT H 0 eV Z Z Z Z Z Z fun w9 H=>U<|W<|Zr<|G (Zw dI H 0 Z Z Z)<|cz uu (Df x7 _ hg) Z Z ?_
 rintro _ w11 ⟨A10,c10,rfl,hr10,hc10,hb10⟩;replace H:=H.learnRd hb10 hr10;clear hr10 hb10
 refine G (Yu Z)<|G (Xs Z Z)<|G (Xi Z Z)<|G (Ws Z)<|G (Wi Z)<|U<|Zr<|G (Yi Z)<|G (Ys Z)<|G (bj eW Z)<|G (bn Z Z I I)<|G (Wi Z)<|U<|Zr<|G (bn Z Z I I)<|G (Yi Z)<|U ?_
 refine⟨k+1,⟨by omega,H.forget (aR _ _) (fun _ h=>aj _ h)⟩,lE (by show _=Value.int .i64 ((iK es (k+1):Nat):Int);unfold iK;rw[uj hxk,ax];rfl) Z,Qg,by show n- (k+1)<n-k;omega⟩
 have hkn:n=k:=by omega
 subst hkn
 refine U<|W<|ZF Z<|Zx<|W ?_
 have hlo:=H.size
 refine bP cD [0,1,2,3,5,6,7,8,4,9] [10,11] [4] [0,2,3,5,7,8,9] (sp [(4,Sp.row w6.heap.size dN (bH (es.take n)))]) N N N N Nq (cO _) ?_
 refine aw Z Z Z Z Z (fun w' hw'=>Zf i5 Z)<|aw Z Z Z Z Z (fun w' hw'=>bf eO Z (aJ ((H.later hw').ent (i:=1) Z) Z))<|aw Z Z Z Z Z (fun w' hw'=>Yi Z)<|aw Z Z Z Z Z (fun w' hw'=>DJ (i:=((iK es n:Nat):Int)) ey Z Z I (by have:=fR es n;show((iK es n:Nat):Int)<=_;unfold iK;omega))<|aw Z Z Z Z Z (fun w' hw'=>Zf oH Z)<|aw Z Z Z Z Z (fun w' hw'=>bf al Z (aJ ((H.later hw').ent (i:=1) Z) Z))<|aw Z Z Z Z Z (fun w' hw'=>Yi Z)<|aw Z Z Z Z Z (fun w' hw'=>ya Z Z)<|Dj fU Z Z Z Z Z (fun w' hw'=>hw'.size) (fun w' hw'=>n6 (bH (es.take n)) _ _ w' (by have:=Rd.cut0 (cap:=lc) (sz:=1) ((H.later hw').rd0 2 Z) (iK es n);rwa[xN]at this) (by have:=fR es n;omega)) Z fun A65 c65 hc65=>aw Z Z Z Z Z (fun w' hw'=>bE (cs:= #[.slice A65 (bH (es.take n)).length c65,J (min ((iK es s:Nat):Int) ((iK es n:Nat):Int))]) vT tr N)<|aU ?_
 intro w12 hw' hF
 obtain⟨hF,Aq,cq,eq,hcq,hrw65⟩:=hF;cases eq;clear hcq
 replace H:=H.learnRd hw' hrw65
 clear hw' hF
 refine bC H 0 (#[.slice A65 (bH (es.take n)).length c65,J (min ((iK es s:Nat):Int) ((iK es n:Nat):Int))]) kK Z Z Z Z Z N N fun w13 H=>G (Wi Z)<|U<|Zt ?_
 exact ci (cs0:= #[.slice A65 (bH (es.take n)).length c65,J (min ((iK es s:Nat):Int) ((iK es n:Nat):Int))]) (v1:=J 0) Z fA Z (H.ent (i:=0) Z) Z Z ⟨A65,c65,by unfold oT.c;rw[NP],⟨hgl.take n (by simp;omega),hc65,Rd.mono (H.fact (i:=0) Z) hlo (H.facts _ (ab (i:=0) Z)).2.1⟩,H.below⟩
/-- a replica, and where its log's bytes lie -/
structure f5 where
 up:Bool
 A:Option Addr
 cap:Nat
 es:List cv
 s:Nat
 high:Int
 lo:Nat
 hi:Nat
def f5.c (r:f5):List Value:=[.bool r.up,.slice r.A (bH r.es).length r.cap,J (iK r.es r.s:Nat),J r.high]
def jn:fq f5:=⟨f5.c,4,fun _=>rfl,by decide,fun a u hu=>by
 simp only[f5.c,av,bu,or_false]at hu
 rcases hu with h|h|h|h<;>subst h<;>rfl⟩
def fE:fq Bool:=⟨fun n=>[.bool n],1,fun _=>rfl,by decide,fun a u hu=>by
 simp only[ar]at hu;subst hu;rfl⟩
abbrev f5.log (r:f5):oT:=⟨r.A,r.cap,r.es,r.s⟩
abbrev BR (r:f5):cf:=d4 dN r.lo r.hi r.A (bH r.es)
abbrev vr (rs:List f5):List cf:=rs.map BR
structure RA where
 up:Bool
 es:List cv
 s:Nat
 high:Int
def f5.a (r:f5):RA:=⟨r.up,r.es,r.s,r.high⟩
structure fX where
 epoch:Int
 leader:Int
 isr:List Bool
 known:List Int
 reps:List RA
 few:Int
 base:Int
structure Pa where
 epoch:Int
 leader:Int
 isr:List Bool
 iA:Option Addr
 iC:Nat
 known:List Int
 kA:Option Addr
 kC:Nat
 reps:List f5
 rA:Option Addr
 rC:Nat
 few:Int
 base:Int
def Pa.c (p:Pa):List Value:=[J p.epoch,J p.leader,.slice p.iA p.isr.length p.iC,.slice p.kA p.known.length p.kC,.slice p.rA p.reps.length p.rC,J p.few,J p.base]
abbrev Pa.v (p:Pa):Value:=.agg p.c.toArray
def Pa.a (p:Pa):fX:=⟨p.epoch,p.leader,p.isr,p.known,p.reps.map f5.a,p.few,p.base⟩
structure Pa.rd (p:Pa) (lo hi:Nat) (w:World):Prop where
 isr:Rd fE lo hi p.iA p.isr w
 known:Rd bN lo hi p.kA p.known w
 reps:Rd jn lo hi p.rA p.reps w
 logs: ∀ r∈p.reps,Rd dN lo hi r.A (bH r.es) w
 iC:p.isr.length<=p.iC
 kC:p.known.length<=p.kC
 rC:p.reps.length<=p.rC
 cap: ∀ r∈p.reps,(bH r.es).length<=r.cap
 few:p.isr.length<=1000000/\p.known.length<=1000000/\p.reps.length<=1000000
theorem Pa.rd.st {p:Pa} {lo hi:Nat} {w w':World} (hk: ∀ k,lo<=k->k<hi->w'.heap[k]? =w.heap[k]?) (h:p.rd lo hi w):p.rd lo hi w':=
 ⟨h.isr.st hk,h.known.st hk,h.reps.st hk,fun r hr=>(h.logs r hr).st hk,h.iC,h.kC,h.rC,h.cap,h.few⟩
theorem Pa.rd.mono {p:Pa} {lo hi lo' hi':Nat} {w:World} (h:p.rd lo hi w) (hl:lo'<=lo) (hh:hi<=hi'):p.rd lo' hi' w:=
 ⟨h.isr.mono hl hh,h.known.mono hl hh,h.reps.mono hl hh,fun r hr=>(h.logs r hr).mono hl hh,h.iC,h.kC,h.rC,h.cap,h.few⟩
def Kq (lo hi:Nat) (p:Pa):cf:=⟨lo,hi,p.rd lo hi,fun _ _ hk h=>h.st hk⟩
structure RA.ok (r:RA):Prop where
 gl:GL r.es r.s
 high0:0<=r.high
 high1:r.high<=r.es.length
structure fX.ok (p:fX):Prop where
 n1:1<=p.reps.length
 n2:p.reps.length<=5
 isrl:p.isr.length=p.reps.length
 knownl:p.known.length=p.reps.length
 few1:1<=p.few
 few2:p.few<=p.reps.length
 ep0:0<=p.epoch
 ep1:p.epoch<=1073741824
 ld0: -1<=p.leader
 ld1:p.leader<p.reps.length
 base0:0<=p.base
 base1:p.base<=400
 some_:true∈p.isr
 lead: ∀ (l:Nat) (r:RA),p.leader=l->p.reps[l]? =some r->p.isr[l]? =some true/\r.up=true
 reps: ∀ r∈p.reps,r.ok
 known: ∀ n∈p.known,0<=n/\n<=400
theorem Hp.startPa {p:Pa} {w:World} (h:p.rd 0 w.heap.size w):Hp w w [] [Kq 0 w.heap.size p,d4 fE 0 w.heap.size p.iA p.isr,d4 bN 0 w.heap.size p.kA p.known,d4 jn 0 w.heap.size p.rA p.reps]:=
 ((((Hp.start w).learnOld (d4 jn 0 w.heap.size p.rA p.reps) h.reps (ao _)).learnOld (d4 bN 0 w.heap.size p.kA p.known) h.known (ao _)).learnOld (d4 fE 0 w.heap.size p.iA p.isr) h.isr (ao _)).learnOld (Kq 0 w.heap.size p) h (ao _)
theorem Hp.pa {w0 w:World} {L:List (Nat×Obj)} {F:List cf} {lo hi:Nat} {p:Pa} (H:Hp w0 w L F) (i:Nat) (hF:F[i]? =some (Kq lo hi p)):p.rd 0 w.heap.size w:=
 Pa.rd.mono (H.fact hF) (bx _) (H.facts _ (ab hF)).2.1
theorem Pa.rd.nil (lo hi:Nat) (w:World):Pa.rd ⟨0,0,[],none,0,[],none,0,[],none,0,0,0⟩ lo hi w:=
 ⟨Rd.nil,Rd.nil,Rd.nil,fun r hr=>by simp at hr,by simp,by simp,by simp,fun r hr=>by simp at hr,by simp⟩
def IY:Pa:=⟨0,0,[],none,0,[],none,0,[],none,0,0,0⟩
def mc:fX:=⟨0,0,[],[],[],0,0⟩
def iy (w w2:World) (p:Pa):Prop:=p.rd w.heap.size w2.heap.size w2/\Below w.heap.size w w2
theorem iy.zero {w w2:World} (h:Below w.heap.size w w2):iy w w2 IY:=⟨Pa.rd.nil _ _ _,h⟩
structure IV (w w2:World) (p:Pa) (g1 g2 g3:Nat) (c1 c2 c3:Array Value):Prop where
 i:p.iA=some ⟨g1,0,none⟩
 k:p.kA=some ⟨g2,0,none⟩
 r:p.rA=some ⟨g3,0,none⟩
 ri:d3 fE p.isr p.iC c1
 rk:d3 bN p.known p.kC c2
 rr:d3 jn p.reps p.rC c3
 cap: ∀ r∈p.reps,(bH r.es).length<=r.cap
 los: ∀ r∈p.reps,w.heap.size<=r.lo
 few:p.isr.length<=1000000/\p.known.length<=1000000/\p.reps.length<=1000000
 hp:Hp w w2 [(g1,.cells c1 jX (0,0)),(g2,.cells c2 da (0,0)),(g3,.cells c3 gO (0,0))] (vr p.reps)
theorem IV.new {w w2:World} {p:Pa} {g1 g2 g3:Nat} {c1 c2 c3:Array Value} (h:IV w w2 p g1 g2 g3 c1 c2 c3):iy w w2 p:=by
 have H:=h.hp
 have e1:=H.ents _ (hM _)
 have e2:=H.ents _ (qP _ (hM _))
 have e3:=H.ents _ (qP _ (qP _ (hM _)))
 refine⟨⟨?_,?_,?_,fun r hr=> ?_,h.ri.le,h.rk.le,h.rr.le,h.cap,h.few⟩,H.below⟩
 rw[h.i];exact(h.ri.rd e1.1).mono e1.2 (bU e1.1)
 rw[h.k];exact(h.rk.rd e2.1).mono e2.2 (bU e2.1)
 rw[h.r];exact(h.rr.rd e3.1).mono e3.2 (bU e3.1)
 obtain⟨f1,f2,-⟩:=H.facts (BR r) (bG hr)
 exact Rd.mono f1 (h.los r hr) f2
theorem Ck (es:List Bool) (A:Option Addr) (c:Nat) (w:World) (hr:Rd fE 0 w.heap.size A es w) (hb:es.length*1<=140737488355328):
  dt aa qH [.slice A es.length c] w fun v w2=> ∃ A' c' L',v=.slice A' es.length c'/\es.length<=c'/\c'<=maxLen/\gH fE (.slice A' es.length c') jX es L'/\Hp w w2 L' []:=by
 refine aG qp Z Z ?_
 have H:=Hp.startRd hr
 refine W<|Zr<|G (Ws Z)<|U<|W<|W<|Zr<|G (Ys Z) ?_
 refine zB (pO yc Z) Z Z Z (fun h4=> ?_) (fun h4=> ?_)
 refine U<|ZT Z<|W<|Zr<|G (Ws Z)<|U<|Zt ?_
 have he:es=[]:=by
  cases es with
  |nil=>rfl
  |cons e es=>obtain⟨b,o,hA,_⟩:=hr (by simp);subst hA;cases h4
 subst he
 exact cn Z Z ⟨none,0,[],rfl,by simp,by decide,gH.nil,H.forget (by simp) (by simp)⟩
 refine U<|ZF Z<|Zk<|W<|Zr<|Od H fa Z fun w1 b5 H=>G (Ys Z)<|xA (Y:=fE) MN (K:=[]) (L:=[(b5,_)]) (M:=[]) H (rV.lit (by decide) (by rfl)) (es:=[]) (news:=es) Z Z Z (Rd.src (H.fact (i:=0) Z)) (by simpa using hb) Z ?_
 intro A3 c3 w3 L3 h3a h3b ho3 H
 refine G (Ws Z)<|U<|Zt ?_
 exact cn Z Z ⟨A3,c3,L3,rfl,h3a,h3b,ho3,H.forget (by simp) (by simp)⟩
theorem yu (es:List f5) (A:Option Addr) (c:Nat) (w:World) (hr:Rd jn 0 w.heap.size A es w) (hb:es.length*48<=140737488355328):
  dt aa m7 [.slice A es.length c] w fun v w2=> ∃ A' c' L',v=.slice A' es.length c'/\es.length<=c'/\c'<=maxLen/\gH jn (.slice A' es.length c') gO es L'/\Hp w w2 L' []:=by
 refine aG mN Z Z ?_
 have H:=Hp.startRd hr
 refine W<|Zr<|G (Ws Z)<|U<|W<|W<|Zr<|G (Ys Z) ?_
 refine zB (pO ib Z) Z Z Z (fun h4=> ?_) (fun h4=> ?_)
 refine U<|ZT Z<|W<|Zr<|G (Ws Z)<|U<|Zt ?_
 have he:es=[]:=by
  cases es with
  |nil=>rfl
  |cons e es=>obtain⟨b,o,hA,_⟩:=hr (by simp);subst hA;cases h4
 subst he
 exact cn Z Z ⟨none,0,[],rfl,by simp,by decide,gH.nil,H.forget (by simp) (by simp)⟩
 refine U<|ZF Z<|Zk<|W<|Zr<|Od H bQ Z fun w1 b5 H=>G (Ys Z)<|xA (Y:=jn) Gk (K:=[]) (L:=[(b5,_)]) (M:=[]) H (rV.lit (by decide) (by rfl)) (es:=[]) (news:=es) Z Z Z (Rd.src (H.fact (i:=0) Z)) (by simpa using hb) Z ?_
 intro A3 c3 w3 L3 h3a h3b ho3 H
 refine G (Ws Z)<|U<|Zt ?_
 exact cn Z Z ⟨A3,c3,L3,rfl,h3a,h3b,ho3,H.forget (by simp) (by simp)⟩
theorem BU (es:List Bool) (A:Option Addr) (c:Nat) (w:World) (hr:Rd fE 0 w.heap.size A es w) (hb:es.length<=1000000):
  dt aa qG [.slice A es.length c,.bool true] w fun v w2=>(∃ n:Int,v=J n/\(0<=n↔true∈es))/\Below w.heap.size w w2:=by
 refine aG qn Z Z ?_
 have H:=Hp.startRd hr
 refine W<|Zr<|G (Wi Z)<|U<|W<|W<|Zr<|G (Ys Z)<|G (bj yc Z)<|G (Yi Z)<|U<|Zb ?_
 refine bW (τ:=Nat) [4,5,8,9,10,11,12,13,14,15,16,17,18] (fun k=>[(8,J (k:Nat))]) (fun k w'=>k<=es.length/\(∀ j,j<k->es[j]? =some false)/\Hp w w' [] [d4 fE 0 w.heap.size A es]) (fun k=>es.length-k) 0 ⟨by omega,by intro j hj;omega,H⟩ (dO Z) ?_
 rintro k ρ1 w1 ⟨hk,hno,H⟩
 show CW _ _ _ _ (dH (gT _ _ ρ1) [(8,J (k:Nat))]) w1
 refine W<|Zr ?_
 refine dq (cL Z Z) Z Z Z (fun h9=> ?_) (fun h9=> ?_)
 refine U<|W<|ZT Z<|Zk<|W<|Zb<|W<|Zr<|G (Yi Z)<|G (Wi Z)<|U<|W<|Zr<|G (Yb Z)<|G (Ys Z)<|G (Yi Z)<|px H 0 Z fa Z Z I I Z fun b2 o2 x2 e2=>G (bf eL Z (e2.cl 0 _ Z))<|G (EG wI Z Z) ?_
 refine nB 16 Z (fun h16=> ?_) (fun h16=> ?_)
 refine U<|ZT Z<|W<|Zr<|G (Yi Z)<|G (Wi Z)<|U<|Zt ?_
 exact cn Z Z ⟨⟨_,rfl,⟨fun _=>by have:=ab e2.at_;simp at h16;rwa[h16]at this,fun _=>by omega⟩⟩,H.below⟩
 refine U<|ZF Z<|Zk<|Zr<|G (bn Z Z I I)<|G (Yi Z)<|U ?_
 refine⟨k+1,⟨by omega,fun j hj=> ?_,H⟩,dO Z,Qg,by show es.length- (k+1)<es.length-k;omega⟩
 by_cases hji:j<k
 exact hno j hji
 have:j=k:=by omega
 subst this;rw[e2.at_];simpa using h16
 refine U<|W<|ZF Z<|Zx<|W<|Zr<|G (Wi Z)<|U<|Zt ?_
 exact cn Z Z ⟨⟨-1,rfl,⟨fun h=>by omega,fun h=>by obtain⟨j,hj⟩:=aM.1 h;have:=hno j (by have:=(cu hj).1;omega);rw[hj]at this;cases this⟩⟩,H.below⟩
theorem yr (es:List Bool) (A:Option Addr) (c:Nat) (w:World) (hr:Rd fE 0 w.heap.size A es w) (hb:es.length<=1000000):
  dt aa pe [.slice A es.length c,.bool true] w fun v w2=>v=.bool (decide (true∈es))/\Below w.heap.size w w2:=by
 refine aG oy Z Z ?_
 have H:=Hp.start w
 refine W<|Zr<|G (Wb Z)<|U<|W<|Zr<|G (Ys Z)<|G (Yb Z)<|cz qw (BU es _ _ _ hr hb) Z Z ?_
 rintro _ w1 ⟨⟨n,rfl,hn⟩,hb⟩;replace H:=H.later hb;clear hb
 refine G (kk Z Z)<|G (Wb Z)<|U<|Zt ?_
 exact cn (v:=.bool (decide (0<=n))) Z Z ⟨by rw[decide_eq_decide.2 hn],H.below⟩
theorem r9 (p:Pa) (i:Nat) (r:f5) (w:World) (hR:Rd jn 0 w.heap.size p.rA p.reps w) (hr:p.reps[i]? =some r) (hl:r.log.ok w):dt aa FD [p.v,J (i:Nat)] w fun v w2=>v=.tuple #[J (r.es.length:Nat),J (r.s:Nat)]/\Below w.heap.size w w2:=by
 refine aG Em Z Z ?_
 obtain⟨ep,ld,isr,iA,iC,kn,kA,kC,reps,rA,rC,fw,bs⟩:=p
 dsimp only at hR hr
 have H:=Hp.startRd hR
 have hil:=(cu hr).1
 show CW _ _ _ _ (args [.agg #[J (ep),J (ld),.slice iA isr.length iC,.slice kA kn.length kC,.slice rA reps.length rC,J (fw),J (bs)],J (((i:Nat):Int))]) w
 refine W<|Zr<|gM H Z Z fun w1 b2 H=>G (Wi Z)<|G (Wi Z)<|U<|W<|Zr<|G (Zf dP Z)<|G (Zd cJ H 0 Z Z Z)<|G (Yi Z)<|px H 0 Z bQ Z Z I I Z fun b2 o2 x2 e2=> ?_
 obtain rfl:x2=r:=by have:=e2.at_;rw[hr]at this;exact(aT this).symm
 refine G (Zf dT Z)<|G (jL (xs:=[.slice x2.A ((bH x2.es).length) x2.cap,J (((iK x2.es x2.s:Nat):Int))]) fA Z Z (Bp e2.cl 1 Z))<|cz gF (ij x2.A x2.cap x2.es x2.s _ ⟨hl.gl,hl.cap,hl.rd.below H.below|>.mono (ao _) H.size⟩) Z Z ?_
 rintro _ w3 ⟨Aen,cen,rfl,hren,hcen,hben⟩;replace H:=H.learnRd hben hren;clear hren hben
 refine G (Yu Z)<|G (Xs Z Z)<|G (Xi Z Z)<|G (Xi Z Z)<|G (Ws Z)<|G (Wi Z)<|G (Wi Z)<|U<|W<|Zr<|G (Ys Z)<|G (bj eG Z)<|G (Yi Z)<|G (Wi Z)<|G (Wi Z)<|U<|Zt ?_
 exact mi Z Z Z ⟨rfl,H.below⟩
theorem Pa.facts {p:Pa} (h:p.a.ok):1<=p.reps.length/\p.reps.length<=5/\p.isr.length=p.reps.length/\p.known.length=p.reps.length/\1<=p.few/\p.few<=p.reps.length/\0<=p.epoch/\p.epoch<=1073741824/\ -1<=p.leader/\p.leader<p.reps.length/\0<=p.base/\p.base<=400/\true∈p.isr:=by
 have h1:=h.n1;have h2:=h.n2;have h3:=h.isrl;have h4:=h.knownl;have h6:=h.few2;have h7:=h.ld1
 simp only[Pa.a,bl]at h1 h2 h3 h4 h6 h7
 exact⟨h1,h2,h3,h4,h.few1,h6,h.ep0,h.ep1,h.ld0,h7,h.base0,h.base1,h.some_⟩
theorem Pa.repOk {p:Pa} (h:p.a.ok) {i:Nat} {r:f5} (hr:p.reps[i]? =some r):GL r.es r.s/\0<=r.high/\r.high<=r.es.length:=by
 have h1:=h.reps r.a (bG (ab hr))
 exact⟨h1.gl,h1.high0,h1.high1⟩
theorem Pa.leads {p:Pa} (h:p.a.ok) {l:Nat} {r:f5} (hl:p.leader=l) (hr:p.reps[l]? =some r):p.isr[l]? =some true/\r.up=true:=
 h.lead l r.a hl (by simp[Pa.a,hr])
theorem Pa.log {p:Pa} {w:World} (hd:p.rd 0 w.heap.size w) (h:p.a.ok) {i:Nat} {r:f5} (hr:p.reps[i]? =some r):r.log.ok w:=
 ⟨(Pa.repOk h hr).1,hd.cap r (ab hr),hd.logs r (ab hr)⟩
theorem sa (p:Pa) (w:World) (h:p.rd 0 w.heap.size w) (hok:p.a.ok):dt aa D8 [p.v] w fun v w2=>v=J 0/\Below w.heap.size w w2:=by
 refine aG B8 Z Z ?_
 obtain⟨hn1,hn2,hil,hkl,hf1,hf2,he0,he1,hl0,hl1,hb0,hb1,hsm⟩:=Pa.facts hok
 have hkn:=hok.known
 have hiC:=h.iC
 have hkC:=h.kC
 have hrC:=h.rC
 have hfew:=h.few
 have H:=Hp.startPa h
 obtain⟨ep,ld,isr,iA,iC,kn,kA,kC,reps,rA,rC,fw,bs⟩:=p
 simp only[Pa.a]at hkn
 dsimp only at H hn1 hn2 hil hkl hf1 hf2 he0 he1 hl0 hl1 hb0 hb1 hsm hiC hkC hrC hfew
 show CW _ _ _ _ (args [.agg #[J (ep),J (ld),.slice iA isr.length iC,.slice kA kn.length kC,.slice rA reps.length rC,J (fw),J (bs)]]) w
 refine W<|Zr<|gM H Z Z fun w1 b1 H=>G (Wi Z)<|U<|W<|Zr<|G (Zf dP Z)<|G (Zd cJ H 0 Z Z Z)<|G (bj ib Z)<|G (Wi Z)<|U<|W<|W<|Zr<|G (Yi Z)<|G (dn Z Z I)<|G (Yb Z)<|ZG<|G (Yi Z)<|ZG<|G (eu Z Z I)<|G (N Z Z)<|G (Yb Z)<|ZG<|G (Zf kP Z)<|ZG<|G (Zd lU H 0 Z Z Z)<|ZG<|G (bj yc Z)<|ZG<|G (Yi Z)<|ZG<|G (ch Z Z I)<|G (N Z Z)<|G (Yb Z)<|ZG<|G (Zf iQ Z)<|ZG<|G (Zd cC H 0 Z Z Z) ?_
 refine ZG<|G (bj eA Z)<|ZG<|G (Yi Z)<|ZG<|G (ch Z Z I)<|G (N Z Z)<|G (Yb Z)<|ZG<|G (Zf yq Z)<|ZG<|G (Zd al H 0 Z Z Z)<|ZG<|G (dn Z Z I)<|G (N Z Z)<|G (Yb Z)<|ZG<|G (Zf yq Z)<|ZG<|G (Zd al H 0 Z Z Z)<|ZG<|G (Yi Z)<|ZG<|G (eu Z Z I)<|G (N Z Z)<|G (Yb Z)<|ZG<|G (Zf qa Z)<|ZG<|G (Zd al H 0 Z Z Z)<|ZG<|G (dn Z Z I)<|G (N Z Z)<|G (Yb Z)<|ZG<|G (Zf qa Z)<|ZG<|G (Zd al H 0 Z Z Z)<|ZG<|G (eu Z Z I) ?_
 refine G (N Z Z)<|G (Yb Z)<|ZG<|G (Zf en Z)<|ZG<|G (Zd al H 0 Z Z Z)<|ZG<|G (dn Z Z I)<|G (N Z Z)<|G (Yb Z)<|ZG<|G (Zf en Z)<|ZG<|G (Zd al H 0 Z Z Z)<|ZG<|G (Yi Z)<|ZG<|G (rE Z Z I)<|G (N Z Z)<|G (Yb Z)<|ZG<|G (Zf yp Z)<|ZG<|G (Zd al H 0 Z Z Z)<|ZG<|G (dn Z Z I)<|G (N Z Z)<|G (Yb Z)<|ZG<|G (Zf yp Z)<|ZG<|G (Zd al H 0 Z Z Z)<|ZG<|G (eu Z Z I)<|G (N Z Z)<|U<|ZF Z<|Zk<|W<|W ?_
 refine Zr<|G (Zf kP Z)<|G (Zd lU H 0 Z Z Z)<|cz oM (yr isr iA iC _ (H.rd0 1 Z) I) Z Z ?_
 rintro _ w2 ⟨rfl,hb⟩;replace H:=H.later hb;clear hb
 rw[decide_eq_true hsm]
 refine G (d7 Z)<|G (Yb Z)<|ZG<|G (Zf en Z)<|ZG<|G (Zd al H 0 Z Z Z)<|ZG ?_
 refine dq (kk Z Z) Z Z Z (fun h80=> ?_) (fun h80=> ?_)
 obtain⟨l,hld⟩: ∃ l:Nat,ld=l:=⟨ld.toNat,by omega⟩
 refine ZG<|G (Yb Z)<|ZG<|G (Zf kP Z)<|ZG<|G (Zd lU H 0 Z Z Z)<|ZG<|G (Zf en Z)<|ZG<|G (Zd al H 0 Z Z Z)<|ZG<|px (k:=l) H 1 Z fa Z (congrArg (Value.int .i64) hld) I I Z fun b3 o3 x3 e3=>ZG ?_
 obtain⟨hI,-⟩:=Pa.leads hok (l:=l) hld (show(Pa.reps ⟨ep,ld,isr,iA,iC,kn,kA,kC,reps,rA,rC,fw,bs⟩)[l]? =_ from ai (by show l<reps.length;omega))
 obtain rfl:x3=true:=by have:=e3.at_;rw[show isr[l]? =_ from hI]at this;exact(aT this).symm
 refine G (bf (v:=.bool true) eL Z (e3.cl 0 _ Z))<|ZG<|G (d7 Z)<|ZG<|G (Yb Z)<|ZG<|G (Zf dP Z)<|ZG<|G (Zd cJ H 0 Z Z Z)<|ZG<|G (Zf en Z)<|ZG<|G (Zd al H 0 Z Z Z)<|ZG<|px (k:=l) H 3 Z bQ Z (congrArg (Value.int .i64) hld) I I Z fun b4 o4 x4 e4=>ZG<|G (Zf kO Z)<|ZG ?_
 obtain⟨-,hU⟩:=Pa.leads hok (l:=l) hld (show(Pa.reps ⟨ep,ld,isr,iA,iC,kn,kA,kC,reps,rA,rC,fw,bs⟩)[l]? =_ from e4.at_)
 refine G (bf (v:=.bool true) eL Z (e4.cl 0 _ (by rw[<-hU];rfl)))<|ZG<|G (d7 Z)<|ZG<|G (N Z Z)<|ZG<|G (Kt Z Z)<|G (N Z Z)<|U<|ZF Z<|Zk<|W<|W<|Zr<|G (Zf dP Z)<|G (Zd cJ H 0 Z Z Z)<|G (bj ib Z)<|G (Yi Z)<|U<|Zb ?_
 refine bW (τ:=Nat) [2,4,5,6,7,104,105,106,107,108,109,110,111,112,113,114,115,116,117,118,119,120,121,122,123,124,125,126,127,128,129,130,131,132,133,134,135,136,137,138,139,140,141,142,143,144,145,146] (fun k=>[(104,J (k:Nat))]) (fun k w'=>k<=reps.length/\Hp w w' [(b1,.cells #[J (ep),J (ld),.slice iA isr.length iC,.slice kA kn.length kC,.slice rA reps.length rC,J (fw),J (bs)] bK (0,0))] [Kq 0 w.heap.size ⟨ep,ld,isr,iA,iC,kn,kA,kC,reps,rA,rC,fw,bs⟩,d4 fE 0 w.heap.size iA isr,d4 bN 0 w.heap.size kA kn,d4 jn 0 w.heap.size rA reps]) (fun k=>reps.length-k) 0 ⟨by omega,H⟩ (dO Z) ?_
 rintro k ρ1 w5 ⟨hk,H⟩
 show CW _ _ _ _ (dH (gT _ _ ρ1) [(104,J (k:Nat))]) w5
 refine W<|Zr ?_
 refine dq (cL Z Z) Z Z Z (fun h105=> ?_) (fun h105=> ?_)
 refine U<|W<|ZT Z<|Zk<|W<|Zb<|W<|Zr<|G (Yi Z)<|px H 3 Z bQ Z Z I I Z fun b6 o6 x6 e6=>G (jL (xs:=f5.c x6) oR Z Z e6.cl)<|fg H rZ Z fun w7 b5 H=>G (Wi Z)<|bC H 0 (#[.bool (x6.up),.slice x6.A ((bH x6.es).length) x6.cap,J (((iK x6.es x6.s:Nat):Int)),J (x6.high)]) oc Z Z Z Z Z N N fun w8 H=>U<|W<|Zr<|G (Zw bk H 1 Z Z Z)<|G (Yi Z)<|cz kR (r9 ⟨ep,ld,isr,iA,iC,kn,kA,kC,reps,rA,rC,fw,bs⟩ k x6 _ (H.rd0 3 Z) e6.at_ (Pa.log (Hp.pa H 0 Z) hok (i:=k) e6.at_)) Z Z ?_
 rintro _ w9 ⟨rfl,hb⟩;replace H:=H.later hb;clear hb
 refine G (Yu Z)<|G (Xi Z Z)<|G (Xi Z Z)<|G (Wi Z)<|G (Wi Z)<|U<|W<|Zr<|G (Zf dT Z)<|G (j4 1 [.slice x6.A ((bH x6.es).length) x6.cap,J (((iK x6.es x6.s:Nat):Int))] fA Z Z (H.ent (i:=0) Z) Z)<|cz p7 (t9 x6.A x6.cap x6.es x6.s _ (Pa.log (Hp.pa H 0 Z) hok (i:=k) e6.at_)) Z Z ?_
 rintro _ w10 ⟨rfl,hb⟩;replace H:=H.later hb;clear hb
 refine G (ch Z Z Z)<|G (Yb Z)<|ZG<|G (Zf eR Z)<|ZG<|G (Zd al H 0 Z Z Z)<|ZG<|G (dn Z Z (by have:=(Pa.repOk hok (show(Pa.reps ⟨ep,ld,isr,iA,iC,kn,kA,kC,reps,rA,rC,fw,bs⟩)[k]? =_ from e6.at_)).2.1;omega))<|G (N Z Z)<|G (Yb Z)<|ZG<|G (Zf eR Z)<|ZG<|G (Zd al H 0 Z Z Z)<|ZG<|G (Yi Z)<|ZG<|G (eu Z Z (by have:=(Pa.repOk hok (show(Pa.reps ⟨ep,ld,isr,iA,iC,kn,kA,kC,reps,rA,rC,fw,bs⟩)[k]? =_ from e6.at_)).2.2;omega))<|G (N Z Z)<|G (Yb Z)<|ZG<|G (Zf iQ Z)<|ZG<|G (Zd cC H 1 Z Z Z)<|ZG<|G (Yi Z)<|ZG<|px H 2 Z bd Z Z I I Z fun b11 o11 x11 e11=>ZG<|G (bf al Z (e11.cl 0 _ Z))<|ZG<|G (dn Z Z (by have:=(hkn _ (ab e11.at_)).1;omega))<|G (N Z Z)<|G (Yb Z)<|ZG<|G (Zf iQ Z)<|ZG<|G (Zd cC H 1 Z Z Z)<|ZG<|G (Yi Z) ?_
 refine ZG<|px H 2 Z bd Z Z I I Z fun b12 o12 x12 e12=>ZG<|G (bf al Z (e12.cl 0 _ Z))<|ZG<|G (eu Z Z (by have:=(hkn _ (ab e12.at_)).2;omega))<|G (N Z Z)<|U<|ZF Z<|Zk<|Zr<|G (bn Z Z I I)<|G (Yi Z)<|U ?_
 refine⟨k+1,⟨by omega,H.forget (.cons _ (au _)) (fun _ h=>h)⟩,dO Z,Qg,by show reps.length- (k+1)<reps.length-k;omega⟩
 refine U<|W<|ZF Z<|Zx<|W<|Zr<|G (Wi Z)<|U<|Zt ?_
 exact cn Z Z ⟨rfl,H.below⟩
 refine ZG<|G (Yb Z)<|ZN<|ZN<|ZN<|ZN<|ZN<|ZN<|ZN<|ZN<|ZN<|ZN<|ZN<|ZN<|ZN<|ZN<|ZN<|ZN<|ZN<|ZG<|G (N Z Z)<|G (N Z Z)<|U<|ZF Z<|Zk<|W<|W<|Zr<|G (Zf dP Z)<|G (Zd cJ H 0 Z Z Z)<|G (bj ib Z)<|G (Yi Z)<|U<|Zb ?_
 refine bW (τ:=Nat) [2,4,5,6,7,104,105,106,107,108,109,110,111,112,113,114,115,116,117,118,119,120,121,122,123,124,125,126,127,128,129,130,131,132,133,134,135,136,137,138,139,140,141,142,143,144,145,146] (fun k=>[(104,J (k:Nat))]) (fun k w'=>k<=reps.length/\Hp w w' [(b1,.cells #[J (ep),J (ld),.slice iA isr.length iC,.slice kA kn.length kC,.slice rA reps.length rC,J (fw),J (bs)] bK (0,0))] [Kq 0 w.heap.size ⟨ep,ld,isr,iA,iC,kn,kA,kC,reps,rA,rC,fw,bs⟩,d4 fE 0 w.heap.size iA isr,d4 bN 0 w.heap.size kA kn,d4 jn 0 w.heap.size rA reps]) (fun k=>reps.length-k) 0 ⟨by omega,H⟩ (dO Z) ?_
 rintro k ρ1 w13 ⟨hk,H⟩
 show CW _ _ _ _ (dH (gT _ _ ρ1) [(104,J (k:Nat))]) w13
 refine W<|Zr ?_
 refine dq (cL Z Z) Z Z Z (fun h105=> ?_) (fun h105=> ?_)
 refine U<|W<|ZT Z<|Zk<|W<|Zb<|W<|Zr<|G (Yi Z)<|px H 3 Z bQ Z Z I I Z fun b14 o14 x14 e14=>G (jL (xs:=f5.c x14) oR Z Z e14.cl)<|fg H rZ Z fun w15 b5 H=>G (Wi Z)<|bC H 0 (#[.bool (x14.up),.slice x14.A ((bH x14.es).length) x14.cap,J (((iK x14.es x14.s:Nat):Int)),J (x14.high)]) oc Z Z Z Z Z N N fun w16 H=>U<|W<|Zr<|G (Zw bk H 1 Z Z Z)<|G (Yi Z)<|cz kR (r9 ⟨ep,ld,isr,iA,iC,kn,kA,kC,reps,rA,rC,fw,bs⟩ k x14 _ (H.rd0 3 Z) e14.at_ (Pa.log (Hp.pa H 0 Z) hok (i:=k) e14.at_)) Z Z ?_
 rintro _ w17 ⟨rfl,hb⟩;replace H:=H.later hb;clear hb
 refine G (Yu Z)<|G (Xi Z Z)<|G (Xi Z Z)<|G (Wi Z)<|G (Wi Z)<|U<|W<|Zr<|G (Zf dT Z)<|G (j4 1 [.slice x14.A ((bH x14.es).length) x14.cap,J (((iK x14.es x14.s:Nat):Int))] fA Z Z (H.ent (i:=0) Z) Z)<|cz p7 (t9 x14.A x14.cap x14.es x14.s _ (Pa.log (Hp.pa H 0 Z) hok (i:=k) e14.at_)) Z Z ?_
 rintro _ w18 ⟨rfl,hb⟩;replace H:=H.later hb;clear hb
 refine G (ch Z Z Z)<|G (Yb Z)<|ZG<|G (Zf eR Z)<|ZG<|G (Zd al H 0 Z Z Z)<|ZG<|G (dn Z Z (by have:=(Pa.repOk hok (show(Pa.reps ⟨ep,ld,isr,iA,iC,kn,kA,kC,reps,rA,rC,fw,bs⟩)[k]? =_ from e14.at_)).2.1;omega))<|G (N Z Z)<|G (Yb Z)<|ZG<|G (Zf eR Z)<|ZG<|G (Zd al H 0 Z Z Z)<|ZG<|G (Yi Z)<|ZG<|G (eu Z Z (by have:=(Pa.repOk hok (show(Pa.reps ⟨ep,ld,isr,iA,iC,kn,kA,kC,reps,rA,rC,fw,bs⟩)[k]? =_ from e14.at_)).2.2;omega))<|G (N Z Z)<|G (Yb Z)<|ZG<|G (Zf iQ Z)<|ZG<|G (Zd cC H 1 Z Z Z)<|ZG<|G (Yi Z)<|ZG<|px H 2 Z bd Z Z I I Z fun b19 o19 x19 e19=>ZG<|G (bf al Z (e19.cl 0 _ Z))<|ZG<|G (dn Z Z (by have:=(hkn _ (ab e19.at_)).1;omega))<|G (N Z Z)<|G (Yb Z)<|ZG<|G (Zf iQ Z)<|ZG<|G (Zd cC H 1 Z Z Z)<|ZG<|G (Yi Z) ?_
 refine ZG<|px H 2 Z bd Z Z I I Z fun b20 o20 x20 e20=>ZG<|G (bf al Z (e20.cl 0 _ Z))<|ZG<|G (eu Z Z (by have:=(hkn _ (ab e20.at_)).2;omega))<|G (N Z Z)<|U<|ZF Z<|Zk<|Zr<|G (bn Z Z I I)<|G (Yi Z)<|U ?_
 refine⟨k+1,⟨by omega,H.forget (.cons _ (au _)) (fun _ h=>h)⟩,dO Z,Qg,by show reps.length- (k+1)<reps.length-k;omega⟩
 refine U<|W<|ZF Z<|Zx<|W<|Zr<|G (Wi Z)<|U<|Zt ?_
 exact cn Z Z ⟨rfl,H.below⟩
theorem Al {f:cf} {l:List f5} {x:f5} {F:List cf} (h:f∈F++vr (l++[x])):f∈BR x::(F++vr l):=by
 simp only[vr,bh,eN,pE,aq,ar]at h
 simp only[av,aq,vr]
 rcases h with h|h|h
 exact .inr (.inl h)
 exact .inr (.inr h)
 exact .inl h
theorem Ac (p:Pa) (w:World) (h:p.rd 0 w.heap.size w) (hok:p.a.ok):dt aa yW [p.v] w fun v w2=> ∃ (p':Pa) (g1 g2 g3:Nat) (c1 c2 c3:Array Value),v=p'.v/\p'.a=p.a/\IV w w2 p' g1 g2 g3 c1 c2 c3:=by
 refine aG Eo Z Z ?_
 obtain⟨hn1,hn2,hil,hkl,hf1,hf2,he0,he1,hl0,hl1,hb0,hb1,hsm⟩:=Pa.facts hok
 have hkn:=hok.known
 have hiC:=h.iC
 have hkC:=h.kC
 have hrC:=h.rC
 have hfew:=h.few
 have H:=Hp.startPa h
 obtain⟨ep,ld,isr,iA,iC,kn,kA,kC,reps,rA,rC,fw,bs⟩:=p
 simp only[Pa.a]at hkn
 dsimp only at H hn1 hn2 hil hkl hf1 hf2 he0 he1 hl0 hl1 hb0 hb1 hsm hiC hkC hrC hfew
 show CW _ _ _ _ (args [.agg #[J (ep),J (ld),.slice iA isr.length iC,.slice kA kn.length kC,.slice rA reps.length rC,J (fw),J (bs)]]) w
 refine W<|Zr<|gM H Z Z fun w1 b1 H=>fg H bT Z fun w2 b2 H=>U<|W ?_
 refine bP cD [0,1,3,4,6,7,2,9,5,8] [10,11,12,13,14] [2,5,8] [0,3,6,9] (sp [(2,Sp.orow w2.heap.size fE jX isr),(5,Sp.orow w2.heap.size bN da kn),(8,Sp.orow w2.heap.size jn gO reps)]) N N N N Nq (cO _) ?_
 refine aw Z Z Z Z Z (fun w' hw'=>Zf kP Z)<|aw Z Z Z Z Z (fun w' hw'=>bf lU Z (aJ ((H.later hw').ent (i:=1) Z) Z))<|aw Z Z Z Z Z (fun w' hw'=>Zf iQ Z)<|aw Z Z Z Z Z (fun w' hw'=>bf cC Z (aJ ((H.later hw').ent (i:=1) Z) Z))<|aw Z Z Z Z Z (fun w' hw'=>Zf dP Z)<|aw Z Z Z Z Z (fun w' hw'=>bf cJ Z (aJ ((H.later hw').ent (i:=1) Z) Z))<|yA qx Z Z Z Z Z (fun w' hw'=>hw'.size) (fun w' hw'=>Ck isr _ _ w' ((H.later hw').rd0 1 Z) I) Z fun A6 c6 hc6=>aw Z Z Z Z Z (fun w' hw'=>Zf kP Z)<|yA gu Z Z Z Z Z (fun w' hw'=>hw'.size) (fun w' hw'=>tj kn _ _ w' ((H.later hw').rd0 2 Z) I) Z fun A9 c9 hc9=>yA mS Z Z Z Z Z (fun w' hw'=>hw'.size) (fun w' hw'=>yu reps _ _ w' ((H.later hw').rd0 3 Z) I) Z fun A12 c12 hc12=>aU ?_
 intro w3 hw' hF
 obtain⟨hF,Aq,cq,L12,eq,hcq,hm12,ho12,he12,hn12⟩:=hF;cases eq;clear hcq
 obtain⟨hF,Aq,cq,L9,eq,hcq,hm9,ho9,he9,hn9⟩:=hF;cases eq;clear hcq
 obtain⟨hF,Aq,cq,L6,eq,hcq,hm6,ho6,he6,hn6⟩:=hF;cases eq;clear hcq
 obtain⟨g1,cur1,rfl,rfl,row1⟩:=ho6.row I
 obtain⟨g2,cur2,rfl,rfl,row2⟩:=ho9.row I
 obtain⟨g3,cur3,rfl,rfl,row3⟩:=ho12.row I
 have e6:=he6 _ (d6 _)
 have e9:=he9 _ (d6 _)
 have e12:=he12 _ (d6 _)
 replace H:=H.adopt3 hw' e6 e9 e12 (sw e6.1 e9.1 Z) (sw e6.1 e12.1 Z) (sw e9.1 e12.1 Z)
 clear hw' hF
 refine bC H 4 (#[J (ep),J (ld),.slice (Qd g1) isr.length c6,.slice kA kn.length kC,.slice rA reps.length rC,J (fw),J (bs)]) Jb Z Z Z Z Z N N fun w4 H=>G (Zf iQ Z)<|bC H 4 (#[J (ep),J (ld),.slice (Qd g1) isr.length c6,.slice (Qd g2) kn.length c9,.slice rA reps.length rC,J (fw),J (bs)]) jK Z Z Z Z Z N N fun w5 H=>G (Zf dP Z)<|bC H 4 (#[J (ep),J (ld),.slice (Qd g1) isr.length c6,.slice (Qd g2) kn.length c9,.slice (Qd g3) reps.length c12,J (fw),J (bs)]) DK Z Z Z Z Z N N fun w6 H=>U<|W<|W<|Zr<|G (Zf dP Z)<|G (Zd cJ H 4 Z Z Z)<|G (bj ib Z)<|G (Yi Z)<|U<|Zb ?_
 refine bW (τ:=Nat×List f5×Array Value) [3,19,20,21,22,23,24,25,26,27,28,29,30,31,32,33,34,35,36] (fun(k,_)=>[(19,J (k:Nat))]) (fun(k,rs,c3) w'=>k<=rs.length/\rs.length=reps.length/\rs.map f5.a=reps.map f5.a/\rs.drop k=reps.drop k/\(∀ r∈rs.take k,(bH r.es).length<=r.cap/\w.heap.size<=r.lo)/\d3 jn rs c12 c3/\Hp w w' [(g1,.cells cur1 jX (0,0)),(g2,.cells cur2 da (0,0)),(g3,.cells c3 gO (0,0)),(b2,.cells #[J 0,J 0,.slice none 0 0,.slice none 0 0,.slice none 0 0,J 0,J 0] bK (0,0)),(b1,.cells #[J ep,J ld,.slice (Qd g1) isr.length c6,.slice (Qd g2) kn.length c9,.slice (Qd g3) reps.length c12,J fw,J bs] bK (0,0))] ([Kq 0 w.heap.size ⟨ep,ld,isr,iA,iC,kn,kA,kC,reps,rA,rC,fw,bs⟩,d4 fE 0 w.heap.size iA isr,d4 bN 0 w.heap.size kA kn,d4 jn 0 w.heap.size rA reps]++vr (rs.take k))) (fun(k,rs,_)=>rs.length-k) (0,reps,cur3) ⟨by omega,rfl,rfl,rfl,by simp,row3,H⟩ (dO Z) ?_
 rintro⟨k,rs,c3⟩ ρ1 w7 ⟨hk,hrl,hma,hdr,hcp,row,H⟩
 show CW _ _ _ _ (dH (gT _ _ ρ1) [(19,J (k:Nat))]) w7
 refine W<|Zr ?_
 refine dq (cL Z Z) Z Z Z (fun h20=> ?_) (fun h20=> ?_)
 refine U<|W<|ZT Z<|Zk<|W<|Zb<|W ?_
 obtain⟨x,hx⟩: ∃ x,rs[k]? =some x:=⟨_,ai I⟩
 have hxt:=zF hdr hx
 have hsz:=(Pa.repOk hok (show(Pa.reps ⟨ep,ld,isr,iA,iC,kn,kA,kC,reps,rA,rC,fw,bs⟩)[k]? =_ from hxt)).1.sz
 refine Zr<|G (Yi Z)<|G (Wi Z)<|U ?_
 have hlo:=H.size
 refine bP cD [0,1,2,3,4,5,6,7,8,9,10,11,12,13] [14] [10] [0,2,3,5,6,7,8,11,12,13] (sp [(10,Sp.row w7.heap.size dN (bH x.es))]) N N N N Nq (cO _) ?_
 refine aw Z Z Z Z Z (fun w' hw'=>Zf dP Z)<|aw Z Z Z Z Z (fun w' hw'=>bf cJ Z (aJ ((H.later hw').ent (i:=4) Z) Z))<|aw Z Z Z Z Z (fun w' hw'=>Yi Z)<|aw Z Z Z Z Z (fun w' hw'=>Zf dP Z)<|aw Z Z Z Z Z (fun w' hw'=>bf cJ Z (aJ ((H.later hw').ent (i:=4) Z) Z))<|aw Z Z Z Z Z (fun w' hw'=>Yi Z)<|aw Z Z Z Z Z (fun w' hw'=>cQ bQ Z Z (by first|omega|(simp only[ae];omega)))<|aw Z Z Z Z Z (fun w' hw'=>Zf dT Z)<|aw Z Z Z Z Z (fun w' hw'=>Zf i5 Z)<|aw Z Z Z Z Z (fun w' hw'=>bX eO row hx 1 Z ((H.later hw').ent (i:=2) Z) Z)<|Dj fU Z Z Z Z Z (fun w' hw'=>hw'.size) (fun w' hw'=>n6 (bH x.es) _ _ w' ((Hp.pa (H.later hw') 0 Z).logs x (ab hxt)) I) Z fun A32 c32 hc32=>aw Z Z Z Z Z (fun w' hw'=>cQ bQ Z Z (by first|omega|(simp only[ae];omega)))<|aw Z Z Z Z Z (fun w' hw'=>Zf dT Z)<|aw Z Z Z Z Z (fun w' hw'=>Zf i5 Z)<|aU ?_
 intro w8 hw' hF
 obtain⟨hF,Aq,cq,eq,hcq,hrw32⟩:=hF;cases eq;clear hcq
 replace H:=H.learnRd hw' hrw32
 clear hw' hF
 refine m5 H 2 ({x with A:=A32,cap:=c32,lo:=w7.heap.size,hi:=w8.heap.size}) CS row hx 1 Z Z Z Z Z Z N fun w10 cur9 row9 H=>U<|Zr<|G (bn Z Z I I)<|G (Yi Z)<|U ?_
 obtain⟨z1,z2,z3⟩:=OH (x':={x with A:=A32,cap:=c32,lo:=w7.heap.size,hi:=w8.heap.size}) hx hma hdr Z
 refine⟨(k+1,rs.set k {x with A:=A32,cap:=c32,lo:=w7.heap.size,hi:=w8.heap.size},cur9),⟨by rw[ae];omega,by rw[ae];exact hrl,z1,z2,?_,row9,H.forget (au _) (fun f hf=>by rw[z3]at hf;exact Al hf)⟩,dO Z,Qg,by show(rs.set k _).length- (k+1)<rs.length-k;rw[ae];omega⟩
 rw[z3];intro t ht;rcases aq.1 ht with ht|ht;exact hcp t ht;rw[ar.1 ht];exact⟨hc32,hlo⟩
 refine U<|W<|ZF Z<|Zx<|W<|Zr<|G (Zw bk H 4 Z Z Z)<|bC H 3 (#[J (ep),J (ld),.slice (Qd g1) isr.length c6,.slice (Qd g2) kn.length c9,.slice (Qd g3) reps.length c12,J (fw),J (bs)]) bi Z Z Z Z Z N N fun w11 H=>U<|Zt ?_
 have hke:k=rs.length:=by omega
 rw[hke,bM]at H hcp
 exact eQ (cs0:= #[J ep,J ld,.slice (Qd g1) isr.length c6,.slice (Qd g2) kn.length c9,.slice (Qd g3) reps.length c12,J fw,J bs]) Z bk Z (H.ent (i:=3) Z) Z ⟨⟨ep,ld,isr,some ⟨g1,0,none⟩,c6,kn,some ⟨g2,0,none⟩,c9,rs,some ⟨g3,0,none⟩,c12,fw,bs⟩,g1,g2,g3,cur1,cur2,c3,by unfold Pa.v Pa.c;dsimp only;rw[hrl],by unfold Pa.a;dsimp only;rw[hma],⟨rfl,rfl,rfl,row1,row2,row,fun r hr=>(hcp r hr).1,fun r hr=>(hcp r hr).2,by dsimp only;omega,H.forget (.cons_cons _ (.cons_cons _ (.cons_cons _ (List.nil_sublist _)))) (fun f hf=>cB _ hf)⟩⟩
/-- the least of what is known of those that keep up -/
def cW:List Bool->List Int->Int->Int
 |b::bs,n::ns,m=>cW bs ns (if b then min m n else m)
 |_,_,m=>m
theorem AA {isr:List Bool} {kn:List Int} {k:Nat} {b:Bool} {n m:Int} (hb:isr[k]? =some b) (hn:kn[k]? =some n):cW (isr.drop k) (kn.drop k) m=cW (isr.drop (k+1)) (kn.drop (k+1)) (if b then min m n else m):=by
 rw[cM hb,cM hn]
 rfl
theorem Ff {w0 w:World} {L:List (Nat×Obj)} {F:List cf} {r:f5} (H:Hp w0 w L F) (hF:BR r∈F) (hg:GL r.es r.s) (hc:(bH r.es).length<=r.cap):r.log.ok w:=by
 obtain⟨h1,h2,-⟩:=H.facts (BR r) hF
 exact⟨hg,hc,Rd.mono h1 (bx _) h2⟩
theorem G0 (p:Pa) (r:Nat) (w:World) (h:p.rd 0 w.heap.size w) (hok:p.a.ok) (hr:r<p.reps.length):dt aa JR [p.v,J (r:Nat)] w fun v w2=> ∃ (p':Pa) (g1 g2 g3:Nat) (c1 c2 c3:Array Value),v=.tuple #[p'.v,J 0]/\p'.a=p.a/\IV w w2 p' g1 g2 g3 c1 c2 c3:=by
 refine aG Hw Z Z ?_
 obtain⟨hn1,hn2,hil,hkl,hf1,hf2,he0,he1,hl0,hl1,hb0,hb1,hsm⟩:=Pa.facts hok
 have hkn:=hok.known
 have hiC:=h.iC
 have hkC:=h.kC
 have hrC:=h.rC
 have hfew:=h.few
 have H:=Hp.startPa h
 obtain⟨ep,ld,isr,iA,iC,kn,kA,kC,reps,rA,rC,fw,bs⟩:=p
 simp only[Pa.a]at hkn
 dsimp only at H hn1 hn2 hil hkl hf1 hf2 he0 he1 hl0 hl1 hb0 hb1 hsm hiC hkC hrC hfew
 dsimp only at hr
 show CW _ _ _ _ (args [.agg #[J (ep),J (ld),.slice iA isr.length iC,.slice kA kn.length kC,.slice rA reps.length rC,J (fw),J (bs)],J (((r:Nat):Int))]) w
 refine W<|Zr<|gM H Z Z fun w1 b2 H=>fg H bT Z fun w2 b4 H=>G (Wi Z)<|U<|W<|W<|Zr<|G (Zw bk H 1 Z Z Z)<|cz ls (sa ⟨ep,ld,isr,iA,iC,kn,kA,kC,reps,rA,rC,fw,bs⟩ _ (Hp.pa H 0 Z) hok) Z Z ?_
 rintro _ w3 ⟨rfl,hb⟩;replace H:=H.later hb;clear hb
 refine G (Wi Z)<|U<|W<|Zr<|G (Yi Z)<|G (ch Z Z Z)<|U<|ZF Z<|Zk<|W<|W<|Zr<|G (Yi Z)<|G (dn Z Z I)<|G (Yb Z)<|ZG<|G (Yi Z)<|ZG<|G (Zf dP Z)<|ZG<|G (Zd cJ H 1 Z Z Z)<|ZG<|G (bj ib Z)<|ZG<|G (rE Z Z I)<|G (N Z Z)<|U<|ZF Z<|Zk<|W<|Zr<|G (Zw bk H 1 Z Z Z)<|cz mU (Ac ⟨ep,ld,isr,iA,iC,kn,kA,kC,reps,rA,rC,fw,bs⟩ _ (Hp.pa H 0 Z) hok) Z Z ?_
 rintro _ w4 ⟨⟨ep2,ld2,is2,iA2,c1,kn2,kA2,c2,rs,rA2,c3,fw2,bs2⟩,g1,g2,g3,u1,u2,u3,rfl,ha2,ho⟩
 simp only[Pa.a,fX.mk.injEq]at ha2
 obtain⟨e1,e2,e3,e4,hma,e6,e7⟩:=ha2
 obtain rfl:ep=ep2:=e1.symm
 obtain rfl:ld=ld2:=e2.symm
 obtain rfl:isr=is2:=e3.symm
 obtain rfl:kn=kn2:=e4.symm
 obtain rfl:fw=fw2:=e6.symm
 obtain rfl:bs=bs2:=e7.symm
 have hrl:rs.length=reps.length:=by have:=congrArg di hma;simpa using this
 obtain⟨i1,i2,i3,row1,row2,row3,hcp,hlos,-,hjn⟩:=ho
 dsimp only at i1 i2 i3 row1 row2 row3 hcp hlos hjn
 subst i1;subst i2;subst i3
 have hlo0:=H.size
 replace H:=H.joinF hjn (by intro f hf;obtain⟨r,hr,rfl⟩:=bS.1 hf;exact hlos r hr)
 replace hlos: ∀ r∈rs,w.heap.size<=r.lo:=fun r hr=>aX hlo0 (hlos r hr)
 clear hjn
 refine bC H 3 (#[J (ep),J (ld),.slice (Qd g1) isr.length c1,.slice (Qd g2) kn.length c2,.slice (Qd g3) rs.length c3,J (fw),J (bs)]) bi Z Z Z Z Z N N fun w5 H=>G (Wi Z)<|U<|Zt ?_
 exact ci (cs0:= #[J (ep),J (ld),.slice (Qd g1) isr.length c1,.slice (Qd g2) kn.length c2,.slice (Qd g3) rs.length c3,J (fw),J (bs)]) (v1:=J 0) Z bk Z (H.ent (i:=3) Z) Z Z ⟨⟨ep,ld,isr,_,c1,kn,_,c2,rs,_,c3,fw,bs⟩,g1,g2,g3,u1,u2,u3,rfl,by simp only[Pa.a,hma],⟨rfl,rfl,rfl,row1,row2,row3,hcp,hlos,by dsimp only;omega,H.forget (.cons_cons _ (.cons_cons _ (.cons_cons _ (List.nil_sublist _)))) (fun f hf=>cB _ hf)⟩⟩
theorem DP {w0 w:World} {M:List (Nat×Obj)} {F:List cf} {g1 g2 g3:Nat} {u1 u2 u3:Array Value} (ep ld:Int) (isr:List Bool) (iC:Nat) (kn:List Int) (kC:Nat) (reps:List f5) (rC:Nat) (fw bs:Int) (l:Nat) (r:f5)
  (H:Hp w0 w ((g1,.cells u1 jX (0,0))::(g2,.cells u2 da (0,0))::(g3,.cells u3 gO (0,0))::M) F) (row1:d3 fE isr iC u1) (row2:d3 bN kn kC u2) (row3:d3 jn reps rC u3) (hil:isr.length=reps.length) (hkl:kn.length=reps.length) (hn:reps.length<=5) (hld:ld=l) (hr:reps[l]? =some r) (hF:BR r∈F) (hg:GL r.es r.s) (hc:(bH r.es).length<=r.cap):
  dt aa AK [.agg #[J (ep),J (ld),.slice (Qd g1) isr.length iC,.slice (Qd g2) kn.length kC,.slice (Qd g3) reps.length rC,J (fw),J (bs)]] w fun v w2=> ∃ u4,v=.agg #[J (ep),J (ld),.slice (Qd g1) isr.length iC,.slice (Qd g2) kn.length kC,.slice (Qd g3) reps.length rC,J (fw),J (bs)]/\d3 jn (reps.set l {r with high:=max r.high (min (cW isr kn 400) (r.es.length:Nat))}) rC u4/\Hp w0 w2 ((g1,.cells u1 jX (0,0))::(g2,.cells u2 da (0,0))::(g3,.cells u4 gO (0,0))::M) F:=by
 refine aG zi Z Z ?_
 have hll:=(cu hr).1
 refine W<|Zr<|gM H Z Z fun w1 b1 H=>fg H bT Z fun w2 b2 H=>U<|W<|W<|Zr<|G (Zf en Z)<|G (Zd al H 1 Z Z Z)<|G (dn Z Z I)<|U<|ZF Z<|Zk<|W<|Zr<|G (Wi Z)<|U<|W<|W<|Zr<|G (Zf iQ Z)<|G (Zd cC H 1 Z Z Z)<|G (bj eA Z)<|G (Yi Z)<|U<|Zb ?_
 refine bW (τ:=Nat×Int) [3,4,5,16,17,18,19,20,21,22,23,24,25,26,27,28,29] (fun(k,m)=>[(16,J (k:Nat)),(3,J m)]) (fun(k,m) w'=>k<=kn.length/\cW (isr.drop k) (kn.drop k) m=cW isr kn 400/\Hp w0 w' ((b2,.cells #[J 0,J 0,.slice none 0 0,.slice none 0 0,.slice none 0 0,J 0,J 0] bK (0,0))::(b1,.cells #[J (ep),J (ld),.slice (Qd g1) isr.length iC,.slice (Qd g2) kn.length kC,.slice (Qd g3) reps.length rC,J (fw),J (bs)] bK (0,0))::(g1,.cells u1 jX (0,0))::(g2,.cells u2 da (0,0))::(g3,.cells u3 gO (0,0))::M) F) (fun(k,_)=>kn.length-k) (0,400) ⟨by omega,rfl,H⟩ (lE Z Z) ?_
 rintro⟨k,m⟩ ρ1 w3 ⟨hk,hm,H⟩
 show CW _ _ _ _ (dH (gT _ _ ρ1) [(16,J (k:Nat)),(3,J m)]) w3
 refine W<|Zr ?_
 refine dq (cL Z Z) Z Z Z (fun h17=> ?_) (fun h17=> ?_)
 refine U<|W<|ZT Z<|Zk<|W<|Zb<|W ?_
 obtain⟨n,hn_⟩: ∃ n,kn[k]? =some n:=⟨_,ai I⟩
 obtain⟨b,hb_⟩: ∃ b,isr[k]? =some b:=⟨_,ai I⟩
 refine Zr<|G (Yi Z)<|G (cQ bd Z Z (by first|omega|(simp only[ae];omega)))<|G (bX al row2 hn_ 0 Z (H.ent (i:=3) Z) Z)<|G (Wi Z)<|G (Wi Z)<|U<|W<|Zr<|G (Zf kP Z)<|G (Zd lU H 1 Z Z Z)<|G (Yi Z)<|G (cQ fa Z Z (by first|omega|(simp only[ae];omega))) ?_
 refine zB (bX eL row1 hb_ 0 Z (H.ent (i:=2) Z) Z) Z Z Z (fun h25=> ?_) (fun h25=> ?_)
 refine U<|ZT Z<|Zr<|G (Yi Z)<|G (Yi Z)<|G (ya Z Z)<|G (Wi Z)<|U<|Zr<|G (bn Z Z I I)<|G (Yi Z)<|U ?_
 refine⟨(k+1,min m n),⟨by omega,by rw[<-hm,AA hb_ hn_];rw[if_pos h25],H⟩,lE Z Z,Qg,by show kn.length- (k+1)<kn.length-k;omega⟩
 refine U<|ZF Z<|Zk<|Zr<|G (bn Z Z I I)<|G (Yi Z)<|U ?_
 refine⟨(k+1,m),⟨by omega,by rw[<-hm,AA hb_ hn_];rw[if_neg (by simp[h25])],H⟩,lE Z Z,Qg,by show kn.length- (k+1)<kn.length-k;omega⟩
 have hke:k=kn.length:=by omega
 have hm2:m=cW isr kn 400:=by rw[<-hm,hke,fz];cases(isr.drop kn.length)<;>rfl
 refine U<|W<|ZF Z<|Zx<|W<|Zr<|G (Zw bk H 1 Z Z Z)<|G (Zf en Z)<|G (Zd al H 1 Z Z Z)<|cz kR (by have hE:=r9 ⟨ep,ld,isr,some ⟨g1,0,none⟩,iC,kn,some ⟨g2,0,none⟩,kC,reps,some ⟨g3,0,none⟩,rC,fw,bs⟩ l r _ (row3.rd0 (H.ent (i:=4) Z)) hr (Ff H hF hg hc);rw[<-hld]at hE;exact hE) Z Z ?_
 rintro _ w4 ⟨rfl,hb⟩;replace H:=H.later hb;clear hb
 refine G (Yu Z)<|G (Xi Z Z)<|G (Xi Z Z)<|G (Wi Z)<|G (Wi Z)<|U<|W<|Zr<|G (Zf dP Z)<|G (Zd cJ H 1 Z Z Z)<|G (Zf en Z)<|G (Zd al H 1 Z Z Z)<|G (cQ (k:=l) bQ Z (congrArg (Value.int .i64) hld) (by first|omega|(simp only[ae];omega)))<|G (Wp Z)<|U<|W<|Zr<|G (Yp Z)<|G (Yp Z)<|G (aI Z)<|G (Zf eR Z)<|G (bX al row3 hr 3 Z (H.ent (i:=4) Z) Z)<|G (Yi Z)<|G (Yi Z)<|G (ya Z Z)<|G (D0 Z Z)<|G (aI Z)<|G (Zf eR Z)<|m5 H 4 ({r with high:=max r.high (min m (r.es.length:Nat))}) bV row3 hr 3 Z Z Z Z Z Z N fun w6 cur5 row5 H=> ?_
 have hs7:(reps.set l ({r with high:=max r.high (min m (r.es.length:Nat))}))[l]? =some ({r with high:=max r.high (min m (r.es.length:Nat))}):=am (cu hr).1
 refine U<|W<|Zr<|G (Zw bk H 1 Z Z Z)<|bC H 0 (#[J (ep),J (ld),.slice (Qd g1) isr.length iC,.slice (Qd g2) kn.length kC,.slice (Qd g3) reps.length rC,J (fw),J (bs)]) bi Z Z Z Z Z N N fun w8 H=>U<|Zt ?_
 exact eQ (cs0:= #[J (ep),J (ld),.slice (Qd g1) isr.length iC,.slice (Qd g2) kn.length kC,.slice (Qd g3) reps.length rC,J (fw),J (bs)]) Z bk Z (H.ent (i:=0) Z) Z ⟨_,rfl,hm2▸row5,H.forget (.cons _ (.cons _ (au _))) (fun _ h=>h)⟩
/-- the logs of replicas that a call has made -/
def tZ (w:World) (F:List cf) (rs:List f5):Prop:= ∀ r∈rs,(bH r.es).length<=r.cap/\w.heap.size<=r.lo/\BR r∈F
theorem tZ.of {w:World} {F:List cf} {rs:List f5} (h1: ∀ r∈rs,(bH r.es).length<=r.cap) (h2: ∀ r∈rs,w.heap.size<=r.lo):tZ w (F++vr rs) rs:=fun r hr=>⟨h1 r hr,h2 r hr,cB _ (bG hr)⟩
theorem tZ.cons {w:World} {F:List cf} {f:cf} {rs:List f5} (h:tZ w F rs):tZ w (f::F) rs:=fun r hr=>⟨(h r hr).1,(h r hr).2.1,aj _ (h r hr).2.2⟩
theorem tZ.set {w:World} {F:List cf} {rs:List f5} (h:tZ w F rs) (i:Nat) {x:f5} (hx:(bH x.es).length<=x.cap/\w.heap.size<=x.lo/\BR x∈F):tZ w F (rs.set i x):=fun r hr=>by
 rcases aC hr with hr|rfl
 exact h r hr
 exact hx
theorem tZ.same {w:World} {F:List cf} {rs:List f5} (h:tZ w F rs) (i:Nat) {x x':f5} (hx:rs[i]? =some x) (h1:x'.A=x.A) (h2:x'.cap=x.cap) (h3:x'.es=x.es) (h4:x'.lo=x.lo) (h5:x'.hi=x.hi):tZ w F (rs.set i x'):=h.set i (by
 have:=h x (ab hx)
 unfold BR at this⊢
 rw[h1,h2,h3,h4,h5];exact this)
theorem tZ.log {w w0 w':World} {L:List (Nat×Obj)} {F:List cf} {rs:List f5} (h:tZ w F rs) (H:Hp w0 w' L F) {i:Nat} {x:f5} (hx:rs[i]? =some x) (hg:GL x.es x.s):x.log.ok w':=by
 have h1:=h x (ab hx)
 exact Ff H h1.2.2 hg h1.1
theorem iy.mk_ {w w2:World} {L:List (Nat×Obj)} {F:List cf} {p:Pa} {g1 g2 g3:Nat} {u1 u2 u3:Array Value} (i:p.iA=some ⟨g1,0,none⟩) (k:p.kA=some ⟨g2,0,none⟩) (r:p.rA=some ⟨g3,0,none⟩) (ri:d3 fE p.isr p.iC u1) (rk:d3 bN p.known p.kC u2) (rr:d3 jn p.reps p.rC u3) (hl:tZ w F p.reps)
  (few:p.isr.length<=1000000/\p.known.length<=1000000/\p.reps.length<=1000000) (H:Hp w w2 L F) (hL:(g1,Obj.cells u1 jX (0,0))∈L/\(g2,Obj.cells u2 da (0,0))∈L/\(g3,Obj.cells u3 gO (0,0))∈L):iy w w2 p:=by
 have e1:=H.ents _ hL.1
 have e2:=H.ents _ hL.2.1
 have e3:=H.ents _ hL.2.2
 refine⟨⟨?_,?_,?_,fun r hr=> ?_,ri.le,rk.le,rr.le,fun r hr=>(hl r hr).1,few⟩,H.below⟩
 rw[i];exact(ri.rd e1.1).mono e1.2 (bU e1.1)
 rw[k];exact(rk.rd e2.1).mono e2.2 (bU e2.1)
 rw[r];exact(rr.rd e3.1).mono e3.2 (bU e3.1)
 obtain⟨h1,h2,h3⟩:=hl r hr
 obtain⟨f1,f2,-⟩:=H.facts (BR r) h3
 exact Rd.mono f1 h2 f2
theorem Hc {rs reps:List f5} (hma:rs.map f5.a=reps.map f5.a) {i:Nat} {x:f5} (hx:rs[i]? =some x):(reps.map f5.a)[i]? =some x.a:=by
 rw[<-hma,aH,hx];rfl
theorem Ip {rs reps:List f5} {ep ld:Int} {isr:List Bool} {iA kA rA:Option Addr} {iC kC rC:Nat} {kn:List Int} {fw bs:Int} (hma:rs.map f5.a=reps.map f5.a) (hok:(Pa.a ⟨ep,ld,isr,iA,iC,kn,kA,kC,reps,rA,rC,fw,bs⟩).ok) {i:Nat} {x:f5} (hx:rs[i]? =some x):GL x.es x.s/\0<=x.high/\x.high<=x.es.length:=by
 have h1:=hok.reps x.a (ab (show(reps.map f5.a)[i]? =_ from Hc hma hx))
 exact⟨h1.gl,h1.high0,h1.high1⟩
def mW (p:fX):fX:=match p.reps[p.leader.toNat]? with
 |some r=>if p.leader<0 then p else{p with reps:=p.reps.set p.leader.toNat {r with high:=max r.high (min (cW p.isr p.known 400) r.es.length)}}
 |none=>p
theorem xD {p:fX} {l:Nat} {r:RA} (hl:p.leader=l) (hr:p.reps[l]? =some r):mW p={p with reps:=p.reps.set l {r with high:=max r.high (min (cW p.isr p.known 400) r.es.length)}}:=by
 have h1:p.leader.toNat=l:=by omega
 unfold mW
 rw[h1,hr];dsimp only;rw[if_neg I]
def jm (p:fX) (r:Nat):fX×Int:=match p.reps[r]? with
 |none=>(mc,5)
 |some x=>if x.up=false then(mc,7)else
  if p.leader=r then(mW {p with reps:=p.reps.set r {x with s:=x.es.length},known:=p.known.set r x.es.length},0)else({p with reps:=p.reps.set r {x with s:=x.es.length}},0)
theorem E6 (l:oT) (w:World) (h:l.ok w):dt aa AJ [.agg l.c.toArray] w fun v w2=> ∃ A' c',v=.tuple #[.agg #[.slice A' (bH l.es).length c',J (iK l.es l.es.length:Nat)],J 0]/\(bH l.es).length<=c'/\Rd dN w.heap.size w2.heap.size A' (bH l.es) w2/\Below w.heap.size w w2:=
 (GP l w h).mono fun _ _ ⟨A',c',h1,h2,h3⟩=>⟨A',c',h1,h2.2.1,h2.2.2,h3⟩
theorem Ly (p:Pa) (r:Nat) (w:World) (h:p.rd 0 w.heap.size w) (hok:p.a.ok) (hr:r<p.reps.length):dt aa FE [p.v,J (r:Nat)] w fun v w2=> ∃ p':Pa,v=.tuple #[p'.v,J (jm p.a r).2]/\p'.a=(jm p.a r).1/\iy w w2 p':=by
 refine aG En Z Z ?_
 obtain⟨hn1,hn2,hil,hkl,hf1,hf2,he0,he1,hl0,hl1,hb0,hb1,hsm⟩:=Pa.facts hok
 have hkn:=hok.known
 have hiC:=h.iC
 have hkC:=h.kC
 have hrC:=h.rC
 have hfew:=h.few
 have H:=Hp.startPa h
 obtain⟨ep,ld,isr,iA,iC,kn,kA,kC,reps,rA,rC,fw,bs⟩:=p
 simp only[Pa.a]at hkn
 dsimp only at H hn1 hn2 hil hkl hf1 hf2 he0 he1 hl0 hl1 hb0 hb1 hsm hiC hkC hrC hfew
 dsimp only at hr
 show CW _ _ _ _ (args [.agg #[J (ep),J (ld),.slice iA isr.length iC,.slice kA kn.length kC,.slice rA reps.length rC,J (fw),J (bs)],J (((r:Nat):Int))]) w
 refine W<|Zr<|gM H Z Z fun w1 b2 H=>fg H bT Z fun w2 b4 H=>G (Wi Z)<|U<|W<|Zr<|G (Zw bk H 1 Z Z Z)<|G (Yi Z)<|cz wu (G0 ⟨ep,ld,isr,iA,iC,kn,kA,kC,reps,rA,rC,fw,bs⟩ r _ (Hp.pa H 0 Z) hok hr) Z Z ?_
 rintro _ w3 ⟨⟨ep2,ld2,is2,iA2,c1,kn2,kA2,c2,rs,rA2,c3,fw2,bs2⟩,g1,g2,g3,u1,u2,u3,rfl,ha2,ho⟩
 simp only[Pa.a,fX.mk.injEq]at ha2
 obtain⟨e1,e2,e3,e4,hma,e6,e7⟩:=ha2
 obtain rfl:ep=ep2:=e1.symm
 obtain rfl:ld=ld2:=e2.symm
 obtain rfl:isr=is2:=e3.symm
 obtain rfl:kn=kn2:=e4.symm
 obtain rfl:fw=fw2:=e6.symm
 obtain rfl:bs=bs2:=e7.symm
 have hrl:rs.length=reps.length:=by have:=congrArg di hma;simpa using this
 obtain⟨i1,i2,i3,row1,row2,row3,hcp,hlos,-,hjn⟩:=ho
 dsimp only at i1 i2 i3 row1 row2 row3 hcp hlos hjn
 subst i1;subst i2;subst i3
 have hlo0:=H.size
 replace H:=H.joinF hjn (by intro f hf;obtain⟨r,hr,rfl⟩:=bS.1 hf;exact hlos r hr)
 replace hlos: ∀ r∈rs,w.heap.size<=r.lo:=fun r hr=>aX hlo0 (hlos r hr)
 clear hjn
 have hlg:=tZ.of (F:=[Kq 0 w.heap.size ⟨ep,ld,isr,iA,iC,kn,kA,kC,reps,rA,rC,fw,bs⟩,d4 fE 0 w.heap.size iA isr,d4 bN 0 w.heap.size kA kn,d4 jn 0 w.heap.size rA reps]) hcp hlos
 have hok2: ∀ {i:Nat} {x:f5},rs[i]? =some x->GL x.es x.s/\0<=x.high/\x.high<=x.es.length:=fun hx=>Ip hma hok hx
 obtain⟨x,hx⟩: ∃ x,rs[r]? =some x:=⟨_,ai I⟩
 have hxa:=Hc hma hx
 refine G (Yu Z)<|G (Xa Z Z)<|G (Xi Z Z)<|bC H 4 (#[J (ep),J (ld),.slice (Qd g1) isr.length c1,.slice (Qd g2) kn.length c2,.slice (Qd g3) rs.length c3,J (fw),J (bs)]) bi Z Z Z Z Z N N fun w4 H=>G (Wi Z)<|U<|W<|W<|Zr<|G (Yi Z)<|G (ch Z Z Z)<|U<|ZF Z<|Zk<|W<|W<|Zr<|G (Zf dP Z)<|G (Zd cJ H 4 Z Z Z)<|G (Yi Z)<|G (cQ bQ Z Z (by first|omega|(simp only[ae];omega)))<|G (Zf kO Z) ?_
 refine zB (bX eL row3 hx 0 Z (H.ent (i:=2) Z) Z) Z Z Z (fun h22=> ?_) (fun h22=> ?_)
 refine G (d7 Z)<|U<|ZF Z<|Zk<|W ?_
 have hlo:=H.size
 refine bP cD [0,1,2,3,4,5,6,7,8,9,10,11,12,13,14] [15] [9] [0,2,3,5,6,7,10,11,12,13,14] (sp [(9,Sp.nrow w4.heap.size dN (bH x.es) (fun A c=> .tuple #[.agg #[.slice A (bH x.es).length c,J (iK x.es x.es.length:Nat)],J 0]))]) N N N N Nq (cO _) ?_
 refine aw Z Z Z Z Z (fun w' hw'=>Zf dP Z)<|aw Z Z Z Z Z (fun w' hw'=>bf cJ Z (aJ ((H.later hw').ent (i:=4) Z) Z))<|aw Z Z Z Z Z (fun w' hw'=>Yi Z)<|aw Z Z Z Z Z (fun w' hw'=>Zf dP Z)<|aw Z Z Z Z Z (fun w' hw'=>bf cJ Z (aJ ((H.later hw').ent (i:=4) Z) Z))<|aw Z Z Z Z Z (fun w' hw'=>Yi Z)<|aw Z Z Z Z Z (fun w' hw'=>cQ bQ Z Z (by first|omega|(simp only[ae];omega)))<|aw Z Z Z Z Z (fun w' hw'=>Zf dT Z)<|aw Z Z Z Z Z (fun w' hw'=>v8 1 [.slice x.A ((bH x.es).length) x.cap,J (((iK x.es x.s:Nat):Int))] fA row3 hx Z Z ((H.later hw').ent (i:=2) Z) Z)<|HM (gv:=(fun A c=> .tuple #[.agg #[.slice A (bH x.es).length c,J (iK x.es x.es.length:Nat)],J 0])) Gg Z Z Z Z Z (fun w' hw'=>hw'.size) (fun w' hw'=>E6 (f5.log x) w' (hlg.log (H.later hw') hx (hok2 hx).1)) Z fun A35 c35 hc35=>aw Z Z Z Z Z (fun w' hw'=>Yu Z)<|aw Z Z Z Z Z (fun w' hw'=>Xa Z Z)<|aw Z Z Z Z Z (fun w' hw'=>Xi Z Z)<|aw Z Z Z Z Z (fun w' hw'=>cQ bQ Z Z (by first|omega|(simp only[ae];omega)))<|aw Z Z Z Z Z (fun w' hw'=>Zf dT Z)<|aU ?_
 intro w5 hw' hF
 obtain⟨hF,Aq,cq,eq,hcq,hrw35⟩:=hF;cases eq;clear hcq
 replace H:=H.learnRd hw' hrw35
 clear hw' hF
 refine m5 H 2 ({x with A:=A35,cap:=c35,s:=x.es.length,lo:=w4.heap.size,hi:=w5.heap.size}) kK row3 hx 1 Z Z Z Z Z Z N fun w7 cur6 row6 H=> ?_
 have hs8:(rs.set r ({x with A:=A35,cap:=c35,s:=x.es.length,lo:=w4.heap.size,hi:=w5.heap.size}))[r]? =some ({x with A:=A35,cap:=c35,s:=x.es.length,lo:=w4.heap.size,hi:=w5.heap.size}):=am (cu hx).1
 refine U<|W<|W ?_
 have hlg1:=(hlg.cons (f:=d4 dN w4.heap.size w5.heap.size A35 (bH x.es))).set r (x:={x with A:=A35,cap:=c35,s:=x.es.length,lo:=w4.heap.size,hi:=w5.heap.size}) ⟨hc35,hlo,hM _⟩
 have hs9:(rs.set r {x with A:=A35,cap:=c35,s:=x.es.length,lo:=w4.heap.size,hi:=w5.heap.size})[r]? =some {x with A:=A35,cap:=c35,s:=x.es.length,lo:=w4.heap.size,hi:=w5.heap.size}:=am I
 have hF9:=(hlg1 _ (ab hs9)).2.2
 have hc9:=(hlg1 _ (ab hs9)).1
 refine Zr<|G (Yi Z)<|G (Zf en Z)<|G (Zd al H 4 Z Z Z) ?_
 refine dq (br Z Z) Z Z Z (fun h43=> ?_) (fun h43=> ?_)
 refine U<|ZT Z<|W ?_
 obtain⟨kx,hkx⟩: ∃ kx,kn[r]? =some kx:=⟨_,ai I⟩
 refine bP cD [0,1,2,3,4,5,6,7,8,9] [10] [5] [0,2,4,6,7,8,9] (sp [(5,Sp.one (.tuple #[J ((x.es.length:Nat):Int),J ((x.es.length:Nat):Int)]))]) N N N N Nq (cO _) ?_
 refine aw Z Z Z Z Z (fun w' hw'=>Zf iQ Z)<|aw Z Z Z Z Z (fun w' hw'=>bf cC Z (aJ ((H.later hw').ent (i:=4) Z) Z))<|aw Z Z Z Z Z (fun w' hw'=>Yi Z)<|aw Z Z Z Z Z (fun w' hw'=>js bk Z ((H.later hw').ent (i:=4) Z) Z)<|aw Z Z Z Z Z (fun w' hw'=>Yi Z)<|nS kR Z Z Z Z Z (fun w' hw'=>(by have hA:=r9 ⟨ep,ld,isr,some ⟨g1,0,none⟩,c1,kn,some ⟨g2,0,none⟩,c2,rs.set r {x with A:=A35,cap:=c35,s:=x.es.length,lo:=w4.heap.size,hi:=w5.heap.size},some ⟨g3,0,none⟩,c3,fw,bs⟩ r {x with A:=A35,cap:=c35,s:=x.es.length,lo:=w4.heap.size,hi:=w5.heap.size} w' (row6.rd0 ((H.later hw').ent (i:=2) Z)) hs9 (hlg1.log (H.later hw') hs9 (hok2 hx).1.all);simp only[Pa.v,Pa.c,ae]at hA;exact hA)) Z<|aw Z Z Z Z Z (fun w' hw'=>Yu Z)<|aw Z Z Z Z Z (fun w' hw'=>Xi Z Z)<|aw Z Z Z Z Z (fun w' hw'=>Xi Z Z)<|aw Z Z Z Z Z (fun w' hw'=>cQ bd Z Z (by first|omega|(simp only[ae];omega)))<|aU ?_
 intro w9 hw' hF
 replace H:=H.later hw';clear hw' hF
 refine m5 H 1 ((((x.es.length:Nat):Int))) bV row2 hkx 0 Z Z Z Z Z Z N fun w11 cur10 row10 H=> ?_
 have hs12:(kn.set r ((((x.es.length:Nat):Int))))[r]? =some ((((x.es.length:Nat):Int))):=am (cu hkx).1
 refine U<|Zr<|G (Zw bk H 4 Z Z Z)<|cz pi ((by have hA:=DP ep ld isr c1 (kn.set r ((x.es.length:Nat):Int)) c2 (rs.set r {x with A:=A35,cap:=c35,s:=x.es.length,lo:=w4.heap.size,hi:=w5.heap.size}) c3 fw bs r ({x with A:=A35,cap:=c35,s:=x.es.length,lo:=w4.heap.size,hi:=w5.heap.size}) H row1 row10 row6 (by simp only[ae];omega) (by simp only[ae,bO];omega) (by simp only[ae];omega) h43.symm hs9 hF9 (hok2 hx).1.all hc9;simp only[Pa.v,Pa.c,ae]at hA;exact hA)) Z Z ?_
 rintro _ w13 ⟨u9,rfl,row9,H⟩
 refine bC H 4 (#[J (ep),J (ld),.slice (Qd g1) isr.length c1,.slice (Qd g2) kn.length c2,.slice (Qd g3) rs.length c3,J (fw),J (bs)]) bi Z Z Z Z Z N N fun w14 H=>U<|W<|Zr<|G (Zw bk H 4 Z Z Z)<|bC H 3 (#[J (ep),J (ld),.slice (Qd g1) isr.length c1,.slice (Qd g2) kn.length c2,.slice (Qd g3) rs.length c3,J (fw),J (bs)]) bi Z Z Z Z Z N N fun w15 H=>G (Wi Z)<|U<|Zt ?_
 have hS:jm (Pa.a ⟨ep,ld,isr,iA,iC,kn,kA,kC,reps,rA,rC,fw,bs⟩) r=(mW {Pa.a ⟨ep,ld,isr,iA,iC,kn,kA,kC,reps,rA,rC,fw,bs⟩with reps:=(reps.map f5.a).set r {x.a with s:=x.es.length},known:=kn.set r ((x.es.length:Nat):Int)},0):=by simp[jm,Pa.a,hxa,f5.a,h22,<-h43]
 rw[hS]
 rw[xD (l:=r) (r:={x.a with s:=x.es.length}) h43.symm (am (by simp;omega))]
 have hlg2:=hlg1.same r (x':={x with A:=A35,cap:=c35,s:=x.es.length,lo:=w4.heap.size,hi:=w5.heap.size,high:=max x.high (min (cW isr (kn.set r ((x.es.length:Nat):Int)) 400) (x.es.length:Nat))}) hs9 Z Z Z Z Z
 exact ci (cs0:= #[J (ep),J (ld),.slice (Qd g1) isr.length c1,.slice (Qd g2) kn.length c2,.slice (Qd g3) rs.length c3,J (fw),J (bs)]) (v1:=J 0) Z bk Z (H.ent (i:=3) Z) Z Z ⟨_,by simp[Pa.c],by simp[Pa.a,cT,hma,f5.a],(iy.mk_ (p:=⟨ep,ld,isr,some ⟨g1,0,none⟩,c1,kn.set r ((x.es.length:Nat):Int),some ⟨g2,0,none⟩,c2,_,some ⟨g3,0,none⟩,c3,fw,bs⟩) Z Z Z row1 row10 row9 hlg2 (by dsimp only;try simp only[ae];omega) H ⟨by simp,by simp,by simp⟩)⟩
 refine U<|ZF Z<|Zk<|W<|Zr<|G (Zw bk H 4 Z Z Z)<|bC H 3 (#[J (ep),J (ld),.slice (Qd g1) isr.length c1,.slice (Qd g2) kn.length c2,.slice (Qd g3) rs.length c3,J (fw),J (bs)]) bi Z Z Z Z Z N N fun w16 H=>G (Wi Z)<|U<|Zt ?_
 have hS:jm (Pa.a ⟨ep,ld,isr,iA,iC,kn,kA,kC,reps,rA,rC,fw,bs⟩) r=({Pa.a ⟨ep,ld,isr,iA,iC,kn,kA,kC,reps,rA,rC,fw,bs⟩with reps:=(reps.map f5.a).set r {x.a with s:=x.es.length}},0):=by simp[jm,Pa.a,hxa,f5.a,h22,show¬ ld=(r:Int)from fun h=>h43 h.symm]
 rw[hS]
 exact ci (cs0:= #[J (ep),J (ld),.slice (Qd g1) isr.length c1,.slice (Qd g2) kn.length c2,.slice (Qd g3) rs.length c3,J (fw),J (bs)]) (v1:=J 0) Z bk Z (H.ent (i:=3) Z) Z Z ⟨_,by simp[Pa.c],by simp[Pa.a,cT,hma,f5.a],(iy.mk_ (p:=⟨ep,ld,isr,some ⟨g1,0,none⟩,c1,kn,some ⟨g2,0,none⟩,c2,rs.set r {x with A:=A35,cap:=c35,s:=x.es.length,lo:=w4.heap.size,hi:=w5.heap.size},some ⟨g3,0,none⟩,c3,fw,bs⟩) Z Z Z row1 row2 row6 hlg1 (by dsimp only;try simp only[ae];omega) H ⟨by simp,by simp,by simp⟩)⟩
 refine G (d7 Z)<|U<|ZT Z<|W<|Zr<|G (bE (cs:= #[J (0),J (0),.slice none 0 0,.slice none 0 0,.slice none 0 0,J (0),J (0)]) dy bT N)<|bC H 3 (#[J (0),J (0),.slice none 0 0,.slice none 0 0,.slice none 0 0,J (0),J (0)]) bi Z Z Z Z Z N N fun w17 H=>G (Wi Z)<|U<|Zt ?_
 have hS:jm (Pa.a ⟨ep,ld,isr,iA,iC,kn,kA,kC,reps,rA,rC,fw,bs⟩) r=(mc,7):=by simp[jm,Pa.a,hxa,f5.a,h22]
 rw[hS]
 exact ci (cs0:= #[J 0,J 0,.slice none 0 0,.slice none 0 0,.slice none 0 0,J 0,J 0]) (v1:=J 7) Z bk Z (H.ent (i:=3) Z) Z Z ⟨IY,rfl,rfl,iy.zero H.below⟩

theorem gA:(aa.info? da).map (fun i=>(i.zero,i.size,i.bytes))=some (some (J 0),1,8):=by kernel_rfl
theorem Nj (m:Nat) (h:m<=1000000):d3 bN (ap m (0:Int)) m (ap m (Value.int .i64 0)).toArray:=by
 have hl: ∀ m:Nat,bN.all (ap m (0:Int))=ap m (Value.int .i64 0):=by
  intro m
  induction m with
  |zero=>rfl
  |succ m ih=>rw[jY,jY,<-ih];rfl
 refine⟨by simp[bN],?_,by simp,by simp only[maxLen];omega⟩
 rw[hl]
 simp[bN]
def fk (p:fX) (r:Nat):fX×Int:=match p.reps[r]? with
 |none=>(mc,5)
 |some x=>if x.up=false then(mc,7)else if p.isr[r]? =some false then(mc,13)else if p.leader=r then(mc,6)else if p.epoch=1073741824 then(mc,2)else
  (mW {p with epoch:=p.epoch+1,leader:=r,known:=(ap p.reps.length 0).set r x.s,base:=x.es.length},0)
theorem Js (p:Pa) (r:Nat) (w:World) (h:p.rd 0 w.heap.size w) (hok:p.a.ok) (hr:r<p.reps.length):dt aa D7 [p.v,J (r:Nat)] w fun v w2=> ∃ p':Pa,v=.tuple #[p'.v,J (fk p.a r).2]/\p'.a=(fk p.a r).1/\iy w w2 p':=by
 refine aG B7 Z Z ?_
 obtain⟨hn1,hn2,hil,hkl,hf1,hf2,he0,he1,hl0,hl1,hb0,hb1,hsm⟩:=Pa.facts hok
 have hkn:=hok.known
 have hiC:=h.iC
 have hkC:=h.kC
 have hrC:=h.rC
 have hfew:=h.few
 have H:=Hp.startPa h
 obtain⟨ep,ld,isr,iA,iC,kn,kA,kC,reps,rA,rC,fw,bs⟩:=p
 simp only[Pa.a]at hkn
 dsimp only at H hn1 hn2 hil hkl hf1 hf2 he0 he1 hl0 hl1 hb0 hb1 hsm hiC hkC hrC hfew
 dsimp only at hr
 show CW _ _ _ _ (args [.agg #[J (ep),J (ld),.slice iA isr.length iC,.slice kA kn.length kC,.slice rA reps.length rC,J (fw),J (bs)],J (((r:Nat):Int))]) w
 refine W<|Zr<|gM H Z Z fun w1 b2 H=>fg H bT Z fun w2 b4 H=>G (Wi Z)<|U<|W<|Zr<|G (Zw bk H 1 Z Z Z)<|G (Yi Z)<|cz wu (G0 ⟨ep,ld,isr,iA,iC,kn,kA,kC,reps,rA,rC,fw,bs⟩ r _ (Hp.pa H 0 Z) hok hr) Z Z ?_
 rintro _ w3 ⟨⟨ep2,ld2,is2,iA2,c1,kn2,kA2,c2,rs,rA2,c3,fw2,bs2⟩,g1,g2,g3,u1,u2,u3,rfl,ha2,ho⟩
 simp only[Pa.a,fX.mk.injEq]at ha2
 obtain⟨e1,e2,e3,e4,hma,e6,e7⟩:=ha2
 obtain rfl:ep=ep2:=e1.symm
 obtain rfl:ld=ld2:=e2.symm
 obtain rfl:isr=is2:=e3.symm
 obtain rfl:kn=kn2:=e4.symm
 obtain rfl:fw=fw2:=e6.symm
 obtain rfl:bs=bs2:=e7.symm
 have hrl:rs.length=reps.length:=by have:=congrArg di hma;simpa using this
 obtain⟨i1,i2,i3,row1,row2,row3,hcp,hlos,-,hjn⟩:=ho
 dsimp only at i1 i2 i3 row1 row2 row3 hcp hlos hjn
 subst i1;subst i2;subst i3
 have hlo0:=H.size
 replace H:=H.joinF hjn (by intro f hf;obtain⟨r,hr,rfl⟩:=bS.1 hf;exact hlos r hr)
 replace hlos: ∀ r∈rs,w.heap.size<=r.lo:=fun r hr=>aX hlo0 (hlos r hr)
 clear hjn
 have hlg:=tZ.of (F:=[Kq 0 w.heap.size ⟨ep,ld,isr,iA,iC,kn,kA,kC,reps,rA,rC,fw,bs⟩,d4 fE 0 w.heap.size iA isr,d4 bN 0 w.heap.size kA kn,d4 jn 0 w.heap.size rA reps]) hcp hlos
 have hok2: ∀ {i:Nat} {x:f5},rs[i]? =some x->GL x.es x.s/\0<=x.high/\x.high<=x.es.length:=fun hx=>Ip hma hok hx
 obtain⟨x,hx⟩: ∃ x,rs[r]? =some x:=⟨_,ai I⟩
 have hxa:=Hc hma hx
 refine G (Yu Z)<|G (Xa Z Z)<|G (Xi Z Z)<|bC H 4 (#[J (ep),J (ld),.slice (Qd g1) isr.length c1,.slice (Qd g2) kn.length c2,.slice (Qd g3) rs.length c3,J (fw),J (bs)]) bi Z Z Z Z Z N N fun w4 H=>G (Wi Z)<|U<|W<|W<|Zr<|G (Yi Z)<|G (ch Z Z Z)<|U<|ZF Z<|Zk<|W<|Zb<|W ?_
 obtain⟨b,hb⟩: ∃ b,isr[r]? =some b:=⟨_,ai I⟩
 refine Zr<|G (Zf dP Z)<|G (Zd cJ H 4 Z Z Z)<|G (Yi Z)<|G (cQ bQ Z Z (by first|omega|(simp only[ae];omega)))<|G (Zf kO Z) ?_
 refine zB (bX eL row3 hx 0 Z (H.ent (i:=2) Z) Z) Z Z Z (fun h23=> ?_) (fun h23=> ?_)
 ·
  refine G (d7 Z)<|G (Wb Z)<|U<|ZF Z<|W<|Zr<|G (Zf kP Z)<|G (Zd lU H 4 Z Z Z)<|G (Yi Z)<|G (cQ fa Z Z (by first|omega|(simp only[ae];omega))) ?_
  refine zB (bX eL row1 hb 0 Z (H.ent (i:=0) Z) Z) Z Z Z (fun h31=> ?_) (fun h31=> ?_)
  ·
   refine G (d7 Z)<|G (Wb Z)<|U<|ZF Z<|W<|Zr<|G (Zf en Z)<|G (Zd al H 4 Z Z Z)<|G (Yi Z) ?_
   refine dq (br Z Z) Z Z Z (fun h38=> ?_) (fun h38=> ?_)
   ·
    refine G (Wb Z)<|U<|ZT Z<|W<|Zr<|G (bE (cs:= #[J (0),J (0),.slice none 0 0,.slice none 0 0,.slice none 0 0,J (0),J (0)]) dy bT N)<|bC H 3 (#[J (0),J (0),.slice none 0 0,.slice none 0 0,.slice none 0 0,J (0),J (0)]) bi Z Z Z Z Z N N fun w5 H=>G (Wi Z)<|U<|Zt ?_
    have hS:fk (Pa.a ⟨ep,ld,isr,iA,iC,kn,kA,kC,reps,rA,rC,fw,bs⟩) r=(mc,6):=by simp[fk,Pa.a,hxa,f5.a,h23,hb,h31,<-h38]
    rw[hS]
    exact ci (cs0:= #[J 0,J 0,.slice none 0 0,.slice none 0 0,.slice none 0 0,J 0,J 0]) (v1:=J 6) Z bk Z (H.ent (i:=3) Z) Z Z ⟨IY,rfl,rfl,iy.zero H.below⟩
   ·
    refine G (Wb Z)<|U<|ZF Z<|W<|Zr<|G (Zf qa Z)<|G (Zd al H 4 Z Z Z) ?_
    refine dq (br Z Z) Z Z Z (fun h43=> ?_) (fun h43=> ?_)
    ·
     refine G (Wb Z)<|U<|ZT Z<|W<|Zr<|G (bE (cs:= #[J (0),J (0),.slice none 0 0,.slice none 0 0,.slice none 0 0,J (0),J (0)]) dy bT N)<|bC H 3 (#[J (0),J (0),.slice none 0 0,.slice none 0 0,.slice none 0 0,J (0),J (0)]) bi Z Z Z Z Z N N fun w6 H=>G (Wi Z)<|U<|Zt ?_
     have hS:fk (Pa.a ⟨ep,ld,isr,iA,iC,kn,kA,kC,reps,rA,rC,fw,bs⟩) r=(mc,2):=by simp[fk,Pa.a,hxa,f5.a,h23,hb,h31,h38,h43]
     rw[hS]
     exact ci (cs0:= #[J 0,J 0,.slice none 0 0,.slice none 0 0,.slice none 0 0,J 0,J 0]) (v1:=J 2) Z bk Z (H.ent (i:=3) Z) Z Z ⟨IY,rfl,rfl,iy.zero H.below⟩
    ·
     refine G (Wb Z)<|U<|ZF Z<|Zk<|W<|Zr<|G (Zf qa Z)<|G (Zd al H 4 Z Z Z)<|G (bn Z Z I I)<|G (Zf qa Z)<|bC H 4 (#[J (ep+1),J (ld),.slice (Qd g1) isr.length c1,.slice (Qd g2) kn.length c2,.slice (Qd g3) rs.length c3,J (fw),J (bs)]) bV Z Z Z Z Z N N fun w7 H=>U<|W<|Zr<|G (Yi Z)<|G (Zf en Z)<|bC H 4 (#[J (ep+1),J (((r:Nat):Int)),.slice (Qd g1) isr.length c1,.slice (Qd g2) kn.length c2,.slice (Qd g3) rs.length c3,J (fw),J (bs)]) bV Z Z Z Z Z N N fun w8 H=>U<|W<|Zr<|G (Zf dP Z)<|G (Zd cJ H 4 Z Z Z)<|G (bj ib Z)<|QX (m:=rs.length) H bd gA Z Z Z I I Z fun w9 b54 H=> ?_
     have row54:=Nj rs.length I
     refine G (Zf iQ Z)<|bC H 5 (#[J (ep+1),J (((r:Nat):Int)),.slice (Qd g1) isr.length c1,.slice (Qd b54) rs.length rs.length,.slice (Qd g3) rs.length c3,J (fw),J (bs)]) jK Z Z Z Z Z N N fun w10 H=>U<|W ?_
     refine bP cD [0,1,2,3,4,5,6,7,8,9] [10,11,12] [5] [0,2,4,6,7,8,9] (sp [(5,Sp.one (.tuple #[J ((x.es.length:Nat):Int),J ((x.s:Nat):Int)]))]) N N N N Nq (cO _) ?_
     refine aw Z Z Z Z Z (fun w' hw'=>Zf iQ Z)<|aw Z Z Z Z Z (fun w' hw'=>bf cC Z (aJ ((H.later hw').ent (i:=5) Z) Z))<|aw Z Z Z Z Z (fun w' hw'=>Yi Z)<|aw Z Z Z Z Z (fun w' hw'=>js bk Z ((H.later hw').ent (i:=5) Z) Z)<|aw Z Z Z Z Z (fun w' hw'=>Yi Z)<|nS kR Z Z Z Z Z (fun w' hw'=>(by have hA:=r9 ⟨ep+1,(r:Nat),isr,some ⟨g1,0,none⟩,c1,ap rs.length 0,some ⟨b54,0,none⟩,rs.length,rs,some ⟨g3,0,none⟩,c3,fw,bs⟩ r x w' (row3.rd0 ((H.later hw').ent (i:=3) Z)) hx (hlg.log (H.later hw') hx (hok2 hx).1);simp only[Pa.v,Pa.c,bO]at hA;exact hA)) Z<|aw Z Z Z Z Z (fun w' hw'=>Yu Z)<|aw Z Z Z Z Z (fun w' hw'=>Xi Z Z)<|aw Z Z Z Z Z (fun w' hw'=>Xi Z Z)<|aw Z Z Z Z Z (fun w' hw'=>Zf yp Z)<|aU ?_
     intro w11 hw' hF
     replace H:=H.later hw';clear hw' hF
     refine bC H 5 (#[J (ep+1),J (((r:Nat):Int)),.slice (Qd g1) isr.length c1,.slice (Qd b54) rs.length rs.length,.slice (Qd g3) rs.length c3,J (fw),J (((x.es.length:Nat):Int))]) bV Z Z Z Z Z N N fun w12 H=>G (cQ bd Z Z (by first|omega|(simp only[ae];omega))) ?_
     refine m5 H 0 ((((x.s:Nat):Int))) bV row54 (show(ap rs.length (0:Int))[r]? =some 0 by rw[fm,if_pos I]) 0 Z Z Z Z Z Z N ?_;intro w14 cur13 row13 H
     have hs15:((ap rs.length (0:Int)).set r ((((x.s:Nat):Int))))[r]? =some ((((x.s:Nat):Int))):=am (cu (show(ap rs.length (0:Int))[r]? =some 0 by rw[fm,if_pos I])).1
     refine U<|W<|Zr<|G (Zw bk H 5 Z Z Z)<|cz pi ((by have hA:=DP (g2:=b54) (M:=[(g2,.cells u2 da (0,0)),(b4,.cells #[J 0,J 0,.slice none 0 0,.slice none 0 0,.slice none 0 0,J 0,J 0] bK (0,0)),(b2,.cells #[J (ep+1),J (((r:Nat):Int)),.slice (Qd g1) isr.length c1,.slice (Qd b54) rs.length rs.length,.slice (Qd g3) rs.length c3,J (fw),J (((x.es.length:Nat):Int))] bK (0,0))]) (ep+1) ((r:Nat):Int) isr c1 ((ap rs.length 0).set r ((x.s:Nat):Int)) rs.length rs c3 fw ((x.es.length:Nat):Int) r x (H.perm ((ak _ _ _).trans (.cons _ (.cons _ (ak _ _ _))))) row1 row13 row3 I (by simp) I Z hx (hlg _ (ab hx)).2.2 (hok2 hx).1 (hlg _ (ab hx)).1;simp only[Pa.v,Pa.c,ae,bO]at hA;exact hA)) Z Z ?_
     rintro _ w16 ⟨u9,rfl,row9,H⟩
     refine bC H 4 (#[J (ep+1),J (((r:Nat):Int)),.slice (Qd g1) isr.length c1,.slice (Qd b54) rs.length rs.length,.slice (Qd g3) rs.length c3,J (fw),J (((x.es.length:Nat):Int))]) bi Z Z Z Z Z N N fun w17 H=>G (Wi Z)<|U<|Zt ?_
     have hS:fk (Pa.a ⟨ep,ld,isr,iA,iC,kn,kA,kC,reps,rA,rC,fw,bs⟩) r=(mW {Pa.a ⟨ep,ld,isr,iA,iC,kn,kA,kC,reps,rA,rC,fw,bs⟩with epoch:=ep+1,leader:=(r:Nat),known:=(ap (reps.map f5.a).length 0).set r ((x.s:Nat):Int),base:=((x.es.length:Nat):Int)},0):=by simp[fk,Pa.a,hxa,f5.a,h23,hb,h31,h38,h43]
     rw[hS]
     rw[xD (l:=r) (r:=x.a) Z hxa]
     have hlg1:=hlg.same r (x':={x with high:=max x.high (min (cW isr ((ap rs.length 0).set r ((x.s:Nat):Int)) 400) (x.es.length:Nat))}) hx Z Z Z Z Z
     exact ci (cs0:= #[J (ep+1),J (((r:Nat):Int)),.slice (Qd g1) isr.length c1,.slice (Qd b54) rs.length rs.length,.slice (Qd g3) rs.length c3,J (fw),J (((x.es.length:Nat):Int))]) (v1:=J 0) Z bk Z (H.ent (i:=4) Z) Z Z ⟨_,by simp[Pa.c],by simp[Pa.a,cT,hma,hrl,f5.a],(iy.mk_ (p:=⟨ep+1,(r:Nat),isr,some ⟨g1,0,none⟩,c1,(ap rs.length 0).set r ((x.s:Nat):Int),some ⟨b54,0,none⟩,rs.length,_,some ⟨g3,0,none⟩,c3,fw,((x.es.length:Nat):Int)⟩) Z Z Z row1 row13 row9 hlg1 (by dsimp only;try simp only[ae,bO];omega) H ⟨by simp,by simp,by simp⟩)⟩
  ·
   refine G (d7 Z)<|G (Wb Z)<|U<|ZT Z<|W<|Zr<|G (bE (cs:= #[J (0),J (0),.slice none 0 0,.slice none 0 0,.slice none 0 0,J (0),J (0)]) dy bT N)<|bC H 3 (#[J (0),J (0),.slice none 0 0,.slice none 0 0,.slice none 0 0,J (0),J (0)]) bi Z Z Z Z Z N N fun w18 H=>G (Wi Z)<|U<|Zt ?_
   have hS:fk (Pa.a ⟨ep,ld,isr,iA,iC,kn,kA,kC,reps,rA,rC,fw,bs⟩) r=(mc,13):=by simp[fk,Pa.a,hxa,f5.a,h23,hb,h31]
   rw[hS]
   exact ci (cs0:= #[J 0,J 0,.slice none 0 0,.slice none 0 0,.slice none 0 0,J 0,J 0]) (v1:=J 13) Z bk Z (H.ent (i:=3) Z) Z Z ⟨IY,rfl,rfl,iy.zero H.below⟩
 ·
  refine G (d7 Z)<|G (Wb Z)<|U<|ZT Z<|W<|Zr<|G (bE (cs:= #[J (0),J (0),.slice none 0 0,.slice none 0 0,.slice none 0 0,J (0),J (0)]) dy bT N)<|bC H 3 (#[J (0),J (0),.slice none 0 0,.slice none 0 0,.slice none 0 0,J (0),J (0)]) bi Z Z Z Z Z N N fun w19 H=>G (Wi Z)<|U<|Zt ?_
  have hS:fk (Pa.a ⟨ep,ld,isr,iA,iC,kn,kA,kC,reps,rA,rC,fw,bs⟩) r=(mc,7):=by simp[fk,Pa.a,hxa,f5.a,h23]
  rw[hS]
  exact ci (cs0:= #[J 0,J 0,.slice none 0 0,.slice none 0 0,.slice none 0 0,J 0,J 0]) (v1:=J 7) Z bk Z (H.ent (i:=3) Z) Z Z ⟨IY,rfl,rfl,iy.zero H.below⟩
/-- how many of those that keep up are up -/
def Gv:List Bool->List RA->Int->Int
 |b::bs,y::ys,n=>Gv bs ys (if(b&&y.up)=true then n+1 else n)
 |_,_,n=>n
theorem Dz {isr:List Bool} {ys:List RA} {k:Nat} {b:Bool} {y:RA} {n:Int} (hb:isr[k]? =some b) (hy:ys[k]? =some y):Gv (isr.drop k) (ys.drop k) n=Gv (isr.drop (k+1)) (ys.drop (k+1)) (if(b&&y.up)=true then n+1 else n):=by
 rw[cM hb,cM hy]
 rfl
def ek (p:fX) (e:cv):fX×Int×Int:=if p.leader<0 then(mc,0,8)else match p.reps[p.leader.toNat]? with
 |none=>(mc,0,12)
 |some x=>if eB {e with epoch:=p.epoch}≠0 then(mc,0,eB {e with epoch:=p.epoch})else
  if(fi x.es {e with epoch:=p.epoch}).2≠0 then(mc,0,(fi x.es {e with epoch:=p.epoch}).2)else
  if 0<=(fi x.es {e with epoch:=p.epoch}).1 then(p,(fi x.es {e with epoch:=p.epoch}).1,0)else
  if Gv p.isr p.reps 0<p.few then(mc,0,9)else({p with reps:=p.reps.set p.leader.toNat {x with es:=x.es++[{e with epoch:=p.epoch}]}},(x.es.length:Nat),0)
theorem LH {es:List cv} {s:Nat} {x:cv} (h:GL es s) (hx:nW x) (hl:es.length<400): ¬ B2 es x:=by
 have h1:=Et (es++[x]) (fun e he=>by
  rcases aq.1 he with he|he
  exact h.good e he
  rw[ar.1 he];exact hx)
 rw[kN,ax,ax]at h1
 simp only[cF]at h1
 unfold B2
 omega
theorem vp (l:oT) (x:cv) (w:World) (h:l.ok w) (hx:nW x) (hf:l.es.length<400):dt aa wW [.agg l.c.toArray,x.v] w fun v w2=> ∃ A' c',v=.tuple #[.agg #[.slice A' (bH (l.es++[x])).length c',J (iK (l.es++[x]) l.s:Nat)],J 0]/\(bH (l.es++[x])).length<=c'/\Rd dN w.heap.size w2.heap.size A' (bH (l.es++[x])) w2/\Below w.heap.size w w2:=
 (DM l x w h hx (LH h.gl hx hf)).mono fun _ _ ⟨A',c',h1,h2,h3⟩=>⟨A',c',h1,h2.2.1,h2.2.2,h3⟩
theorem vC {w:World} {b:Nat} {l:List UInt8} (h:w.heap[b]? =some (.cells #[.slice none 0 0,J 0] Gq (0,0))) (h0:0<l.length): ∃ (j:Nat) (u:Value),(dN.all l)[j]? =some u/\ ∀ k,w.cell? ⟨b,k,none⟩≠some u:=by
 obtain⟨x,l,rfl⟩: ∃ x t,l=x::t:=by cases l<;>simp at h0⊢
 refine⟨0,.int .u8 (x.toNat:Nat),rfl,fun k hk=> ?_⟩
 have:=Ob h hk
 simp at this
theorem zz (p:Pa) (e:cv) (w:World) (h:p.rd 0 w.heap.size w) (hok:p.a.ok) (hroom: ∀ (l:Nat) (x:f5),p.leader=l->p.reps[l]? =some x->x.es.length<400):dt aa Ho [p.v,e.v] w fun v w2=> ∃ p':Pa,v=.tuple #[p'.v,J (ek p.a e).2.1,J (ek p.a e).2.2]/\p'.a=(ek p.a e).1/\iy w w2 p':=by
 refine aG FQ Z Z ?_
 obtain⟨hn1,hn2,hil,hkl,hf1,hf2,he0,he1,hl0,hl1,hb0,hb1,hsm⟩:=Pa.facts hok
 have hkn:=hok.known
 have hiC:=h.iC
 have hkC:=h.kC
 have hrC:=h.rC
 have hfew:=h.few
 have H:=Hp.startPa h
 obtain⟨ep,ld,isr,iA,iC,kn,kA,kC,reps,rA,rC,fw,bs⟩:=p
 simp only[Pa.a]at hkn
 dsimp only at H hn1 hn2 hil hkl hf1 hf2 he0 he1 hl0 hl1 hb0 hb1 hsm hiC hkC hrC hfew
 dsimp only at hroom
 show CW _ _ _ _ (args [.agg #[J (ep),J (ld),.slice iA isr.length iC,.slice kA kn.length kC,.slice rA reps.length rC,J (fw),J (bs)],.agg #[J (e.epoch),J (e.pid),J (e.ver),J (e.seq),J (e.kind),.bool (e.txn),.string (e.text)]]) w
 refine W<|Zr<|gM H Z Z fun w1 b2 H=>gM H Z Z fun w2 b3 H=>fg H bT Z fun w3 b4 H=>G (Wi Z)<|G (Wi Z)<|U<|W<|W<|Zr<|G (Zw bk H 2 Z Z Z)<|cz ls (sa ⟨ep,ld,isr,iA,iC,kn,kA,kC,reps,rA,rC,fw,bs⟩ _ (Hp.pa H 0 Z) hok) Z Z ?_
 rintro _ w4 ⟨rfl,hb⟩;replace H:=H.later hb;clear hb
 refine G (Wi Z)<|U<|W<|Zr<|G (Yi Z)<|G (ch Z Z Z)<|U<|ZF Z<|Zk<|W<|W<|Zr<|G (Zf en Z)<|G (Zd al H 2 Z Z Z) ?_
 refine dq (cL Z Z) Z Z Z (fun h27=> ?_) (fun h27=> ?_)
 refine U<|ZT Z<|W<|Zr<|G (bE (cs:= #[J (0),J (0),.slice none 0 0,.slice none 0 0,.slice none 0 0,J (0),J (0)]) dy bT N)<|bC H 0 (#[J (0),J (0),.slice none 0 0,.slice none 0 0,.slice none 0 0,J (0),J (0)]) bi Z Z Z Z Z N N fun w5 H=>G (Wi Z)<|G (Wi Z)<|U<|Zt ?_
 have hS:ek (Pa.a ⟨ep,ld,isr,iA,iC,kn,kA,kC,reps,rA,rC,fw,bs⟩) e=(mc,0,8):=by unfold ek;exact if_pos h27
 rw[hS]
 exact gC (cs0:= #[J 0,J 0,.slice none 0 0,.slice none 0 0,.slice none 0 0,J 0,J 0]) (v1:=J (0)) (v2:=J (8)) Z bk Z (H.ent (i:=0) Z) Z Z Z ⟨IY,rfl,rfl,iy.zero H.below⟩
 refine U<|ZF Z<|Zk<|W ?_
 obtain⟨l,hld⟩: ∃ l:Nat,ld=l:=⟨ld.toNat,by omega⟩
 refine Zr<|G (Zw bk H 2 Z Z Z)<|cz mU (Ac ⟨ep,ld,isr,iA,iC,kn,kA,kC,reps,rA,rC,fw,bs⟩ _ (Hp.pa H 0 Z) hok) Z Z ?_
 rintro _ w6 ⟨⟨ep2,ld2,is2,iA2,c1,kn2,kA2,c2,rs,rA2,c3,fw2,bs2⟩,g1,g2,g3,u1,u2,u3,rfl,ha2,ho⟩
 simp only[Pa.a,fX.mk.injEq]at ha2
 obtain⟨e1,e2,e3,e4,hma,e6,e7⟩:=ha2
 obtain rfl:ep=ep2:=e1.symm
 obtain rfl:ld=ld2:=e2.symm
 obtain rfl:isr=is2:=e3.symm
 obtain rfl:kn=kn2:=e4.symm
 obtain rfl:fw=fw2:=e6.symm
 obtain rfl:bs=bs2:=e7.symm
 have hrl:rs.length=reps.length:=by have:=congrArg di hma;simpa using this
 obtain⟨i1,i2,i3,row1,row2,row3,hcp,hlos,-,hjn⟩:=ho
 dsimp only at i1 i2 i3 row1 row2 row3 hcp hlos hjn
 subst i1;subst i2;subst i3
 have hlo0:=H.size
 replace H:=H.joinF hjn (by intro f hf;obtain⟨r,hr,rfl⟩:=bS.1 hf;exact hlos r hr)
 replace hlos: ∀ r∈rs,w.heap.size<=r.lo:=fun r hr=>aX hlo0 (hlos r hr)
 clear hjn
 have hlg:=tZ.of (F:=[Kq 0 w.heap.size ⟨ep,ld,isr,iA,iC,kn,kA,kC,reps,rA,rC,fw,bs⟩,d4 fE 0 w.heap.size iA isr,d4 bN 0 w.heap.size kA kn,d4 jn 0 w.heap.size rA reps]) hcp hlos
 have hok2: ∀ {i:Nat} {x:f5},rs[i]? =some x->GL x.es x.s/\0<=x.high/\x.high<=x.es.length:=fun hx=>Ip hma hok hx
 obtain⟨x,hx⟩: ∃ x,rs[l]? =some x:=⟨_,ai I⟩
 have hxa:=Hc hma hx
 refine bC H 5 (#[J (ep),J (ld),.slice (Qd g1) isr.length c1,.slice (Qd g2) kn.length c2,.slice (Qd g3) rs.length c3,J (fw),J (bs)]) bi Z Z Z Z Z N N fun w7 H=>U<|W<|Zr<|G (Zf dP Z)<|G (Zd cJ H 5 Z Z Z)<|G (Zf en Z)<|G (Zd al H 5 Z Z Z)<|G (cQ (k:=l) bQ Z (congrArg (Value.int .i64) hld) (by first|omega|(simp only[ae];omega)))<|G (Wp Z)<|U<|W<|Zr<|G (Yp Z)<|G (aI Z)<|G (Zf dT Z)<|G (v8 1 [.slice x.A ((bH x.es).length) x.cap,J (((iK x.es x.s:Nat):Int))] fA row3 hx Z Z (H.ent (i:=2) Z) Z)<|cz gF (ij x.A x.cap x.es x.s _ (hlg.log H hx (hok2 hx).1)) Z Z ?_
 have hloen:=H.size
 rintro _ w8 ⟨Aen,cen,rfl,hren,hcen,hben⟩;replace H:=H.learnRd hben hren;clear hren hben
 refine G (Yu Z)<|G (Xs Z Z)<|G (Xi Z Z)<|G (Xi Z Z)<|G (Ws Z)<|G (Wi Z)<|G (Wi Z)<|U<|W<|Zr<|G (Zf qa Z)<|G (Zd al H 5 Z Z Z)<|G (Zf nM Z)<|bC H 4 (#[J (ep),J (e.pid),J (e.ver),J (e.seq),J (e.kind),.bool (e.txn),.string (e.text)]) bV Z Z Z Z Z N N fun w9 H=>U<|W<|W<|Zr<|G (Zw dI H 4 Z Z Z)<|cz rQ (xL {e with epoch:=ep} _) Z Z ?_
 rintro _ w10 ⟨rfl,hb⟩;replace H:=H.later hb;clear hb
 refine G (Wi Z)<|U<|W<|Zr<|G (Yi Z) ?_
 refine rq (je Z Z) Z Z Z (fun h51=> ?_) (fun h51=> ?_)
 refine U<|ZT Z<|W<|Zr<|G (bE (cs:= #[J (0),J (0),.slice none 0 0,.slice none 0 0,.slice none 0 0,J (0),J (0)]) dy bT N)<|G (Yi Z)<|bC H 3 (#[J (0),J (0),.slice none 0 0,.slice none 0 0,.slice none 0 0,J (0),J (0)]) bi Z Z Z Z Z N N fun w11 H=>G (Wi Z)<|G (Wi Z)<|U<|Zt ?_
 have hlr:(Pa.a ⟨ep,ld,isr,iA,iC,kn,kA,kC,reps,rA,rC,fw,bs⟩).reps[ld.toNat]? =some x.a:=by rw[show ld.toNat=l by omega];exact hxa
 have hS:ek (Pa.a ⟨ep,ld,isr,iA,iC,kn,kA,kC,reps,rA,rC,fw,bs⟩) e=(mc,0,eB {e with epoch:=ep}):=by unfold ek;rw[if_neg (show¬ (Pa.a ⟨ep,ld,isr,iA,iC,kn,kA,kC,reps,rA,rC,fw,bs⟩).leader<0 from by show¬ ld<0;omega),show(Pa.a ⟨ep,ld,isr,iA,iC,kn,kA,kC,reps,rA,rC,fw,bs⟩).leader.toNat=ld.toNat from rfl,hlr];simp[Pa.a,f5.a,h51]
 rw[hS]
 exact gC (cs0:= #[J 0,J 0,.slice none 0 0,.slice none 0 0,.slice none 0 0,J 0,J 0]) (v1:=J (0)) (v2:=J (eB {e with epoch:=ep})) Z bk Z (H.ent (i:=3) Z) Z Z Z ⟨IY,rfl,rfl,iy.zero H.below⟩
 refine U<|ZF Z<|Zk<|W<|Zr<|G (Ys Z)<|G (Zw dI H 4 Z Z Z)<|cz Cl (I3 x.es Aen cen {e with epoch:=ep} _ (H.rd0 0 Z) (by have:=(hok2 hx).1.len;omega) (Jd (hok2 hx).1.good)) Z Z ?_
 rintro _ w12 ⟨rfl,hb⟩;replace H:=H.later hb;clear hb
 refine G (Yu Z)<|G (Xi Z Z)<|G (Xi Z Z)<|G (Wi Z)<|G (Wi Z)<|U<|W<|W<|Zr<|G (Yi Z) ?_
 refine rq (je Z Z) Z Z Z (fun h61=> ?_) (fun h61=> ?_)
 refine U<|ZT Z<|W<|Zr<|G (bE (cs:= #[J (0),J (0),.slice none 0 0,.slice none 0 0,.slice none 0 0,J (0),J (0)]) dy bT N)<|G (Yi Z)<|bC H 3 (#[J (0),J (0),.slice none 0 0,.slice none 0 0,.slice none 0 0,J (0),J (0)]) bi Z Z Z Z Z N N fun w13 H=>G (Wi Z)<|G (Wi Z)<|U<|Zt ?_
 have hlr:(Pa.a ⟨ep,ld,isr,iA,iC,kn,kA,kC,reps,rA,rC,fw,bs⟩).reps[ld.toNat]? =some x.a:=by rw[show ld.toNat=l by omega];exact hxa
 have hS:ek (Pa.a ⟨ep,ld,isr,iA,iC,kn,kA,kC,reps,rA,rC,fw,bs⟩) e=(mc,0,(fi x.es {e with epoch:=ep}).2):=by unfold ek;rw[if_neg (show¬ (Pa.a ⟨ep,ld,isr,iA,iC,kn,kA,kC,reps,rA,rC,fw,bs⟩).leader<0 from by show¬ ld<0;omega),show(Pa.a ⟨ep,ld,isr,iA,iC,kn,kA,kC,reps,rA,rC,fw,bs⟩).leader.toNat=ld.toNat from rfl,hlr];simp[Pa.a,f5.a,h51,h61]
 rw[hS]
 exact gC (cs0:= #[J 0,J 0,.slice none 0 0,.slice none 0 0,.slice none 0 0,J 0,J 0]) (v1:=J (0)) (v2:=J ((fi x.es {e with epoch:=ep}).2)) Z bk Z (H.ent (i:=3) Z) Z Z Z ⟨IY,rfl,rfl,iy.zero H.below⟩
 refine U<|ZF Z<|Zk<|W<|W<|Zr<|G (Yi Z) ?_
 refine dq (kk Z Z) Z Z Z (fun h65=> ?_) (fun h65=> ?_)
 refine U<|ZT Z<|W<|Zr<|G (Zw bk H 5 Z Z Z)<|G (Yi Z)<|bC H 3 (#[J (ep),J (ld),.slice (Qd g1) isr.length c1,.slice (Qd g2) kn.length c2,.slice (Qd g3) rs.length c3,J (fw),J (bs)]) bi Z Z Z Z Z N N fun w14 H=>G (Wi Z)<|G (Wi Z)<|U<|Zt ?_
 have hlr:(Pa.a ⟨ep,ld,isr,iA,iC,kn,kA,kC,reps,rA,rC,fw,bs⟩).reps[ld.toNat]? =some x.a:=by rw[show ld.toNat=l by omega];exact hxa
 have hS:ek (Pa.a ⟨ep,ld,isr,iA,iC,kn,kA,kC,reps,rA,rC,fw,bs⟩) e=((Pa.a ⟨ep,ld,isr,iA,iC,kn,kA,kC,reps,rA,rC,fw,bs⟩),(fi x.es {e with epoch:=ep}).1,0):=by unfold ek;rw[if_neg (show¬ (Pa.a ⟨ep,ld,isr,iA,iC,kn,kA,kC,reps,rA,rC,fw,bs⟩).leader<0 from by show¬ ld<0;omega),show(Pa.a ⟨ep,ld,isr,iA,iC,kn,kA,kC,reps,rA,rC,fw,bs⟩).leader.toNat=ld.toNat from rfl,hlr];simp[Pa.a,f5.a,h51,h61,h65]
 rw[hS]
 exact gC (cs0:= #[J (ep),J (ld),.slice (Qd g1) isr.length c1,.slice (Qd g2) kn.length c2,.slice (Qd g3) rs.length c3,J (fw),J (bs)]) (v1:=J ((fi x.es {e with epoch:=ep}).1)) (v2:=J (0)) Z bk Z (H.ent (i:=3) Z) Z Z Z ⟨_,by simp[Pa.c],by simp[Pa.a,cT,hma,f5.a],(iy.mk_ (p:=⟨ep,ld,isr,some ⟨g1,0,none⟩,c1,kn,some ⟨g2,0,none⟩,c2,rs,some ⟨g3,0,none⟩,c3,fw,bs⟩) Z Z Z row1 row2 row3 hlg.cons (by dsimp only;first|omega|(simp only[ae,bO];omega)) H ⟨by simp,by simp,by simp⟩)⟩
 refine U<|ZF Z<|Zk<|W<|Zr<|G (Wi Z)<|U<|W<|W<|Zr<|G (Zf dP Z)<|G (Zd cJ H 5 Z Z Z)<|G (bj ib Z)<|G (Yi Z)<|U<|Zb ?_
 refine bW (τ:=Nat×Int) [15,16,17,71,72,73,74,75,76,77,78,79,80,81,82,83,84,85,86,87] (fun(k,n)=>[(71,J (k:Nat)),(15,J n)]) (fun(k,n) w'=>k<=rs.length/\(0<=n/\n<=k)/\Gv (isr.drop k) ((rs.map f5.a).drop k) n=Gv isr (rs.map f5.a) 0/\Hp w w' [(g1,.cells u1 jX (0,0)),(g2,.cells u2 da (0,0)),(g3,.cells u3 gO (0,0)),(b4,.cells #[J (0),J (0),.slice none 0 0,.slice none 0 0,.slice none 0 0,J (0),J (0)] bK (0,0)),(b3,.cells #[J (ep),J (e.pid),J (e.ver),J (e.seq),J (e.kind),.bool (e.txn),.string (e.text)] dz (0,0)),(b2,.cells #[J (ep),J (ld),.slice (Qd g1) isr.length c1,.slice (Qd g2) kn.length c2,.slice (Qd g3) rs.length c3,J (fw),J (bs)] bK (0,0))] ([d4 gV w7.heap.size w8.heap.size Aen x.es,Kq 0 w.heap.size ⟨ep,ld,isr,iA,iC,kn,kA,kC,reps,rA,rC,fw,bs⟩,d4 fE 0 w.heap.size iA isr,d4 bN 0 w.heap.size kA kn,d4 jn 0 w.heap.size rA reps]++vr rs)) (fun(k,_)=>rs.length-k) (0,0) ⟨by omega,by omega,rfl,H⟩ (lE Z Z) ?_
 rintro⟨k,n⟩ ρ1 w15 ⟨hk,⟨hn0,hnk⟩,hm,H⟩
 show CW _ _ _ _ (dH (gT _ _ ρ1) [(71,J (k:Nat)),(15,J n)]) w15
 refine W<|Zr ?_
 refine dq (cL Z Z) Z Z Z (fun h72=> ?_) (fun h72=> ?_)
 refine U<|W<|ZT Z<|Zk<|W<|Zb<|W ?_
 obtain⟨y,hy⟩: ∃ y,rs[k]? =some y:=⟨_,ai I⟩
 obtain⟨b,hb⟩: ∃ b,isr[k]? =some b:=⟨_,ai I⟩
 refine Zr<|G (Yi Z)<|G (cQ bQ Z Z (by first|omega|(simp only[ae];omega)))<|G (o0 oR row3 hy Z Z (H.ent (i:=2) Z))<|fg H rZ Z fun w16 b17 H=>G (Wi Z)<|bC H 0 (#[.bool (y.up),.slice y.A ((bH y.es).length) y.cap,J (((iK y.es y.s:Nat):Int)),J (y.high)]) oc Z Z Z Z Z N N fun w17 H=>U<|W<|Zr<|G (Zf kP Z)<|G (Zd lU H 6 Z Z Z)<|G (Yi Z)<|G (cQ fa Z Z (by first|omega|(simp only[ae];omega))) ?_
 refine zB (bX eL row1 hb 0 Z (H.ent (i:=1) Z) Z) Z Z Z (fun h80=> ?_) (fun h80=> ?_)
 refine G (Yb Z)<|ZG<|G (Zf kO Z)<|ZG ?_
 refine zB (bf eL Z (aJ (H.ent (i:=0) Z) Z)) Z Z Z (fun h83=> ?_) (fun h83=> ?_)
 refine G (Kt Z Z)<|U<|ZT Z<|Zr<|G (Yi Z)<|G (bn Z Z I I)<|G (Wi Z)<|U<|Zr<|G (bn Z Z I I)<|G (Yi Z)<|U ?_
 refine⟨(k+1,n+1),⟨by omega,by omega,by rw[<-hm,Dz hb (show(rs.map f5.a)[k]? =some y.a by rw[aH,hy];rfl)];simp[f5.a,h80,h83],H.forget (.cons _ (au _)) (fun _ h=>h)⟩,lE Z Z,Qg,by show rs.length- (k+1)<rs.length-k;omega⟩
 refine G (Kt Z Z)<|U<|ZF Z<|Zk<|Zr<|G (bn Z Z I I)<|G (Yi Z)<|U ?_
 refine⟨(k+1,n),⟨by omega,by omega,by rw[<-hm,Dz hb (show(rs.map f5.a)[k]? =some y.a by rw[aH,hy];rfl)];simp[f5.a,h80,h83],H.forget (.cons _ (au _)) (fun _ h=>h)⟩,lE Z Z,Qg,by show rs.length- (k+1)<rs.length-k;omega⟩
 refine G (Yb Z)<|ZN<|ZN<|G (N Z Z)<|U<|ZF Z<|Zk<|Zr<|G (bn Z Z I I)<|G (Yi Z)<|U ?_
 refine⟨(k+1,n),⟨by omega,by omega,by rw[<-hm,Dz hb (show(rs.map f5.a)[k]? =some y.a by rw[aH,hy];rfl)];simp[f5.a,h80],H.forget (.cons _ (au _)) (fun _ h=>h)⟩,lE Z Z,Qg,by show rs.length- (k+1)<rs.length-k;omega⟩
 have hke:k=rs.length:=by omega
 have hm2:n=Gv isr (rs.map f5.a) 0:=by rw[<-hm,ej (l:=isr) I];rfl
 refine U<|W<|ZF Z<|Zx<|W<|W<|Zr<|G (Yi Z)<|G (Zf yq Z)<|G (Zd al H 5 Z Z Z) ?_
 refine dq (cL Z Z) Z Z Z (fun h91=> ?_) (fun h91=> ?_)
 refine U<|ZT Z<|W<|Zr<|G (bE (cs:= #[J (0),J (0),.slice none 0 0,.slice none 0 0,.slice none 0 0,J (0),J (0)]) dy bT N)<|bC H 3 (#[J (0),J (0),.slice none 0 0,.slice none 0 0,.slice none 0 0,J (0),J (0)]) bi Z Z Z Z Z N N fun w18 H=>G (Wi Z)<|G (Wi Z)<|U<|Zt ?_
 have hlr:(Pa.a ⟨ep,ld,isr,iA,iC,kn,kA,kC,reps,rA,rC,fw,bs⟩).reps[ld.toNat]? =some x.a:=by rw[show ld.toNat=l by omega];exact hxa
 have hS:ek (Pa.a ⟨ep,ld,isr,iA,iC,kn,kA,kC,reps,rA,rC,fw,bs⟩) e=(mc,0,9):=by unfold ek;rw[if_neg (show¬ (Pa.a ⟨ep,ld,isr,iA,iC,kn,kA,kC,reps,rA,rC,fw,bs⟩).leader<0 from by show¬ ld<0;omega),show(Pa.a ⟨ep,ld,isr,iA,iC,kn,kA,kC,reps,rA,rC,fw,bs⟩).leader.toNat=ld.toNat from rfl,hlr];simp[Pa.a,f5.a,h51,h61,h65,<-hma,<-hm2,h91]
 rw[hS]
 exact gC (cs0:= #[J 0,J 0,.slice none 0 0,.slice none 0 0,.slice none 0 0,J 0,J 0]) (v1:=J (0)) (v2:=J (9)) Z bk Z (H.ent (i:=3) Z) Z Z Z ⟨IY,rfl,rfl,iy.zero H.below⟩
 refine U<|ZF Z<|Zk<|W ?_
 have hgd:nW {e with epoch:=ep}:=by simpa [nW]using h51
 have hrm:x.es.length<400:=by obtain⟨z,hz⟩: ∃ z,reps[l]? =some z:=⟨_,ai I⟩;have h1:=hroom l z hld hz;have h2:=hxa;rw[aH,hz]at h2;injection h2 with h2;have h3:z.es=x.es:=congrArg RA.es h2;rw[<-h3];exact h1
 have hlo:=H.size
 refine bP cD [0,1,2,3,4,5,6,7,8,9] [10,11] [5,9] [0,1,2,6,7,8] (sp [(5,Sp.nrow w15.heap.size dN (bH (x.es++[{e with epoch:=ep}])) (fun A c=> .tuple #[.agg #[.slice A (bH (x.es++[{e with epoch:=ep}])).length c,J (iK (x.es++[{e with epoch:=ep}]) x.s:Nat)],J 0])),(9,Sp.blk w15.heap.size (.agg #[.slice none 0 0,J 0]) Gq)]) N N N N Nq (cO _) ?_
 refine aw Z Z Z Z Z (fun w' hw'=>Yp Z)<|aw Z Z Z Z Z (fun w' hw'=>aI Z)<|aw Z Z Z Z Z (fun w' hw'=>Zf dT Z)<|aw Z Z Z Z Z (fun w' hw'=>v8 1 [.slice x.A ((bH x.es).length) x.cap,J (((iK x.es x.s:Nat):Int))] fA row3 hx Z Z ((H.later hw').ent (i:=2) Z) Z)<|aw Z Z Z Z Z (fun w' hw'=>js dI Z ((H.later hw').ent (i:=4) Z) Z)<|HM (gv:=(fun A c=> .tuple #[.agg #[.slice A (bH (x.es++[{e with epoch:=ep}])).length c,J (iK (x.es++[{e with epoch:=ep}]) x.s:Nat)],J 0])) vD Z Z Z Z Z (fun w' hw'=>hw'.size) (fun w' hw'=>vp (f5.log x) {e with epoch:=ep} w' ((hlg.cons (f:=d4 gV w7.heap.size w8.heap.size Aen x.es)).log (H.later hw') hx (hok2 hx).1) hgd hrm) Z fun A99 c99 hc99=>aw Z Z Z Z Z (fun w' hw'=>Yu Z)<|aw Z Z Z Z Z (fun w' hw'=>Xa Z Z)<|aw Z Z Z Z Z (fun w' hw'=>Xi Z Z)<|yB tr Z Z Z Z Z (fun w' hw'=>hw'.size) fun b18=>aU ?_
 intro w19 hw' hF
 obtain⟨hF,bq,eq,hge18,hbl18⟩:=hF;cases eq
 obtain⟨hF,Aq,cq,eq,hcq,hrw99⟩:=hF;cases eq;clear hcq
 have Hb:=H
 replace H:=H.adoptNew hw' hbl18 hge18
 obtain⟨lo99,hi99,hlo99,H'⟩:=Hb.learnApart H hw'.size hrw99 (vC hbl18);replace H:=H';clear H'
 clear hw' hF
 refine bC H 0 (#[.slice A99 ((bH (x.es++[{e with epoch:=ep}])).length) c99,J (((iK (x.es++[{e with epoch:=ep}]) x.s:Nat):Int))]) kK Z Z Z Z Z N N fun w20 H=>G (Wi Z)<|U<|W<|W<|Zr<|G (Yi Z)<|G (ch Z Z Z)<|U<|ZF Z<|Zk<|W<|Zr<|G (Yp Z)<|G (Zw fA H 0 Z Z Z)<|G (aI Z)<|G (Zf dT Z)<|m5 H 3 ({x with A:=A99,cap:=c99,es:=(x.es++[{e with epoch:=ep}]),lo:=lo99,hi:=hi99}) kK row3 hx 1 Z Z Z Z Z Z N fun w22 cur21 row21 H=> ?_
 have hs23:(rs.set l ({x with A:=A99,cap:=c99,es:=(x.es++[{e with epoch:=ep}]),lo:=lo99,hi:=hi99}))[l]? =some ({x with A:=A99,cap:=c99,es:=(x.es++[{e with epoch:=ep}]),lo:=lo99,hi:=hi99}):=am (cu hx).1
 refine U<|W ?_
 have hlg1:=((hlg.cons (f:=d4 gV w7.heap.size w8.heap.size Aen x.es)).cons (f:=d4 dN lo99 hi99 A99 (bH (x.es++[{e with epoch:=ep}])))).set l (x:={x with A:=A99,cap:=c99,es:=(x.es++[{e with epoch:=ep}]),lo:=lo99,hi:=hi99}) ⟨hc99,aX hlo hlo99,hM _⟩
 refine Zr<|G (Zw bk H 6 Z Z Z)<|G (Ys Z)<|G (bj eG Z)<|bC H 4 (#[J (ep),J (ld),.slice (Qd g1) isr.length c1,.slice (Qd g2) kn.length c2,.slice (Qd g3) rs.length c3,J (fw),J (bs)]) bi Z Z Z Z Z N N fun w24 H=>G (Wi Z)<|G (Wi Z)<|U<|Zt ?_
 have hlr:(Pa.a ⟨ep,ld,isr,iA,iC,kn,kA,kC,reps,rA,rC,fw,bs⟩).reps[ld.toNat]? =some x.a:=by rw[show ld.toNat=l by omega];exact hxa
 have hS:ek (Pa.a ⟨ep,ld,isr,iA,iC,kn,kA,kC,reps,rA,rC,fw,bs⟩) e=({(Pa.a ⟨ep,ld,isr,iA,iC,kn,kA,kC,reps,rA,rC,fw,bs⟩)with reps:=(reps.map f5.a).set ld.toNat {x.a with es:=(x.es++[{e with epoch:=ep}])}},((x.es.length:Nat):Int),0):=by unfold ek;rw[if_neg (show¬ (Pa.a ⟨ep,ld,isr,iA,iC,kn,kA,kC,reps,rA,rC,fw,bs⟩).leader<0 from by show¬ ld<0;omega),show(Pa.a ⟨ep,ld,isr,iA,iC,kn,kA,kC,reps,rA,rC,fw,bs⟩).leader.toNat=ld.toNat from rfl,hlr];simp[Pa.a,f5.a,h51,h61,h65,<-hma,<-hm2,h91]
 rw[hS]
 exact gC (cs0:= #[J (ep),J (ld),.slice (Qd g1) isr.length c1,.slice (Qd g2) kn.length c2,.slice (Qd g3) rs.length c3,J (fw),J (bs)]) (v1:=J (((x.es.length:Nat):Int))) (v2:=J (0)) Z bk Z (H.ent (i:=4) Z) Z Z Z ⟨_,by simp[Pa.c],by simp[Pa.a,cT,hma,f5.a,show ld.toNat=l by omega],(iy.mk_ (p:=⟨ep,ld,isr,some ⟨g1,0,none⟩,c1,kn,some ⟨g2,0,none⟩,c2,rs.set l {x with A:=A99,cap:=c99,es:=(x.es++[{e with epoch:=ep}]),lo:=lo99,hi:=hi99},some ⟨g3,0,none⟩,c3,fw,bs⟩) Z Z Z row1 row2 row21 hlg1 (by dsimp only;first|omega|(simp only[ae,bO];omega)) H ⟨by simp,by simp,by simp⟩)⟩
end Go.Proofs.YtclibalpdhhhfaaGreatDoor
