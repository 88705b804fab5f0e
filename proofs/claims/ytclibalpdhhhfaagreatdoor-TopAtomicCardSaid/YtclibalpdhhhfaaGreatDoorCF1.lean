/- Part 1 of the proofs over this seat: what its theorems say holds for every input that they name. -/
import Derived.Test.YtclibalpdhhhfaaGreatDoorCE0
namespace Go.Proofs.YtclibalpdhhhfaaGreatDoor
open Go Go.Eng Go.RowKit
open Go.Eng renaming nL→U, C6→W, MC→Zr, Q6→Zk, TK→Zt, S9→Zb, Ts→Zx, TS→Yi, TU→Yb, TQ→Ys, TR→Yp, TP→Yt, TO→Yu, Ub→Wi, Uc→Wb, T9→Ws, Ua→Wp, T8→Wt, TY→Zf, T4→Xi, T6→Xa, T5→Xb, T3→Xs, TB→Kt, TC→N, qg→ZT, oY→ZF
open Go.Proofs.Tryz renaming prog→aa
open _root_.List renaming mem_of_getElem?→ab,length_set→ae,getElem?_eq_getElem→ai,mem_cons_of_mem→aj,getElem?_set_self→ak,replicate→ao,mem_singleton→aq,mem_append→ar,length_append→av,mem_cons→ay,mem_cons_self→aA,append_assoc→aB,getElem?_eq_some_iff→aC,mem_or_eq_of_mem_set→aD,findIdx?_eq_some_iff_getElem→aF,length_take→aI,getElem?_map→aJ,mem_iff_getElem?→aN,append_nil→aP,sublist_cons_self→aS,length_replicate→bc,length_cons→bf,map_append→bi,take_length→br,mem_nil_iff→bu,length_singleton→bv,length_map→bF,mem_map→bK,mem_map_of_mem→bM,eq_nil_of_length_eq_zero→bS,getElem?_append_left→bU,mem_append_right→ce,getElem?_append_right→cy,findIdx?_eq_none_iff→cD,map_set→cO,getD_eq_getElem?_getD→cS,length→cY,getElem?_drop→df,ext_getElem?→dg,getElem?_replicate→dq,take_take→dt,map_cons→dB,length_drop→dL,mem_singleton_self→eh,all_eq_true→eD,drop_of_length_le→eE,getElem?_take_of_lt→fd,take_of_length_le→fD,length_nil→fT,mem_append_left→gk,flatMap_cons→gy,take_append_drop→g7,replicate_succ→iS,take_left→jq,filter_append→jr,nodup_cons→jB,nil_append→jC,flatMap_append→kc,drop_length→kk,drop_drop→km,take_append_of_le_length→kQ,range→kR,getElem?_set→lQ,map_nil→mT,drop_eq_getElem_cons→nn,getElem?_cons_succ→pi,nodup_append→pQ,find?_cons_of_neg→pT,take_subset→qX,perm_middle→qY,cons_append→qZ,set_cons_zero→uv,perm_append_singleton→uw,any_eq_false→vU,filter_eq_nil_iff→ya,mem_range→AK,mem_of_mem_take→AL,set_cons_succ→Dx,find?_eq_none→Dy,take_succ_eq_append_getElem→Fh
open _root_.List.Perm renaming swap→am
open _root_.Nat renaming le_refl→ap,zero_le→aV,le_trans→aW,min_eq_left→bE,zero_add→cC,mul_le_mul_right→cN,add_mul→cW,le_of_ble_eq_true→fk,lt_or_ge→fC,mod_eq_of_lt→hZ,mod_lt→jU,add_assoc→lx,sub_self→mQ,le_of_lt→mR,add_zero→mS,add_sub_cancel_left→pg,two_pow_add_eq_or_of_lt→tr,div_lt_of_lt_mul→AI,mul_comm→Fe,add_comm→Fg
open _root_.List.Sublist renaming refl→au
open _root_.Option.some renaming inj→aZ
open _root_.Bool renaming and_eq_true→bg,true_and→wy
open _root_.Array renaming length_toList→ch
open _root_.Int renaming le_refl→fj,toNat_natCast→lR
open _root_.List.Mem renaming head→ik,tail→ru
open _root_.Option renaming getD_some→qW
set_option maxHeartbeats 4000000
set_option maxRecDepth 20000
set_option linter.unusedSimpArgs false
set_option linter.unusedVariables false
set_option linter.unusedSectionVars false
section
open Go Go.Eng
theorem cv:aa.follows .mixedOrders=true:=by kernel_rfl
abbrev cM:TypeId:=3
theorem al:qx aa 3=true:=by kernel_rfl
theorem bN:(aa.info? 3).map (·.size)=some 1:=by kernel_rfl
theorem iK:pB aa 3 .i64=true:=by kernel_rfl
theorem Eh:(aa.info? 3).bind (·.zero)=some (.int .i64 0):=by kernel_rfl
abbrev kb:TypeId:=4
theorem eP:qx aa 4=true:=by kernel_rfl
theorem mW:(aa.info? 4).map (·.size)=some 1:=by kernel_rfl
theorem GR:aa.underlying 4=some .bool:=by kernel_rfl
abbrev nk:TypeId:=5
theorem mZ:qx aa 5=true:=by kernel_rfl
theorem iH:pB aa 5 .u8=true:=by kernel_rfl
theorem BL:(aa.info? 5).bind (·.zero)=some (.int .u8 0):=by kernel_rfl
abbrev lP:TypeId:=9
theorem aY:qx aa 9=true:=by kernel_rfl
theorem BT:(aa.info? 9).map (·.size)=some 1:=by kernel_rfl
theorem jf:yh aa 9=true:=by kernel_rfl
theorem yc:(aa.info? 9).bind (·.zero)=some (.string ⟨#[]⟩):=by kernel_rfl
theorem ER:pB aa 21 .i32=true:=by kernel_rfl
theorem P7:ek aa 22 75 4=true:=by kernel_rfl
theorem OB:p6 aa 22=true:=by kernel_rfl
abbrev zZ:TypeId:=23
theorem cP:qx aa 23=true:=by kernel_rfl
theorem jV:(aa.info? 23).map (·.size)=some 1:=by kernel_rfl
theorem bj:ek aa 23 3 1=true:=by kernel_rfl
theorem fp:p6 aa 23=true:=by kernel_rfl
theorem BC:GH aa 23 3 1 8=true:=by kernel_rfl
abbrev iq:TypeId:=25
theorem qn:lO aa 25 4=true:=by kernel_rfl
theorem ED:(aa.info? 25).map (·.size)=some 4:=by kernel_rfl
theorem Ns:iJ aa 25 [(0,1),(1,1),(2,1),(3,1)]=true:=by kernel_rfl
theorem kH:cn aa 25 0 0=true:=by kernel_rfl
theorem qJ:cn aa 25 1 1=true:=by kernel_rfl
theorem CZ:cn aa 25 2 2=true:=by kernel_rfl
theorem xM:cn aa 25 3 3=true:=by kernel_rfl
theorem Fj:(aa.info? 25).bind (·.zero)=some (.agg #[.int .i64 0,.int .i64 0,.int .i64 0,.int .i64 0]):=by kernel_rfl
theorem kT:ek aa 27 31 7=true:=by kernel_rfl
theorem yp:p6 aa 27=true:=by kernel_rfl
theorem qj:GH aa 27 31 7 72=true:=by kernel_rfl
abbrev iR:TypeId:=31
theorem jd:lO aa 31 7=true:=by kernel_rfl
theorem oh:(aa.info? 31).map (·.size)=some 7:=by kernel_rfl
theorem jg:iJ aa 31 [(0,1),(1,1),(2,1),(3,1),(4,1),(5,1),(6,1)]=true:=by kernel_rfl
theorem oW:cn aa 31 0 0=true:=by kernel_rfl
theorem fq:cn aa 31 1 1=true:=by kernel_rfl
theorem ez:cn aa 31 2 2=true:=by kernel_rfl
theorem fY:cn aa 31 3 3=true:=by kernel_rfl
theorem OZ:cn aa 31 4 4=true:=by kernel_rfl
theorem C0:cn aa 31 5 5=true:=by kernel_rfl
theorem kL:cn aa 31 6 6=true:=by kernel_rfl
theorem gW:(aa.info? 31).bind (·.zero)=some (.agg #[.int .i64 0,.string ⟨#[]⟩,.int .i64 0,.int .i64 0,.int .i64 0,.string ⟨#[]⟩,.int .i64 0]):=by kernel_rfl
theorem IV:ek aa 35 71 3=true:=by kernel_rfl
theorem Hw:p6 aa 35=true:=by kernel_rfl
theorem J0:GH aa 35 71 3 40=true:=by kernel_rfl
theorem er:qx aa 36=true:=by kernel_rfl
theorem v5:(aa.info? 36).map (·.size)=some 1:=by kernel_rfl
theorem ia:ek aa 36 52 7=true:=by kernel_rfl
theorem kW:p6 aa 36=true:=by kernel_rfl
theorem y2:GH aa 36 52 7 104=true:=by kernel_rfl
theorem dP:qx aa 37=true:=by kernel_rfl
theorem BW:(aa.info? 37).map (·.size)=some 1:=by kernel_rfl
theorem gY:ek aa 37 163 7=true:=by kernel_rfl
theorem lG:p6 aa 37=true:=by kernel_rfl
theorem KK:GH aa 37 163 7 80=true:=by kernel_rfl
abbrev aX:TypeId:=39
theorem az:lO aa 39 4=true:=by kernel_rfl
theorem aH:(aa.info? 39).map (·.size)=some 4:=by kernel_rfl
theorem fI:iJ aa 39 [(0,1),(1,1),(2,1),(3,1)]=true:=by kernel_rfl
theorem kK:cn aa 39 0 0=true:=by kernel_rfl
theorem kJ:cn aa 39 1 1=true:=by kernel_rfl
theorem xO:cn aa 39 2 2=true:=by kernel_rfl
theorem cR:cn aa 39 3 3=true:=by kernel_rfl
theorem cH:(aa.info? 39).bind (·.zero)=some (.agg #[.int .i64 0,.int .i64 0,.int .i64 0,.slice none 0 0]):=by kernel_rfl
theorem dv:qx aa 40=true:=by kernel_rfl
theorem uX:(aa.info? 40).map (·.size)=some 1:=by kernel_rfl
theorem eM:ek aa 40 181 3=true:=by kernel_rfl
theorem gI:p6 aa 40=true:=by kernel_rfl
theorem Dh:GH aa 40 181 3 48=true:=by kernel_rfl
abbrev z0:TypeId:=41
theorem eK:qx aa 41=true:=by kernel_rfl
theorem ox:(aa.info? 41).map (·.size)=some 1:=by kernel_rfl
theorem da:ek aa 41 192 2=true:=by kernel_rfl
theorem ir:p6 aa 41=true:=by kernel_rfl
theorem xU:GH aa 41 192 2 16=true:=by kernel_rfl
abbrev cK:TypeId:=43
theorem aR:lO aa 43 5=true:=by kernel_rfl
theorem bD:(aa.info? 43).map (·.size)=some 5:=by kernel_rfl
theorem ko:iJ aa 43 [(0,1),(1,1),(2,1),(3,1),(4,1)]=true:=by kernel_rfl
theorem jR:cn aa 43 0 0=true:=by kernel_rfl
theorem xN:cn aa 43 1 1=true:=by kernel_rfl
theorem kI:cn aa 43 2 2=true:=by kernel_rfl
theorem dN:cn aa 43 3 3=true:=by kernel_rfl
theorem d7:cn aa 43 4 4=true:=by kernel_rfl
theorem eo:(aa.info? 43).bind (·.zero)=some (.agg #[.int .i64 0,.int .i64 0,.int .i64 0,.slice none 0 0,.slice none 0 0]):=by kernel_rfl
theorem ks:qx aa 44=true:=by kernel_rfl
theorem G3:(aa.info? 44).map (·.size)=some 1:=by kernel_rfl
theorem tE:ek aa 44 142 6=true:=by kernel_rfl
theorem vf:p6 aa 44=true:=by kernel_rfl
theorem JZ:GH aa 44 142 6 88=true:=by kernel_rfl
abbrev lW:TypeId:=46
theorem oc:lO aa 46 11=true:=by kernel_rfl
theorem nG:(aa.info? 46).map (·.size)=some 11:=by kernel_rfl
theorem Nr:iJ aa 46 [(0,1),(1,4),(5,5),(10,1)]=true:=by kernel_rfl
theorem dF:cn aa 46 0 0=true:=by kernel_rfl
theorem eN:cn aa 46 1 1=true:=by kernel_rfl
theorem jQ:cn aa 46 2 5=true:=by kernel_rfl
theorem kG:cn aa 46 3 10=true:=by kernel_rfl
theorem rv:(aa.info? 46).bind (·.zero)=some (.agg #[.slice none 0 0,.int .i64 0,.int .i64 0,.int .i64 0,.slice none 0 0,.int .i64 0,.int .i64 0,.int .i64 0,.slice none 0 0,.slice none 0 0,.slice none 0 0]):=by kernel_rfl
theorem mn:qx aa 49=true:=by kernel_rfl
theorem Le:(aa.info? 49).map (·.size)=some 1:=by kernel_rfl
theorem ff:ek aa 49 4 1=true:=by kernel_rfl
theorem zx:p6 aa 49=true:=by kernel_rfl
theorem Pz:GH aa 49 4 1 1=true:=by kernel_rfl
theorem cF:qx aa 50=true:=by kernel_rfl
theorem FC:(aa.info? 50).map (·.size)=some 1:=by kernel_rfl
theorem bQ:ek aa 50 57 4=true:=by kernel_rfl
theorem im:p6 aa 50=true:=by kernel_rfl
theorem Iw:GH aa 50 57 4 48=true:=by kernel_rfl
abbrev bY:TypeId:=52
theorem bo:lO aa 52 7=true:=by kernel_rfl
theorem bk:(aa.info? 52).map (·.size)=some 7:=by kernel_rfl
theorem dx:iJ aa 52 [(0,1),(1,1),(2,1),(3,1),(4,1),(5,1),(6,1)]=true:=by kernel_rfl
theorem qm:cn aa 52 0 0=true:=by kernel_rfl
theorem eu:cn aa 52 1 1=true:=by kernel_rfl
theorem la:cn aa 52 2 2=true:=by kernel_rfl
theorem iZ:cn aa 52 3 3=true:=by kernel_rfl
theorem dI:cn aa 52 4 4=true:=by kernel_rfl
theorem zJ:cn aa 52 5 5=true:=by kernel_rfl
theorem zI:cn aa 52 6 6=true:=by kernel_rfl
theorem bT:(aa.info? 52).bind (·.zero)=some (.agg #[.int .i64 0,.int .i64 0,.slice none 0 0,.slice none 0 0,.slice none 0 0,.int .i64 0,.int .i64 0]):=by kernel_rfl
theorem eR:qx aa 53=true:=by kernel_rfl
theorem EE:(aa.info? 53).map (·.size)=some 1:=by kernel_rfl
theorem eJ:ek aa 53 5 1=true:=by kernel_rfl
theorem eY:p6 aa 53=true:=by kernel_rfl
theorem pf:GH aa 53 5 1 1=true:=by kernel_rfl
theorem Fk:(aa.info? 53).bind (·.zero)=some (.slice none 0 0):=by kernel_rfl
abbrev ID:TypeId:=55
theorem fx:lO aa 55 2=true:=by kernel_rfl
theorem kU:(aa.info? 55).map (·.size)=some 2:=by kernel_rfl
theorem xt:iJ aa 55 [(0,1),(1,1)]=true:=by kernel_rfl
theorem ja:cn aa 55 0 0=true:=by kernel_rfl
theorem oV:cn aa 55 1 1=true:=by kernel_rfl
theorem uh:(aa.info? 55).bind (·.zero)=some (.agg #[.slice none 0 0,.int .i64 0]):=by kernel_rfl
abbrev fM:TypeId:=57
theorem mB:lO aa 57 4=true:=by kernel_rfl
theorem mj:(aa.info? 57).map (·.size)=some 4:=by kernel_rfl
theorem kZ:cn aa 57 0 0=true:=by kernel_rfl
theorem dM:cn aa 57 1 1=true:=by kernel_rfl
theorem eU:cn aa 57 2 3=true:=by kernel_rfl
theorem ql:(aa.info? 57).bind (·.zero)=some (.agg #[.bool false,.slice none 0 0,.int .i64 0,.int .i64 0]):=by kernel_rfl
theorem nI:qx aa 58=true:=by kernel_rfl
theorem dY:ek aa 58 87 7=true:=by kernel_rfl
theorem dW:p6 aa 58=true:=by kernel_rfl
theorem MM:GH aa 58 87 7 64=true:=by kernel_rfl
abbrev mD:TypeId:=64
theorem jE:qx aa 64=true:=by kernel_rfl
theorem G2:(aa.info? 64).map (·.size)=some 1:=by kernel_rfl
theorem g9:ek aa 64 9 1=true:=by kernel_rfl
theorem ku:p6 aa 64=true:=by kernel_rfl
theorem xT:GH aa 64 9 1 16=true:=by kernel_rfl
abbrev gR:TypeId:=71
theorem bx:lO aa 71 3=true:=by kernel_rfl
theorem bA:(aa.info? 71).map (·.size)=some 3:=by kernel_rfl
theorem iX:iJ aa 71 [(0,1),(1,1),(2,1)]=true:=by kernel_rfl
theorem Ay:cn aa 71 2 2=true:=by kernel_rfl
theorem dn:(aa.info? 71).bind (·.zero)=some (.agg #[.int .i64 0,.int .i64 0,.slice none 0 0]):=by kernel_rfl
abbrev Dn:TypeId:=75
theorem Rl:lO aa 75 4=true:=by kernel_rfl
theorem P8:(aa.info? 75).map (·.size)=some 4:=by kernel_rfl
theorem OY:cn aa 75 0 0=true:=by kernel_rfl
theorem vA:cn aa 75 1 1=true:=by kernel_rfl
theorem OX:cn aa 75 2 2=true:=by kernel_rfl
theorem vz:cn aa 75 3 3=true:=by kernel_rfl
theorem SO:(aa.info? 75).bind (·.zero)=some (.agg #[.int .i64 0,.int .i64 0,.int .i64 0,.int .i64 0]):=by kernel_rfl
abbrev IC:TypeId:=83
theorem ol:I4 aa 83=true:=by kernel_rfl
theorem rx:(aa.info? 83).bind (·.zero)=some (.pointer none):=by kernel_rfl
abbrev mh:TypeId:=85
theorem z6:iJ aa 85 [(0,1),(1,1),(2,1),(3,1)]=true:=by kernel_rfl
theorem j6:cn aa 85 0 0=true:=by kernel_rfl
theorem fA:cn aa 85 1 1=true:=by kernel_rfl
theorem en:cn aa 85 2 2=true:=by kernel_rfl
theorem iw:cn aa 85 3 3=true:=by kernel_rfl
theorem BK:(aa.info? 85).bind (·.zero)=some (.agg #[.int .i64 0,.int .i64 0,.int .i64 0,.int .i64 0]):=by kernel_rfl
abbrev dy:TypeId:=87
theorem dJ:lO aa 87 7=true:=by kernel_rfl
theorem eX:(aa.info? 87).map (·.size)=some 7:=by kernel_rfl
theorem ow:iJ aa 87 [(0,1),(1,1),(2,1),(3,1),(4,1),(5,1),(6,1)]=true:=by kernel_rfl
theorem nY:cn aa 87 0 0=true:=by kernel_rfl
theorem ft:cn aa 87 1 1=true:=by kernel_rfl
theorem eO:cn aa 87 2 2=true:=by kernel_rfl
theorem fi:cn aa 87 3 3=true:=by kernel_rfl
theorem fh:cn aa 87 4 4=true:=by kernel_rfl
theorem jk:cn aa 87 5 5=true:=by kernel_rfl
theorem qK:cn aa 87 6 6=true:=by kernel_rfl
theorem gz:(aa.info? 87).bind (·.zero)=some (.agg #[.int .i64 0,.int .i64 0,.int .i64 0,.int .i64 0,.int .i64 0,.bool false,.string ⟨#[]⟩]):=by kernel_rfl
abbrev cB:TypeId:=95
theorem K6:iJ aa 95 [(0,11)]=true:=by kernel_rfl
theorem aU:cn aa 95 0 0=true:=by kernel_rfl
theorem M4:(aa.info? 95).bind (·.zero)=some (.agg #[.slice none 0 0,.int .i64 0,.int .i64 0,.int .i64 0,.slice none 0 0,.int .i64 0,.int .i64 0,.int .i64 0,.slice none 0 0,.slice none 0 0,.slice none 0 0]):=by kernel_rfl
theorem Hz:pB aa 99 .u64=true:=by kernel_rfl
abbrev vP:TypeId:=122
theorem K5:iJ aa 122 [(0,1),(1,1)]=true:=by kernel_rfl
theorem my:cn aa 122 0 0=true:=by kernel_rfl
theorem kF:cn aa 122 1 1=true:=by kernel_rfl
theorem M3:(aa.info? 122).bind (·.zero)=some (.agg #[.slice none 0 0,.bool false]):=by kernel_rfl
theorem i7:I4 aa 139=true:=by kernel_rfl
abbrev fK:TypeId:=142
theorem BU:(aa.info? 142).map (·.size)=some 6:=by kernel_rfl
theorem zh:iJ aa 142 [(0,1),(1,1),(2,1),(3,1),(4,1),(5,1)]=true:=by kernel_rfl
theorem oS:cn aa 142 0 0=true:=by kernel_rfl
theorem HY:cn aa 142 1 1=true:=by kernel_rfl
theorem vy:cn aa 142 2 2=true:=by kernel_rfl
theorem oR:cn aa 142 3 3=true:=by kernel_rfl
theorem Av:cn aa 142 4 4=true:=by kernel_rfl
theorem mz:cn aa 142 5 5=true:=by kernel_rfl
theorem yd:(aa.info? 142).bind (·.zero)=some (.agg #[.string ⟨#[]⟩,.int .i64 0,.int .i64 0,.bool false,.slice none 0 0,.slice none 0 0]):=by kernel_rfl
abbrev dH:TypeId:=163
theorem BD:lO aa 163 7=true:=by kernel_rfl
theorem Kb:(aa.info? 163).map (·.size)=some 7:=by kernel_rfl
theorem RV:iJ aa 163 [(0,1),(1,1),(2,1),(3,1),(4,1),(5,1),(6,1)]=true:=by kernel_rfl
theorem oQ:cn aa 163 0 0=true:=by kernel_rfl
theorem lJ:cn aa 163 1 1=true:=by kernel_rfl
theorem gN:cn aa 163 2 2=true:=by kernel_rfl
theorem dd:cn aa 163 3 3=true:=by kernel_rfl
theorem ey:cn aa 163 4 4=true:=by kernel_rfl
theorem vx:cn aa 163 5 5=true:=by kernel_rfl
theorem jx:cn aa 163 6 6=true:=by kernel_rfl
theorem J6:(aa.info? 163).bind (·.zero)=some (.agg #[.string ⟨#[]⟩,.int .i64 0,.int .i64 0,.int .i64 0,.slice none 0 0,.int .i64 0,.int .i64 0]):=by kernel_rfl
abbrev de:TypeId:=181
theorem od:lO aa 181 3=true:=by kernel_rfl
theorem tF:(aa.info? 181).map (·.size)=some 3:=by kernel_rfl
theorem K8:iJ aa 181 [(0,1),(1,1),(2,1)]=true:=by kernel_rfl
theorem oU:cn aa 181 0 0=true:=by kernel_rfl
theorem rI:cn aa 181 1 1=true:=by kernel_rfl
theorem i9:cn aa 181 2 2=true:=by kernel_rfl
theorem uR:(aa.info? 181).bind (·.zero)=some (.agg #[.string ⟨#[]⟩,.int .i64 0,.slice none 0 0]):=by kernel_rfl
abbrev eC:TypeId:=192
theorem Dj:lO aa 192 2=true:=by kernel_rfl
theorem BV:(aa.info? 192).map (·.size)=some 2:=by kernel_rfl
theorem vY:iJ aa 192 [(0,1),(1,1)]=true:=by kernel_rfl
theorem jH:cn aa 192 0 0=true:=by kernel_rfl
theorem oT:cn aa 192 1 1=true:=by kernel_rfl
theorem lz:(aa.info? 192).bind (·.zero)=some (.agg #[.int .i64 0,.int .i64 0]):=by kernel_rfl
theorem yj:ek aa 211 23 1=true:=by kernel_rfl
theorem LQ:p6 aa 211=true:=by kernel_rfl
theorem sO:ek aa 221 53 1=true:=by kernel_rfl
theorem Cs:p6 aa 221=true:=by kernel_rfl
abbrev sW:FuncId:=3
theorem sf:aa.funcs[(3:Nat)]? =some Tryz.f3:=Tryz.func3
abbrev oG:FuncId:=6
theorem uD:aa.funcs[(6:Nat)]? =some Tryz.f6:=Tryz.func6
theorem uF:bh aa 6=true:=by kernel_rfl
abbrev xG:FuncId:=7
theorem wG:aa.funcs[(7:Nat)]? =some Tryz.f7:=Tryz.func7
theorem ie:bh aa 7=true:=by kernel_rfl
abbrev wE:FuncId:=8
theorem vt:aa.funcs[(8:Nat)]? =some Tryz.f8:=Tryz.func8
theorem vJ:bh aa 8=true:=by kernel_rfl
abbrev uz:FuncId:=9
theorem tQ:aa.funcs[(9:Nat)]? =some Tryz.f9:=Tryz.func9
theorem ua:bh aa 9=true:=by kernel_rfl
abbrev wD:FuncId:=11
theorem vr:aa.funcs[(11:Nat)]? =some Tryz.f11:=Tryz.func11
theorem vI:bh aa 11=true:=by kernel_rfl
abbrev yw:FuncId:=12
theorem xI:aa.funcs[(12:Nat)]? =some Tryz.f12:=Tryz.func12
theorem xQ:bh aa 12=true:=by kernel_rfl
abbrev wW:FuncId:=13
theorem CR:aa.funcs[(13:Nat)]? =some Tryz.f13:=Tryz.func13
theorem f5:bh aa 13=true:=by kernel_rfl
abbrev DM:FuncId:=14
theorem CQ:aa.funcs[(14:Nat)]? =some Tryz.f14:=Tryz.func14
theorem qN:bh aa 14=true:=by kernel_rfl
abbrev Ar:FuncId:=15
theorem yF:aa.funcs[(15:Nat)]? =some Tryz.f15:=Tryz.func15
theorem t9:bh aa 15=true:=by kernel_rfl
abbrev vm:FuncId:=16
theorem tS:aa.funcs[(16:Nat)]? =some Tryz.f16:=Tryz.func16
theorem ub:bh aa 16=true:=by kernel_rfl
abbrev uy:FuncId:=17
theorem tP:aa.funcs[(17:Nat)]? =some Tryz.f17:=Tryz.func17
theorem bH:bh aa 17=true:=by kernel_rfl
abbrev sZ:FuncId:=18
theorem sj:aa.funcs[(18:Nat)]? =some Tryz.f18:=Tryz.func18
theorem sD:bh aa 18=true:=by kernel_rfl
abbrev wC:FuncId:=19
theorem vp:aa.funcs[(19:Nat)]? =some Tryz.f19:=Tryz.func19
theorem vH:bh aa 19=true:=by kernel_rfl
abbrev wB:FuncId:=20
theorem vo:aa.funcs[(20:Nat)]? =some Tryz.f20:=Tryz.func20
theorem vG:bh aa 20=true:=by kernel_rfl
abbrev Ga:FuncId:=22
theorem D3:aa.funcs[(22:Nat)]? =some Tryz.f22:=Tryz.func22
theorem Ed:bh aa 22=true:=by kernel_rfl
abbrev As:FuncId:=23
theorem Gh:aa.funcs[(23:Nat)]? =some Tryz.f23:=Tryz.func23
theorem qi:bh aa 23=true:=by kernel_rfl
abbrev DJ:FuncId:=24
theorem CO:aa.funcs[(24:Nat)]? =some Tryz.f24:=Tryz.func24
theorem nc:bh aa 24=true:=by kernel_rfl
abbrev DK:FuncId:=25
theorem CP:aa.funcs[(25:Nat)]? =some Tryz.f25:=Tryz.func25
theorem vF:bh aa 25=true:=by kernel_rfl
abbrev HD:FuncId:=26
theorem Gg:aa.funcs[(26:Nat)]? =some Tryz.f26:=Tryz.func26
theorem Gz:bh aa 26=true:=by kernel_rfl
abbrev F3:FuncId:=27
theorem DV:aa.funcs[(27:Nat)]? =some Tryz.f27:=Tryz.func27
theorem lM:bh aa 27=true:=by kernel_rfl
abbrev CI:FuncId:=29
theorem Bd:aa.funcs[(29:Nat)]? =some Tryz.f29:=Tryz.func29
theorem Bn:bh aa 29=true:=by kernel_rfl
abbrev wF:FuncId:=30
theorem vu:aa.funcs[(30:Nat)]? =some Tryz.f30:=Tryz.func30
theorem vL:bh aa 30=true:=by kernel_rfl
abbrev jG:FuncId:=31
theorem nR:aa.funcs[(31:Nat)]? =some Tryz.f31:=Tryz.func31
theorem n8:bh aa 31=true:=by kernel_rfl
abbrev Jv:FuncId:=32
theorem HQ:aa.funcs[(32:Nat)]? =some Tryz.f32:=Tryz.func32
theorem AC:bh aa 32=true:=by kernel_rfl
abbrev HC:FuncId:=33
theorem Gf:aa.funcs[(33:Nat)]? =some Tryz.f33:=Tryz.func33
theorem Gy:bh aa 33=true:=by kernel_rfl
abbrev pE:FuncId:=34
theorem oO:aa.funcs[(34:Nat)]? =some Tryz.f34:=Tryz.func34
theorem pb:bh aa 34=true:=by kernel_rfl
abbrev HE:FuncId:=35
theorem Gi:aa.funcs[(35:Nat)]? =some Tryz.f35:=Tryz.func35
theorem lg:bh aa 35=true:=by kernel_rfl
abbrev Jx:FuncId:=40
theorem HT:aa.funcs[(40:Nat)]? =some Tryz.f40:=Tryz.func40
theorem Is:bh aa 40=true:=by kernel_rfl
abbrev HK:FuncId:=41
theorem Gn:aa.funcs[(41:Nat)]? =some Tryz.f41:=Tryz.func41
theorem GD:bh aa 41=true:=by kernel_rfl
abbrev HG:FuncId:=42
theorem Gl:aa.funcs[(42:Nat)]? =some Tryz.f42:=Tryz.func42
theorem GB:bh aa 42=true:=by kernel_rfl
abbrev Au:FuncId:=43
theorem Gk:aa.funcs[(43:Nat)]? =some Tryz.f43:=Tryz.func43
theorem ng:bh aa 43=true:=by kernel_rfl
abbrev kB:FuncId:=44
theorem nE:aa.funcs[(44:Nat)]? =some Tryz.f44:=Tryz.func44
theorem uK:bh aa 44=true:=by kernel_rfl
abbrev j9:FuncId:=45
theorem m7:aa.funcs[(45:Nat)]? =some Tryz.f45:=Tryz.func45
theorem uc:bh aa 45=true:=by kernel_rfl
abbrev i8:FuncId:=46
theorem ka:aa.funcs[(46:Nat)]? =some Tryz.f46:=Tryz.func46
theorem uH:bh aa 46=true:=by kernel_rfl
abbrev jP:FuncId:=47
theorem mw:aa.funcs[(47:Nat)]? =some Tryz.f47:=Tryz.func47
theorem tc:bh aa 47=true:=by kernel_rfl
abbrev kz:FuncId:=48
theorem nD:aa.funcs[(48:Nat)]? =some Tryz.f48:=Tryz.func48
theorem uJ:bh aa 48=true:=by kernel_rfl
abbrev oM:FuncId:=49
theorem uE:aa.funcs[(49:Nat)]? =some Tryz.f49:=Tryz.func49
theorem uG:bh aa 49=true:=by kernel_rfl
abbrev lI:FuncId:=50
theorem rm:aa.funcs[(50:Nat)]? =some Tryz.f50:=Tryz.func50
theorem rt:bh aa 50=true:=by kernel_rfl
abbrev mt:FuncId:=51
theorem su:aa.funcs[(51:Nat)]? =some Tryz.f51:=Tryz.func51
theorem sG:bh aa 51=true:=by kernel_rfl
abbrev gK:FuncId:=52
theorem iL:aa.funcs[(52:Nat)]? =some Tryz.f52:=Tryz.func52
theorem uI:bh aa 52=true:=by kernel_rfl
abbrev zz:FuncId:=53
theorem yJ:aa.funcs[(53:Nat)]? =some Tryz.f53:=Tryz.func53
theorem bO:bh aa 53=true:=by kernel_rfl
abbrev vk:FuncId:=54
theorem uC:aa.funcs[(54:Nat)]? =some Tryz.f54:=Tryz.func54
theorem iM:bh aa 54=true:=by kernel_rfl
abbrev FW:FuncId:=55
theorem DQ:aa.funcs[(55:Nat)]? =some Tryz.f55:=Tryz.func55
theorem sy:bh aa 55=true:=by kernel_rfl
abbrev rb:FuncId:=56
theorem qE:aa.funcs[(56:Nat)]? =some Tryz.f56:=Tryz.func56
theorem qO:bh aa 56=true:=by kernel_rfl
abbrev rc:FuncId:=62
theorem qG:aa.funcs[(62:Nat)]? =some Tryz.f62:=Tryz.func62
theorem qP:bh aa 62=true:=by kernel_rfl
abbrev mq:FuncId:=63
theorem sh:aa.funcs[(63:Nat)]? =some Tryz.f63:=Tryz.func63
theorem gD:bh aa 63=true:=by kernel_rfl
abbrev nv:FuncId:=64
theorem m6:aa.funcs[(64:Nat)]? =some Tryz.f64:=Tryz.func64
theorem nf:bh aa 64=true:=by kernel_rfl
abbrev ln:FuncId:=65
theorem qF:aa.funcs[(65:Nat)]? =some Tryz.f65:=Tryz.func65
theorem f4:bh aa 65=true:=by kernel_rfl
abbrev m4:FuncId:=66
theorem oq:aa.funcs[(66:Nat)]? =some Tryz.f66:=Tryz.func66
theorem ov:bh aa 66=true:=by kernel_rfl
abbrev jO:FuncId:=67
theorem mu:aa.funcs[(67:Nat)]? =some Tryz.f67:=Tryz.func67
theorem dD:bh aa 67=true:=by kernel_rfl
abbrev uB:FuncId:=68
theorem tT:aa.funcs[(68:Nat)]? =some Tryz.f68:=Tryz.func68
theorem eg:bh aa 68=true:=by kernel_rfl
abbrev wX:FuncId:=69
theorem CU:aa.funcs[(69:Nat)]? =some Tryz.f69:=Tryz.func69
theorem kP:bh aa 69=true:=by kernel_rfl
abbrev s7:FuncId:=70
theorem sv:aa.funcs[(70:Nat)]? =some Tryz.f70:=Tryz.func70
theorem lN:bh aa 70=true:=by kernel_rfl
abbrev mr:FuncId:=71
theorem qd:aa.funcs[(71:Nat)]? =some Tryz.f71:=Tryz.func71
theorem yV:bh aa 71=true:=by kernel_rfl
abbrev yA:FuncId:=72
theorem D1:aa.funcs[(72:Nat)]? =some Tryz.f72:=Tryz.func72
theorem xj:bh aa 72=true:=by kernel_rfl
abbrev Jw:FuncId:=73
theorem HS:aa.funcs[(73:Nat)]? =some Tryz.f73:=Tryz.func73
theorem rM:bh aa 73=true:=by kernel_rfl
abbrev yB:FuncId:=74
theorem D2:aa.funcs[(74:Nat)]? =some Tryz.f74:=Tryz.func74
theorem Ec:bh aa 74=true:=by kernel_rfl
abbrev tN:FuncId:=75
theorem xa:aa.funcs[(75:Nat)]? =some Tryz.f75:=Tryz.func75
theorem xi:bh aa 75=true:=by kernel_rfl
abbrev F6:FuncId:=76
theorem DY:aa.funcs[(76:Nat)]? =some Tryz.f76:=Tryz.func76
theorem xh:bh aa 76=true:=by kernel_rfl
abbrev FY:FuncId:=77
theorem DT:aa.funcs[(77:Nat)]? =some Tryz.f77:=Tryz.func77
theorem D8:bh aa 77=true:=by kernel_rfl
abbrev HF:FuncId:=78
theorem Gj:aa.funcs[(78:Nat)]? =some Tryz.f78:=Tryz.func78
theorem GA:bh aa 78=true:=by kernel_rfl
abbrev FZ:FuncId:=82
theorem DU:aa.funcs[(82:Nat)]? =some Tryz.f82:=Tryz.func82
theorem D9:bh aa 82=true:=by kernel_rfl
abbrev p8:FuncId:=85
theorem sr:aa.funcs[(85:Nat)]? =some Tryz.f85:=Tryz.func85
theorem Ea:bh aa 85=true:=by kernel_rfl
abbrev p9:FuncId:=87
theorem ss:aa.funcs[(87:Nat)]? =some Tryz.f87:=Tryz.func87
theorem Eb:bh aa 87=true:=by kernel_rfl
abbrev j5:FuncId:=88
theorem kD:aa.funcs[(88:Nat)]? =some Tryz.f88:=Tryz.func88
theorem Da:bh aa 88=true:=by kernel_rfl
abbrev oo:FuncId:=89
theorem qH:aa.funcs[(89:Nat)]? =some Tryz.f89:=Tryz.func89
theorem nh:bh aa 89=true:=by kernel_rfl
abbrev yz:FuncId:=92
theorem wZ:aa.funcs[(92:Nat)]? =some Tryz.f92:=Tryz.func92
theorem iz:bh aa 92=true:=by kernel_rfl
abbrev oK:FuncId:=93
theorem qe:aa.funcs[(93:Nat)]? =some Tryz.f93:=Tryz.func93
theorem yX:bh aa 93=true:=by kernel_rfl
abbrev se:FuncId:=94
theorem qI:aa.funcs[(94:Nat)]? =some Tryz.f94:=Tryz.func94
theorem gO:bh aa 94=true:=by kernel_rfl
abbrev DO:FuncId:=95
theorem CT:aa.funcs[(95:Nat)]? =some Tryz.f95:=Tryz.func95
theorem kO:bh aa 95=true:=by kernel_rfl
abbrev FX:FuncId:=96
theorem DR:aa.funcs[(96:Nat)]? =some Tryz.f96:=Tryz.func96
theorem D7:bh aa 96=true:=by kernel_rfl
abbrev yx:FuncId:=97
theorem DS:aa.funcs[(97:Nat)]? =some Tryz.f97:=Tryz.func97
theorem xf:bh aa 97=true:=by kernel_rfl
abbrev nO:FuncId:=98
theorem nz:aa.funcs[(98:Nat)]? =some Tryz.f98:=Tryz.func98
theorem eB:bh aa 98=true:=by kernel_rfl
abbrev sa:FuncId:=99
theorem rh:aa.funcs[(99:Nat)]? =some Tryz.f99:=Tryz.func99
theorem lp:bh aa 99=true:=by kernel_rfl
abbrev yC:FuncId:=100
theorem xb:aa.funcs[(100:Nat)]? =some Tryz.f100:=Tryz.func100
theorem jm:bh aa 100=true:=by kernel_rfl
abbrev DN:FuncId:=101
theorem CS:aa.funcs[(101:Nat)]? =some Tryz.f101:=Tryz.func101
theorem vK:bh aa 101=true:=by kernel_rfl
abbrev AT:FuncId:=102
theorem zD:aa.funcs[(102:Nat)]? =some Tryz.f102:=Tryz.func102
theorem lh:bh aa 102=true:=by kernel_rfl
abbrev F7:FuncId:=103
theorem DZ:aa.funcs[(103:Nat)]? =some Tryz.f103:=Tryz.func103
theorem ou:bh aa 103=true:=by kernel_rfl
abbrev fH:FuncId:=104
theorem iv:aa.funcs[(104:Nat)]? =some Tryz.f104:=Tryz.func104
theorem lK:bh aa 104=true:=by kernel_rfl
abbrev AU:FuncId:=105
theorem zE:aa.funcs[(105:Nat)]? =some Tryz.f105:=Tryz.func105
theorem zR:bh aa 105=true:=by kernel_rfl
abbrev zy:FuncId:=106
theorem yG:aa.funcs[(106:Nat)]? =some Tryz.f106:=Tryz.func106
theorem rN:bh aa 106=true:=by kernel_rfl
abbrev Mf:FuncId:=107
theorem JD:aa.funcs[(107:Nat)]? =some Tryz.f107:=Tryz.func107
theorem xR:bh aa 107=true:=by kernel_rfl
abbrev EV:FuncId:=108
theorem JC:aa.funcs[(108:Nat)]? =some Tryz.f108:=Tryz.func108
theorem JQ:bh aa 108=true:=by kernel_rfl
abbrev CE:FuncId:=109
theorem AZ:aa.funcs[(109:Nat)]? =some Tryz.f109:=Tryz.func109
theorem pI:bh aa 109=true:=by kernel_rfl
abbrev CD:FuncId:=110
theorem HR:aa.funcs[(110:Nat)]? =some Tryz.f110:=Tryz.func110
theorem Ir:bh aa 110=true:=by kernel_rfl
abbrev F5:FuncId:=113
theorem DX:aa.funcs[(113:Nat)]? =some Tryz.f113:=Tryz.func113
theorem gE:bh aa 113=true:=by kernel_rfl
abbrev tM:FuncId:=115
theorem sm:aa.funcs[(115:Nat)]? =some Tryz.f115:=Tryz.func115
theorem iy:bh aa 115=true:=by kernel_rfl
abbrev qB:FuncId:=116
theorem qb:aa.funcs[(116:Nat)]? =some Tryz.f116:=Tryz.func116
theorem fP:bh aa 116=true:=by kernel_rfl
abbrev nM:FuncId:=117
theorem nw:aa.funcs[(117:Nat)]? =some Tryz.f117:=Tryz.func117
theorem fb:bh aa 117=true:=by kernel_rfl
abbrev F8:FuncId:=118
theorem D0:aa.funcs[(118:Nat)]? =some Tryz.f118:=Tryz.func118
theorem sF:bh aa 118=true:=by kernel_rfl
abbrev p7:FuncId:=119
theorem pG:aa.funcs[(119:Nat)]? =some Tryz.f119:=Tryz.func119
theorem dG:bh aa 119=true:=by kernel_rfl
abbrev hM:FuncId:=120
theorem zG:aa.funcs[(120:Nat)]? =some Tryz.f120:=Tryz.func120
theorem iE:bh aa 120=true:=by kernel_rfl
abbrev rY:FuncId:=121
theorem re:aa.funcs[(121:Nat)]? =some Tryz.f121:=Tryz.func121
theorem iV:bh aa 121=true:=by kernel_rfl
abbrev CG:FuncId:=122
theorem Bb:aa.funcs[(122:Nat)]? =some Tryz.f122:=Tryz.func122
theorem uo:bh aa 122=true:=by kernel_rfl
abbrev HH:FuncId:=123
theorem Gm:aa.funcs[(123:Nat)]? =some Tryz.f123:=Tryz.func123
theorem GC:bh aa 123=true:=by kernel_rfl
abbrev nN:FuncId:=124
theorem ny:aa.funcs[(124:Nat)]? =some Tryz.f124:=Tryz.func124
theorem nA:bh aa 124=true:=by kernel_rfl
abbrev s6:FuncId:=125
theorem yI:aa.funcs[(125:Nat)]? =some Tryz.f125:=Tryz.func125
theorem yW:bh aa 125=true:=by kernel_rfl
abbrev DI:FuncId:=126
theorem CN:aa.funcs[(126:Nat)]? =some Tryz.f126:=Tryz.func126
theorem vE:bh aa 126=true:=by kernel_rfl
abbrev qC:FuncId:=127
theorem qc:aa.funcs[(127:Nat)]? =some Tryz.f127:=Tryz.func127
theorem fQ:bh aa 127=true:=by kernel_rfl
abbrev CH:FuncId:=128
theorem Bc:aa.funcs[(128:Nat)]? =some Tryz.f128:=Tryz.func128
theorem Bm:bh aa 128=true:=by kernel_rfl
abbrev xH:FuncId:=129
theorem wH:aa.funcs[(129:Nat)]? =some Tryz.f129:=Tryz.func129
theorem wJ:bh aa 129=true:=by kernel_rfl
abbrev sY:FuncId:=130
theorem si:aa.funcs[(130:Nat)]? =some Tryz.f130:=Tryz.func130
theorem lL:bh aa 130=true:=by kernel_rfl
abbrev F4:FuncId:=131
theorem DW:aa.funcs[(131:Nat)]? =some Tryz.f131:=Tryz.func131
theorem xg:bh aa 131=true:=by kernel_rfl
abbrev lu:FuncId:=132
theorem kX:aa.funcs[(132:Nat)]? =some Tryz.f132:=Tryz.func132
theorem lf:bh aa 132=true:=by kernel_rfl
abbrev s5:FuncId:=133
theorem yH:aa.funcs[(133:Nat)]? =some Tryz.f133:=Tryz.func133
theorem yU:bh aa 133=true:=by kernel_rfl
abbrev oJ:FuncId:=134
theorem nT:aa.funcs[(134:Nat)]? =some Tryz.f134:=Tryz.func134
theorem oa:bh aa 134=true:=by kernel_rfl
abbrev oI:FuncId:=135
theorem nS:aa.funcs[(135:Nat)]? =some Tryz.f135:=Tryz.func135
theorem n9:bh aa 135=true:=by kernel_rfl
abbrev mH:FuncId:=136
theorem mc:aa.funcs[(136:Nat)]? =some Tryz.f136:=Tryz.func136
theorem dm:bh aa 136=true:=by kernel_rfl
abbrev CF:FuncId:=137
theorem Ba:aa.funcs[(137:Nat)]? =some Tryz.f137:=Tryz.func137
theorem Bl:bh aa 137=true:=by kernel_rfl
abbrev lT:FuncId:=138
theorem zC:aa.funcs[(138:Nat)]? =some Tryz.f138:=Tryz.func138
theorem ob:bh aa 138=true:=by kernel_rfl
abbrev sX:FuncId:=139
theorem sg:aa.funcs[(139:Nat)]? =some Tryz.f139:=Tryz.func139
theorem sB:bh aa 139=true:=by kernel_rfl
abbrev pD:FuncId:=140
abbrev m3:FuncId:=142
theorem mJ:aa.funcs[(142:Nat)]? =some Tryz.f142:=Tryz.func142
theorem iQ:bh aa 142=true:=by kernel_rfl
abbrev un:FuncId:=143
theorem zF:aa.funcs[(143:Nat)]? =some Tryz.f143:=Tryz.func143
theorem zS:bh aa 143=true:=by kernel_rfl
abbrev uA:FuncId:=144
abbrev DH:FuncId:=146
theorem CM:aa.funcs[(146:Nat)]? =some Tryz.f146:=Tryz.func146
theorem C9:bh aa 146=true:=by kernel_rfl
abbrev rZ:FuncId:=147
theorem rf:aa.funcs[(147:Nat)]? =some Tryz.f147:=Tryz.func147
theorem ro:bh aa 147=true:=by kernel_rfl
abbrev AV:FuncId:=148
theorem zH:aa.funcs[(148:Nat)]? =some Tryz.f148:=Tryz.func148
theorem zU:bh aa 148=true:=by kernel_rfl
abbrev um:FuncId:=149
theorem zB:aa.funcs[(149:Nat)]? =some Tryz.f149:=Tryz.func149
theorem zQ:bh aa 149=true:=by kernel_rfl
abbrev m1:FuncId:=150
theorem mI:aa.funcs[(150:Nat)]? =some Tryz.f150:=Tryz.func150
theorem mM:bh aa 150=true:=by kernel_rfl
abbrev yy:FuncId:=151
theorem xJ:aa.funcs[(151:Nat)]? =some Tryz.f151:=Tryz.func151
theorem xS:bh aa 151=true:=by kernel_rfl
abbrev oH:FuncId:=153
theorem nQ:aa.funcs[(153:Nat)]? =some Tryz.f153:=Tryz.func153
theorem n7:bh aa 153=true:=by kernel_rfl
abbrev qA:FuncId:=155
theorem qa:aa.funcs[(155:Nat)]? =some Tryz.f155:=Tryz.func155
theorem qh:bh aa 155=true:=by kernel_rfl
abbrev mG:FuncId:=158
theorem mb:aa.funcs[(158:Nat)]? =some Tryz.f158:=Tryz.func158
theorem mg:bh aa 158=true:=by kernel_rfl
end
structure cd where
 epoch:Int
 pid:Int
 ver:Int
 seq:Int
 kind:Int
 txn:Bool
 text:ByteArray
 deriving DecidableEq
def cd.c (e:cd):List Value:=[.int .i64 e.epoch,.int .i64 e.pid,.int .i64 e.ver,.int .i64 e.seq,.int .i64 e.kind,.bool e.txn,.string e.text]
abbrev cd.v (e:cd):Value:=.agg e.c.toArray
def gC:fu cd:=⟨cd.c,7,fun _=>rfl,by decide,fun a u hu=>by
 simp only[cd.c,ay,bu,or_false]at hu
 rcases hu with h|h|h|h|h|h|h<;>subst h<;>rfl⟩
def bR:fu Int:=⟨fun n=>[.int .i64 n],1,fun _=>rfl,by decide,fun a u hu=>by
 simp only[ay,bu,or_false]at hu
 subst hu;rfl⟩
def dQ:fu UInt8:=⟨fun n=>[.int .u8 n.toNat],1,fun _=>rfl,by decide,fun a u hu=>by
 simp only[ay,bu,or_false]at hu
 subst hu;rfl⟩
def nu:fu ByteArray:=⟨fun s=>[.string s],1,fun _=>rfl,by decide,fun a u hu=>by
 simp only[ay,bu,or_false]at hu
 subst hu;rfl⟩
def Ey:Nat->Nat->List UInt8->Nat
 |_,n,[]=>n
 |i,n,c::l=>Ey (i+1) ((n+(i+1)*c.toNat)%65521) l
def mV (l:List UInt8):Nat:=Ey 0 0 l
theorem GV: ∀ (l:List UInt8) (i n:Nat),n<65521->Ey i n l<65521
 |[],_,_,h=>h
 |_::l,i,_,_=>GV l (i+1) _ (jU _ (by decide))
theorem Fv (l:List UInt8):mV l<65521:=GV l 0 0 (by decide)
theorem Nk (l:List UInt8) (A:Option Addr) (c:Nat) (w:World) (hr:Rd dQ 0 w.heap.size A l w) (hb:l.length<=1000000000000000):
  di aa Jv [.slice A l.length c] w fun v w2=>v=J (mV l:Nat)/\Below w.heap.size w w2:=by
 refine aG HQ Z Z ?_
 have H:=Hp.start w
 refine W ?_
 refine Zr ?_
 refine pK Z Z ?_
 refine U<|W ?_
 refine Zr ?_
 refine pK Z Z ?_
 refine U<|W<|W ?_
 refine Zr ?_
 refine mO Z Z ?_
 refine wA eY Z Z ?_
 refine iN Z Z ?_
 refine U<|Zb ?_
 refine bV (τ:=Nat×Nat) [3,4,5,8,9,10,11,12,13,14,15,16,17,18,19,20,21] (fun x=>[(3,J x.1),(8,J x.2)]) (fun x w'=>x.1<65521/\x.2<=l.length/\Hp w w' [] []/\Ey x.2 x.1 (l.drop x.2)=mV l) (fun x=>l.length-x.2) (0,0) ⟨by decide,by simp,H,rfl⟩ (jT Z Z) ?_
 rintro⟨m,k⟩ ρ1 w1 ⟨hm,hk,H,hs⟩
 show CW _ _ _ _ (dO (ij _ _ ρ1) [(3,J (m:Nat)),(8,J (k:Nat))]) w1
 refine W ?_
 refine Zr ?_
 refine Jm Z Z Z (fun h9=> ?_) (fun h9=> ?_)
 all_goals refine nL ?_
 all_goals refine C6 ?_
 ·refine qg Z ?_
  refine Zk ?_
  have hkl:k<l.length:=by omega
  obtain⟨b,o,rfl,-,hbl,hcl⟩:=hr.at_ hkl
  have hd:l.drop k=l[k]::l.drop (k+1):=nn hkl
  have h256:l[k].toNat<256:=UInt8.toNat_lt _
  generalize hc:l[k]=x at*
  have hmul:(k+1)*x.toNat<=(k+1)*256:=Nat.mul_le_mul_left _ I
  have hmul2:((k:Int)+1)*(x.toNat:Int)=(((k+1)*x.toNat:Nat):Int):=by simp
  refine W<|Zb<|W ?_
  refine Zr ?_
  refine iN Z Z ?_
  refine SK eJ Z Z I I Z ?_
  refine ld mZ Z ((H.below.cell (p:=⟨b,_,none⟩) hbl).trans (hcl 0 _ Z)) Z ?_
  refine pK Z Z ?_
  refine pK Z Z ?_
  refine U ?_
  refine Zr ?_
  refine iN Z Z ?_
  refine iN Z Z ?_
  refine add Z Z I I Z ?_
  refine iN Z Z ?_
  refine Q8 iH iK Z (wN I) Z ?_
  refine mul Z Z I I Z ?_
  refine add Z Z I I Z ?_
  refine rem Z Z I I Z ?_
  refine pK Z Z ?_
  refine U ?_
  refine Zr ?_
  refine add Z Z I I Z ?_
  refine iN Z Z ?_
  refine U ?_
  refine⟨((m+(k+1)*x.toNat)%65521,k+1),⟨jU _ (by decide),by omega,H,?_⟩,?_,by repeat (first|exact nj|refine lV Z ?_|refine jZ _ Z ?_),by show l.length- (k+1)<l.length-k;omega⟩
  ·rw[<-hs,hd,Ey]
  ·intro p hp
   simp only[ay,bu,or_false]at hp
   rcases hp with rfl|rfl
   ·show Value.int .i64 _=Value.int .i64 _
    congr 1
   ·rfl
 ·refine oY Z ?_
  refine Zx ?_
  have hkl:k=l.length:=by omega
  subst hkl
  simp only[kk,Ey]at hs
  subst hs
  refine W ?_
  refine Zr ?_
  refine iN Z Z ?_
  refine pK Z Z ?_
  refine U<|Zt ?_
  exact cU Z Z ⟨rfl,H.below⟩
/-- a number in as few bytes as may be -/
def AR (n:Nat):List UInt8:=if h:n<=127 then [UInt8.ofNat n]else UInt8.ofNat (n%128+128)::AR (n/128)
termination_by n
decreasing_by omega
theorem v9 {n:Nat} (h:n<=127):AR n=[UInt8.ofNat n]:=by rw[AR,dif_pos h]
theorem FL {n:Nat} (h:127<n):AR n=UInt8.ofNat (n%128+128)::AR (n/128):=by rw[AR,dif_neg I]
theorem PC (n:Nat):n&&&127=n%128:=Nat.and_two_pow_sub_one_eq_mod n 7
theorem SX (n:Nat) (h:n<128):n|||128=n+128:=by
 have:=tr (i:=7) (b:=n) (by simpa using h) 1
 rw[Nat.or_comm];simp at this;omega
theorem SI (n:Nat) (h:n<256):((UInt8.ofNat n).toNat:Int)=n:=by
 simp[hZ h]
theorem Kp: ∀ (k n:Nat),n<128 ^ k->(AR n).length<=max k 1
 |0,n,h=>by
  have:n=0:=by simpa using h
  subst this;rw[v9 I];simp
 |k+1,n,h=>by
  by_cases hn:n<=127
  rw[v9 hn];simp
  have:=Kp k (n/128) (by rw[Nat.pow_succ]at h;exact AI I)
  rw[FL I]
  simp only[bf]
  have hk:k≠0:=by
   rintro rfl
   simp at h;omega
  omega
theorem LK {w0 w:World} {F:List cf} {K M L:List (Nat×Obj)} {es:List UInt8} {A:Option Addr} {c:Nat} (n:Nat) (H:Hp w0 w (K++L++M) F) (ho:gb dQ (.slice A es.length c) nk es L) (hn:n<4611686018427387904) (hb:es.length+n<140737488355328):
  di aa DH [.slice A es.length c,J n] w fun v w2=> ∃ A' c' L',v=.slice A' (es++AR n).length c'/\gb dQ (.slice A' (es++AR n).length c') nk (es++AR n) L'/\Hp w0 w2 (K++L'++M) F:=by
 refine aG CM Z Z ?_
 refine W ?_
 refine Zr ?_
 refine wK Z Z ?_
 refine U<|W<|Zb ?_
 refine bV (τ:=Option Addr×Nat×List UInt8×Nat) [0,1,5,6,7,8,9,10,11,12,13,15,14] (fun(A,c,l,m)=>[(0,.slice A l.length c),(1,J m)])
  (fun(A,c,l,m) w'=>m<4611686018427387904/\l.length+m<140737488355328/\l++AR m=es++AR n/\ ∃ L',gb dQ (.slice A l.length c) nk l L'/\Hp w0 w' (K++L'++M) F) (fun(_,_,_,m)=>m) (A,c,es,n) ⟨hn,hb,rfl,L,ho,H⟩ (jT Z Z) ?_
 rintro⟨A1,c1,l,m⟩ ρ1 w1 ⟨hm,hb1,hl,L1,ho1,H1⟩
 show CW _ _ _ _ (dO (ij _ _ ρ1) [(0,.slice A1 l.length c1),(1,J (m:Nat))]) w1
 refine W<|W ?_
 refine Zr ?_
 refine iN Z Z ?_
 refine Mh Z Z Z (fun h6=> ?_) (fun h6=> ?_)
 all_goals refine nL ?_
 ·refine qg Z ?_
  refine Zk ?_
  have hmod:m%128<128:=jU _ (by decide)
  refine Zb<|W ?_
  refine Zr ?_
  refine mO Z Z ?_
  refine iN Z Z ?_
  refine G (RM (b:=127) Z Z I I) ?_
  rw[PC]
  refine G (Qt (b:=128) Z Z I I) ?_
  rw[SX _ hmod]
  refine Q8 iK iH Z (Ei I) Z ?_
  refine sK (vs:=[.int .u8 _]) H1 eJ BL Z Z Z Z Z Z ?_;intro w2 b12 H2
  refine uO (Y:=dQ) pf (K:=(b12,_)::K) (L:=L1) (M:=M) H2 ho1 (news:=[UInt8.ofNat (m%128+128)]) Z Z Z ?_ ?_ Z ?_
  ·have:=wL.row (m:=1) (sz:=1) (H2.ent (i:=0) Z) Z
   have e:dQ.all [UInt8.ofNat (m%128+128)]=[.int .u8 ((m%128+128:Nat):Int)]:=by
    show [Value.int .u8 _]=_
    rw[SI _ I]
   rw[e]
   exact this
  ·simp only[bv];omega
  intro A3 c3 w3 L3 _ _ ho3 H3
  refine wK Z Z ?_
  refine U ?_
  refine Zr ?_
  refine iN Z Z ?_
  refine G (Rx (b:=7) Z Z I) ?_
  refine pK Z Z ?_
  refine U ?_
  refine⟨(A3,c3,l++[UInt8.ofNat (m%128+128)],m/2 ^ 7),⟨by omega,by simp;omega,?_,L3,ho3,H3.forget (by simp) (fun _ h=>h)⟩,jT Z Z,by repeat (first|exact nj|refine lV Z ?_|refine jZ _ Z ?_),by show m/2 ^ 7<m;omega⟩
  rw[<-hl,FL (n:=m) I];simp
 ·refine oY Z ?_
  refine Zx<|W ?_
  refine Zr ?_
  refine mO Z Z ?_
  refine iN Z Z ?_
  refine Q8 iK iH Z (Ei I) Z ?_
  refine sK (vs:=[.int .u8 _]) H1 eJ BL Z Z Z Z Z Z ?_;intro w2 b19 H2
  refine uO (Y:=dQ) pf (K:=(b19,_)::K) (L:=L1) (M:=M) H2 ho1 (news:=[UInt8.ofNat m]) Z Z Z ?_ ?_ Z ?_
  ·have:=wL.row (m:=1) (sz:=1) (H2.ent (i:=0) Z) Z
   have e:dQ.all [UInt8.ofNat m]=[.int .u8 (m:Int)]:=by
    show [Value.int .u8 _]=_
    rw[SI _ I]
   rw[e]
   exact this
  ·simp only[bv];omega
  intro A3 c3 w3 L3 _ _ ho3 H3
  refine wK Z Z ?_
  refine U<|Zt ?_
  rw[v9 I]at hl
  rw[hl]at ho3
  refine cU Z (v:=.slice A3 (es++AR n).length c3) (by rw[<-hl];rfl) ⟨A3,c3,L3,rfl,ho3,H3.forget (by simp) (fun _ h=>h)⟩
def iu (n:Int):Bool:=decide (0<=n)&&decide (n<=1073741824)
theorem wn {n:Int} (h:iu n=true):0<=n/\n<=1073741824:=by simpa [iu]using h
theorem QX {n:Int} (h: ¬ iu n=true):n<0∨1073741824<n:=by
 simp[iu]at h;omega
def cd.nums (e:cd):List Int:=[e.epoch,e.pid,e.ver,e.seq]
def cd.noForm (e:cd):Prop:=(e.kind≠1/\(e.pid=0∨e.txn=false∨e.seq≠0∨e.text≠⟨#[]⟩))∨(e.pid=0/\(e.txn=true∨0<e.ver+e.seq))
instance (e:cd):Decidable e.noForm:=by unfold cd.noForm;infer_instance
def eA (e:cd):Int:=
 if e.kind<1∨3<e.kind then 3
 else if¬ e.nums.all iu=true then 2
 else if 40<e.text.size then 1
 else if e.noForm then 4 else 0
theorem zc (e:cd) (w:World):di aa FW [e.v] w fun v w2=>v=J (eA e)/\Below w.heap.size w w2:=by
 refine aG DQ Z Z ?_
 have H:=Hp.start w
 refine W ?_
 refine Zr ?_
 refine gU H Z Z ?_;intro w1 b1 H
 refine pK Z Z ?_
 refine U<|W<|W ?_
 refine Zr ?_
 refine tq fh Z Z ?_
 refine xD H 0 al Z Z Z Z ?_
 refine Jm Z Z Z (fun h7=> ?_) (fun h7=> ?_)
 ·have hE:eA e=3:=by unfold eA;rw[if_pos (.inl h7)]
  refine Cd Z Z ?_
  iterate 3 refine sV Z Z Z ?_
  refine yn Z Z Z ?_
  refine U<|ZT Z<|W ?_
  refine Zr ?_
  refine pK Z Z ?_
  refine U<|Zt ?_
  exact cU (v:=J 3) Z Z ⟨by rw[hE],H.below⟩
 refine Cd Z Z ?_
 refine ZG ?_
 refine tq fh Z Z ?_
 refine ZG ?_
 refine xD H 0 al Z Z Z Z ?_
 refine ZG ?_
 refine Mh Z Z Z (fun h11=> ?_) (fun h11=> ?_)
 ·have hE:eA e=3:=by unfold eA;rw[if_pos (.inr h11)]
  refine tH Z Z Z ?_
  refine U<|ZT Z<|W ?_
  refine Zr ?_
  refine pK Z Z ?_
  refine U<|Zt ?_
  exact cU (v:=J 3) Z Z ⟨by rw[hE],H.below⟩
 refine tH Z Z Z ?_
 refine U<|ZF Z<|Zk ?_
 have hk0: ¬ (e.kind<1∨3<e.kind):=by omega
 refine W<|W ?_
 refine Zr ?_
 refine tq nY Z Z ?_
 refine xD H 0 al Z Z Z Z ?_
 refine tq ft Z Z ?_
 refine xD H 0 al Z Z Z Z ?_
 refine tq eO Z Z ?_
 refine xD H 0 al Z Z Z Z ?_
 refine tq fi Z Z ?_
 refine xD H 0 al Z Z Z Z ?_
 refine sK (vs:=[J _,J _,J _,J _]) H bj Eh Z Z Z Z Z Z ?_;intro w2 b21 H
 refine wA fp Z Z ?_
 refine iN Z Z ?_
 refine U<|Zb ?_
 have hns: ∀ k,k<4->(rF [J e.epoch,J e.pid,J e.ver,J e.seq]).toArray[0+k*1]? =some (J (e.nums.getD k 0)):=by
  intro k hk
  have:k=0∨k=1∨k=2∨k=3:=by omega
  rcases this with rfl|rfl|rfl|rfl<;>rfl
 have hmem: ∀ k,k<4->e.nums.getD k 0∈e.nums:=by
  intro k hk
  have:k=0∨k=1∨k=2∨k=3:=by omega
  rcases this with rfl|rfl|rfl|rfl<;>simp[cd.nums]
 refine bV (τ:=Nat) [4,23,24,25,26,27,28,29,30,31,32,33,2] (fun k=>[(23,J k)]) (fun k w'=>k<=4/\(∀ j,j<k->(e.nums.getD j 0|>iu)=true)/\Hp w w' [(b21,_),(b1,_)] []) (fun k=>4-k) 0 ⟨by omega,by simp,H⟩ (ef Z) ?_
 rintro k ρ1 w1 ⟨hk4,hgood,H⟩
 refine W ?_
 refine Zr ?_
 refine Jm Z Z Z (fun h24=> ?_) (fun h24=> ?_)
 all_goals refine nL ?_
 all_goals refine C6 ?_
 ·refine qg Z ?_
  refine Zk ?_
  have hk:k<4:=by omega
  have hns:=hns k hk
  have hm:=hmem k hk
  generalize hx:e.nums.getD k 0=x at hns hm
  refine W<|Zb<|W ?_
  refine Zr ?_
  refine SK bj Z Z I I Z ?_
  refine xD H 0 al Z Z hns Z ?_
  refine pK Z Z ?_
  refine U<|W ?_
  refine Zr ?_
  refine iN Z Z ?_
  by_cases hin:iu x=true
  ·obtain⟨h0,h1⟩:=wn hin
   refine Se Z Z I Z ?_
   refine Cd Z Z ?_
   refine ZG ?_
   refine iN Z Z ?_
   refine ZG ?_
   refine Sk Z Z I Z ?_
   refine tH Z Z Z ?_
   refine U<|ZF Z<|Zk ?_
   refine Zr ?_
   refine add Z Z I I Z ?_
   refine iN Z Z ?_
   refine U ?_
   refine⟨k+1,⟨by omega,fun j hj=> ?_,H⟩,ef Z,by repeat (first|exact nj|refine lV Z ?_|refine jZ _ Z ?_),by show 4- (k+1)<4-k;omega⟩
   by_cases hjk:j=k
   ·subst hjk;rw[hx];exact hin
   ·exact hgood j I
  ·have hE:eA e=2:=by
    unfold eA
    rw[if_neg hk0,if_pos]
    intro ha
    exact hin (eD.1 ha x hm)
   have hbad:=QX hin
   by_cases h0:x<0
   ·refine SZ Z Z h0 Z ?_
    refine Cd Z Z ?_
    iterate 2 refine sV Z Z Z ?_
    refine yn Z Z Z ?_
    refine U<|ZT Z<|W ?_
    refine Zr ?_
    refine pK Z Z ?_
    refine U<|Zt ?_
    exact cU (v:=J 2) Z Z ⟨by rw[hE],H.below⟩
   ·refine Se Z Z h0 Z ?_
    refine Cd Z Z ?_
    refine ZG ?_
    refine iN Z Z ?_
    refine ZG ?_
    refine Sj Z Z I Z ?_
    refine tH Z Z Z ?_
    refine U<|ZT Z<|W ?_
    refine Zr ?_
    refine pK Z Z ?_
    refine U<|Zt ?_
    exact cU (v:=J 2) Z Z ⟨by rw[hE],H.below⟩
 ·refine oY Z ?_
  refine Zx ?_
  have hk:k=4:=by omega
  subst hk
  have hall:e.nums.all iu=true:=by
   have g0:=hgood 0 I
   have g1:=hgood 1 I
   have g2:=hgood 2 I
   have g3:=hgood 3 I
   simp only[cd.nums,List.getD_cons_zero,List.getD_cons_succ]at g0 g1 g2 g3
   simp[cd.nums,g0,g1,g2,g3]
  have hv:=wn (eD.1 hall e.ver (by simp[cd.nums]))
  have hs:=wn (eD.1 hall e.seq (by simp[cd.nums]))
  refine W<|W ?_
  refine Zr ?_
  refine tq qK Z Z ?_
  refine xD H 1 aY Z Z Z Z ?_
  refine TF jf Z Z ?_
  refine Mh Z Z Z (fun h37=> ?_) (fun h37=> ?_)
  all_goals refine nL ?_
  ·refine qg Z ?_
   refine W ?_
   refine Zr ?_
   refine pK Z Z ?_
   refine U<|Zt ?_
   have hE:eA e=1:=by
    unfold eA
    rw[if_neg hk0,if_neg (by simpa using hall),if_pos I]
   exact cU (v:=J 1) Z Z ⟨by rw[hE],H.below⟩
  refine ZF Z<|Zk ?_
  have hE:eA e=if e.noForm then 4 else 0:=by
   unfold eA
   rw[if_neg hk0,if_neg (by simpa using hall),if_neg I]
  refine W<|W ?_
  refine Zr ?_
  by_cases hx:e.text=⟨#[]⟩
  all_goals cases ht:e.txn
  all_goals (have h5:e.c.toArray[0+5]? =some (.bool e.txn):=rfl;rw[ht]at h5)
  all_goals (refine tq fh Z Z ?_)
  all_goals (refine xD H 1 al Z Z Z Z ?_)
  all_goals (refine SY Z Z Z (fun _=> ?_) (fun _=> ?_))
  all_goals (refine Cd Z Z ?_)
  all_goals first|refine sV Z Z Z ?_|(refine vd Z ?_;(refine tq ft Z Z ?_))
  all_goals first|refine sV Z Z Z ?_|(refine vd Z ?_;(refine xD H 1 al Z Z Z Z ?_))
  all_goals first|refine sV Z Z Z ?_|(refine vd Z ?_;(refine O2 Z Z Z (fun _=> ?_) (fun _=> ?_)))
  all_goals first|refine sV Z Z Z ?_|(refine vd Z ?_;(refine Cd Z Z ?_))
  all_goals first|refine sV Z Z Z ?_|(refine vd Z ?_;(refine tq jk Z Z ?_))
  all_goals first|refine sV Z Z Z ?_|(refine vd Z ?_;(refine xD H 1 eP Z Z h5 Z ?_))
  all_goals first|refine sV Z Z Z ?_|(refine vd Z ?_;(refine not Z Z ?_))
  all_goals first|refine sV Z Z Z ?_|(refine vd Z ?_;(first|refine yn Z Z Z ?_|refine tH Z Z Z ?_))
  all_goals first|refine sV Z Z Z ?_|(refine vd Z ?_;(refine Cd Z Z ?_))
  all_goals first|refine sV Z Z Z ?_|(refine vd Z ?_;(refine tq fi Z Z ?_))
  all_goals first|refine sV Z Z Z ?_|(refine vd Z ?_;(refine xD H 1 al Z Z Z Z ?_))
  all_goals first|refine sV Z Z Z ?_|(refine vd Z ?_;(refine SY Z Z Z (fun _=> ?_) (fun _=> ?_)))
  all_goals first|refine sV Z Z Z ?_|(refine vd Z ?_;(first|refine yn Z Z Z ?_|refine tH Z Z Z ?_))
  all_goals first|refine sV Z Z Z ?_|(refine vd Z ?_;(refine Cd Z Z ?_))
  all_goals first|refine sV Z Z Z ?_|(refine vd Z ?_;(refine tq qK Z Z ?_))
  all_goals first|refine sV Z Z Z ?_|(refine vd Z ?_;(refine xD H 1 aY Z Z Z Z ?_))
  all_goals first|refine sV Z Z Z ?_|(refine vd Z ?_;(first|refine l1 (P4 Z Z hx) Z Z Z ?_|refine l1 (P6 Z Z hx) Z Z Z ?_))
  all_goals first|refine sV Z Z Z ?_|(refine vd Z ?_;(first|refine yn Z Z Z ?_|refine tH Z Z Z ?_))
  all_goals (first|refine yn Z Z Z ?_|refine tH Z Z Z ?_)
  all_goals (refine Cd Z Z ?_)
  all_goals first|refine sV Z Z Z ?_|(refine vd Z ?_;(refine tq ft Z Z ?_))
  all_goals first|refine sV Z Z Z ?_|(refine vd Z ?_;(refine xD H 1 al Z Z Z Z ?_))
  all_goals first|refine sV Z Z Z ?_|(refine vd Z ?_;(refine O2 Z Z Z (fun _=> ?_) (fun _=> ?_)))
  all_goals first|refine sV Z Z Z ?_|(refine vd Z ?_;(refine Cd Z Z ?_))
  all_goals first|refine sV Z Z Z ?_|(refine vd Z ?_;(refine tq jk Z Z ?_))
  all_goals first|refine sV Z Z Z ?_|(refine vd Z ?_;(refine xD H 1 eP Z Z h5 Z ?_))
  all_goals first|refine sV Z Z Z ?_|(refine vd Z ?_;(refine Cd Z Z ?_))
  all_goals first|refine sV Z Z Z ?_|(refine vd Z ?_;(refine tq eO Z Z ?_))
  all_goals first|refine sV Z Z Z ?_|(refine vd Z ?_;(refine xD H 1 al Z Z Z Z ?_))
  all_goals first|refine sV Z Z Z ?_|(refine vd Z ?_;(refine tq fi Z Z ?_))
  all_goals first|refine sV Z Z Z ?_|(refine vd Z ?_;(refine xD H 1 al Z Z Z Z ?_))
  all_goals first|refine sV Z Z Z ?_|(refine vd Z ?_;(refine add Z Z I I Z ?_))
  all_goals first|refine sV Z Z Z ?_|(refine vd Z ?_;(refine Mh Z Z Z (fun _=> ?_) (fun _=> ?_)))
  all_goals first|refine sV Z Z Z ?_|(refine vd Z ?_;(first|refine yn Z Z Z ?_|refine tH Z Z Z ?_))
  all_goals first|refine sV Z Z Z ?_|(refine vd Z ?_;(first|refine yn Z Z Z ?_|refine tH Z Z Z ?_))
  all_goals (first|refine yn Z Z Z ?_|refine tH Z Z Z ?_)
  all_goals refine nL ?_
  all_goals first
   |(
     refine qg Z ?_
     refine W ?_
     refine Zr ?_
     refine pK Z Z<|U<|Zt ?_
     exact cU (v:=J 4) Z Z ⟨by rw[hE,if_pos (by simp[cd.noForm, *])],H.below⟩)
   |(
     refine oY Z ?_
     refine Zk<|W ?_
     refine Zr ?_
     refine pK Z Z<|U<|Zt ?_
     exact cU (v:=J 0) Z Z ⟨by rw[hE,if_neg (by simp[cd.noForm, *]<;>omega)],H.below⟩)
def oF (e:cd):UInt8:=UInt8.ofNat (e.kind.toNat+if e.txn then 16 else 0)
def oE (l:List Int):List UInt8:=l.flatMap fun n=>AR n.toNat
def eV (e:cd):List UInt8:=oF e::oE e.nums++e.text.data.toList
def mL (e:cd):List UInt8:=UInt8.ofNat (eV e).length::eV e++[UInt8.ofNat (mV (eV e)/256),UInt8.ofNat (mV (eV e)%256)]
theorem RP (n:Nat):IntKind.u8.wrap (n:Int)=(n%256:Nat):=by
 simp[IntKind.wrap,IntKind.signed,IntKind.bits]
theorem Te (s:ByteArray):dQ.all s.data.toList=Lib.strCells s:=by
 unfold fu.all Lib.strCells
 show List.flatMap (fun n:UInt8=>[Value.int .u8 n.toNat]) _=_
 induction s.data.toList with
 |nil=>rfl
 |cons a l ih=>simp only[gy,dB,ih];rfl
theorem rJ {e:cd} (h:eA e=0):1<=e.kind/\e.kind<=3/\(∀ n∈e.nums,0<=n/\n<=1073741824)/\e.text.size<=40/\ ¬ e.noForm:=by
 unfold eA at h
 split at h;· omega
 split at h;· omega
 split at h;· omega
 split at h;· omega
 rename_i h1 h2 h3 h4
 refine⟨by omega,by omega,fun n hn=> ?_,by omega,h4⟩
 have:=eD.1 (Classical.not_not.1 h2) n hn
 exact wn this
theorem zr: ∀ (l:List Int),(∀ n∈l,0<=n/\n<=1073741824)->(oE l).length<=5*l.length
 |[],_=>by simp[oE]
 |n::l,h=>by
  have h1:=zr l fun m hm=>h m (aj _ hm)
  have h2:=h n (aA ..)
  have h3:=Kp 5 n.toNat I
  simp only[oE,gy,av,bf]at*
  omega
theorem zV {e:cd} (h:eA e=0):(eV e).length<=61/\0<(eV e).length:=by
 obtain⟨_,_,h3,h4,_⟩:=rJ h
 have:=zr _ h3
 have hs:e.text.data.toList.length=e.text.size:=by rw[ch];rfl
 simp only[eV,av,bf,hs]
 have h4':e.nums.length=4:=rfl
 omega
theorem E2 (e:cd) (w:World) (h:eA e=0):di aa DI [e.v] w fun v w2=> ∃ A c,v=.tuple #[.slice A (mL e).length c,J 0]/\Rd dQ w.heap.size w2.heap.size A (mL e) w2/\(mL e).length<=c/\Below w.heap.size w w2:=by
 obtain⟨hk1,hk3,hnn,htx,-⟩:=rJ h
 obtain⟨hl61,hl0⟩:=zV h
 refine aG CN Z Z ?_
 have H:=Hp.start w
 refine W ?_
 refine Zr ?_
 refine gU H Z Z ?_;intro w1 b1 H
 refine wK Z Z ?_
 refine pK Z Z ?_
 refine U<|W<|W ?_
 refine Zr ?_
 refine TX H 0 dJ Z Z Z Z ?_
 refine cE sy (zc e _) Z Z ?_;rintro _ w2 ⟨rfl,hb2⟩;replace H:=H.later hb2
 refine pK Z Z ?_
 refine U<|W ?_
 refine Zr ?_
 refine iN Z Z ?_
 refine G (cj Z Z h)<|U<|ZF Z<|Zk<|W ?_
 refine Zr ?_
 refine tq fh Z Z ?_
 refine xD H 0 al Z Z Z Z ?_
 refine pK Z Z ?_
 refine U<|W ?_
 obtain⟨k,hk⟩: ∃ k:Nat,e.kind=k:=⟨e.kind.toNat,by omega⟩
 have hkB:oF e=UInt8.ofNat (k+if e.txn then 16 else 0):=by unfold oF;rw[hk];rfl
 refine gp (τ:=Unit) [17,18,19,20,5] (fun _=>[(5,J (k+if e.txn then 16 else 0:Nat))]) (fun _ w'=>Hp w w' [(b1,.cells e.c.toArray dy)] []) ?_ ?_
 ·refine C6 ?_
  refine Zr ?_
  refine tq jk Z Z ?_
  refine xD H 0 eP Z Z Z Z ?_
  refine U ?_
  refine qL (b:=e.txn) Z (fun ht=> ?_) (fun ht=> ?_)
  ·refine MC ?_
   refine iN Z Z ?_
   have h16:k|||16=k+16:=by
    have:k=1∨k=2∨k=3:=by omega
    rcases this with rfl|rfl|rfl<;>rfl
   rw[hk]
   refine G (Qt (a:=k) (b:=16) Z Z I I) ?_
   rw[h16]
   refine pK Z Z ?_
   refine U ?_
   refine⟨(),H,ef (by rw[ht];rfl),by repeat (first|exact GM.refl _ _|exact nj|refine lV Z ?_|refine jZ _ Z ?_)⟩
  ·refine Q6 ?_
   rw[hk]
   refine⟨(),H,ef (by rw[ht];rfl),by repeat (first|exact GM.refl _ _|exact nj|refine lV Z ?_|refine jZ _ Z ?_)⟩
 rintro _ ρ1 w3 H
 show CW _ _ _ _ (dO (ij _ _ ρ1) [(5,J (k+if e.txn then 16 else 0:Nat))]) w3
 have hk19:(k+if e.txn then 16 else 0)<256:=by split<;>omega
 refine W ?_
 refine Zr ?_
 refine iN Z Z ?_
 refine Q8 iK iH Z (Ei hk19) Z ?_
 refine sK (vs:=[.int .u8 _]) H eJ BL Z Z Z Z Z Z ?_;intro w4 b23 H
 refine wK Z Z ?_
 refine U ?_
 replace H:=H.swap
 have ho:gb dQ (.slice (Qd b23) 1 1) nk [oF e] [(b23,.cells (rF [.int .u8 (k+if e.txn then 16 else 0:Nat)]).toArray nk)]:=by
  have e1:dQ.all [oF e]=(rF [.int .u8 (k+if e.txn then 16 else 0:Nat)]).toArray.toList:=by
   show [Value.int .u8 _]=_
   rw[hkB,SI _ hk19]
   rfl
  unfold gb
  rw[e1]
  exact sI.lit (n:=1) (by decide) Z
 refine W<|W ?_
 refine Zr ?_
 refine tq nY Z Z ?_
 refine xD H 0 al Z Z Z Z ?_
 refine tq ft Z Z ?_
 refine xD H 0 al Z Z Z Z ?_
 refine tq eO Z Z ?_
 refine xD H 0 al Z Z Z Z ?_
 refine tq fi Z Z ?_
 refine xD H 0 al Z Z Z Z ?_
 refine sK (vs:=[J _,J _,J _,J _]) H bj Eh Z Z Z Z Z Z ?_;intro w5 b32 H
 refine wA fp Z Z ?_
 refine iN Z Z ?_
 refine U<|Zb ?_
 have hns: ∀ k,k<4->(rF [J e.epoch,J e.pid,J e.ver,J e.seq]).toArray[0+k*1]? =some (J (e.nums.getD k 0)):=by
  intro k hk
  have:k=0∨k=1∨k=2∨k=3:=by omega
  rcases this with rfl|rfl|rfl|rfl<;>rfl
 have hmem: ∀ k,k<4->e.nums.getD k 0∈e.nums:=by
  intro k hk
  have:k=0∨k=1∨k=2∨k=3:=by omega
  rcases this with rfl|rfl|rfl|rfl<;>simp[cd.nums]
 have hstep: ∀ k,k<4->e.nums.take (k+1)=e.nums.take k++[e.nums.getD k 0]:=by
  intro k hk
  have:k=0∨k=1∨k=2∨k=3:=by omega
  rcases this with rfl|rfl|rfl|rfl<;>rfl
 have hnlen: ∀ k,k<=4->(oE (e.nums.take k)).length<=20:=by
  intro k hk
  have:=zr (e.nums.take k) fun n hn=>hnn n (AL hn)
  have h2:(e.nums.take k).length<=4:=by simp[cd.nums];omega
  omega
 refine bV (τ:=Nat×Option Addr×Nat) [6,8,34,35,36,37,38,39,40,41] (fun(k,A,c)=>[(6,.slice A (oF e::oE (e.nums.take k)).length c),(34,J k)])
  (fun(k,A,c) w'=>k<=4/\ ∃ L',gb dQ (.slice A (oF e::oE (e.nums.take k)).length c) nk (oF e::oE (e.nums.take k)) L'/\Hp w w' ([(b32,.cells (rF [J e.epoch,J e.pid,J e.ver,J e.seq]).toArray cM),(b1,.cells e.c.toArray dy)]++L'++[]) []) (fun(k,_,_)=>4-k) (0,_,1) ⟨by omega,_,ho,H⟩ (jT Z Z) ?_
 rintro⟨j,A1,c1⟩ ρ1 w1 ⟨hj4,L1,ho,H⟩
 show CW _ _ _ _ (dO (ij _ _ ρ1) [(6,.slice A1 (oF e::oE (e.nums.take j)).length c1),(34,J j)]) w1
 refine W ?_
 refine Zr ?_
 refine Jm Z Z Z (fun h35=> ?_) (fun h35=> ?_)
 all_goals refine nL ?_
 all_goals refine C6 ?_
 ·refine qg Z ?_
  refine Zk ?_
  have hj:j<4:=by omega
  have hns:=hns j hj
  obtain⟨hm0,hm1⟩:=hnn _ (hmem j hj)
  have hstep:=hstep j hj
  have hnl:=hnlen j hj4
  generalize e.nums.getD j 0=x at*
  obtain⟨m,rfl⟩: ∃ m:Nat,x=m:=⟨x.toNat,by omega⟩
  refine W<|Zb<|W ?_
  refine Zr ?_
  refine SK bj Z Z I I Z ?_
  refine xD H 0 al Z Z hns Z ?_
  refine pK Z Z ?_
  refine U ?_
  refine Zr ?_
  refine mO Z Z ?_
  refine iN Z Z ?_
  refine cE C9 (LK m H ho I (by simp only[bf];omega)) Z Z ?_;rintro _ w5 ⟨A2,c2,L2,rfl,ho2,H2⟩
  refine wK Z Z ?_
  refine U ?_
  refine Zr ?_
  refine add Z Z I I Z ?_
  refine iN Z Z ?_
  refine U ?_
  have hnx:oF e::oE (e.nums.take (j+1))=oF e::oE (e.nums.take j)++AR m:=by
   rw[hstep];simp[oE]
  rw[<-hnx]at ho2
  refine⟨(j+1,A2,c2),⟨by omega,L2,ho2,H2⟩,jT (by rw[hnx];rfl) Z,by repeat (first|exact nj|refine lV Z ?_|refine jZ _ Z ?_),by show 4- (j+1)<4-j;omega⟩
 ·refine oY Z ?_
  refine Zx ?_
  have hj:j=4:=by omega
  subst hj
  have h20:=hnlen 4 I
  have e4:e.nums.take 4=e.nums:=rfl
  rw[e4]at*
  have hne:oF e::oE e.nums≠[]:=by simp
  refine W ?_
  refine Zr ?_
  refine mO Z Z ?_
  refine tq qK Z Z ?_
  refine xD H 1 aY Z Z Z Z ?_
  refine UA (Y:=dQ) pf jf Z Te H ho hne Z Z (by simp only[bf];omega) Z ?_
  intro A2 c2 w2 L2 hc1 hc2 ho H
  refine wK Z Z ?_
  refine U ?_
  have eb:oF e::oE e.nums++e.text.data.toList=eV e:=rfl
  rw[eb]at*
  refine W ?_
  refine Zr ?_
  refine mO Z Z ?_
  refine cE AC (Nk (eV e) A2 c2 w2 ((ho.rd H).mono (aV _) (ap _)) I) Z Z ?_;rintro _ w6 ⟨rfl,hb6⟩;replace H:=H.later hb6
  refine pK Z Z ?_
  refine U ?_
  have hs:=Fv (eV e)
  refine W ?_
  refine Zr ?_
  refine mO Z Z ?_
  refine wA eY Z Z ?_
  refine Q8 iK iH Z (Ei (n:=(eV e).length) I) Z ?_
  refine sK (vs:=[.int .u8 _]) H eJ BL Z Z Z Z Z Z ?_;intro w7 b51 H7
  refine mO Z Z ?_
  have ho5:gb dQ (.slice (Qd b51) 1 1) nk [UInt8.ofNat (eV e).length] [(b51,.cells (rF [.int .u8 ((eV e).length:Nat)]).toArray nk)]:=by
   have e1:dQ.all [UInt8.ofNat (eV e).length]=(rF [.int .u8 ((eV e).length:Nat)]).toArray.toList:=by
    show [Value.int .u8 _]=_
    rw[SI _ I]
    rfl
   unfold gb
   rw[e1]
   exact sI.lit (n:=1) (by decide) Z
  refine uO (Y:=dQ) pf (K:=[]) (M:=_) H7 ho5 (news:=eV e) Z Z Z (ho.rd (K:=(b51,_)::[_,_]) (M:=[]) H7).src (by simp only[bf,fT];omega) Z ?_
  intro A8 c8 w8 L8 _ _ ho8 H8
  refine iN Z Z ?_
  refine G (Rx (b:=8) Z Z I) ?_
  refine Q8 iK iH Z (Ei (n:=mV (eV e)/2 ^ 8) I) Z ?_
  refine iN Z Z ?_
  refine Q8 iK iH Z (RP (mV (eV e))) Z ?_
  refine sK (vs:=[.int .u8 _,.int .u8 _]) H8 eJ BL Z Z Z Z Z Z ?_;intro w9 b59 H9
  refine uO (Y:=dQ) pf (K:=[_]) (M:=_) H9 ho8 (news:=[UInt8.ofNat (mV (eV e)/256),UInt8.ofNat (mV (eV e)%256)]) Z Z Z ?_ (by simp only[av,bf,fT];omega) Z ?_
  ·have:=wL.row (m:=2) (sz:=1) (H9.ent (i:=0) Z) Z
   have e1:dQ.all [UInt8.ofNat (mV (eV e)/256),UInt8.ofNat (mV (eV e)%256)]=[.int .u8 (mV (eV e)/256:Nat),.int .u8 (mV (eV e)%256:Nat)]:=by
    show [Value.int .u8 _,Value.int .u8 _]=_
    rw[SI _ I,SI _ I]
   rw[e1]
   exact this
  intro A9 c9 w10 L9 hc9 _ ho9 H10
  refine wK Z Z ?_
  refine pK Z Z ?_
  refine U<|Zt ?_
  refine mK Z Z Z ⟨A9,c9,rfl,?_,hc9,H10.below⟩
  exact ho9.rd H10
/-- the number that is next, from its i-th byte on -/
def rn:Nat->Nat->List UInt8->Nat×List UInt8×Bool
 |_,_,[]=>(0,[],true)
 |i,n,c::l=>if i=5 then(0,c::l,true)else if c.toNat<128 then(n+c.toNat%128*2 ^ (7*i),l,decide (c.toNat=0)&&decide (0<i))else rn (i+1) (n+c.toNat%128*2 ^ (7*i)) l
def G8 (l:List UInt8) (bad:Bool):Nat×List UInt8×Bool:=if bad then(0,l,true)else rn 0 0 l
theorem R8 {n x i:Nat} (hn:n<2 ^ (7*i)):n|||x*2 ^ (7*i)=n+x*2 ^ (7*i):=by
 have:=tr hn x
 rw[Nat.or_comm,Fe,<-this,Fg]
theorem tG {w0 w:World} {F:List cf} {M:List (Nat×Obj)} {b:Nat} {l:List UInt8} {A:Option Addr} {c:Nat} {bad:Bool} (H:Hp w0 w ((b,.cells #[.slice A l.length c,.bool bad] vP)::M) F) (hr:Rd dQ 0 w0.heap.size A l w0) (hc:l.length<=c):
  di aa vk [.pointer (Qd b)] w fun v w2=>v=J ((G8 l bad).1:Nat)/\ ∃ A' c',Hp w0 w2 ((b,.cells #[.slice A' (G8 l bad).2.1.length c',.bool (G8 l bad).2.2] vP)::M) F/\Rd dQ 0 w0.heap.size A' (G8 l bad).2.1 w0/\(G8 l bad).2.1.length<=c':=by
 refine aG uC Z Z ?_
 refine W ?_
 refine Zr ?_
 refine pK Z Z ?_
 refine U<|W ?_
 refine Zr ?_
 refine pK Z Z ?_
 refine U<|W ?_
 refine Zr ?_
 refine pK Z Z ?_
 refine U<|Zb ?_
 refine bV (τ:=Nat×Nat×List UInt8×Bool) [2,3,4,5,6,7,8,9,10,11,12,13,14,15,16,17,18,19,20,21,22,23,24,25,26,27,28,29,30,31,32,33,34,35,36,37,38,39,40,41,42,43,44,45,46,47,48,49,50,51,52,53,54,55,56,57,58,59,60]
  (fun(i,n,_,_)=>[(3,J (n:Nat)),(4,J (i:Nat))])
  (fun(i,n,l1,bad1) w'=>i<=5/\n<2 ^ (7*i)/\(if bad1 then(0,l1,true)else rn i n l1)=G8 l bad/\ ∃ A c,Hp w0 w' ((b,.cells #[.slice A l1.length c,.bool bad1] vP)::M) F/\Rd dQ 0 w0.heap.size A l1 w0/\l1.length<=c) (fun(_,_,l1,_)=>l1.length) (0,0,l,bad) ⟨by omega,by decide,rfl,A,c,H,hr,hc⟩ (jT Z Z) ?_
 rintro⟨i,n,l1,bad1⟩ ρ1 w1 ⟨hi5,hn,hrn,A1,c1,H,hr,hc⟩
 show CW _ _ _ _ (dO (ij _ _ ρ1) [(3,J (n:Nat)),(4,J (i:Nat))]) w1
 refine W<|Zb<|W<|W ?_
 refine Zr ?_
 refine Jf Z Z ?_
 refine MZ Z Z ?_
 refine tq kF Z Z ?_
 refine xD H 0 eP Z Z Z Z ?_
 refine Cd Z Z ?_
 by_cases hstop:bad1=true∨l1=[]∨i=5
 ·have hres:G8 l bad=(0,l1,true):=by
   rw[<-hrn]
   rcases hstop with h|h|h
   ·rw[if_pos h]
   ·subst h;split<;>rfl
   ·subst h;split
    ·rfl
    ·cases l1<;>simp[rn]
  cases bad1
  ·refine vd Z ?_
   refine Jf Z Z ?_
   refine ZG ?_
   refine MZ Z Z ?_
   refine ZG ?_
   refine tq my Z Z ?_
   refine ZG ?_
   refine xD H 0 eR Z Z Z Z ?_
   refine ZG ?_
   refine wA eY Z Z ?_
   refine ZG ?_
   by_cases hl:l1=[]
   ·refine O1 Z Z (by rw[hl];rfl) Z ?_
    refine tH Z Z Z ?_
    refine Cd Z Z ?_
    iterate 2 refine sV Z Z Z ?_
    refine yn Z Z Z ?_
    refine U<|ZT Z<|W ?_
    refine Zr ?_
    refine Jf Z Z ?_
    refine MZ Z Z ?_
    refine tq kF Z Z ?_
    refine SR H 0 mW Z Z Z (by simp) fun w2 H2=>U<|W ?_
    refine Zr ?_
    refine pK Z Z ?_
    refine U<|Zt ?_
    rw[hres]
    exact cU (v:=J 0) Z Z ⟨rfl,A1,c1,H2,hr,hc⟩
   ·have hi:i=5:=by
     rcases hstop with h|h|h
     ·cases h
     ·exact absurd h hl
     ·exact h
    have hl0:l1.length≠0:=fun h=>hl (bS h)
    refine JK Z Z I Z ?_
    refine tH Z Z Z ?_
    refine Cd Z Z ?_
    refine ZG ?_
    refine iN Z Z ?_
    refine ZG<|O1 Z Z I Z ?_
    refine tH Z Z Z ?_
    refine U<|ZT Z<|W ?_
    refine Zr ?_
    refine Jf Z Z ?_
    refine MZ Z Z ?_
    refine tq kF Z Z ?_
    refine SR H 0 mW Z Z Z (by simp) fun w2 H2=>U<|W ?_
    refine Zr ?_
    refine pK Z Z ?_
    refine U<|Zt ?_
    rw[hres]
    exact cU (v:=J 0) Z Z ⟨rfl,A1,c1,H2,hr,hc⟩
  ·iterate 6 refine sV Z Z Z ?_
   refine yn Z Z Z ?_
   refine Cd Z Z ?_
   iterate 2 refine sV Z Z Z ?_
   refine yn Z Z Z ?_
   refine U<|ZT Z<|W ?_
   refine Zr ?_
   refine Jf Z Z ?_
   refine MZ Z Z ?_
   refine tq kF Z Z ?_
   refine SR H 0 mW Z Z Z (by simp) fun w2 H2=>U<|W ?_
   refine Zr ?_
   refine pK Z Z ?_
   refine U<|Zt ?_
   rw[hres]
   exact cU (v:=J 0) Z Z ⟨rfl,A1,c1,H2,hr,hc⟩
 ·have hb1:bad1=false:=by
   cases bad1
   ·rfl
   ·exact absurd (.inl Z) hstop
  subst hb1
  have hi:i<5:=by
   have:i≠5:=fun h=>hstop (.inr (.inr h))
   omega
  obtain⟨x,l2,rfl⟩: ∃ x l2,l1=x::l2:=by
   cases l1 with
   |nil=>exact absurd (.inr (.inl Z)) hstop
   |cons x l2=>exact⟨x,l2,rfl⟩
  have hx:x.toNat<256:=UInt8.toNat_lt _
  obtain⟨bb,o,rfl,-,hbl,hcl⟩:=hr.at_ (k:=0) (by simp)
  rw[if_neg (by decide),rn,if_neg I]at hrn
  have h7:2 ^ (7*i)<=2 ^ 28:=Nat.pow_le_pow_right (by decide) I
  have hmod:x.toNat%128<128:=jU _ (by decide)
  have hmul:x.toNat%128*2 ^ (7*i)<=128*2 ^ 28:=Nat.mul_le_mul I h7
  have h71:2 ^ (7*(i+1))=128*2 ^ (7*i):=by rw[Nat.mul_add,Nat.pow_add];omega
  have hmul2:x.toNat%128*2 ^ (7*i)<=127*2 ^ (7*i):=cN _ I
  refine ZG ?_
  refine Jf Z Z ?_
  refine ZG ?_
  refine MZ Z Z ?_
  refine ZG ?_
  refine tq my Z Z ?_
  refine ZG ?_
  refine xD H 0 eR Z Z Z Z ?_
  refine ZG ?_
  refine wA eY Z Z ?_
  refine ZG<|JK Z Z (by simp;omega) Z ?_
  refine tH Z Z Z ?_
  refine Cd Z Z ?_
  refine ZG ?_
  refine iN Z Z ?_
  refine ZG<|JK Z Z I Z ?_
  refine tH Z Z Z ?_
  refine U<|ZF Z<|Zk<|W ?_
  refine Zr ?_
  refine Jf Z Z ?_
  refine MZ Z Z ?_
  refine tq my Z Z ?_
  refine xD H 0 eR Z Z Z Z ?_
  refine SK eJ Z Z I (by simp) Z ?_
  refine ld mZ Z ((H.below.cell (p:=⟨bb,_,none⟩) hbl).trans (hcl 0 _ Z)) Z ?_
  refine Q8 iH iK Z (wN (n:=x.toNat) I) Z ?_
  refine pK Z Z ?_
  refine U<|W ?_
  refine Zr ?_
  refine Jf Z Z ?_
  refine Jf Z Z ?_
  refine MZ Z Z ?_
  refine tq my Z Z ?_
  refine xD H 0 eR Z Z Z Z ?_
  refine ui eJ Z Z I (by simp;omega) hc Z ?_;intro A39 hA39
  refine MZ Z Z ?_
  refine tq my Z Z ?_
  refine Uj H 0 EE Z Z Z (by simp) fun w2 H2=> ?_
  have hr2:Rd dQ 0 w0.heap.size A39 l2 w0:=hr.from_ (k:=1) hA39 (fun h=>h)
  have H:Hp w0 w2 ((b,.cells #[.slice A39 l2.length (c1-1),.bool false] vP)::M) F:=H2
  have hc2:l2.length<=c1-1:=by simp only[bf]at hc;omega
  refine U<|W ?_
  refine Zr ?_
  refine iN Z Z ?_
  refine iN Z Z ?_
  refine G (RM (a:=x.toNat) (b:=127) Z Z I I) ?_
  rw[PC]
  refine iN Z Z ?_
  refine mul Z Z I I Z ?_
  refine G (Ry (a:=x.toNat%128) (b:=7*i) (k:=.i64) Z (by simp;rfl) I I)<|G (Qt (a:=n) (b:=x.toNat%128*2 ^ (7*i)) Z Z I I) ?_
  rw[R8 hn]
  refine pK Z Z ?_
  refine U<|W ?_
  refine Zr ?_
  refine iN Z Z ?_
  refine Jm Z Z Z (fun h50=> ?_) (fun h50=> ?_)
  all_goals refine nL ?_
  ·rw[if_pos I]at hrn
   refine ZT Z<|W ?_
   refine Zr ?_
   refine Jf Z Z ?_
   refine iN Z Z ?_
   by_cases hx0:x.toNat=0
   ·refine O1 Z Z I Z ?_
    refine Cd Z Z ?_
    refine ZG ?_
    refine iN Z Z ?_
    refine ZG<|G (nC (a:=(i:Int)) (b:=0) Z Z) ?_
    refine yn Z Z Z ?_
    refine MZ Z Z ?_
    refine tq kF Z Z ?_
    refine SR H 0 mW Z Z Z (by simp) fun w3 H3=>U<|W ?_
    refine Zr ?_
    refine iN Z Z ?_
    refine pK Z Z ?_
    refine U<|Zt ?_
    rw[<-hrn]
    have e:(decide (x.toNat=0)&&decide (0<i))=decide ((0:Int)<i):=by
     rw[decide_eq_true hx0,wy];exact decide_eq_decide.2 I
    rw[e]
    exact cU (v:=J (n+x.toNat%128*2 ^ (7*i):Nat)) Z Z ⟨rfl,A39,c1-1,H3,hr2,hc2⟩
   ·refine JK Z Z I Z ?_
    refine Cd Z Z ?_
    iterate 2 refine sV Z Z Z ?_
    refine tH Z Z Z ?_
    refine MZ Z Z ?_
    refine tq kF Z Z ?_
    refine SR H 0 mW Z Z Z (by simp) fun w3 H3=>U<|W ?_
    refine Zr ?_
    refine iN Z Z ?_
    refine pK Z Z ?_
    refine U<|Zt ?_
    rw[<-hrn]
    have e:(decide (x.toNat=0)&&decide (0<i))=false:=by rw[decide_eq_false hx0];rfl
    rw[e]
    exact cU (v:=J (n+x.toNat%128*2 ^ (7*i):Nat)) Z Z ⟨rfl,A39,c1-1,H3,hr2,hc2⟩
  ·rw[if_neg I]at hrn
   refine ZF Z<|Zk ?_
   refine Zr ?_
   refine iN Z Z ?_
   refine add Z Z I I Z ?_
   refine pK Z Z ?_
   refine U ?_
   refine⟨(i+1,n+x.toNat%128*2 ^ (7*i),l2,false),⟨by omega,by rw[h71];omega,by rw[<-hrn];rfl,A39,c1-1,H,hr2,hc2⟩,jT Z Z,by repeat (first|exact nj|refine lV Z ?_|refine jZ _ Z ?_),by show l2.length<l2.length+1;omega⟩
/-- an entry out of a body -/
def ur (c:UInt8) (l:List UInt8):cd×Bool:=
 let q1:=G8 l false
 let q2:=G8 q1.2.1 q1.2.2
 let q3:=G8 q2.2.1 q2.2.2
 let q4:=G8 q3.2.1 q3.2.2
 (⟨(q1.1:Nat),(q2.1:Nat),(q3.1:Nat),(q4.1:Nat),(c.toNat&&&15:Nat),!decide (((c.toNat&&&16:Nat):Int)=0),⟨q4.2.1.toArray⟩⟩,q4.2.2)
def vN (c:UInt8) (l:List UInt8):Bool:=!(ur c l).2&&decide (c.toNat<32)&&decide (eA (ur c l).1=0)
theorem Rh (c0:UInt8) (l:List UInt8) (A:Option Addr) (c:Nat) (w:World) (hr:Rd dQ 0 w.heap.size A (c0::l) w) (hc:(c0::l).length<=c):
  di aa HC [.slice A (c0::l).length c] w fun v w2=>v=.tuple #[(ur c0 l).1.v,.bool (vN c0 l)]/\Below w.heap.size w w2:=by
 obtain⟨bb,o,rfl,-,hbl,hcl⟩:=hr.at_ (k:=0) (by simp)
 have hc0:c0.toNat<256:=UInt8.toNat_lt _
 refine aG Gf Z Z ?_
 have H:=Hp.start w
 refine W ?_
 refine Zr ?_
 refine fc H gz Z ?_;intro w1 b2 H
 refine Tg Z Z ?_
 refine U<|W ?_
 refine Zr ?_
 refine mO Z Z ?_
 refine ui eJ Z Z I (by simp;omega) hc Z ?_;intro A7 hA7
 have hr7:Rd dQ 0 w.heap.size A7 l w:=hr.from_ (k:=1) hA7 (fun h=>h)
 have hc7:l.length<=c-1:=by simp only[bf]at hc;omega
 refine G (v:=.agg #[.slice A7 l.length (c-1),.bool false]) (bp K5 M3 Z) ?_
 refine gU H Z Z ?_;intro w2 b9 H
 refine Uy Z Z ?_
 refine U<|W ?_
 have hcl2:=fun(w':World) (hw':pp w2 w')=>((H.later hw').below.cell (p:=⟨bb,_,none⟩) hbl).trans (hcl 0 _ Z)
 refine bG cv [0,1,2,3,4,5,6,7,8,9,10,11] [12] [11] [0,1,3,4,5,6,8,9,10] (sp [(11,Sp.blk w2.heap.size (.agg #[J 0,J 0,J 0,J 0,J 0,.bool false,.string ⟨#[]⟩]) dy)]) N N N N Nq (cG _) ?_
 refine aw Z Z Z Z Z (fun _ _=>iG Z) ?_
 refine aw Z Z Z Z Z (fun _ _=>yr eJ Z Z I (by simp)) ?_
 refine aw Z Z Z Z Z (fun w' hw'=>bd mZ Z (hcl2 w' hw')) ?_
 refine aw Z Z Z Z Z (fun _ _=>PA (a:=c0.toNat) (b:=15) Z Z I I) ?_
 refine aw Z Z Z Z Z (fun _ _=>E5 iH iK Z (wN (n:=c0.toNat&&&15) (mR (J1 I)))) ?_
 refine aw Z Z Z Z Z (fun _ _=>iG Z) ?_
 refine aw Z Z Z Z Z (fun _ _=>yr eJ Z Z I (by simp)) ?_
 refine aw Z Z Z Z Z (fun w' hw'=>bd mZ Z (hcl2 w' hw')) ?_
 refine aw Z Z Z Z Z (fun _ _=>PA (a:=c0.toNat) (b:=16) Z Z I I) ?_
 refine aw Z Z Z Z Z (fun _ _=>jv (k:=.u8) (a:=((c0.toNat&&&16:Nat):Int)) (b:=0) Z Z) ?_
 refine aw (v:=.agg (cd.c ⟨0,0,0,0,(c0.toNat&&&15:Nat),!decide (((c0.toNat&&&16:Nat):Int)=0),⟨#[]⟩⟩).toArray) Z Z Z Z Z (fun _ _=>bp ow gz Z)<|RL gz Z Z Z Z (fun w' w2 b hC hb hh=>⟨b,rfl,aW hC.size hb,hh⟩) ?_
 rintro _ ⟨_,_,b5,rfl,_,_⟩
 refine aT ?_
 rintro w3 hw3 ⟨-,b,he,hge,hb5⟩
 cases he
 replace H:=(H.adoptNew hw3 hb5 hge).swap
 refine PO H 1 eX Z Z Z Z Z Z ?_;intro w4 H
 refine U<|W ?_
 refine Zr ?_
 refine Jf Z Z ?_
 refine cE iM (tG (l:=l) (bad:=false) H hr7 hc7) Z Z ?_;rintro _ w5 ⟨rfl,A1,c1,H1,hr1,hc1⟩
 refine Jf Z Z ?_
 refine cE iM (tG H1 hr1 hc1) Z Z ?_;rintro _ w6 ⟨rfl,A2,c2,H2,hr2,hc2⟩
 refine Jf Z Z ?_
 refine cE iM (tG H2 hr2 hc2) Z Z ?_;rintro _ w7 ⟨rfl,A3,c3,H3,hr3,hc3⟩
 refine Jf Z Z ?_
 refine cE iM (tG H3 hr3 hc3) Z Z ?_;rintro _ w8 ⟨rfl,A4,c4,H4,hr4,hc4⟩
 generalize hE:ur c0 l=E
 have hEE:E=_:=hE.symm
 unfold ur at hEE
 simp only at hEE
 generalize hq1:G8 l false=q1 at*
 generalize hq2:G8 q1.2.1 q1.2.2=q2 at*
 generalize hq3:G8 q2.2.1 q2.2.2=q3 at*
 generalize hq4:G8 q3.2.1 q3.2.2=q4 at*
 obtain⟨n1,l1,x1⟩:=q1
 obtain⟨n2,l2,x2⟩:=q2
 obtain⟨n3,l3,x3⟩:=q3
 obtain⟨n4,l4,x4⟩:=q4
 dsimp only at*
 clear H H1 H2 H3 hr1 hr2 hr3 hc1 hc2 hc3 hq1 hq2 hq3 hq4
 refine tq nY Z Z ?_
 refine Tn H4 1 bN Z Z Z (fk Z) ?_;intro w9 H
 refine tq ft Z Z ?_
 refine Tn H 1 bN Z Z Z (fk Z) ?_;intro w10 H
 refine tq eO Z Z ?_
 refine Tn H 1 bN Z Z Z (fk Z) ?_;intro w11 H
 refine tq fi Z Z ?_
 refine Tn H 1 bN Z Z Z (fk Z) ?_;intro w12 H
 refine U<|W ?_
 refine Zr ?_
 refine Jf Z Z ?_
 refine MZ Z Z ?_
 refine tq my Z Z ?_
 refine xD H 0 eR Z Z Z Z ?_
 refine Go.Eng.l1 (Sv eJ iH jf Z Z (fun _=>rfl) (hr4.below H.below)) Z Z Z ?_
 refine tq qK Z Z ?_
 refine Ui H 1 BT Z Z Z (fk Z) ?_;intro w13 H
 refine U ?_
 have H:Hp w w13 [(b9,.cells #[.slice A4 l4.length c4,.bool x4] vP),(b5,.cells E.1.c.toArray dy),(b2,.cells (cd.c ⟨0,0,0,0,0,false,⟨#[]⟩⟩).toArray dy)] []:=by rw[hEE];exact H
 have hx4:E.2=x4:=by rw[hEE]
 have hcl3:=fun(w':World) (hw':pp w13 w')=>((H.later hw').below.cell (p:=⟨bb,_,none⟩) hbl).trans (hcl 0 _ Z)
 obtain⟨E,x5⟩:=E
 dsimp only at*
 subst hx4
 clear hEE
 refine W ?_
 refine bG cv [0,1,2,3,4,5,6,7,8,9,10,11,12,13,14,15,16] [17,18] [14] [1,2,3,5,6,7,8,10,11,12,15,16] (sp [(14,Sp.one (J (eA E)))]) N N N N Nq (cG _) ?_
 refine aw Z Z Z Z Z (fun w' hw'=>kh dJ Z ((H.later hw').ent (i:=1) Z) Z) ?_
 refine aw Z Z Z Z Z (fun _ _=>iG Z) ?_
 refine aw Z Z Z Z Z (fun _ _=>aM Z) ?_
 refine aw Z Z Z Z Z (fun _ _=>Zf kF Z) ?_
 refine aw Z Z Z Z Z (fun w' hw'=>bd eP Z (aK ((H.later hw').ent (i:=0) Z) Z)) ?_
 refine aw Z Z Z Z Z (fun _ _=>d9 Z) ?_
 refine aw Z Z Z Z Z (fun _ _=>iG Z) ?_
 have hob:vN c0 l=(!x5&&decide (c0.toNat<32)&&decide (eA E=0)):=by unfold vN;rw[hE]
 rw[hob]
 cases x5
 ·refine aw Z Z Z Z Z (fun _ _=>iG Z) ?_
  refine aw Z Z Z Z Z (fun _ _=>yr eJ Z Z I (by simp)) ?_
  refine aw Z Z Z Z Z (fun w' hw'=>bd mZ Z (hcl3 w' hw')) ?_
  refine aw Z Z Z Z Z (fun _ _=>cI (k:=.u8) (a:=(c0.toNat:Int)) (b:=32) Z Z) ?_
  refine aw Z Z Z Z Z (fun _ _=>NX Z Z) ?_
  refine aw Z Z Z Z Z (fun _ _=>iG Z) ?_
  have h32:decide ((c0.toNat:Int)<32)=decide (c0.toNat<32):=decide_eq_decide.2 I
  rw[h32]
  cases h:decide (c0.toNat<32)
  ·iterate 3 refine eW Z Z Z Z ?_
   refine aw Z Z Z Z Z (fun _ _=>Km Z Z) ?_
   refine aT ?_
   intro w' hw' hF;replace H:=H.later hw';clear hw'
   refine PO H 2 eX Z Z Z Z Z Z ?_;intro w15 H
   refine Tg Z Z<|U<|Zt ?_
   exact OT Z dJ Z (H.ent (i:=2) Z) Z Z ⟨rfl,H.below⟩
  ·refine aw Z Z Z Z Z (fun w' hw'=>kh dJ Z ((H.later hw').ent (i:=1) Z) Z) ?_
   refine AE sy Z Z Z Z (fun w' _=>(zc E w').mono (fun v w2 ⟨h1,h2⟩=>⟨h2,h1⟩)) Z ?_
   rintro _ ⟨_,_,rfl⟩
   refine aw Z Z Z Z Z (fun _ _=>cr Z Z) ?_
   refine aw Z Z Z Z Z (fun _ _=>NX Z Z) ?_
   refine aT ?_
   intro w' hw' hF;replace H:=H.later hw';clear hw'
   refine PO H 2 eX Z Z Z Z Z Z ?_;intro w15 H
   refine Tg Z Z<|U<|Zt ?_
   exact OT Z dJ Z (H.ent (i:=2) Z) Z Z ⟨rfl,H.below⟩
 ·iterate 4 refine eW Z Z Z Z ?_
  refine aw Z Z Z Z Z (fun _ _=>Km Z Z) ?_
  refine aw Z Z Z Z Z (fun _ _=>iG Z) ?_
  iterate 3 refine eW Z Z Z Z ?_
  refine aw Z Z Z Z Z (fun _ _=>Km Z Z) ?_
  refine aT ?_
  intro w' hw' hF;replace H:=H.later hw';clear hw'
  refine PO H 2 eX Z Z Z Z Z Z ?_;intro w15 H
  refine Tg Z Z<|U<|Zt ?_
  exact OT Z dJ Z (H.ent (i:=2) Z) Z Z ⟨rfl,H.below⟩
/-- the entry that is first, and how many bytes it takes -/
def step:List UInt8->Option (cd×Nat)
 |[]=>none
 |n::r=>
  if n.toNat=0∨r.length<n.toNat+2 then none
  else if mV (r.take n.toNat)≠(r.getD n.toNat 0).toNat*256+(r.getD (n.toNat+1) 0).toNat then none
  else if vN (r.headD 0) (r.take n.toNat).tail=true then some ((ur (r.headD 0) (r.take n.toNat).tail).1,n.toNat+3)else none
inductive M2:List UInt8->List cd->Nat->Prop
 |stop {l:List UInt8} (h:step l=none):M2 l [] 0
 |go {l:List UInt8} {e:cd} {k n:Nat} {es:List cd} (h:step l=some (e,k)) (hd:M2 (l.drop k) es n):M2 l (e::es) (k+n)
theorem SW {a b:Nat} (hb:b<256):a*2 ^ 8|||b=a*256+b:=by
 have:=tr (i:=8) (b:=b) (by simpa using hb) a
 rw[Fe,<-this]
theorem wu (l:List UInt8) (A:Option Addr) (c:Nat) (w:World) (hr:Rd dQ 0 w.heap.size A l w) (hc:l.length<=c) (hbd:l.length<=1000000000000):
  di aa DJ [.slice A l.length c] w fun v w2=> ∃ es n A' c',v=.tuple #[.slice A' es.length c',J (n:Nat)]/\M2 l es n/\Rd gC w.heap.size w2.heap.size A' es w2/\es.length<=c'/\Below w.heap.size w w2:=by
 refine aG CO Z Z ?_
 have H:=Hp.start w
 refine W ?_
 refine Zr ?_
 refine wK Z Z ?_
 refine pK Z Z ?_
 refine U<|W ?_
 refine Zr ?_
 refine wK Z Z ?_
 refine U<|W ?_
 refine Zr ?_
 refine pK Z Z ?_
 refine U<|W<|Zb ?_
 refine bV (τ:=Nat×List cd×Option Addr×Nat) [4,5,6,7,8,9,10,11,12,13,14,15,16,17,18,19,20,21,22,23,24,25,26,27,28,29,30,31,32,33,34,35,36,37,38,39,40,41,42,43,44,45,46,47,48,49,50,51,52,53,54,55,56,57,58,59,60,61,62,63,64,65,66,67,68,69,70,71,72,73]
  (fun(at_,out,A1,c1)=>[(4,.slice A1 out.length c1),(5,J (at_:Nat))])
  (fun(at_,out,A1,c1) w'=>at_<=l.length/\out.length<=at_/\(∀ es n,M2 (l.drop at_) es n->M2 l (out++es) (at_+n))/\ ∃ L',gb gC (.slice A1 out.length c1) dy out L'/\Hp w w' ([]++L'++[]) [])
  (fun(at_,_,_,_)=>l.length-at_) (0,[],none,0) ⟨by omega,by simp,fun es n h=>by simpa using h,[],gb.nil,H⟩ (jT Z Z) ?_
 rintro⟨at_,out,A1,c1⟩ ρ1 w1 ⟨hat,hout,hdec,L1,ho,H⟩
 show CW _ _ _ _ (dO (ij _ _ ρ1) [(4,.slice A1 out.length c1),(5,J (at_:Nat))]) w1
 have hfin: ∀ {w2:World},step (l.drop at_)=none->Hp w w2 ([]++L1++[]) []-> ∃ es n A' c',(Value.tuple #[.slice A1 out.length c1,J (at_:Nat)])=.tuple #[.slice A' es.length c',J (n:Nat)]/\M2 l es n/\Rd gC w.heap.size w2.heap.size A' es w2/\es.length<=c'/\Below w.heap.size w w2:=fun hs H=>by
  have hd:=hdec [] 0 (.stop hs)
  rw[aP,mS]at hd
  obtain⟨A2,c2,he,hlc,-⟩:=ho.form
  injection he with h1 h2 h3
  subst h3
  exact⟨out,at_,A1,c1,rfl,hd,ho.rd H,hlc,H.below⟩
 refine W<|W ?_
 refine Zr ?_
 refine iN Z Z ?_
 refine mO Z Z ?_
 refine wA eY Z Z ?_
 refine Jm Z Z Z (fun h13=> ?_) (fun h13=> ?_)
 all_goals refine nL ?_
 ·refine qg Z ?_
  refine Zk ?_
  have hlt:at_<l.length:=by omega
  obtain⟨bb,o,hA,-,hbl,hcl0⟩:=hr.at_ hlt
  subst hA
  have hcl: ∀ {k:Nat} (hk:k<l.length) (w':World),Below w.heap.size w w'->w'.cell? ⟨bb,o+k*1,none⟩=some (.int .u8 (l[k].toNat:Nat)):=fun{k} hk w' hb=>by
   obtain⟨bb',o',hA,-,hbl,hcl⟩:=hr.at_ hk
   injection hA with hA
   injection hA with h1 h2
   subst h1;subst h2
   exact(hb.cell (p:=⟨bb,_,none⟩) hbl).trans (hcl 0 _ Z)
  have hd0:l.drop at_=l[at_]::l.drop (at_+1):=nn hlt
  have hx:=hcl hlt
  have h256:l[at_].toNat<256:=UInt8.toNat_lt _
  generalize hn:l[at_].toNat=n at*
  refine Zb<|W ?_
  refine Zr ?_
  refine mO Z Z ?_
  refine iN Z Z ?_
  refine SK eJ Z Z I I Z ?_
  refine ld mZ Z (hx _ H.below) Z ?_
  refine Q8 iH iK Z (wN (n:=n) I) Z ?_
  refine pK Z Z ?_
  refine U<|W<|W ?_
  refine Zr ?_
  refine iN Z Z ?_
  by_cases hstop:n=0∨l.length<at_+n+3
  ·have hs:step (l.drop at_)=none:=by
    rw[hd0,step,hn,if_pos]
    rw[dL];omega
   by_cases hn0:n=0
   ·refine O1 Z Z I Z ?_
    refine Cd Z Z ?_
    iterate 7 refine sV Z Z Z ?_
    refine yn Z Z Z ?_
    refine U<|ZT Z<|Zx<|W ?_
    refine Zr ?_
    refine mO Z Z ?_
    refine iN Z Z ?_
    refine wK Z Z ?_
    refine pK Z Z ?_
    refine U<|Zt ?_
    exact mK Z Z Z (hfin hs H)
   ·refine JK Z Z I Z ?_
    refine Cd Z Z ?_
    refine ZG ?_
    refine iN Z Z ?_
    refine ZG ?_
    refine iN Z Z ?_
    refine ZG ?_
    refine add Z Z I I Z ?_
    refine ZG ?_
    refine add Z Z I I Z ?_
    refine ZG ?_
    refine mO Z Z ?_
    refine ZG ?_
    refine wA eY Z Z ?_
    refine ZG<|Sj Z Z I Z ?_
    refine tH Z Z Z ?_
    refine U<|ZT Z<|Zx<|W ?_
    refine Zr ?_
    refine mO Z Z ?_
    refine iN Z Z ?_
    refine wK Z Z ?_
    refine pK Z Z ?_
    refine U<|Zt ?_
    exact mK Z Z Z (hfin hs H)
  have hn0:n≠0:=fun h=>hstop (.inl h)
  have hlen:at_+n+3<=l.length:=by omega
  refine JK Z Z I Z ?_
  refine Cd Z Z ?_
  refine ZG ?_
  refine iN Z Z ?_
  refine ZG ?_
  refine iN Z Z ?_
  refine ZG ?_
  refine add Z Z I I Z ?_
  refine ZG ?_
  refine add Z Z I I Z ?_
  refine ZG ?_
  refine mO Z Z ?_
  refine ZG ?_
  refine wA eY Z Z ?_
  refine ZG<|Sk Z Z I Z ?_
  refine tH Z Z Z ?_
  refine U<|ZF Z<|Zk<|W ?_
  refine Zr ?_
  refine mO Z Z ?_
  refine iN Z Z ?_
  refine add Z Z I I Z ?_
  refine iN Z Z ?_
  refine add Z Z I I Z ?_
  refine iN Z Z ?_
  refine add Z Z I I Z ?_
  refine Rw eJ Z Z Z I I I Z ?_;intro A37 hA37
  have e1:((at_:Int)+1).toNat=at_+1:=by omega
  have e2:((at_:Int)+1+n).toNat- (at_+1)=n:=by omega
  rw[e1]at hA37⊢
  rw[e2]
  have hrx:Rd dQ 0 w.heap.size A37 ((l.drop (at_+1)).take n) w:=(hr.from_ hA37 (fun h=>by omega)).take n
  have hxl:((l.drop (at_+1)).take n).length=n:=by rw[aI,dL];omega
  refine wK Z Z ?_
  refine U ?_
  have hg1:(l.drop (at_+1)).getD n 0=l[at_+n+1]:=by
   rw[cS,df,show at_+1+n=at_+n+1 by omega,ai I];rfl
  have hg2:(l.drop (at_+1)).getD (n+1) 0=l[at_+n+2]:=by
   rw[cS,df,show at_+1+(n+1)=at_+n+2 by omega,ai I];rfl
  have hc1:=hcl (k:=at_+n+1) I
  have hc2:=hcl (k:=at_+n+2) I
  have hb1:l[at_+n+1].toNat<256:=UInt8.toNat_lt _
  have hb2:l[at_+n+2].toNat<256:=UInt8.toNat_lt _
  generalize l[at_+n+1]=x1 at*
  generalize l[at_+n+2]=x2 at*
  generalize hX:(l.drop (at_+1)).take n=X at*
  have hstep:step (l.drop at_)=if mV X≠x1.toNat*256+x2.toNat then none else if vN (X.headD 0) X.tail=true then some ((ur (X.headD 0) X.tail).1,n+3)else none:=by
   rw[hd0,step,hn,if_neg (by rw[dL];omega),hX,hg1,hg2]
   have:(l.drop (at_+1)).headD 0=X.headD 0:=by
    rw[<-hX]
    cases h:l.drop (at_+1)with
    |nil=>simp
    |cons a r=>
     cases n with
     |zero=>exact absurd Z hn0
     |succ n=>rfl
   rw[this]
  have hcy1:((at_:Int)+n+1).toNat=at_+n+1:=by omega
  have hcy2:((at_:Int)+n+2).toNat=at_+n+2:=by omega
  rw[<-hcy1]at hc1
  rw[<-hcy2]at hc2
  have hor:x1.toNat*2 ^ 8|||x2.toNat=x1.toNat*256+x2.toNat:=SW hb2
  have hslt:=Fv X
  refine W<|W ?_
  refine bG cv [0,2,3,4,5,6,7,8,9,10,11,12,13,14,15,16,17,18,19,1,20] [] [1] [0,2,3,4,5,6,7,9,10,11,12,13,14,15,16,18,19,20] (sp [(1,Sp.one (J (mV X:Nat)))]) N N N N Nq (cG _) ?_
  refine aw Z Z Z Z Z (fun _ _=>iG Z) ?_
  refine aw Z Z Z Z Z (fun _ _=>iG Z) ?_
  refine aw Z Z Z Z Z (fun _ _=>iG Z) ?_
  refine aw Z Z Z Z Z (fun _ _=>iG Z) ?_
  refine aw Z Z Z Z Z (fun _ _=>bn Z Z I I) ?_
  refine aw Z Z Z Z Z (fun _ _=>bn Z Z I I) ?_
  refine aw Z Z Z Z Z (fun _ _=>yr eJ Z Z I I) ?_
  refine aw Z Z Z Z Z (fun w' hw'=>bd mZ Z (hc1 w' (H.later hw').below)) ?_
  refine aw Z Z Z Z Z (fun _ _=>E5 iH iK Z (wN (n:=x1.toNat) I)) ?_
  refine aw Z Z Z Z Z (fun _ _=>Ry (a:=x1.toNat) (b:=8) (k:=.u64) Z Z I I) ?_
  refine aw Z Z Z Z Z (fun _ _=>iG Z) ?_
  refine aw Z Z Z Z Z (fun _ _=>iG Z) ?_
  refine aw Z Z Z Z Z (fun _ _=>iG Z) ?_
  refine aw Z Z Z Z Z (fun _ _=>bn Z Z I I) ?_
  refine aw Z Z Z Z Z (fun _ _=>bn Z Z I I) ?_
  refine aw Z Z Z Z Z (fun _ _=>yr eJ Z Z I I) ?_
  refine aw Z Z Z Z Z (fun w' hw'=>bd mZ Z (hc2 w' (H.later hw').below)) ?_
  refine aw Z Z Z Z Z (fun _ _=>E5 iH iK Z (wN (n:=x2.toNat) I)) ?_
  refine aw Z Z Z Z Z (fun _ _=>Qt (a:=x1.toNat*2 ^ 8) (b:=x2.toNat) Z Z I I) ?_
  rw[hor]
  refine AE AC Z Z Z Z (fun w' hw'=>(Nk X A37 (c- (at_+1)) w' ((hrx.below (H.later hw').below).mono (ap _) (H.later hw').size) I).mono (fun v w2 ⟨h1,h2⟩=>⟨h2,h1⟩)) (by rw[hxl];rfl) ?_
  rintro _ ⟨_,_,rfl⟩
  by_cases hsum:mV X=x1.toNat*256+x2.toNat
  ·refine aw Z Z Z Z Z (fun _ _=>cj Z Z I) ?_
   refine aT ?_
   intro w' hw' hF;replace H:=H.later hw';clear hw' hF
   refine U<|ZF Z<|Zk ?_
   obtain⟨c0,X',rfl⟩: ∃ c0 X',X=c0::X':=by
    cases X with
    |nil=>simp at hxl;omega
    |cons a X=>exact⟨a,X,rfl⟩
   rw[if_neg I]at hstep
   refine W ?_
   refine Zr ?_
   refine mO Z Z ?_
   rw[<-hxl]
   refine cE Gy (Rh c0 X' A37 _ _ ((hrx.below H.below).mono (ap _) H.size) (by rw[hxl];omega)) Z Z ?_;rintro _ w2 ⟨rfl,hb2⟩;replace H:=H.later hb2
   rw[hxl]
   refine Uq Z Z ?_
   refine TZ Z Z Z ?_
   refine TZ Z Z Z ?_
   refine fc H gz Z ?_;intro w3 b8 H
   refine PO H 0 eX Z Z Z Z Z Z ?_;intro w4 H
   refine Tg Z Z ?_
   refine U<|W<|W ?_
   refine Zr ?_
   refine Cd Z Z ?_
   refine not Z Z ?_
   refine U ?_
   refine qL (b:=!vN c0 X') Z (fun hb=> ?_) (fun hb=> ?_)
   ·rw[if_neg (by simpa using hb)]at hstep
    refine Zx<|W ?_
    refine Zr ?_
    refine mO Z Z ?_
    refine iN Z Z ?_
    refine wK Z Z ?_
    refine pK Z Z ?_
    refine U<|Zt ?_
    exact mK Z Z Z (hfin hstep (H.forget (by simp) (fun _ h=>h)))
   ·rw[if_pos (by simpa using hb)]at hstep
    refine Zk<|W ?_
    refine Zr ?_
    refine mO Z Z ?_
    refine TX H 0 dJ Z Z Z Z ?_
    refine sK (vs:=[.agg _]) H dY gz Z Z Z Z Z Z ?_;intro w5 b68 H5
    refine uO (Y:=gC) MM (K:=[_,_]) (L:=L1) (M:=[]) H5 ho (news:=[(ur c0 X').1]) Z Z Z ?_ (by simp only[bv];omega) Z ?_
    ·exact wL.row (m:=1) (sz:=7) (H5.ent (i:=0) Z) Z
    intro A6 c6 w6 L6 _ _ ho6 H6
    refine wK Z Z ?_
    refine U ?_
    refine Zr ?_
    refine iN Z Z ?_
    refine iN Z Z ?_
    refine add Z Z I I Z ?_
    refine add Z Z I I Z ?_
    refine pK Z Z ?_
    refine U ?_
    refine⟨(at_+(n+3),out++[(ur c0 X').1],A6,c6),⟨by omega,by simp;omega,fun es m hD=> ?_,L6,ho6,H6.forget (by simp) (fun _ h=>h)⟩,jT Z ?_,by repeat (first|exact nj|refine lV Z ?_|refine jZ _ Z ?_),by show l.length- (at_+(n+3))<l.length-at_;omega⟩
    ·have:=hdec _ _ (.go hstep (by rw[km];exact hD))
     rw[aB,lx]
     exact this
    ·show Value.int .i64 _=Value.int .i64 _
     congr 1
  ·rw[if_pos hsum]at hstep
   refine aw Z Z Z Z Z (fun _ _=>l9 Z Z I) ?_
   refine aT ?_
   intro w' hw' hF;replace H:=H.later hw';clear hw'
   refine U<|ZT Z<|Zx<|W ?_
   refine Zr ?_
   refine mO Z Z ?_
   refine iN Z Z ?_
   refine wK Z Z ?_
   refine pK Z Z ?_
   refine U<|Zt ?_
   exact mK Z Z Z (hfin hstep H)
 ·refine oY Z ?_
  refine Zx ?_
  have hs:step (l.drop at_)=none:=by rw[eE I];rfl
  refine W ?_
  refine Zr ?_
  refine mO Z Z ?_
  refine iN Z Z ?_
  refine wK Z Z ?_
  refine pK Z Z ?_
  refine U<|Zt ?_
  exact mK Z Z Z (hfin hs H)
def lj (e:cd):Prop:=eA e=0
def bJ (es:List cd):List UInt8:=es.flatMap mL
theorem Er (n:Nat) (h:n<256):(UInt8.ofNat n).toNat=n:=by simp[hZ h]
theorem NH: ∀ (k n i m:Nat) (rest:List UInt8),n<128 ^ k->i+k<=5->(0<k)->(n≠0∨i=0)->rn i m (AR n++rest)=(m+n*2 ^ (7*i),rest,false)
 |0,_,_,_,_,_,_,h0,_=>absurd h0 (by decide)
 |k+1,n,i,m,rest,hn,hi,_,hz=>by
  by_cases h:n<=127
  rw[v9 h]
  simp only[qZ,jC,rn]
  rw[if_neg I,Er n I,if_pos I,hZ I]
  have:(decide (n=0)&&decide (0<i))=false:=by
   rcases hz with h|h
   simp[h]
   simp[h]
  rw[this]
  rw[FL I]
  simp only[qZ,rn]
  have hm:n%128<128:=jU _ (by decide)
  rw[if_neg I,Er _ I,if_neg I]
  have hk:k≠0:=by rintro rfl;simp at hn;omega
  rw[NH k (n/128) (i+1) _ rest (by rw[Nat.pow_succ]at hn;exact AI I) I I (.inl I)]
  congr 1
  have e1:(n%128+128)%128=n%128:=by omega
  have e2:2 ^ (7*(i+1))=128*2 ^ (7*i):=by rw[Nat.mul_add,Nat.pow_add];omega
  rw[e1,e2]
  have e3:n/128*(128*2 ^ (7*i))=(n/128*128)*2 ^ (7*i):=(Nat.mul_assoc _ _ _).symm
  rw[e3,lx,<-cW]
  congr 2
  omega
theorem Br {n:Nat} (hn:n<=1073741824) (rest:List UInt8):G8 (AR n++rest) false=(n,rest,false):=by
 unfold G8
 rw[if_neg (by decide),NH 5 n 0 0 rest I I I (.inr Z)]
 simp
theorem LS: ∀ k:Nat,k<4-> ∀ t:Bool,let c:=k+if t then 16 else 0;c<32/\(c&&&15)=k/\(!decide (((c&&&16:Nat):Int)=0))=t:=by decide
theorem Pn {e:cd} (h:lj e): ∃ c x,eV e=c::x/\vN c x=true/\(ur c x).1=e:=by
 obtain⟨h1,h2,h3,h4,-⟩:=rJ h
 refine⟨oF e,oE e.nums++e.text.data.toList,rfl,?_⟩
 obtain⟨ep,pid,ver,seq,kind,txn,text⟩:=e
 simp only[cd.nums,ay,bu,or_false,forall_eq_or_imp,forall_eq]at h3
 dsimp only at h1 h2
 obtain⟨a1,a2,a3,a4⟩:=h3
 obtain⟨n1,rfl⟩: ∃ n:Nat,ep=n:=⟨ep.toNat,by omega⟩
 obtain⟨n2,rfl⟩: ∃ n:Nat,pid=n:=⟨pid.toNat,by omega⟩
 obtain⟨n3,rfl⟩: ∃ n:Nat,ver=n:=⟨ver.toNat,by omega⟩
 obtain⟨n4,rfl⟩: ∃ n:Nat,seq=n:=⟨seq.toNat,by omega⟩
 obtain⟨k,rfl⟩: ∃ n:Nat,kind=n:=⟨kind.toNat,by omega⟩
 have hb:oE (cd.nums ⟨(n1:Nat),(n2:Nat),(n3:Nat),(n4:Nat),(k:Nat),txn,text⟩)++text.data.toList=AR n1++(AR n2++(AR n3++(AR n4++text.data.toList))):=by
  simp[oE,cd.nums]
 obtain⟨j1,j2,j3⟩:=LS k I txn
 have hkb:(oF ⟨(n1:Nat),(n2:Nat),(n3:Nat),(n4:Nat),(k:Nat),txn,text⟩).toNat=k+if txn then 16 else 0:=by
  unfold oF
  exact Er _ (by simp only[lR];exact Nat.lt_trans j1 (by decide))
 have hE:ur (oF ⟨(n1:Nat),(n2:Nat),(n3:Nat),(n4:Nat),(k:Nat),txn,text⟩) (AR n1++(AR n2++(AR n3++(AR n4++text.data.toList))))=(⟨(n1:Nat),(n2:Nat),(n3:Nat),(n4:Nat),(k:Nat),txn,text⟩,false):=by
  unfold ur
  simp only[Br (show n1<=1073741824 by omega),Br (show n2<=1073741824 by omega),Br (show n3<=1073741824 by omega),Br (show n4<=1073741824 by omega),hkb,j2,j3]
 dsimp only
 rw[hb]
 refine⟨?_,by rw[hE]⟩
 unfold vN
 rw[hE,hkb]
 simp[j1,show eA _=0 from h]
theorem Ib (e:cd):(mL e).length=(eV e).length+3:=by simp[mL]
theorem Nm {e:cd} (h:lj e) (rest:List UInt8):step (mL e++rest)=some (e,(mL e).length):=by
 obtain⟨hl,h0⟩:=zV h
 have hs:=Fv (eV e)
 obtain⟨c,x,h1,h2,h3⟩:=Pn h
 have e1:mL e++rest=UInt8.ofNat (eV e).length::(eV e++(UInt8.ofNat (mV (eV e)/256)::UInt8.ofNat (mV (eV e)%256)::rest)):=by simp[mL]
 rw[e1,step,Er _ I,if_neg (by simp only[av,bf];omega)]
 have t1:(eV e++(UInt8.ofNat (mV (eV e)/256)::UInt8.ofNat (mV (eV e)%256)::rest)).take (eV e).length=eV e:=jq
 have t2:(eV e++(UInt8.ofNat (mV (eV e)/256)::UInt8.ofNat (mV (eV e)%256)::rest)).getD (eV e).length 0=UInt8.ofNat (mV (eV e)/256):=by
  rw[cS,cy (ap _),mQ];rfl
 have t3:(eV e++(UInt8.ofNat (mV (eV e)/256)::UInt8.ofNat (mV (eV e)%256)::rest)).getD ((eV e).length+1) 0=UInt8.ofNat (mV (eV e)%256):=by
  rw[cS,cy I,pg];rfl
 rw[t1,t2,t3,Er _ I,Er _ I,if_neg (fun h=>h (Nat.div_add_mod' _ _).symm)]
 have t4:(eV e++(UInt8.ofNat (mV (eV e)/256)::UInt8.ofNat (mV (eV e)%256)::rest)).headD 0=c:=by rw[h1];rfl
 rw[t4,Ib]
 rw[h1]
 simp[h2,h3]
theorem KF: ∀ (es:List cd) (rest:List UInt8),(∀ e∈es,lj e)->step rest=none->M2 (bJ es++rest) es (bJ es).length
 |[],rest,_,h=> .stop h
 |e::es,rest,hg,h=>by
  have h1:=Nm (hg e (aA ..)) (bJ es++rest)
  have h2:=KF es rest (fun x hx=>hg x (aj _ hx)) h
  have e1:bJ (e::es)++rest=mL e++(bJ es++rest):=by simp[bJ]
  have e2:(bJ (e::es)).length=(mL e).length+(bJ es).length:=by simp[bJ]
  rw[e1,e2]
  exact .go h1 (by rw[List.drop_left];exact h2)
theorem rK {l:List UInt8} {es es':List cd} {n n':Nat} (h:M2 l es n) (h':M2 l es' n'):es=es'/\n=n':=by
 induction h generalizing es' n' with
 |stop h=>cases h' with
  |stop=>exact⟨rfl,rfl⟩
  |go h1 _=>rw[h]at h1;cases h1
 |go h hd ih=>cases h' with
  |stop h1=>rw[h]at h1;cases h1
  |go h1 hd1=>
   rw[h]at h1
   injection h1 with h1;injection h1 with h1 h2
   subst h1;subst h2
   obtain⟨a,b⟩:=ih hd1
   exact⟨by rw[a],by rw[b]⟩
theorem OO (e:cd):bJ [e]=mL e:=by simp[bJ]
theorem Mm {es:List cd} {k:Nat} (h:k<es.length):bJ (es.take (k+1))=bJ (es.take k)++mL es[k]:=by
 unfold bJ
 rw[Fh h,kc,List.flatMap_singleton]
theorem fX (es:List cd) (k:Nat):(bJ (es.take k)).length<=(bJ es).length:=by
 have:bJ es=bJ (es.take k)++bJ (es.drop k):=by
  unfold bJ;rw[<-kc,g7]
 rw[this,av];omega
def e0:cd:=⟨0,1,0,0,2,true,⟨#[]⟩⟩
section
open Go.ChangeShapes Go.WideShapes Go.ChangeAt Go.RowKit Go.Eng
/-- the row's end, out of a function's contract -/
theorem Lk {f:FuncId} {vs:List Value} {w:World} (h:di aa f vs w fun v w2=>v=.bool true/\Below w.heap.size w w2):Calls aa f vs.toArray w fun e w'=>e=.returned (.bool true)/\Below w.heap.size w w':=
 Calls.mono h fun _ _ ⟨_,he,hv,hb⟩=>⟨by rw[he,hv],hb⟩
end


/-- picked -/
def pk (n:Int) (m:Nat):Nat:=(if n<0 then(-(n+1)).toNat else n.toNat)%m
theorem lE (n:Int) {m:Nat} (h:0<m):pk n m<m:=jU _ h
theorem fz (n:Int) (m:Nat) (w:World) (h1: -9223372036854775808<=n) (h2:n<=9223372036854775807) (hm:0<m) (hm2:m<=1000000000000):
  di aa uy [J n,J (m:Nat)] w fun v w2=>v=J (pk n m:Nat)/\Below w.heap.size w w2:=by
 refine aG tP Z Z ?_
 have H:=Hp.start w
 refine W ?_
 refine Zr ?_
 refine pK Z Z ?_
 refine U<|W ?_
 obtain⟨a,ha⟩: ∃ a:Nat,(if n<0 then(-(n+1)).toNat else n.toNat)=a:=⟨_,rfl⟩
 refine gp (τ:=Unit) [5,6,7,8,9,0] (fun _=>[(0,J (a:Nat))]) (fun _ w'=>Hp w w' [] []) ?_ ?_
 ·refine C6 ?_
  refine Zr ?_
  refine iN Z Z ?_
  refine Jm Z Z Z (fun h6=> ?_) (fun h6=> ?_)
  all_goals refine nL ?_
  ·refine qg Z ?_
   refine Zr ?_
   refine iN Z Z ?_
   refine G (SE Z Z I I)<|G (Sc Z I I) ?_
   refine pK Z Z ?_
   refine U ?_
   have e: -(n+1)=(a:Nat):=by rw[if_pos h6]at ha;omega
   rw[e]
   refine⟨(),H,ef Z,by repeat (first|exact GM.refl _ _|exact nj|refine lV Z ?_|refine jZ _ Z ?_)⟩
  ·refine oY Z ?_
   refine Zk ?_
   have e:n=(a:Nat):=by rw[if_neg h6]at ha;omega
   subst e
   refine⟨(),H,ef Z,by repeat (first|exact GM.refl _ _|exact nj|refine lV Z ?_|refine jZ _ Z ?_)⟩
 rintro _ ρ1 w1 H
 show CW _ _ _ _ (dO (ij _ _ ρ1) [(0,J (a:Nat))]) w1
 refine W ?_
 refine Zr ?_
 refine iN Z Z ?_
 refine iN Z Z ?_
 refine rem Z Z I I Z ?_
 refine pK Z Z ?_
 refine U<|Zt ?_
 have e:((a:Int)%(m:Int))=(pk n m:Nat):=by unfold pk;rw[ha];rfl
 rw[e]
 exact cU (v:=J (pk n m:Nat)) Z Z ⟨rfl,H.below⟩
structure J5 where
 kind:Int
 a:Int
 b:Int
 c:Int
def J5.cs (r:J5):List Value:=[J r.kind,J r.a,J r.b,J r.c]
def I3:fu J5:=⟨J5.cs,4,fun _=>rfl,by decide,fun a u hu=>by
 simp only[J5.cs,ay,bu,or_false]at hu
 rcases hu with h|h|h|h<;>subst h<;>rfl⟩
def i64 (n:Int):Prop:= -9223372036854775808<=n/\n<=9223372036854775807
def J5.ok (r:J5):Prop:=i64 r.kind/\i64 r.a/\i64 r.b/\i64 r.c
def wQ (n:Nat):List UInt8:=if h:n=0 then []else UInt8.ofNat (97+n%10)::wQ (n/10)
termination_by n
decreasing_by omega
theorem Em {n:Nat} (h:0<n):wQ n=UInt8.ofNat (97+n%10)::wQ (n/10):=by rw[wQ,dif_neg I]
theorem xq:wQ 0=[]:=by rw[wQ];simp
theorem zb: ∀ (k n:Nat),n<10 ^ k->(wQ n).length<=k
 |0,n,h=>by
  have:n=0:=by simpa using h
  subst this;rw[xq];simp
 |k+1,n,h=>by
  by_cases hn:n=0
  subst hn;rw[xq];simp
  rw[Em I]
  have:=zb k (n/10) (by rw[Nat.pow_succ]at h;omega)
  simp;omega
def wP (n:Int):ByteArray:=⟨(wQ (pk n 10000)).toArray⟩
theorem SB (a b:List UInt8):(⟨a.toArray⟩:ByteArray)++⟨b.toArray⟩=⟨(a++b).toArray⟩:=by
 apply ByteArray.ext
 simp
theorem Ek (n:Int):(wP n).size<=4:=by
 have:=zb 4 (pk n 10000) (lE n (by decide))
 simpa [wP,ByteArray.size]using this
theorem PU (n:Int) (w:World) (hn:i64 n):di aa wB [J n] w fun v w2=>v=.string (wP n)/\Below w.heap.size w w2:=by
 refine aG vo Z Z ?_
 have H:=Hp.start w
 obtain⟨hn1,hn2⟩:=hn
 have hpk:=lE n (show 0<10000 by decide)
 refine W<|Zr<|G (Wt Z)<|U<|W<|Zr<|G (Wt Z)<|U<|W<|W<|Zr<|G (Yi Z)<|cE bH (fz _ 10000 _ I I (by decide) (by decide)) Z Z ?_
 rintro _ w1 ⟨rfl,hb⟩;replace H:=H.later hb;clear hb
 refine G (Wi Z)<|U<|Zb ?_
 refine bV (τ:=Nat×List UInt8) [0,3,6,7,8,9,10,11,12,13,14,15,16] (fun(m,s)=>[(0,J (m:Nat)),(3,.string ⟨s.toArray⟩)]) (fun(m,s) w'=>m<10000/\s++wQ m=wQ (pk n 10000)/\Hp w w' [] []) (fun(m,_)=>m) (pk n 10000,[]) ⟨hpk,rfl,H⟩ (jT Z Z) ?_
 rintro⟨m,s⟩ ρ1 w1 ⟨hm,hs,H⟩
 show CW _ _ _ _ (dO (ij _ _ ρ1) [(0,J (m:Nat)),(3,.string ⟨s.toArray⟩)]) w1
 have hsl:(⟨s.toArray⟩:ByteArray).size<=4:=by
  have h4:=zb 4 (pk n 10000) (by simpa using hpk)
  rw[<-hs,av]at h4
  show s.toArray.size<=4
  simp;omega
 refine W<|W<|Zr<|G (Yi Z) ?_
 refine dZ (nC Z Z) Z Z Z (fun h7=> ?_) (fun h7=> ?_)
 ·
  refine U<|ZT Z<|Zk<|W<|Zb<|Zr<|G (Yt Z)<|G (Yi Z)<|G (Rz Z Z I I)<|G (bn Z Z I I) ?_
  have e13:(97:Int)+(m:Int)%10=(97+m%10:Nat):=by omega
  rw[e13]
  refine G (E5 iK ER Z (RQ I))<|G (Su ER jf Z Z I)<|G (NE Z Z (by simp only[ByteArray.size]at hsl⊢;simp at hsl⊢;omega)) ?_
  rw[show(⟨#[UInt8.ofNat (97+m%10)]⟩:ByteArray)=⟨[UInt8.ofNat (97+m%10)].toArray⟩from rfl,SB]
  refine G (Wt Z)<|U<|Zr<|G (Yi Z)<|G (SV Z Z I I I)<|G (Wi Z)<|U ?_
  refine⟨(m/10,s++[UInt8.ofNat (97+m%10)]),⟨by omega,by rw[<-hs,Em (n:=m) I];simp,H⟩,jT Z Z,by repeat (first|exact GM.refl _ _|exact nj|refine lV Z ?_|refine jZ _ Z ?_),by show m/10<m;omega⟩
 ·
  refine U<|ZF Z<|Zx<|W<|Zr<|G (Yt Z)<|G (Wt Z)<|U<|Zt ?_
  have hm0:m=0:=by omega
  subst hm0
  rw[xq,aP]at hs
  subst hs
  exact cU (v:=.string (wP n)) Z Z ⟨rfl,H.below⟩
def J5.entry (r:J5):cd:=
 let p:=pk r.b 4
 if p=0 then⟨pk r.a 4,0,0,0,1,false,wP r.c⟩
 else if pk r.kind 6=0∨pk r.kind 6=1 then⟨pk r.a 4,p,pk r.a 3,0,2+pk r.c 2,true,⟨#[]⟩⟩
 else⟨pk r.a 4,p,pk r.a 3,pk r.c 5,1,decide (((pk r.c 2:Nat):Int)=0),wP r.c⟩
section
open Go.ChangeShapes Go.WideShapes Go.ChangeAt Go.RowKit Go.Eng
theorem xr {n:Int} (h:(Lit.int .i64 n).wf=true):i64 n:=by
 have: -9223372036854775808<=n/\n<=9223372036854775807:=by simpa [Lit.wf,IntKind.min,IntKind.max,IntKind.signed,IntKind.bits]using h
 exact this
theorem PW:aa.underlying Dn=some (.struct (aa.fieldsOf Dn)):=by kernel_rfl
theorem I2:(aa.fieldsOf Dn).toList.map (fun f=>(f.offset,aa.cellsOf f.type))=[(0,1),(1,1),(2,1),(3,1)]:=by kernel_rfl
theorem NQ:((aa.fieldsOf Dn).toList.all fun f=>pB aa f.type .i64)=true:=by kernel_rfl
theorem Ah:aa.cellsOf Dn=4:=by kernel_rfl
theorem yt {P:Program} {t:TypeId} {k:IntKind} (h:pB P t k=true):P.underlying t=some (.int k):=by
 unfold pB at h
 split at h
 rename_i k' hk;rw[hk,of_decide_eq_true h]
 cases h
section
variable {H:Type} {enc:TypeId×Value->H} {w:World} {base:Nat} {sp:Nat->Bool} {held:Bool}
theorem FE {P:Program} {t:TypeId} {fs:Array Field} (hu:P.underlying t=some (.struct fs)) (hp:fs.toList.map (fun f=>(f.offset,P.cellsOf f.type))=[(0,1),(1,1),(2,1),(3,1)]) (hi:(fs.toList.all fun f=>pB P f.type .i64)=true) (hce:P.cellsOf t=4)
  {n:Nat} {cs:List Value} {x:DataW H×List MemPlace} (h:DataW.trod enc P w base sp held n t cs=some x): ∃ r:J5,cs=r.cs/\r.ok:=by
 obtain⟨xs,k,_,_,hl,hlen,hf⟩:=DataW.trod_struct hu h
 rw[hce]at hl
 obtain⟨fs⟩:=fs
 have hl4:fs.length=4:=by have:=congrArg cY hp;simpa using this
 obtain⟨f0,f1,f2,f3,rfl⟩: ∃ a b c d,fs=[a,b,c,d]:=by
  match fs,hl4 with
  |[a,b,c,d],_=>exact⟨a,b,c,d,rfl⟩
 simp only[dB,mT,List.cons.injEq,Prod.mk.injEq,and_true]at hp
 obtain⟨⟨o0,c0⟩,⟨o1,c1⟩,⟨o2,c2⟩,o3,c3⟩:=hp
 simp only[List.all_cons,List.all_nil,bg,and_true]at hi
 obtain⟨i0,i1,i2,i3⟩:=hi
 obtain⟨v0,v1,v2,v3,rfl⟩: ∃ a b c d,cs=[a,b,c,d]:=by
  match cs,hl with
  |[a,b,c,d],_=>exact⟨a,b,c,d,rfl⟩
 have g0:=hf 0 f0 rfl
 have g1:=hf 1 f1 rfl
 have g2:=hf 2 f2 rfl
 have g3:=hf 3 f3 rfl
 rw[o0,c0]at g0;rw[o1,c1]at g1;rw[o2,c2]at g2;rw[o3,c3]at g3
 have hx:xs.length=4:=by simpa using hlen
 obtain⟨x0,h0⟩: ∃ y,xs[0]? =some y:=⟨_,ai (by omega)⟩
 obtain⟨x1,h1⟩: ∃ y,xs[1]? =some y:=⟨_,ai (by omega)⟩
 obtain⟨x2,h2⟩: ∃ y,xs[2]? =some y:=⟨_,ai (by omega)⟩
 obtain⟨x3,h3⟩: ∃ y,xs[3]? =some y:=⟨_,ai (by omega)⟩
 rw[h0]at g0;rw[h1]at g1;rw[h2]at g2;rw[h3]at g3
 obtain⟨n0,e0,_,w0⟩:=DataW.trod_int (yt i0) g0
 obtain⟨n1,e1,_,w1⟩:=DataW.trod_int (yt i1) g1
 obtain⟨n2,e2,_,w2⟩:=DataW.trod_int (yt i2) g2
 obtain⟨n3,e3,_,w3⟩:=DataW.trod_int (yt i3) g3
 simp at e0 e1 e2 e3
 subst e0 e1 e2 e3
 exact⟨⟨n0,n1,n2,n3⟩,rfl,xr w0,xr w1,xr w2,xr w3⟩
theorem Lx {n:Nat} {cs:List Value} {x:DataW H×List MemPlace} (h:DataW.trod enc aa w base sp held n Dn cs=some x): ∃ r:J5,cs=r.cs/\r.ok:=
 FE PW I2 NQ Ah h
theorem HA:aa.cellsOf cM=1:=by kernel_rfl
theorem PV:aa.underlying cM=some (.int .i64):=by kernel_rfl
theorem L0 {n:Nat} {cs:List Value} {x:DataW H×List MemPlace} (h:DataW.trod enc aa w base sp held n cM cs=some x): ∃ r:Int,cs=bR.f r/\i64 r:=by
 obtain⟨m,rfl,_,wm⟩:=DataW.trod_int PV h
 exact⟨m,rfl,xr wm⟩
theorem G1 {α:Type} {Y:fu α} {T e:TypeId} (hT:aa.underlying T=some (.slice e)) (hce:aa.cellsOf e=Y.sz) (ok:α->Prop) (hel: ∀ n cs x,DataW.trod enc aa w base sp held n e cs=some x-> ∃ r:α,cs=Y.f r/\ok r)
  {A:Option Addr} {l c:Nat} {d:DataW H} {ps:List MemPlace} (h:DataW.Trod enc aa w base sp held T (.slice A l c) d ps):
  ∃ rs:List α,rs.length=l/\l<=c/\c<=maxLen/\Rd Y 0 w.heap.size A rs w/\ ∀ r∈rs,ok r:=by
 obtain⟨fuel,hf⟩:=h
 rcases Go.Deep.open_slice hT hf with⟨hcs,_⟩|⟨a,len,cap,m,n,D,Pl,hcs,_,hl,hm,hmm,_,hx⟩
 simp[Value.cells]at hcs
 obtain⟨rfl,rfl,rfl⟩:=hcs
 exact⟨[],rfl,ap _,aV _,Rd.nil,by simp⟩
 simp[Value.cells]at hcs
 obtain⟨rfl,rfl,rfl⟩:=hcs
 have hlm:l<=m:=by rw[hmm];split<;>omega
 have each: ∀ i,i<l-> ∃ r:α,ok r/\ ∀ j u,(Y.f r)[j]? =some u->w.cell? ((a.add (i*Y.sz)).add j)=some u:=by
  intro i hi
  obtain⟨cs',h1,h2⟩:=hx i (by omega)
  obtain⟨r,hr,hok⟩:=hel _ _ _ h2
  rw[hce]at h1
  obtain⟨_,hlen,hcell⟩:=World.cells?_some h1
  refine⟨r,hok,fun j u hj=> ?_⟩
  have hjl:j<Y.sz:=by
   have:=(aC.1 hj).1
   rwa[Y.len]at this
  rw[hcell j hjl,hr,hj]
 have build: ∀ k,k<=l-> ∃ rs:List α,rs.length=k/\(∀ r∈rs,ok r)/\ ∀ i r,rs[i]? =some r-> ∀ j u,(Y.f r)[j]? =some u->w.cell? ((a.add (i*Y.sz)).add j)=some u:=by
  intro k
  induction k with
  |zero=>intro _;exact⟨[],rfl,by simp,by simp⟩
  |succ k ih=>
   intro hk
   obtain⟨rs,h1,h2,h3⟩:=ih (by omega)
   obtain⟨r,hok,hr⟩:=each k (by omega)
   refine⟨rs++[r],by simp[h1],?_,?_⟩
   intro q hq
   rcases ar.1 hq with hq|hq
   exact h2 q hq
   rw[aq.1 hq];exact hok
   intro i q hq
   by_cases hi:i<rs.length
   rw[bU hi]at hq;exact h3 i q hq
   rw[cy (by omega)]at hq
   have:i=k:=by
    have:=(aC.1 hq).1
    simp at this;omega
   subst this
   rw[<-h1]at hq hr⊢
   simp at hq
   rw[<-hq];exact hr
 obtain⟨rs,h1,h2,h3⟩:=build l (ap _)
 refine⟨rs,h1,hl,hm,fun h0=> ?_,h2⟩
 obtain⟨r0,hr0e⟩: ∃ r,rs[0]? =some r:=⟨_,ai h0⟩
 have hpos:0<(Y.f r0).length:=by rw[Y.len];exact Y.pos
 obtain⟨u0,hu0⟩: ∃ u,(Y.f r0)[0]? =some u:=⟨_,ai hpos⟩
 have hc0:=h3 0 r0 hr0e 0 u0 hu0
 have hz:(a.add (0*Y.sz)).add 0=a:=by simp[Addr.add]
 rw[hz]at hc0
 have hs:=World.cell?_spot hc0
 obtain⟨b,o,s⟩:=a
 simp only at hs
 subst hs
 refine⟨b,o,rfl,aV _,?_,fun j u hj=> ?_⟩
 unfold World.cell? at hc0
 split at hc0
 rename_i hb;exact bX hb
 cases hc0
 have hjl:j<rs.length*Y.sz:=by
  have:=(aC.1 hj).1
  rwa[fu.length]at this
 have hq:j/Y.sz<rs.length:=by rw[Nat.div_lt_iff_lt_mul Y.pos];exact hjl
 have hm2:j%Y.sz<Y.sz:=jU _ Y.pos
 have hdm:j/Y.sz*Y.sz+j%Y.sz=j:=Nat.div_add_mod' j Y.sz
 have hg:=fu.get (Y:=Y) hq hm2
 rw[hdm,hj]at hg
 have:=h3 (j/Y.sz) _ (ai hq) (j%Y.sz) u hg.symm
 rw[Addr.add_lit,Addr.add_lit,lx,hdm]at this
 exact this
end
end
section
open Go.ChangeShapes Go.WideShapes Go.ChangeAt Go.RowKit
theorem M7 (r:List Char):wordsSigns (' '::r)=[]::wordsSigns r:=by rw[wordsSigns]
theorem M8 (c:Char) (hc:c≠' ') (l w:List Char) (ws:List (List Char)) (h:wordsSigns l=w::ws):wordsSigns (c::l)=(c::w)::ws:=by
 rw[wordsSigns,h]
 exact hc
theorem tz: ∀ (a r:List Char),(∀ c∈a,c≠' ')->wordsSigns (a++' '::r)=a::wordsSigns r
 |[],r,_=>M7 r
 |c::a,r,h=>M8 c (h c (aA ..)) _ _ _ (tz a r fun x hx=>h x (aj _ hx))
def yD:List Char:=['a','t',' ','t','a','i','l','r','a','c','e','/','t','a','i','l','r','a','c','e','t','o','p','.','T','o','p','A','t','o','m','i','c',' ','t','a','i','l','r','a','c','e','/','t','a','i','l','r','a','c','e','t','o','p','.','T','o','p','O','r','d','e','r',' ','t','a','i','l','r','a','c','e','/','t','a','i','l','r','a','c','e','t','o','p','.','T','o','p','P','o','l','l','e','d']
def Ky:List Char:=['0','0','7','a','4','d','8','a','1','6','9','9','7','6','b','0','b','a','2','a','a','f','4','c','5','7','c','e','c','0','e','1','c','4','9','7','3','f','a','9','2','c','6','6','3','3','2','3','e','f','8','e','1','4','4','7','1','5','b','d','7','2','c','6']
theorem Q0:Tryz.checked.prog.initOrder=String.ofList (['h','a','r','n','e','s','s']++' '::(Ky++' '::(['c','u','t']++' '::yD))):=by kernel_rfl
theorem tO:behindMainWord (wordsSigns Tryz.checked.prog.initOrder.toList)=['c','u','t']::wordsSigns yD:=by
 rw[Q0,String.toList_ofList,tz _ _ (by decide),tz _ _ (by decide+kernel),tz _ _ (by decide)]
 have hs:isSumSigns Ky=true:=by decide+kernel
 simp[behindMainWord,hs]
theorem Ty: "gc".toList=['g','c']:=by simp
theorem RT: "spec".toList=['s','p','e','c']:=by simp
theorem Ru: "cut".toList=['c','u','t']:=by simp
theorem QM {P:Program} {c:List Char} {r:List (List Char)} (h:behindMainWord (wordsSigns P.initOrder.toList)=c::r) (hg:(c== "gc".toList||c== "spec".toList)=false) (hc:(c== "cut".toList||(c== "finals".toList&&r.head? ==some "cut".toList))=true):P.make=some .cut:=by
 unfold Program.make
 rw[h]
 simp only[hg,hc]
 rfl
theorem Sx:(['c','u','t']== "gc".toList||['c','u','t']== "spec".toList)=false:=by rw[Ty,RT];decide
theorem Tb (r:List (List Char)):(['c','u','t']== "cut".toList||(['c','u','t']== "finals".toList&&r.head? ==some "cut".toList))=true:=by rw[Ru];rfl
theorem Ez (ws:List (List Char)):stripLifts liftWords (['c','u','t']::ws)=([],['c','u','t']::ws):=by
 simp[stripLifts,liftWords]
theorem O3 {P:Program} {c:List Char} {r:List (List Char)} (h:behindMainWord (wordsSigns P.initOrder.toList)=c::r) (hs:stripLifts liftWords (c::r)=([],c::r)) (hc:(c== "cut".toList)=true) (hl:P.laysLater=false) (hb:P.bearsReflect=false) (hd:P.doorFits []=true):P.mayEnter=true:=by
 have e:((c::r).head? ==some "cut".toList)=true:=by
  rw[eq_of_beq hc];simp
 unfold Program.mayEnter
 rw[h]
 simp only[hs,hl,hb,hd,e]
 simp
theorem Q9:(['c','u','t']== "cut".toList)=true:=by rw[Ru];rfl
theorem Jy:Tryz.checked.prog.headLifts=[]:=by
 unfold Program.headLifts
 rw[tO]
 generalize wordsSigns yD=ws
 simp[Ez]
theorem Hu:Tryz.checked.prog.liftsFinal=false:=by
 unfold Program.liftsFinal
 rw[tO,Jy]
 generalize wordsSigns yD=ws
 simp
theorem Ov:Tryz.checked.prog.make=some .cut:=QM tO Sx (Tb _)
theorem Jp:Tryz.checked.prog.laysLater=false:=by kernel_rfl
theorem Ee:Tryz.checked.prog.bearsReflect=false:=by kernel_rfl
theorem Mv:Tryz.checked.prog.doorFits []=true:=by kernel_rfl
theorem LM:Tryz.checked.prog.mayEnter=true:=O3 tO (Ez _) Q9 Jp Ee Mv
theorem Jb:ownKnob aa.godebug=none:=by kernel_rfl
theorem wh:laidOutB Tryz.checked.prog=true:=by kernel_rfl
theorem Jj:mapsRowed Tryz.checked.prog=true:=by kernel_rfl
theorem Ob:(Tryz.checked.prog.stops==[])=true:=by kernel_rfl
theorem Oc:(Tryz.checked.prog.stopKnobs==[])=true:=by kernel_rfl
theorem I6:Tryz.checked.prog.plainKeys=true:=by kernel_rfl
theorem GZ:Tryz.checked.prog.stopsHeard=true:=by kernel_rfl
end
theorem KE {e:cd} (h:lj e):(mL e).length<=64:=by
 have:=(zV h).1
 rw[Ib];omega
theorem Gp: ∀ (es:List cd),(∀ e∈es,lj e)->(bJ es).length<=64*es.length
 |[],_=>by simp[bJ]
 |e::es,h=>by
  have h1:=KE (h e (aA ..))
  have h2:=Gp es fun x hx=>h x (aj _ hx)
  have:bJ (e::es)=mL e++bJ es:=by simp[bJ]
  rw[this];simp;omega
theorem vB (es:List cd) (h: ∀ e∈es,lj e):M2 (bJ es) es (bJ es).length:=by
 have:=KF es [] h Z
 rwa[aP]at this
theorem bZ {α:Type} {l:List α} {k:Nat} {e:α} (h:l[k]? =some e): ∃ hk:k<l.length,l[k]=e:=aC.1 h
theorem vv {es:List cd} {k:Nat} {e:cd} (h:es[k]? =some e):bJ (es.take (k+1))=bJ (es.take k)++mL e:=by
 obtain⟨hk,rfl⟩:=bZ h
 exact Mm hk
structure Prod where
 ver:Int
 seq:Int
 open_:Int
 mark:Int
def Prod.c (p:Prod):List Value:=[J p.ver,J p.seq,J p.open_,J p.mark]
def p0:Prod:=⟨0,-1,-1,-1⟩
abbrev KO:TypeId:=81
theorem sS:Hr aa KO cM IC=true:=by kernel_rfl
def pv (e:cd) (p:Prod):Prod:=if e.ver≠p.ver then⟨e.ver,-1,p.open_,p.mark⟩else p
def fl (i:Nat) (e:cd) (p:Prod):Prod:=
 if e.kind≠1 then⟨(pv e p).ver,(pv e p).seq,-1,i⟩
 else if e.txn=true/\(pv e p).open_<0 then⟨(pv e p).ver,e.seq,i,(pv e p).mark⟩
 else⟨(pv e p).ver,e.seq,(pv e p).open_,(pv e p).mark⟩
def fv (es:List cd) (pid:Int):Option Prod:=
 es.zipIdx.foldl (fun a q=>if q.1.pid≠0/\q.1.pid=pid then some (fl q.2 q.1 (a.getD p0))else a) none
theorem LA (pid:Int):fv [] pid=none:=rfl
theorem qw (es:List cd) (e:cd) (pid:Int):fv (es++[e]) pid=if e.pid≠0/\e.pid=pid then some (fl es.length e ((fv es pid).getD p0))else fv es pid:=by
 unfold fv
 rw[List.zipIdx_append,List.foldl_append]
 simp
theorem ed {α:Type} {l:List α} {k:Nat} {e:α} (h:l[k]? =some e):l.take (k+1)=l.take k++[e]:=by
 obtain⟨hk,rfl⟩:=bZ h
 exact Fh hk
theorem B6 {es:List cd} {k:Nat} {e:cd} (h:es[k]? =some e) (pid:Int):fv (es.take (k+1)) pid=if e.pid≠0/\e.pid=pid then some (fl k e ((fv (es.take k) pid).getD p0))else fv (es.take k) pid:=by
 obtain⟨hk,-⟩:=bZ h
 rw[ed h,qw,aI,bE I]
abbrev PB:=Int×Nat×Prod
abbrev DE (b:Nat):Value:=.pointer (Qd b)
def rU (S:List PB):List (Int×Value):=S.map fun q=>(q.1,DE q.2.1)
def zm (q:PB):Nat×Obj:=(q.2.1,.cells q.2.2.c.toArray mh (0,0))
def jM (bm:Nat) (S:List PB):List (Nat×Obj):=(bm,va (rU S))::S.map zm
def wz (S:List PB) (pid:Int):Option Prod:=(S.find? (fun q=>decide (q.1=pid))).map (·.2.2)
theorem v8 (S:List PB):(rU S).map (·.1)=S.map (·.1):=by simp[rU]
theorem Hd {S:List PB} {j:Nat} {pid:Int} {b:Nat} {p:Prod} (h:S[j]? =some (pid,b,p)):(rU S)[j]? =some (pid,DE b):=by simp[rU,h]
theorem gG {S:List PB} {j:Nat} {pid:Int} {b:Nat} {p p':Prod} (h:S[j]? =some (pid,b,p)):rU (S.set j (pid,b,p'))=rU S:=by
 unfold rU
 apply dg
 intro i
 rw[aJ,aJ,lQ]
 split
 rename_i hij;subst hij
 obtain⟨hlt,hg⟩:=bZ h
 simp[hlt,hg]
 rfl
theorem OE {S:List PB} {j:Nat} {pid:Int} {b:Nat} {p p':Prod} (h:S[j]? =some (pid,b,p)):(S.set j (pid,b,p')).map (·.1)=S.map (·.1):=by
 rw[<-v8,gG h,v8]
theorem Hj {S:List PB} {j:Nat} {q:PB} (h:S[j]? =some q):(zm q::(S.eraseIdx j).map zm).Perm (S.map zm):=by
 obtain⟨hlt,rfl⟩:=bZ h
 have:=Go.ChangeMaps.set_perm S j hlt S[j]
 rw[List.set_getElem_self]at this
 exact(this.map zm).symm
theorem ju {S:List PB} {j:Nat} {q q':PB} (h:S[j]? =some q):((S.set j q').map zm).Perm (zm q'::(S.eraseIdx j).map zm):=by
 obtain⟨hlt,-⟩:=bZ h
 exact(Go.ChangeMaps.set_perm S j hlt q').map zm
theorem EQ {S:List PB} {pid:Int} (h: ∀ q∈S,q.1≠pid):wz S pid=none:=by
 unfold wz
 rw[Dy.2 (fun q hq=>by simpa using h q hq)];rfl
theorem wg {S:List PB} (hn:(S.map (·.1)).Nodup) {j:Nat} {pid:Int} {b:Nat} {p:Prod} (h:S[j]? =some (pid,b,p)):wz S pid=some p:=by
 unfold wz
 induction S generalizing j with
 |nil=>simp at h
 |cons q r ih=>
  simp only[dB,jB]at hn
  cases j with
  |zero=>simp at h;subst h;simp
  |succ j=>
   simp only[pi]at h
   have hne: ¬ q.1=pid:=fun e=>hn.1 (bK.2 ⟨_,ab h,e.symm⟩)
   rw[pT (by simpa using hne)]
   exact ih hn.2 h
theorem Cr (S:List PB) (pid:Int):(∀ q∈S,q.1≠pid)∨ ∃ (j b:Nat) (p:Prod),S[j]? =some (pid,b,p):=by
 by_cases h: ∃ q∈S,q.1=pid
 obtain⟨⟨a,b,p⟩,hq,rfl⟩:=h
 obtain⟨j,hj⟩:=aN.1 hq
 exact .inr ⟨j,b,p,hj⟩
 exact .inl fun q hq e=>h ⟨q,hq,e⟩
theorem Oz (S:List PB) (q:PB) {pid:Int} (h:q.1≠pid):wz (S++[q]) pid=wz S pid:=by
 unfold wz
 rw[List.find?_append,pT (by simpa using h)]
 simp
theorem Oy {S:List PB} {j:Nat} {k:Int} {b:Nat} {p p':Prod} (h:S[j]? =some (k,b,p)) {pid:Int} (hp:k≠pid):wz (S.set j (k,b,p')) pid=wz S pid:=by
 unfold wz
 induction S generalizing j with
 |nil=>simp at h
 |cons q r ih=>
  cases j with
  |zero=>
   simp at h;subst h
   simp only[uv]
   rw[pT (by simpa using hp),pT (by simpa using hp)]
  |succ j=>
   simp only[pi]at h
   simp only[Dx,List.find?_cons]
   split
   rfl
   exact ih h
def PS (S:List PB) (es:List cd):Prop:=(S.map (·.1)).Nodup/\ ∀ pid,wz S pid=fv es pid
theorem Qn {S:List PB} {es:List cd} {k:Nat} {e:cd} (h:es[k]? =some e) (h0:e.pid=0) (hs:PS S (es.take k)):PS S (es.take (k+1)):=
 ⟨hs.1,fun pid=>by rw[B6 h,if_neg (fun x=>x.1 h0)];exact hs.2 pid⟩
theorem lr {S:List PB} {es:List cd} {k j:Nat} {e:cd} {b:Nat} {p:Prod} (h:es[k]? =some e) (h0:e.pid≠0) (hn:(S.map (·.1)).Nodup) (hj:S[j]? =some (e.pid,b,p)) (hp:p=(fv (es.take k) e.pid).getD p0) (ho: ∀ pid,pid≠e.pid->wz S pid=fv (es.take k) pid) {p':Prod} (hp':p'=fl k e p):
  PS (S.set j (e.pid,b,p')) (es.take (k+1)):=by
 have hn':((S.set j (e.pid,b,p')).map (·.1)).Nodup:=by rw[OE hj];exact hn
 refine⟨hn',fun pid=> ?_⟩
 rw[B6 h]
 by_cases hpid:e.pid=pid
 subst hpid
 obtain⟨hlt,-⟩:=bZ hj
 rw[if_pos ⟨h0,rfl⟩,wg hn' (ak hlt),hp',<-hp]
 rw[if_neg (fun x=>hpid x.2),Oy hj hpid]
 exact ho pid (Ne.symm hpid)
theorem EG (es:List cd) (A:Option Addr) (c:Nat) (w:World) (hr:Rd gC 0 w.heap.size A es w) (hb:es.length<=1000000):
  di aa DK [.slice A es.length c] w fun v w2=> ∃ S bm,v=.map (some bm)/\PS S es/\Hp w w2 (jM bm S) []:=by
 refine aG CP Z Z ?_
 have H:=Hp.startRd hr
 refine W<|Zr<|G (Px Z)<|U<|W<|Zr<|Us H Z fun w1 bm H=>G (Px Z)<|U<|W<|W<|Zr<|G (Ys Z)<|G (bl dW Z)<|G (Yi Z)<|U<|Zb ?_
 refine bV (τ:=Nat×List PB) [4,5,6,10,11,12,13,14,15,16,17,18,19,20,21,22,23,24,25,26,27,28,29,30,31,32,33,34,35,36,37,38,39,40,41,42,43,44,45,46,47,48,49,50,51,52,53,54,55,56,57,58,59,60,61,62,63,64,65,66,67,68,69,70,71,72,73,74] (fun(k,S)=>[(10,J (k:Nat))]) (fun(k,S) w'=>k<=es.length/\PS S (es.take k)/\Hp w w' (jM bm S) [ee gC 0 w.heap.size A es]) (fun(k,_)=>es.length-k) (0,[]) ⟨by omega,⟨List.nodup_nil,fun pid=>rfl⟩,H⟩ (ef Z) ?_
 rintro⟨k,S⟩ ρ1 w2 ⟨hk,hS,H⟩
 show CW _ _ _ _ (dO (ij _ _ ρ1) [(10,J (k:Nat))]) w2
 refine W<|Zr ?_
 refine dZ (cI Z Z) Z Z Z (fun h11=> ?_) (fun h11=> ?_)
 ·
  refine U<|W<|ZT Z<|Zk<|W<|Zb<|W<|Zr<|G (Yi Z)<|rE H 0 Z dY Z Z I I Z fun b3 o3 x3 e3=>G (jF (xs:=cd.c x3) dJ Z Z e3.cl)<|fc H gz Z fun w4 b5 H=>G (Wi Z)<|PO H 0 eX Z Z Z Z Z Z fun w5 H=>U<|W<|W<|Zr<|G (Zf ft Z)<|G (Zd al H 0 Z Z Z) ?_
  refine dZ (cr Z Z) Z Z Z (fun h17=> ?_) (fun h17=> ?_)
  ·
   refine U<|ZT Z<|Zx<|Zr<|G (bn Z Z I I)<|G (Yi Z)<|U ?_
   refine⟨(k+1,S),⟨by have:=(bZ e3.at_).1;omega,Qn e3.at_ h17 hS,H.forget (aS _ _) (fun _ h=>h)⟩,ef Z,Qg,by show es.length- (k+1)<es.length-k;omega⟩
  ·
   refine U<|ZF Z<|Zk<|W<|Zr<|G (On Z)<|G (Zf ft Z)<|G (Zd al H 0 Z Z Z) ?_
   rcases Cr S x3.pid with hno|⟨j,b,p,hj⟩
   ·
    refine G (RG sS rx Z Z (H.ent (i:=1) Z) (by intro q hq;obtain⟨a,ha,rfl⟩:=bK.1 hq;exact hno a ha))<|G (Wp Z)<|U<|W ?_
    refine gp (τ:=List PB×Nat×Nat×Prod) [6,22,23,24,25,26,27,28,29] (fun(S1,j,b,p)=>[(6,DE b)]) (fun(S1,j,b,p) w'=>(S1.map (·.1)).Nodup/\S1[j]? =some (x3.pid,b,p)/\p=(fv (es.take k) x3.pid).getD p0/\(∀ pid,pid≠x3.pid->wz S1 pid=fv (es.take k) pid)/\Hp w w' ((b,.cells p.c.toArray mh (0,0))::(b5,.cells (cd.c x3).toArray dy (0,0))::(bm,va (rU S1))::(S1.eraseIdx j).map zm) [ee gC 0 w.heap.size A es]) ?_ ?_
    ·skip
     refine W<|Zr<|G (Yp Z)<|G (zl ol Z)<|U<|ZT Z<|W<|Zr<|G (bp (cs:=(Prod.c p0).toArray) z6 BK N)<|gU H Z Z fun w6 b25 H=>G (Wp Z)<|U<|Zr<|G (On Z)<|G (Zf ft Z)<|G (Zd al H 1 Z Z Z)<|G (Yp Z)<|Ur H 2 sS Z Z Z Z (by intro q hq;obtain⟨a,ha,rfl⟩:=bK.1 hq;exact hno a ha) fun w7 H=>U ?_
     have hj:(S++[(x3.pid,b25,p0)])[S.length]? =some (x3.pid,b25,p0):=by simp
     have hkn:wz S x3.pid=none:=EQ hno
     rw[hS.2]at hkn
     refine⟨(S++[(x3.pid,b25,p0)],S.length,b25,p0),⟨?_,hj,by rw[hkn];rfl,fun pid hpid=>by rw[Oz _ _ (Ne.symm hpid)];exact hS.2 pid,?_⟩,ef Z,Qg⟩
     ·rw[bi];exact pQ.2 ⟨hS.1,by simp,by intro a ha c hc;simp at hc;subst hc;obtain⟨q,hq,rfl⟩:=bK.1 ha;exact hno q hq⟩
     ·have hmm:rU (S++[(x3.pid,b25,p0)])=rU S++[(x3.pid,DE b25)]:=by simp[rU]
      have hee:(S++[(x3.pid,b25,p0)]).eraseIdx S.length=S:=by rw[List.eraseIdx_append_of_length_le (ap _)];simp
      rw[hmm,hee];exact H
    rintro⟨S1,j,b,p⟩ ρ2 w8 ⟨hn,hj,hp,ho,H⟩
    show CW _ _ _ _ (dO (ij _ _ ρ2) [(6,DE b)]) w8
    refine W<|W ?_
    refine bG cv [0,1,2,3,4,5,6] [] [] [0,2,3,4,6] (sp []) N N N N Nq (cG _) ?_
    refine aw Z Z Z Z Z (fun w' hw'=>Zf eO Z)<|aw Z Z Z Z Z (fun w' hw'=>bd al Z (aK ((H.later hw').ent (i:=1) Z) Z))<|aw Z Z Z Z Z (fun w' hw'=>Yp Z)<|aw Z Z Z Z Z (fun w' hw'=>aM Z)<|aw Z Z Z Z Z (fun w' hw'=>Zf j6 Z)<|aw Z Z Z Z Z (fun w' hw'=>bd al Z (aK ((H.later hw').ent (i:=0) Z) Z)) ?_
    refine SC Z Z Z Z Z (fun w' hw'=>jv Z Z) (fun h36=> ?_) (fun h36=> ?_)
    ·
     refine aT ?_
     intro w9 hw' hF
     replace H:=H.later hw';clear hw' hF
     refine U<|ZT Z<|Zr<|G (Yp Z)<|G (Yp Z)<|G (Zf eO Z)<|G (Zd al H 1 Z Z Z)<|G (aM Z)<|G (Zf j6 Z)<|bI H 0 ((Prod.c ⟨x3.ver,p.seq,p.open_,p.mark⟩).toArray) bN Z Z Z Z Z N N fun w10 H=>G (aM Z)<|G (Zf fA Z)<|bI H 0 ((Prod.c ⟨x3.ver,-1,p.open_,p.mark⟩).toArray) bN Z Z Z Z Z N N fun w11 H=>U<|Zb<|W<|Zr<|G (Zf fh Z)<|G (Zd al H 1 Z Z Z) ?_
     refine sU (jv Z Z) Z Z Z (fun h66=> ?_) (fun h66=> ?_)
     ·
      refine G (Wb Z)<|U<|ZT Z<|Zr<|G (Yp Z)<|G (Yp Z)<|G (Yi Z)<|G (aM Z)<|G (Zf en Z)<|bI H 0 ((Prod.c ⟨x3.ver,-1,-1,p.mark⟩).toArray) bN Z Z Z Z Z N N fun w12 H=>G (aM Z)<|G (Zf iw Z)<|bI H 0 ((Prod.c ⟨x3.ver,-1,-1,k⟩).toArray) bN Z Z Z Z Z N N fun w13 H=>U<|Zr<|G (bn Z Z I I)<|G (Yi Z)<|U ?_
      have hst:(⟨x3.ver,-1,-1,k⟩:Prod)=fl k x3 p:=by
       simp[fl,pv,h36,h66]
      have hP:=ju (q':=(x3.pid,b,(⟨x3.ver,-1,-1,k⟩:Prod))) hj
      refine⟨(k+1,S1.set j (x3.pid,b,(⟨x3.ver,-1,-1,k⟩:Prod))),⟨by omega,lr e3.at_ h17 hn hj hp ho hst,(H.perm (L':=(b5,_)::jM bm (S1.set j (x3.pid,b,_))) (by unfold jM;rw[gG hj];exact((hP.cons _).cons _).trans (((am _ _ _).cons _).trans (am _ _ _)))).forget (aS _ _) (fun _ h=>h)⟩,ef Z,Qg,by show es.length- (k+1)<es.length-k;omega⟩
     ·
      refine G (Wb Z)<|U<|ZF Z<|W<|Zr<|G (Yp Z)<|G (Zf fi Z)<|G (Zd al H 1 Z Z Z)<|G (aM Z)<|G (Zf fA Z)<|bI H 0 ((Prod.c ⟨x3.ver,x3.seq,p.open_,p.mark⟩).toArray) bN Z Z Z Z Z N N fun w14 H=>U<|W<|Zr<|G (Zf jk Z) ?_
      refine By (bd eP Z (aK (H.ent (i:=1) Z) Z)) Z Z Z (fun h51=> ?_) (fun h51=> ?_)
      ·
       refine G (Yb Z)<|ZG<|G (Yp Z)<|ZG<|G (aM Z)<|ZG<|G (Zf en Z)<|ZG<|G (Zd al H 0 Z Z Z)<|ZG ?_
       refine dZ (cI Z Z) Z Z Z (fun h57=> ?_) (fun h57=> ?_)
       ·
        refine G (Kt Z Z)<|U<|ZT Z<|Zr<|G (Yp Z)<|G (Yi Z)<|G (aM Z)<|G (Zf en Z)<|bI H 0 ((Prod.c ⟨x3.ver,x3.seq,k,p.mark⟩).toArray) bN Z Z Z Z Z N N fun w15 H=>U<|Zr<|G (bn Z Z I I)<|G (Yi Z)<|U ?_
        replace h57:p.open_<0:=h57
        have hst:(⟨x3.ver,x3.seq,k,p.mark⟩:Prod)=fl k x3 p:=by
         simp[fl,pv,h36,h66,h51,h57]
        have hP:=ju (q':=(x3.pid,b,(⟨x3.ver,x3.seq,k,p.mark⟩:Prod))) hj
        refine⟨(k+1,S1.set j (x3.pid,b,(⟨x3.ver,x3.seq,k,p.mark⟩:Prod))),⟨by omega,lr e3.at_ h17 hn hj hp ho hst,(H.perm (L':=(b5,_)::jM bm (S1.set j (x3.pid,b,_))) (by unfold jM;rw[gG hj];exact((hP.cons _).cons _).trans (((am _ _ _).cons _).trans (am _ _ _)))).forget (aS _ _) (fun _ h=>h)⟩,ef Z,Qg,by show es.length- (k+1)<es.length-k;omega⟩
       ·
        refine G (Kt Z Z)<|U<|ZF Z<|Zk<|Zr<|G (bn Z Z I I)<|G (Yi Z)<|U ?_
        replace h57: ¬ p.open_<0:=h57
        have hst:(⟨x3.ver,x3.seq,p.open_,p.mark⟩:Prod)=fl k x3 p:=by
         simp[fl,pv,h36,h66,h51,h57]
        have hP:=ju (q':=(x3.pid,b,(⟨x3.ver,x3.seq,p.open_,p.mark⟩:Prod))) hj
        refine⟨(k+1,S1.set j (x3.pid,b,(⟨x3.ver,x3.seq,p.open_,p.mark⟩:Prod))),⟨by omega,lr e3.at_ h17 hn hj hp ho hst,(H.perm (L':=(b5,_)::jM bm (S1.set j (x3.pid,b,_))) (by unfold jM;rw[gG hj];exact((hP.cons _).cons _).trans (((am _ _ _).cons _).trans (am _ _ _)))).forget (aS _ _) (fun _ h=>h)⟩,ef Z,Qg,by show es.length- (k+1)<es.length-k;omega⟩
      ·
       refine G (Yb Z)<|ZN<|ZN<|ZN<|ZN<|ZN<|G (N Z Z)<|U<|ZF Z<|Zk<|Zr<|G (bn Z Z I I)<|G (Yi Z)<|U ?_
       have hst:(⟨x3.ver,x3.seq,p.open_,p.mark⟩:Prod)=fl k x3 p:=by
        simp[fl,pv,h36,h66,h51]
       have hP:=ju (q':=(x3.pid,b,(⟨x3.ver,x3.seq,p.open_,p.mark⟩:Prod))) hj
       refine⟨(k+1,S1.set j (x3.pid,b,(⟨x3.ver,x3.seq,p.open_,p.mark⟩:Prod))),⟨by omega,lr e3.at_ h17 hn hj hp ho hst,(H.perm (L':=(b5,_)::jM bm (S1.set j (x3.pid,b,_))) (by unfold jM;rw[gG hj];exact((hP.cons _).cons _).trans (((am _ _ _).cons _).trans (am _ _ _)))).forget (aS _ _) (fun _ h=>h)⟩,ef Z,Qg,by show es.length- (k+1)<es.length-k;omega⟩
    ·
     refine aT ?_
     intro w16 hw' hF
     replace H:=H.later hw';clear hw' hF
     refine U<|ZF Z<|Zk<|Zb<|W<|Zr<|G (Zf fh Z)<|G (Zd al H 1 Z Z Z) ?_
     refine sU (jv Z Z) Z Z Z (fun h66=> ?_) (fun h66=> ?_)
     ·
      refine G (Wb Z)<|U<|ZT Z<|Zr<|G (Yp Z)<|G (Yp Z)<|G (Yi Z)<|G (aM Z)<|G (Zf en Z)<|bI H 0 ((Prod.c ⟨p.ver,p.seq,-1,p.mark⟩).toArray) bN Z Z Z Z Z N N fun w17 H=>G (aM Z)<|G (Zf iw Z)<|bI H 0 ((Prod.c ⟨p.ver,p.seq,-1,k⟩).toArray) bN Z Z Z Z Z N N fun w18 H=>U<|Zr<|G (bn Z Z I I)<|G (Yi Z)<|U ?_
      have hst:(⟨p.ver,p.seq,-1,k⟩:Prod)=fl k x3 p:=by
       simp[fl,pv,h36,h66]
      have hP:=ju (q':=(x3.pid,b,(⟨p.ver,p.seq,-1,k⟩:Prod))) hj
      refine⟨(k+1,S1.set j (x3.pid,b,(⟨p.ver,p.seq,-1,k⟩:Prod))),⟨by omega,lr e3.at_ h17 hn hj hp ho hst,(H.perm (L':=(b5,_)::jM bm (S1.set j (x3.pid,b,_))) (by unfold jM;rw[gG hj];exact((hP.cons _).cons _).trans (((am _ _ _).cons _).trans (am _ _ _)))).forget (aS _ _) (fun _ h=>h)⟩,ef Z,Qg,by show es.length- (k+1)<es.length-k;omega⟩
     ·
      refine G (Wb Z)<|U<|ZF Z<|W<|Zr<|G (Yp Z)<|G (Zf fi Z)<|G (Zd al H 1 Z Z Z)<|G (aM Z)<|G (Zf fA Z)<|bI H 0 ((Prod.c ⟨p.ver,x3.seq,p.open_,p.mark⟩).toArray) bN Z Z Z Z Z N N fun w19 H=>U<|W<|Zr<|G (Zf jk Z) ?_
      refine By (bd eP Z (aK (H.ent (i:=1) Z) Z)) Z Z Z (fun h51=> ?_) (fun h51=> ?_)
      ·
       refine G (Yb Z)<|ZG<|G (Yp Z)<|ZG<|G (aM Z)<|ZG<|G (Zf en Z)<|ZG<|G (Zd al H 0 Z Z Z)<|ZG ?_
       refine dZ (cI Z Z) Z Z Z (fun h57=> ?_) (fun h57=> ?_)
       ·
        refine G (Kt Z Z)<|U<|ZT Z<|Zr<|G (Yp Z)<|G (Yi Z)<|G (aM Z)<|G (Zf en Z)<|bI H 0 ((Prod.c ⟨p.ver,x3.seq,k,p.mark⟩).toArray) bN Z Z Z Z Z N N fun w20 H=>U<|Zr<|G (bn Z Z I I)<|G (Yi Z)<|U ?_
        replace h57:p.open_<0:=h57
        have hst:(⟨p.ver,x3.seq,k,p.mark⟩:Prod)=fl k x3 p:=by
         simp[fl,pv,h36,h66,h51,h57]
        have hP:=ju (q':=(x3.pid,b,(⟨p.ver,x3.seq,k,p.mark⟩:Prod))) hj
        refine⟨(k+1,S1.set j (x3.pid,b,(⟨p.ver,x3.seq,k,p.mark⟩:Prod))),⟨by omega,lr e3.at_ h17 hn hj hp ho hst,(H.perm (L':=(b5,_)::jM bm (S1.set j (x3.pid,b,_))) (by unfold jM;rw[gG hj];exact((hP.cons _).cons _).trans (((am _ _ _).cons _).trans (am _ _ _)))).forget (aS _ _) (fun _ h=>h)⟩,ef Z,Qg,by show es.length- (k+1)<es.length-k;omega⟩
       ·
        refine G (Kt Z Z)<|U<|ZF Z<|Zk<|Zr<|G (bn Z Z I I)<|G (Yi Z)<|U ?_
        replace h57: ¬ p.open_<0:=h57
        have hst:(⟨p.ver,x3.seq,p.open_,p.mark⟩:Prod)=fl k x3 p:=by
         simp[fl,pv,h36,h66,h51,h57]
        have hP:=ju (q':=(x3.pid,b,(⟨p.ver,x3.seq,p.open_,p.mark⟩:Prod))) hj
        refine⟨(k+1,S1.set j (x3.pid,b,(⟨p.ver,x3.seq,p.open_,p.mark⟩:Prod))),⟨by omega,lr e3.at_ h17 hn hj hp ho hst,(H.perm (L':=(b5,_)::jM bm (S1.set j (x3.pid,b,_))) (by unfold jM;rw[gG hj];exact((hP.cons _).cons _).trans (((am _ _ _).cons _).trans (am _ _ _)))).forget (aS _ _) (fun _ h=>h)⟩,ef Z,Qg,by show es.length- (k+1)<es.length-k;omega⟩
      ·
       refine G (Yb Z)<|ZN<|ZN<|ZN<|ZN<|ZN<|G (N Z Z)<|U<|ZF Z<|Zk<|Zr<|G (bn Z Z I I)<|G (Yi Z)<|U ?_
       have hst:(⟨p.ver,x3.seq,p.open_,p.mark⟩:Prod)=fl k x3 p:=by
        simp[fl,pv,h36,h66,h51]
       have hP:=ju (q':=(x3.pid,b,(⟨p.ver,x3.seq,p.open_,p.mark⟩:Prod))) hj
       refine⟨(k+1,S1.set j (x3.pid,b,(⟨p.ver,x3.seq,p.open_,p.mark⟩:Prod))),⟨by omega,lr e3.at_ h17 hn hj hp ho hst,(H.perm (L':=(b5,_)::jM bm (S1.set j (x3.pid,b,_))) (by unfold jM;rw[gG hj];exact((hP.cons _).cons _).trans (((am _ _ _).cons _).trans (am _ _ _)))).forget (aS _ _) (fun _ h=>h)⟩,ef Z,Qg,by show es.length- (k+1)<es.length-k;omega⟩
   ·
    refine G (RF sS rx Z Z (H.ent (i:=1) Z) (by rw[v8];exact hS.1) (Hd hj))<|G (Wp Z)<|U<|W ?_
    refine gp (τ:=List PB×Nat×Nat×Prod) [6,22,23,24,25,26,27,28,29] (fun(S1,j,b,p)=>[(6,DE b)]) (fun(S1,j,b,p) w'=>(S1.map (·.1)).Nodup/\S1[j]? =some (x3.pid,b,p)/\p=(fv (es.take k) x3.pid).getD p0/\(∀ pid,pid≠x3.pid->wz S1 pid=fv (es.take k) pid)/\Hp w w' ((b,.cells p.c.toArray mh (0,0))::(b5,.cells (cd.c x3).toArray dy (0,0))::(bm,va (rU S1))::(S1.eraseIdx j).map zm) [ee gC 0 w.heap.size A es]) ?_ ?_
    ·skip
     refine W<|Zr<|G (Yp Z)<|G (xw ol Z)<|U<|ZF Z<|Zk ?_
     refine⟨(S,j,b,p),⟨hS.1,hj,by rw[<-hS.2,wg hS.1 hj];rfl,fun pid _=>hS.2 pid,H.perm ?_⟩,ef Z,Qg⟩
     have hP:=Hj hj
     exact((am _ _ _).trans ((am _ _ _).cons _)).trans ((hP.cons _).cons _)
    rintro⟨S1,j,b,p⟩ ρ2 w21 ⟨hn,hj,hp,ho,H⟩
    show CW _ _ _ _ (dO (ij _ _ ρ2) [(6,DE b)]) w21
    refine W<|W ?_
    refine bG cv [0,1,2,3,4,5,6] [] [] [0,2,3,4,6] (sp []) N N N N Nq (cG _) ?_
    refine aw Z Z Z Z Z (fun w' hw'=>Zf eO Z)<|aw Z Z Z Z Z (fun w' hw'=>bd al Z (aK ((H.later hw').ent (i:=1) Z) Z))<|aw Z Z Z Z Z (fun w' hw'=>Yp Z)<|aw Z Z Z Z Z (fun w' hw'=>aM Z)<|aw Z Z Z Z Z (fun w' hw'=>Zf j6 Z)<|aw Z Z Z Z Z (fun w' hw'=>bd al Z (aK ((H.later hw').ent (i:=0) Z) Z)) ?_
    refine SC Z Z Z Z Z (fun w' hw'=>jv Z Z) (fun h36=> ?_) (fun h36=> ?_)
    ·
     refine aT ?_
     intro w22 hw' hF
     replace H:=H.later hw';clear hw' hF
     refine U<|ZT Z<|Zr<|G (Yp Z)<|G (Yp Z)<|G (Zf eO Z)<|G (Zd al H 1 Z Z Z)<|G (aM Z)<|G (Zf j6 Z)<|bI H 0 ((Prod.c ⟨x3.ver,p.seq,p.open_,p.mark⟩).toArray) bN Z Z Z Z Z N N fun w23 H=>G (aM Z)<|G (Zf fA Z)<|bI H 0 ((Prod.c ⟨x3.ver,-1,p.open_,p.mark⟩).toArray) bN Z Z Z Z Z N N fun w24 H=>U<|Zb<|W<|Zr<|G (Zf fh Z)<|G (Zd al H 1 Z Z Z) ?_
     refine sU (jv Z Z) Z Z Z (fun h66=> ?_) (fun h66=> ?_)
     ·
      refine G (Wb Z)<|U<|ZT Z<|Zr<|G (Yp Z)<|G (Yp Z)<|G (Yi Z)<|G (aM Z)<|G (Zf en Z)<|bI H 0 ((Prod.c ⟨x3.ver,-1,-1,p.mark⟩).toArray) bN Z Z Z Z Z N N fun w25 H=>G (aM Z)<|G (Zf iw Z)<|bI H 0 ((Prod.c ⟨x3.ver,-1,-1,k⟩).toArray) bN Z Z Z Z Z N N fun w26 H=>U<|Zr<|G (bn Z Z I I)<|G (Yi Z)<|U ?_
      have hst:(⟨x3.ver,-1,-1,k⟩:Prod)=fl k x3 p:=by
       simp[fl,pv,h36,h66]
      have hP:=ju (q':=(x3.pid,b,(⟨x3.ver,-1,-1,k⟩:Prod))) hj
      refine⟨(k+1,S1.set j (x3.pid,b,(⟨x3.ver,-1,-1,k⟩:Prod))),⟨by omega,lr e3.at_ h17 hn hj hp ho hst,(H.perm (L':=(b5,_)::jM bm (S1.set j (x3.pid,b,_))) (by unfold jM;rw[gG hj];exact((hP.cons _).cons _).trans (((am _ _ _).cons _).trans (am _ _ _)))).forget (aS _ _) (fun _ h=>h)⟩,ef Z,Qg,by show es.length- (k+1)<es.length-k;omega⟩
     ·
      refine G (Wb Z)<|U<|ZF Z<|W<|Zr<|G (Yp Z)<|G (Zf fi Z)<|G (Zd al H 1 Z Z Z)<|G (aM Z)<|G (Zf fA Z)<|bI H 0 ((Prod.c ⟨x3.ver,x3.seq,p.open_,p.mark⟩).toArray) bN Z Z Z Z Z N N fun w27 H=>U<|W<|Zr<|G (Zf jk Z) ?_
      refine By (bd eP Z (aK (H.ent (i:=1) Z) Z)) Z Z Z (fun h51=> ?_) (fun h51=> ?_)
      ·
       refine G (Yb Z)<|ZG<|G (Yp Z)<|ZG<|G (aM Z)<|ZG<|G (Zf en Z)<|ZG<|G (Zd al H 0 Z Z Z)<|ZG ?_
       refine dZ (cI Z Z) Z Z Z (fun h57=> ?_) (fun h57=> ?_)
       ·
        refine G (Kt Z Z)<|U<|ZT Z<|Zr<|G (Yp Z)<|G (Yi Z)<|G (aM Z)<|G (Zf en Z)<|bI H 0 ((Prod.c ⟨x3.ver,x3.seq,k,p.mark⟩).toArray) bN Z Z Z Z Z N N fun w28 H=>U<|Zr<|G (bn Z Z I I)<|G (Yi Z)<|U ?_
        replace h57:p.open_<0:=h57
        have hst:(⟨x3.ver,x3.seq,k,p.mark⟩:Prod)=fl k x3 p:=by
         simp[fl,pv,h36,h66,h51,h57]
        have hP:=ju (q':=(x3.pid,b,(⟨x3.ver,x3.seq,k,p.mark⟩:Prod))) hj
        refine⟨(k+1,S1.set j (x3.pid,b,(⟨x3.ver,x3.seq,k,p.mark⟩:Prod))),⟨by omega,lr e3.at_ h17 hn hj hp ho hst,(H.perm (L':=(b5,_)::jM bm (S1.set j (x3.pid,b,_))) (by unfold jM;rw[gG hj];exact((hP.cons _).cons _).trans (((am _ _ _).cons _).trans (am _ _ _)))).forget (aS _ _) (fun _ h=>h)⟩,ef Z,Qg,by show es.length- (k+1)<es.length-k;omega⟩
       ·
        refine G (Kt Z Z)<|U<|ZF Z<|Zk<|Zr<|G (bn Z Z I I)<|G (Yi Z)<|U ?_
        replace h57: ¬ p.open_<0:=h57
        have hst:(⟨x3.ver,x3.seq,p.open_,p.mark⟩:Prod)=fl k x3 p:=by
         simp[fl,pv,h36,h66,h51,h57]
        have hP:=ju (q':=(x3.pid,b,(⟨x3.ver,x3.seq,p.open_,p.mark⟩:Prod))) hj
        refine⟨(k+1,S1.set j (x3.pid,b,(⟨x3.ver,x3.seq,p.open_,p.mark⟩:Prod))),⟨by omega,lr e3.at_ h17 hn hj hp ho hst,(H.perm (L':=(b5,_)::jM bm (S1.set j (x3.pid,b,_))) (by unfold jM;rw[gG hj];exact((hP.cons _).cons _).trans (((am _ _ _).cons _).trans (am _ _ _)))).forget (aS _ _) (fun _ h=>h)⟩,ef Z,Qg,by show es.length- (k+1)<es.length-k;omega⟩
      ·
       refine G (Yb Z)<|ZN<|ZN<|ZN<|ZN<|ZN<|G (N Z Z)<|U<|ZF Z<|Zk<|Zr<|G (bn Z Z I I)<|G (Yi Z)<|U ?_
       have hst:(⟨x3.ver,x3.seq,p.open_,p.mark⟩:Prod)=fl k x3 p:=by
        simp[fl,pv,h36,h66,h51]
       have hP:=ju (q':=(x3.pid,b,(⟨x3.ver,x3.seq,p.open_,p.mark⟩:Prod))) hj
       refine⟨(k+1,S1.set j (x3.pid,b,(⟨x3.ver,x3.seq,p.open_,p.mark⟩:Prod))),⟨by omega,lr e3.at_ h17 hn hj hp ho hst,(H.perm (L':=(b5,_)::jM bm (S1.set j (x3.pid,b,_))) (by unfold jM;rw[gG hj];exact((hP.cons _).cons _).trans (((am _ _ _).cons _).trans (am _ _ _)))).forget (aS _ _) (fun _ h=>h)⟩,ef Z,Qg,by show es.length- (k+1)<es.length-k;omega⟩
    ·
     refine aT ?_
     intro w29 hw' hF
     replace H:=H.later hw';clear hw' hF
     refine U<|ZF Z<|Zk<|Zb<|W<|Zr<|G (Zf fh Z)<|G (Zd al H 1 Z Z Z) ?_
     refine sU (jv Z Z) Z Z Z (fun h66=> ?_) (fun h66=> ?_)
     ·
      refine G (Wb Z)<|U<|ZT Z<|Zr<|G (Yp Z)<|G (Yp Z)<|G (Yi Z)<|G (aM Z)<|G (Zf en Z)<|bI H 0 ((Prod.c ⟨p.ver,p.seq,-1,p.mark⟩).toArray) bN Z Z Z Z Z N N fun w30 H=>G (aM Z)<|G (Zf iw Z)<|bI H 0 ((Prod.c ⟨p.ver,p.seq,-1,k⟩).toArray) bN Z Z Z Z Z N N fun w31 H=>U<|Zr<|G (bn Z Z I I)<|G (Yi Z)<|U ?_
      have hst:(⟨p.ver,p.seq,-1,k⟩:Prod)=fl k x3 p:=by
       simp[fl,pv,h36,h66]
      have hP:=ju (q':=(x3.pid,b,(⟨p.ver,p.seq,-1,k⟩:Prod))) hj
      refine⟨(k+1,S1.set j (x3.pid,b,(⟨p.ver,p.seq,-1,k⟩:Prod))),⟨by omega,lr e3.at_ h17 hn hj hp ho hst,(H.perm (L':=(b5,_)::jM bm (S1.set j (x3.pid,b,_))) (by unfold jM;rw[gG hj];exact((hP.cons _).cons _).trans (((am _ _ _).cons _).trans (am _ _ _)))).forget (aS _ _) (fun _ h=>h)⟩,ef Z,Qg,by show es.length- (k+1)<es.length-k;omega⟩
     ·
      refine G (Wb Z)<|U<|ZF Z<|W<|Zr<|G (Yp Z)<|G (Zf fi Z)<|G (Zd al H 1 Z Z Z)<|G (aM Z)<|G (Zf fA Z)<|bI H 0 ((Prod.c ⟨p.ver,x3.seq,p.open_,p.mark⟩).toArray) bN Z Z Z Z Z N N fun w32 H=>U<|W<|Zr<|G (Zf jk Z) ?_
      refine By (bd eP Z (aK (H.ent (i:=1) Z) Z)) Z Z Z (fun h51=> ?_) (fun h51=> ?_)
      ·
       refine G (Yb Z)<|ZG<|G (Yp Z)<|ZG<|G (aM Z)<|ZG<|G (Zf en Z)<|ZG<|G (Zd al H 0 Z Z Z)<|ZG ?_
       refine dZ (cI Z Z) Z Z Z (fun h57=> ?_) (fun h57=> ?_)
       ·
        refine G (Kt Z Z)<|U<|ZT Z<|Zr<|G (Yp Z)<|G (Yi Z)<|G (aM Z)<|G (Zf en Z)<|bI H 0 ((Prod.c ⟨p.ver,x3.seq,k,p.mark⟩).toArray) bN Z Z Z Z Z N N fun w33 H=>U<|Zr<|G (bn Z Z I I)<|G (Yi Z)<|U ?_
        replace h57:p.open_<0:=h57
        have hst:(⟨p.ver,x3.seq,k,p.mark⟩:Prod)=fl k x3 p:=by
         simp[fl,pv,h36,h66,h51,h57]
        have hP:=ju (q':=(x3.pid,b,(⟨p.ver,x3.seq,k,p.mark⟩:Prod))) hj
        refine⟨(k+1,S1.set j (x3.pid,b,(⟨p.ver,x3.seq,k,p.mark⟩:Prod))),⟨by omega,lr e3.at_ h17 hn hj hp ho hst,(H.perm (L':=(b5,_)::jM bm (S1.set j (x3.pid,b,_))) (by unfold jM;rw[gG hj];exact((hP.cons _).cons _).trans (((am _ _ _).cons _).trans (am _ _ _)))).forget (aS _ _) (fun _ h=>h)⟩,ef Z,Qg,by show es.length- (k+1)<es.length-k;omega⟩
       ·
        refine G (Kt Z Z)<|U<|ZF Z<|Zk<|Zr<|G (bn Z Z I I)<|G (Yi Z)<|U ?_
        replace h57: ¬ p.open_<0:=h57
        have hst:(⟨p.ver,x3.seq,p.open_,p.mark⟩:Prod)=fl k x3 p:=by
         simp[fl,pv,h36,h66,h51,h57]
        have hP:=ju (q':=(x3.pid,b,(⟨p.ver,x3.seq,p.open_,p.mark⟩:Prod))) hj
        refine⟨(k+1,S1.set j (x3.pid,b,(⟨p.ver,x3.seq,p.open_,p.mark⟩:Prod))),⟨by omega,lr e3.at_ h17 hn hj hp ho hst,(H.perm (L':=(b5,_)::jM bm (S1.set j (x3.pid,b,_))) (by unfold jM;rw[gG hj];exact((hP.cons _).cons _).trans (((am _ _ _).cons _).trans (am _ _ _)))).forget (aS _ _) (fun _ h=>h)⟩,ef Z,Qg,by show es.length- (k+1)<es.length-k;omega⟩
      ·
       refine G (Yb Z)<|ZN<|ZN<|ZN<|ZN<|ZN<|G (N Z Z)<|U<|ZF Z<|Zk<|Zr<|G (bn Z Z I I)<|G (Yi Z)<|U ?_
       have hst:(⟨p.ver,x3.seq,p.open_,p.mark⟩:Prod)=fl k x3 p:=by
        simp[fl,pv,h36,h66,h51]
       have hP:=ju (q':=(x3.pid,b,(⟨p.ver,x3.seq,p.open_,p.mark⟩:Prod))) hj
       refine⟨(k+1,S1.set j (x3.pid,b,(⟨p.ver,x3.seq,p.open_,p.mark⟩:Prod))),⟨by omega,lr e3.at_ h17 hn hj hp ho hst,(H.perm (L':=(b5,_)::jM bm (S1.set j (x3.pid,b,_))) (by unfold jM;rw[gG hj];exact((hP.cons _).cons _).trans (((am _ _ _).cons _).trans (am _ _ _)))).forget (aS _ _) (fun _ h=>h)⟩,ef Z,Qg,by show es.length- (k+1)<es.length-k;omega⟩
 ·
  refine U<|W<|ZF Z<|Zx<|W<|Zr<|G (On Z)<|G (Px Z)<|U<|Zt ?_
  have hke:k=es.length:=by omega
  subst hke
  rw[br]at hS
  exact cU (v:=.map (some bm)) Z Z ⟨S,bm,rfl,hS,H.forget (au _) (by simp)⟩
/-- an entry of a transaction that has no end yet -/
def jh (es:List cd) (k:Nat) (pid:Int):Prop:= ∃ e,es[k]? =some e/\e.kind=1/\e.txn=true/\e.pid=pid/\pid≠0/\ ∀ j f,k<j->es[j]? =some f->f.pid=pid->f.kind=1
theorem jD {es:List cd} {x:cd} {k:Nat} {pid:Int}:jh (es++[x]) k pid↔(k<es.length/\jh es k pid/\(x.pid=pid->x.kind=1))∨(k=es.length/\x.kind=1/\x.txn=true/\x.pid=pid/\pid≠0):=by
 constructor
 rintro⟨e,h1,h2,h3,h4,h5,h6⟩
 have hk:=(aC.1 h1).1
 simp at hk
 by_cases hkl:k<es.length
 left
 rw[bU hkl]at h1
 refine⟨hkl,⟨e,h1,h2,h3,h4,h5,fun j f hj hf hp=>h6 j f hj (by rw[bU (aC.1 hf).1];exact hf) hp⟩,fun hp=>h6 es.length x hkl (by simp) hp⟩
 right
 have:k=es.length:=by omega
 subst this
 simp at h1
 subst h1
 exact⟨rfl,h2,h3,h4,h5⟩
 rintro(⟨hk,⟨e,h1,h2,h3,h4,h5,h6⟩,hx⟩|⟨rfl,h2,h3,h4,h5⟩)
 refine⟨e,by rw[bU hk];exact h1,h2,h3,h4,h5,fun j f hj hf hp=> ?_⟩
 by_cases hjl:j<es.length
 rw[bU hjl]at hf;exact h6 j f hj hf hp
 have hj2:=(aC.1 hf).1
 simp at hj2
 have:j=es.length:=by omega
 subst this
 simp at hf
 subst hf
 exact hx hp
 refine⟨x,by simp,h2,h3,h4,h5,fun j f hj hf _=> ?_⟩
 have hj2:=(aC.1 hf).1
 simp at hj2
 omega
structure MT (es:List cd) (pid:Int) (p:Prod):Prop where
 opn:p.open_= -1∨ ∃ k:Nat,p.open_=k/\jh es k pid
 least: ∀ k,jh es k pid->0<=p.open_/\p.open_<=k
 mark:p.mark= -1∨ ∃ (k:Nat) (e:cd),p.mark=k/\es[k]? =some e/\e.pid=pid/\e.kind≠1
 seq:p.seq= -1∨ ∃ e∈es,e.pid=pid/\e.kind=1/\p.seq=e.seq/\p.ver=e.ver
 ver: ∃ e∈es,e.pid=pid/\p.ver=e.ver
theorem EH {es:List cd} {x:cd} {p:Prod} (h0:x.pid≠0) (h:p=p0/\(∀ k,¬ jh es k x.pid)∨MT es x.pid p):MT (es++[x]) x.pid (fl es.length x p):=by
 have hpv:(pv x p).ver=x.ver/\(pv x p).open_=p.open_/\(pv x p).mark=p.mark/\((pv x p).seq= -1∨((pv x p).seq=p.seq/\p.ver=x.ver)):=by
  unfold pv
  split
  exact⟨rfl,rfl,rfl,.inl Z⟩
  rename_i hv
  have hv':x.ver=p.ver:=Classical.not_not.1 hv
  exact⟨hv'.symm,rfl,rfl,.inr ⟨rfl,hv'.symm⟩⟩
 obtain⟨v1,v2,v3,v4⟩:=hpv
 have hxm:x∈es++[x]:=by simp
 have hmark:p.mark= -1∨ ∃ (k:Nat) (e:cd),p.mark=k/\(es++[x])[k]? =some e/\e.pid=x.pid/\e.kind≠1:=by
  rcases h with⟨rfl,_⟩|h
  exact .inl Z
  rcases h.mark with h|⟨k,e,h1,h2,h3,h4⟩
  exact .inl h
  exact .inr ⟨k,e,h1,by rw[bU (aC.1 h2).1];exact h2,h3,h4⟩
 have hseq:(pv x p).seq= -1∨ ∃ e∈es++[x],e.pid=x.pid/\e.kind=1/\(pv x p).seq=e.seq/\x.ver=e.ver:=by
  rcases v4 with h1|⟨h1,h2⟩
  exact .inl h1
  rcases h with⟨rfl,_⟩|h
  exact .inl h1
  rcases h.seq with h|⟨e,he,a1,a2,a3,a4⟩
  exact .inl (h1.trans h)
  exact .inr ⟨e,gk _ he,a1,a2,h1.trans a3,h2.symm.trans a4⟩
 unfold fl
 split
 rename_i hk
 refine⟨.inl Z,fun k hok=> ?_,.inr ⟨es.length,x,rfl,by simp,rfl,hk⟩,?_,⟨x,hxm,rfl,v1⟩⟩
 rcases jD.1 hok with⟨_,_,h⟩|⟨_,h,_⟩
 exact absurd (h Z) hk
 exact absurd h hk
 rcases hseq with h|⟨e,he,a1,a2,a3,a4⟩
 exact .inl h
 exact .inr ⟨e,he,a1,a2,a3,v1.trans a4⟩
 rename_i hk
 have hk1:x.kind=1:=Classical.not_not.1 hk
 have hold: ∀ k,jh es k x.pid->jh (es++[x]) k x.pid:=fun k hok=>jD.2 (.inl ⟨by obtain⟨e,h,_⟩:=hok;exact(aC.1 h).1,hok,fun _=>hk1⟩)
 split
 rename_i ht
 rw[v2]at ht
 refine⟨.inr ⟨es.length,rfl,jD.2 (.inr ⟨rfl,hk1,ht.1,rfl,h0⟩)⟩,fun k hok=> ?_,by rw[v3];exact hmark,.inr ⟨x,hxm,rfl,hk1,rfl,v1⟩,⟨x,hxm,rfl,v1⟩⟩
 rcases jD.1 hok with⟨_,h1,_⟩|⟨rfl,_⟩
 rcases h with⟨_,hn⟩|h
 exact absurd h1 (hn k)
 have:=h.least k h1;omega
 exact⟨by simp,fj _⟩
 rename_i ht
 rw[v2]at ht
 refine⟨?_,fun k hok=> ?_,by rw[v3];exact hmark,.inr ⟨x,hxm,rfl,hk1,rfl,v1⟩,⟨x,hxm,rfl,v1⟩⟩
 rw[v2]
 rcases h with⟨rfl,_⟩|h
 exact .inl Z
 rcases h.opn with h|⟨k,h1,h2⟩
 exact .inl h
 exact .inr ⟨k,h1,hold k h2⟩
 rw[v2]
 rcases jD.1 hok with⟨_,h1,_⟩|⟨rfl,_,h2,_⟩
 rcases h with⟨_,hn⟩|h
 exact absurd h1 (hn k)
 exact h.least k h1
 rcases h with⟨rfl,_⟩|h
 exact absurd ⟨h2,by decide⟩ ht
 rcases h.opn with h|⟨k,h1,hok2⟩
 exact absurd ⟨h2,by omega⟩ ht
 obtain⟨_,hok3,_⟩:=hok2
 have:=(aC.1 hok3).1
 omega
theorem LD {es:List cd} {x:cd} {pid:Int} {p:Prod} (h0:x.pid≠pid) (h:MT es pid p):MT (es++[x]) pid p:=by
 have hold: ∀ k,jh (es++[x]) k pid↔jh es k pid:=fun k=>by
  rw[jD]
  constructor
  rintro(⟨_,h,_⟩|⟨_,_,_,h,_⟩)
  exact h
  exact absurd h h0
  intro h
  exact .inl ⟨by obtain⟨e,h,_⟩:=h;exact(aC.1 h).1,h,fun h=>absurd h h0⟩
 refine⟨?_,fun k hk=>h.least k ((hold k).1 hk),?_,?_,?_⟩
 rcases h.opn with h|⟨k,h1,h2⟩
 exact .inl h
 exact .inr ⟨k,h1,(hold k).2 h2⟩
 rcases h.mark with h|⟨k,e,h1,h2,h3⟩
 exact .inl h
 exact .inr ⟨k,e,h1,by rw[bU (aC.1 h2).1];exact h2,h3⟩
 rcases h.seq with h|⟨e,he,h⟩
 exact .inl h
 exact .inr ⟨e,gk _ he,h⟩
 obtain⟨e,he,h⟩:=h.ver
 exact⟨e,gk _ he,h⟩
theorem iB (es:List cd) (pid:Int):(∀ p,fv es pid=some p->MT es pid p)/\(fv es pid=none-> ∀ e∈es,e.pid=pid->pid=0):=by
 induction es using Nu with
 |h0=>exact⟨fun p h=>by simp[LA]at h,fun _ e he=>by cases he⟩
 |h1 es x ih=>
  obtain⟨ih1,ih2⟩:=ih
  rw[qw]
  by_cases hc:x.pid≠0/\x.pid=pid
  obtain⟨h0,rfl⟩:=hc
  rw[if_pos ⟨h0,rfl⟩]
  refine⟨fun p hp=> ?_,fun h=>by cases h⟩
  injection hp with hp
  subst hp
  cases hq:fv es x.pid with
  |none=>
   refine EH h0 (.inl ⟨rfl,fun k hok=> ?_⟩)
   obtain⟨e,h1,_,_,h4,h5,_⟩:=hok
   exact h5 (ih2 hq e (ab h1) h4)
  |some q=>exact EH h0 (.inr (ih1 q hq))
  rw[if_neg hc]
  refine⟨fun p hp=> ?_,fun h e he hpe=> ?_⟩
  by_cases hx:x.pid=pid
  have h0:x.pid=0:=Classical.byContradiction fun h=>hc ⟨h,hx⟩
  obtain⟨e,he,h1,h1v⟩:=(ih1 p hp).ver
  have h:=ih1 p hp
  have hz:pid=0:=hx▸h0
  have hnone: ∀ l k,¬ jh l k pid:=fun l k ⟨_,_,_,_,_,h,_⟩=>h hz
  refine⟨?_,fun k hk=>absurd hk (hnone _ k),?_,?_,?_⟩
  rcases h.opn with h|⟨k,_,h2⟩
  exact .inl h
  exact absurd h2 (hnone _ k)
  rcases h.mark with h|⟨k,e,h1,h2,h3⟩
  exact .inl h
  exact .inr ⟨k,e,h1,by rw[bU (aC.1 h2).1];exact h2,h3⟩
  rcases h.seq with h|⟨e,he,h⟩
  exact .inl h
  exact .inr ⟨e,gk _ he,h⟩
  exact⟨e,gk _ he,h1,h1v⟩
  exact LD hx (ih1 p hp)
  rcases ar.1 he with he|he
  exact ih2 h e he hpe
  rw[aq.1 he]at hpe
  exact Classical.byContradiction fun h0=>hc ⟨fun h=>h0 (hpe▸h),hpe⟩
def rW (es:List cd) (n:Nat):Prop:=n<=es.length/\(∀ k pid,jh es k pid->n<=k)/\(n=es.length∨ ∃ pid,jh es n pid)
theorem xF {es:List cd} {n m:Nat} (h:rW es n) (h':rW es m):n=m:=by
 obtain⟨a1,a2,a3⟩:=h
 obtain⟨b1,b2,b3⟩:=h'
 have h1:n<=m:=by
  rcases b3 with h|⟨pid,h⟩
  omega
  exact a2 _ _ h
 have h2:m<=n:=by
  rcases a3 with h|⟨pid,h⟩
  omega
  exact b2 _ _ h
 omega
theorem LZ {es:List cd} {S:List PB} (hS:PS S es) {out:Int} (h1:out<=es.length) (h2: ∀ q∈S,0<=q.2.2.open_->out<=q.2.2.open_) (h3:out=es.length∨ ∃ q∈S,0<=q.2.2.open_/\out=q.2.2.open_): ∃ n:Nat,out=n/\rW es n:=by
 have hq: ∀ q∈S,MT es q.1 q.2.2:=fun q hq=>by
  obtain⟨a,b,p⟩:=q
  obtain⟨j,hj⟩:=aN.1 hq
  have:=wg hS.1 hj
  rw[hS.2]at this
  exact(iB es a).1 p this
 have h4: ∀ k pid,jh es k pid->out<=k:=fun k pid hok=>by
  cases hp:fv es pid with
  |none=>
   obtain⟨e,e1,_,_,e4,e5,_⟩:=hok
   exact absurd ((iB es pid).2 hp e (ab e1) e4) e5
  |some p=>
   have hl:=(((iB es pid).1 p hp).least k hok)
   have hlk:=hS.2 pid
   rw[hp]at hlk
   unfold wz at hlk
   cases hf:S.find? (fun q=>decide (q.1=pid))with
   |none=>rw[hf]at hlk;cases hlk
   |some q=>
    rw[hf]at hlk
    simp at hlk
    have hm:=List.mem_of_find?_eq_some hf
    have:=h2 q hm (by rw[hlk];exact hl.1)
    rw[hlk]at this
    omega
 rcases h3 with rfl|⟨q,hqm,q0,rfl⟩
 exact⟨es.length,rfl,ap _,fun k pid h=>by have:=h4 k pid h;omega,.inl Z⟩
 rcases(hq q hqm).opn with h|⟨k,hk,hok⟩
 omega
 refine⟨k,hk,by omega,fun j pid h=>by have:=h4 j pid h;omega,.inr ⟨_,hok⟩⟩
def vg (es:List cd) (p:Int):Bool:=
 match es.find? (fun e=>!decide (e.kind=1)&&decide (e.pid=p))with
 |some e=>decide (e.kind=2)
 |none=>false
def wV (es:List cd) (i:Nat) (e:cd):Bool:=!e.txn||vg (es.drop (i+1)) e.pid
theorem rD (e:cd) (es:List cd) (p:Int):vg (e::es) p=if¬ e.kind=1/\e.pid=p then decide (e.kind=2)else vg es p:=by
 unfold vg
 rw[List.find?_cons]
 by_cases h1:e.kind=1<;>by_cases h2:e.pid=p<;>simp[h1,h2]
theorem du {α:Type} {l:List α} {k:Nat} {e:α} (h:l[k]? =some e):l.drop k=e::l.drop (k+1):=by
 obtain⟨hk,rfl⟩:=bZ h
 exact nn hk
theorem QS (es:List cd) (A:Option Addr) (c i:Nat) (x:cd) (w:World) (hr:Rd gC 0 w.heap.size A es w) (hi:es[i]? =some x) (hc:es.length<=c) (hb:es.length<=1000000):
  di aa HD [.slice A es.length c,J (i:Nat)] w fun v w2=>v=.bool (wV es i x)/\Below w.heap.size w w2:=by
 refine aG Gg Z Z ?_
 have H:=Hp.startRd hr
 have hil:=(bZ hi).1
 refine W<|Zr<|G (Wb Z)<|U<|W<|W<|Zr<|G (Ys Z)<|G (Yi Z)<|rE H 0 Z dY Z Z I I Z fun b1 o1 x1 e1=> ?_
 obtain rfl:x=x1:=by have:=e1.at_;rw[hi]at this;injection this
 refine G (Zf jk Z) ?_
 refine By (bd eP Z (e1.cl 5 _ Z)) Z Z Z (fun h11=> ?_) (fun h11=> ?_)
 refine G (d9 Z)<|U<|ZF Z<|Zk<|W<|W<|Zr<|G (Ys Z)<|G (Yi Z)<|G (bn Z Z I I) ?_
 have h15:(i:Int)+1=((i+1:Nat):Int):=by omega
 rw[h15]
 refine RY (k:=i+1) H 0 Z dY Z Z Z hc I Z fun A16 H=> ?_
 generalize hds:es.drop (i+1)=ds at H
 have hdl:es.length- (i+1)=ds.length:=by rw[<-hds];simp
 rw[hdl]
 refine G (bl dW Z)<|G (Yi Z)<|U<|Zb ?_
 refine bV (τ:=Nat) [4,6,18,19,20,21,22,23,24,25,26,27,28,29,30,31,32,33,34,35,36,37,38] (fun k=>[(18,J (k:Nat))]) (fun k w'=>k<=ds.length/\vg ds x.pid=vg (ds.drop k) x.pid/\Hp w w' [] [ee gC 0 w.heap.size A16 ds,ee gC 0 w.heap.size A es]) (fun k=>ds.length-k) 0 ⟨by omega,rfl,H⟩ (ef Z) ?_
 rintro k ρ1 w2 ⟨hk,hkp,H⟩
 show CW _ _ _ _ (dO (ij _ _ ρ1) [(18,J (k:Nat))]) w2
 refine W<|Zr ?_
 refine dZ (cI Z Z) Z Z Z (fun h19=> ?_) (fun h19=> ?_)
 refine U<|W<|ZT Z<|Zk<|W<|Zb<|W<|Zr<|rE H 0 Z dY Z Z I I Z fun b3 o3 x3 e3=>G (jF (xs:=cd.c x3) dJ Z Z e3.cl)<|fc H gz Z fun w4 b6 H=>PO H 0 eX Z Z Z Z Z Z fun w5 H=>U<|W ?_
 refine bG cv [0,1,2,3,4,5,6,7,8,9,10,11,12] [] [] [0,2,3,4,6,7,8,9,11,12] (sp []) N N N N Nq (cG _) ?_
 refine aw Z Z Z Z Z (fun w' hw'=>Zf fh Z)<|aw Z Z Z Z Z (fun w' hw'=>bd al Z (aK ((H.later hw').ent (i:=0) Z) Z)) ?_
 refine SC Z Z Z Z Z (fun w' hw'=>jv Z Z) (fun h24=> ?_) (fun h24=> ?_)
 refine aw Z Z Z Z Z (fun w' hw'=>Yb Z)<|aw Z Z Z Z Z (fun w' hw'=>Zf ft Z)<|aw Z Z Z Z Z (fun w' hw'=>bd al Z (aK ((H.later hw').ent (i:=0) Z) Z))<|aw Z Z Z Z Z (fun w' hw'=>Ys Z)<|aw Z Z Z Z Z (fun w' hw'=>Yi Z)<|pP H 1 Z Z Z Z Z dY Z Z I I fun b6 o6 x6 e6=> ?_
 obtain rfl:x=x6:=by have:=e6.at_;rw[hi]at this;injection this
 refine aw Z Z Z Z Z (fun w' hw'=>Zf ft Z)<|aw Z Z Z Z Z (fun w' hw'=>bd al Z (e6.later hw' 1 _ Z)) ?_
 refine Ef Z Z Z Z Z (fun w' hw'=>cr Z Z) (fun h33=> ?_) (fun h33=> ?_)
 refine aw Z Z Z Z Z (fun w' hw'=>Kt Z Z)<|aT ?_
 intro w7 hw' hF
 replace H:=H.later hw';clear hw' hF
 refine U<|ZT Z<|W<|Zr<|G (Zf fh Z)<|G (Zd al H 0 Z Z Z)<|G (cr Z Z)<|G (Wb Z)<|U<|Zt ?_
 have hdk:=du e3.at_
 have hx:wV es i x=decide (x3.kind=2):=by
  unfold wV;rw[h11,hds,hkp,hdk,rD,if_pos ⟨h24,h33⟩];rfl
 exact cU (v:=.bool (decide (x3.kind=2))) Z Z ⟨by rw[hx],H.below⟩
 refine aw Z Z Z Z Z (fun w' hw'=>Kt Z Z)<|aT ?_
 intro w8 hw' hF
 replace H:=H.later hw';clear hw' hF
 refine U<|ZF Z<|Zk<|Zr<|G (bn Z Z I I)<|G (Yi Z)<|U ?_
 have hdk:=du e3.at_
 rw[hdk,rD]at hkp
 rw[if_neg (by rintro⟨a,b⟩;first|exact a h24|exact h33 b)]at hkp
 refine⟨k+1,⟨by omega,hkp,H.forget (by simp) (fun _ h=>h)⟩,ef Z,Qg,by show ds.length- (k+1)<ds.length-k;omega⟩
 refine aw Z Z Z Z Z (fun w' hw'=>Yb Z)<|eW Z Z Z Z<|eW Z Z Z Z<|eW Z Z Z Z<|eW Z Z Z Z<|eW Z Z Z Z<|eW Z Z Z Z<|eW Z Z Z Z<|eW Z Z Z Z<|aw Z Z Z Z Z (fun w' hw'=>N Z Z)<|aT ?_
 intro w9 hw' hF
 replace H:=H.later hw';clear hw' hF
 refine U<|ZF Z<|Zk<|Zr<|G (bn Z Z I I)<|G (Yi Z)<|U ?_
 have hdk:=du e3.at_
 rw[hdk,rD]at hkp
 rw[if_neg (by rintro⟨a,b⟩;first|exact a h24|exact h33 b)]at hkp
 refine⟨k+1,⟨by omega,hkp,H.forget (by simp) (fun _ h=>h)⟩,ef Z,Qg,by show ds.length- (k+1)<ds.length-k;omega⟩
 refine U<|W<|ZF Z<|Zx<|W<|Zr<|G (Wb Z)<|U<|Zt ?_
 have hx:wV es i x=false:=by
  unfold wV;rw[h11,hds,hkp,eE I];rfl
 exact cU (v:=.bool false) Z Z ⟨by rw[hx],H.below⟩
 refine G (d9 Z)<|U<|ZT Z<|W<|Zr<|G (Wb Z)<|U<|Zt ?_
 have hx:wV es i x=true:=by simp[wV,h11]
 exact cU (v:=.bool true) Z Z ⟨by rw[hx],H.below⟩
theorem NW {S:List PB} {m:Nat} {k:Int} {v:Value} (h:(rU S)[m]? =some (k,v)): ∃ (b:Nat) (p:Prod),S[m]? =some (k,b,p)/\v=DE b:=by
 unfold rU at h
 rw[aJ]at h
 cases hs:S[m]? with
 |none=>rw[hs]at h;cases h
 |some q=>
  rw[hs]at h
  obtain⟨a,b,p⟩:=q
  simp at h
  exact⟨b,p,by rw[h.1],h.2.symm⟩
def Fp (n:Nat) (seen:Array Nat):Nat:=((kR n).filter fun m=>!seen.contains m).length
theorem Ep {n m:Nat} {seen:Array Nat} (hm:m<n) (hs:seen.contains m=false):Fp n (seen.push m)<Fp n seen:=by
 unfold Fp
 refine filter_lt _ _ (fun x hx=> ?_) m (by rw[hs];rfl) (by simp) _ (AK.2 hm)
 simp at hx⊢
 exact hx.1
theorem zg (es:List cd) (A:Option Addr) (c n:Nat) (w:World) (hr:Rd gC 0 w.heap.size A es w) (hc:es.length<=c) (hb:es.length<=1000000) (hn:n<=es.length):
  di aa DM [.slice A es.length c,J (n:Nat)] w fun v w2=> ∃ m:Nat,rW (es.take n) m/\v=.tuple #[J (m:Nat),J 0]/\Below w.heap.size w w2:=by
 refine aG CQ Z Z ?_
 have H:=Hp.startRd hr
 refine W<|Zr<|G (Wi Z)<|G (Wi Z)<|U<|W<|W<|Zr<|G (Yi Z)<|G (cV Z Z I)<|G (Yb Z)<|ZG<|G (Yi Z)<|ZG<|G (Ys Z)<|ZG<|G (bl dW Z)<|ZG<|G (dX Z Z I)<|G (N Z Z)<|U<|ZF Z<|Zk<|W<|Zr<|G (Yi Z)<|G (Wi Z)<|U<|W<|W<|Zr<|G (Ys Z)<|G (Yi Z)<|xu (k:=n) H 0 Z dY Z Z hc I Z fun A20 H=> ?_
 obtain⟨ds,hds⟩: ∃ ds,es.take n=ds:=⟨_,rfl⟩
 have hdl:n=ds.length:=by rw[<-hds];simp;omega
 rw[hds]at H⊢
 subst hdl
 refine cE vF (EG ds _ _ _ (H.rd0 0 Z) I) Z Z ?_
 rintro _ w1 ⟨S,bm,rfl,hS,hj⟩;replace H:=H.join hj;clear hj
 refine Ul H 0 sS Z Z Z fun w2 it H=>U<|Zb ?_
 refine bV (τ:=Array Nat×Int) [6,8,23,24,25,26,27,28,29,30,31,32,33,34,35,36,37] (fun(seen,out)=>[(6,J out)]) (fun(seen,out) w'=>out<=ds.length/\(∀ m q,S[m]? =some q->seen.contains m=true->0<=q.2.2.open_->out<=q.2.2.open_)/\(out=ds.length∨ ∃ q∈S,0<=q.2.2.open_/\out=q.2.2.open_)/\Hp w w' ((it,.mapIter (some bm) (rU S).length seen (rU S).length)::(jM bm S++[])) [ee gC 0 w.heap.size A20 ds,ee gC 0 w.heap.size A es]) (fun(seen,_)=>Fp S.length seen) (#[],(ds.length:Int)) ⟨by omega,by simp,.inl Z,H⟩ (ef Z) ?_
 rintro⟨seen,out⟩ ρ1 w3 ⟨ho1,ho2,ho3,H⟩
 show CW _ _ _ _ (dO (ij _ _ ρ1) [(6,J out)]) w3
 refine W<|Zr ?_
 refine Uo H 0 1 Z Z Z Z ?_ ?_
 intro hall
 refine G (Xb Z Z)<|U<|W<|ZF Z<|Zx<|W<|Zr<|G (Yi Z)<|G (Wi Z)<|G (Wi Z)<|U<|Zt ?_
 have hpl:(rU S).length=S.length:=by simp[rU]
 obtain⟨m,rfl,hst⟩:=LZ hS ho1 (fun q hq h0=>by obtain⟨m,hm⟩:=aN.1 hq;exact ho2 m q hm (hall m (by rw[hpl];exact(bZ hm).1)) h0) ho3
 exact mK Z Z Z ⟨m,by first|exact hst|(rw[hds];exact hst),rfl,H.below⟩
 intro m k v w4 hm hsn H
 obtain⟨b,p,hmS,rfl⟩:=NW hm
 have hbk:=H.ent (i:=m+2) (b:=b) (o:=.cells p.c.toArray mh (0,0)) (by simp[jM,zm,hmS])
 have hml:=(bZ hmS).1
 refine G (Xb Z Z)<|U<|W<|ZT Z<|Zk<|Zb<|W<|Zr<|G (S8 Z (H.ent (i:=0) Z) (H.ent (i:=1) Z) hm)<|G (S7 Z Z)<|G (Wp Z)<|U<|W<|Zr<|G (Yp Z)<|G (aM Z)<|G (Zf en Z)<|G (bd al Z (aK hbk Z)) ?_
 refine dZ (pN Z Z) Z Z Z (fun h31=> ?_) (fun h31=> ?_)
 refine U<|ZT Z<|Zr<|G (Yi Z)<|G (Yp Z)<|G (aM Z)<|G (Zf en Z)<|G (bd al Z (aK hbk Z))<|G (zu Z Z)<|G (Wi Z)<|U ?_
 refine⟨(seen.push m,min out p.open_),⟨by omega,fun m2 q hq hs h0=> ?_,?_,H⟩,ef Z,Qg,Ep hml hsn⟩
 rw[Array.contains_push]at hs
 rcases Bool.or_eq_true_iff.1 hs with hs|hs
 have:=ho2 m2 q hq hs h0;omega
 have hmm:m2=m:=by simpa using hs
 subst hmm;rw[hmS]at hq;injection hq with hq;subst hq;try dsimp only at h0⊢
 omega
 by_cases hmin:out<=p.open_
 rw[Int.min_eq_left hmin];exact ho3
 exact .inr ⟨_,ab hmS,h31,by dsimp only;omega⟩
 refine U<|ZF Z<|Zk ?_
 refine⟨(seen.push m,out),⟨by omega,fun m2 q hq hs h0=> ?_,?_,H⟩,ef Z,Qg,Ep hml hsn⟩
 rw[Array.contains_push]at hs
 rcases Bool.or_eq_true_iff.1 hs with hs|hs
 have:=ho2 m2 q hq hs h0;omega
 have hmm:m2=m:=by simpa using hs
 subst hmm;rw[hmS]at hq;injection hq with hq;subst hq;try dsimp only at h0⊢
 exfalso;exact h31 h0
 exact ho3
def xA (es:List cd) (m:Int) (x:cd):Bool:=match es[m.toNat]? with
 |some e=>decide (e.kind=x.kind)&&decide (e.ver=x.ver)
 |none=>false
def lk (x e:cd):Bool:=decide (e.kind=1)&&decide (e.pid=x.pid)&&decide (e.ver=x.ver)&&decide (e.seq=x.seq)
def lB (es:List cd) (x:cd) (p:Prod):Int×Int:=
 if x.ver<p.ver then(0,10)
 else if¬ x.kind=1 then(if p.open_<0/\0<=p.mark/\xA es p.mark x=true then(p.mark,0)else(-1,0))
 else if(if p.ver<x.ver then-1 else p.seq)+1<x.seq then(0,11)
 else if x.seq=(if p.ver<x.ver then-1 else p.seq)+1 then(-1,0)
 else match es.findIdx? (lk x)with
  |some i=>((i:Int),0)
  |none=>(0,11)
def eI (es:List cd) (x:cd):Int×Int:=if x.pid=0 then(-1,0)else lB es x ((fv es x.pid).getD ⟨x.ver,-1,-1,-1⟩)
def Ti (w:World) (es:List cd):Sp:=⟨fun v w2=> ∃ S bm,v=.map (some bm)/\PS S es/\Hp w w2 (jM bm S) [],fun _ _ _ hb ⟨S,bm,h1,h2,h3⟩=>⟨S,bm,h1,h2,h3.later hb⟩⟩
def seqB (es:List cd):Prop:= ∀ e∈es,-1000000000000000<=e.seq/\e.seq<=1000000000000000
theorem Hc {es:List cd} {x:cd} (hq:seqB es) {p:Prod} (hp:p=(fv es x.pid).getD ⟨x.ver,-1,-1,-1⟩):(p.mark= -1∨ ∃ (k:Nat) (y:cd),p.mark=k/\es[k]? =some y)/\ -1000000000000000<=p.seq/\p.seq<=1000000000000000:=by
 cases h:fv es x.pid with
 |none=>rw[h]at hp;subst hp;exact⟨.inl Z,by simp⟩
 |some q=>
  rw[h]at hp
  simp at hp
  subst hp
  have hi:=(iB es x.pid).1 p h
  refine⟨?_,?_⟩
  rcases hi.mark with h|⟨k,e,h1,h2,_⟩
  exact .inl h
  exact .inr ⟨k,e,h1,h2⟩
  rcases hi.seq with h|⟨e,he,_,_,h,_⟩
  omega
  have:=hq e he;omega
theorem Ie {es:List cd} {x:cd} (h: ∀ j e,j<es.length->es[j]? =some e->lk x e=false):es.findIdx? (lk x)=none:=by
 rw[cD]
 intro e he
 obtain⟨j,hj⟩:=aN.1 he
 exact h j e (bZ hj).1 hj
theorem C3 {es:List cd} {x y:cd} {k:Nat} (hk:es[k]? =some y) (hy:lk x y=true) (h: ∀ j e,j<k->es[j]? =some e->lk x e=false):es.findIdx? (lk x)=some k:=by
 rw[aF]
 obtain⟨hl,rfl⟩:=bZ hk
 exact⟨hl,hy,fun j hj=>by rw[h j _ hj (ai I)];simp⟩
theorem Ut (S:List PB) (pid:Int) {w:World} {b:Nat} (hn:(S.map (·.1)).Nodup) (hb:w.heap[b]? =some (va (rU S))): ∃ q:Option Addr,((q=none/\ ∀ r∈S,r.1≠pid)∨ ∃ (j c:Nat) (p:Prod),S[j]? =some (pid,c,p)/\q=some ⟨c,0,none⟩)/\ ∀ {ρ:gV} {dst:Option Nat} {x y:Operand} {t:TypeId} {p:String} {af:Array Edge} {g:Option (Nat×Bool)},ev ρ x=.map (some b)->ev ρ y=J pid->(execOp (ev ρ) (Og dst (.lookup KO x y false) t p af g)).run aa w=.ok (.value (.pointer q)) w:=by
 rcases Cr S pid with h|⟨j,c,p,h⟩
 exact⟨none,.inl ⟨rfl,h⟩,fun hx hy=>RG sS rx hx hy hb (by intro q hq;obtain⟨a,ha,rfl⟩:=bK.1 hq;exact h a ha)⟩
 exact⟨some ⟨c,0,none⟩,.inr ⟨j,c,p,h,rfl⟩,fun hx hy=>RF sS rx hx hy hb (by rw[v8];exact hn) (Hd h)⟩
theorem KW (es:List cd) (A:Option Addr) (c:Nat) (x:cd) (w:World) (hr:Rd gC 0 w.heap.size A es w) (hb:es.length<=1000000) (hq:seqB es):
  di aa FX [.slice A es.length c,x.v] w fun v w2=>v=.tuple #[J (eI es x).1,J (eI es x).2]/\Below w.heap.size w w2:=by
 refine aG DR Z Z ?_
 have H:=Hp.startRd hr
 refine W<|Zr<|gU H Z Z fun w1 b3 H=>G (Wi Z)<|G (Wi Z)<|U<|W<|W<|Zr<|G (Zf ft Z)<|G (Zd al H 0 Z Z Z) ?_
 refine dZ (cr Z Z) Z Z Z (fun h11=> ?_) (fun h11=> ?_)
 refine U<|ZT Z<|W<|Zr<|G (Wi Z)<|G (Wi Z)<|U<|Zt ?_
 have hv:eI es x=(-1,0):=by unfold eI;rw[if_pos h11]
 exact mK (v:=J (-1)) (v2:=J 0) Z Z Z ⟨by rw[hv],H.below⟩
 refine U<|ZF Z<|Zk<|W ?_
 refine bG cv [0,2,3,1] [4,5] [1] [0,2] (sp [(1,Ti w1 es)]) N N N N Nq (cG _) ?_
 refine aw Z Z Z Z Z (fun w' hw'=>Ys Z)<|aw Z Z Z Z Z (fun w' hw'=>Zf ft Z)<|aw Z Z Z Z Z (fun w' hw'=>bd al Z (aK ((H.later hw').ent (i:=0) Z) Z)) ?_
 refine AE vF Z Z Z Z (fun w' hw'=>(EG es _ _ w' ((H.later hw').rd0 0 Z) hb).mono (fun v w2 ⟨S,bm,h1,h2,h3⟩=>⟨h3.below,S,bm,h1,h2,Hp.base hw' h3⟩)) Z ?_;rintro v13-
 refine aT ?_
 intro w2 hw' hF
 obtain⟨-,S,bm,rfl,hS,hj⟩:=hF
 replace H:=H.join hj;clear hj hw'
 have hb3:=H.ent (i:=S.length+1) (b:=b3) (o:=.cells (cd.c x).toArray dy (0,0)) (by simp[jM])
 obtain⟨P16,hP16,hx16⟩:=Ut S x.pid hS.1 (H.ent (i:=0) Z)
 refine G (hx16 Z Z)<|G (Wp Z)<|U<|W ?_
 refine gp (τ:=Nat×Int×Int×Int×Int×List (Nat×Obj)) [6,17,18,19,20,21,22] (fun(b,_,_,_,_,_)=>[(6,DE b)]) (fun(b,pv_,ps,po,pm,K) w'=>(⟨pv_,ps,po,pm⟩:Prod)=(fv es x.pid).getD ⟨x.ver,-1,-1,-1⟩/\Hp w w' ((b,.cells #[J pv_,J ps,J po,J pm] mh (0,0))::(b3,.cells (cd.c x).toArray dy (0,0))::K) [ee gC 0 w.heap.size A es]) ?_ ?_
 refine W<|Zr ?_
 rcases hP16 with⟨rfl,hno⟩|⟨j,b,p,hj,rfl⟩
 refine G (Yp Z)<|G (zl ol Z)<|U<|ZT Z<|Zr<|G (Zf eO Z)<|G (bd al Z (aK hb3 Z))<|G (bp (cs:= #[J x.ver,J (-1),J (-1),J (-1)]) z6 BK N)<|gU H Z Z fun w3 b22 H=>G (Wp Z)<|U ?_
 refine⟨(b22,x.ver,-1,-1,-1,jM bm S),⟨by rw[<-hS.2,EQ hno];rfl,H.perm ((uw _ _).symm.cons _)⟩,ef Z,Qg⟩
 refine G (Yp Z)<|G (xw ol Z)<|U<|ZF Z<|Zk ?_
 have hP:=Hj hj
 refine⟨(b,p.ver,p.seq,p.open_,p.mark,(bm,va (rU S))::(S.eraseIdx j).map zm),⟨by rw[<-hS.2,wg hS.1 hj];rfl,H.perm ?_⟩,ef Z,Qg⟩
 exact(qY (l₁:=[_,_])).symm.trans (((hP.cons _).cons _).trans (uw _ _).symm)
 rintro⟨b,pv_,ps,po,pm,K⟩ ρ2 w4 ⟨hp,H⟩
 show CW _ _ _ _ (dO (ij _ _ ρ2) [(6,DE b)]) w4
 obtain⟨hmark,hsq1,hsq2⟩:=Hc hq hp
 dsimp only at hsq1 hsq2
 refine W<|Zb<|W ?_
 refine bG cv [0,1,2,3,4,5,6,7] [] [] [0,2,3,4,6,7] (sp []) N N N N Nq (cG _) ?_
 refine aw Z Z Z Z Z (fun w' hw'=>Zf eO Z)<|aw Z Z Z Z Z (fun w' hw'=>bd al Z (aK ((H.later hw').ent (i:=1) Z) Z))<|aw Z Z Z Z Z (fun w' hw'=>Yp Z)<|aw Z Z Z Z Z (fun w' hw'=>aM Z)<|aw Z Z Z Z Z (fun w' hw'=>Zf j6 Z)<|aw Z Z Z Z Z (fun w' hw'=>bd al Z (aK ((H.later hw').ent (i:=0) Z) Z)) ?_
 refine Ef Z Z Z Z Z (fun w' hw'=>cI Z Z) (fun h30=> ?_) (fun h30=> ?_)
 refine aw Z Z Z Z Z (fun w' hw'=>Wb Z)<|aT ?_
 intro w5 hw' hF
 replace H:=H.later hw';clear hw' hF
 refine U<|ZT Z<|W<|Zr<|G (Wi Z)<|G (Wi Z)<|U<|Zt ?_
 have hv:eI es x=(0,10):=by
  unfold eI;rw[if_neg h11,<-hp];unfold lB;simp[h30]
 exact mK (v:=J (0)) (v2:=J 10) Z Z Z ⟨by rw[hv],H.below⟩
 refine aw Z Z Z Z Z (fun w' hw'=>Wb Z)<|aT ?_
 intro w6 hw' hF
 replace H:=H.later hw';clear hw' hF
 refine U<|ZF Z<|W<|Zr<|G (Zf fh Z)<|G (Zd al H 1 Z Z Z) ?_
 refine sU (jv Z Z) Z Z Z (fun h34=> ?_) (fun h34=> ?_)
 refine G (Wb Z)<|U<|ZT Z<|W<|W ?_
 refine bG cv [0,1,2,3,4,5,6,7,8,9,10,11,12,13,14,15,16,17,18,19,20,21,22,23,24,25,26,27,28,29,30,31,32,33,34,35,36,37] [] [] [0,1,2,4,5,6,7,8,10,11,12,13,14,15,16,18,19,21,23,24,25,26,27,28,29,31,32,34,36,37] (sp []) N N N N Nq (cG _) ?_
 refine aw Z Z Z Z Z (fun w' hw'=>Yp Z)<|aw Z Z Z Z Z (fun w' hw'=>aM Z)<|aw Z Z Z Z Z (fun w' hw'=>Zf en Z)<|aw Z Z Z Z Z (fun w' hw'=>bd al Z (aK ((H.later hw').ent (i:=0) Z) Z)) ?_
 refine Ef Z Z Z Z Z (fun w' hw'=>cI Z Z) (fun h39=> ?_) (fun h39=> ?_)
 refine aw Z Z Z Z Z (fun w' hw'=>Yb Z)<|aw Z Z Z Z Z (fun w' hw'=>Yp Z)<|aw Z Z Z Z Z (fun w' hw'=>aM Z)<|aw Z Z Z Z Z (fun w' hw'=>Zf iw Z)<|aw Z Z Z Z Z (fun w' hw'=>bd al Z (aK ((H.later hw').ent (i:=0) Z) Z)) ?_
 refine Ef Z Z Z Z Z (fun w' hw'=>pN Z Z) (fun h45=> ?_) (fun h45=> ?_)
 rcases hmark with hm1|⟨k,y,hmk,hyk⟩
 exfalso;dsimp only at hm1 h45;omega
 dsimp only at hmk
 subst hmk
 have hkl:=(bZ hyk).1
 refine aw Z Z Z Z Z (fun w' hw'=>Kt Z Z)<|aw Z Z Z Z Z (fun w' hw'=>Yb Z)<|aw Z Z Z Z Z (fun w' hw'=>Ys Z)<|aw Z Z Z Z Z (fun w' hw'=>Yp Z)<|aw Z Z Z Z Z (fun w' hw'=>aM Z)<|aw Z Z Z Z Z (fun w' hw'=>Zf iw Z)<|aw Z Z Z Z Z (fun w' hw'=>bd al Z (aK ((H.later hw').ent (i:=0) Z) Z))<|pP H 0 Z Z Z Z Z dY Z Z I I fun b7 o7 x7 e7=> ?_
 obtain rfl:y=x7:=by have:=e7.at_;rw[hyk]at this;injection this
 refine aw Z Z Z Z Z (fun w' hw'=>Zf fh Z)<|aw Z Z Z Z Z (fun w' hw'=>bd al Z (e7.later hw' 4 _ Z))<|aw Z Z Z Z Z (fun w' hw'=>Zf fh Z)<|aw Z Z Z Z Z (fun w' hw'=>bd al Z (aK ((H.later hw').ent (i:=1) Z) Z)) ?_
 refine Ef Z Z Z Z Z (fun w' hw'=>cr Z Z) (fun h58=> ?_) (fun h58=> ?_)
 refine aw Z Z Z Z Z (fun w' hw'=>Kt Z Z)<|aw Z Z Z Z Z (fun w' hw'=>Yb Z)<|aw Z Z Z Z Z (fun w' hw'=>Ys Z)<|aw Z Z Z Z Z (fun w' hw'=>Yp Z)<|aw Z Z Z Z Z (fun w' hw'=>aM Z)<|aw Z Z Z Z Z (fun w' hw'=>Zf iw Z)<|aw Z Z Z Z Z (fun w' hw'=>bd al Z (aK ((H.later hw').ent (i:=0) Z) Z))<|pP H 0 Z Z Z Z Z dY Z Z I I fun b8 o8 x8 e8=> ?_
 obtain rfl:y=x8:=by have:=e8.at_;rw[hyk]at this;injection this
 refine aw Z Z Z Z Z (fun w' hw'=>Zf eO Z)<|aw Z Z Z Z Z (fun w' hw'=>bd al Z (e8.later hw' 2 _ Z))<|aw Z Z Z Z Z (fun w' hw'=>Zf eO Z)<|aw Z Z Z Z Z (fun w' hw'=>bd al Z (aK ((H.later hw').ent (i:=1) Z) Z)) ?_
 refine Ef Z Z Z Z Z (fun w' hw'=>cr Z Z) (fun h71=> ?_) (fun h71=> ?_)
 refine aw Z Z Z Z Z (fun w' hw'=>Kt Z Z)<|aT ?_
 intro w9 hw' hF
 replace H:=H.later hw';clear hw' hF
 refine U<|ZT Z<|W<|Zr<|G (Yp Z)<|G (aM Z)<|G (Zf iw Z)<|G (Zd al H 0 Z Z Z)<|G (Wi Z)<|G (Wi Z)<|U<|Zt ?_
 have hmk:xA es (k:Nat) x=true:=by
  unfold xA;rw[show((k:Nat):Int).toNat=k from rfl,hyk];simp[h58,h71]
 have hv:eI es x=((k:Int),0):=by
  unfold eI;rw[if_neg h11,<-hp];unfold lB;simp[h30,h34,h39,h45,h58,h71,hmk]
 exact mK (v:=J ((k:Int))) (v2:=J 0) Z Z Z ⟨by rw[hv],H.below⟩
 refine aw Z Z Z Z Z (fun w' hw'=>Kt Z Z)<|aT ?_
 intro w10 hw' hF
 replace H:=H.later hw';clear hw' hF
 refine U<|ZF Z<|Zk<|W<|Zr<|G (Wi Z)<|G (Wi Z)<|U<|Zt ?_
 have hmk:xA es (k:Nat) x=false:=by
  unfold xA;rw[show((k:Nat):Int).toNat=k from rfl,hyk];simp[h58,h71]
 have hv:eI es x=(-1,0):=by
  unfold eI;rw[if_neg h11,<-hp];unfold lB;simp[h30,h34,h39,h45,h58,h71,hmk]
 exact mK (v:=J (-1)) (v2:=J 0) Z Z Z ⟨by rw[hv],H.below⟩
 refine aw Z Z Z Z Z (fun w' hw'=>Kt Z Z)<|aw Z Z Z Z Z (fun w' hw'=>Yb Z)<|eW Z Z Z Z<|eW Z Z Z Z<|eW Z Z Z Z<|eW Z Z Z Z<|eW Z Z Z Z<|eW Z Z Z Z<|eW Z Z Z Z<|eW Z Z Z Z<|eW Z Z Z Z<|eW Z Z Z Z<|eW Z Z Z Z<|aw Z Z Z Z Z (fun w' hw'=>N Z Z)<|aT ?_
 intro w11 hw' hF
 replace H:=H.later hw';clear hw' hF
 refine U<|ZF Z<|Zk<|W<|Zr<|G (Wi Z)<|G (Wi Z)<|U<|Zt ?_
 have hmk:xA es (k:Nat) x=false:=by
  unfold xA;rw[show((k:Nat):Int).toNat=k from rfl,hyk];simp[h58]
 have hv:eI es x=(-1,0):=by
  unfold eI;rw[if_neg h11,<-hp];unfold lB;simp[h30,h34,h39,h45,h58,hmk]
 exact mK (v:=J (-1)) (v2:=J 0) Z Z Z ⟨by rw[hv],H.below⟩
 refine aw Z Z Z Z Z (fun w' hw'=>Kt Z Z)<|aw Z Z Z Z Z (fun w' hw'=>Yb Z)<|eW Z Z Z Z<|eW Z Z Z Z<|eW Z Z Z Z<|eW Z Z Z Z<|eW Z Z Z Z<|eW Z Z Z Z<|eW Z Z Z Z<|eW Z Z Z Z<|eW Z Z Z Z<|eW Z Z Z Z<|eW Z Z Z Z<|aw Z Z Z Z Z (fun w' hw'=>N Z Z)<|aw Z Z Z Z Z (fun w' hw'=>Yb Z)<|eW Z Z Z Z<|eW Z Z Z Z<|eW Z Z Z Z<|eW Z Z Z Z<|eW Z Z Z Z<|eW Z Z Z Z<|eW Z Z Z Z<|eW Z Z Z Z<|eW Z Z Z Z<|eW Z Z Z Z<|eW Z Z Z Z<|aw Z Z Z Z Z (fun w' hw'=>N Z Z)<|aT ?_
 intro w12 hw' hF
 replace H:=H.later hw';clear hw' hF
 refine U<|ZF Z<|Zk<|W<|Zr<|G (Wi Z)<|G (Wi Z)<|U<|Zt ?_
 have hv:eI es x=(-1,0):=by
  unfold eI;rw[if_neg h11,<-hp];unfold lB;simp[h30,h34,h39,h45]
 exact mK (v:=J (-1)) (v2:=J 0) Z Z Z ⟨by rw[hv],H.below⟩
 refine aw Z Z Z Z Z (fun w' hw'=>Yb Z)<|eW Z Z Z Z<|eW Z Z Z Z<|eW Z Z Z Z<|eW Z Z Z Z<|eW Z Z Z Z<|aw Z Z Z Z Z (fun w' hw'=>N Z Z)<|aw Z Z Z Z Z (fun w' hw'=>Yb Z)<|eW Z Z Z Z<|eW Z Z Z Z<|eW Z Z Z Z<|eW Z Z Z Z<|eW Z Z Z Z<|eW Z Z Z Z<|eW Z Z Z Z<|eW Z Z Z Z<|eW Z Z Z Z<|eW Z Z Z Z<|eW Z Z Z Z<|aw Z Z Z Z Z (fun w' hw'=>N Z Z)<|aw Z Z Z Z Z (fun w' hw'=>Yb Z)<|eW Z Z Z Z<|eW Z Z Z Z<|eW Z Z Z Z<|eW Z Z Z Z<|eW Z Z Z Z<|eW Z Z Z Z<|eW Z Z Z Z<|eW Z Z Z Z<|eW Z Z Z Z<|eW Z Z Z Z<|eW Z Z Z Z<|aw Z Z Z Z Z (fun w' hw'=>N Z Z)<|aT ?_
 intro w13 hw' hF
 replace H:=H.later hw';clear hw' hF
 refine U<|ZF Z<|Zk<|W<|Zr<|G (Wi Z)<|G (Wi Z)<|U<|Zt ?_
 have hv:eI es x=(-1,0):=by
  unfold eI;rw[if_neg h11,<-hp];unfold lB;simp[h30,h34,h39]
 exact mK (v:=J (-1)) (v2:=J 0) Z Z Z ⟨by rw[hv],H.below⟩
 refine G (Wb Z)<|U<|ZF Z<|W ?_
 refine bG cv [0,1,2,3,4,5,6,7] [] [] [0,2,3,4,6,7] (sp []) N N N N Nq (cG _) ?_
 refine aw Z Z Z Z Z (fun w' hw'=>Zf eO Z)<|aw Z Z Z Z Z (fun w' hw'=>bd al Z (aK ((H.later hw').ent (i:=1) Z) Z))<|aw Z Z Z Z Z (fun w' hw'=>Yp Z)<|aw Z Z Z Z Z (fun w' hw'=>aM Z)<|aw Z Z Z Z Z (fun w' hw'=>Zf j6 Z)<|aw Z Z Z Z Z (fun w' hw'=>bd al Z (aK ((H.later hw').ent (i:=0) Z) Z)) ?_
 refine Ef Z Z Z Z Z (fun w' hw'=>nC Z Z) (fun h84=> ?_) (fun h84=> ?_)
 refine aw Z Z Z Z Z (fun w' hw'=>Wb Z)<|aT ?_
 intro w14 hw' hF
 replace H:=H.later hw';clear hw' hF
 refine U<|ZT Z<|Zr<|G (Yp Z)<|G (aM Z)<|G (Zf fA Z)<|bI H 0 (#[J pv_,J (-1),J po,J pm]) bN Z Z Z Z Z N N fun w15 H=>U<|W<|W ?_
 refine bG cv [0,1,2,3,4,5,6,7] [] [] [0,2,3,4,6,7] (sp []) N N N N Nq (cG _) ?_
 refine aw Z Z Z Z Z (fun w' hw'=>Zf fi Z)<|aw Z Z Z Z Z (fun w' hw'=>bd al Z (aK ((H.later hw').ent (i:=1) Z) Z))<|aw Z Z Z Z Z (fun w' hw'=>Yp Z)<|aw Z Z Z Z Z (fun w' hw'=>aM Z)<|aw Z Z Z Z Z (fun w' hw'=>Zf fA Z)<|aw Z Z Z Z Z (fun w' hw'=>bd al Z (aK ((H.later hw').ent (i:=0) Z) Z))<|aw Z Z Z Z Z (fun w' hw'=>bn Z Z I I) ?_
 refine Ef Z Z Z Z Z (fun w' hw'=>nC Z Z) (fun h95=> ?_) (fun h95=> ?_)
 refine aT ?_
 intro w16 hw' hF
 replace H:=H.later hw';clear hw' hF
 refine U<|ZT Z<|W<|Zr<|G (Wi Z)<|G (Wi Z)<|U<|Zt ?_
 replace h95:0<x.seq:=by omega
 have hv:eI es x=(0,11):=by
  unfold eI;rw[if_neg h11,<-hp];unfold lB;simp[h30,h34,h84,h95]
 exact mK (v:=J (0)) (v2:=J 11) Z Z Z ⟨by rw[hv],H.below⟩
 refine aT ?_
 intro w17 hw' hF
 replace H:=H.later hw';clear hw' hF
 refine U<|ZF Z<|Zk<|W<|W ?_
 refine bG cv [0,1,2,3,4,5,6,7] [] [] [0,2,3,4,6,7] (sp []) N N N N Nq (cG _) ?_
 refine aw Z Z Z Z Z (fun w' hw'=>Zf fi Z)<|aw Z Z Z Z Z (fun w' hw'=>bd al Z (aK ((H.later hw').ent (i:=1) Z) Z))<|aw Z Z Z Z Z (fun w' hw'=>Yp Z)<|aw Z Z Z Z Z (fun w' hw'=>aM Z)<|aw Z Z Z Z Z (fun w' hw'=>Zf fA Z)<|aw Z Z Z Z Z (fun w' hw'=>bd al Z (aK ((H.later hw').ent (i:=0) Z) Z))<|aw Z Z Z Z Z (fun w' hw'=>bn Z Z I I) ?_
 refine Ef Z Z Z Z Z (fun w' hw'=>cr Z Z) (fun h103=> ?_) (fun h103=> ?_)
 refine aT ?_
 intro w18 hw' hF
 replace H:=H.later hw';clear hw' hF
 refine U<|ZT Z<|W<|Zr<|G (Wi Z)<|G (Wi Z)<|U<|Zt ?_
 replace h95: ¬ 0<x.seq:=by omega
 replace h103:x.seq=0:=by omega
 have hv:eI es x=(-1,0):=by
  unfold eI;rw[if_neg h11,<-hp];unfold lB;simp[h30,h34,h84,h95,h103]
 exact mK (v:=J (-1)) (v2:=J 0) Z Z Z ⟨by rw[hv],H.below⟩
 refine aT ?_
 intro w19 hw' hF
 replace H:=H.later hw';clear hw' hF
 refine U<|ZF Z<|Zk<|W<|W<|Zr<|G (Ys Z)<|G (bl dW Z)<|G (Yi Z)<|U<|Zb ?_
 refine bV (τ:=Nat) [4,5,7,8,106,107,108,109,110,111,112,113,114,115,116,117,118,119,120,121,122,123,124,125,126,127,128,129,130,131,132,133,134,135,136] (fun i=>[(106,J (i:Nat))]) (fun i w'=>i<=es.length/\(∀ j e,j<i->es[j]? =some e->lk x e=false)/\Hp w w' ((b,.cells #[J pv_,J (-1),J po,J pm] mh (0,0))::(b3,.cells (cd.c x).toArray dy (0,0))::K) [ee gC 0 w.heap.size A es]) (fun i=>es.length-i) 0 ⟨by omega,by intro j e hj;omega,H⟩ (ef Z) ?_
 rintro i ρ3 w20 ⟨hi,hno,H⟩
 show CW _ _ _ _ (dO (ij _ _ ρ3) [(106,J (i:Nat))]) w20
 refine W<|Zr ?_
 refine dZ (cI Z Z) Z Z Z (fun h107=> ?_) (fun h107=> ?_)
 refine U<|W<|ZT Z<|Zk<|W<|Zb<|W<|Zr<|G (Yi Z)<|rE H 0 Z dY Z Z I I Z fun b21 o21 x21 e21=>G (jF (xs:=cd.c x21) dJ Z Z e21.cl)<|fc H gz Z fun w22 b8 H=>G (Wi Z)<|PO H 0 eX Z Z Z Z Z Z fun w23 H=>U<|W<|Zr<|G (Zf fh Z)<|G (Zd al H 0 Z Z Z) ?_
 refine dZ (cr Z Z) Z Z Z (fun h113=> ?_) (fun h113=> ?_)
 refine G (Yb Z)<|ZG<|G (Zf ft Z)<|ZG<|G (Zd al H 0 Z Z Z)<|ZG<|G (Zf ft Z)<|ZG<|G (Zd al H 2 Z Z Z)<|ZG ?_
 refine dZ (cr Z Z) Z Z Z (fun h119=> ?_) (fun h119=> ?_)
 refine G (Kt Z Z)<|G (Yb Z)<|ZG<|G (Zf eO Z)<|ZG<|G (Zd al H 0 Z Z Z)<|ZG<|G (Zf eO Z)<|ZG<|G (Zd al H 2 Z Z Z)<|ZG ?_
 refine dZ (cr Z Z) Z Z Z (fun h126=> ?_) (fun h126=> ?_)
 refine G (Kt Z Z)<|G (Yb Z)<|ZG<|G (Zf fi Z)<|ZG<|G (Zd al H 0 Z Z Z)<|ZG<|G (Zf fi Z)<|ZG<|G (Zd al H 2 Z Z Z)<|ZG ?_
 refine dZ (cr Z Z) Z Z Z (fun h133=> ?_) (fun h133=> ?_)
 refine G (Kt Z Z)<|U<|ZT Z<|W<|Zr<|G (Yi Z)<|G (Wi Z)<|G (Wi Z)<|U<|Zt ?_
 replace h95: ¬ 0<x.seq:=by omega
 replace h103: ¬ x.seq=0:=by omega
 have hdup:=C3 e21.at_ (by simp[lk,h113,h119,h126,h133]) hno
 have hv:eI es x=((i:Int),0):=by
  unfold eI;rw[if_neg h11,<-hp];unfold lB;simp[h30,h34,h84,h95,h103,hdup]
 exact mK (v:=J ((i:Int))) (v2:=J 0) Z Z Z ⟨by rw[hv],H.below⟩
 refine G (Kt Z Z)<|U<|ZF Z<|Zk<|Zr<|G (bn Z Z I I)<|G (Yi Z)<|U ?_
 refine⟨i+1,⟨by omega,fun j e hj he=> ?_,H.forget (aS _ _) (fun _ h=>h)⟩,ef Z,Qg,by show es.length- (i+1)<es.length-i;omega⟩
 by_cases hji:j<i
 exact hno j e hji he
 have:j=i:=by omega
 subst this;have he2:=e21.at_;rw[he]at he2;injection he2 with he2;subst he2
 simp[lk,h113,h119,h126,h133]
 refine G (Kt Z Z)<|G (Yb Z)<|ZN<|ZN<|ZN<|ZN<|ZN<|G (N Z Z)<|U<|ZF Z<|Zk<|Zr<|G (bn Z Z I I)<|G (Yi Z)<|U ?_
 refine⟨i+1,⟨by omega,fun j e hj he=> ?_,H.forget (aS _ _) (fun _ h=>h)⟩,ef Z,Qg,by show es.length- (i+1)<es.length-i;omega⟩
 by_cases hji:j<i
 exact hno j e hji he
 have:j=i:=by omega
 subst this;have he2:=e21.at_;rw[he]at he2;injection he2 with he2;subst he2
 simp[lk,h113,h119,h126]
 refine G (Kt Z Z)<|G (Yb Z)<|ZN<|ZN<|ZN<|ZN<|ZN<|G (N Z Z)<|G (Yb Z)<|ZN<|ZN<|ZN<|ZN<|ZN<|G (N Z Z)<|U<|ZF Z<|Zk<|Zr<|G (bn Z Z I I)<|G (Yi Z)<|U ?_
 refine⟨i+1,⟨by omega,fun j e hj he=> ?_,H.forget (aS _ _) (fun _ h=>h)⟩,ef Z,Qg,by show es.length- (i+1)<es.length-i;omega⟩
 by_cases hji:j<i
 exact hno j e hji he
 have:j=i:=by omega
 subst this;have he2:=e21.at_;rw[he]at he2;injection he2 with he2;subst he2
 simp[lk,h113,h119]
 refine G (Yb Z)<|ZN<|ZN<|ZN<|ZN<|ZN<|G (N Z Z)<|G (Yb Z)<|ZN<|ZN<|ZN<|ZN<|ZN<|G (N Z Z)<|G (Yb Z)<|ZN<|ZN<|ZN<|ZN<|ZN<|G (N Z Z)<|U<|ZF Z<|Zk<|Zr<|G (bn Z Z I I)<|G (Yi Z)<|U ?_
 refine⟨i+1,⟨by omega,fun j e hj he=> ?_,H.forget (aS _ _) (fun _ h=>h)⟩,ef Z,Qg,by show es.length- (i+1)<es.length-i;omega⟩
 by_cases hji:j<i
 exact hno j e hji he
 have:j=i:=by omega
 subst this;have he2:=e21.at_;rw[he]at he2;injection he2 with he2;subst he2
 simp[lk,h113]
 refine U<|W<|ZF Z<|Zx<|W<|Zr<|G (Wi Z)<|G (Wi Z)<|U<|Zt ?_
 replace h95: ¬ 0<x.seq:=by omega
 replace h103: ¬ x.seq=0:=by omega
 have hdup:=Ie (x:=x) (es:=es) (fun j e hj he=>hno j e I he)
 have hv:eI es x=(0,11):=by
  unfold eI;rw[if_neg h11,<-hp];unfold lB;simp[h30,h34,h84,h95,h103,hdup]
 exact mK (v:=J (0)) (v2:=J 11) Z Z Z ⟨by rw[hv],H.below⟩
 refine aw Z Z Z Z Z (fun w' hw'=>Wb Z)<|aT ?_
 intro w24 hw' hF
 replace H:=H.later hw';clear hw' hF
 refine U<|ZF Z<|Zk<|W<|W ?_
 refine bG cv [0,1,2,3,4,5,6,7] [] [] [0,2,3,4,6,7] (sp []) N N N N Nq (cG _) ?_
 refine aw Z Z Z Z Z (fun w' hw'=>Zf fi Z)<|aw Z Z Z Z Z (fun w' hw'=>bd al Z (aK ((H.later hw').ent (i:=1) Z) Z))<|aw Z Z Z Z Z (fun w' hw'=>Yp Z)<|aw Z Z Z Z Z (fun w' hw'=>aM Z)<|aw Z Z Z Z Z (fun w' hw'=>Zf fA Z)<|aw Z Z Z Z Z (fun w' hw'=>bd al Z (aK ((H.later hw').ent (i:=0) Z) Z))<|aw Z Z Z Z Z (fun w' hw'=>bn Z Z I I) ?_
 refine Ef Z Z Z Z Z (fun w' hw'=>nC Z Z) (fun h95=> ?_) (fun h95=> ?_)
 refine aT ?_
 intro w25 hw' hF
 replace H:=H.later hw';clear hw' hF
 refine U<|ZT Z<|W<|Zr<|G (Wi Z)<|G (Wi Z)<|U<|Zt ?_
 have hv:eI es x=(0,11):=by
  unfold eI;rw[if_neg h11,<-hp];unfold lB;simp[h30,h34,h84,h95]
 exact mK (v:=J (0)) (v2:=J 11) Z Z Z ⟨by rw[hv],H.below⟩
 refine aT ?_
 intro w26 hw' hF
 replace H:=H.later hw';clear hw' hF
 refine U<|ZF Z<|Zk<|W<|W ?_
 refine bG cv [0,1,2,3,4,5,6,7] [] [] [0,2,3,4,6,7] (sp []) N N N N Nq (cG _) ?_
 refine aw Z Z Z Z Z (fun w' hw'=>Zf fi Z)<|aw Z Z Z Z Z (fun w' hw'=>bd al Z (aK ((H.later hw').ent (i:=1) Z) Z))<|aw Z Z Z Z Z (fun w' hw'=>Yp Z)<|aw Z Z Z Z Z (fun w' hw'=>aM Z)<|aw Z Z Z Z Z (fun w' hw'=>Zf fA Z)<|aw Z Z Z Z Z (fun w' hw'=>bd al Z (aK ((H.later hw').ent (i:=0) Z) Z))<|aw Z Z Z Z Z (fun w' hw'=>bn Z Z I I) ?_
 refine Ef Z Z Z Z Z (fun w' hw'=>cr Z Z) (fun h103=> ?_) (fun h103=> ?_)
 refine aT ?_
 intro w27 hw' hF
 replace H:=H.later hw';clear hw' hF
 refine U<|ZT Z<|W<|Zr<|G (Wi Z)<|G (Wi Z)<|U<|Zt ?_
 have hv:eI es x=(-1,0):=by
  unfold eI;rw[if_neg h11,<-hp];unfold lB;simp[h30,h34,h84,h95,h103]
 exact mK (v:=J (-1)) (v2:=J 0) Z Z Z ⟨by rw[hv],H.below⟩
 refine aT ?_
 intro w28 hw' hF
 replace H:=H.later hw';clear hw' hF
 refine U<|ZF Z<|Zk<|W<|W<|Zr<|G (Ys Z)<|G (bl dW Z)<|G (Yi Z)<|U<|Zb ?_
 refine bV (τ:=Nat) [4,5,7,8,106,107,108,109,110,111,112,113,114,115,116,117,118,119,120,121,122,123,124,125,126,127,128,129,130,131,132,133,134,135,136] (fun i=>[(106,J (i:Nat))]) (fun i w'=>i<=es.length/\(∀ j e,j<i->es[j]? =some e->lk x e=false)/\Hp w w' ((b,.cells #[J pv_,J ps,J po,J pm] mh (0,0))::(b3,.cells (cd.c x).toArray dy (0,0))::K) [ee gC 0 w.heap.size A es]) (fun i=>es.length-i) 0 ⟨by omega,by intro j e hj;omega,H⟩ (ef Z) ?_
 rintro i ρ3 w29 ⟨hi,hno,H⟩
 show CW _ _ _ _ (dO (ij _ _ ρ3) [(106,J (i:Nat))]) w29
 refine W<|Zr ?_
 refine dZ (cI Z Z) Z Z Z (fun h107=> ?_) (fun h107=> ?_)
 refine U<|W<|ZT Z<|Zk<|W<|Zb<|W<|Zr<|G (Yi Z)<|rE H 0 Z dY Z Z I I Z fun b30 o30 x30 e30=>G (jF (xs:=cd.c x30) dJ Z Z e30.cl)<|fc H gz Z fun w31 b8 H=>G (Wi Z)<|PO H 0 eX Z Z Z Z Z Z fun w32 H=>U<|W<|Zr<|G (Zf fh Z)<|G (Zd al H 0 Z Z Z) ?_
 refine dZ (cr Z Z) Z Z Z (fun h113=> ?_) (fun h113=> ?_)
 refine G (Yb Z)<|ZG<|G (Zf ft Z)<|ZG<|G (Zd al H 0 Z Z Z)<|ZG<|G (Zf ft Z)<|ZG<|G (Zd al H 2 Z Z Z)<|ZG ?_
 refine dZ (cr Z Z) Z Z Z (fun h119=> ?_) (fun h119=> ?_)
 refine G (Kt Z Z)<|G (Yb Z)<|ZG<|G (Zf eO Z)<|ZG<|G (Zd al H 0 Z Z Z)<|ZG<|G (Zf eO Z)<|ZG<|G (Zd al H 2 Z Z Z)<|ZG ?_
 refine dZ (cr Z Z) Z Z Z (fun h126=> ?_) (fun h126=> ?_)
 refine G (Kt Z Z)<|G (Yb Z)<|ZG<|G (Zf fi Z)<|ZG<|G (Zd al H 0 Z Z Z)<|ZG<|G (Zf fi Z)<|ZG<|G (Zd al H 2 Z Z Z)<|ZG ?_
 refine dZ (cr Z Z) Z Z Z (fun h133=> ?_) (fun h133=> ?_)
 refine G (Kt Z Z)<|U<|ZT Z<|W<|Zr<|G (Yi Z)<|G (Wi Z)<|G (Wi Z)<|U<|Zt ?_
 have hdup:=C3 e30.at_ (by simp[lk,h113,h119,h126,h133]) hno
 have hv:eI es x=((i:Int),0):=by
  unfold eI;rw[if_neg h11,<-hp];unfold lB;simp[h30,h34,h84,h95,h103,hdup]
 exact mK (v:=J ((i:Int))) (v2:=J 0) Z Z Z ⟨by rw[hv],H.below⟩
 refine G (Kt Z Z)<|U<|ZF Z<|Zk<|Zr<|G (bn Z Z I I)<|G (Yi Z)<|U ?_
 refine⟨i+1,⟨by omega,fun j e hj he=> ?_,H.forget (aS _ _) (fun _ h=>h)⟩,ef Z,Qg,by show es.length- (i+1)<es.length-i;omega⟩
 by_cases hji:j<i
 exact hno j e hji he
 have:j=i:=by omega
 subst this;have he2:=e30.at_;rw[he]at he2;injection he2 with he2;subst he2
 simp[lk,h113,h119,h126,h133]
 refine G (Kt Z Z)<|G (Yb Z)<|ZN<|ZN<|ZN<|ZN<|ZN<|G (N Z Z)<|U<|ZF Z<|Zk<|Zr<|G (bn Z Z I I)<|G (Yi Z)<|U ?_
 refine⟨i+1,⟨by omega,fun j e hj he=> ?_,H.forget (aS _ _) (fun _ h=>h)⟩,ef Z,Qg,by show es.length- (i+1)<es.length-i;omega⟩
 by_cases hji:j<i
 exact hno j e hji he
 have:j=i:=by omega
 subst this;have he2:=e30.at_;rw[he]at he2;injection he2 with he2;subst he2
 simp[lk,h113,h119,h126]
 refine G (Kt Z Z)<|G (Yb Z)<|ZN<|ZN<|ZN<|ZN<|ZN<|G (N Z Z)<|G (Yb Z)<|ZN<|ZN<|ZN<|ZN<|ZN<|G (N Z Z)<|U<|ZF Z<|Zk<|Zr<|G (bn Z Z I I)<|G (Yi Z)<|U ?_
 refine⟨i+1,⟨by omega,fun j e hj he=> ?_,H.forget (aS _ _) (fun _ h=>h)⟩,ef Z,Qg,by show es.length- (i+1)<es.length-i;omega⟩
 by_cases hji:j<i
 exact hno j e hji he
 have:j=i:=by omega
 subst this;have he2:=e30.at_;rw[he]at he2;injection he2 with he2;subst he2
 simp[lk,h113,h119]
 refine G (Yb Z)<|ZN<|ZN<|ZN<|ZN<|ZN<|G (N Z Z)<|G (Yb Z)<|ZN<|ZN<|ZN<|ZN<|ZN<|G (N Z Z)<|G (Yb Z)<|ZN<|ZN<|ZN<|ZN<|ZN<|G (N Z Z)<|U<|ZF Z<|Zk<|Zr<|G (bn Z Z I I)<|G (Yi Z)<|U ?_
 refine⟨i+1,⟨by omega,fun j e hj he=> ?_,H.forget (aS _ _) (fun _ h=>h)⟩,ef Z,Qg,by show es.length- (i+1)<es.length-i;omega⟩
 by_cases hji:j<i
 exact hno j e hji he
 have:j=i:=by omega
 subst this;have he2:=e30.at_;rw[he]at he2;injection he2 with he2;subst he2
 simp[lk,h113]
 refine U<|W<|ZF Z<|Zx<|W<|Zr<|G (Wi Z)<|G (Wi Z)<|U<|Zt ?_
 have hdup:=Ie (x:=x) (es:=es) (fun j e hj he=>hno j e I he)
 have hv:eI es x=(0,11):=by
  unfold eI;rw[if_neg h11,<-hp];unfold lB;simp[h30,h34,h84,h95,h103,hdup]
 exact mK (v:=J (0)) (v2:=J 11) Z Z Z ⟨by rw[hv],H.below⟩
def AP (es:List cd) (n i:Nat):List ByteArray:=match es[i]? with
 |some e=>if e.kind=1/\wV (es.take n) i e=true then [e.text]else []
 |none=>[]
def texts (es:List cd) (n a b:Nat):List ByteArray:=(List.range' a (b-a)).flatMap (AP es n)
theorem qq (es:List cd) (n a:Nat):texts es n a a=[]:=by simp[texts]
theorem qp {es:List cd} {n a b:Nat} (h:a<=b):texts es n a (b+1)=texts es n a b++AP es n b:=by
 unfold texts
 have e:b+1-a=(b-a)+1:=by omega
 rw[e,List.range'_1_concat,kc]
 have e2:a+(b-a)=b:=by omega
 simp[e2]
def Do (es:List cd) (n st a most:Nat) (out:List ByteArray) (b:Nat):Prop:=a<=b/\(b=a∨b<=st)/\out=texts es n a b/\out.length<=most/\(st<=b∨out.length=most)/\ ∀ bq_,a<=bq_->bq_<b->(texts es n a bq_).length<most
theorem Kj (es:List cd) (A:Option Addr) (c n a most:Nat) (w:World) (hr:Rd gC 0 w.heap.size A es w) (hc:es.length<=c) (hb:es.length<=1000000) (hn:n<=es.length) (ha:a<=es.length) (hm1:1<=most) (hm2:most<=20):
  di aa Ar [.slice A es.length c,J (n:Nat),J (a:Nat),J (most:Nat)] w fun v w2=> ∃ (st:Nat) (out:List ByteArray) (b:Nat) (A':Option Addr) (c':Nat),rW (es.take n) st/\Do es n st a most out b/\v=.tuple #[.slice A' out.length c',J (b:Nat),J 0]/\Rd nu w.heap.size w2.heap.size A' out w2/\out.length<=c'/\Below w.heap.size w w2:=by
 refine aG yF Z Z ?_
 have H:=Hp.startRd hr
 refine W<|Zr<|G (Ws Z)<|G (Wi Z)<|G (Wi Z)<|U<|W<|Zr<|G (Ys Z)<|G (Yi Z)<|cE qN (zg es _ _ n _ (H.rd0 0 Z) hc hb hn) Z Z ?_
 rintro _ w1 ⟨st,hst,rfl,hb2⟩;replace H:=H.later hb2;clear hb2
 have hstl:st<=n:=by have:=hst.1;simp at this;omega
 refine G (Yu Z)<|G (Xi Z Z)<|G (Xi Z Z)<|G (Wi Z)<|G (Wi Z)<|U<|W<|W<|Zr<|G (Yi Z)<|G (cj Z Z Z)<|U<|ZF Z<|Zk<|W<|W<|Zr<|G (Yi Z)<|G (cV Z Z I)<|G (Yb Z)<|ZG<|G (Yi Z)<|ZG<|G (Ys Z)<|ZG<|G (bl dW Z)<|ZG<|G (dX Z Z I)<|G (N Z Z)<|G (Yb Z)<|ZG<|G (Yi Z)<|ZG<|G (cV Z Z I)<|G (N Z Z)<|G (Yb Z)<|ZG<|G (Yi Z)<|ZG<|G (dX Z Z I) ?_
 refine G (N Z Z)<|U<|ZF Z<|Zk<|W<|Zr<|G (Ws Z)<|U<|W<|Zr<|G (Yi Z)<|G (Wi Z)<|U<|W<|Zb ?_
 refine bV (τ:=Nat×List ByteArray×Option Addr×Nat) [13,14,41,42,43,44,45,46,47,48,49,50,51,52,53,54,55,56,57,58,59,60,61,62,63,64,65,66,67,68,69,70,71,72] (fun(at_,out,A1,c1)=>[(13,.slice A1 out.length c1),(14,J (at_:Nat))]) (fun(at_,out,A1,c1) w'=>a<=at_/\(at_=a∨at_<=st)/\out=texts es n a at_/\out.length<=most/\(∀ bq_,a<=bq_->bq_<at_->(texts es n a bq_).length<most)/\ ∃ L',gb nu (.slice A1 out.length c1) lP out L'/\Hp w w' ([]++L'++[]) [ee gC 0 w.heap.size A es]) (fun(at_,_,_,_)=>st-at_) (a,[],none,0) ⟨by omega,.inl Z,(qq _ _ _).symm,by simp,(fun _ _ _=>by omega),[],gb.nil,H⟩ (jT Z Z) ?_
 rintro⟨at_,out,A1,c1⟩ ρ1 w2 ⟨hat1,hat2,hout,hol,hmin,L1,ho,H⟩
 show CW _ _ _ _ (dO (ij _ _ ρ1) [(13,.slice A1 out.length c1),(14,J (at_:Nat))]) w2
 refine W<|W<|Zr<|G (Yi Z)<|G (Yi Z) ?_
 refine dZ (cI Z Z) Z Z Z (fun h43=> ?_) (fun h43=> ?_)
 refine G (Yb Z)<|ZG<|G (Ys Z)<|ZG<|G (bl ku Z)<|ZG<|G (Yi Z)<|ZG ?_
 refine dZ (cI Z Z) Z Z Z (fun h48=> ?_) (fun h48=> ?_)
 refine G (Kt Z Z)<|U<|ZT Z<|Zk<|W<|Zb<|W<|Zr<|G (Ys Z)<|G (Yi Z)<|rE H 0 Z dY Z Z I I Z fun b3 o3 x3 e3=> ?_
 have hxt:(es.take n)[at_]? =some x3:=by rw[fd I];exact e3.at_
 refine G (Zf fh Z)<|G (bd al Z (e3.cl 4 _ Z)) ?_
 refine dZ (cr Z Z) Z Z Z (fun h57=> ?_) (fun h57=> ?_)
 refine G (Yb Z)<|ZG<|G (Ys Z)<|ZG<|G (Yi Z)<|ZG<|xu (k:=n) H 0 Z dY Z Z hc I Z fun A61 H=>ZG ?_
 have hK:=QS (es.take n) A61 c at_ x3 _ (H.rd0 0 Z) hxt (by simp;omega) (by simp;omega)
 rw[show(es.take n).length=n by simp;omega]at hK
 refine G (Yi Z)<|ZG<|cE Gz (hK) Z Z ?_
 rintro _ w4 ⟨rfl,hb2⟩;replace H:=H.later hb2;clear hb2
 refine G (Kt Z Z)<|U ?_
 refine qL Z (fun hc64=> ?_) (fun hc64=> ?_)
 refine Zr<|G (Ys Z)<|G (Ys Z)<|G (Yi Z)<|rE H 1 Z dY Z Z I I Z fun b5 o5 x5 e5=>G (Zf qK Z)<|G (bd aY Z (e5.cl 6 _ Z))<|sK (vs:=[.string x5.text]) H g9 yc Z Z Z Z Z Z fun w6 b71 H=> ?_
 have hxx:x5=x3:=by have h1:=e3.at_;rw[e5.at_]at h1;injection h1
 refine uO (Y:=nu) xT (K:=[(b71,_)]) (L:=L1) (M:=[]) H ho (news:=[x5.text]) Z Z Z (wL.row (m:=1) (sz:=1) (H.ent (i:=0) Z) Z) (by simp only[bv];omega) Z ?_
 intro A3 c3 w7 L3 h3a _ ho3 H
 refine G (Ws Z)<|U<|Zr<|G (Yi Z)<|G (bn Z Z I I)<|G (Wi Z)<|U ?_
 have hvis:AP es n at_=[x5.text]:=by unfold AP;rw[e3.at_];simp only;rw[if_pos ⟨h57,hc64⟩,hxx]
 refine⟨(at_+1,out++[x5.text],A3,c3),⟨by omega,.inr I,by rw[qp hat1,hvis,hout],by simp;omega,(fun bq_ h1 h2=>by rcases fC bq_ at_ with h3|h3;exact hmin bq_ h1 h3;rw[show bq_=at_ by omega,<-hout];omega),L3,ho3,H.forget (by simp) (by simp)⟩,jT Z Z,Qg,by show st- (at_+1)<st-at_;omega⟩
 refine Zk<|Zr<|G (Yi Z)<|G (bn Z Z I I)<|G (Wi Z)<|U ?_
 have hvis:AP es n at_=[]:=by unfold AP;rw[e3.at_];simp only;rw[if_neg (by rintro⟨p,q⟩;first|exact h57 p|(rw[hc64]at q;cases q))]
 refine⟨(at_+1,out,A1,c1),⟨by omega,.inr I,by rw[qp hat1,hvis,hout,aP],hol,(fun bq_ h1 h2=>by rcases fC bq_ at_ with h3|h3;exact hmin bq_ h1 h3;rw[show bq_=at_ by omega,<-hout];omega),L1,ho,H.forget (by simp) (by simp)⟩,jT Z Z,Qg,by show st- (at_+1)<st-at_;omega⟩
 refine G (Yb Z)<|ZN<|ZN<|ZN<|ZN<|ZN<|G (N Z Z)<|U<|ZF Z<|Zk<|Zr<|G (Yi Z)<|G (bn Z Z I I)<|G (Wi Z)<|U ?_
 have hvis:AP es n at_=[]:=by unfold AP;rw[e3.at_];simp only;rw[if_neg (by rintro⟨p,q⟩;first|exact h57 p|(rw[hc64]at q;cases q))]
 refine⟨(at_+1,out,A1,c1),⟨by omega,.inr I,by rw[qp hat1,hvis,hout,aP],hol,(fun bq_ h1 h2=>by rcases fC bq_ at_ with h3|h3;exact hmin bq_ h1 h3;rw[show bq_=at_ by omega,<-hout];omega),L1,ho,H.forget (by simp) (by simp)⟩,jT Z Z,Qg,by show st- (at_+1)<st-at_;omega⟩
 refine G (Kt Z Z)<|U<|ZF Z<|Zx<|W<|Zr<|G (Ys Z)<|G (Yi Z)<|G (Ws Z)<|G (Wi Z)<|G (Wi Z)<|U<|Zt ?_
 obtain⟨A2,c2,he,hlc,-⟩:=ho.form
 injection he with h1 h2 h3
 subst h3
 exact JH Z Z Z Z ⟨st,out,at_,A1,c1,hst,⟨hat1,hat2,hout,hol,by omega,hmin⟩,rfl,ho.rd H,hlc,H.below⟩
 refine G (Yb Z)<|ZN<|ZN<|ZN<|ZN<|G (N Z Z)<|U<|ZF Z<|Zx<|W<|Zr<|G (Ys Z)<|G (Yi Z)<|G (Ws Z)<|G (Wi Z)<|G (Wi Z)<|U<|Zt ?_
 obtain⟨A2,c2,he,hlc,-⟩:=ho.form
 injection he with h1 h2 h3
 subst h3
 exact JH Z Z Z Z ⟨st,out,at_,A1,c1,hst,⟨hat1,hat2,hout,hol,by omega,hmin⟩,rfl,ho.rd H,hlc,H.below⟩
/-- what IndexFunc answers -/
def lH:Option Nat->Int
 |some i=>i
 |none=> -1
theorem Rd.blk {α:Type} {Y:fu α} {w:World} {b:Nat} {cs:Array Value} {T:TypeId} {fr:Nat×Nat} {es:List α} (h:w.heap[b]? =some (.cells cs T fr)) (hc:cs.toList=Y.all es):Rd Y 0 w.heap.size (Qd b) es w:=
 fun _=>⟨b,0,rfl,aV _,bX h,fun j u hj=>by rw[cC];exact aK h (by rw[<-hc]at hj;simpa using hj)⟩
def Sq:cd:=⟨0,0,0,0,1,false,⟨#[97]⟩⟩
inductive uL:List cd->Prop
 |nil:uL []
 |snoc {es:List cd} {x:cd}:uL es->(eI es x).2=0->(eI es x).1<0->uL (es++[x])
theorem NB {l:List cd} {f:cd} (h:uL (l++[f])):uL l/\(eI l f).2=0/\(eI l f).1<0:=by
 generalize hl:l++[f]=m at h
 cases h with
 |nil=>simp at hl
 |snoc hs a b=>
  obtain⟨rfl,hx⟩:=List.append_inj' hl Z
  simp at hx
  subst hx
  exact⟨hs,a,b⟩
theorem uL.take {es:List cd} (h:uL es): ∀ k,uL (es.take k):=by
 induction h with
 |nil=>intro k;simp;exact .nil
 |@snoc es x h h1 h2 ih=>
  intro k
  by_cases hk:k<=es.length
  rw[kQ hk];exact ih k
  rw[fD (by simp;omega)];exact .snoc h h1 h2
def cnt (es:List cd) (pid ver:Int):Nat:=(es.filter fun e=>decide (e.kind=1)&&decide (e.pid=pid)&&decide (e.ver=ver)).length
theorem vC (es:List cd) (x:cd) (pid ver:Int):cnt (es++[x]) pid ver=cnt es pid ver+if x.kind=1/\x.pid=pid/\x.ver=ver then 1 else 0:=by
 unfold cnt
 rw[jr,av]
 congr 1
 by_cases h1:x.kind=1<;>by_cases h2:x.pid=pid<;>by_cases h3:x.ver=ver<;>simp[h1,h2,h3]
theorem Io {es:List cd} {a b:Nat} (h:a<=b) (pid ver:Int):cnt (es.take a) pid ver<=cnt (es.take b) pid ver:=by
 unfold cnt
 refine List.Sublist.length_le (List.Sublist.filter _ ?_)
 have:es.take a=(es.take b).take a:=by rw[dt,bE h]
 rw[this]
 exact List.take_sublist _ _
theorem yQ {es:List cd} {pid ver:Int} (h: ∀ e∈es,e.pid=pid->e.ver≠ver):cnt es pid ver=0:=by
 unfold cnt
 rw[List.length_eq_zero_iff,ya]
 intro e he hc
 simp at hc
 exact h e he hc.1.2 hc.2
theorem GO {es:List cd} {x:cd} (h0:x.pid≠0) (h1:(eI es x).2=0) (h2:(eI es x).1<0) {p:Prod} (hp:p=(fv es x.pid).getD ⟨x.ver,-1,-1,-1⟩):p.ver<=x.ver/\(x.kind=1->x.seq=(if p.ver<x.ver then-1 else p.seq)+1):=by
 unfold eI at h1 h2
 rw[if_neg h0,<-hp]at h1 h2
 unfold lB at h1 h2
 split at h1
 simp at h1
 rename_i hv
 rw[if_neg hv]at h2
 refine⟨by omega,fun hk=> ?_⟩
 rw[if_neg (fun h=>h hk)]at h1 h2
 generalize (if p.ver<x.ver then(-1:Int)else p.seq)=s at h1 h2⊢
 split at h1
 simp at h1
 rename_i hg
 rw[if_neg hg]at h2
 split at h1
 assumption
 rename_i hs
 rw[if_neg hs]at h2
 exfalso
 split at h1
 rename_i i hi
 rw[hi]at h2
 simp at h2
 omega
 simp at h1
theorem zj {es:List cd} (h:uL es): ∀ pid,pid≠0->(∀ p,fv es pid=some p->(∀ e∈es,e.pid=pid->e.ver<=p.ver)/\p.seq=(cnt es pid p.ver:Int)-1):=by
 induction h with
 |nil=>intro pid _ p hp;cases hp
 |@snoc es x h h1 h2 ih=>
  intro pid h0 p hp
  rw[qw]at hp
  by_cases hx:x.pid=pid
  subst hx
  rw[if_pos ⟨h0,rfl⟩]at hp
  injection hp with hp
  obtain⟨v1,v2⟩:=GO h0 h1 h2 Z
  have hver:p.ver=x.ver:=by
   rw[<-hp];unfold fl pv
   split<;>(split<;>(try split)<;>simp_all)
  have hle: ∀ e∈es,e.pid=x.pid->e.ver<=x.ver:=fun e he hpe=>by
   cases hq:fv es x.pid with
   |none=>exact absurd hpe.symm (fun h=>h0 ((iB es x.pid).2 hq e he hpe))
   |some q=>
    rw[hq]at v1
    have:=(ih x.pid h0 q hq).1 e he hpe
    simp at v1
    omega
  refine⟨fun e he hpe=> ?_,?_⟩
  rw[hver]
  rcases ar.1 he with he|he
  exact hle e he hpe
  rw[aq.1 he];exact fj _
  rw[hver,vC]
  have hold:(pv x ((fv es x.pid).getD p0)).seq=(cnt es x.pid x.ver:Int)-1:=by
   cases hq:fv es x.pid with
   |none=>
    have hz:cnt es x.pid x.ver=0:=yQ fun e he hpe=>absurd ((iB es x.pid).2 hq e he hpe) h0
    rw[hz];unfold pv;simp only[Option.getD_none];split<;>simp[p0]
   |some q=>
    obtain⟨i1,i2⟩:=ih x.pid h0 q hq
    unfold pv
    simp only[qW]
    split
    rename_i hne
    rw[hq]at v1
    simp at v1
    have hz:cnt es x.pid x.ver=0:=yQ fun e he hpe hev=>by have:=i1 e he hpe;omega
    rw[hz];rfl
    rename_i heq
    have:x.ver=q.ver:=Classical.not_not.1 heq
    rw[i2,this]
  by_cases hk:x.kind=1
  rw[if_pos ⟨hk,rfl,rfl⟩]
  have hs:=v2 hk
  have hseq:p.seq=x.seq:=by
   rw[<-hp];unfold fl
   rw[if_neg (fun h=>h hk)]
   split<;>rfl
  have hcnt:x.seq=(cnt es x.pid x.ver:Int):=by
   cases hq:fv es x.pid with
   |none=>
    have hz:cnt es x.pid x.ver=0:=yQ fun e he hpe=>absurd ((iB es x.pid).2 hq e he hpe) h0
    rw[hq]at hs;simp at hs;omega
   |some q=>
    obtain⟨i1,i2⟩:=ih x.pid h0 q hq
    rw[hq]at hs v1
    simp at hs v1
    by_cases hlt:q.ver<x.ver
    rw[if_pos hlt]at hs
    have hz:cnt es x.pid x.ver=0:=yQ fun e he hpe hev=>by have:=i1 e he hpe;omega
    omega
    rw[if_neg hlt]at hs
    have:q.ver=x.ver:=by omega
    rw[this]at i2
    omega
  omega
  rw[if_neg (fun h=>hk h.1)]
  have hseq:p.seq=(pv x ((fv es x.pid).getD p0)).seq:=by
   rw[<-hp];unfold fl
   rw[if_pos hk]
  rw[hseq,hold];simp
  rw[if_neg (fun h=>hx h.2)]at hp
  obtain⟨i1,i2⟩:=ih pid h0 p hp
  refine⟨fun e he hpe=> ?_,?_⟩
  rcases ar.1 he with he|he
  exact i1 e he hpe
  rw[aq.1 he]at hpe;exact absurd hpe hx
  rw[vC,if_neg (fun h=>hx h.2.1),i2];simp
theorem NA {es:List cd} (h:uL es) {j:Nat} {f:cd} (hj:es[j]? =some f) (h0:f.pid≠0): ∀ e∈es.take j,e.pid=f.pid->e.ver<=f.ver:=by
 have h1:=h.take (j+1)
 rw[ed hj]at h1
 generalize es.take j=l at h1⊢
 obtain⟨hs,a,b⟩:=NB h1
 intro e he hpe
 obtain⟨v1,-⟩:=GO h0 a b Z
 cases hq:fv l f.pid with
 |none=>exact absurd ((iB l f.pid).2 hq e he hpe) h0
 |some q=>
  rw[hq]at v1
  simp at v1
  have:=(zj hs f.pid h0 q hq).1 e he hpe
  omega
theorem G6 {es:List cd} (h:uL es) {j:Nat} {f:cd} (hj:es[j]? =some f) (h0:f.pid≠0) (hk:f.kind=1):f.seq=(cnt (es.take j) f.pid f.ver:Int):=by
 have h1:=h.take (j+1)
 rw[ed hj]at h1
 have h2:=zj h1 f.pid h0 _ (by rw[qw,if_pos ⟨h0,rfl⟩])
 have hver:(fl (es.take j).length f ((fv (es.take j) f.pid).getD p0)).ver=f.ver:=by
  unfold fl pv
  split<;>(split<;>(try split)<;>simp_all)
 have hseq:(fl (es.take j).length f ((fv (es.take j) f.pid).getD p0)).seq=f.seq:=by
  unfold fl
  rw[if_neg (fun h=>h hk)]
  split<;>rfl
 rw[hver,hseq,vC,if_pos ⟨hk,rfl,rfl⟩]at h2
 omega
theorem Lf {es:List cd} (h: ∀ e∈es,lj e):seqB es:=fun e he=>by
 obtain⟨_,_,h3,_⟩:=rJ (h e he)
 have:=h3 e.seq (by simp[cd.nums])
 omega
def later (es:List cd) (k:Nat) (x:cd):Bool:=(es.drop k).any fun y=>decide (y.pid=x.pid)&&decide (x.ver<y.ver)
theorem IK {es:List cd} {x:cd} {k:Nat} (hk:es[k]? =some x) (h0:x.pid≠0): ∃ p,fv es x.pid=some p:=by
 cases hq:fv es x.pid with
 |none=>exact absurd ((iB es x.pid).2 hq x (ab hk) Z) h0
 |some p=>exact⟨p,rfl⟩
theorem IL {es:List cd} (h:uL es) {k:Nat} {x:cd} (hk:es[k]? =some x) (h0:x.pid≠0) (hl:later es k x=false) (hd:x.kind=1):eI es x=((k:Int),0):=by
 obtain⟨p,hp⟩:=IK hk h0
 obtain⟨l1,l2⟩:=zj h x.pid h0 p hp
 have hkl:=(bZ hk).1
 have hxle:=l1 x (ab hk) Z
 have hver:p.ver=x.ver:=by
  obtain⟨e,he,hpe,hve⟩:=((iB es x.pid).1 p hp).ver
  obtain⟨j,hj⟩:=aN.1 he
  by_cases hjk:j<k
  have:=NA h hk h0 e (ab (by rw[fd hjk];exact hj)) hpe
  omega
  have hmem:e∈es.drop k:=ab (i:=j-k) (by rw[df,show k+(j-k)=j by omega];exact hj)
  have hnl:=vU.1 hl e hmem
  simp[hpe]at hnl
  omega
 have hseq:=G6 h hk h0 hd
 have hc1:cnt (es.take (k+1)) x.pid x.ver=cnt (es.take k) x.pid x.ver+1:=by
  rw[ed hk,vC,if_pos ⟨hd,rfl,rfl⟩]
 have hc2:cnt (es.take (k+1)) x.pid x.ver<=cnt es x.pid x.ver:=by
  have:=Io (es:=es) (a:=k+1) (b:=es.length) I x.pid x.ver
  rwa[br]at this
 rw[hver]at l2
 have hdup:es.findIdx? (lk x)=some k:=C3 hk (by simp[lk,hd]) fun j e hj he=>by
  by_cases hi:lk x e=true
  exfalso
  simp[lk]at hi
  obtain⟨⟨⟨a1,a2⟩,a3⟩,a4⟩:=hi
  have s1:=G6 h he (by rw[a2];exact h0) a1
  rw[a2,a3]at s1
  have s2:cnt (es.take (j+1)) x.pid x.ver=cnt (es.take j) x.pid x.ver+1:=by
   rw[ed he,vC,if_pos ⟨a1,a2,a3⟩]
  have s3:=Io (es:=es) (a:=j+1) (b:=k) I x.pid x.ver
  omega
  simpa using hi
 unfold eI
 rw[if_neg h0,hp]
 unfold lB
 simp only[qW,hver]
 rw[if_neg I,if_neg (fun h=>h hd),if_neg (by omega: ¬ x.ver<x.ver),if_neg I,if_neg I,hdup]
theorem D5 (es:List UInt8) (A:Option Addr) (c:Nat) (w:World) (hr:Rd dQ 0 w.heap.size A es w) (hb:es.length*1<=140737488355328):
  di aa ln [.slice A es.length c] w fun v w2=> ∃ A' c' L',v=.slice A' es.length c'/\es.length<=c'/\c'<=maxLen/\gb dQ (.slice A' es.length c') nk es L'/\Hp w w2 L' []:=by
 refine aG qF Z Z ?_
 have H:=Hp.startRd hr
 refine W<|Zr<|G (Ws Z)<|U<|W<|W<|Zr<|G (Ys Z) ?_
 refine By (pX eY Z) Z Z Z (fun h4=> ?_) (fun h4=> ?_)
 refine U<|ZT Z<|W<|Zr<|G (Ws Z)<|U<|Zt ?_
 have he:es=[]:=by
  cases es with
  |nil=>rfl
  |cons e es=>obtain⟨b,o,hA,_⟩:=hr (by simp);subst hA;cases h4
 subst he
 exact cU Z Z ⟨none,0,[],rfl,by simp,by decide,gb.nil,H.forget (by simp) (by simp)⟩
 refine U<|ZF Z<|Zk<|W<|Zr<|Rg H eJ Z fun w1 b5 H=>G (Ys Z)<|uO (Y:=dQ) pf (K:=[]) (L:=[(b5,_)]) (M:=[]) H (sI.lit (by decide) (by rfl)) (es:=[]) (news:=es) Z Z Z (Rd.src (H.fact (i:=0) Z)) (by simpa using hb) Z ?_
 intro A3 c3 w3 L3 h3a h3b ho3 H
 refine G (Ws Z)<|U<|Zt ?_
 exact cU Z Z ⟨A3,c3,L3,rfl,h3a,h3b,ho3,H.forget (by simp) (by simp)⟩
theorem t8 (es:List Int) (A:Option Addr) (c:Nat) (w:World) (hr:Rd bR 0 w.heap.size A es w) (hb:es.length*8<=140737488355328):
  di aa mq [.slice A es.length c] w fun v w2=> ∃ A' c' L',v=.slice A' es.length c'/\es.length<=c'/\c'<=maxLen/\gb bR (.slice A' es.length c') cM es L'/\Hp w w2 L' []:=by
 refine aG sh Z Z ?_
 have H:=Hp.startRd hr
 refine W<|Zr<|G (Ws Z)<|U<|W<|W<|Zr<|G (Ys Z) ?_
 refine By (pX fp Z) Z Z Z (fun h4=> ?_) (fun h4=> ?_)
 refine U<|ZT Z<|W<|Zr<|G (Ws Z)<|U<|Zt ?_
 have he:es=[]:=by
  cases es with
  |nil=>rfl
  |cons e es=>obtain⟨b,o,hA,_⟩:=hr (by simp);subst hA;cases h4
 subst he
 exact cU Z Z ⟨none,0,[],rfl,by simp,by decide,gb.nil,H.forget (by simp) (by simp)⟩
 refine U<|ZF Z<|Zk<|W<|Zr<|Rg H bj Z fun w1 b5 H=>G (Ys Z)<|uO (Y:=bR) BC (K:=[]) (L:=[(b5,_)]) (M:=[]) H (sI.lit (by decide) (by rfl)) (es:=[]) (news:=es) Z Z Z (Rd.src (H.fact (i:=0) Z)) (by simpa using hb) Z ?_
 intro A3 c3 w3 L3 h3a h3b ho3 H
 refine G (Ws Z)<|U<|Zt ?_
 exact cU Z Z ⟨A3,c3,L3,rfl,h3a,h3b,ho3,H.forget (by simp) (by simp)⟩

/-- a row of rows of bytes -/
abbrev RB:=Option Addr×List UInt8×Nat
def NG:fu RB:=⟨fun p=>[.slice p.1 p.2.1.length p.2.2],1,fun _=>rfl,by decide,fun a u hu=>by
 simp only[ay,bu,or_false]at hu
 subst hu;rfl⟩
def y5 (ps:List RB):List UInt8:=ps.flatMap fun p=>p.2.1
theorem vM {ps:List RB} {k:Nat} {p:RB} (h:ps[k]? =some p):y5 (ps.take (k+1))=y5 (ps.take k)++p.2.1:=by
 rw[ed h];simp[y5]
theorem GE (ps:List RB) (k:Nat):(y5 (ps.take k)).length<=(y5 ps).length:=by
 have:y5 ps=y5 (ps.take k)++y5 (ps.drop k):=by unfold y5;rw[<-kc,g7]
 rw[this];simp
theorem LH {g cp:Nat} {cur:Array Value} (h:cur.size=cp*1) (hm:cp<=maxLen):gb dQ (.slice (Qd g) 0 cp) nk [] [(g,.cells cur nk (0,0))]:=
 ⟨by simp[fu.all],.inr ⟨g,cp,cur,rfl,rfl,aV _,hm,h,by simp[fu.all]⟩⟩
theorem Q1 (n:Nat) (w:World) (hn:n<=1000000):di aa rZ [.slice none 0 0,J (n:Nat)] w fun v w2=> ∃ A' c' L',v=.slice A' 0 c'/\gb dQ (.slice A' 0 c') nk [] L'/\Hp w w2 L' []:=by
 refine aG rf Z Z ?_
 have H:=Hp.start w
 refine W<|Zr<|G (Ws Z)<|U<|W<|W<|Zr<|G (Yi Z)<|G (cV Z Z I)<|U<|ZF Z<|Zk<|W<|W<|Zr<|G (Yi Z)<|G (Ys Z)<|G (GF eY Z)<|G (Ys Z)<|G (bl eY Z)<|G (qt Z Z I I)<|G (qt Z Z I I)<|G (Wi Z)<|U<|W<|Zr<|G (Yi Z) ?_
 refine dZ (nC Z Z) Z Z Z (fun h16=> ?_) (fun h16=> ?_)
 refine U<|ZT Z<|Zr<|G (Ys Z)<|G (Ys Z)<|G (GF eY Z)<|G (FA (i:=0) eJ Z Z I I)<|G (Yi Z)<|Uz (m:=n) pf iK H Z (by show Value.int .i64 _=_;congr 1) I I Z fun w1 g cp cur hcs hncp hcpm H=>G (Ys Z)<|G (bl eY Z)<|BS eJ Z Z I I Z fun A25 hA25=> ?_
 obtain rfl:=hA25 I
 refine G (Ws Z)<|U<|W<|Zr<|G (Ys Z)<|G (Ws Z)<|U<|Zt ?_
 exact cU Z Z ⟨_,_,_,rfl,LH hcs hcpm,H⟩
 refine U<|ZF Z<|Zk<|W<|Zr<|G (Ys Z)<|G (Ws Z)<|U<|Zt ?_
 exact cU Z Z ⟨none,0,[],rfl,gb.nil,H⟩
theorem ww (ps:List RB) (A:Option Addr) (c:Nat) (w:World) (hr:Rd NG 0 w.heap.size A ps w) (hp: ∀ p∈ps,Rd dQ 0 w.heap.size p.1 p.2.1 w) (hb:(y5 ps).length<=1000000) (hl:ps.length<=1000):
  di aa qC [.slice A ps.length c] w fun v w2=> ∃ A' c' L',v=.slice A' (y5 ps).length c'/\(y5 ps).length<=c'/\c'<=maxLen/\gb dQ (.slice A' (y5 ps).length c') nk (y5 ps) L'/\Hp w w2 L' []:=by
 refine aG qc Z Z ?_
 have H:=Hp.startRd hr
 refine W<|Zr<|G (Ws Z)<|U<|W<|Zr<|G (Wi Z)<|U<|W<|W<|Zr<|G (Ys Z)<|G (bl Cs Z)<|G (Yi Z)<|U<|Zb ?_
 refine bV (τ:=Nat) [3,5,11,12,13,14,15,16,17,18,19,20,21,22] (fun k=>[(3,J ((y5 (ps.take k)).length:Nat)),(11,J (k:Nat))]) (fun k w'=>k<=ps.length/\Hp w w' [] [ee NG 0 w.heap.size A ps]) (fun k=>ps.length-k) 0 ⟨by omega,H⟩ (jT Z Z) ?_
 rintro k ρ1 w1 ⟨hk,H⟩
 show CW _ _ _ _ (dO (ij _ _ ρ1) [(3,J ((y5 (ps.take k)).length:Nat)),(11,J (k:Nat))]) w1
 have hle:=GE ps k
 refine W<|Zr ?_
 refine dZ (cI Z Z) Z Z Z (fun h12=> ?_) (fun h12=> ?_)
 refine U<|W<|ZT Z<|Zk<|W<|Zb<|W<|Zr<|rE H 0 Z sO Z Z I I Z fun b2 o2 x2 e2=> ?_
 have hle2:=GE ps (k+1)
 rw[vM e2.at_,av]at hle2
 refine G (bd eR Z (e2.cl 0 _ Z))<|G (Ws Z)<|U<|W<|Zr<|G (Yi Z)<|G (Ys Z)<|G (bl eY Z)<|G (bn Z Z I I)<|G (Wi Z)<|U<|W<|Zr<|G (Yi Z)<|G (cV Z Z I)<|U<|ZF Z<|Zk<|Zr<|G (bn Z Z I I)<|G (Yi Z)<|U ?_
 refine⟨k+1,⟨by omega,H⟩,jT (by rw[vM e2.at_,av];rfl) Z,Qg,by show ps.length- (k+1)<ps.length-k;omega⟩
 refine U<|W<|ZF Z<|Zx<|W<|Zr<|G (Yi Z)<|cE ro (Q1 (y5 (ps.take k)).length _ I) Z Z ?_
 rintro _ w3 ⟨A24,c24,L24,rfl,ho24,hj24⟩;replace H:=H.join hj24;clear hj24
 refine G (Ws Z)<|U<|W<|W<|Zr<|G (Ys Z)<|G (bl Cs Z)<|G (Yi Z)<|U<|Zb ?_
 refine bV (τ:=Nat×Option Addr×Nat) [6,8,27,28,29,30,31,32,33,34] (fun(j,Ag,cg)=>[(6,.slice Ag (y5 (ps.take j)).length cg),(27,J (j:Nat))]) (fun(j,Ag,cg) w'=>j<=ps.length/\ ∃ L',gb dQ (.slice Ag (y5 (ps.take j)).length cg) nk (y5 (ps.take j)) L'/\Hp w w' ([]++L'++[]) [ee NG 0 w.heap.size A ps]) (fun(j,_,_)=>ps.length-j) (0,A24,c24) ⟨by omega,L24,ho24,by simpa using H⟩ (jT Z Z) ?_
 rintro⟨j,Ag,cg⟩ ρ2 w4 ⟨hj,L1,ho,H⟩
 show CW _ _ _ _ (dO (ij _ _ ρ2) [(6,.slice Ag (y5 (ps.take j)).length cg),(27,J (j:Nat))]) w4
 have hle:=GE ps j
 refine W<|Zr ?_
 refine dZ (cI Z Z) Z Z Z (fun h28=> ?_) (fun h28=> ?_)
 refine U<|W<|ZT Z<|Zk<|W<|Zb<|W<|Zr<|rE H 0 Z sO Z Z I I Z fun b5 o5 x5 e5=> ?_
 have hle2:=GE ps (j+1)
 rw[vM e5.at_,av]at hle2
 have hpx:=(hp _ (ab e5.at_)).below H.below
 refine G (bd eR Z (e5.cl 0 _ Z))<|G (Ws Z)<|U<|Zr<|G (Ys Z)<|G (Ys Z)<|uO (Y:=dQ) pf (K:=[]) (L:=L1) (M:=[]) H ho (news:=x5.2.1) Z Z Z (Rd.src hpx) I Z ?_
 intro A3 c3 w6 L3 h3a _ ho3 H
 refine G (Ws Z)<|U<|Zr<|G (bn Z Z I I)<|G (Yi Z)<|U ?_
 refine⟨(j+1,A3,c3),⟨by omega,L3,by rw[vM e5.at_];exact ho3,H⟩,jT (by rw[vM e5.at_];rfl) Z,Qg,by show ps.length- (j+1)<ps.length-j;omega⟩
 refine U<|W<|ZF Z<|Zx<|W<|Zr<|G (Ys Z)<|G (Ws Z)<|U<|Zt ?_
 have hjp:j=ps.length:=by omega
 subst hjp
 rw[br]at ho
 obtain⟨A2,c2,he,hlc,hmx⟩:=ho.form
 injection he with h1 h2 h3
 subst h3
 exact cU (v:=.slice Ag (y5 (ps.take ps.length)).length cg) Z Z ⟨Ag,cg,L1,by rw[br],hlc,hmx,ho,H.forget (by simp) (by simp)⟩
theorem JE (es:List cd) (s:Nat):bJ es=bJ (es.take s)++bJ (es.drop s):=by
 unfold bJ;rw[<-kc,g7]
theorem ze (es:List cd) (s:Nat):(bJ es).take (bJ (es.take s)).length=bJ (es.take s):=by
 rw[JE es s]
 exact List.take_left' Z
theorem OP (a b:List cd):bJ (a++b)=bJ a++bJ b:=by simp[bJ]
structure ph where
 A:Option Addr
 cap:Nat
 es:List cd
 s:Nat
abbrev iF (es:List cd) (s:Nat):Nat:=(bJ (es.take s)).length
def ph.c (l:ph):List Value:=[.slice l.A (bJ l.es).length l.cap,J (iF l.es l.s:Nat)]
structure GL (es:List cd) (s:Nat):Prop where
 good: ∀ e∈es,lj e
 len:es.length<=400
 sz:(bJ es).length<=40000
 sle:s<=es.length
structure ph.ok (l:ph) (w:World):Prop where
 gl:GL l.es l.s
 cap:(bJ l.es).length<=l.cap
 rd:Rd dQ 0 w.heap.size l.A (bJ l.es) w
theorem yP {es:List cd} {s:Nat} (h:GL es s):M2 (bJ (es.take s)) (es.take s) (iF es s):=vB _ fun e he=>h.good e (qX _ _ he)
theorem Ad (l:ph) (w:World) (h:l.ok w):di aa As [.agg l.c.toArray] w fun v w2=>v=J 0/\Below w.heap.size w w2:=by
 refine aG Gh Z Z ?_
 have hgl:=h.gl
 have hcap:=h.cap
 have hsz:=hgl.sz
 have hln:=hgl.len
 have hsle:=hgl.sle
 have hss:iF l.es l.s<=(bJ l.es).length:=fX l.es l.s
 have H:=Hp.startRd h.rd
 obtain⟨lA,lc,es,s⟩:=l
 dsimp only at hgl hcap hsz hln hsle hss H
 have hss2:(bJ (es.take s)).length<=(bJ es).length:=hss
 show CW _ _ _ _ (args [.agg #[.slice lA (bJ es).length lc,J (iF es s:Nat)]]) w
 refine W<|Zr<|gU H Z Z fun w1 b1 H=>G (Wi Z)<|U<|W<|W<|Zr<|G (Zf ja Z)<|G (Zd eR H 0 Z Z Z)<|G (bl eY Z)<|G (dX Z Z I)<|U<|ZF Z<|Zk<|W<|Zr<|G (Zf ja Z)<|G (Zd eR H 0 Z Z Z)<|cE nc (wu (bJ es) _ _ _ (H.rd0 0 Z) hcap I) Z Z ?_
 have hlo14:=H.size
 rintro _ w2 ⟨ds,nd,A14,c14,rfl,hd,hr14,hc14,hb14⟩;replace H:=H.learnRd hb14 hr14;clear hr14 hb14
 have hde:=(rK hd (vB es hgl.good)).1.symm
 have hdn:=(rK hd (vB es hgl.good)).2.symm
 subst hde;subst hdn;clear hd
 refine G (Yu Z)<|G (Xs Z Z)<|G (Xi Z Z)<|G (Ws Z)<|G (Wi Z)<|U<|W<|W<|Zr<|G (Yi Z)<|G (Zf ja Z)<|G (Zd eR H 0 Z Z Z)<|G (bl eY Z)<|G (cj Z Z Z)<|G (Yb Z)<|ZG<|G (Ys Z)<|ZG<|G (bl dW Z)<|ZG<|G (dX Z Z I)<|G (N Z Z)<|U<|ZF Z<|Zk<|W<|W<|Zr<|G (Zf oV Z)<|G (Zd al H 0 Z Z Z)<|G (cV Z Z I)<|G (Yb Z)<|ZG<|G (Zf oV Z)<|ZG<|G (Zd al H 0 Z Z Z)<|ZG<|G (Yi Z)<|ZG<|G (dX Z Z I) ?_
 refine G (N Z Z)<|U<|ZF Z<|Zk<|W<|W<|Zr<|G (Zf ja Z)<|G (Zd eR H 0 Z Z Z)<|G (Zf oV Z)<|G (Zd al H 0 Z Z Z)<|xu (k:=iF es s) H 1 Z eJ Z Z hcap I Z fun A41 H=> ?_
 rw[ze]at H
 refine cE nc (wu (bJ (es.take s)) _ _ _ (H.rd0 0 Z) I I) Z Z ?_
 have hlo42:=H.size
 rintro _ w3 ⟨ds,nd,A42,c42,rfl,hd,hr42,hc42,hb42⟩;replace H:=H.learnRd hb42 hr42;clear hr42 hb42
 have hde:=(rK hd (yP hgl)).1.symm
 have hdn:=(rK hd (yP hgl)).2.symm
 subst hde;subst hdn;clear hd
 refine G (Yu Z)<|G (Xs Z Z)<|G (Xi Z Z)<|G (Ws Z)<|G (Wi Z)<|U<|W<|Zr<|G (Yi Z)<|G (Zf oV Z)<|G (Zd al H 0 Z Z Z)<|G (cj Z Z Z)<|U<|ZF Z<|Zk<|W<|Zr<|G (Wi Z)<|U<|Zt ?_
 exact cU Z Z ⟨rfl,H.below⟩
theorem DC (l:ph) (w:World) (h:l.ok w):di aa wW [.agg l.c.toArray] w fun v w2=> ∃ A' c',v=.tuple #[.slice A' l.es.length c',J (l.s:Nat),J 0]/\Rd gC w.heap.size w2.heap.size A' l.es w2/\l.es.length<=c'/\Below w.heap.size w w2:=by
 refine aG CR Z Z ?_
 have hgl:=h.gl
 have hcap:=h.cap
 have hsz:=hgl.sz
 have hln:=hgl.len
 have hsle:=hgl.sle
 have hss:iF l.es l.s<=(bJ l.es).length:=fX l.es l.s
 have H:=Hp.startRd h.rd
 obtain⟨lA,lc,es,s⟩:=l
 dsimp only at hgl hcap hsz hln hsle hss H
 have hss2:(bJ (es.take s)).length<=(bJ es).length:=hss
 show CW _ _ _ _ (args [.agg #[.slice lA (bJ es).length lc,J (iF es s:Nat)]]) w
 refine W<|Zr<|gU H Z Z fun w1 b1 H=>G (Ws Z)<|G (Wi Z)<|G (Wi Z)<|U<|W<|W<|Zr<|G (Zw fx H 0 Z Z Z)<|cE qi (Ad ⟨lA,lc,es,s⟩ _ ⟨hgl,hcap,H.rd0 0 Z⟩) Z Z ?_
 rintro _ w2 ⟨rfl,hb⟩;replace H:=H.later hb;clear hb
 refine G (Wi Z)<|U<|W<|Zr<|G (Yi Z)<|G (cj Z Z Z)<|U<|ZF Z<|Zk<|W<|Zr<|G (Zf ja Z)<|G (Zd eR H 0 Z Z Z)<|cE nc (wu (bJ es) _ _ _ (H.rd0 0 Z) hcap I) Z Z ?_
 have hlo18:=H.size
 rintro _ w3 ⟨ds,nd,A18,c18,rfl,hd,hr18,hc18,hb18⟩;replace H:=H.learnRd hb18 hr18;clear hr18 hb18
 have hde:=(rK hd (vB es hgl.good)).1.symm
 have hdn:=(rK hd (vB es hgl.good)).2.symm
 subst hde;subst hdn;clear hd
 refine G (Yu Z)<|G (Xs Z Z)<|G (Xi Z Z)<|G (Ws Z)<|G (Wi Z)<|U<|W<|Zr<|G (Zf ja Z)<|G (Zd eR H 0 Z Z Z)<|G (Zf oV Z)<|G (Zd al H 0 Z Z Z)<|xu (k:=iF es s) H 1 Z eJ Z Z hcap I Z fun A26 H=> ?_
 rw[ze]at H
 refine cE nc (wu (bJ (es.take s)) _ _ _ (H.rd0 0 Z) I I) Z Z ?_
 have hlo27:=H.size
 rintro _ w4 ⟨ds,nd,A27,c27,rfl,hd,hr27,hc27,hb27⟩;replace H:=H.learnRd hb27 hr27;clear hr27 hb27
 have hde:=(rK hd (yP hgl)).1.symm
 have hdn:=(rK hd (yP hgl)).2.symm
 subst hde;subst hdn;clear hd
 refine G (Yu Z)<|G (Xs Z Z)<|G (Xi Z Z)<|G (Ws Z)<|G (Wi Z)<|U<|W<|Zr<|G (Ys Z)<|G (Ys Z)<|G (bl dW Z)<|G (Ws Z)<|G (Wi Z)<|G (Wi Z)<|U<|Zt ?_
 have hls:(es.take s).length=s:=by simp;omega
 have hrd:=Rd.mono (H.fact (i:=2) Z) hlo18 (H.facts _ (ab (i:=2) Z)).2.1
 exact JH (v:=.slice A18 es.length c18) (v2:=J ((es.take s).length:Nat)) (v3:=J 0) Z Z Z Z ⟨A18,c18,by rw[hls],hrd,hc18,H.below⟩
theorem gA (A:Option Addr) (c:Nat) (es:List cd) (s:Nat) (w:World) (h:(⟨A,c,es,s⟩:ph).ok w):di aa wW [.agg #[.slice A (bJ es).length c,J (iF es s:Nat)]] w fun v w2=> ∃ A' c',v=.tuple #[.slice A' es.length c',J (s:Nat),J 0]/\Rd gC w.heap.size w2.heap.size A' es w2/\es.length<=c'/\Below w.heap.size w w2:=DC ⟨A,c,es,s⟩ w h
theorem u5 (A:Option Addr) (c:Nat) (es:List cd) (s:Nat) (w:World) (h:(⟨A,c,es,s⟩:ph).ok w):di aa As [.agg #[.slice A (bJ es).length c,J (iF es s:Nat)]] w fun v w2=>v=J 0/\Below w.heap.size w w2:=Ad ⟨A,c,es,s⟩ w h
theorem ot (es:List UInt8) (A:Option Addr) (c:Nat) (w:World) (hr:Rd dQ 0 w.heap.size A es w) (hb:es.length*1<=140737488355328):
  di aa ln [.slice A es.length c] w fun v w2=> ∃ A' c',v=.slice A' es.length c'/\es.length<=c'/\Rd dQ w.heap.size w2.heap.size A' es w2/\Below w.heap.size w w2:=
 (D5 es A c w hr hb).mono fun v w2 ⟨A',c',L',h1,h2,_,h4,h5⟩=>⟨A',c',h1,h2,h4.rd (K:=[]) (M:=[]) (by simpa using h5),h5.below⟩
theorem yS (es:List Int) (A:Option Addr) (c:Nat) (w:World) (hr:Rd bR 0 w.heap.size A es w) (hb:es.length*8<=140737488355328):
  di aa mq [.slice A es.length c] w fun v w2=> ∃ A' c',v=.slice A' es.length c'/\es.length<=c'/\Rd bR w.heap.size w2.heap.size A' es w2/\Below w.heap.size w w2:=
 (t8 es A c w hr hb).mono fun v w2 ⟨A',c',L',h1,h2,_,h4,h5⟩=>⟨A',c',h1,h2,h4.rd (K:=[]) (M:=[]) (by simpa using h5),h5.below⟩
def Dp (w w2:World) (A:Option Addr) (c:Nat) (es:List cd) (s:Nat):Prop:=GL es s/\(bJ es).length<=c/\Rd dQ w.heap.size w2.heap.size A (bJ es) w2
theorem Dp.ok {w w2:World} {A:Option Addr} {c:Nat} {es:List cd} {s:Nat} (h:Dp w w2 A c es s):(⟨A,c,es,s⟩:ph).ok w2:=⟨h.1,h.2.1,h.2.2.mono (aV _) (ap _)⟩
theorem kY (es:List cd) (x:cd):bJ (es++[x])=bJ es++mL x:=by rw[OP,OO]
theorem yo {es:List cd} {s:Nat} (x:cd) (h:s<=es.length):iF (es++[x]) s=iF es s:=by unfold iF;rw[kQ h]
def DP (es:List cd) (x:cd):Prop:=es.length=400∨40000<(bJ es).length+(mL x).length
theorem GL.snoc {es:List cd} {s:Nat} {x:cd} (h:GL es s) (hx:lj x) (hf: ¬ DP es x):GL (es++[x]) s:=by
 unfold DP at hf
 refine⟨fun e he=> ?_,by simp;have:=h.len;omega,by rw[kY,av];omega,by simp;have:=h.sle;omega⟩
 rcases ar.1 he with he|he
 exact h.good e he
 rw[aq.1 he];exact hx
theorem GL.all {es:List cd} {s:Nat} (h:GL es s):GL es es.length:=⟨h.good,h.len,h.sz,ap _⟩
theorem GL.take {es:List cd} {s:Nat} (h:GL es s) (n:Nat) {t:Nat} (ht:t<=(es.take n).length):GL (es.take n) t:=⟨fun e he=>h.good e (qX _ _ he),by simp;have:=h.len;omega,by have:=fX es n;have:=h.sz;omega,ht⟩
theorem FD (l:ph) (x:cd) (w:World) (h:l.ok w) (hx:lj x) (hf: ¬ DP l.es x):di aa yx [.agg l.c.toArray,x.v] w fun v w2=> ∃ A' c',v=.tuple #[.agg (ph.c ⟨A',c',l.es++[x],l.s⟩).toArray,J 0]/\Dp w w2 A' c' (l.es++[x]) l.s/\Below w.heap.size w w2:=by
 refine aG DS Z Z ?_
 have hgl:=h.gl
 have hcap:=h.cap
 have hsz:=hgl.sz
 have hln:=hgl.len
 have hsle:=hgl.sle
 have hss:iF l.es l.s<=(bJ l.es).length:=fX l.es l.s
 have H:=Hp.startRd h.rd
 obtain⟨lA,lc,es,s⟩:=l
 dsimp only at hgl hcap hsz hln hsle hss H
 have hss2:(bJ (es.take s)).length<=(bJ es).length:=hss
 show CW _ _ _ _ (args [.agg #[.slice lA (bJ es).length lc,J (iF es s:Nat)],x.v]) w
 unfold DP at hf
 dsimp only at hf
 have hel:=KE hx
 refine W<|Zr<|gU H Z Z fun w1 b2 H=>gU H Z Z fun w2 b3 H=>fc H uh Z fun w3 b4 H=>G (Wi Z)<|U<|W<|Zr<|G (Zw fx H 2 Z Z Z)<|cE f5 (gA lA lc es s _ ⟨hgl,hcap,H.rd0 0 Z⟩) Z Z ?_
 rintro _ w4 ⟨A12,c12,rfl,hr12,hc12,hb12⟩;replace H:=H.learnRd hb12 hr12;clear hr12 hb12
 refine G (Yu Z)<|G (Xs Z Z)<|G (Xi Z Z)<|G (Xi Z Z)<|G (Ws Z)<|G (Wi Z)<|G (Wi Z)<|U<|W<|W<|Zr<|G (Yi Z)<|G (cj Z Z Z)<|U<|ZF Z<|Zk<|W<|Zr<|G (Zw dJ H 1 Z Z Z)<|cE vE (E2 x _ hx) Z Z ?_
 rintro _ w6 ⟨A5,c5,rfl,hr5,hc5,hb5⟩;replace H:=H.learnRd hb5 hr5;clear hr5 hb5
 refine G (Yu Z)<|G (Xs Z Z)<|G (Xi Z Z)<|G (Ws Z)<|G (Wi Z)<|U<|W<|W<|Zr<|G (Yi Z)<|G (cj Z Z Z)<|U<|ZF Z<|Zk<|W<|W<|Zr<|G (Ys Z)<|G (bl dW Z)<|G (me Z Z I)<|G (Yb Z)<|ZG<|G (Zf ja Z)<|ZG<|G (Zd eR H 2 Z Z Z)<|ZG<|G (bl eY Z)<|ZG<|G (Ys Z)<|ZG<|G (bl eY Z)<|ZG<|G (bn Z Z I I)<|ZG<|G (dX Z Z I)<|G (N Z Z)<|U<|ZF Z<|Zk<|W ?_
 refine rL cv [0,2,5] [1,3,4,6,7,8,9] [0,2,5] 7 N N N Nq ?_
 refine aw Z Z Z Z Z (fun w' hw'=>Zf ja Z)<|aw Z Z Z Z Z (fun w' hw'=>Ys Z)<|aw Z Z Z Z Z (fun w' hw'=>Zf oV Z)<|aT ?_
 intro w7 hw';replace H:=H.later hw';clear hw'
 refine uN 1 6 N Z Z ?_ ?_
 refine G (Zd eR H 2 Z Z Z)<|U ?_
 refine uN 3 6 N Z Z ?_ ?_
 refine sK (vs:=[.slice lA (bJ es).length lc,.slice A5 (mL x).length c5]) H sO Fk Z Z Z Z Z Z fun w8 b45 H=> ?_
 have hcat:y5 [(lA,bJ es,lc),(A5,mL x,c5)]=bJ (es++[x]):=by rw[kY];simp[y5]
 refine U ?_
 refine uN 4 6 N Z Z ?_ ?_
 have hC:=ww [(lA,bJ es,lc),(A5,mL x,c5)] (Qd b45) 2 _ (Rd.blk (H.ent (i:=0) Z) Z) (by intro p hp;simp at hp;rcases hp with rfl|rfl;exact H.rd0 2 Z;exact H.rd0 0 Z) (by rw[hcat,kY,av];omega) (by simp)
 rw[hcat]at hC
 have hloX:=H.size
 refine cE fQ hC Z Z ?_;rintro _ w9 ⟨AX,cX,LX,rfl,hcX,-,hoX,hjX⟩;replace H:=H.learnOwn hjX hoX
 refine U<|db 6 N Z<|G (Zd al H 3 Z Z Z)<|U<|db 7 N Z<|G (bp (cs:= #[.slice AX (bJ (es++[x])).length cX,J (iF es s:Nat)]) xt uh N)<|U<|db 8 N Z<|bI H 1 (#[.slice AX (bJ (es++[x])).length cX,J (iF es s:Nat)]) kU Z Z Z Z Z N N fun w10 H=>U<|db 9 N Z<|G (Wi Z)<|U<|cz N<|Zt ?_
 exact cu (cs0:= #[.slice AX (bJ (es++[x])).length cX,J (iF es s:Nat)]) (v1:=J 0) Z fx Z (H.ent (i:=1) Z) Z Z ⟨AX,cX,by unfold ph.c;rw[yo _ hsle],⟨hgl.snoc hx (by unfold DP;omega),hcX,Rd.mono (H.fact (i:=0) Z) hloX (H.facts _ (ab (i:=0) Z)).2.1⟩,H.below⟩
 refine G (Zd al H 3 Z Z Z)<|U<|db 4 N Z ?_
 have hC:=ww [(lA,bJ es,lc),(A5,mL x,c5)] (Qd b45) 2 _ (Rd.blk (H.ent (i:=0) Z) Z) (by intro p hp;simp at hp;rcases hp with rfl|rfl;exact H.rd0 2 Z;exact H.rd0 0 Z) (by rw[hcat,kY,av];omega) (by simp)
 rw[hcat]at hC
 have hloX:=H.size
 refine cE fQ hC Z Z ?_;rintro _ w11 ⟨AX,cX,LX,rfl,hcX,-,hoX,hjX⟩;replace H:=H.learnOwn hjX hoX
 refine U<|db 7 N Z<|G (bp (cs:= #[.slice AX (bJ (es++[x])).length cX,J (iF es s:Nat)]) xt uh N)<|U<|db 8 N Z<|bI H 1 (#[.slice AX (bJ (es++[x])).length cX,J (iF es s:Nat)]) kU Z Z Z Z Z N N fun w12 H=>U<|db 9 N Z<|G (Wi Z)<|U<|cz N<|Zt ?_
 exact cu (cs0:= #[.slice AX (bJ (es++[x])).length cX,J (iF es s:Nat)]) (v1:=J 0) Z fx Z (H.ent (i:=1) Z) Z Z ⟨AX,cX,by unfold ph.c;rw[yo _ hsle],⟨hgl.snoc hx (by unfold DP;omega),hcX,Rd.mono (H.fact (i:=0) Z) hloX (H.facts _ (ab (i:=0) Z)).2.1⟩,H.below⟩
 refine G (Zd al H 2 Z Z Z)<|U<|db 3 N Z<|sK (vs:=[.slice lA (bJ es).length lc,.slice A5 (mL x).length c5]) H sO Fk Z Z Z Z Z Z fun w13 b45 H=> ?_
 have hcat:y5 [(lA,bJ es,lc),(A5,mL x,c5)]=bJ (es++[x]):=by rw[kY];simp[y5]
 refine U<|db 4 N Z ?_
 have hC:=ww [(lA,bJ es,lc),(A5,mL x,c5)] (Qd b45) 2 _ (Rd.blk (H.ent (i:=0) Z) Z) (by intro p hp;simp at hp;rcases hp with rfl|rfl;exact H.rd0 2 Z;exact H.rd0 0 Z) (by rw[hcat,kY,av];omega) (by simp)
 rw[hcat]at hC
 have hloX:=H.size
 refine cE fQ hC Z Z ?_;rintro _ w14 ⟨AX,cX,LX,rfl,hcX,-,hoX,hjX⟩;replace H:=H.learnOwn hjX hoX
 refine U<|db 7 N Z<|G (bp (cs:= #[.slice AX (bJ (es++[x])).length cX,J (iF es s:Nat)]) xt uh N)<|U<|db 8 N Z<|bI H 1 (#[.slice AX (bJ (es++[x])).length cX,J (iF es s:Nat)]) kU Z Z Z Z Z N N fun w15 H=>U<|db 9 N Z<|G (Wi Z)<|U<|cz N<|Zt ?_
 exact cu (cs0:= #[.slice AX (bJ (es++[x])).length cX,J (iF es s:Nat)]) (v1:=J 0) Z fx Z (H.ent (i:=1) Z) Z Z ⟨AX,cX,by unfold ph.c;rw[yo _ hsle],⟨hgl.snoc hx (by unfold DP;omega),hcX,Rd.mono (H.fact (i:=0) Z) hloX (H.facts _ (ab (i:=0) Z)).2.1⟩,H.below⟩
 refine G (Zd al H 2 Z Z Z)<|U<|db 1 N Z<|G (Zd eR H 2 Z Z Z)<|U<|db 3 N Z<|sK (vs:=[.slice lA (bJ es).length lc,.slice A5 (mL x).length c5]) H sO Fk Z Z Z Z Z Z fun w16 b45 H=> ?_
 have hcat:y5 [(lA,bJ es,lc),(A5,mL x,c5)]=bJ (es++[x]):=by rw[kY];simp[y5]
 refine U<|db 4 N Z ?_
 have hC:=ww [(lA,bJ es,lc),(A5,mL x,c5)] (Qd b45) 2 _ (Rd.blk (H.ent (i:=0) Z) Z) (by intro p hp;simp at hp;rcases hp with rfl|rfl;exact H.rd0 2 Z;exact H.rd0 0 Z) (by rw[hcat,kY,av];omega) (by simp)
 rw[hcat]at hC
 have hloX:=H.size
 refine cE fQ hC Z Z ?_;rintro _ w17 ⟨AX,cX,LX,rfl,hcX,-,hoX,hjX⟩;replace H:=H.learnOwn hjX hoX
 refine U<|db 7 N Z<|G (bp (cs:= #[.slice AX (bJ (es++[x])).length cX,J (iF es s:Nat)]) xt uh N)<|U<|db 8 N Z<|bI H 1 (#[.slice AX (bJ (es++[x])).length cX,J (iF es s:Nat)]) kU Z Z Z Z Z N N fun w18 H=>U<|db 9 N Z<|G (Wi Z)<|U<|cz N<|Zt ?_
 exact cu (cs0:= #[.slice AX (bJ (es++[x])).length cX,J (iF es s:Nat)]) (v1:=J 0) Z fx Z (H.ent (i:=1) Z) Z Z ⟨AX,cX,by unfold ph.c;rw[yo _ hsle],⟨hgl.snoc hx (by unfold DP;omega),hcX,Rd.mono (H.fact (i:=0) Z) hloX (H.facts _ (ab (i:=0) Z)).2.1⟩,H.below⟩
theorem QO (es:List cd):iF es es.length=(bJ es).length:=by unfold iF;rw[br]
theorem Ht {es:List cd} {a b:Nat} (h:a<=b):iF es a<=iF es b:=by
 have:=fX (es.take b) a
 unfold iF
 rwa[dt,bE h]at this
theorem QN (es:List cd) (s n:Nat):min ((iF es s:Nat):Int) ((iF es n:Nat):Int)=(iF (es.take n) (min s n):Nat):=by
 have e:iF (es.take n) (min s n)=iF es (min s n):=by
  unfold iF;rw[dt,bE (Nat.min_le_right _ _)]
 rw[e]
 by_cases h:s<=n
 have:=Ht (es:=es) h
 rw[bE h];omega
 have:=Ht (es:=es) (show n<=s by omega)
 rw[Nat.min_eq_right I];omega
theorem Rd.cut0 {α:Type} {Y:fu α} {lo hi cap sz:Nat} {A:Option Addr} {es:List α} {w:World} (h:Rd Y lo hi A es w) (k:Nat):Rd Y lo hi (cut A cap 0 sz) (es.take k) w:=by
 have e:cut A cap 0 sz=A:=by
  unfold cut
  split
  rfl
  cases A<;>simp[Addr.add]
 rw[e]
 exact h.take k
theorem IY (l:ph) (w:World) (h:l.ok w):di aa CD [.agg l.c.toArray] w fun v w2=> ∃ A' c',v=.tuple #[.agg (ph.c ⟨A',c',l.es,l.es.length⟩).toArray,J 0]/\Dp w w2 A' c' l.es l.es.length/\Below w.heap.size w w2:=by
 refine aG HR Z Z ?_
 have hgl:=h.gl
 have hcap:=h.cap
 have hsz:=hgl.sz
 have hln:=hgl.len
 have hsle:=hgl.sle
 have hss:iF l.es l.s<=(bJ l.es).length:=fX l.es l.s
 have H:=Hp.startRd h.rd
 obtain⟨lA,lc,es,s⟩:=l
 dsimp only at hgl hcap hsz hln hsle hss H
 have hss2:(bJ (es.take s)).length<=(bJ es).length:=hss
 show CW _ _ _ _ (args [.agg #[.slice lA (bJ es).length lc,J (iF es s:Nat)]]) w
 refine W<|Zr<|gU H Z Z fun w1 b1 H=>fc H uh Z fun w2 b2 H=>G (Wi Z)<|U<|W<|W<|Zr<|G (Zw fx H 1 Z Z Z)<|cE qi (u5 lA lc es s _ ⟨hgl,hcap,H.rd0 0 Z⟩) Z Z ?_
 rintro _ w3 ⟨rfl,hb⟩;replace H:=H.later hb;clear hb
 refine G (Wi Z)<|U<|W<|Zr<|G (Yi Z)<|G (cj Z Z Z)<|U<|ZF Z<|Zk<|W ?_
 have hlo:=H.size
 refine bG cv [0,1,3,4,5,2,6] [7,8] [2] [0,3,5,6] (sp [(2,Sp.row w3.heap.size dQ (bJ es))]) N N N N Nq (cG _) ?_
 refine aw Z Z Z Z Z (fun w' hw'=>Zf ja Z)<|aw Z Z Z Z Z (fun w' hw'=>bd eR Z (aK ((H.later hw').ent (i:=1) Z) Z))<|aw Z Z Z Z Z (fun w' hw'=>Zf ja Z)<|aw Z Z Z Z Z (fun w' hw'=>bd eR Z (aK ((H.later hw').ent (i:=1) Z) Z))<|aw Z Z Z Z Z (fun w' hw'=>bl eY Z)<|E8 f4 Z Z Z Z Z (fun w' hw'=>hw'.size) (fun w' hw'=>ot (bJ es) _ _ w' ((H.later hw').rd0 0 Z) I) Z fun A13 c13 hc13=>aw Z Z Z Z Z (fun w' hw'=>bp (cs:= #[.slice A13 (bJ es).length c13,J ((bJ es).length:Nat)]) xt uh N)<|aT ?_
 intro w4 hw' hF
 obtain⟨hF,Aq,cq,eq,hcq,hrw13⟩:=hF;cases eq;clear hcq
 replace H:=H.learnRd hw' hrw13
 clear hw' hF
 refine bI H 0 (#[.slice A13 (bJ es).length c13,J ((bJ es).length:Nat)]) kU Z Z Z Z Z N N fun w5 H=>G (Wi Z)<|U<|Zt ?_
 exact cu (cs0:= #[.slice A13 (bJ es).length c13,J ((bJ es).length:Nat)]) (v1:=J 0) Z fx Z (H.ent (i:=0) Z) Z Z ⟨A13,c13,by unfold ph.c;rw[QO],⟨hgl.all,hc13,Rd.mono (H.fact (i:=0) Z) hlo (H.facts _ (ab (i:=0) Z)).2.1⟩,H.below⟩
theorem Li (l:ph) (n:Nat) (w:World) (h:l.ok w) (hn:n<=l.es.length):di aa EV [.agg l.c.toArray,J (n:Nat)] w fun v w2=> ∃ A' c',v=.tuple #[.agg (ph.c ⟨A',c',l.es.take n,min l.s n⟩).toArray,J 0]/\Dp w w2 A' c' (l.es.take n) (min l.s n)/\Below w.heap.size w w2:=by
 refine aG JC Z Z ?_
 have hgl:=h.gl
 have hcap:=h.cap
 have hsz:=hgl.sz
 have hln:=hgl.len
 have hsle:=hgl.sle
 have hss:iF l.es l.s<=(bJ l.es).length:=fX l.es l.s
 have H:=Hp.startRd h.rd
 obtain⟨lA,lc,es,s⟩:=l
 dsimp only at hgl hcap hsz hln hsle hss H
 have hss2:(bJ (es.take s)).length<=(bJ es).length:=hss
 show CW _ _ _ _ (args [.agg #[.slice lA (bJ es).length lc,J (iF es s:Nat)],J (n:Nat)]) w
 dsimp only at hn
 refine W<|Zr<|gU H Z Z fun w1 b2 H=>fc H uh Z fun w2 b4 H=>G (Wi Z)<|U<|W<|Zr<|G (Zw fx H 1 Z Z Z)<|cE f5 (gA lA lc es s _ ⟨hgl,hcap,H.rd0 0 Z⟩) Z Z ?_
 rintro _ w3 ⟨A16,c16,rfl,hr16,hc16,hb16⟩;replace H:=H.learnRd hb16 hr16;clear hr16 hb16
 refine G (Yu Z)<|G (Xs Z Z)<|G (Xi Z Z)<|G (Xi Z Z)<|G (Ws Z)<|G (Wi Z)<|G (Wi Z)<|U<|W<|W<|Zr<|G (Yi Z)<|G (cj Z Z Z)<|U<|ZF Z<|Zk<|W<|W<|Zr<|G (Yi Z)<|G (cV Z Z I)<|G (Yb Z)<|ZG<|G (Yi Z)<|ZG<|G (Ys Z)<|ZG<|G (bl dW Z)<|ZG<|G (dX Z Z I)<|G (N Z Z)<|U<|ZF Z<|Zk<|W<|W<|Zr<|G (Yi Z)<|G (Ys Z)<|G (bl dW Z) ?_
 refine dZ (cr Z Z) Z Z Z (fun h36=> ?_) (fun h36=> ?_)
 refine U<|ZT Z<|W ?_
 have hlo:=H.size
 refine bG cv [0,1,3,4,2,5] [6,7] [2] [0,3,5] (sp [(2,Sp.row w3.heap.size dQ (bJ es))]) N N N N Nq (cG _) ?_
 refine aw Z Z Z Z Z (fun w' hw'=>Zf ja Z)<|aw Z Z Z Z Z (fun w' hw'=>bd eR Z (aK ((H.later hw').ent (i:=1) Z) Z))<|aw Z Z Z Z Z (fun w' hw'=>Zf oV Z)<|aw Z Z Z Z Z (fun w' hw'=>bd al Z (aK ((H.later hw').ent (i:=1) Z) Z))<|E8 f4 Z Z Z Z Z (fun w' hw'=>hw'.size) (fun w' hw'=>ot (bJ es) _ _ w' ((H.later hw').rd0 1 Z) I) Z fun A39 c39 hc39=>aw Z Z Z Z Z (fun w' hw'=>bp (cs:= #[.slice A39 (bJ es).length c39,J (iF es s:Nat)]) xt uh N)<|aT ?_
 intro w4 hw' hF
 obtain⟨hF,Aq,cq,eq,hcq,hrw39⟩:=hF;cases eq;clear hcq
 replace H:=H.learnRd hw' hrw39
 clear hw' hF
 refine bI H 0 (#[.slice A39 (bJ es).length c39,J (iF es s:Nat)]) kU Z Z Z Z Z N N fun w5 H=>G (Wi Z)<|U<|Zt ?_
 have hnl:n=es.length:=by omega
 subst hnl
 exact cu (cs0:= #[.slice A39 (bJ es).length c39,J (iF es s:Nat)]) (v1:=J 0) Z fx Z (H.ent (i:=0) Z) Z Z ⟨A39,c39,by unfold ph.c;rw[bE hsle,br],⟨by rw[bE hsle,br];exact hgl,by rw[br];exact hc39,by rw[br];exact Rd.mono (H.fact (i:=0) Z) hlo (H.facts _ (ab (i:=0) Z)).2.1⟩,H.below⟩
 refine U<|ZF Z<|Zk<|W<|Zr<|G (Wi Z)<|U<|W<|W<|Zr<|G (Ys Z)<|G (Yi Z)<|xu (k:=n) H 0 Z dY Z Z hc16 I Z fun A45 H=>G (bl dW Z)<|G (Yi Z)<|U<|Zb ?_
 refine bV (τ:=Nat) [9,11,12,13,47,48,49,50,51,52,53,54,55,56,57,58,59,60] (fun k=>[(9,J (iF es k:Nat)),(47,J (k:Nat))]) (fun k w'=>k<=n/\Hp w w' [(b4,.cells #[.slice none 0 0,J 0] ID (0,0)),(b2,.cells #[.slice lA (bJ es).length lc,J (iF es s:Nat)] ID (0,0))] [ee gC w2.heap.size w3.heap.size A45 (es.take n),ee gC w2.heap.size w3.heap.size A16 es,ee dQ 0 w.heap.size lA (bJ es)]) (fun k=>n-k) 0 ⟨by omega,H⟩ (jT Z Z) ?_
 rintro k ρ1 w6 ⟨hk,H⟩
 show CW _ _ _ _ (dO (ij _ _ ρ1) [(9,J (iF es k:Nat)),(47,J (k:Nat))]) w6
 have hsk0:iF es k<=(bJ es).length:=fX es k
 refine W<|Zr ?_
 refine dZ (cI Z Z) Z Z Z (fun h48=> ?_) (fun h48=> ?_)
 refine U<|W<|ZT Z<|Zk<|W<|Zb<|W<|Zr ?_
 have htl:(es.take n).length=n:=by simp;omega
 refine rE H 0 Z dY Z Z I I Z fun b7 o7 x7 e7=> ?_
 have hxk:es[k]? =some x7:=by have:=e7.at_;rwa[fd I]at this
 have hg:=hgl.good _ (ab hxk)
 have hsk:=fX es (k+1)
 rw[vv hxk,av]at hsk
 have hsk2:iF es k+(mL x7).length<=(bJ es).length:=hsk
 refine G (jF (xs:=cd.c x7) dJ Z Z e7.cl)<|fc H gz Z fun w8 b11 H=>PO H 0 eX Z Z Z Z Z Z fun w9 H=>U<|W<|Zr<|G (Zw dJ H 0 Z Z Z)<|cE vE (E2 x7 _ hg) Z Z ?_
 rintro _ w11 ⟨A10,c10,rfl,hr10,hc10,hb10⟩;replace H:=H.learnRd hb10 hr10;clear hr10 hb10
 refine G (Yu Z)<|G (Xs Z Z)<|G (Xi Z Z)<|G (Ws Z)<|G (Wi Z)<|U<|Zr<|G (Yi Z)<|G (Ys Z)<|G (bl eY Z)<|G (bn Z Z I I)<|G (Wi Z)<|U<|Zr<|G (bn Z Z I I)<|G (Yi Z)<|U ?_
 refine⟨k+1,⟨by omega,H.forget (aS _ _) (fun _ h=>aj _ h)⟩,jT (by show _=Value.int .i64 ((iF es (k+1):Nat):Int);unfold iF;rw[vv hxk,av];rfl) Z,Qg,by show n- (k+1)<n-k;omega⟩
 have hkn:n=k:=by omega
 subst hkn
 refine U<|W<|ZF Z<|Zx<|W ?_
 have hlo:=H.size
 refine bG cv [0,1,2,3,5,6,7,8,4,9] [10,11] [4] [0,2,3,5,7,8,9] (sp [(4,Sp.row w6.heap.size dQ (bJ (es.take n)))]) N N N N Nq (cG _) ?_
 refine aw Z Z Z Z Z (fun w' hw'=>Zf ja Z)<|aw Z Z Z Z Z (fun w' hw'=>bd eR Z (aK ((H.later hw').ent (i:=1) Z) Z))<|aw Z Z Z Z Z (fun w' hw'=>Yi Z)<|aw Z Z Z Z Z (fun w' hw'=>FA (i:=((iF es n:Nat):Int)) eJ Z Z I (by have:=fX es n;show((iF es n:Nat):Int)<=_;unfold iF;omega))<|aw Z Z Z Z Z (fun w' hw'=>Zf oV Z)<|aw Z Z Z Z Z (fun w' hw'=>bd al Z (aK ((H.later hw').ent (i:=1) Z) Z))<|aw Z Z Z Z Z (fun w' hw'=>Yi Z)<|aw Z Z Z Z Z (fun w' hw'=>zu Z Z)<|E8 f4 Z Z Z Z Z (fun w' hw'=>hw'.size) (fun w' hw'=>ot (bJ (es.take n)) _ _ w' (by have:=Rd.cut0 (cap:=lc) (sz:=1) ((H.later hw').rd0 2 Z) (iF es n);rwa[ze]at this) (by have:=fX es n;omega)) Z fun A65 c65 hc65=>aw Z Z Z Z Z (fun w' hw'=>bp (cs:= #[.slice A65 (bJ (es.take n)).length c65,J (min ((iF es s:Nat):Int) ((iF es n:Nat):Int))]) xt uh N)<|aT ?_
 intro w12 hw' hF
 obtain⟨hF,Aq,cq,eq,hcq,hrw65⟩:=hF;cases eq;clear hcq
 replace H:=H.learnRd hw' hrw65
 clear hw' hF
 refine bI H 0 (#[.slice A65 (bJ (es.take n)).length c65,J (min ((iF es s:Nat):Int) ((iF es n:Nat):Int))]) kU Z Z Z Z Z N N fun w13 H=>G (Wi Z)<|U<|Zt ?_
 exact cu (cs0:= #[.slice A65 (bJ (es.take n)).length c65,J (min ((iF es s:Nat):Int) ((iF es n:Nat):Int))]) (v1:=J 0) Z fx Z (H.ent (i:=0) Z) Z Z ⟨A65,c65,by unfold ph.c;rw[QN],⟨hgl.take n (by simp;omega),hc65,Rd.mono (H.fact (i:=0) Z) hlo (H.facts _ (ab (i:=0) Z)).2.1⟩,H.below⟩
/-- a replica, and where its log's bytes lie -/
structure gh where
 up:Bool
 A:Option Addr
 cap:Nat
 es:List cd
 s:Nat
 high:Int
 lo:Nat
 hi:Nat
def gh.c (r:gh):List Value:=[.bool r.up,.slice r.A (bJ r.es).length r.cap,J (iF r.es r.s:Nat),J r.high]
def iT:fu gh:=⟨gh.c,4,fun _=>rfl,by decide,fun a u hu=>by
 simp only[gh.c,ay,bu,or_false]at hu
 rcases hu with h|h|h|h<;>subst h<;>rfl⟩
def fJ:fu Bool:=⟨fun n=>[.bool n],1,fun _=>rfl,by decide,fun a u hu=>by
 simp only[aq]at hu;subst hu;rfl⟩
abbrev gh.log (r:gh):ph:=⟨r.A,r.cap,r.es,r.s⟩
abbrev DD (r:gh):cf:=ee dQ r.lo r.hi r.A (bJ r.es)
abbrev wT (rs:List gh):List cf:=rs.map DD
structure RA where
 up:Bool
 es:List cd
 s:Nat
 high:Int
def gh.a (r:gh):RA:=⟨r.up,r.es,r.s,r.high⟩
structure gi where
 epoch:Int
 leader:Int
 isr:List Bool
 known:List Int
 reps:List RA
 few:Int
 base:Int
structure Pa where
 epoch:Int
 leader:Int
 isr:List Bool
 iA:Option Addr
 iC:Nat
 known:List Int
 kA:Option Addr
 kC:Nat
 reps:List gh
 rA:Option Addr
 rC:Nat
 few:Int
 base:Int
def Pa.c (p:Pa):List Value:=[J p.epoch,J p.leader,.slice p.iA p.isr.length p.iC,.slice p.kA p.known.length p.kC,.slice p.rA p.reps.length p.rC,J p.few,J p.base]
abbrev Pa.v (p:Pa):Value:=.agg p.c.toArray
def Pa.a (p:Pa):gi:=⟨p.epoch,p.leader,p.isr,p.known,p.reps.map gh.a,p.few,p.base⟩
structure Pa.rd (p:Pa) (lo hi:Nat) (w:World):Prop where
 isr:Rd fJ lo hi p.iA p.isr w
 known:Rd bR lo hi p.kA p.known w
 reps:Rd iT lo hi p.rA p.reps w
 logs: ∀ r∈p.reps,Rd dQ lo hi r.A (bJ r.es) w
 iC:p.isr.length<=p.iC
 kC:p.known.length<=p.kC
 rC:p.reps.length<=p.rC
 cap: ∀ r∈p.reps,(bJ r.es).length<=r.cap
 few:p.isr.length<=1000000/\p.known.length<=1000000/\p.reps.length<=1000000
theorem Pa.rd.st {p:Pa} {lo hi:Nat} {w w':World} (hk: ∀ k,lo<=k->k<hi->w'.heap[k]? =w.heap[k]?) (h:p.rd lo hi w):p.rd lo hi w':=
 ⟨h.isr.st hk,h.known.st hk,h.reps.st hk,fun r hr=>(h.logs r hr).st hk,h.iC,h.kC,h.rC,h.cap,h.few⟩
theorem Pa.rd.mono {p:Pa} {lo hi lo' hi':Nat} {w:World} (h:p.rd lo hi w) (hl:lo'<=lo) (hh:hi<=hi'):p.rd lo' hi' w:=
 ⟨h.isr.mono hl hh,h.known.mono hl hh,h.reps.mono hl hh,fun r hr=>(h.logs r hr).mono hl hh,h.iC,h.kC,h.rC,h.cap,h.few⟩
def MV (lo hi:Nat) (p:Pa):cf:=⟨lo,hi,p.rd lo hi,fun _ _ hk h=>h.st hk⟩
structure RA.ok (r:RA):Prop where
 gl:GL r.es r.s
 high0:0<=r.high
 high1:r.high<=r.es.length
structure gi.ok (p:gi):Prop where
 n1:1<=p.reps.length
 n2:p.reps.length<=5
 isrl:p.isr.length=p.reps.length
 knownl:p.known.length=p.reps.length
 few1:1<=p.few
 few2:p.few<=p.reps.length
 ep0:0<=p.epoch
 ep1:p.epoch<=1073741824
 ld0: -1<=p.leader
 ld1:p.leader<p.reps.length
 base0:0<=p.base
 base1:p.base<=400
 some_:true∈p.isr
 lead: ∀ (l:Nat) (r:RA),p.leader=l->p.reps[l]? =some r->p.isr[l]? =some true/\r.up=true
 reps: ∀ r∈p.reps,r.ok
 known: ∀ n∈p.known,0<=n/\n<=400
theorem Hp.startPa {p:Pa} {w:World} (h:p.rd 0 w.heap.size w):Hp w w [] [MV 0 w.heap.size p,ee fJ 0 w.heap.size p.iA p.isr,ee bR 0 w.heap.size p.kA p.known,ee iT 0 w.heap.size p.rA p.reps]:=
 ((((Hp.start w).learnOld (ee iT 0 w.heap.size p.rA p.reps) h.reps (ap _)).learnOld (ee bR 0 w.heap.size p.kA p.known) h.known (ap _)).learnOld (ee fJ 0 w.heap.size p.iA p.isr) h.isr (ap _)).learnOld (MV 0 w.heap.size p) h (ap _)
theorem Hp.pa {w0 w:World} {L:List (Nat×Obj)} {F:List cf} {lo hi:Nat} {p:Pa} (H:Hp w0 w L F) (i:Nat) (hF:F[i]? =some (MV lo hi p)):p.rd 0 w.heap.size w:=
 Pa.rd.mono (H.fact hF) (aV _) (H.facts _ (ab hF)).2.1
theorem Pa.rd.nil (lo hi:Nat) (w:World):Pa.rd ⟨0,0,[],none,0,[],none,0,[],none,0,0,0⟩ lo hi w:=
 ⟨Rd.nil,Rd.nil,Rd.nil,fun r hr=>by simp at hr,by simp,by simp,by simp,fun r hr=>by simp at hr,by simp⟩
def KS:Pa:=⟨0,0,[],none,0,[],none,0,[],none,0,0,0⟩
def mF:gi:=⟨0,0,[],[],[],0,0⟩
def iI (w w2:World) (p:Pa):Prop:=p.rd w.heap.size w2.heap.size w2/\Below w.heap.size w w2
theorem iI.zero {w w2:World} (h:Below w.heap.size w w2):iI w w2 KS:=⟨Pa.rd.nil _ _ _,h⟩
structure KP (w w2:World) (p:Pa) (g1 g2 g3:Nat) (c1 c2 c3:Array Value):Prop where
 i:p.iA=some ⟨g1,0,none⟩
 k:p.kA=some ⟨g2,0,none⟩
 r:p.rA=some ⟨g3,0,none⟩
 ri:d8 fJ p.isr p.iC c1
 rk:d8 bR p.known p.kC c2
 rr:d8 iT p.reps p.rC c3
 cap: ∀ r∈p.reps,(bJ r.es).length<=r.cap
 los: ∀ r∈p.reps,w.heap.size<=r.lo
 few:p.isr.length<=1000000/\p.known.length<=1000000/\p.reps.length<=1000000
 hp:Hp w w2 [(g1,.cells c1 kb (0,0)),(g2,.cells c2 cM (0,0)),(g3,.cells c3 fM (0,0))] (wT p.reps)
theorem KP.new {w w2:World} {p:Pa} {g1 g2 g3:Nat} {c1 c2 c3:Array Value} (h:KP w w2 p g1 g2 g3 c1 c2 c3):iI w w2 p:=by
 have H:=h.hp
 have e1:=H.ents _ (ik _)
 have e2:=H.ents _ (ru _ (ik _))
 have e3:=H.ents _ (ru _ (ru _ (ik _)))
 refine⟨⟨?_,?_,?_,fun r hr=> ?_,h.ri.le,h.rk.le,h.rr.le,h.cap,h.few⟩,H.below⟩
 rw[h.i];exact(h.ri.rd e1.1).mono e1.2 (bX e1.1)
 rw[h.k];exact(h.rk.rd e2.1).mono e2.2 (bX e2.1)
 rw[h.r];exact(h.rr.rd e3.1).mono e3.2 (bX e3.1)
 obtain⟨f1,f2,-⟩:=H.facts (DD r) (bM hr)
 exact Rd.mono f1 (h.los r hr) f2
theorem D6 (es:List Bool) (A:Option Addr) (c:Nat) (w:World) (hr:Rd fJ 0 w.heap.size A es w) (hb:es.length*1<=140737488355328):
  di aa rc [.slice A es.length c] w fun v w2=> ∃ A' c' L',v=.slice A' es.length c'/\es.length<=c'/\c'<=maxLen/\gb fJ (.slice A' es.length c') kb es L'/\Hp w w2 L' []:=by
 refine aG qG Z Z ?_
 have H:=Hp.startRd hr
 refine W<|Zr<|G (Ws Z)<|U<|W<|W<|Zr<|G (Ys Z) ?_
 refine By (pX zx Z) Z Z Z (fun h4=> ?_) (fun h4=> ?_)
 refine U<|ZT Z<|W<|Zr<|G (Ws Z)<|U<|Zt ?_
 have he:es=[]:=by
  cases es with
  |nil=>rfl
  |cons e es=>obtain⟨b,o,hA,_⟩:=hr (by simp);subst hA;cases h4
 subst he
 exact cU Z Z ⟨none,0,[],rfl,by simp,by decide,gb.nil,H.forget (by simp) (by simp)⟩
 refine U<|ZF Z<|Zk<|W<|Zr<|Rg H ff Z fun w1 b5 H=>G (Ys Z)<|uO (Y:=fJ) Pz (K:=[]) (L:=[(b5,_)]) (M:=[]) H (sI.lit (by decide) (by rfl)) (es:=[]) (news:=es) Z Z Z (Rd.src (H.fact (i:=0) Z)) (by simpa using hb) Z ?_
 intro A3 c3 w3 L3 h3a h3b ho3 H
 refine G (Ws Z)<|U<|Zt ?_
 exact cU Z Z ⟨A3,c3,L3,rfl,h3a,h3b,ho3,H.forget (by simp) (by simp)⟩
theorem zP (es:List gh) (A:Option Addr) (c:Nat) (w:World) (hr:Rd iT 0 w.heap.size A es w) (hb:es.length*48<=140737488355328):
  di aa nv [.slice A es.length c] w fun v w2=> ∃ A' c' L',v=.slice A' es.length c'/\es.length<=c'/\c'<=maxLen/\gb iT (.slice A' es.length c') fM es L'/\Hp w w2 L' []:=by
 refine aG m6 Z Z ?_
 have H:=Hp.startRd hr
 refine W<|Zr<|G (Ws Z)<|U<|W<|W<|Zr<|G (Ys Z) ?_
 refine By (pX im Z) Z Z Z (fun h4=> ?_) (fun h4=> ?_)
 refine U<|ZT Z<|W<|Zr<|G (Ws Z)<|U<|Zt ?_
 have he:es=[]:=by
  cases es with
  |nil=>rfl
  |cons e es=>obtain⟨b,o,hA,_⟩:=hr (by simp);subst hA;cases h4
 subst he
 exact cU Z Z ⟨none,0,[],rfl,by simp,by decide,gb.nil,H.forget (by simp) (by simp)⟩
 refine U<|ZF Z<|Zk<|W<|Zr<|Rg H bQ Z fun w1 b5 H=>G (Ys Z)<|uO (Y:=iT) Iw (K:=[]) (L:=[(b5,_)]) (M:=[]) H (sI.lit (by decide) (by rfl)) (es:=[]) (news:=es) Z Z Z (Rd.src (H.fact (i:=0) Z)) (by simpa using hb) Z ?_
 intro A3 c3 w3 L3 h3a h3b ho3 H
 refine G (Ws Z)<|U<|Zt ?_
 exact cU Z Z ⟨A3,c3,L3,rfl,h3a,h3b,ho3,H.forget (by simp) (by simp)⟩
theorem DG (es:List Bool) (A:Option Addr) (c:Nat) (w:World) (hr:Rd fJ 0 w.heap.size A es w) (hb:es.length<=1000000):
  di aa rb [.slice A es.length c,.bool true] w fun v w2=>(∃ n:Int,v=J n/\(0<=n↔true∈es))/\Below w.heap.size w w2:=by
 refine aG qE Z Z ?_
 have H:=Hp.startRd hr
 refine W<|Zr<|G (Wi Z)<|U<|W<|W<|Zr<|G (Ys Z)<|G (bl zx Z)<|G (Yi Z)<|U<|Zb ?_
 refine bV (τ:=Nat) [4,5,8,9,10,11,12,13,14,15,16,17,18] (fun k=>[(8,J (k:Nat))]) (fun k w'=>k<=es.length/\(∀ j,j<k->es[j]? =some false)/\Hp w w' [] [ee fJ 0 w.heap.size A es]) (fun k=>es.length-k) 0 ⟨by omega,by intro j hj;omega,H⟩ (ef Z) ?_
 rintro k ρ1 w1 ⟨hk,hno,H⟩
 show CW _ _ _ _ (dO (ij _ _ ρ1) [(8,J (k:Nat))]) w1
 refine W<|Zr ?_
 refine dZ (cI Z Z) Z Z Z (fun h9=> ?_) (fun h9=> ?_)
 refine U<|W<|ZT Z<|Zk<|W<|Zb<|W<|Zr<|G (Yi Z)<|G (Wi Z)<|U<|W<|Zr<|G (Yb Z)<|G (Ys Z)<|G (Yi Z)<|rE H 0 Z ff Z Z I I Z fun b2 o2 x2 e2=>G (bd eP Z (e2.cl 0 _ Z))<|G (Po GR Z Z) ?_
 refine px 16 Z (fun h16=> ?_) (fun h16=> ?_)
 refine U<|ZT Z<|W<|Zr<|G (Yi Z)<|G (Wi Z)<|U<|Zt ?_
 exact cU Z Z ⟨⟨_,rfl,⟨fun _=>by have:=ab e2.at_;simp at h16;rwa[h16]at this,fun _=>by omega⟩⟩,H.below⟩
 refine U<|ZF Z<|Zk<|Zr<|G (bn Z Z I I)<|G (Yi Z)<|U ?_
 refine⟨k+1,⟨by omega,fun j hj=> ?_,H⟩,ef Z,Qg,by show es.length- (k+1)<es.length-k;omega⟩
 by_cases hji:j<k
 exact hno j hji
 have:j=k:=by omega
 subst this;rw[e2.at_];simpa using h16
 refine U<|W<|ZF Z<|Zx<|W<|Zr<|G (Wi Z)<|U<|Zt ?_
 exact cU Z Z ⟨⟨-1,rfl,⟨fun h=>by omega,fun h=>by obtain⟨j,hj⟩:=aN.1 h;have:=hno j (by have:=(bZ hj).1;omega);rw[hj]at this;cases this⟩⟩,H.below⟩
theorem zL (es:List Bool) (A:Option Addr) (c:Nat) (w:World) (hr:Rd fJ 0 w.heap.size A es w) (hb:es.length<=1000000):
  di aa pE [.slice A es.length c,.bool true] w fun v w2=>v=.bool (decide (true∈es))/\Below w.heap.size w w2:=by
 refine aG oO Z Z ?_
 have H:=Hp.start w
 refine W<|Zr<|G (Wb Z)<|U<|W<|Zr<|G (Ys Z)<|G (Yb Z)<|cE qO (DG es _ _ _ hr hb) Z Z ?_
 rintro _ w1 ⟨⟨n,rfl,hn⟩,hb⟩;replace H:=H.later hb;clear hb
 refine G (pN Z Z)<|G (Wb Z)<|U<|Zt ?_
 exact cU (v:=.bool (decide (0<=n))) Z Z ⟨by rw[decide_eq_decide.2 hn],H.below⟩
theorem sP (p:Pa) (i:Nat) (r:gh) (w:World) (hR:Rd iT 0 w.heap.size p.rA p.reps w) (hr:p.reps[i]? =some r) (hl:r.log.ok w):di aa HE [p.v,J (i:Nat)] w fun v w2=>v=.tuple #[J (r.es.length:Nat),J (r.s:Nat)]/\Below w.heap.size w w2:=by
 refine aG Gi Z Z ?_
 obtain⟨ep,ld,isr,iA,iC,kn,kA,kC,reps,rA,rC,fw,bs⟩:=p
 dsimp only at hR hr
 have H:=Hp.startRd hR
 have hil:=(bZ hr).1
 show CW _ _ _ _ (args [.agg #[J (ep),J (ld),.slice iA isr.length iC,.slice kA kn.length kC,.slice rA reps.length rC,J (fw),J (bs)],J (((i:Nat):Int))]) w
 refine W<|Zr<|gU H Z Z fun w1 b2 H=>G (Wi Z)<|G (Wi Z)<|U<|W<|Zr<|G (Zf dI Z)<|G (Zd cF H 0 Z Z Z)<|G (Yi Z)<|rE H 0 Z bQ Z Z I I Z fun b2 o2 x2 e2=> ?_
 obtain rfl:x2=r:=by have:=e2.at_;rw[hr]at this;exact(aZ this).symm
 refine G (Zf dM Z)<|G (jF (xs:=[.slice x2.A ((bJ x2.es).length) x2.cap,J (((iF x2.es x2.s:Nat):Int))]) fx Z Z (Gx e2.cl 1 Z))<|cE f5 (gA x2.A x2.cap x2.es x2.s _ ⟨hl.gl,hl.cap,hl.rd.below H.below|>.mono (ap _) H.size⟩) Z Z ?_
 rintro _ w3 ⟨Aen,cen,rfl,hren,hcen,hben⟩;replace H:=H.learnRd hben hren;clear hren hben
 refine G (Yu Z)<|G (Xs Z Z)<|G (Xi Z Z)<|G (Xi Z Z)<|G (Ws Z)<|G (Wi Z)<|G (Wi Z)<|U<|W<|Zr<|G (Ys Z)<|G (bl dW Z)<|G (Yi Z)<|G (Wi Z)<|G (Wi Z)<|U<|Zt ?_
 exact mK Z Z Z ⟨rfl,H.below⟩
theorem Pa.facts {p:Pa} (h:p.a.ok):1<=p.reps.length/\p.reps.length<=5/\p.isr.length=p.reps.length/\p.known.length=p.reps.length/\1<=p.few/\p.few<=p.reps.length/\0<=p.epoch/\p.epoch<=1073741824/\ -1<=p.leader/\p.leader<p.reps.length/\0<=p.base/\p.base<=400/\true∈p.isr:=by
 have h1:=h.n1;have h2:=h.n2;have h3:=h.isrl;have h4:=h.knownl;have h6:=h.few2;have h7:=h.ld1
 simp only[Pa.a,bF]at h1 h2 h3 h4 h6 h7
 exact⟨h1,h2,h3,h4,h.few1,h6,h.ep0,h.ep1,h.ld0,h7,h.base0,h.base1,h.some_⟩
theorem Pa.repOk {p:Pa} (h:p.a.ok) {i:Nat} {r:gh} (hr:p.reps[i]? =some r):GL r.es r.s/\0<=r.high/\r.high<=r.es.length:=by
 have h1:=h.reps r.a (bM (ab hr))
 exact⟨h1.gl,h1.high0,h1.high1⟩
theorem Pa.leads {p:Pa} (h:p.a.ok) {l:Nat} {r:gh} (hl:p.leader=l) (hr:p.reps[l]? =some r):p.isr[l]? =some true/\r.up=true:=
 h.lead l r.a hl (by simp[Pa.a,hr])
theorem Pa.log {p:Pa} {w:World} (hd:p.rd 0 w.heap.size w) (h:p.a.ok) {i:Nat} {r:gh} (hr:p.reps[i]? =some r):r.log.ok w:=
 ⟨(Pa.repOk h hr).1,hd.cap r (ab hr),hd.logs r (ab hr)⟩
theorem sQ (p:Pa) (w:World) (h:p.rd 0 w.heap.size w) (hok:p.a.ok):di aa F3 [p.v] w fun v w2=>v=J 0/\Below w.heap.size w w2:=by
 refine aG DV Z Z ?_
 obtain⟨hn1,hn2,hil,hkl,hf1,hf2,he0,he1,hl0,hl1,hb0,hb1,hsm⟩:=Pa.facts hok
 have hkn:=hok.known
 have hiC:=h.iC
 have hkC:=h.kC
 have hrC:=h.rC
 have hfew:=h.few
 have H:=Hp.startPa h
 obtain⟨ep,ld,isr,iA,iC,kn,kA,kC,reps,rA,rC,fw,bs⟩:=p
 simp only[Pa.a]at hkn
 dsimp only at H hn1 hn2 hil hkl hf1 hf2 he0 he1 hl0 hl1 hb0 hb1 hsm hiC hkC hrC hfew
 show CW _ _ _ _ (args [.agg #[J (ep),J (ld),.slice iA isr.length iC,.slice kA kn.length kC,.slice rA reps.length rC,J (fw),J (bs)]]) w
 refine W<|Zr<|gU H Z Z fun w1 b1 H=>G (Wi Z)<|U<|W<|Zr<|G (Zf dI Z)<|G (Zd cF H 0 Z Z Z)<|G (bl im Z)<|G (Wi Z)<|U<|W<|W<|Zr<|G (Yi Z)<|G (cV Z Z I)<|G (Yb Z)<|ZG<|G (Yi Z)<|ZG<|G (dX Z Z I)<|G (N Z Z)<|G (Yb Z)<|ZG<|G (Zf la Z)<|ZG<|G (Zd mn H 0 Z Z Z)<|ZG<|G (bl zx Z)<|ZG<|G (Yi Z)<|ZG<|G (cj Z Z I)<|G (N Z Z)<|G (Yb Z)<|ZG<|G (Zf iZ Z)<|ZG<|G (Zd cP H 0 Z Z Z) ?_
 refine ZG<|G (bl fp Z)<|ZG<|G (Yi Z)<|ZG<|G (cj Z Z I)<|G (N Z Z)<|G (Yb Z)<|ZG<|G (Zf zJ Z)<|ZG<|G (Zd al H 0 Z Z Z)<|ZG<|G (cV Z Z I)<|G (N Z Z)<|G (Yb Z)<|ZG<|G (Zf zJ Z)<|ZG<|G (Zd al H 0 Z Z Z)<|ZG<|G (Yi Z)<|ZG<|G (dX Z Z I)<|G (N Z Z)<|G (Yb Z)<|ZG<|G (Zf qm Z)<|ZG<|G (Zd al H 0 Z Z Z)<|ZG<|G (cV Z Z I)<|G (N Z Z)<|G (Yb Z)<|ZG<|G (Zf qm Z)<|ZG<|G (Zd al H 0 Z Z Z)<|ZG<|G (dX Z Z I) ?_
 refine G (N Z Z)<|G (Yb Z)<|ZG<|G (Zf eu Z)<|ZG<|G (Zd al H 0 Z Z Z)<|ZG<|G (cV Z Z I)<|G (N Z Z)<|G (Yb Z)<|ZG<|G (Zf eu Z)<|ZG<|G (Zd al H 0 Z Z Z)<|ZG<|G (Yi Z)<|ZG<|G (nP Z Z I)<|G (N Z Z)<|G (Yb Z)<|ZG<|G (Zf zI Z)<|ZG<|G (Zd al H 0 Z Z Z)<|ZG<|G (cV Z Z I)<|G (N Z Z)<|G (Yb Z)<|ZG<|G (Zf zI Z)<|ZG<|G (Zd al H 0 Z Z Z)<|ZG<|G (dX Z Z I)<|G (N Z Z)<|U<|ZF Z<|Zk<|W<|W ?_
 refine Zr<|G (Zf la Z)<|G (Zd mn H 0 Z Z Z)<|cE pb (zL isr iA iC _ (H.rd0 1 Z) I) Z Z ?_
 rintro _ w2 ⟨rfl,hb⟩;replace H:=H.later hb;clear hb
 rw[decide_eq_true hsm]
 refine G (d9 Z)<|G (Yb Z)<|ZG<|G (Zf eu Z)<|ZG<|G (Zd al H 0 Z Z Z)<|ZG ?_
 refine dZ (pN Z Z) Z Z Z (fun h80=> ?_) (fun h80=> ?_)
 obtain⟨l,hld⟩: ∃ l:Nat,ld=l:=⟨ld.toNat,by omega⟩
 refine ZG<|G (Yb Z)<|ZG<|G (Zf la Z)<|ZG<|G (Zd mn H 0 Z Z Z)<|ZG<|G (Zf eu Z)<|ZG<|G (Zd al H 0 Z Z Z)<|ZG<|rE (k:=l) H 1 Z ff Z (congrArg (Value.int .i64) hld) I I Z fun b3 o3 x3 e3=>ZG ?_
 obtain⟨hI,-⟩:=Pa.leads hok (l:=l) hld (show(Pa.reps ⟨ep,ld,isr,iA,iC,kn,kA,kC,reps,rA,rC,fw,bs⟩)[l]? =_ from ai (by show l<reps.length;omega))
 obtain rfl:x3=true:=by have:=e3.at_;rw[show isr[l]? =_ from hI]at this;exact(aZ this).symm
 refine G (bd (v:=.bool true) eP Z (e3.cl 0 _ Z))<|ZG<|G (d9 Z)<|ZG<|G (Yb Z)<|ZG<|G (Zf dI Z)<|ZG<|G (Zd cF H 0 Z Z Z)<|ZG<|G (Zf eu Z)<|ZG<|G (Zd al H 0 Z Z Z)<|ZG<|rE (k:=l) H 3 Z bQ Z (congrArg (Value.int .i64) hld) I I Z fun b4 o4 x4 e4=>ZG<|G (Zf kZ Z)<|ZG ?_
 obtain⟨-,hU⟩:=Pa.leads hok (l:=l) hld (show(Pa.reps ⟨ep,ld,isr,iA,iC,kn,kA,kC,reps,rA,rC,fw,bs⟩)[l]? =_ from e4.at_)
 refine G (bd (v:=.bool true) eP Z (e4.cl 0 _ (by rw[<-hU];rfl)))<|ZG<|G (d9 Z)<|ZG<|G (N Z Z)<|ZG<|G (Kt Z Z)<|G (N Z Z)<|U<|ZF Z<|Zk<|W<|W<|Zr<|G (Zf dI Z)<|G (Zd cF H 0 Z Z Z)<|G (bl im Z)<|G (Yi Z)<|U<|Zb ?_
 refine bV (τ:=Nat) [2,4,5,6,7,104,105,106,107,108,109,110,111,112,113,114,115,116,117,118,119,120,121,122,123,124,125,126,127,128,129,130,131,132,133,134,135,136,137,138,139,140,141,142,143,144,145,146] (fun k=>[(104,J (k:Nat))]) (fun k w'=>k<=reps.length/\Hp w w' [(b1,.cells #[J (ep),J (ld),.slice iA isr.length iC,.slice kA kn.length kC,.slice rA reps.length rC,J (fw),J (bs)] bY (0,0))] [MV 0 w.heap.size ⟨ep,ld,isr,iA,iC,kn,kA,kC,reps,rA,rC,fw,bs⟩,ee fJ 0 w.heap.size iA isr,ee bR 0 w.heap.size kA kn,ee iT 0 w.heap.size rA reps]) (fun k=>reps.length-k) 0 ⟨by omega,H⟩ (ef Z) ?_
 rintro k ρ1 w5 ⟨hk,H⟩
 show CW _ _ _ _ (dO (ij _ _ ρ1) [(104,J (k:Nat))]) w5
 refine W<|Zr ?_
 refine dZ (cI Z Z) Z Z Z (fun h105=> ?_) (fun h105=> ?_)
 refine U<|W<|ZT Z<|Zk<|W<|Zb<|W<|Zr<|G (Yi Z)<|rE H 3 Z bQ Z Z I I Z fun b6 o6 x6 e6=>G (jF (xs:=gh.c x6) mB Z Z e6.cl)<|fc H ql Z fun w7 b5 H=>G (Wi Z)<|bI H 0 (#[.bool (x6.up),.slice x6.A ((bJ x6.es).length) x6.cap,J (((iF x6.es x6.s:Nat):Int)),J (x6.high)]) mj Z Z Z Z Z N N fun w8 H=>U<|W<|Zr<|G (Zw bo H 1 Z Z Z)<|G (Yi Z)<|cE lg (sP ⟨ep,ld,isr,iA,iC,kn,kA,kC,reps,rA,rC,fw,bs⟩ k x6 _ (H.rd0 3 Z) e6.at_ (Pa.log (Hp.pa H 0 Z) hok (i:=k) e6.at_)) Z Z ?_
 rintro _ w9 ⟨rfl,hb⟩;replace H:=H.later hb;clear hb
 refine G (Yu Z)<|G (Xi Z Z)<|G (Xi Z Z)<|G (Wi Z)<|G (Wi Z)<|U<|W<|Zr<|G (Zf dM Z)<|G (jW 1 [.slice x6.A ((bJ x6.es).length) x6.cap,J (((iF x6.es x6.s:Nat):Int))] fx Z Z (H.ent (i:=0) Z) Z)<|cE qi (u5 x6.A x6.cap x6.es x6.s _ (Pa.log (Hp.pa H 0 Z) hok (i:=k) e6.at_)) Z Z ?_
 rintro _ w10 ⟨rfl,hb⟩;replace H:=H.later hb;clear hb
 refine G (cj Z Z Z)<|G (Yb Z)<|ZG<|G (Zf eU Z)<|ZG<|G (Zd al H 0 Z Z Z)<|ZG<|G (cV Z Z (by have:=(Pa.repOk hok (show(Pa.reps ⟨ep,ld,isr,iA,iC,kn,kA,kC,reps,rA,rC,fw,bs⟩)[k]? =_ from e6.at_)).2.1;omega))<|G (N Z Z)<|G (Yb Z)<|ZG<|G (Zf eU Z)<|ZG<|G (Zd al H 0 Z Z Z)<|ZG<|G (Yi Z)<|ZG<|G (dX Z Z (by have:=(Pa.repOk hok (show(Pa.reps ⟨ep,ld,isr,iA,iC,kn,kA,kC,reps,rA,rC,fw,bs⟩)[k]? =_ from e6.at_)).2.2;omega))<|G (N Z Z)<|G (Yb Z)<|ZG<|G (Zf iZ Z)<|ZG<|G (Zd cP H 1 Z Z Z)<|ZG<|G (Yi Z)<|ZG<|rE H 2 Z bj Z Z I I Z fun b11 o11 x11 e11=>ZG<|G (bd al Z (e11.cl 0 _ Z))<|ZG<|G (cV Z Z (by have:=(hkn _ (ab e11.at_)).1;omega))<|G (N Z Z)<|G (Yb Z)<|ZG<|G (Zf iZ Z)<|ZG<|G (Zd cP H 1 Z Z Z)<|ZG<|G (Yi Z) ?_
 refine ZG<|rE H 2 Z bj Z Z I I Z fun b12 o12 x12 e12=>ZG<|G (bd al Z (e12.cl 0 _ Z))<|ZG<|G (dX Z Z (by have:=(hkn _ (ab e12.at_)).2;omega))<|G (N Z Z)<|U<|ZF Z<|Zk<|Zr<|G (bn Z Z I I)<|G (Yi Z)<|U ?_
 refine⟨k+1,⟨by omega,H.forget (.cons _ (au _)) (fun _ h=>h)⟩,ef Z,Qg,by show reps.length- (k+1)<reps.length-k;omega⟩
 refine U<|W<|ZF Z<|Zx<|W<|Zr<|G (Wi Z)<|U<|Zt ?_
 exact cU Z Z ⟨rfl,H.below⟩
 refine ZG<|G (Yb Z)<|ZN<|ZN<|ZN<|ZN<|ZN<|ZN<|ZN<|ZN<|ZN<|ZN<|ZN<|ZN<|ZN<|ZN<|ZN<|ZN<|ZN<|ZG<|G (N Z Z)<|G (N Z Z)<|U<|ZF Z<|Zk<|W<|W<|Zr<|G (Zf dI Z)<|G (Zd cF H 0 Z Z Z)<|G (bl im Z)<|G (Yi Z)<|U<|Zb ?_
 refine bV (τ:=Nat) [2,4,5,6,7,104,105,106,107,108,109,110,111,112,113,114,115,116,117,118,119,120,121,122,123,124,125,126,127,128,129,130,131,132,133,134,135,136,137,138,139,140,141,142,143,144,145,146] (fun k=>[(104,J (k:Nat))]) (fun k w'=>k<=reps.length/\Hp w w' [(b1,.cells #[J (ep),J (ld),.slice iA isr.length iC,.slice kA kn.length kC,.slice rA reps.length rC,J (fw),J (bs)] bY (0,0))] [MV 0 w.heap.size ⟨ep,ld,isr,iA,iC,kn,kA,kC,reps,rA,rC,fw,bs⟩,ee fJ 0 w.heap.size iA isr,ee bR 0 w.heap.size kA kn,ee iT 0 w.heap.size rA reps]) (fun k=>reps.length-k) 0 ⟨by omega,H⟩ (ef Z) ?_
 rintro k ρ1 w13 ⟨hk,H⟩
 show CW _ _ _ _ (dO (ij _ _ ρ1) [(104,J (k:Nat))]) w13
 refine W<|Zr ?_
 refine dZ (cI Z Z) Z Z Z (fun h105=> ?_) (fun h105=> ?_)
 refine U<|W<|ZT Z<|Zk<|W<|Zb<|W<|Zr<|G (Yi Z)<|rE H 3 Z bQ Z Z I I Z fun b14 o14 x14 e14=>G (jF (xs:=gh.c x14) mB Z Z e14.cl)<|fc H ql Z fun w15 b5 H=>G (Wi Z)<|bI H 0 (#[.bool (x14.up),.slice x14.A ((bJ x14.es).length) x14.cap,J (((iF x14.es x14.s:Nat):Int)),J (x14.high)]) mj Z Z Z Z Z N N fun w16 H=>U<|W<|Zr<|G (Zw bo H 1 Z Z Z)<|G (Yi Z)<|cE lg (sP ⟨ep,ld,isr,iA,iC,kn,kA,kC,reps,rA,rC,fw,bs⟩ k x14 _ (H.rd0 3 Z) e14.at_ (Pa.log (Hp.pa H 0 Z) hok (i:=k) e14.at_)) Z Z ?_
 rintro _ w17 ⟨rfl,hb⟩;replace H:=H.later hb;clear hb
 refine G (Yu Z)<|G (Xi Z Z)<|G (Xi Z Z)<|G (Wi Z)<|G (Wi Z)<|U<|W<|Zr<|G (Zf dM Z)<|G (jW 1 [.slice x14.A ((bJ x14.es).length) x14.cap,J (((iF x14.es x14.s:Nat):Int))] fx Z Z (H.ent (i:=0) Z) Z)<|cE qi (u5 x14.A x14.cap x14.es x14.s _ (Pa.log (Hp.pa H 0 Z) hok (i:=k) e14.at_)) Z Z ?_
 rintro _ w18 ⟨rfl,hb⟩;replace H:=H.later hb;clear hb
 refine G (cj Z Z Z)<|G (Yb Z)<|ZG<|G (Zf eU Z)<|ZG<|G (Zd al H 0 Z Z Z)<|ZG<|G (cV Z Z (by have:=(Pa.repOk hok (show(Pa.reps ⟨ep,ld,isr,iA,iC,kn,kA,kC,reps,rA,rC,fw,bs⟩)[k]? =_ from e14.at_)).2.1;omega))<|G (N Z Z)<|G (Yb Z)<|ZG<|G (Zf eU Z)<|ZG<|G (Zd al H 0 Z Z Z)<|ZG<|G (Yi Z)<|ZG<|G (dX Z Z (by have:=(Pa.repOk hok (show(Pa.reps ⟨ep,ld,isr,iA,iC,kn,kA,kC,reps,rA,rC,fw,bs⟩)[k]? =_ from e14.at_)).2.2;omega))<|G (N Z Z)<|G (Yb Z)<|ZG<|G (Zf iZ Z)<|ZG<|G (Zd cP H 1 Z Z Z)<|ZG<|G (Yi Z)<|ZG<|rE H 2 Z bj Z Z I I Z fun b19 o19 x19 e19=>ZG<|G (bd al Z (e19.cl 0 _ Z))<|ZG<|G (cV Z Z (by have:=(hkn _ (ab e19.at_)).1;omega))<|G (N Z Z)<|G (Yb Z)<|ZG<|G (Zf iZ Z)<|ZG<|G (Zd cP H 1 Z Z Z)<|ZG<|G (Yi Z) ?_
 refine ZG<|rE H 2 Z bj Z Z I I Z fun b20 o20 x20 e20=>ZG<|G (bd al Z (e20.cl 0 _ Z))<|ZG<|G (dX Z Z (by have:=(hkn _ (ab e20.at_)).2;omega))<|G (N Z Z)<|U<|ZF Z<|Zk<|Zr<|G (bn Z Z I I)<|G (Yi Z)<|U ?_
 refine⟨k+1,⟨by omega,H.forget (.cons _ (au _)) (fun _ h=>h)⟩,ef Z,Qg,by show reps.length- (k+1)<reps.length-k;omega⟩
 refine U<|W<|ZF Z<|Zx<|W<|Zr<|G (Wi Z)<|U<|Zt ?_
 exact cU Z Z ⟨rfl,H.below⟩
theorem Ch {f:cf} {l:List gh} {x:gh} {F:List cf} (h:f∈F++wT (l++[x])):f∈DD x::(F++wT l):=by
 simp only[wT,bi,dB,mT,ar,aq]at h
 simp only[ay,ar,wT]
 rcases h with h|h|h
 exact .inr (.inl h)
 exact .inr (.inr h)
 exact .inl h
theorem B8 (p:Pa) (w:World) (h:p.rd 0 w.heap.size w) (hok:p.a.ok):di aa Au [p.v] w fun v w2=> ∃ (p':Pa) (g1 g2 g3:Nat) (c1 c2 c3:Array Value),v=p'.v/\p'.a=p.a/\KP w w2 p' g1 g2 g3 c1 c2 c3:=by
 refine aG Gk Z Z ?_
 obtain⟨hn1,hn2,hil,hkl,hf1,hf2,he0,he1,hl0,hl1,hb0,hb1,hsm⟩:=Pa.facts hok
 have hkn:=hok.known
 have hiC:=h.iC
 have hkC:=h.kC
 have hrC:=h.rC
 have hfew:=h.few
 have H:=Hp.startPa h
 obtain⟨ep,ld,isr,iA,iC,kn,kA,kC,reps,rA,rC,fw,bs⟩:=p
 simp only[Pa.a]at hkn
 dsimp only at H hn1 hn2 hil hkl hf1 hf2 he0 he1 hl0 hl1 hb0 hb1 hsm hiC hkC hrC hfew
 show CW _ _ _ _ (args [.agg #[J (ep),J (ld),.slice iA isr.length iC,.slice kA kn.length kC,.slice rA reps.length rC,J (fw),J (bs)]]) w
 refine W<|Zr<|gU H Z Z fun w1 b1 H=>fc H bT Z fun w2 b2 H=>U<|W ?_
 refine bG cv [0,1,3,4,6,7,2,9,5,8] [10,11,12,13,14] [2,5,8] [0,3,6,9] (sp [(2,Sp.orow w2.heap.size fJ kb isr),(5,Sp.orow w2.heap.size bR cM kn),(8,Sp.orow w2.heap.size iT fM reps)]) N N N N Nq (cG _) ?_
 refine aw Z Z Z Z Z (fun w' hw'=>Zf la Z)<|aw Z Z Z Z Z (fun w' hw'=>bd mn Z (aK ((H.later hw').ent (i:=1) Z) Z))<|aw Z Z Z Z Z (fun w' hw'=>Zf iZ Z)<|aw Z Z Z Z Z (fun w' hw'=>bd cP Z (aK ((H.later hw').ent (i:=1) Z) Z))<|aw Z Z Z Z Z (fun w' hw'=>Zf dI Z)<|aw Z Z Z Z Z (fun w' hw'=>bd cF Z (aK ((H.later hw').ent (i:=1) Z) Z))<|zW qP Z Z Z Z Z (fun w' hw'=>hw'.size) (fun w' hw'=>D6 isr _ _ w' ((H.later hw').rd0 1 Z) I) Z fun A6 c6 hc6=>aw Z Z Z Z Z (fun w' hw'=>Zf la Z)<|zW gD Z Z Z Z Z (fun w' hw'=>hw'.size) (fun w' hw'=>t8 kn _ _ w' ((H.later hw').rd0 2 Z) I) Z fun A9 c9 hc9=>zW nf Z Z Z Z Z (fun w' hw'=>hw'.size) (fun w' hw'=>zP reps _ _ w' ((H.later hw').rd0 3 Z) I) Z fun A12 c12 hc12=>aT ?_
 intro w3 hw' hF
 obtain⟨hF,Aq,cq,L12,eq,hcq,hm12,ho12,he12,hn12⟩:=hF;cases eq;clear hcq
 obtain⟨hF,Aq,cq,L9,eq,hcq,hm9,ho9,he9,hn9⟩:=hF;cases eq;clear hcq
 obtain⟨hF,Aq,cq,L6,eq,hcq,hm6,ho6,he6,hn6⟩:=hF;cases eq;clear hcq
 obtain⟨g1,cur1,rfl,rfl,row1⟩:=ho6.row I
 obtain⟨g2,cur2,rfl,rfl,row2⟩:=ho9.row I
 obtain⟨g3,cur3,rfl,rfl,row3⟩:=ho12.row I
 have e6:=he6 _ (eh _)
 have e9:=he9 _ (eh _)
 have e12:=he12 _ (eh _)
 replace H:=H.adopt3 hw' e6 e9 e12 (tb e6.1 e9.1 Z) (tb e6.1 e12.1 Z) (tb e9.1 e12.1 Z)
 clear hw' hF
 refine bI H 4 (#[J (ep),J (ld),.slice (Qd g1) isr.length c6,.slice kA kn.length kC,.slice rA reps.length rC,J (fw),J (bs)]) Le Z Z Z Z Z N N fun w4 H=>G (Zf iZ Z)<|bI H 4 (#[J (ep),J (ld),.slice (Qd g1) isr.length c6,.slice (Qd g2) kn.length c9,.slice rA reps.length rC,J (fw),J (bs)]) jV Z Z Z Z Z N N fun w5 H=>G (Zf dI Z)<|bI H 4 (#[J (ep),J (ld),.slice (Qd g1) isr.length c6,.slice (Qd g2) kn.length c9,.slice (Qd g3) reps.length c12,J (fw),J (bs)]) FC Z Z Z Z Z N N fun w6 H=>U<|W<|W<|Zr<|G (Zf dI Z)<|G (Zd cF H 4 Z Z Z)<|G (bl im Z)<|G (Yi Z)<|U<|Zb ?_
 refine bV (τ:=Nat×List gh×Array Value) [3,19,20,21,22,23,24,25,26,27,28,29,30,31,32,33,34,35,36] (fun(k,_)=>[(19,J (k:Nat))]) (fun(k,rs,c3) w'=>k<=rs.length/\rs.length=reps.length/\rs.map gh.a=reps.map gh.a/\rs.drop k=reps.drop k/\(∀ r∈rs.take k,(bJ r.es).length<=r.cap/\w.heap.size<=r.lo)/\d8 iT rs c12 c3/\Hp w w' [(g1,.cells cur1 kb (0,0)),(g2,.cells cur2 cM (0,0)),(g3,.cells c3 fM (0,0)),(b2,.cells #[J 0,J 0,.slice none 0 0,.slice none 0 0,.slice none 0 0,J 0,J 0] bY (0,0)),(b1,.cells #[J ep,J ld,.slice (Qd g1) isr.length c6,.slice (Qd g2) kn.length c9,.slice (Qd g3) reps.length c12,J fw,J bs] bY (0,0))] ([MV 0 w.heap.size ⟨ep,ld,isr,iA,iC,kn,kA,kC,reps,rA,rC,fw,bs⟩,ee fJ 0 w.heap.size iA isr,ee bR 0 w.heap.size kA kn,ee iT 0 w.heap.size rA reps]++wT (rs.take k))) (fun(k,rs,_)=>rs.length-k) (0,reps,cur3) ⟨by omega,rfl,rfl,rfl,by simp,row3,H⟩ (ef Z) ?_
 rintro⟨k,rs,c3⟩ ρ1 w7 ⟨hk,hrl,hma,hdr,hcp,row,H⟩
 show CW _ _ _ _ (dO (ij _ _ ρ1) [(19,J (k:Nat))]) w7
 refine W<|Zr ?_
 refine dZ (cI Z Z) Z Z Z (fun h20=> ?_) (fun h20=> ?_)
 refine U<|W<|ZT Z<|Zk<|W<|Zb<|W ?_
 obtain⟨x,hx⟩: ∃ x,rs[k]? =some x:=⟨_,ai I⟩
 have hxt:=BB hdr hx
 have hsz:=(Pa.repOk hok (show(Pa.reps ⟨ep,ld,isr,iA,iC,kn,kA,kC,reps,rA,rC,fw,bs⟩)[k]? =_ from hxt)).1.sz
 refine Zr<|G (Yi Z)<|G (Wi Z)<|U ?_
 have hlo:=H.size
 refine bG cv [0,1,2,3,4,5,6,7,8,9,10,11,12,13] [14] [10] [0,2,3,5,6,7,8,11,12,13] (sp [(10,Sp.row w7.heap.size dQ (bJ x.es))]) N N N N Nq (cG _) ?_
 refine aw Z Z Z Z Z (fun w' hw'=>Zf dI Z)<|aw Z Z Z Z Z (fun w' hw'=>bd cF Z (aK ((H.later hw').ent (i:=4) Z) Z))<|aw Z Z Z Z Z (fun w' hw'=>Yi Z)<|aw Z Z Z Z Z (fun w' hw'=>Zf dI Z)<|aw Z Z Z Z Z (fun w' hw'=>bd cF Z (aK ((H.later hw').ent (i:=4) Z) Z))<|aw Z Z Z Z Z (fun w' hw'=>Yi Z)<|aw Z Z Z Z Z (fun w' hw'=>cL bQ Z Z (by first|omega|(simp only[ae];omega)))<|aw Z Z Z Z Z (fun w' hw'=>Zf dM Z)<|aw Z Z Z Z Z (fun w' hw'=>Zf ja Z)<|aw Z Z Z Z Z (fun w' hw'=>bW eR row hx 1 Z ((H.later hw').ent (i:=2) Z) Z)<|E8 f4 Z Z Z Z Z (fun w' hw'=>hw'.size) (fun w' hw'=>ot (bJ x.es) _ _ w' ((Hp.pa (H.later hw') 0 Z).logs x (ab hxt)) I) Z fun A32 c32 hc32=>aw Z Z Z Z Z (fun w' hw'=>cL bQ Z Z (by first|omega|(simp only[ae];omega)))<|aw Z Z Z Z Z (fun w' hw'=>Zf dM Z)<|aw Z Z Z Z Z (fun w' hw'=>Zf ja Z)<|aT ?_
 intro w8 hw' hF
 obtain⟨hF,Aq,cq,eq,hcq,hrw32⟩:=hF;cases eq;clear hcq
 replace H:=H.learnRd hw' hrw32
 clear hw' hF
 refine nt H 2 ({x with A:=A32,cap:=c32,lo:=w7.heap.size,hi:=w8.heap.size}) EE row hx 1 Z Z Z Z Z Z N fun w10 cur9 row9 H=>U<|Zr<|G (bn Z Z I I)<|G (Yi Z)<|U ?_
 obtain⟨z1,z2,z3⟩:=RK (x':={x with A:=A32,cap:=c32,lo:=w7.heap.size,hi:=w8.heap.size}) hx hma hdr Z
 refine⟨(k+1,rs.set k {x with A:=A32,cap:=c32,lo:=w7.heap.size,hi:=w8.heap.size},cur9),⟨by rw[ae];omega,by rw[ae];exact hrl,z1,z2,?_,row9,H.forget (au _) (fun f hf=>by rw[z3]at hf;exact Ch hf)⟩,ef Z,Qg,by show(rs.set k _).length- (k+1)<rs.length-k;rw[ae];omega⟩
 rw[z3];intro t ht;rcases ar.1 ht with ht|ht;exact hcp t ht;rw[aq.1 ht];exact⟨hc32,hlo⟩
 refine U<|W<|ZF Z<|Zx<|W<|Zr<|G (Zw bo H 4 Z Z Z)<|bI H 3 (#[J (ep),J (ld),.slice (Qd g1) isr.length c6,.slice (Qd g2) kn.length c9,.slice (Qd g3) reps.length c12,J (fw),J (bs)]) bk Z Z Z Z Z N N fun w11 H=>U<|Zt ?_
 have hke:k=rs.length:=by omega
 rw[hke,br]at H hcp
 exact gB (cs0:= #[J ep,J ld,.slice (Qd g1) isr.length c6,.slice (Qd g2) kn.length c9,.slice (Qd g3) reps.length c12,J fw,J bs]) Z bo Z (H.ent (i:=3) Z) Z ⟨⟨ep,ld,isr,some ⟨g1,0,none⟩,c6,kn,some ⟨g2,0,none⟩,c9,rs,some ⟨g3,0,none⟩,c12,fw,bs⟩,g1,g2,g3,cur1,cur2,c3,by unfold Pa.v Pa.c;dsimp only;rw[hrl],by unfold Pa.a;dsimp only;rw[hma],⟨rfl,rfl,rfl,row1,row2,row,fun r hr=>(hcp r hr).1,fun r hr=>(hcp r hr).2,by dsimp only;omega,H.forget (.cons_cons _ (.cons_cons _ (.cons_cons _ (List.nil_sublist _)))) (fun f hf=>ce _ hf)⟩⟩
/-- the least of what is known of those that keep up -/
def dr:List Bool->List Int->Int->Int
 |b::bs,n::ns,m=>dr bs ns (if b then min m n else m)
 |_,_,m=>m
theorem Ct {isr:List Bool} {kn:List Int} {k:Nat} {b:Bool} {n m:Int} (hb:isr[k]? =some b) (hn:kn[k]? =some n):dr (isr.drop k) (kn.drop k) m=dr (isr.drop (k+1)) (kn.drop (k+1)) (if b then min m n else m):=by
 rw[du hb,du hn]
 rfl
theorem Hi {w0 w:World} {L:List (Nat×Obj)} {F:List cf} {r:gh} (H:Hp w0 w L F) (hF:DD r∈F) (hg:GL r.es r.s) (hc:(bJ r.es).length<=r.cap):r.log.ok w:=by
 obtain⟨h1,h2,-⟩:=H.facts (DD r) hF
 exact⟨hg,hc,Rd.mono h1 (aV _) h2⟩
theorem Ja (p:Pa) (r:Nat) (w:World) (h:p.rd 0 w.heap.size w) (hok:p.a.ok) (hr:r<p.reps.length):di aa Mf [p.v,J (r:Nat)] w fun v w2=> ∃ (p':Pa) (g1 g2 g3:Nat) (c1 c2 c3:Array Value),v=.tuple #[p'.v,J 0]/\p'.a=p.a/\KP w w2 p' g1 g2 g3 c1 c2 c3:=by
 refine aG JD Z Z ?_
 obtain⟨hn1,hn2,hil,hkl,hf1,hf2,he0,he1,hl0,hl1,hb0,hb1,hsm⟩:=Pa.facts hok
 have hkn:=hok.known
 have hiC:=h.iC
 have hkC:=h.kC
 have hrC:=h.rC
 have hfew:=h.few
 have H:=Hp.startPa h
 obtain⟨ep,ld,isr,iA,iC,kn,kA,kC,reps,rA,rC,fw,bs⟩:=p
 simp only[Pa.a]at hkn
 dsimp only at H hn1 hn2 hil hkl hf1 hf2 he0 he1 hl0 hl1 hb0 hb1 hsm hiC hkC hrC hfew
 dsimp only at hr
 show CW _ _ _ _ (args [.agg #[J (ep),J (ld),.slice iA isr.length iC,.slice kA kn.length kC,.slice rA reps.length rC,J (fw),J (bs)],J (((r:Nat):Int))]) w
 refine W<|Zr<|gU H Z Z fun w1 b2 H=>fc H bT Z fun w2 b4 H=>G (Wi Z)<|U<|W<|W<|Zr<|G (Zw bo H 1 Z Z Z)<|cE lM (sQ ⟨ep,ld,isr,iA,iC,kn,kA,kC,reps,rA,rC,fw,bs⟩ _ (Hp.pa H 0 Z) hok) Z Z ?_
 rintro _ w3 ⟨rfl,hb⟩;replace H:=H.later hb;clear hb
 refine G (Wi Z)<|U<|W<|Zr<|G (Yi Z)<|G (cj Z Z Z)<|U<|ZF Z<|Zk<|W<|W<|Zr<|G (Yi Z)<|G (cV Z Z I)<|G (Yb Z)<|ZG<|G (Yi Z)<|ZG<|G (Zf dI Z)<|ZG<|G (Zd cF H 1 Z Z Z)<|ZG<|G (bl im Z)<|ZG<|G (nP Z Z I)<|G (N Z Z)<|U<|ZF Z<|Zk<|W<|Zr<|G (Zw bo H 1 Z Z Z)<|cE ng (B8 ⟨ep,ld,isr,iA,iC,kn,kA,kC,reps,rA,rC,fw,bs⟩ _ (Hp.pa H 0 Z) hok) Z Z ?_
 rintro _ w4 ⟨⟨ep2,ld2,is2,iA2,c1,kn2,kA2,c2,rs,rA2,c3,fw2,bs2⟩,g1,g2,g3,u1,u2,u3,rfl,ha2,ho⟩
 simp only[Pa.a,gi.mk.injEq]at ha2
 obtain⟨e1,e2,e3,e4,hma,e6,e7⟩:=ha2
 obtain rfl:ep=ep2:=e1.symm
 obtain rfl:ld=ld2:=e2.symm
 obtain rfl:isr=is2:=e3.symm
 obtain rfl:kn=kn2:=e4.symm
 obtain rfl:fw=fw2:=e6.symm
 obtain rfl:bs=bs2:=e7.symm
 have hrl:rs.length=reps.length:=by have:=congrArg cY hma;simpa using this
 obtain⟨i1,i2,i3,row1,row2,row3,hcp,hlos,-,hjn⟩:=ho
 dsimp only at i1 i2 i3 row1 row2 row3 hcp hlos hjn
 subst i1;subst i2;subst i3
 have hlo0:=H.size
 replace H:=H.joinF hjn (by intro f hf;obtain⟨r,hr,rfl⟩:=bK.1 hf;exact hlos r hr)
 replace hlos: ∀ r∈rs,w.heap.size<=r.lo:=fun r hr=>aW hlo0 (hlos r hr)
 clear hjn
 refine bI H 3 (#[J (ep),J (ld),.slice (Qd g1) isr.length c1,.slice (Qd g2) kn.length c2,.slice (Qd g3) rs.length c3,J (fw),J (bs)]) bk Z Z Z Z Z N N fun w5 H=>G (Wi Z)<|U<|Zt ?_
 exact cu (cs0:= #[J (ep),J (ld),.slice (Qd g1) isr.length c1,.slice (Qd g2) kn.length c2,.slice (Qd g3) rs.length c3,J (fw),J (bs)]) (v1:=J 0) Z bo Z (H.ent (i:=3) Z) Z Z ⟨⟨ep,ld,isr,_,c1,kn,_,c2,rs,_,c3,fw,bs⟩,g1,g2,g3,u1,u2,u3,rfl,by simp only[Pa.a,hma],⟨rfl,rfl,rfl,row1,row2,row3,hcp,hlos,by dsimp only;omega,H.forget (.cons_cons _ (.cons_cons _ (.cons_cons _ (List.nil_sublist _)))) (fun f hf=>ce _ hf)⟩⟩
theorem FJ {w0 w:World} {M:List (Nat×Obj)} {F:List cf} {g1 g2 g3:Nat} {u1 u2 u3:Array Value} (ep ld:Int) (isr:List Bool) (iC:Nat) (kn:List Int) (kC:Nat) (reps:List gh) (rC:Nat) (fw bs:Int) (l:Nat) (r:gh)
  (H:Hp w0 w ((g1,.cells u1 kb (0,0))::(g2,.cells u2 cM (0,0))::(g3,.cells u3 fM (0,0))::M) F) (row1:d8 fJ isr iC u1) (row2:d8 bR kn kC u2) (row3:d8 iT reps rC u3) (hil:isr.length=reps.length) (hkl:kn.length=reps.length) (hn:reps.length<=5) (hld:ld=l) (hr:reps[l]? =some r) (hF:DD r∈F) (hg:GL r.es r.s) (hc:(bJ r.es).length<=r.cap):
  di aa CE [.agg #[J (ep),J (ld),.slice (Qd g1) isr.length iC,.slice (Qd g2) kn.length kC,.slice (Qd g3) reps.length rC,J (fw),J (bs)]] w fun v w2=> ∃ u4,v=.agg #[J (ep),J (ld),.slice (Qd g1) isr.length iC,.slice (Qd g2) kn.length kC,.slice (Qd g3) reps.length rC,J (fw),J (bs)]/\d8 iT (reps.set l {r with high:=max r.high (min (dr isr kn 400) (r.es.length:Nat))}) rC u4/\Hp w0 w2 ((g1,.cells u1 kb (0,0))::(g2,.cells u2 cM (0,0))::(g3,.cells u4 fM (0,0))::M) F:=by
 refine aG AZ Z Z ?_
 have hll:=(bZ hr).1
 refine W<|Zr<|gU H Z Z fun w1 b1 H=>fc H bT Z fun w2 b2 H=>U<|W<|W<|Zr<|G (Zf eu Z)<|G (Zd al H 1 Z Z Z)<|G (cV Z Z I)<|U<|ZF Z<|Zk<|W<|Zr<|G (Wi Z)<|U<|W<|W<|Zr<|G (Zf iZ Z)<|G (Zd cP H 1 Z Z Z)<|G (bl fp Z)<|G (Yi Z)<|U<|Zb ?_
 refine bV (τ:=Nat×Int) [3,4,5,16,17,18,19,20,21,22,23,24,25,26,27,28,29] (fun(k,m)=>[(16,J (k:Nat)),(3,J m)]) (fun(k,m) w'=>k<=kn.length/\dr (isr.drop k) (kn.drop k) m=dr isr kn 400/\Hp w0 w' ((b2,.cells #[J 0,J 0,.slice none 0 0,.slice none 0 0,.slice none 0 0,J 0,J 0] bY (0,0))::(b1,.cells #[J (ep),J (ld),.slice (Qd g1) isr.length iC,.slice (Qd g2) kn.length kC,.slice (Qd g3) reps.length rC,J (fw),J (bs)] bY (0,0))::(g1,.cells u1 kb (0,0))::(g2,.cells u2 cM (0,0))::(g3,.cells u3 fM (0,0))::M) F) (fun(k,_)=>kn.length-k) (0,400) ⟨by omega,rfl,H⟩ (jT Z Z) ?_
 rintro⟨k,m⟩ ρ1 w3 ⟨hk,hm,H⟩
 show CW _ _ _ _ (dO (ij _ _ ρ1) [(16,J (k:Nat)),(3,J m)]) w3
 refine W<|Zr ?_
 refine dZ (cI Z Z) Z Z Z (fun h17=> ?_) (fun h17=> ?_)
 refine U<|W<|ZT Z<|Zk<|W<|Zb<|W ?_
 obtain⟨n,hn_⟩: ∃ n,kn[k]? =some n:=⟨_,ai I⟩
 obtain⟨b,hb_⟩: ∃ b,isr[k]? =some b:=⟨_,ai I⟩
 refine Zr<|G (Yi Z)<|G (cL bj Z Z (by first|omega|(simp only[ae];omega)))<|G (bW al row2 hn_ 0 Z (H.ent (i:=3) Z) Z)<|G (Wi Z)<|G (Wi Z)<|U<|W<|Zr<|G (Zf la Z)<|G (Zd mn H 1 Z Z Z)<|G (Yi Z)<|G (cL ff Z Z (by first|omega|(simp only[ae];omega))) ?_
 refine By (bW eP row1 hb_ 0 Z (H.ent (i:=2) Z) Z) Z Z Z (fun h25=> ?_) (fun h25=> ?_)
 refine U<|ZT Z<|Zr<|G (Yi Z)<|G (Yi Z)<|G (zu Z Z)<|G (Wi Z)<|U<|Zr<|G (bn Z Z I I)<|G (Yi Z)<|U ?_
 refine⟨(k+1,min m n),⟨by omega,by rw[<-hm,Ct hb_ hn_];rw[if_pos h25],H⟩,jT Z Z,Qg,by show kn.length- (k+1)<kn.length-k;omega⟩
 refine U<|ZF Z<|Zk<|Zr<|G (bn Z Z I I)<|G (Yi Z)<|U ?_
 refine⟨(k+1,m),⟨by omega,by rw[<-hm,Ct hb_ hn_];rw[if_neg (by simp[h25])],H⟩,jT Z Z,Qg,by show kn.length- (k+1)<kn.length-k;omega⟩
 have hke:k=kn.length:=by omega
 have hm2:m=dr isr kn 400:=by rw[<-hm,hke,kk];cases(isr.drop kn.length)<;>rfl
 refine U<|W<|ZF Z<|Zx<|W<|Zr<|G (Zw bo H 1 Z Z Z)<|G (Zf eu Z)<|G (Zd al H 1 Z Z Z)<|cE lg (by have hE:=sP ⟨ep,ld,isr,some ⟨g1,0,none⟩,iC,kn,some ⟨g2,0,none⟩,kC,reps,some ⟨g3,0,none⟩,rC,fw,bs⟩ l r _ (row3.rd0 (H.ent (i:=4) Z)) hr (Hi H hF hg hc);rw[<-hld]at hE;exact hE) Z Z ?_
 rintro _ w4 ⟨rfl,hb⟩;replace H:=H.later hb;clear hb
 refine G (Yu Z)<|G (Xi Z Z)<|G (Xi Z Z)<|G (Wi Z)<|G (Wi Z)<|U<|W<|Zr<|G (Zf dI Z)<|G (Zd cF H 1 Z Z Z)<|G (Zf eu Z)<|G (Zd al H 1 Z Z Z)<|G (cL (k:=l) bQ Z (congrArg (Value.int .i64) hld) (by first|omega|(simp only[ae];omega)))<|G (Wp Z)<|U<|W<|Zr<|G (Yp Z)<|G (Yp Z)<|G (aM Z)<|G (Zf eU Z)<|G (bW al row3 hr 3 Z (H.ent (i:=4) Z) Z)<|G (Yi Z)<|G (Yi Z)<|G (zu Z Z)<|G (FS Z Z)<|G (aM Z)<|G (Zf eU Z)<|nt H 4 ({r with high:=max r.high (min m (r.es.length:Nat))}) bN row3 hr 3 Z Z Z Z Z Z N fun w6 cur5 row5 H=> ?_
 have hs7:(reps.set l ({r with high:=max r.high (min m (r.es.length:Nat))}))[l]? =some ({r with high:=max r.high (min m (r.es.length:Nat))}):=ak (bZ hr).1
 refine U<|W<|Zr<|G (Zw bo H 1 Z Z Z)<|bI H 0 (#[J (ep),J (ld),.slice (Qd g1) isr.length iC,.slice (Qd g2) kn.length kC,.slice (Qd g3) reps.length rC,J (fw),J (bs)]) bk Z Z Z Z Z N N fun w8 H=>U<|Zt ?_
 exact gB (cs0:= #[J (ep),J (ld),.slice (Qd g1) isr.length iC,.slice (Qd g2) kn.length kC,.slice (Qd g3) reps.length rC,J (fw),J (bs)]) Z bo Z (H.ent (i:=0) Z) Z ⟨_,rfl,hm2▸row5,H.forget (.cons _ (.cons _ (au _))) (fun _ h=>h)⟩
/-- the logs of replicas that a call has made -/
def uM (w:World) (F:List cf) (rs:List gh):Prop:= ∀ r∈rs,(bJ r.es).length<=r.cap/\w.heap.size<=r.lo/\DD r∈F
theorem uM.of {w:World} {F:List cf} {rs:List gh} (h1: ∀ r∈rs,(bJ r.es).length<=r.cap) (h2: ∀ r∈rs,w.heap.size<=r.lo):uM w (F++wT rs) rs:=fun r hr=>⟨h1 r hr,h2 r hr,ce _ (bM hr)⟩
theorem uM.cons {w:World} {F:List cf} {f:cf} {rs:List gh} (h:uM w F rs):uM w (f::F) rs:=fun r hr=>⟨(h r hr).1,(h r hr).2.1,aj _ (h r hr).2.2⟩
theorem uM.set {w:World} {F:List cf} {rs:List gh} (h:uM w F rs) (i:Nat) {x:gh} (hx:(bJ x.es).length<=x.cap/\w.heap.size<=x.lo/\DD x∈F):uM w F (rs.set i x):=fun r hr=>by
 rcases aD hr with hr|rfl
 exact h r hr
 exact hx
theorem uM.same {w:World} {F:List cf} {rs:List gh} (h:uM w F rs) (i:Nat) {x x':gh} (hx:rs[i]? =some x) (h1:x'.A=x.A) (h2:x'.cap=x.cap) (h3:x'.es=x.es) (h4:x'.lo=x.lo) (h5:x'.hi=x.hi):uM w F (rs.set i x'):=h.set i (by
 have:=h x (ab hx)
 unfold DD at this⊢
 rw[h1,h2,h3,h4,h5];exact this)
theorem uM.log {w w0 w':World} {L:List (Nat×Obj)} {F:List cf} {rs:List gh} (h:uM w F rs) (H:Hp w0 w' L F) {i:Nat} {x:gh} (hx:rs[i]? =some x) (hg:GL x.es x.s):x.log.ok w':=by
 have h1:=h x (ab hx)
 exact Hi H h1.2.2 hg h1.1
theorem iI.mk_ {w w2:World} {L:List (Nat×Obj)} {F:List cf} {p:Pa} {g1 g2 g3:Nat} {u1 u2 u3:Array Value} (i:p.iA=some ⟨g1,0,none⟩) (k:p.kA=some ⟨g2,0,none⟩) (r:p.rA=some ⟨g3,0,none⟩) (ri:d8 fJ p.isr p.iC u1) (rk:d8 bR p.known p.kC u2) (rr:d8 iT p.reps p.rC u3) (hl:uM w F p.reps)
  (few:p.isr.length<=1000000/\p.known.length<=1000000/\p.reps.length<=1000000) (H:Hp w w2 L F) (hL:(g1,Obj.cells u1 kb (0,0))∈L/\(g2,Obj.cells u2 cM (0,0))∈L/\(g3,Obj.cells u3 fM (0,0))∈L):iI w w2 p:=by
 have e1:=H.ents _ hL.1
 have e2:=H.ents _ hL.2.1
 have e3:=H.ents _ hL.2.2
 refine⟨⟨?_,?_,?_,fun r hr=> ?_,ri.le,rk.le,rr.le,fun r hr=>(hl r hr).1,few⟩,H.below⟩
 rw[i];exact(ri.rd e1.1).mono e1.2 (bX e1.1)
 rw[k];exact(rk.rd e2.1).mono e2.2 (bX e2.1)
 rw[r];exact(rr.rd e3.1).mono e3.2 (bX e3.1)
 obtain⟨h1,h2,h3⟩:=hl r hr
 obtain⟨f1,f2,-⟩:=H.facts (DD r) h3
 exact Rd.mono f1 h2 f2
theorem Jk {rs reps:List gh} (hma:rs.map gh.a=reps.map gh.a) {i:Nat} {x:gh} (hx:rs[i]? =some x):(reps.map gh.a)[i]? =some x.a:=by
 rw[<-hma,aJ,hx];rfl
theorem Ko {rs reps:List gh} {ep ld:Int} {isr:List Bool} {iA kA rA:Option Addr} {iC kC rC:Nat} {kn:List Int} {fw bs:Int} (hma:rs.map gh.a=reps.map gh.a) (hok:(Pa.a ⟨ep,ld,isr,iA,iC,kn,kA,kC,reps,rA,rC,fw,bs⟩).ok) {i:Nat} {x:gh} (hx:rs[i]? =some x):GL x.es x.s/\0<=x.high/\x.high<=x.es.length:=by
 have h1:=hok.reps x.a (ab (show(reps.map gh.a)[i]? =_ from Jk hma hx))
 exact⟨h1.gl,h1.high0,h1.high1⟩
def nB (p:gi):gi:=match p.reps[p.leader.toNat]? with
 |some r=>if p.leader<0 then p else{p with reps:=p.reps.set p.leader.toNat {r with high:=max r.high (min (dr p.isr p.known 400) r.es.length)}}
 |none=>p
theorem BE {p:gi} {l:Nat} {r:RA} (hl:p.leader=l) (hr:p.reps[l]? =some r):nB p={p with reps:=p.reps.set l {r with high:=max r.high (min (dr p.isr p.known 400) r.es.length)}}:=by
 have h1:p.leader.toNat=l:=by omega
 unfold nB
 rw[h1,hr];dsimp only;rw[if_neg I]
def mi (p:gi) (r:Nat):gi×Int:=match p.reps[r]? with
 |none=>(mF,5)
 |some x=>if x.up=false then(mF,7)else
  if p.leader=r then(nB {p with reps:=p.reps.set r {x with s:=x.es.length},known:=p.known.set r x.es.length},0)else({p with reps:=p.reps.set r {x with s:=x.es.length}},0)
theorem G7 (l:ph) (w:World) (h:l.ok w):di aa CD [.agg l.c.toArray] w fun v w2=> ∃ A' c',v=.tuple #[.agg #[.slice A' (bJ l.es).length c',J (iF l.es l.es.length:Nat)],J 0]/\(bJ l.es).length<=c'/\Rd dQ w.heap.size w2.heap.size A' (bJ l.es) w2/\Below w.heap.size w w2:=
 (IY l w h).mono fun _ _ ⟨A',c',h1,h2,h3⟩=>⟨A',c',h1,h2.2.1,h2.2.2,h3⟩
theorem NZ (p:Pa) (r:Nat) (w:World) (h:p.rd 0 w.heap.size w) (hok:p.a.ok) (hr:r<p.reps.length):di aa HF [p.v,J (r:Nat)] w fun v w2=> ∃ p':Pa,v=.tuple #[p'.v,J (mi p.a r).2]/\p'.a=(mi p.a r).1/\iI w w2 p':=by
 refine aG Gj Z Z ?_
 obtain⟨hn1,hn2,hil,hkl,hf1,hf2,he0,he1,hl0,hl1,hb0,hb1,hsm⟩:=Pa.facts hok
 have hkn:=hok.known
 have hiC:=h.iC
 have hkC:=h.kC
 have hrC:=h.rC
 have hfew:=h.few
 have H:=Hp.startPa h
 obtain⟨ep,ld,isr,iA,iC,kn,kA,kC,reps,rA,rC,fw,bs⟩:=p
 simp only[Pa.a]at hkn
 dsimp only at H hn1 hn2 hil hkl hf1 hf2 he0 he1 hl0 hl1 hb0 hb1 hsm hiC hkC hrC hfew
 dsimp only at hr
 show CW _ _ _ _ (args [.agg #[J (ep),J (ld),.slice iA isr.length iC,.slice kA kn.length kC,.slice rA reps.length rC,J (fw),J (bs)],J (((r:Nat):Int))]) w
 refine W<|Zr<|gU H Z Z fun w1 b2 H=>fc H bT Z fun w2 b4 H=>G (Wi Z)<|U<|W<|Zr<|G (Zw bo H 1 Z Z Z)<|G (Yi Z)<|cE xR (Ja ⟨ep,ld,isr,iA,iC,kn,kA,kC,reps,rA,rC,fw,bs⟩ r _ (Hp.pa H 0 Z) hok hr) Z Z ?_
 rintro _ w3 ⟨⟨ep2,ld2,is2,iA2,c1,kn2,kA2,c2,rs,rA2,c3,fw2,bs2⟩,g1,g2,g3,u1,u2,u3,rfl,ha2,ho⟩
 simp only[Pa.a,gi.mk.injEq]at ha2
 obtain⟨e1,e2,e3,e4,hma,e6,e7⟩:=ha2
 obtain rfl:ep=ep2:=e1.symm
 obtain rfl:ld=ld2:=e2.symm
 obtain rfl:isr=is2:=e3.symm
 obtain rfl:kn=kn2:=e4.symm
 obtain rfl:fw=fw2:=e6.symm
 obtain rfl:bs=bs2:=e7.symm
 have hrl:rs.length=reps.length:=by have:=congrArg cY hma;simpa using this
 obtain⟨i1,i2,i3,row1,row2,row3,hcp,hlos,-,hjn⟩:=ho
 dsimp only at i1 i2 i3 row1 row2 row3 hcp hlos hjn
 subst i1;subst i2;subst i3
 have hlo0:=H.size
 replace H:=H.joinF hjn (by intro f hf;obtain⟨r,hr,rfl⟩:=bK.1 hf;exact hlos r hr)
 replace hlos: ∀ r∈rs,w.heap.size<=r.lo:=fun r hr=>aW hlo0 (hlos r hr)
 clear hjn
 have hlg:=uM.of (F:=[MV 0 w.heap.size ⟨ep,ld,isr,iA,iC,kn,kA,kC,reps,rA,rC,fw,bs⟩,ee fJ 0 w.heap.size iA isr,ee bR 0 w.heap.size kA kn,ee iT 0 w.heap.size rA reps]) hcp hlos
 have hok2: ∀ {i:Nat} {x:gh},rs[i]? =some x->GL x.es x.s/\0<=x.high/\x.high<=x.es.length:=fun hx=>Ko hma hok hx
 obtain⟨x,hx⟩: ∃ x,rs[r]? =some x:=⟨_,ai I⟩
 have hxa:=Jk hma hx
 refine G (Yu Z)<|G (Xa Z Z)<|G (Xi Z Z)<|bI H 4 (#[J (ep),J (ld),.slice (Qd g1) isr.length c1,.slice (Qd g2) kn.length c2,.slice (Qd g3) rs.length c3,J (fw),J (bs)]) bk Z Z Z Z Z N N fun w4 H=>G (Wi Z)<|U<|W<|W<|Zr<|G (Yi Z)<|G (cj Z Z Z)<|U<|ZF Z<|Zk<|W<|W<|Zr<|G (Zf dI Z)<|G (Zd cF H 4 Z Z Z)<|G (Yi Z)<|G (cL bQ Z Z (by first|omega|(simp only[ae];omega)))<|G (Zf kZ Z) ?_
 refine By (bW eP row3 hx 0 Z (H.ent (i:=2) Z) Z) Z Z Z (fun h22=> ?_) (fun h22=> ?_)
 refine G (d9 Z)<|U<|ZF Z<|Zk<|W ?_
 have hlo:=H.size
 refine bG cv [0,1,2,3,4,5,6,7,8,9,10,11,12,13,14] [15] [9] [0,2,3,5,6,7,10,11,12,13,14] (sp [(9,Sp.nrow w4.heap.size dQ (bJ x.es) (fun A c=> .tuple #[.agg #[.slice A (bJ x.es).length c,J (iF x.es x.es.length:Nat)],J 0]))]) N N N N Nq (cG _) ?_
 refine aw Z Z Z Z Z (fun w' hw'=>Zf dI Z)<|aw Z Z Z Z Z (fun w' hw'=>bd cF Z (aK ((H.later hw').ent (i:=4) Z) Z))<|aw Z Z Z Z Z (fun w' hw'=>Yi Z)<|aw Z Z Z Z Z (fun w' hw'=>Zf dI Z)<|aw Z Z Z Z Z (fun w' hw'=>bd cF Z (aK ((H.later hw').ent (i:=4) Z) Z))<|aw Z Z Z Z Z (fun w' hw'=>Yi Z)<|aw Z Z Z Z Z (fun w' hw'=>cL bQ Z Z (by first|omega|(simp only[ae];omega)))<|aw Z Z Z Z Z (fun w' hw'=>Zf dM Z)<|aw Z Z Z Z Z (fun w' hw'=>xC 1 [.slice x.A ((bJ x.es).length) x.cap,J (((iF x.es x.s:Nat):Int))] fx row3 hx Z Z ((H.later hw').ent (i:=2) Z) Z)<|JU (gv:=(fun A c=> .tuple #[.agg #[.slice A (bJ x.es).length c,J (iF x.es x.es.length:Nat)],J 0])) Ir Z Z Z Z Z (fun w' hw'=>hw'.size) (fun w' hw'=>G7 (gh.log x) w' (hlg.log (H.later hw') hx (hok2 hx).1)) Z fun A35 c35 hc35=>aw Z Z Z Z Z (fun w' hw'=>Yu Z)<|aw Z Z Z Z Z (fun w' hw'=>Xa Z Z)<|aw Z Z Z Z Z (fun w' hw'=>Xi Z Z)<|aw Z Z Z Z Z (fun w' hw'=>cL bQ Z Z (by first|omega|(simp only[ae];omega)))<|aw Z Z Z Z Z (fun w' hw'=>Zf dM Z)<|aT ?_
 intro w5 hw' hF
 obtain⟨hF,Aq,cq,eq,hcq,hrw35⟩:=hF;cases eq;clear hcq
 replace H:=H.learnRd hw' hrw35
 clear hw' hF
 refine nt H 2 ({x with A:=A35,cap:=c35,s:=x.es.length,lo:=w4.heap.size,hi:=w5.heap.size}) kU row3 hx 1 Z Z Z Z Z Z N fun w7 cur6 row6 H=> ?_
 have hs8:(rs.set r ({x with A:=A35,cap:=c35,s:=x.es.length,lo:=w4.heap.size,hi:=w5.heap.size}))[r]? =some ({x with A:=A35,cap:=c35,s:=x.es.length,lo:=w4.heap.size,hi:=w5.heap.size}):=ak (bZ hx).1
 refine U<|W<|W ?_
 have hlg1:=(hlg.cons (f:=ee dQ w4.heap.size w5.heap.size A35 (bJ x.es))).set r (x:={x with A:=A35,cap:=c35,s:=x.es.length,lo:=w4.heap.size,hi:=w5.heap.size}) ⟨hc35,hlo,ik _⟩
 have hs9:(rs.set r {x with A:=A35,cap:=c35,s:=x.es.length,lo:=w4.heap.size,hi:=w5.heap.size})[r]? =some {x with A:=A35,cap:=c35,s:=x.es.length,lo:=w4.heap.size,hi:=w5.heap.size}:=ak I
 have hF9:=(hlg1 _ (ab hs9)).2.2
 have hc9:=(hlg1 _ (ab hs9)).1
 refine Zr<|G (Yi Z)<|G (Zf eu Z)<|G (Zd al H 4 Z Z Z) ?_
 refine dZ (cr Z Z) Z Z Z (fun h43=> ?_) (fun h43=> ?_)
 refine U<|ZT Z<|W ?_
 obtain⟨kx,hkx⟩: ∃ kx,kn[r]? =some kx:=⟨_,ai I⟩
 refine bG cv [0,1,2,3,4,5,6,7,8,9] [10] [5] [0,2,4,6,7,8,9] (sp [(5,Sp.one (.tuple #[J ((x.es.length:Nat):Int),J ((x.es.length:Nat):Int)]))]) N N N N Nq (cG _) ?_
 refine aw Z Z Z Z Z (fun w' hw'=>Zf iZ Z)<|aw Z Z Z Z Z (fun w' hw'=>bd cP Z (aK ((H.later hw').ent (i:=4) Z) Z))<|aw Z Z Z Z Z (fun w' hw'=>Yi Z)<|aw Z Z Z Z Z (fun w' hw'=>kh bo Z ((H.later hw').ent (i:=4) Z) Z)<|aw Z Z Z Z Z (fun w' hw'=>Yi Z)<|jy lg Z Z Z Z Z (fun w' hw'=>(by have hA:=sP ⟨ep,ld,isr,some ⟨g1,0,none⟩,c1,kn,some ⟨g2,0,none⟩,c2,rs.set r {x with A:=A35,cap:=c35,s:=x.es.length,lo:=w4.heap.size,hi:=w5.heap.size},some ⟨g3,0,none⟩,c3,fw,bs⟩ r {x with A:=A35,cap:=c35,s:=x.es.length,lo:=w4.heap.size,hi:=w5.heap.size} w' (row6.rd0 ((H.later hw').ent (i:=2) Z)) hs9 (hlg1.log (H.later hw') hs9 (hok2 hx).1.all);simp only[Pa.v,Pa.c,ae]at hA;exact hA)) Z<|aw Z Z Z Z Z (fun w' hw'=>Yu Z)<|aw Z Z Z Z Z (fun w' hw'=>Xi Z Z)<|aw Z Z Z Z Z (fun w' hw'=>Xi Z Z)<|aw Z Z Z Z Z (fun w' hw'=>cL bj Z Z (by first|omega|(simp only[ae];omega)))<|aT ?_
 intro w9 hw' hF
 replace H:=H.later hw';clear hw' hF
 refine nt H 1 ((((x.es.length:Nat):Int))) bN row2 hkx 0 Z Z Z Z Z Z N fun w11 cur10 row10 H=> ?_
 have hs12:(kn.set r ((((x.es.length:Nat):Int))))[r]? =some ((((x.es.length:Nat):Int))):=ak (bZ hkx).1
 refine U<|Zr<|G (Zw bo H 4 Z Z Z)<|cE pI ((by have hA:=FJ ep ld isr c1 (kn.set r ((x.es.length:Nat):Int)) c2 (rs.set r {x with A:=A35,cap:=c35,s:=x.es.length,lo:=w4.heap.size,hi:=w5.heap.size}) c3 fw bs r ({x with A:=A35,cap:=c35,s:=x.es.length,lo:=w4.heap.size,hi:=w5.heap.size}) H row1 row10 row6 (by simp only[ae];omega) (by simp only[ae,bc];omega) (by simp only[ae];omega) h43.symm hs9 hF9 (hok2 hx).1.all hc9;simp only[Pa.v,Pa.c,ae]at hA;exact hA)) Z Z ?_
 rintro _ w13 ⟨u9,rfl,row9,H⟩
 refine bI H 4 (#[J (ep),J (ld),.slice (Qd g1) isr.length c1,.slice (Qd g2) kn.length c2,.slice (Qd g3) rs.length c3,J (fw),J (bs)]) bk Z Z Z Z Z N N fun w14 H=>U<|W<|Zr<|G (Zw bo H 4 Z Z Z)<|bI H 3 (#[J (ep),J (ld),.slice (Qd g1) isr.length c1,.slice (Qd g2) kn.length c2,.slice (Qd g3) rs.length c3,J (fw),J (bs)]) bk Z Z Z Z Z N N fun w15 H=>G (Wi Z)<|U<|Zt ?_
 have hS:mi (Pa.a ⟨ep,ld,isr,iA,iC,kn,kA,kC,reps,rA,rC,fw,bs⟩) r=(nB {Pa.a ⟨ep,ld,isr,iA,iC,kn,kA,kC,reps,rA,rC,fw,bs⟩with reps:=(reps.map gh.a).set r {x.a with s:=x.es.length},known:=kn.set r ((x.es.length:Nat):Int)},0):=by simp[mi,Pa.a,hxa,gh.a,h22,<-h43]
 rw[hS]
 rw[BE (l:=r) (r:={x.a with s:=x.es.length}) h43.symm (ak (by simp;omega))]
 have hlg2:=hlg1.same r (x':={x with A:=A35,cap:=c35,s:=x.es.length,lo:=w4.heap.size,hi:=w5.heap.size,high:=max x.high (min (dr isr (kn.set r ((x.es.length:Nat):Int)) 400) (x.es.length:Nat))}) hs9 Z Z Z Z Z
 exact cu (cs0:= #[J (ep),J (ld),.slice (Qd g1) isr.length c1,.slice (Qd g2) kn.length c2,.slice (Qd g3) rs.length c3,J (fw),J (bs)]) (v1:=J 0) Z bo Z (H.ent (i:=3) Z) Z Z ⟨_,by simp[Pa.c],by simp[Pa.a,cO,hma,gh.a],(iI.mk_ (p:=⟨ep,ld,isr,some ⟨g1,0,none⟩,c1,kn.set r ((x.es.length:Nat):Int),some ⟨g2,0,none⟩,c2,_,some ⟨g3,0,none⟩,c3,fw,bs⟩) Z Z Z row1 row10 row9 hlg2 (by dsimp only;try simp only[ae];omega) H ⟨by simp,by simp,by simp⟩)⟩
 refine U<|ZF Z<|Zk<|W<|Zr<|G (Zw bo H 4 Z Z Z)<|bI H 3 (#[J (ep),J (ld),.slice (Qd g1) isr.length c1,.slice (Qd g2) kn.length c2,.slice (Qd g3) rs.length c3,J (fw),J (bs)]) bk Z Z Z Z Z N N fun w16 H=>G (Wi Z)<|U<|Zt ?_
 have hS:mi (Pa.a ⟨ep,ld,isr,iA,iC,kn,kA,kC,reps,rA,rC,fw,bs⟩) r=({Pa.a ⟨ep,ld,isr,iA,iC,kn,kA,kC,reps,rA,rC,fw,bs⟩with reps:=(reps.map gh.a).set r {x.a with s:=x.es.length}},0):=by simp[mi,Pa.a,hxa,gh.a,h22,show¬ ld=(r:Int)from fun h=>h43 h.symm]
 rw[hS]
 exact cu (cs0:= #[J (ep),J (ld),.slice (Qd g1) isr.length c1,.slice (Qd g2) kn.length c2,.slice (Qd g3) rs.length c3,J (fw),J (bs)]) (v1:=J 0) Z bo Z (H.ent (i:=3) Z) Z Z ⟨_,by simp[Pa.c],by simp[Pa.a,cO,hma,gh.a],(iI.mk_ (p:=⟨ep,ld,isr,some ⟨g1,0,none⟩,c1,kn,some ⟨g2,0,none⟩,c2,rs.set r {x with A:=A35,cap:=c35,s:=x.es.length,lo:=w4.heap.size,hi:=w5.heap.size},some ⟨g3,0,none⟩,c3,fw,bs⟩) Z Z Z row1 row2 row6 hlg1 (by dsimp only;try simp only[ae];omega) H ⟨by simp,by simp,by simp⟩)⟩
 refine G (d9 Z)<|U<|ZT Z<|W<|Zr<|G (bp (cs:= #[J (0),J (0),.slice none 0 0,.slice none 0 0,.slice none 0 0,J (0),J (0)]) dx bT N)<|bI H 3 (#[J (0),J (0),.slice none 0 0,.slice none 0 0,.slice none 0 0,J (0),J (0)]) bk Z Z Z Z Z N N fun w17 H=>G (Wi Z)<|U<|Zt ?_
 have hS:mi (Pa.a ⟨ep,ld,isr,iA,iC,kn,kA,kC,reps,rA,rC,fw,bs⟩) r=(mF,7):=by simp[mi,Pa.a,hxa,gh.a,h22]
 rw[hS]
 exact cu (cs0:= #[J 0,J 0,.slice none 0 0,.slice none 0 0,.slice none 0 0,J 0,J 0]) (v1:=J 7) Z bo Z (H.ent (i:=3) Z) Z Z ⟨KS,rfl,rfl,iI.zero H.below⟩

theorem gJ:(aa.info? cM).map (fun i=>(i.zero,i.size,i.bytes))=some (some (J 0),1,8):=by kernel_rfl
theorem Qi (m:Nat) (h:m<=1000000):d8 bR (ao m (0:Int)) m (ao m (Value.int .i64 0)).toArray:=by
 have hl: ∀ m:Nat,bR.all (ao m (0:Int))=ao m (Value.int .i64 0):=by
  intro m
  induction m with
  |zero=>rfl
  |succ m ih=>rw[iS,iS,<-ih];rfl
 refine⟨by simp[bR],?_,by simp,by simp only[maxLen];omega⟩
 rw[hl]
 simp[bR]
def fo (p:gi) (r:Nat):gi×Int:=match p.reps[r]? with
 |none=>(mF,5)
 |some x=>if x.up=false then(mF,7)else if p.isr[r]? =some false then(mF,13)else if p.leader=r then(mF,6)else if p.epoch=1073741824 then(mF,2)else
  (nB {p with epoch:=p.epoch+1,leader:=r,known:=(ao p.reps.length 0).set r x.s,base:=x.es.length},0)
theorem LG (p:Pa) (r:Nat) (w:World) (h:p.rd 0 w.heap.size w) (hok:p.a.ok) (hr:r<p.reps.length):di aa FZ [p.v,J (r:Nat)] w fun v w2=> ∃ p':Pa,v=.tuple #[p'.v,J (fo p.a r).2]/\p'.a=(fo p.a r).1/\iI w w2 p':=by
 refine aG DU Z Z ?_
 obtain⟨hn1,hn2,hil,hkl,hf1,hf2,he0,he1,hl0,hl1,hb0,hb1,hsm⟩:=Pa.facts hok
 have hkn:=hok.known
 have hiC:=h.iC
 have hkC:=h.kC
 have hrC:=h.rC
 have hfew:=h.few
 have H:=Hp.startPa h
 obtain⟨ep,ld,isr,iA,iC,kn,kA,kC,reps,rA,rC,fw,bs⟩:=p
 simp only[Pa.a]at hkn
 dsimp only at H hn1 hn2 hil hkl hf1 hf2 he0 he1 hl0 hl1 hb0 hb1 hsm hiC hkC hrC hfew
 dsimp only at hr
 show CW _ _ _ _ (args [.agg #[J (ep),J (ld),.slice iA isr.length iC,.slice kA kn.length kC,.slice rA reps.length rC,J (fw),J (bs)],J (((r:Nat):Int))]) w
 refine W<|Zr<|gU H Z Z fun w1 b2 H=>fc H bT Z fun w2 b4 H=>G (Wi Z)<|U<|W<|Zr<|G (Zw bo H 1 Z Z Z)<|G (Yi Z)<|cE xR (Ja ⟨ep,ld,isr,iA,iC,kn,kA,kC,reps,rA,rC,fw,bs⟩ r _ (Hp.pa H 0 Z) hok hr) Z Z ?_
 rintro _ w3 ⟨⟨ep2,ld2,is2,iA2,c1,kn2,kA2,c2,rs,rA2,c3,fw2,bs2⟩,g1,g2,g3,u1,u2,u3,rfl,ha2,ho⟩
 simp only[Pa.a,gi.mk.injEq]at ha2
 obtain⟨e1,e2,e3,e4,hma,e6,e7⟩:=ha2
 obtain rfl:ep=ep2:=e1.symm
 obtain rfl:ld=ld2:=e2.symm
 obtain rfl:isr=is2:=e3.symm
 obtain rfl:kn=kn2:=e4.symm
 obtain rfl:fw=fw2:=e6.symm
 obtain rfl:bs=bs2:=e7.symm
 have hrl:rs.length=reps.length:=by have:=congrArg cY hma;simpa using this
 obtain⟨i1,i2,i3,row1,row2,row3,hcp,hlos,-,hjn⟩:=ho
 dsimp only at i1 i2 i3 row1 row2 row3 hcp hlos hjn
 subst i1;subst i2;subst i3
 have hlo0:=H.size
 replace H:=H.joinF hjn (by intro f hf;obtain⟨r,hr,rfl⟩:=bK.1 hf;exact hlos r hr)
 replace hlos: ∀ r∈rs,w.heap.size<=r.lo:=fun r hr=>aW hlo0 (hlos r hr)
 clear hjn
 have hlg:=uM.of (F:=[MV 0 w.heap.size ⟨ep,ld,isr,iA,iC,kn,kA,kC,reps,rA,rC,fw,bs⟩,ee fJ 0 w.heap.size iA isr,ee bR 0 w.heap.size kA kn,ee iT 0 w.heap.size rA reps]) hcp hlos
 have hok2: ∀ {i:Nat} {x:gh},rs[i]? =some x->GL x.es x.s/\0<=x.high/\x.high<=x.es.length:=fun hx=>Ko hma hok hx
 obtain⟨x,hx⟩: ∃ x,rs[r]? =some x:=⟨_,ai I⟩
 have hxa:=Jk hma hx
 refine G (Yu Z)<|G (Xa Z Z)<|G (Xi Z Z)<|bI H 4 (#[J (ep),J (ld),.slice (Qd g1) isr.length c1,.slice (Qd g2) kn.length c2,.slice (Qd g3) rs.length c3,J (fw),J (bs)]) bk Z Z Z Z Z N N fun w4 H=>G (Wi Z)<|U<|W<|W<|Zr<|G (Yi Z)<|G (cj Z Z Z)<|U<|ZF Z<|Zk<|W<|Zb<|W ?_
 obtain⟨b,hb⟩: ∃ b,isr[r]? =some b:=⟨_,ai I⟩
 refine Zr<|G (Zf dI Z)<|G (Zd cF H 4 Z Z Z)<|G (Yi Z)<|G (cL bQ Z Z (by first|omega|(simp only[ae];omega)))<|G (Zf kZ Z) ?_
 refine By (bW eP row3 hx 0 Z (H.ent (i:=2) Z) Z) Z Z Z (fun h23=> ?_) (fun h23=> ?_)
 ·
  refine G (d9 Z)<|G (Wb Z)<|U<|ZF Z<|W<|Zr<|G (Zf la Z)<|G (Zd mn H 4 Z Z Z)<|G (Yi Z)<|G (cL ff Z Z (by first|omega|(simp only[ae];omega))) ?_
  refine By (bW eP row1 hb 0 Z (H.ent (i:=0) Z) Z) Z Z Z (fun h31=> ?_) (fun h31=> ?_)
  ·
   refine G (d9 Z)<|G (Wb Z)<|U<|ZF Z<|W<|Zr<|G (Zf eu Z)<|G (Zd al H 4 Z Z Z)<|G (Yi Z) ?_
   refine dZ (cr Z Z) Z Z Z (fun h38=> ?_) (fun h38=> ?_)
   ·
    refine G (Wb Z)<|U<|ZT Z<|W<|Zr<|G (bp (cs:= #[J (0),J (0),.slice none 0 0,.slice none 0 0,.slice none 0 0,J (0),J (0)]) dx bT N)<|bI H 3 (#[J (0),J (0),.slice none 0 0,.slice none 0 0,.slice none 0 0,J (0),J (0)]) bk Z Z Z Z Z N N fun w5 H=>G (Wi Z)<|U<|Zt ?_
    have hS:fo (Pa.a ⟨ep,ld,isr,iA,iC,kn,kA,kC,reps,rA,rC,fw,bs⟩) r=(mF,6):=by simp[fo,Pa.a,hxa,gh.a,h23,hb,h31,<-h38]
    rw[hS]
    exact cu (cs0:= #[J 0,J 0,.slice none 0 0,.slice none 0 0,.slice none 0 0,J 0,J 0]) (v1:=J 6) Z bo Z (H.ent (i:=3) Z) Z Z ⟨KS,rfl,rfl,iI.zero H.below⟩
   ·
    refine G (Wb Z)<|U<|ZF Z<|W<|Zr<|G (Zf qm Z)<|G (Zd al H 4 Z Z Z) ?_
    refine dZ (cr Z Z) Z Z Z (fun h43=> ?_) (fun h43=> ?_)
    ·
     refine G (Wb Z)<|U<|ZT Z<|W<|Zr<|G (bp (cs:= #[J (0),J (0),.slice none 0 0,.slice none 0 0,.slice none 0 0,J (0),J (0)]) dx bT N)<|bI H 3 (#[J (0),J (0),.slice none 0 0,.slice none 0 0,.slice none 0 0,J (0),J (0)]) bk Z Z Z Z Z N N fun w6 H=>G (Wi Z)<|U<|Zt ?_
     have hS:fo (Pa.a ⟨ep,ld,isr,iA,iC,kn,kA,kC,reps,rA,rC,fw,bs⟩) r=(mF,2):=by simp[fo,Pa.a,hxa,gh.a,h23,hb,h31,h38,h43]
     rw[hS]
     exact cu (cs0:= #[J 0,J 0,.slice none 0 0,.slice none 0 0,.slice none 0 0,J 0,J 0]) (v1:=J 2) Z bo Z (H.ent (i:=3) Z) Z Z ⟨KS,rfl,rfl,iI.zero H.below⟩
    ·
     refine G (Wb Z)<|U<|ZF Z<|Zk<|W<|Zr<|G (Zf qm Z)<|G (Zd al H 4 Z Z Z)<|G (bn Z Z I I)<|G (Zf qm Z)<|bI H 4 (#[J (ep+1),J (ld),.slice (Qd g1) isr.length c1,.slice (Qd g2) kn.length c2,.slice (Qd g3) rs.length c3,J (fw),J (bs)]) bN Z Z Z Z Z N N fun w7 H=>U<|W<|Zr<|G (Yi Z)<|G (Zf eu Z)<|bI H 4 (#[J (ep+1),J (((r:Nat):Int)),.slice (Qd g1) isr.length c1,.slice (Qd g2) kn.length c2,.slice (Qd g3) rs.length c3,J (fw),J (bs)]) bN Z Z Z Z Z N N fun w8 H=>U<|W<|Zr<|G (Zf dI Z)<|G (Zd cF H 4 Z Z Z)<|G (bl im Z)<|TW (m:=rs.length) H bj gJ Z Z Z I I Z fun w9 b54 H=> ?_
     have row54:=Qi rs.length I
     refine G (Zf iZ Z)<|bI H 5 (#[J (ep+1),J (((r:Nat):Int)),.slice (Qd g1) isr.length c1,.slice (Qd b54) rs.length rs.length,.slice (Qd g3) rs.length c3,J (fw),J (bs)]) jV Z Z Z Z Z N N fun w10 H=>U<|W ?_
     refine bG cv [0,1,2,3,4,5,6,7,8,9] [10,11,12] [5] [0,2,4,6,7,8,9] (sp [(5,Sp.one (.tuple #[J ((x.es.length:Nat):Int),J ((x.s:Nat):Int)]))]) N N N N Nq (cG _) ?_
     refine aw Z Z Z Z Z (fun w' hw'=>Zf iZ Z)<|aw Z Z Z Z Z (fun w' hw'=>bd cP Z (aK ((H.later hw').ent (i:=5) Z) Z))<|aw Z Z Z Z Z (fun w' hw'=>Yi Z)<|aw Z Z Z Z Z (fun w' hw'=>kh bo Z ((H.later hw').ent (i:=5) Z) Z)<|aw Z Z Z Z Z (fun w' hw'=>Yi Z)<|jy lg Z Z Z Z Z (fun w' hw'=>(by have hA:=sP ⟨ep+1,(r:Nat),isr,some ⟨g1,0,none⟩,c1,ao rs.length 0,some ⟨b54,0,none⟩,rs.length,rs,some ⟨g3,0,none⟩,c3,fw,bs⟩ r x w' (row3.rd0 ((H.later hw').ent (i:=3) Z)) hx (hlg.log (H.later hw') hx (hok2 hx).1);simp only[Pa.v,Pa.c,bc]at hA;exact hA)) Z<|aw Z Z Z Z Z (fun w' hw'=>Yu Z)<|aw Z Z Z Z Z (fun w' hw'=>Xi Z Z)<|aw Z Z Z Z Z (fun w' hw'=>Xi Z Z)<|aw Z Z Z Z Z (fun w' hw'=>Zf zI Z)<|aT ?_
     intro w11 hw' hF
     replace H:=H.later hw';clear hw' hF
     refine bI H 5 (#[J (ep+1),J (((r:Nat):Int)),.slice (Qd g1) isr.length c1,.slice (Qd b54) rs.length rs.length,.slice (Qd g3) rs.length c3,J (fw),J (((x.es.length:Nat):Int))]) bN Z Z Z Z Z N N fun w12 H=>G (cL bj Z Z (by first|omega|(simp only[ae];omega))) ?_
     refine nt H 0 ((((x.s:Nat):Int))) bN row54 (show(ao rs.length (0:Int))[r]? =some 0 by rw[dq,if_pos I]) 0 Z Z Z Z Z Z N ?_;intro w14 cur13 row13 H
     have hs15:((ao rs.length (0:Int)).set r ((((x.s:Nat):Int))))[r]? =some ((((x.s:Nat):Int))):=ak (bZ (show(ao rs.length (0:Int))[r]? =some 0 by rw[dq,if_pos I])).1
     refine U<|W<|Zr<|G (Zw bo H 5 Z Z Z)<|cE pI ((by have hA:=FJ (g2:=b54) (M:=[(g2,.cells u2 cM (0,0)),(b4,.cells #[J 0,J 0,.slice none 0 0,.slice none 0 0,.slice none 0 0,J 0,J 0] bY (0,0)),(b2,.cells #[J (ep+1),J (((r:Nat):Int)),.slice (Qd g1) isr.length c1,.slice (Qd b54) rs.length rs.length,.slice (Qd g3) rs.length c3,J (fw),J (((x.es.length:Nat):Int))] bY (0,0))]) (ep+1) ((r:Nat):Int) isr c1 ((ao rs.length 0).set r ((x.s:Nat):Int)) rs.length rs c3 fw ((x.es.length:Nat):Int) r x (H.perm ((am _ _ _).trans (.cons _ (.cons _ (am _ _ _))))) row1 row13 row3 I (by simp) I Z hx (hlg _ (ab hx)).2.2 (hok2 hx).1 (hlg _ (ab hx)).1;simp only[Pa.v,Pa.c,ae,bc]at hA;exact hA)) Z Z ?_
     rintro _ w16 ⟨u9,rfl,row9,H⟩
     refine bI H 4 (#[J (ep+1),J (((r:Nat):Int)),.slice (Qd g1) isr.length c1,.slice (Qd b54) rs.length rs.length,.slice (Qd g3) rs.length c3,J (fw),J (((x.es.length:Nat):Int))]) bk Z Z Z Z Z N N fun w17 H=>G (Wi Z)<|U<|Zt ?_
     have hS:fo (Pa.a ⟨ep,ld,isr,iA,iC,kn,kA,kC,reps,rA,rC,fw,bs⟩) r=(nB {Pa.a ⟨ep,ld,isr,iA,iC,kn,kA,kC,reps,rA,rC,fw,bs⟩with epoch:=ep+1,leader:=(r:Nat),known:=(ao (reps.map gh.a).length 0).set r ((x.s:Nat):Int),base:=((x.es.length:Nat):Int)},0):=by simp[fo,Pa.a,hxa,gh.a,h23,hb,h31,h38,h43]
     rw[hS]
     rw[BE (l:=r) (r:=x.a) Z hxa]
     have hlg1:=hlg.same r (x':={x with high:=max x.high (min (dr isr ((ao rs.length 0).set r ((x.s:Nat):Int)) 400) (x.es.length:Nat))}) hx Z Z Z Z Z
     exact cu (cs0:= #[J (ep+1),J (((r:Nat):Int)),.slice (Qd g1) isr.length c1,.slice (Qd b54) rs.length rs.length,.slice (Qd g3) rs.length c3,J (fw),J (((x.es.length:Nat):Int))]) (v1:=J 0) Z bo Z (H.ent (i:=4) Z) Z Z ⟨_,by simp[Pa.c],by simp[Pa.a,cO,hma,hrl,gh.a],(iI.mk_ (p:=⟨ep+1,(r:Nat),isr,some ⟨g1,0,none⟩,c1,(ao rs.length 0).set r ((x.s:Nat):Int),some ⟨b54,0,none⟩,rs.length,_,some ⟨g3,0,none⟩,c3,fw,((x.es.length:Nat):Int)⟩) Z Z Z row1 row13 row9 hlg1 (by dsimp only;try simp only[ae,bc];omega) H ⟨by simp,by simp,by simp⟩)⟩
  ·
   refine G (d9 Z)<|G (Wb Z)<|U<|ZT Z<|W<|Zr<|G (bp (cs:= #[J (0),J (0),.slice none 0 0,.slice none 0 0,.slice none 0 0,J (0),J (0)]) dx bT N)<|bI H 3 (#[J (0),J (0),.slice none 0 0,.slice none 0 0,.slice none 0 0,J (0),J (0)]) bk Z Z Z Z Z N N fun w18 H=>G (Wi Z)<|U<|Zt ?_
   have hS:fo (Pa.a ⟨ep,ld,isr,iA,iC,kn,kA,kC,reps,rA,rC,fw,bs⟩) r=(mF,13):=by simp[fo,Pa.a,hxa,gh.a,h23,hb,h31]
   rw[hS]
   exact cu (cs0:= #[J 0,J 0,.slice none 0 0,.slice none 0 0,.slice none 0 0,J 0,J 0]) (v1:=J 13) Z bo Z (H.ent (i:=3) Z) Z Z ⟨KS,rfl,rfl,iI.zero H.below⟩
 ·
  refine G (d9 Z)<|G (Wb Z)<|U<|ZT Z<|W<|Zr<|G (bp (cs:= #[J (0),J (0),.slice none 0 0,.slice none 0 0,.slice none 0 0,J (0),J (0)]) dx bT N)<|bI H 3 (#[J (0),J (0),.slice none 0 0,.slice none 0 0,.slice none 0 0,J (0),J (0)]) bk Z Z Z Z Z N N fun w19 H=>G (Wi Z)<|U<|Zt ?_
  have hS:fo (Pa.a ⟨ep,ld,isr,iA,iC,kn,kA,kC,reps,rA,rC,fw,bs⟩) r=(mF,7):=by simp[fo,Pa.a,hxa,gh.a,h23]
  rw[hS]
  exact cu (cs0:= #[J 0,J 0,.slice none 0 0,.slice none 0 0,.slice none 0 0,J 0,J 0]) (v1:=J 7) Z bo Z (H.ent (i:=3) Z) Z Z ⟨KS,rfl,rfl,iI.zero H.below⟩
/-- how many of those that keep up are up -/
def IG:List Bool->List RA->Int->Int
 |b::bs,y::ys,n=>IG bs ys (if(b&&y.up)=true then n+1 else n)
 |_,_,n=>n
theorem Fo {isr:List Bool} {ys:List RA} {k:Nat} {b:Bool} {y:RA} {n:Int} (hb:isr[k]? =some b) (hy:ys[k]? =some y):IG (isr.drop k) (ys.drop k) n=IG (isr.drop (k+1)) (ys.drop (k+1)) (if(b&&y.up)=true then n+1 else n):=by
 rw[du hb,du hy]
 rfl
def eF (p:gi) (e:cd):gi×Int×Int:=if p.leader<0 then(mF,0,8)else match p.reps[p.leader.toNat]? with
 |none=>(mF,0,12)
 |some x=>if eA {e with epoch:=p.epoch}≠0 then(mF,0,eA {e with epoch:=p.epoch})else
  if(eI x.es {e with epoch:=p.epoch}).2≠0 then(mF,0,(eI x.es {e with epoch:=p.epoch}).2)else
  if 0<=(eI x.es {e with epoch:=p.epoch}).1 then(p,(eI x.es {e with epoch:=p.epoch}).1,0)else
  if IG p.isr p.reps 0<p.few then(mF,0,9)else({p with reps:=p.reps.set p.leader.toNat {x with es:=x.es++[{e with epoch:=p.epoch}]}},(x.es.length:Nat),0)
theorem Oa {es:List cd} {s:Nat} {x:cd} (h:GL es s) (hx:lj x) (hl:es.length<400): ¬ DP es x:=by
 have h1:=Gp (es++[x]) (fun e he=>by
  rcases ar.1 he with he|he
  exact h.good e he
  rw[aq.1 he];exact hx)
 rw[kY,av,av]at h1
 simp only[bv]at h1
 unfold DP
 omega
theorem wS (l:ph) (x:cd) (w:World) (h:l.ok w) (hx:lj x) (hf:l.es.length<400):di aa yx [.agg l.c.toArray,x.v] w fun v w2=> ∃ A' c',v=.tuple #[.agg #[.slice A' (bJ (l.es++[x])).length c',J (iF (l.es++[x]) l.s:Nat)],J 0]/\(bJ (l.es++[x])).length<=c'/\Rd dQ w.heap.size w2.heap.size A' (bJ (l.es++[x])) w2/\Below w.heap.size w w2:=
 (FD l x w h hx (Oa h.gl hx hf)).mono fun _ _ ⟨A',c',h1,h2,h3⟩=>⟨A',c',h1,h2.2.1,h2.2.2,h3⟩
theorem xe {w:World} {b:Nat} {l:List UInt8} (h:w.heap[b]? =some (.cells #[.slice none 0 0,J 0] ID (0,0))) (h0:0<l.length): ∃ (j:Nat) (u:Value),(dQ.all l)[j]? =some u/\ ∀ k,w.cell? ⟨b,k,none⟩≠some u:=by
 obtain⟨x,l,rfl⟩: ∃ x t,l=x::t:=by cases l<;>simp at h0⊢
 refine⟨0,.int .u8 (x.toNat:Nat),rfl,fun k hk=> ?_⟩
 have:=Rb h hk
 simp at this
theorem Bt (p:Pa) (e:cd) (w:World) (h:p.rd 0 w.heap.size w) (hok:p.a.ok) (hroom: ∀ (l:Nat) (x:gh),p.leader=l->p.reps[l]? =some x->x.es.length<400):di aa Jw [p.v,e.v] w fun v w2=> ∃ p':Pa,v=.tuple #[p'.v,J (eF p.a e).2.1,J (eF p.a e).2.2]/\p'.a=(eF p.a e).1/\iI w w2 p':=by
 refine aG HS Z Z ?_
 obtain⟨hn1,hn2,hil,hkl,hf1,hf2,he0,he1,hl0,hl1,hb0,hb1,hsm⟩:=Pa.facts hok
 have hkn:=hok.known
 have hiC:=h.iC
 have hkC:=h.kC
 have hrC:=h.rC
 have hfew:=h.few
 have H:=Hp.startPa h
 obtain⟨ep,ld,isr,iA,iC,kn,kA,kC,reps,rA,rC,fw,bs⟩:=p
 simp only[Pa.a]at hkn
 dsimp only at H hn1 hn2 hil hkl hf1 hf2 he0 he1 hl0 hl1 hb0 hb1 hsm hiC hkC hrC hfew
 dsimp only at hroom
 show CW _ _ _ _ (args [.agg #[J (ep),J (ld),.slice iA isr.length iC,.slice kA kn.length kC,.slice rA reps.length rC,J (fw),J (bs)],.agg #[J (e.epoch),J (e.pid),J (e.ver),J (e.seq),J (e.kind),.bool (e.txn),.string (e.text)]]) w
 refine W<|Zr<|gU H Z Z fun w1 b2 H=>gU H Z Z fun w2 b3 H=>fc H bT Z fun w3 b4 H=>G (Wi Z)<|G (Wi Z)<|U<|W<|W<|Zr<|G (Zw bo H 2 Z Z Z)<|cE lM (sQ ⟨ep,ld,isr,iA,iC,kn,kA,kC,reps,rA,rC,fw,bs⟩ _ (Hp.pa H 0 Z) hok) Z Z ?_
 rintro _ w4 ⟨rfl,hb⟩;replace H:=H.later hb;clear hb
 refine G (Wi Z)<|U<|W<|Zr<|G (Yi Z)<|G (cj Z Z Z)<|U<|ZF Z<|Zk<|W<|W<|Zr<|G (Zf eu Z)<|G (Zd al H 2 Z Z Z) ?_
 refine dZ (cI Z Z) Z Z Z (fun h27=> ?_) (fun h27=> ?_)
 refine U<|ZT Z<|W<|Zr<|G (bp (cs:= #[J (0),J (0),.slice none 0 0,.slice none 0 0,.slice none 0 0,J (0),J (0)]) dx bT N)<|bI H 0 (#[J (0),J (0),.slice none 0 0,.slice none 0 0,.slice none 0 0,J (0),J (0)]) bk Z Z Z Z Z N N fun w5 H=>G (Wi Z)<|G (Wi Z)<|U<|Zt ?_
 have hS:eF (Pa.a ⟨ep,ld,isr,iA,iC,kn,kA,kC,reps,rA,rC,fw,bs⟩) e=(mF,0,8):=by unfold eF;exact if_pos h27
 rw[hS]
 exact gM (cs0:= #[J 0,J 0,.slice none 0 0,.slice none 0 0,.slice none 0 0,J 0,J 0]) (v1:=J (0)) (v2:=J (8)) Z bo Z (H.ent (i:=0) Z) Z Z Z ⟨KS,rfl,rfl,iI.zero H.below⟩
 refine U<|ZF Z<|Zk<|W ?_
 obtain⟨l,hld⟩: ∃ l:Nat,ld=l:=⟨ld.toNat,by omega⟩
 refine Zr<|G (Zw bo H 2 Z Z Z)<|cE ng (B8 ⟨ep,ld,isr,iA,iC,kn,kA,kC,reps,rA,rC,fw,bs⟩ _ (Hp.pa H 0 Z) hok) Z Z ?_
 rintro _ w6 ⟨⟨ep2,ld2,is2,iA2,c1,kn2,kA2,c2,rs,rA2,c3,fw2,bs2⟩,g1,g2,g3,u1,u2,u3,rfl,ha2,ho⟩
 simp only[Pa.a,gi.mk.injEq]at ha2
 obtain⟨e1,e2,e3,e4,hma,e6,e7⟩:=ha2
 obtain rfl:ep=ep2:=e1.symm
 obtain rfl:ld=ld2:=e2.symm
 obtain rfl:isr=is2:=e3.symm
 obtain rfl:kn=kn2:=e4.symm
 obtain rfl:fw=fw2:=e6.symm
 obtain rfl:bs=bs2:=e7.symm
 have hrl:rs.length=reps.length:=by have:=congrArg cY hma;simpa using this
 obtain⟨i1,i2,i3,row1,row2,row3,hcp,hlos,-,hjn⟩:=ho
 dsimp only at i1 i2 i3 row1 row2 row3 hcp hlos hjn
 subst i1;subst i2;subst i3
 have hlo0:=H.size
 replace H:=H.joinF hjn (by intro f hf;obtain⟨r,hr,rfl⟩:=bK.1 hf;exact hlos r hr)
 replace hlos: ∀ r∈rs,w.heap.size<=r.lo:=fun r hr=>aW hlo0 (hlos r hr)
 clear hjn
 have hlg:=uM.of (F:=[MV 0 w.heap.size ⟨ep,ld,isr,iA,iC,kn,kA,kC,reps,rA,rC,fw,bs⟩,ee fJ 0 w.heap.size iA isr,ee bR 0 w.heap.size kA kn,ee iT 0 w.heap.size rA reps]) hcp hlos
 have hok2: ∀ {i:Nat} {x:gh},rs[i]? =some x->GL x.es x.s/\0<=x.high/\x.high<=x.es.length:=fun hx=>Ko hma hok hx
 obtain⟨x,hx⟩: ∃ x,rs[l]? =some x:=⟨_,ai I⟩
 have hxa:=Jk hma hx
 refine bI H 5 (#[J (ep),J (ld),.slice (Qd g1) isr.length c1,.slice (Qd g2) kn.length c2,.slice (Qd g3) rs.length c3,J (fw),J (bs)]) bk Z Z Z Z Z N N fun w7 H=>U<|W<|Zr<|G (Zf dI Z)<|G (Zd cF H 5 Z Z Z)<|G (Zf eu Z)<|G (Zd al H 5 Z Z Z)<|G (cL (k:=l) bQ Z (congrArg (Value.int .i64) hld) (by first|omega|(simp only[ae];omega)))<|G (Wp Z)<|U<|W<|Zr<|G (Yp Z)<|G (aM Z)<|G (Zf dM Z)<|G (xC 1 [.slice x.A ((bJ x.es).length) x.cap,J (((iF x.es x.s:Nat):Int))] fx row3 hx Z Z (H.ent (i:=2) Z) Z)<|cE f5 (gA x.A x.cap x.es x.s _ (hlg.log H hx (hok2 hx).1)) Z Z ?_
 have hloen:=H.size
 rintro _ w8 ⟨Aen,cen,rfl,hren,hcen,hben⟩;replace H:=H.learnRd hben hren;clear hren hben
 refine G (Yu Z)<|G (Xs Z Z)<|G (Xi Z Z)<|G (Xi Z Z)<|G (Ws Z)<|G (Wi Z)<|G (Wi Z)<|U<|W<|Zr<|G (Zf qm Z)<|G (Zd al H 5 Z Z Z)<|G (Zf nY Z)<|bI H 4 (#[J (ep),J (e.pid),J (e.ver),J (e.seq),J (e.kind),.bool (e.txn),.string (e.text)]) bN Z Z Z Z Z N N fun w9 H=>U<|W<|W<|Zr<|G (Zw dJ H 4 Z Z Z)<|cE sy (zc {e with epoch:=ep} _) Z Z ?_
 rintro _ w10 ⟨rfl,hb⟩;replace H:=H.later hb;clear hb
 refine G (Wi Z)<|U<|W<|Zr<|G (Yi Z) ?_
 refine sU (jv Z Z) Z Z Z (fun h51=> ?_) (fun h51=> ?_)
 refine U<|ZT Z<|W<|Zr<|G (bp (cs:= #[J (0),J (0),.slice none 0 0,.slice none 0 0,.slice none 0 0,J (0),J (0)]) dx bT N)<|G (Yi Z)<|bI H 3 (#[J (0),J (0),.slice none 0 0,.slice none 0 0,.slice none 0 0,J (0),J (0)]) bk Z Z Z Z Z N N fun w11 H=>G (Wi Z)<|G (Wi Z)<|U<|Zt ?_
 have hlr:(Pa.a ⟨ep,ld,isr,iA,iC,kn,kA,kC,reps,rA,rC,fw,bs⟩).reps[ld.toNat]? =some x.a:=by rw[show ld.toNat=l by omega];exact hxa
 have hS:eF (Pa.a ⟨ep,ld,isr,iA,iC,kn,kA,kC,reps,rA,rC,fw,bs⟩) e=(mF,0,eA {e with epoch:=ep}):=by unfold eF;rw[if_neg (show¬ (Pa.a ⟨ep,ld,isr,iA,iC,kn,kA,kC,reps,rA,rC,fw,bs⟩).leader<0 from by show¬ ld<0;omega),show(Pa.a ⟨ep,ld,isr,iA,iC,kn,kA,kC,reps,rA,rC,fw,bs⟩).leader.toNat=ld.toNat from rfl,hlr];simp[Pa.a,gh.a,h51]
 rw[hS]
 exact gM (cs0:= #[J 0,J 0,.slice none 0 0,.slice none 0 0,.slice none 0 0,J 0,J 0]) (v1:=J (0)) (v2:=J (eA {e with epoch:=ep})) Z bo Z (H.ent (i:=3) Z) Z Z Z ⟨KS,rfl,rfl,iI.zero H.below⟩
 refine U<|ZF Z<|Zk<|W<|Zr<|G (Ys Z)<|G (Zw dJ H 4 Z Z Z)<|cE D7 (KW x.es Aen cen {e with epoch:=ep} _ (H.rd0 0 Z) (by have:=(hok2 hx).1.len;omega) (Lf (hok2 hx).1.good)) Z Z ?_
 rintro _ w12 ⟨rfl,hb⟩;replace H:=H.later hb;clear hb
 refine G (Yu Z)<|G (Xi Z Z)<|G (Xi Z Z)<|G (Wi Z)<|G (Wi Z)<|U<|W<|W<|Zr<|G (Yi Z) ?_
 refine sU (jv Z Z) Z Z Z (fun h61=> ?_) (fun h61=> ?_)
 refine U<|ZT Z<|W<|Zr<|G (bp (cs:= #[J (0),J (0),.slice none 0 0,.slice none 0 0,.slice none 0 0,J (0),J (0)]) dx bT N)<|G (Yi Z)<|bI H 3 (#[J (0),J (0),.slice none 0 0,.slice none 0 0,.slice none 0 0,J (0),J (0)]) bk Z Z Z Z Z N N fun w13 H=>G (Wi Z)<|G (Wi Z)<|U<|Zt ?_
 have hlr:(Pa.a ⟨ep,ld,isr,iA,iC,kn,kA,kC,reps,rA,rC,fw,bs⟩).reps[ld.toNat]? =some x.a:=by rw[show ld.toNat=l by omega];exact hxa
 have hS:eF (Pa.a ⟨ep,ld,isr,iA,iC,kn,kA,kC,reps,rA,rC,fw,bs⟩) e=(mF,0,(eI x.es {e with epoch:=ep}).2):=by unfold eF;rw[if_neg (show¬ (Pa.a ⟨ep,ld,isr,iA,iC,kn,kA,kC,reps,rA,rC,fw,bs⟩).leader<0 from by show¬ ld<0;omega),show(Pa.a ⟨ep,ld,isr,iA,iC,kn,kA,kC,reps,rA,rC,fw,bs⟩).leader.toNat=ld.toNat from rfl,hlr];simp[Pa.a,gh.a,h51,h61]
 rw[hS]
 exact gM (cs0:= #[J 0,J 0,.slice none 0 0,.slice none 0 0,.slice none 0 0,J 0,J 0]) (v1:=J (0)) (v2:=J ((eI x.es {e with epoch:=ep}).2)) Z bo Z (H.ent (i:=3) Z) Z Z Z ⟨KS,rfl,rfl,iI.zero H.below⟩
 refine U<|ZF Z<|Zk<|W<|W<|Zr<|G (Yi Z) ?_
 refine dZ (pN Z Z) Z Z Z (fun h65=> ?_) (fun h65=> ?_)
 refine U<|ZT Z<|W<|Zr<|G (Zw bo H 5 Z Z Z)<|G (Yi Z)<|bI H 3 (#[J (ep),J (ld),.slice (Qd g1) isr.length c1,.slice (Qd g2) kn.length c2,.slice (Qd g3) rs.length c3,J (fw),J (bs)]) bk Z Z Z Z Z N N fun w14 H=>G (Wi Z)<|G (Wi Z)<|U<|Zt ?_
 have hlr:(Pa.a ⟨ep,ld,isr,iA,iC,kn,kA,kC,reps,rA,rC,fw,bs⟩).reps[ld.toNat]? =some x.a:=by rw[show ld.toNat=l by omega];exact hxa
 have hS:eF (Pa.a ⟨ep,ld,isr,iA,iC,kn,kA,kC,reps,rA,rC,fw,bs⟩) e=((Pa.a ⟨ep,ld,isr,iA,iC,kn,kA,kC,reps,rA,rC,fw,bs⟩),(eI x.es {e with epoch:=ep}).1,0):=by unfold eF;rw[if_neg (show¬ (Pa.a ⟨ep,ld,isr,iA,iC,kn,kA,kC,reps,rA,rC,fw,bs⟩).leader<0 from by show¬ ld<0;omega),show(Pa.a ⟨ep,ld,isr,iA,iC,kn,kA,kC,reps,rA,rC,fw,bs⟩).leader.toNat=ld.toNat from rfl,hlr];simp[Pa.a,gh.a,h51,h61,h65]
 rw[hS]
 exact gM (cs0:= #[J (ep),J (ld),.slice (Qd g1) isr.length c1,.slice (Qd g2) kn.length c2,.slice (Qd g3) rs.length c3,J (fw),J (bs)]) (v1:=J ((eI x.es {e with epoch:=ep}).1)) (v2:=J (0)) Z bo Z (H.ent (i:=3) Z) Z Z Z ⟨_,by simp[Pa.c],by simp[Pa.a,cO,hma,gh.a],(iI.mk_ (p:=⟨ep,ld,isr,some ⟨g1,0,none⟩,c1,kn,some ⟨g2,0,none⟩,c2,rs,some ⟨g3,0,none⟩,c3,fw,bs⟩) Z Z Z row1 row2 row3 hlg.cons (by dsimp only;first|omega|(simp only[ae,bc];omega)) H ⟨by simp,by simp,by simp⟩)⟩
 refine U<|ZF Z<|Zk<|W<|Zr<|G (Wi Z)<|U<|W<|W<|Zr<|G (Zf dI Z)<|G (Zd cF H 5 Z Z Z)<|G (bl im Z)<|G (Yi Z)<|U<|Zb ?_
 refine bV (τ:=Nat×Int) [15,16,17,71,72,73,74,75,76,77,78,79,80,81,82,83,84,85,86,87] (fun(k,n)=>[(71,J (k:Nat)),(15,J n)]) (fun(k,n) w'=>k<=rs.length/\(0<=n/\n<=k)/\IG (isr.drop k) ((rs.map gh.a).drop k) n=IG isr (rs.map gh.a) 0/\Hp w w' [(g1,.cells u1 kb (0,0)),(g2,.cells u2 cM (0,0)),(g3,.cells u3 fM (0,0)),(b4,.cells #[J (0),J (0),.slice none 0 0,.slice none 0 0,.slice none 0 0,J (0),J (0)] bY (0,0)),(b3,.cells #[J (ep),J (e.pid),J (e.ver),J (e.seq),J (e.kind),.bool (e.txn),.string (e.text)] dy (0,0)),(b2,.cells #[J (ep),J (ld),.slice (Qd g1) isr.length c1,.slice (Qd g2) kn.length c2,.slice (Qd g3) rs.length c3,J (fw),J (bs)] bY (0,0))] ([ee gC w7.heap.size w8.heap.size Aen x.es,MV 0 w.heap.size ⟨ep,ld,isr,iA,iC,kn,kA,kC,reps,rA,rC,fw,bs⟩,ee fJ 0 w.heap.size iA isr,ee bR 0 w.heap.size kA kn,ee iT 0 w.heap.size rA reps]++wT rs)) (fun(k,_)=>rs.length-k) (0,0) ⟨by omega,by omega,rfl,H⟩ (jT Z Z) ?_
 rintro⟨k,n⟩ ρ1 w15 ⟨hk,⟨hn0,hnk⟩,hm,H⟩
 show CW _ _ _ _ (dO (ij _ _ ρ1) [(71,J (k:Nat)),(15,J n)]) w15
 refine W<|Zr ?_
 refine dZ (cI Z Z) Z Z Z (fun h72=> ?_) (fun h72=> ?_)
 refine U<|W<|ZT Z<|Zk<|W<|Zb<|W ?_
 obtain⟨y,hy⟩: ∃ y,rs[k]? =some y:=⟨_,ai I⟩
 obtain⟨b,hb⟩: ∃ b,isr[k]? =some b:=⟨_,ai I⟩
 refine Zr<|G (Yi Z)<|G (cL bQ Z Z (by first|omega|(simp only[ae];omega)))<|G (py mB row3 hy Z Z (H.ent (i:=2) Z))<|fc H ql Z fun w16 b17 H=>G (Wi Z)<|bI H 0 (#[.bool (y.up),.slice y.A ((bJ y.es).length) y.cap,J (((iF y.es y.s:Nat):Int)),J (y.high)]) mj Z Z Z Z Z N N fun w17 H=>U<|W<|Zr<|G (Zf la Z)<|G (Zd mn H 6 Z Z Z)<|G (Yi Z)<|G (cL ff Z Z (by first|omega|(simp only[ae];omega))) ?_
 refine By (bW eP row1 hb 0 Z (H.ent (i:=1) Z) Z) Z Z Z (fun h80=> ?_) (fun h80=> ?_)
 refine G (Yb Z)<|ZG<|G (Zf kZ Z)<|ZG ?_
 refine By (bd eP Z (aK (H.ent (i:=0) Z) Z)) Z Z Z (fun h83=> ?_) (fun h83=> ?_)
 refine G (Kt Z Z)<|U<|ZT Z<|Zr<|G (Yi Z)<|G (bn Z Z I I)<|G (Wi Z)<|U<|Zr<|G (bn Z Z I I)<|G (Yi Z)<|U ?_
 refine⟨(k+1,n+1),⟨by omega,by omega,by rw[<-hm,Fo hb (show(rs.map gh.a)[k]? =some y.a by rw[aJ,hy];rfl)];simp[gh.a,h80,h83],H.forget (.cons _ (au _)) (fun _ h=>h)⟩,jT Z Z,Qg,by show rs.length- (k+1)<rs.length-k;omega⟩
 refine G (Kt Z Z)<|U<|ZF Z<|Zk<|Zr<|G (bn Z Z I I)<|G (Yi Z)<|U ?_
 refine⟨(k+1,n),⟨by omega,by omega,by rw[<-hm,Fo hb (show(rs.map gh.a)[k]? =some y.a by rw[aJ,hy];rfl)];simp[gh.a,h80,h83],H.forget (.cons _ (au _)) (fun _ h=>h)⟩,jT Z Z,Qg,by show rs.length- (k+1)<rs.length-k;omega⟩
 refine G (Yb Z)<|ZN<|ZN<|G (N Z Z)<|U<|ZF Z<|Zk<|Zr<|G (bn Z Z I I)<|G (Yi Z)<|U ?_
 refine⟨(k+1,n),⟨by omega,by omega,by rw[<-hm,Fo hb (show(rs.map gh.a)[k]? =some y.a by rw[aJ,hy];rfl)];simp[gh.a,h80],H.forget (.cons _ (au _)) (fun _ h=>h)⟩,jT Z Z,Qg,by show rs.length- (k+1)<rs.length-k;omega⟩
 have hke:k=rs.length:=by omega
 have hm2:n=IG isr (rs.map gh.a) 0:=by rw[<-hm,eE (l:=isr) I];rfl
 refine U<|W<|ZF Z<|Zx<|W<|W<|Zr<|G (Yi Z)<|G (Zf zJ Z)<|G (Zd al H 5 Z Z Z) ?_
 refine dZ (cI Z Z) Z Z Z (fun h91=> ?_) (fun h91=> ?_)
 refine U<|ZT Z<|W<|Zr<|G (bp (cs:= #[J (0),J (0),.slice none 0 0,.slice none 0 0,.slice none 0 0,J (0),J (0)]) dx bT N)<|bI H 3 (#[J (0),J (0),.slice none 0 0,.slice none 0 0,.slice none 0 0,J (0),J (0)]) bk Z Z Z Z Z N N fun w18 H=>G (Wi Z)<|G (Wi Z)<|U<|Zt ?_
 have hlr:(Pa.a ⟨ep,ld,isr,iA,iC,kn,kA,kC,reps,rA,rC,fw,bs⟩).reps[ld.toNat]? =some x.a:=by rw[show ld.toNat=l by omega];exact hxa
 have hS:eF (Pa.a ⟨ep,ld,isr,iA,iC,kn,kA,kC,reps,rA,rC,fw,bs⟩) e=(mF,0,9):=by unfold eF;rw[if_neg (show¬ (Pa.a ⟨ep,ld,isr,iA,iC,kn,kA,kC,reps,rA,rC,fw,bs⟩).leader<0 from by show¬ ld<0;omega),show(Pa.a ⟨ep,ld,isr,iA,iC,kn,kA,kC,reps,rA,rC,fw,bs⟩).leader.toNat=ld.toNat from rfl,hlr];simp[Pa.a,gh.a,h51,h61,h65,<-hma,<-hm2,h91]
 rw[hS]
 exact gM (cs0:= #[J 0,J 0,.slice none 0 0,.slice none 0 0,.slice none 0 0,J 0,J 0]) (v1:=J (0)) (v2:=J (9)) Z bo Z (H.ent (i:=3) Z) Z Z Z ⟨KS,rfl,rfl,iI.zero H.below⟩
 refine U<|ZF Z<|Zk<|W ?_
 have hgd:lj {e with epoch:=ep}:=by simpa [lj]using h51
 have hrm:x.es.length<400:=by obtain⟨z,hz⟩: ∃ z,reps[l]? =some z:=⟨_,ai I⟩;have h1:=hroom l z hld hz;have h2:=hxa;rw[aJ,hz]at h2;injection h2 with h2;have h3:z.es=x.es:=congrArg RA.es h2;rw[<-h3];exact h1
 have hlo:=H.size
 refine bG cv [0,1,2,3,4,5,6,7,8,9] [10,11] [5,9] [0,1,2,6,7,8] (sp [(5,Sp.nrow w15.heap.size dQ (bJ (x.es++[{e with epoch:=ep}])) (fun A c=> .tuple #[.agg #[.slice A (bJ (x.es++[{e with epoch:=ep}])).length c,J (iF (x.es++[{e with epoch:=ep}]) x.s:Nat)],J 0])),(9,Sp.blk w15.heap.size (.agg #[.slice none 0 0,J 0]) ID)]) N N N N Nq (cG _) ?_
 refine aw Z Z Z Z Z (fun w' hw'=>Yp Z)<|aw Z Z Z Z Z (fun w' hw'=>aM Z)<|aw Z Z Z Z Z (fun w' hw'=>Zf dM Z)<|aw Z Z Z Z Z (fun w' hw'=>xC 1 [.slice x.A ((bJ x.es).length) x.cap,J (((iF x.es x.s:Nat):Int))] fx row3 hx Z Z ((H.later hw').ent (i:=2) Z) Z)<|aw Z Z Z Z Z (fun w' hw'=>kh dJ Z ((H.later hw').ent (i:=4) Z) Z)<|JU (gv:=(fun A c=> .tuple #[.agg #[.slice A (bJ (x.es++[{e with epoch:=ep}])).length c,J (iF (x.es++[{e with epoch:=ep}]) x.s:Nat)],J 0])) xf Z Z Z Z Z (fun w' hw'=>hw'.size) (fun w' hw'=>wS (gh.log x) {e with epoch:=ep} w' ((hlg.cons (f:=ee gC w7.heap.size w8.heap.size Aen x.es)).log (H.later hw') hx (hok2 hx).1) hgd hrm) Z fun A99 c99 hc99=>aw Z Z Z Z Z (fun w' hw'=>Yu Z)<|aw Z Z Z Z Z (fun w' hw'=>Xa Z Z)<|aw Z Z Z Z Z (fun w' hw'=>Xi Z Z)<|y1 uh Z Z Z Z Z (fun w' hw'=>hw'.size) fun b18=>aT ?_
 intro w19 hw' hF
 obtain⟨hF,bq,eq,hge18,hbl18⟩:=hF;cases eq
 obtain⟨hF,Aq,cq,eq,hcq,hrw99⟩:=hF;cases eq;clear hcq
 have Hb:=H
 replace H:=H.adoptNew hw' hbl18 hge18
 obtain⟨lo99,hi99,hlo99,H'⟩:=Hb.learnApart H hw'.size hrw99 (xe hbl18);replace H:=H';clear H'
 clear hw' hF
 refine bI H 0 (#[.slice A99 ((bJ (x.es++[{e with epoch:=ep}])).length) c99,J (((iF (x.es++[{e with epoch:=ep}]) x.s:Nat):Int))]) kU Z Z Z Z Z N N fun w20 H=>G (Wi Z)<|U<|W<|W<|Zr<|G (Yi Z)<|G (cj Z Z Z)<|U<|ZF Z<|Zk<|W<|Zr<|G (Yp Z)<|G (Zw fx H 0 Z Z Z)<|G (aM Z)<|G (Zf dM Z)<|nt H 3 ({x with A:=A99,cap:=c99,es:=(x.es++[{e with epoch:=ep}]),lo:=lo99,hi:=hi99}) kU row3 hx 1 Z Z Z Z Z Z N fun w22 cur21 row21 H=> ?_
 have hs23:(rs.set l ({x with A:=A99,cap:=c99,es:=(x.es++[{e with epoch:=ep}]),lo:=lo99,hi:=hi99}))[l]? =some ({x with A:=A99,cap:=c99,es:=(x.es++[{e with epoch:=ep}]),lo:=lo99,hi:=hi99}):=ak (bZ hx).1
 refine U<|W ?_
 have hlg1:=((hlg.cons (f:=ee gC w7.heap.size w8.heap.size Aen x.es)).cons (f:=ee dQ lo99 hi99 A99 (bJ (x.es++[{e with epoch:=ep}])))).set l (x:={x with A:=A99,cap:=c99,es:=(x.es++[{e with epoch:=ep}]),lo:=lo99,hi:=hi99}) ⟨hc99,aW hlo hlo99,ik _⟩
 refine Zr<|G (Zw bo H 6 Z Z Z)<|G (Ys Z)<|G (bl dW Z)<|bI H 4 (#[J (ep),J (ld),.slice (Qd g1) isr.length c1,.slice (Qd g2) kn.length c2,.slice (Qd g3) rs.length c3,J (fw),J (bs)]) bk Z Z Z Z Z N N fun w24 H=>G (Wi Z)<|G (Wi Z)<|U<|Zt ?_
 have hlr:(Pa.a ⟨ep,ld,isr,iA,iC,kn,kA,kC,reps,rA,rC,fw,bs⟩).reps[ld.toNat]? =some x.a:=by rw[show ld.toNat=l by omega];exact hxa
 have hS:eF (Pa.a ⟨ep,ld,isr,iA,iC,kn,kA,kC,reps,rA,rC,fw,bs⟩) e=({(Pa.a ⟨ep,ld,isr,iA,iC,kn,kA,kC,reps,rA,rC,fw,bs⟩)with reps:=(reps.map gh.a).set ld.toNat {x.a with es:=(x.es++[{e with epoch:=ep}])}},((x.es.length:Nat):Int),0):=by unfold eF;rw[if_neg (show¬ (Pa.a ⟨ep,ld,isr,iA,iC,kn,kA,kC,reps,rA,rC,fw,bs⟩).leader<0 from by show¬ ld<0;omega),show(Pa.a ⟨ep,ld,isr,iA,iC,kn,kA,kC,reps,rA,rC,fw,bs⟩).leader.toNat=ld.toNat from rfl,hlr];simp[Pa.a,gh.a,h51,h61,h65,<-hma,<-hm2,h91]
 rw[hS]
 exact gM (cs0:= #[J (ep),J (ld),.slice (Qd g1) isr.length c1,.slice (Qd g2) kn.length c2,.slice (Qd g3) rs.length c3,J (fw),J (bs)]) (v1:=J (((x.es.length:Nat):Int))) (v2:=J (0)) Z bo Z (H.ent (i:=4) Z) Z Z Z ⟨_,by simp[Pa.c],by simp[Pa.a,cO,hma,gh.a,show ld.toNat=l by omega],(iI.mk_ (p:=⟨ep,ld,isr,some ⟨g1,0,none⟩,c1,kn,some ⟨g2,0,none⟩,c2,rs.set l {x with A:=A99,cap:=c99,es:=(x.es++[{e with epoch:=ep}]),lo:=lo99,hi:=hi99},some ⟨g3,0,none⟩,c3,fw,bs⟩) Z Z Z row1 row2 row21 hlg1 (by dsimp only;first|omega|(simp only[ae,bc];omega)) H ⟨by simp,by simp,by simp⟩)⟩
end Go.Proofs.YtclibalpdhhhfaaGreatDoor
