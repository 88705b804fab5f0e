/- Part 1 of the proofs over this seat: what its theorems say holds for every input that they name. -/
import Derived.Test.YtclibalpdhhhfaaGreatDoorBE0
namespace Go.Proofs.YtclibalpdhhhfaaGreatDoor
open Go Go.Eng Go.RowKit
open Go.Eng renaming bP→U, cE→W, bK→Zr, og→Zk, wG→Zt, lB→Zb, xC→Zx, gg→Yi, IH→Yb, sE→Ys, Ra→Yp, IG→Yu, BN→Wi, DD→Wb, vV→Ws, Ri→Wp, zf→Zf, Rg→Xi, I0→Xa, IZ→Xb, IY→Xs, PA→Kt, LQ→N, jc→ZT, gQ→ZF
open Go.Proofs.Tryz renaming prog→aa
open _root_.List renaming mem_of_getElem?→ab,length_set→ae,mem_cons_of_mem→ai,getElem?_eq_getElem→aj,getElem?_set_self→al,mem_append→ap,replicate→aq,mem_singleton→ar,mem_cons→av,length_append→ay,mem_cons_self→az,mem_or_eq_of_mem_set→aA,append_assoc→aB,length_take→aD,getElem?_eq_some_iff→aE,getElem?_map→aI,mem_iff_getElem?→aN,findIdx?_eq_some_iff_getElem→aP,sublist_cons_self→aR,append_nil→aZ,length_map→bc,mem_nil_iff→bd,length_cons→bf,map_append→bk,mem_map→bD,mem_map_of_mem→bF,take_length→bJ,eq_nil_of_length_eq_zero→bO,length_replicate→bW,mem_append_right→cz,getElem?_append_left→cC,getElem?_append_right→cG,length_singleton→cH,findIdx?_eq_none_iff→cL,getD_eq_getElem?_getD→cS,map_set→cU,length_drop→cZ,length→da,getElem?_drop→dk,take_take→dv,ext_getElem?→dZ,mem_singleton_self→d9,length_nil→ei,all_eq_true→ej,take_of_length_le→eo,drop_of_length_le→er,map_cons→eU,getElem?_take_of_lt→fe,getElem?_replicate→fv,drop_length→fC,range→gy,flatMap_cons→gz,take_append_drop→g8,mem_append_left→iB,take_left→jm,filter_append→jn,nodup_cons→jz,drop_drop→ke,take_append_of_le_length→kO,nil_append→li,getElem?_set→lI,drop_eq_getElem_cons→nf,replicate_succ→ng,flatMap_append→nh,getElem?_cons_succ→pg,nodup_append→pK,map_nil→pL,find?_cons_of_neg→pO,take_subset→qO,perm_middle→qP,cons_append→qQ,perm_append_singleton→t5,any_eq_false→uV,filter_eq_nil_iff→wQ,mem_of_mem_take→zo,set_cons_zero→B1,find?_eq_none→B2,take_succ_eq_append_getElem→DJ
open _root_.List.Perm renaming swap→ak
open _root_.Nat renaming le_refl→ao,le_trans→aV,min_eq_left→bB,zero_le→bN,zero_add→cF,add_mul→cN,mul_le_mul_right→dq,le_of_ble_eq_true→fm,mod_eq_of_lt→hZ,lt_or_ge→iZ,mod_lt→kP,add_assoc→ls,sub_self→mE,le_of_lt→mF,add_sub_cancel_left→pe,add_zero→pJ,two_pow_add_eq_or_of_lt→sY,div_lt_of_lt_mul→zm,mul_comm→DH,add_comm→DI
open _root_.List.Sublist renaming refl→au
open _root_.Option.some renaming inj→aY
open _root_.Array renaming length_toList→bY
open _root_.Int renaming le_refl→fl,toNat_natCast→uW
open _root_.List.Mem renaming head→ie,tail→rb
open _root_.Bool renaming true_and→ig
set_option maxHeartbeats 4000000
set_option maxRecDepth 20000
set_option linter.unusedSimpArgs false
set_option linter.unusedVariables false
set_option linter.unusedSectionVars false
section
open Go Go.Eng
theorem cD:aa.follows .mixedOrders=true:=by kernel_rfl
abbrev dg:TypeId:=3
theorem am:pY aa 3=true:=by kernel_rfl
theorem bQ:(aa.info? 3).map (·.size)=some 1:=by kernel_rfl
theorem i8:t7 aa 3 .i64=true:=by kernel_rfl
theorem CP:(aa.info? 3).bind (·.zero)=some (.int .i64 0):=by kernel_rfl
abbrev j6:TypeId:=4
theorem eS:pY aa 4=true:=by kernel_rfl
theorem mL:(aa.info? 4).map (·.size)=some 1:=by kernel_rfl
theorem wU:aa.underlying 4=some .bool:=by kernel_rfl
abbrev nb:TypeId:=5
theorem mO:pY aa 5=true:=by kernel_rfl
theorem iI:t7 aa 5 .u8=true:=by kernel_rfl
theorem z5:(aa.info? 5).bind (·.zero)=some (.int .u8 0):=by kernel_rfl
abbrev pd:TypeId:=9
theorem ba:pY aa 9=true:=by kernel_rfl
theorem GY:(aa.info? 9).map (·.size)=some 1:=by kernel_rfl
theorem kg:zr aa 9=true:=by kernel_rfl
theorem E1:(aa.info? 9).bind (·.zero)=some (.string ⟨#[]⟩):=by kernel_rfl
abbrev yS:TypeId:=23
theorem cB:pY aa 23=true:=by kernel_rfl
theorem jQ:(aa.info? 23).map (·.size)=some 1:=by kernel_rfl
theorem bj:ek aa 23 3 1=true:=by kernel_rfl
theorem eT:qt aa 23=true:=by kernel_rfl
theorem zX:EX aa 23 3 1 8=true:=by kernel_rfl
abbrev lL:TypeId:=25
theorem vo:lV aa 25 4=true:=by kernel_rfl
theorem C9:(aa.info? 25).map (·.size)=some 4:=by kernel_rfl
theorem Li:iK aa 25 [(0,1),(1,1),(2,1),(3,1)]=true:=by kernel_rfl
theorem tz:ci aa 25 0 0=true:=by kernel_rfl
theorem BB:ci aa 25 1 1=true:=by kernel_rfl
theorem BA:ci aa 25 2 2=true:=by kernel_rfl
theorem wC:ci aa 25 3 3=true:=by kernel_rfl
theorem DM:(aa.info? 25).bind (·.zero)=some (.agg #[.int .i64 0,.int .i64 0,.int .i64 0,.int .i64 0]):=by kernel_rfl
theorem rg:ek aa 27 31 7=true:=by kernel_rfl
theorem xc:qt aa 27=true:=by kernel_rfl
theorem I8:EX aa 27 31 7 72=true:=by kernel_rfl
abbrev jl:TypeId:=31
theorem dV:lV aa 31 7=true:=by kernel_rfl
theorem NE:(aa.info? 31).map (·.size)=some 7:=by kernel_rfl
theorem um:iK aa 31 [(0,1),(1,1),(2,1),(3,1),(4,1),(5,1),(6,1)]=true:=by kernel_rfl
theorem uF:ci aa 31 0 0=true:=by kernel_rfl
theorem fu:ci aa 31 1 1=true:=by kernel_rfl
theorem fk:ci aa 31 2 2=true:=by kernel_rfl
theorem gp:ci aa 31 3 3=true:=by kernel_rfl
theorem MP:ci aa 31 4 4=true:=by kernel_rfl
theorem Gh:ci aa 31 5 5=true:=by kernel_rfl
theorem kG:ci aa 31 6 6=true:=by kernel_rfl
theorem qj:(aa.info? 31).bind (·.zero)=some (.agg #[.int .i64 0,.string ⟨#[]⟩,.int .i64 0,.int .i64 0,.int .i64 0,.string ⟨#[]⟩,.int .i64 0]):=by kernel_rfl
theorem s9:ek aa 35 71 3=true:=by kernel_rfl
theorem rm:qt aa 35=true:=by kernel_rfl
theorem Ie:EX aa 35 71 3 40=true:=by kernel_rfl
theorem eA:pY aa 36=true:=by kernel_rfl
theorem u6:(aa.info? 36).map (·.size)=some 1:=by kernel_rfl
theorem iE:ek aa 36 52 7=true:=by kernel_rfl
theorem l8:qt aa 36=true:=by kernel_rfl
theorem xO:EX aa 36 52 7 104=true:=by kernel_rfl
theorem dN:pY aa 37=true:=by kernel_rfl
theorem Ak:(aa.info? 37).map (·.size)=some 1:=by kernel_rfl
theorem gW:ek aa 37 163 7=true:=by kernel_rfl
theorem lx:qt aa 37=true:=by kernel_rfl
theorem I7:EX aa 37 163 7 80=true:=by kernel_rfl
abbrev aX:TypeId:=39
theorem ax:lV aa 39 4=true:=by kernel_rfl
theorem aF:(aa.info? 39).map (·.size)=some 4:=by kernel_rfl
theorem fH:iK aa 39 [(0,1),(1,1),(2,1),(3,1)]=true:=by kernel_rfl
theorem kF:ci aa 39 0 0=true:=by kernel_rfl
theorem kE:ci aa 39 1 1=true:=by kernel_rfl
theorem wE:ci aa 39 2 2=true:=by kernel_rfl
theorem cP:ci aa 39 3 3=true:=by kernel_rfl
theorem cI:(aa.info? 39).bind (·.zero)=some (.agg #[.int .i64 0,.int .i64 0,.int .i64 0,.slice none 0 0]):=by kernel_rfl
theorem dw:pY aa 40=true:=by kernel_rfl
theorem un:(aa.info? 40).map (·.size)=some 1:=by kernel_rfl
theorem eL:ek aa 40 181 3=true:=by kernel_rfl
theorem gI:qt aa 40=true:=by kernel_rfl
theorem BP:EX aa 40 181 3 48=true:=by kernel_rfl
abbrev yT:TypeId:=41
theorem eG:pY aa 41=true:=by kernel_rfl
theorem ov:(aa.info? 41).map (·.size)=some 1:=by kernel_rfl
theorem dd:ek aa 41 192 2=true:=by kernel_rfl
theorem iu:qt aa 41=true:=by kernel_rfl
theorem wJ:EX aa 41 192 2 16=true:=by kernel_rfl
abbrev cK:TypeId:=43
theorem aO:lV aa 43 5=true:=by kernel_rfl
theorem bz:(aa.info? 43).map (·.size)=some 5:=by kernel_rfl
theorem kh:iK aa 43 [(0,1),(1,1),(2,1),(3,1),(4,1)]=true:=by kernel_rfl
theorem jM:ci aa 43 0 0=true:=by kernel_rfl
theorem wD:ci aa 43 1 1=true:=by kernel_rfl
theorem kD:ci aa 43 2 2=true:=by kernel_rfl
theorem dM:ci aa 43 3 3=true:=by kernel_rfl
theorem d4:ci aa 43 4 4=true:=by kernel_rfl
theorem ed:(aa.info? 43).bind (·.zero)=some (.agg #[.int .i64 0,.int .i64 0,.int .i64 0,.slice none 0 0,.slice none 0 0]):=by kernel_rfl
theorem ko:pY aa 44=true:=by kernel_rfl
theorem Fg:(aa.info? 44).map (·.size)=some 1:=by kernel_rfl
theorem s8:ek aa 44 142 6=true:=by kernel_rfl
theorem uw:qt aa 44=true:=by kernel_rfl
theorem Ic:EX aa 44 142 6 88=true:=by kernel_rfl
abbrev oo:TypeId:=46
theorem n8:lV aa 46 11=true:=by kernel_rfl
theorem jT:(aa.info? 46).map (·.size)=some 11:=by kernel_rfl
theorem Lh:iK aa 46 [(0,1),(1,4),(5,5),(10,1)]=true:=by kernel_rfl
theorem dL:ci aa 46 0 0=true:=by kernel_rfl
theorem eO:ci aa 46 1 1=true:=by kernel_rfl
theorem jL:ci aa 46 2 5=true:=by kernel_rfl
theorem kB:ci aa 46 3 10=true:=by kernel_rfl
theorem mG:(aa.info? 46).bind (·.zero)=some (.agg #[.slice none 0 0,.int .i64 0,.int .i64 0,.int .i64 0,.slice none 0 0,.int .i64 0,.int .i64 0,.int .i64 0,.slice none 0 0,.slice none 0 0,.slice none 0 0]):=by kernel_rfl
theorem l5:pY aa 49=true:=by kernel_rfl
theorem Jt:(aa.info? 49).map (·.size)=some 1:=by kernel_rfl
theorem fg:ek aa 49 4 1=true:=by kernel_rfl
theorem yr:qt aa 49=true:=by kernel_rfl
theorem Nd:EX aa 49 4 1 1=true:=by kernel_rfl
theorem cJ:pY aa 50=true:=by kernel_rfl
theorem D2:(aa.info? 50).map (·.size)=some 1:=by kernel_rfl
theorem bM:ek aa 50 57 4=true:=by kernel_rfl
theorem ik:qt aa 50=true:=by kernel_rfl
theorem GB:EX aa 50 57 4 48=true:=by kernel_rfl
abbrev bI:TypeId:=52
theorem bo:lV aa 52 7=true:=by kernel_rfl
theorem bl:(aa.info? 52).map (·.size)=some 7:=by kernel_rfl
theorem dz:iK aa 52 [(0,1),(1,1),(2,1),(3,1),(4,1),(5,1),(6,1)]=true:=by kernel_rfl
theorem qi:ci aa 52 0 0=true:=by kernel_rfl
theorem eC:ci aa 52 1 1=true:=by kernel_rfl
theorem kW:ci aa 52 2 2=true:=by kernel_rfl
theorem iX:ci aa 52 3 3=true:=by kernel_rfl
theorem dQ:ci aa 52 4 4=true:=by kernel_rfl
theorem yF:ci aa 52 5 5=true:=by kernel_rfl
theorem yE:ci aa 52 6 6=true:=by kernel_rfl
theorem bR:(aa.info? 52).bind (·.zero)=some (.agg #[.int .i64 0,.int .i64 0,.slice none 0 0,.slice none 0 0,.slice none 0 0,.int .i64 0,.int .i64 0]):=by kernel_rfl
theorem eV:pY aa 53=true:=by kernel_rfl
theorem Da:(aa.info? 53).map (·.size)=some 1:=by kernel_rfl
theorem eF:ek aa 53 5 1=true:=by kernel_rfl
theorem fb:qt aa 53=true:=by kernel_rfl
theorem o0:EX aa 53 5 1 1=true:=by kernel_rfl
theorem DN:(aa.info? 53).bind (·.zero)=some (.slice none 0 0):=by kernel_rfl
abbrev GG:TypeId:=55
theorem fE:lV aa 55 2=true:=by kernel_rfl
theorem kR:(aa.info? 55).map (·.size)=some 2:=by kernel_rfl
theorem wc:iK aa 55 [(0,1),(1,1)]=true:=by kernel_rfl
theorem jb:ci aa 55 0 0=true:=by kernel_rfl
theorem oT:ci aa 55 1 1=true:=by kernel_rfl
theorem tO:(aa.info? 55).bind (·.zero)=some (.agg #[.slice none 0 0,.int .i64 0]):=by kernel_rfl
abbrev g7:TypeId:=57
theorem pb:lV aa 57 4=true:=by kernel_rfl
theorem ou:(aa.info? 57).map (·.size)=some 4:=by kernel_rfl
theorem kV:ci aa 57 0 0=true:=by kernel_rfl
theorem dU:ci aa 57 1 1=true:=by kernel_rfl
theorem eX:ci aa 57 2 3=true:=by kernel_rfl
theorem sv:(aa.info? 57).bind (·.zero)=some (.agg #[.bool false,.slice none 0 0,.int .i64 0,.int .i64 0]):=by kernel_rfl
theorem nG:pY aa 58=true:=by kernel_rfl
theorem dW:ek aa 58 87 7=true:=by kernel_rfl
theorem eN:qt aa 58=true:=by kernel_rfl
theorem KA:EX aa 58 87 7 64=true:=by kernel_rfl
theorem JQ:pY aa 59=true:=by kernel_rfl
abbrev mj:TypeId:=64
theorem ir:pY aa 64=true:=by kernel_rfl
theorem Ff:(aa.info? 64).map (·.size)=some 1:=by kernel_rfl
theorem ki:ek aa 64 9 1=true:=by kernel_rfl
theorem jA:qt aa 64=true:=by kernel_rfl
theorem tL:EX aa 64 9 1 16=true:=by kernel_rfl
abbrev eh:TypeId:=71
theorem aK:lV aa 71 3=true:=by kernel_rfl
theorem aL:(aa.info? 71).map (·.size)=some 3:=by kernel_rfl
theorem iV:iK aa 71 [(0,1),(1,1),(2,1)]=true:=by kernel_rfl
theorem Gg:ci aa 71 0 0=true:=by kernel_rfl
theorem Gf:ci aa 71 1 1=true:=by kernel_rfl
theorem rv:ci aa 71 2 2=true:=by kernel_rfl
theorem dn:(aa.info? 71).bind (·.zero)=some (.agg #[.int .i64 0,.int .i64 0,.slice none 0 0]):=by kernel_rfl
abbrev GF:TypeId:=83
theorem oc:G7 aa 83=true:=by kernel_rfl
theorem rc:(aa.info? 83).bind (·.zero)=some (.pointer none):=by kernel_rfl
abbrev lW:TypeId:=85
theorem yY:iK aa 85 [(0,1),(1,1),(2,1),(3,1)]=true:=by kernel_rfl
theorem jY:ci aa 85 0 0=true:=by kernel_rfl
theorem fz:ci aa 85 1 1=true:=by kernel_rfl
theorem ec:ci aa 85 2 2=true:=by kernel_rfl
theorem iw:ci aa 85 3 3=true:=by kernel_rfl
theorem z4:(aa.info? 85).bind (·.zero)=some (.agg #[.int .i64 0,.int .i64 0,.int .i64 0,.int .i64 0]):=by kernel_rfl
abbrev dA:TypeId:=87
theorem dJ:lV aa 87 7=true:=by kernel_rfl
theorem fa:(aa.info? 87).map (·.size)=some 7:=by kernel_rfl
theorem ot:iK aa 87 [(0,1),(1,1),(2,1),(3,1),(4,1),(5,1),(6,1)]=true:=by kernel_rfl
theorem nV:ci aa 87 0 0=true:=by kernel_rfl
theorem fx:ci aa 87 1 1=true:=by kernel_rfl
theorem eP:ci aa 87 2 2=true:=by kernel_rfl
theorem fj:ci aa 87 3 3=true:=by kernel_rfl
theorem fi:ci aa 87 4 4=true:=by kernel_rfl
theorem jh:ci aa 87 5 5=true:=by kernel_rfl
theorem qD:ci aa 87 6 6=true:=by kernel_rfl
theorem gB:(aa.info? 87).bind (·.zero)=some (.agg #[.int .i64 0,.int .i64 0,.int .i64 0,.int .i64 0,.int .i64 0,.bool false,.string ⟨#[]⟩]):=by kernel_rfl
abbrev bE:TypeId:=95
theorem Jr:iK aa 95 [(0,11)]=true:=by kernel_rfl
theorem aS:ci aa 95 0 0=true:=by kernel_rfl
theorem KQ:(aa.info? 95).bind (·.zero)=some (.agg #[.slice none 0 0,.int .i64 0,.int .i64 0,.int .i64 0,.slice none 0 0,.int .i64 0,.int .i64 0,.int .i64 0,.slice none 0 0,.slice none 0 0,.slice none 0 0]):=by kernel_rfl
theorem FN:t7 aa 99 .u64=true:=by kernel_rfl
abbrev uT:TypeId:=122
theorem Jq:iK aa 122 [(0,1),(1,1)]=true:=by kernel_rfl
theorem mg:ci aa 122 0 0=true:=by kernel_rfl
theorem kz:ci aa 122 1 1=true:=by kernel_rfl
theorem KP:(aa.info? 122).bind (·.zero)=some (.agg #[.slice none 0 0,.bool false]):=by kernel_rfl
theorem i6:G7 aa 139=true:=by kernel_rfl
abbrev fK:TypeId:=142
theorem Ai:(aa.info? 142).map (·.size)=some 6:=by kernel_rfl
theorem yd:iK aa 142 [(0,1),(1,1),(2,1),(3,1),(4,1),(5,1)]=true:=by kernel_rfl
theorem oQ:ci aa 142 0 0=true:=by kernel_rfl
theorem Ge:ci aa 142 1 1=true:=by kernel_rfl
theorem uE:ci aa 142 2 2=true:=by kernel_rfl
theorem oP:ci aa 142 3 3=true:=by kernel_rfl
theorem ze:ci aa 142 4 4=true:=by kernel_rfl
theorem mh:ci aa 142 5 5=true:=by kernel_rfl
theorem wS:(aa.info? 142).bind (·.zero)=some (.agg #[.string ⟨#[]⟩,.int .i64 0,.int .i64 0,.bool false,.slice none 0 0,.slice none 0 0]):=by kernel_rfl
abbrev dH:TypeId:=163
theorem zY:lV aa 163 7=true:=by kernel_rfl
theorem Ir:(aa.info? 163).map (·.size)=some 7:=by kernel_rfl
theorem Pj:iK aa 163 [(0,1),(1,1),(2,1),(3,1),(4,1),(5,1),(6,1)]=true:=by kernel_rfl
theorem oO:ci aa 163 0 0=true:=by kernel_rfl
theorem lz:ci aa 163 1 1=true:=by kernel_rfl
theorem gN:ci aa 163 2 2=true:=by kernel_rfl
theorem cV:ci aa 163 3 3=true:=by kernel_rfl
theorem dD:ci aa 163 4 4=true:=by kernel_rfl
theorem uD:ci aa 163 5 5=true:=by kernel_rfl
theorem jw:ci aa 163 6 6=true:=by kernel_rfl
theorem Ij:(aa.info? 163).bind (·.zero)=some (.agg #[.string ⟨#[]⟩,.int .i64 0,.int .i64 0,.int .i64 0,.slice none 0 0,.int .i64 0,.int .i64 0]):=by kernel_rfl
abbrev dh:TypeId:=181
theorem n9:lV aa 181 3=true:=by kernel_rfl
theorem ta:(aa.info? 181).map (·.size)=some 3:=by kernel_rfl
theorem Js:iK aa 181 [(0,1),(1,1),(2,1)]=true:=by kernel_rfl
theorem oS:ci aa 181 0 0=true:=by kernel_rfl
theorem ru:ci aa 181 1 1=true:=by kernel_rfl
theorem ja:ci aa 181 2 2=true:=by kernel_rfl
theorem uk:(aa.info? 181).bind (·.zero)=some (.agg #[.string ⟨#[]⟩,.int .i64 0,.slice none 0 0]):=by kernel_rfl
abbrev eg:TypeId:=192
theorem BR:lV aa 192 2=true:=by kernel_rfl
theorem Aj:(aa.info? 192).map (·.size)=some 2:=by kernel_rfl
theorem u5:iK aa 192 [(0,1),(1,1)]=true:=by kernel_rfl
theorem jC:ci aa 192 0 0=true:=by kernel_rfl
theorem oR:ci aa 192 1 1=true:=by kernel_rfl
theorem lv:(aa.info? 192).bind (·.zero)=some (.agg #[.int .i64 0,.int .i64 0]):=by kernel_rfl
theorem wX:ek aa 211 23 1=true:=by kernel_rfl
theorem JX:qt aa 211=true:=by kernel_rfl
theorem sx:ek aa 221 53 1=true:=by kernel_rfl
theorem AR:qt aa 221=true:=by kernel_rfl
abbrev sI:FuncId:=5
theorem rV:aa.funcs[(5:Nat)]? =some Tryz.f5:=Tryz.func5
abbrev oE:FuncId:=6
theorem ud:aa.funcs[(6:Nat)]? =some Tryz.f6:=Tryz.func6
theorem uf:bg aa 6=true:=by kernel_rfl
abbrev ww:FuncId:=7
theorem vv:aa.funcs[(7:Nat)]? =some Tryz.f7:=Tryz.func7
theorem gd:bg aa 7=true:=by kernel_rfl
abbrev t9:FuncId:=9
theorem tr:aa.funcs[(9:Nat)]? =some Tryz.f9:=Tryz.func9
theorem m3:bg aa 9=true:=by kernel_rfl
abbrev xi:FuncId:=12
theorem wz:aa.funcs[(12:Nat)]? =some Tryz.f12:=Tryz.func12
theorem jO:bg aa 12=true:=by kernel_rfl
abbrev vH:FuncId:=13
theorem Br:aa.funcs[(13:Nat)]? =some Tryz.f13:=Tryz.func13
theorem gR:bg aa 13=true:=by kernel_rfl
abbrev Ch:FuncId:=14
theorem Bq:aa.funcs[(14:Nat)]? =some Tryz.f14:=Tryz.func14
theorem uK:bg aa 14=true:=by kernel_rfl
abbrev zb:FuncId:=15
theorem xt:aa.funcs[(15:Nat)]? =some Tryz.f15:=Tryz.func15
theorem xG:bg aa 15=true:=by kernel_rfl
abbrev uz:FuncId:=16
theorem tv:aa.funcs[(16:Nat)]? =some Tryz.f16:=Tryz.func16
theorem tI:bg aa 16=true:=by kernel_rfl
abbrev t8:FuncId:=17
theorem tq:aa.funcs[(17:Nat)]? =some Tryz.f17:=Tryz.func17
theorem fZ:bg aa 17=true:=by kernel_rfl
abbrev sL:FuncId:=18
theorem rZ:aa.funcs[(18:Nat)]? =some Tryz.f18:=Tryz.func18
theorem sh:bg aa 18=true:=by kernel_rfl
abbrev Eu:FuncId:=22
theorem CB:aa.funcs[(22:Nat)]? =some Tryz.f22:=Tryz.func22
theorem CL:bg aa 22=true:=by kernel_rfl
abbrev zc:FuncId:=23
theorem EA:aa.funcs[(23:Nat)]? =some Tryz.f23:=Tryz.func23
theorem qd:bg aa 23=true:=by kernel_rfl
abbrev Cf:FuncId:=24
theorem Bo:aa.funcs[(24:Nat)]? =some Tryz.f24:=Tryz.func24
theorem m0:bg aa 24=true:=by kernel_rfl
abbrev Cg:FuncId:=25
theorem Bp:aa.funcs[(25:Nat)]? =some Tryz.f25:=Tryz.func25
theorem uJ:bg aa 25=true:=by kernel_rfl
abbrev FP:FuncId:=26
theorem Ez:aa.funcs[(26:Nat)]? =some Tryz.f26:=Tryz.func26
theorem EN:bg aa 26=true:=by kernel_rfl
abbrev En:FuncId:=27
theorem Cs:aa.funcs[(27:Nat)]? =some Tryz.f27:=Tryz.func27
theorem lF:bg aa 27=true:=by kernel_rfl
abbrev Bi:FuncId:=29
theorem zD:aa.funcs[(29:Nat)]? =some Tryz.f29:=Tryz.func29
theorem zL:bg aa 29=true:=by kernel_rfl
abbrev vu:FuncId:=30
theorem uB:aa.funcs[(30:Nat)]? =some Tryz.f30:=Tryz.func30
theorem uM:bg aa 30=true:=by kernel_rfl
abbrev jB:FuncId:=31
theorem nP:aa.funcs[(31:Nat)]? =some Tryz.f31:=Tryz.func31
theorem nX:bg aa 31=true:=by kernel_rfl
abbrev Hz:FuncId:=32
theorem F4:aa.funcs[(32:Nat)]? =some Tryz.f32:=Tryz.func32
theorem zg:bg aa 32=true:=by kernel_rfl
abbrev FO:FuncId:=33
theorem Ey:aa.funcs[(33:Nat)]? =some Tryz.f33:=Tryz.func33
theorem EM:bg aa 33=true:=by kernel_rfl
abbrev py:FuncId:=34
theorem oM:aa.funcs[(34:Nat)]? =some Tryz.f34:=Tryz.func34
theorem oX:bg aa 34=true:=by kernel_rfl
abbrev FQ:FuncId:=35
theorem EB:aa.funcs[(35:Nat)]? =some Tryz.f35:=Tryz.func35
theorem kY:bg aa 35=true:=by kernel_rfl
abbrev HB:FuncId:=40
theorem F7:aa.funcs[(40:Nat)]? =some Tryz.f40:=Tryz.func40
theorem Gz:bg aa 40=true:=by kernel_rfl
abbrev FU:FuncId:=41
theorem EG:aa.funcs[(41:Nat)]? =some Tryz.f41:=Tryz.func41
theorem ER:bg aa 41=true:=by kernel_rfl
abbrev FS:FuncId:=42
theorem EE:aa.funcs[(42:Nat)]? =some Tryz.f42:=Tryz.func42
theorem EP:bg aa 42=true:=by kernel_rfl
abbrev zd:FuncId:=43
theorem ED:aa.funcs[(43:Nat)]? =some Tryz.f43:=Tryz.func43
theorem m6:bg aa 43=true:=by kernel_rfl
abbrev ks:FuncId:=44
theorem nz:aa.funcs[(44:Nat)]? =some Tryz.f44:=Tryz.func44
theorem ug:bg aa 44=true:=by kernel_rfl
abbrev j4:FuncId:=45
theorem mW:aa.funcs[(45:Nat)]? =some Tryz.f45:=Tryz.func45
theorem tJ:bg aa 45=true:=by kernel_rfl
abbrev i9:FuncId:=46
theorem j5:aa.funcs[(46:Nat)]? =some Tryz.f46:=Tryz.func46
theorem nB:bg aa 46=true:=by kernel_rfl
abbrev jJ:FuncId:=47
theorem mf:aa.funcs[(47:Nat)]? =some Tryz.f47:=Tryz.func47
theorem mi:bg aa 47=true:=by kernel_rfl
abbrev kr:FuncId:=48
theorem ny:aa.funcs[(48:Nat)]? =some Tryz.f48:=Tryz.func48
theorem nC:bg aa 48=true:=by kernel_rfl
abbrev oJ:FuncId:=49
theorem ue:aa.funcs[(49:Nat)]? =some Tryz.f49:=Tryz.func49
theorem nA:bg aa 49=true:=by kernel_rfl
abbrev ly:FuncId:=50
theorem qX:aa.funcs[(50:Nat)]? =some Tryz.f50:=Tryz.func50
theorem gk:bg aa 50=true:=by kernel_rfl
abbrev mc:FuncId:=51
theorem sa:aa.funcs[(51:Nat)]? =some Tryz.f51:=Tryz.func51
theorem dO:bg aa 51=true:=by kernel_rfl
abbrev gK:FuncId:=52
theorem iL:aa.funcs[(52:Nat)]? =some Tryz.f52:=Tryz.func52
theorem en:bg aa 52=true:=by kernel_rfl
abbrev yv:FuncId:=53
theorem xx:aa.funcs[(53:Nat)]? =some Tryz.f53:=Tryz.func53
theorem bH:bg aa 53=true:=by kernel_rfl
abbrev uy:FuncId:=54
theorem uc:aa.funcs[(54:Nat)]? =some Tryz.f54:=Tryz.func54
theorem iM:bg aa 54=true:=by kernel_rfl
abbrev Ei:FuncId:=55
theorem Cl:aa.funcs[(55:Nat)]? =some Tryz.f55:=Tryz.func55
theorem sf:bg aa 55=true:=by kernel_rfl
abbrev qR:FuncId:=56
theorem qy:aa.funcs[(56:Nat)]? =some Tryz.f56:=Tryz.func56
theorem qF:bg aa 56=true:=by kernel_rfl
abbrev qS:FuncId:=62
theorem qA:aa.funcs[(62:Nat)]? =some Tryz.f62:=Tryz.func62
theorem qG:bg aa 62=true:=by kernel_rfl
abbrev ma:FuncId:=63
theorem rX:aa.funcs[(63:Nat)]? =some Tryz.f63:=Tryz.func63
theorem gD:bg aa 63=true:=by kernel_rfl
abbrev nj:FuncId:=64
theorem mV:aa.funcs[(64:Nat)]? =some Tryz.f64:=Tryz.func64
theorem m5:bg aa 64=true:=by kernel_rfl
abbrev la:FuncId:=65
theorem qz:aa.funcs[(65:Nat)]? =some Tryz.f65:=Tryz.func65
theorem f0:bg aa 65=true:=by kernel_rfl
abbrev mT:FuncId:=66
theorem oe:aa.funcs[(66:Nat)]? =some Tryz.f66:=Tryz.func66
theorem om:bg aa 66=true:=by kernel_rfl
abbrev jI:FuncId:=67
theorem me:aa.funcs[(67:Nat)]? =some Tryz.f67:=Tryz.func67
theorem dF:bg aa 67=true:=by kernel_rfl
abbrev ub:FuncId:=68
theorem tw:aa.funcs[(68:Nat)]? =some Tryz.f68:=Tryz.func68
theorem d8:bg aa 68=true:=by kernel_rfl
abbrev vI:FuncId:=69
theorem Bu:aa.funcs[(69:Nat)]? =some Tryz.f69:=Tryz.func69
theorem kK:bg aa 69=true:=by kernel_rfl
abbrev sP:FuncId:=70
theorem sd:aa.funcs[(70:Nat)]? =some Tryz.f70:=Tryz.func70
theorem lG:bg aa 70=true:=by kernel_rfl
abbrev mb:FuncId:=71
theorem qa:aa.funcs[(71:Nat)]? =some Tryz.f71:=Tryz.func71
theorem xI:bg aa 71=true:=by kernel_rfl
abbrev xn:FuncId:=72
theorem Cz:aa.funcs[(72:Nat)]? =some Tryz.f72:=Tryz.func72
theorem vT:bg aa 72=true:=by kernel_rfl
abbrev HA:FuncId:=73
theorem F6:aa.funcs[(73:Nat)]? =some Tryz.f73:=Tryz.func73
theorem rB:bg aa 73=true:=by kernel_rfl
abbrev xo:FuncId:=74
theorem CA:aa.funcs[(74:Nat)]? =some Tryz.f74:=Tryz.func74
theorem CK:bg aa 74=true:=by kernel_rfl
abbrev tm:FuncId:=75
theorem vL:aa.funcs[(75:Nat)]? =some Tryz.f75:=Tryz.func75
theorem vS:bg aa 75=true:=by kernel_rfl
abbrev Er:FuncId:=76
theorem Cv:aa.funcs[(76:Nat)]? =some Tryz.f76:=Tryz.func76
theorem vR:bg aa 76=true:=by kernel_rfl
abbrev Ek:FuncId:=77
theorem Cq:aa.funcs[(77:Nat)]? =some Tryz.f77:=Tryz.func77
theorem CG:bg aa 77=true:=by kernel_rfl
abbrev FR:FuncId:=78
theorem EC:aa.funcs[(78:Nat)]? =some Tryz.f78:=Tryz.func78
theorem EO:bg aa 78=true:=by kernel_rfl
abbrev Em:FuncId:=82
theorem Cr:aa.funcs[(82:Nat)]? =some Tryz.f82:=Tryz.func82
theorem CH:bg aa 82=true:=by kernel_rfl
abbrev p5:FuncId:=85
theorem r8:aa.funcs[(85:Nat)]? =some Tryz.f85:=Tryz.func85
theorem CI:bg aa 85=true:=by kernel_rfl
abbrev p6:FuncId:=87
theorem r9:aa.funcs[(87:Nat)]? =some Tryz.f87:=Tryz.func87
theorem CJ:bg aa 87=true:=by kernel_rfl
abbrev jX:FuncId:=88
theorem kw:aa.funcs[(88:Nat)]? =some Tryz.f88:=Tryz.func88
theorem BJ:bg aa 88=true:=by kernel_rfl
abbrev od:FuncId:=89
theorem qB:aa.funcs[(89:Nat)]? =some Tryz.f89:=Tryz.func89
theorem m7:bg aa 89=true:=by kernel_rfl
abbrev xm:FuncId:=92
theorem vK:aa.funcs[(92:Nat)]? =some Tryz.f92:=Tryz.func92
theorem iz:bg aa 92=true:=by kernel_rfl
abbrev oI:FuncId:=93
theorem qb:aa.funcs[(93:Nat)]? =some Tryz.f93:=Tryz.func93
theorem xK:bg aa 93=true:=by kernel_rfl
abbrev rT:FuncId:=94
theorem qC:aa.funcs[(94:Nat)]? =some Tryz.f94:=Tryz.func94
theorem gT:bg aa 94=true:=by kernel_rfl
abbrev Cj:FuncId:=95
theorem Bt:aa.funcs[(95:Nat)]? =some Tryz.f95:=Tryz.func95
theorem kJ:bg aa 95=true:=by kernel_rfl
abbrev Ej:FuncId:=96
theorem Cn:aa.funcs[(96:Nat)]? =some Tryz.f96:=Tryz.func96
theorem CF:bg aa 96=true:=by kernel_rfl
abbrev xj:FuncId:=97
theorem Cp:aa.funcs[(97:Nat)]? =some Tryz.f97:=Tryz.func97
theorem vP:bg aa 97=true:=by kernel_rfl
abbrev nN:FuncId:=98
theorem nt:aa.funcs[(98:Nat)]? =some Tryz.f98:=Tryz.func98
theorem ef:bg aa 98=true:=by kernel_rfl
abbrev rR:FuncId:=99
theorem qV:aa.funcs[(99:Nat)]? =some Tryz.f99:=Tryz.func99
theorem lg:bg aa 99=true:=by kernel_rfl
abbrev xp:FuncId:=100
theorem vM:aa.funcs[(100:Nat)]? =some Tryz.f100:=Tryz.func100
theorem ji:bg aa 100=true:=by kernel_rfl
abbrev Ci:FuncId:=101
theorem Bs:aa.funcs[(101:Nat)]? =some Tryz.f101:=Tryz.func101
theorem uL:bg aa 101=true:=by kernel_rfl
abbrev zv:FuncId:=102
theorem yy:aa.funcs[(102:Nat)]? =some Tryz.f102:=Tryz.func102
theorem kZ:bg aa 102=true:=by kernel_rfl
abbrev Es:FuncId:=103
theorem Cx:aa.funcs[(103:Nat)]? =some Tryz.f103:=Tryz.func103
theorem ol:bg aa 103=true:=by kernel_rfl
abbrev fG:FuncId:=104
theorem iv:aa.funcs[(104:Nat)]? =some Tryz.f104:=Tryz.func104
theorem lD:bg aa 104=true:=by kernel_rfl
abbrev zw:FuncId:=105
theorem yz:aa.funcs[(105:Nat)]? =some Tryz.f105:=Tryz.func105
theorem yK:bg aa 105=true:=by kernel_rfl
abbrev yu:FuncId:=106
theorem xu:aa.funcs[(106:Nat)]? =some Tryz.f106:=Tryz.func106
theorem rD:bg aa 106=true:=by kernel_rfl
abbrev J8:FuncId:=107
theorem HK:aa.funcs[(107:Nat)]? =some Tryz.f107:=Tryz.func107
theorem wH:bg aa 107=true:=by kernel_rfl
abbrev Dp:FuncId:=108
theorem HH:aa.funcs[(108:Nat)]? =some Tryz.f108:=Tryz.func108
theorem HV:bg aa 108=true:=by kernel_rfl
abbrev Be:FuncId:=109
theorem zz:aa.funcs[(109:Nat)]? =some Tryz.f109:=Tryz.func109
theorem pE:bg aa 109=true:=by kernel_rfl
abbrev Bd:FuncId:=110
theorem F5:aa.funcs[(110:Nat)]? =some Tryz.f110:=Tryz.func110
theorem Gy:bg aa 110=true:=by kernel_rfl
abbrev Ep:FuncId:=113
theorem Cu:aa.funcs[(113:Nat)]? =some Tryz.f113:=Tryz.func113
theorem gE:bg aa 113=true:=by kernel_rfl
abbrev tl:FuncId:=115
theorem r7:aa.funcs[(115:Nat)]? =some Tryz.f115:=Tryz.func115
theorem iy:bg aa 115=true:=by kernel_rfl
abbrev qv:FuncId:=116
theorem p8:aa.funcs[(116:Nat)]? =some Tryz.f116:=Tryz.func116
theorem fM:bg aa 116=true:=by kernel_rfl
abbrev nL:FuncId:=117
theorem nk:aa.funcs[(117:Nat)]? =some Tryz.f117:=Tryz.func117
theorem fd:bg aa 117=true:=by kernel_rfl
abbrev Et:FuncId:=118
theorem Cy:aa.funcs[(118:Nat)]? =some Tryz.f118:=Tryz.func118
theorem sj:bg aa 118=true:=by kernel_rfl
abbrev pZ:FuncId:=119
theorem pD:aa.funcs[(119:Nat)]? =some Tryz.f119:=Tryz.func119
theorem dG:bg aa 119=true:=by kernel_rfl
abbrev g9:FuncId:=120
theorem yB:aa.funcs[(120:Nat)]? =some Tryz.f120:=Tryz.func120
theorem iD:bg aa 120=true:=by kernel_rfl
abbrev rP:FuncId:=121
theorem qT:aa.funcs[(121:Nat)]? =some Tryz.f121:=Tryz.func121
theorem iT:bg aa 121=true:=by kernel_rfl
abbrev Bg:FuncId:=122
theorem zB:aa.funcs[(122:Nat)]? =some Tryz.f122:=Tryz.func122
theorem tV:bg aa 122=true:=by kernel_rfl
abbrev FT:FuncId:=123
theorem EF:aa.funcs[(123:Nat)]? =some Tryz.f123:=Tryz.func123
theorem EQ:bg aa 123=true:=by kernel_rfl
abbrev nM:FuncId:=124
theorem nn:aa.funcs[(124:Nat)]? =some Tryz.f124:=Tryz.func124
theorem nu:bg aa 124=true:=by kernel_rfl
abbrev sO:FuncId:=125
theorem xw:aa.funcs[(125:Nat)]? =some Tryz.f125:=Tryz.func125
theorem xJ:bg aa 125=true:=by kernel_rfl
abbrev Ce:FuncId:=126
theorem Bn:aa.funcs[(126:Nat)]? =some Tryz.f126:=Tryz.func126
theorem uI:bg aa 126=true:=by kernel_rfl
abbrev qw:FuncId:=127
theorem p9:aa.funcs[(127:Nat)]? =some Tryz.f127:=Tryz.func127
theorem fN:bg aa 127=true:=by kernel_rfl
abbrev Bh:FuncId:=128
theorem zC:aa.funcs[(128:Nat)]? =some Tryz.f128:=Tryz.func128
theorem zK:bg aa 128=true:=by kernel_rfl
abbrev wx:FuncId:=129
theorem vw:aa.funcs[(129:Nat)]? =some Tryz.f129:=Tryz.func129
theorem vy:bg aa 129=true:=by kernel_rfl
abbrev sK:FuncId:=130
theorem rY:aa.funcs[(130:Nat)]? =some Tryz.f130:=Tryz.func130
theorem lE:bg aa 130=true:=by kernel_rfl
abbrev Eo:FuncId:=131
theorem Ct:aa.funcs[(131:Nat)]? =some Tryz.f131:=Tryz.func131
theorem vQ:bg aa 131=true:=by kernel_rfl
abbrev lp:FuncId:=132
theorem kT:aa.funcs[(132:Nat)]? =some Tryz.f132:=Tryz.func132
theorem kX:bg aa 132=true:=by kernel_rfl
abbrev sN:FuncId:=133
theorem xv:aa.funcs[(133:Nat)]? =some Tryz.f133:=Tryz.func133
theorem xH:bg aa 133=true:=by kernel_rfl
abbrev oH:FuncId:=134
theorem nR:aa.funcs[(134:Nat)]? =some Tryz.f134:=Tryz.func134
theorem nZ:bg aa 134=true:=by kernel_rfl
abbrev oG:FuncId:=135
theorem nQ:aa.funcs[(135:Nat)]? =some Tryz.f135:=Tryz.func135
theorem nY:bg aa 135=true:=by kernel_rfl
abbrev mt:FuncId:=136
theorem lR:aa.funcs[(136:Nat)]? =some Tryz.f136:=Tryz.func136
theorem dr:bg aa 136=true:=by kernel_rfl
abbrev Bf:FuncId:=137
theorem zA:aa.funcs[(137:Nat)]? =some Tryz.f137:=Tryz.func137
theorem zJ:bg aa 137=true:=by kernel_rfl
abbrev lJ:FuncId:=138
theorem yx:aa.funcs[(138:Nat)]? =some Tryz.f138:=Tryz.func138
theorem n6:bg aa 138=true:=by kernel_rfl
abbrev sJ:FuncId:=139
theorem rW:aa.funcs[(139:Nat)]? =some Tryz.f139:=Tryz.func139
theorem sg:bg aa 139=true:=by kernel_rfl
abbrev px:FuncId:=140
abbrev mS:FuncId:=142
theorem mw:aa.funcs[(142:Nat)]? =some Tryz.f142:=Tryz.func142
theorem iQ:bg aa 142=true:=by kernel_rfl
abbrev tS:FuncId:=143
theorem yA:aa.funcs[(143:Nat)]? =some Tryz.f143:=Tryz.func143
theorem yL:bg aa 143=true:=by kernel_rfl
abbrev ua:FuncId:=144
abbrev Cd:FuncId:=146
theorem Bm:aa.funcs[(146:Nat)]? =some Tryz.f146:=Tryz.func146
theorem BI:bg aa 146=true:=by kernel_rfl
abbrev rQ:FuncId:=147
theorem qU:aa.funcs[(147:Nat)]? =some Tryz.f147:=Tryz.func147
theorem qY:bg aa 147=true:=by kernel_rfl
abbrev zx:FuncId:=148
theorem yC:aa.funcs[(148:Nat)]? =some Tryz.f148:=Tryz.func148
theorem yM:bg aa 148=true:=by kernel_rfl
abbrev tR:FuncId:=149
theorem yw:aa.funcs[(149:Nat)]? =some Tryz.f149:=Tryz.func149
theorem yJ:bg aa 149=true:=by kernel_rfl
abbrev mR:FuncId:=150
theorem mu:aa.funcs[(150:Nat)]? =some Tryz.f150:=Tryz.func150
theorem mB:bg aa 150=true:=by kernel_rfl
abbrev xk:FuncId:=151
theorem wA:aa.funcs[(151:Nat)]? =some Tryz.f151:=Tryz.func151
theorem wI:bg aa 151=true:=by kernel_rfl
abbrev oF:FuncId:=153
theorem nO:aa.funcs[(153:Nat)]? =some Tryz.f153:=Tryz.func153
theorem nW:bg aa 153=true:=by kernel_rfl
abbrev qu:FuncId:=155
theorem p7:aa.funcs[(155:Nat)]? =some Tryz.f155:=Tryz.func155
theorem qc:bg aa 155=true:=by kernel_rfl
abbrev mr:FuncId:=158
theorem lQ:aa.funcs[(158:Nat)]? =some Tryz.f158:=Tryz.func158
theorem lU:bg aa 158=true:=by kernel_rfl
end
structure cr where
 epoch:Int
 pid:Int
 ver:Int
 seq:Int
 kind:Int
 txn:Bool
 text:ByteArray
 deriving DecidableEq
def cr.c (e:cr):List Value:=[.int .i64 e.epoch,.int .i64 e.pid,.int .i64 e.ver,.int .i64 e.seq,.int .i64 e.kind,.bool e.txn,.string e.text]
abbrev cr.v (e:cr):Value:=.agg e.c.toArray
def hJ:fA cr:=⟨cr.c,7,fun _=>rfl,by decide,fun a u hu=>by
 simp only[cr.c,av,bd,or_false]at hu
 rcases hu with h|h|h|h|h|h|h<;>subst h<;>rfl⟩
def bS:fA Int:=⟨fun n=>[.int .i64 n],1,fun _=>rfl,by decide,fun a u hu=>by
 simp only[av,bd,or_false]at hu
 subst hu;rfl⟩
def dP:fA UInt8:=⟨fun n=>[.int .u8 n.toNat],1,fun _=>rfl,by decide,fun a u hu=>by
 simp only[av,bd,or_false]at hu
 subst hu;rfl⟩
def mq:fA ByteArray:=⟨fun s=>[.string s],1,fun _=>rfl,by decide,fun a u hu=>by
 simp only[av,bd,or_false]at hu
 subst hu;rfl⟩
def C3:Nat->Nat->List UInt8->Nat
 |_,n,[]=>n
 |i,n,c::l=>C3 (i+1) ((n+(i+1)*c.toNat)%65521) l
def mJ (l:List UInt8):Nat:=C3 0 0 l
theorem E8: ∀ (l:List UInt8) (i n:Nat),n<65521->C3 i n l<65521
 |[],_,_,h=>h
 |_::l,i,_,_=>E8 l (i+1) _ (kP _ (by decide))
theorem DW (l:List UInt8):mJ l<65521:=E8 l 0 0 (by decide)
theorem K9 (l:List UInt8) (A:Option Addr) (c:Nat) (w:World) (hr:Rd dP 0 w.heap.size A l w) (hb:l.length<=1000000000000000):
  dt aa Hz [.slice A l.length c] w fun v w2=>v=J (mJ l:Nat)/\Below w.heap.size w w2:=by
 refine aG F4 Z Z ?_
 have H:=Hp.start w
 refine W ?_
 refine Zr ?_
 refine pF Z Z ?_
 refine U<|W ?_
 refine Zr ?_
 refine pF Z Z ?_
 refine U<|W<|W ?_
 refine Zr ?_
 refine mD Z Z ?_
 refine vt fb Z Z ?_
 refine iN Z Z ?_
 refine U<|Zb ?_
 refine cf (τ:=Nat×Nat) [3,4,5,8,9,10,11,12,13,14,15,16,17,18,19,20,21] (fun x=>[(3,J x.1),(8,J x.2)]) (fun x w'=>x.1<65521/\x.2<=l.length/\Hp w w' [] []/\C3 x.2 x.1 (l.drop x.2)=mJ l) (fun x=>l.length-x.2) (0,0) ⟨by decide,by simp,H,rfl⟩ (mK Z Z) ?_
 rintro⟨m,k⟩ ρ1 w1 ⟨hm,hk,H,hs⟩
 show CW _ _ _ _ (dK (ia _ _ ρ1) [(3,J (m:Nat)),(8,J (k:Nat))]) w1
 refine W ?_
 refine Zr ?_
 refine Hq Z Z Z (fun h9=> ?_) (fun h9=> ?_)
 all_goals refine bP ?_
 all_goals refine cE ?_
 ·refine jc Z ?_
  refine Zk ?_
  have hkl:k<l.length:=by omega
  obtain⟨b,o,rfl,-,hbl,hcl⟩:=hr.at_ hkl
  have hd:l.drop k=l[k]::l.drop (k+1):=nf hkl
  have h256:l[k].toNat<256:=UInt8.toNat_lt _
  generalize hc:l[k]=x at*
  have hmul:(k+1)*x.toNat<=(k+1)*256:=Nat.mul_le_mul_left _ I
  have hmul2:((k:Int)+1)*(x.toNat:Int)=(((k+1)*x.toNat:Nat):Int):=by simp
  refine W<|Zb<|W ?_
  refine Zr ?_
  refine iN Z Z ?_
  refine Qh eF Z Z I I Z ?_
  refine ld mO Z ((H.below.cell (p:=⟨b,_,none⟩) hbl).trans (hcl 0 _ Z)) Z ?_
  refine pF Z Z ?_
  refine pF Z Z ?_
  refine U ?_
  refine Zr ?_
  refine iN Z Z ?_
  refine iN Z Z ?_
  refine add Z Z I I Z ?_
  refine iN Z Z ?_
  refine OH iI i8 Z (vB I) Z ?_
  refine mul Z Z I I Z ?_
  refine add Z Z I I Z ?_
  refine rem Z Z I I Z ?_
  refine pF Z Z ?_
  refine U ?_
  refine Zr ?_
  refine add Z Z I I Z ?_
  refine iN Z Z ?_
  refine U ?_
  refine⟨((m+(k+1)*x.toNat)%65521,k+1),⟨kP _ (by decide),by omega,H,?_⟩,?_,by repeat (first|exact io|refine gZ Z ?_|refine fJ _ Z ?_),by show l.length- (k+1)<l.length-k;omega⟩
  ·rw[<-hs,hd,C3]
  ·intro p hp
   simp only[av,bd,or_false]at hp
   rcases hp with rfl|rfl
   ·show Value.int .i64 _=Value.int .i64 _
    congr 1
   ·rfl
 ·refine gQ Z ?_
  refine Zx ?_
  have hkl:k=l.length:=by omega
  subst hkl
  simp only[fC,C3]at hs
  subst hs
  refine W ?_
  refine Zr ?_
  refine iN Z Z ?_
  refine pF Z Z ?_
  refine U<|Zt ?_
  exact cn Z Z ⟨rfl,H.below⟩
/-- a number in as few bytes as may be -/
def zt (n:Nat):List UInt8:=if h:n<=127 then [UInt8.ofNat n]else UInt8.ofNat (n%128+128)::zt (n/128)
termination_by n
decreasing_by omega
theorem vc {n:Nat} (h:n<=127):zt n=[UInt8.ofNat n]:=by rw[zt,dif_pos h]
theorem Ea {n:Nat} (h:127<n):zt n=UInt8.ofNat (n%128+128)::zt (n/128):=by rw[zt,dif_neg I]
theorem Ng (n:Nat):n&&&127=n%128:=Nat.and_two_pow_sub_one_eq_mod n 7
theorem Qr (n:Nat) (h:n<128):n|||128=n+128:=by
 have:=sY (i:=7) (b:=n) (by simpa using h) 1
 rw[Nat.or_comm];simp at this;omega
theorem Qc (n:Nat) (h:n<256):((UInt8.ofNat n).toNat:Int)=n:=by
 simp[hZ h]
theorem ID: ∀ (k n:Nat),n<128 ^ k->(zt n).length<=max k 1
 |0,n,h=>by
  have:n=0:=by simpa using h
  subst this;rw[vc I];simp
 |k+1,n,h=>by
  by_cases hn:n<=127
  rw[vc hn];simp
  have:=ID k (n/128) (by rw[Nat.pow_succ]at h;exact zm I)
  rw[Ea I]
  simp only[bf]
  have hk:k≠0:=by
   rintro rfl
   simp at h;omega
  omega
theorem JR {w0 w:World} {F:List ce} {K M L:List (Nat×Obj)} {es:List UInt8} {A:Option Addr} {c:Nat} (n:Nat) (H:Hp w0 w (K++L++M) F) (ho:gG dP (.slice A es.length c) nb es L) (hn:n<4611686018427387904) (hb:es.length+n<140737488355328):
  dt aa Cd [.slice A es.length c,J n] w fun v w2=> ∃ A' c' L',v=.slice A' (es++zt n).length c'/\gG dP (.slice A' (es++zt n).length c') nb (es++zt n) L'/\Hp w0 w2 (K++L'++M) F:=by
 refine aG Bm Z Z ?_
 refine W ?_
 refine Zr ?_
 refine vz Z Z ?_
 refine U<|W<|Zb ?_
 refine cf (τ:=Option Addr×Nat×List UInt8×Nat) [0,1,5,6,7,8,9,10,11,12,13,15,14] (fun(A,c,l,m)=>[(0,.slice A l.length c),(1,J m)])
  (fun(A,c,l,m) w'=>m<4611686018427387904/\l.length+m<140737488355328/\l++zt m=es++zt n/\ ∃ L',gG dP (.slice A l.length c) nb l L'/\Hp w0 w' (K++L'++M) F) (fun(_,_,_,m)=>m) (A,c,es,n) ⟨hn,hb,rfl,L,ho,H⟩ (mK Z Z) ?_
 rintro⟨A1,c1,l,m⟩ ρ1 w1 ⟨hm,hb1,hl,L1,ho1,H1⟩
 show CW _ _ _ _ (dK (ia _ _ ρ1) [(0,.slice A1 l.length c1),(1,J (m:Nat))]) w1
 refine W<|W ?_
 refine Zr ?_
 refine iN Z Z ?_
 refine J9 Z Z Z (fun h6=> ?_) (fun h6=> ?_)
 all_goals refine bP ?_
 ·refine jc Z ?_
  refine Zk ?_
  have hmod:m%128<128:=kP _ (by decide)
  refine Zb<|W ?_
  refine Zr ?_
  refine mD Z Z ?_
  refine iN Z Z ?_
  refine G (O9 (b:=127) Z Z I I) ?_
  rw[Ng]
  refine G (NZ (b:=128) Z Z I I) ?_
  rw[Qr _ hmod]
  refine OH i8 iI Z (CQ I) Z ?_
  refine uO (vs:=[.int .u8 _]) H1 eF z5 Z Z Z Z Z Z ?_;intro w2 b12 H2
  refine wN (Y:=dP) o0 (K:=(b12,_)::K) (L:=L1) (M:=M) H2 ho1 (news:=[UInt8.ofNat (m%128+128)]) Z Z Z ?_ ?_ Z ?_
  ·have:=zk.row (m:=1) (sz:=1) (H2.ent (i:=0) Z) Z
   have e:dP.all [UInt8.ofNat (m%128+128)]=[.int .u8 ((m%128+128:Nat):Int)]:=by
    show [Value.int .u8 _]=_
    rw[Qc _ I]
   rw[e]
   exact this
  ·simp only[cH];omega
  intro A3 c3 w3 L3 _ _ ho3 H3
  refine vz Z Z ?_
  refine U ?_
  refine Zr ?_
  refine iN Z Z ?_
  refine G (OX (b:=7) Z Z I) ?_
  refine pF Z Z ?_
  refine U ?_
  refine⟨(A3,c3,l++[UInt8.ofNat (m%128+128)],m/2 ^ 7),⟨by omega,by simp;omega,?_,L3,ho3,H3.forget (by simp) (fun _ h=>h)⟩,mK Z Z,by repeat (first|exact io|refine gZ Z ?_|refine fJ _ Z ?_),by show m/2 ^ 7<m;omega⟩
  rw[<-hl,Ea (n:=m) I];simp
 ·refine gQ Z ?_
  refine Zx<|W ?_
  refine Zr ?_
  refine mD Z Z ?_
  refine iN Z Z ?_
  refine OH i8 iI Z (CQ I) Z ?_
  refine uO (vs:=[.int .u8 _]) H1 eF z5 Z Z Z Z Z Z ?_;intro w2 b19 H2
  refine wN (Y:=dP) o0 (K:=(b19,_)::K) (L:=L1) (M:=M) H2 ho1 (news:=[UInt8.ofNat m]) Z Z Z ?_ ?_ Z ?_
  ·have:=zk.row (m:=1) (sz:=1) (H2.ent (i:=0) Z) Z
   have e:dP.all [UInt8.ofNat m]=[.int .u8 (m:Int)]:=by
    show [Value.int .u8 _]=_
    rw[Qc _ I]
   rw[e]
   exact this
  ·simp only[cH];omega
  intro A3 c3 w3 L3 _ _ ho3 H3
  refine vz Z Z ?_
  refine U<|Zt ?_
  rw[vc I]at hl
  rw[hl]at ho3
  refine cn Z (v:=.slice A3 (es++zt n).length c3) (by rw[<-hl];rfl) ⟨A3,c3,L3,rfl,ho3,H3.forget (by simp) (fun _ h=>h)⟩
def iP (n:Int):Bool:=decide (0<=n)&&decide (n<=1073741824)
theorem vh {n:Int} (h:iP n=true):0<=n/\n<=1073741824:=by simpa [iP]using h
theorem Ou {n:Int} (h: ¬ iP n=true):n<0∨1073741824<n:=by
 simp[iP]at h;omega
def cr.nums (e:cr):List Int:=[e.epoch,e.pid,e.ver,e.seq]
def cr.noForm (e:cr):Prop:=(e.kind≠1/\(e.pid=0∨e.txn=false∨e.seq≠0∨e.text≠⟨#[]⟩))∨(e.pid=0/\(e.txn=true∨0<e.ver+e.seq))
instance (e:cr):Decidable e.noForm:=by unfold cr.noForm;infer_instance
def eI (e:cr):Int:=
 if e.kind<1∨3<e.kind then 3
 else if¬ e.nums.all iP=true then 2
 else if 40<e.text.size then 1
 else if e.noForm then 4 else 0
theorem xZ (e:cr) (w:World):dt aa Ei [e.v] w fun v w2=>v=J (eI e)/\Below w.heap.size w w2:=by
 refine aG Cl Z Z ?_
 have H:=Hp.start w
 refine W ?_
 refine Zr ?_
 refine gY H Z Z ?_;intro w1 b1 H
 refine pF Z Z ?_
 refine U<|W<|W ?_
 refine Zr ?_
 refine sX fi Z Z ?_
 refine wv H 0 am Z Z Z Z ?_
 refine Hq Z Z Z (fun h7=> ?_) (fun h7=> ?_)
 ·have hE:eI e=3:=by unfold eI;rw[if_pos (.inl h7)]
  refine AD Z Z ?_
  iterate 3 refine sH Z Z Z ?_
  refine xa Z Z Z ?_
  refine U<|ZT Z<|W ?_
  refine Zr ?_
  refine pF Z Z ?_
  refine U<|Zt ?_
  exact cn (v:=J 3) Z Z ⟨by rw[hE],H.below⟩
 refine AD Z Z ?_
 refine ZG ?_
 refine sX fi Z Z ?_
 refine ZG ?_
 refine wv H 0 am Z Z Z Z ?_
 refine ZG ?_
 refine J9 Z Z Z (fun h11=> ?_) (fun h11=> ?_)
 ·have hE:eI e=3:=by unfold eI;rw[if_pos (.inr h11)]
  refine td Z Z Z ?_
  refine U<|ZT Z<|W ?_
  refine Zr ?_
  refine pF Z Z ?_
  refine U<|Zt ?_
  exact cn (v:=J 3) Z Z ⟨by rw[hE],H.below⟩
 refine td Z Z Z ?_
 refine U<|ZF Z<|Zk ?_
 have hk0: ¬ (e.kind<1∨3<e.kind):=by omega
 refine W<|W ?_
 refine Zr ?_
 refine sX nV Z Z ?_
 refine wv H 0 am Z Z Z Z ?_
 refine sX fx Z Z ?_
 refine wv H 0 am Z Z Z Z ?_
 refine sX eP Z Z ?_
 refine wv H 0 am Z Z Z Z ?_
 refine sX fj Z Z ?_
 refine wv H 0 am Z Z Z Z ?_
 refine uO (vs:=[J _,J _,J _,J _]) H bj CP Z Z Z Z Z Z ?_;intro w2 b21 H
 refine vt eT Z Z ?_
 refine iN Z Z ?_
 refine U<|Zb ?_
 have hns: ∀ k,k<4->(tT [J e.epoch,J e.pid,J e.ver,J e.seq]).toArray[0+k*1]? =some (J (e.nums.getD k 0)):=by
  intro k hk
  have:k=0∨k=1∨k=2∨k=3:=by omega
  rcases this with rfl|rfl|rfl|rfl<;>rfl
 have hmem: ∀ k,k<4->e.nums.getD k 0∈e.nums:=by
  intro k hk
  have:k=0∨k=1∨k=2∨k=3:=by omega
  rcases this with rfl|rfl|rfl|rfl<;>simp[cr.nums]
 refine cf (τ:=Nat) [4,23,24,25,26,27,28,29,30,31,32,33,2] (fun k=>[(23,J k)]) (fun k w'=>k<=4/\(∀ j,j<k->(e.nums.getD j 0|>iP)=true)/\Hp w w' [(b21,_),(b1,_)] []) (fun k=>4-k) 0 ⟨by omega,by simp,H⟩ (dR Z) ?_
 rintro k ρ1 w1 ⟨hk4,hgood,H⟩
 refine W ?_
 refine Zr ?_
 refine Hq Z Z Z (fun h24=> ?_) (fun h24=> ?_)
 all_goals refine bP ?_
 all_goals refine cE ?_
 ·refine jc Z ?_
  refine Zk ?_
  have hk:k<4:=by omega
  have hns:=hns k hk
  have hm:=hmem k hk
  generalize hx:e.nums.getD k 0=x at hns hm
  refine W<|Zb<|W ?_
  refine Zr ?_
  refine Qh bj Z Z I I Z ?_
  refine wv H 0 am Z Z hns Z ?_
  refine pF Z Z ?_
  refine U<|W ?_
  refine Zr ?_
  refine iN Z Z ?_
  by_cases hin:iP x=true
  ·obtain⟨h0,h1⟩:=vh hin
   refine PI Z Z I Z ?_
   refine AD Z Z ?_
   refine ZG ?_
   refine iN Z Z ?_
   refine ZG ?_
   refine PP Z Z I Z ?_
   refine td Z Z Z ?_
   refine U<|ZF Z<|Zk ?_
   refine Zr ?_
   refine add Z Z I I Z ?_
   refine iN Z Z ?_
   refine U ?_
   refine⟨k+1,⟨by omega,fun j hj=> ?_,H⟩,dR Z,by repeat (first|exact io|refine gZ Z ?_|refine fJ _ Z ?_),by show 4- (k+1)<4-k;omega⟩
   by_cases hjk:j=k
   ·subst hjk;rw[hx];exact hin
   ·exact hgood j I
  ·have hE:eI e=2:=by
    unfold eI
    rw[if_neg hk0,if_pos]
    intro ha
    exact hin (ej.1 ha x hm)
   have hbad:=Ou hin
   by_cases h0:x<0
   ·refine Qu Z Z h0 Z ?_
    refine AD Z Z ?_
    iterate 2 refine sH Z Z Z ?_
    refine xa Z Z Z ?_
    refine U<|ZT Z<|W ?_
    refine Zr ?_
    refine pF Z Z ?_
    refine U<|Zt ?_
    exact cn (v:=J 2) Z Z ⟨by rw[hE],H.below⟩
   ·refine PI Z Z h0 Z ?_
    refine AD Z Z ?_
    refine ZG ?_
    refine iN Z Z ?_
    refine ZG ?_
    refine PO Z Z I Z ?_
    refine td Z Z Z ?_
    refine U<|ZT Z<|W ?_
    refine Zr ?_
    refine pF Z Z ?_
    refine U<|Zt ?_
    exact cn (v:=J 2) Z Z ⟨by rw[hE],H.below⟩
 ·refine gQ Z ?_
  refine Zx ?_
  have hk:k=4:=by omega
  subst hk
  have hall:e.nums.all iP=true:=by
   have g0:=hgood 0 I
   have g1:=hgood 1 I
   have g2:=hgood 2 I
   have g3:=hgood 3 I
   simp only[cr.nums,List.getD_cons_zero,List.getD_cons_succ]at g0 g1 g2 g3
   simp[cr.nums,g0,g1,g2,g3]
  have hv:=vh (ej.1 hall e.ver (by simp[cr.nums]))
  have hs:=vh (ej.1 hall e.seq (by simp[cr.nums]))
  refine W<|W ?_
  refine Zr ?_
  refine sX qD Z Z ?_
  refine wv H 1 ba Z Z Z Z ?_
  refine Q2 kg Z Z ?_
  refine J9 Z Z Z (fun h37=> ?_) (fun h37=> ?_)
  all_goals refine bP ?_
  ·refine jc Z ?_
   refine W ?_
   refine Zr ?_
   refine pF Z Z ?_
   refine U<|Zt ?_
   have hE:eI e=1:=by
    unfold eI
    rw[if_neg hk0,if_neg (by simpa using hall),if_pos I]
   exact cn (v:=J 1) Z Z ⟨by rw[hE],H.below⟩
  refine ZF Z<|Zk ?_
  have hE:eI e=if e.noForm then 4 else 0:=by
   unfold eI
   rw[if_neg hk0,if_neg (by simpa using hall),if_neg I]
  refine W<|W ?_
  refine Zr ?_
  by_cases hx:e.text=⟨#[]⟩
  all_goals cases ht:e.txn
  all_goals (have h5:e.c.toArray[0+5]? =some (.bool e.txn):=rfl;rw[ht]at h5)
  all_goals (refine sX fi Z Z ?_)
  all_goals (refine wv H 1 am Z Z Z Z ?_)
  all_goals (refine Qs Z Z Z (fun _=> ?_) (fun _=> ?_))
  all_goals (refine AD Z Z ?_)
  all_goals first|refine sH Z Z Z ?_|(refine nJ Z ?_;(refine sX fx Z Z ?_))
  all_goals first|refine sH Z Z Z ?_|(refine nJ Z ?_;(refine wv H 1 am Z Z Z Z ?_))
  all_goals first|refine sH Z Z Z ?_|(refine nJ Z ?_;(refine MS Z Z Z (fun _=> ?_) (fun _=> ?_)))
  all_goals first|refine sH Z Z Z ?_|(refine nJ Z ?_;(refine AD Z Z ?_))
  all_goals first|refine sH Z Z Z ?_|(refine nJ Z ?_;(refine sX jh Z Z ?_))
  all_goals first|refine sH Z Z Z ?_|(refine nJ Z ?_;(refine wv H 1 eS Z Z h5 Z ?_))
  all_goals first|refine sH Z Z Z ?_|(refine nJ Z ?_;(refine not Z Z ?_))
  all_goals first|refine sH Z Z Z ?_|(refine nJ Z ?_;(first|refine xa Z Z Z ?_|refine td Z Z Z ?_))
  all_goals first|refine sH Z Z Z ?_|(refine nJ Z ?_;(refine AD Z Z ?_))
  all_goals first|refine sH Z Z Z ?_|(refine nJ Z ?_;(refine sX fj Z Z ?_))
  all_goals first|refine sH Z Z Z ?_|(refine nJ Z ?_;(refine wv H 1 am Z Z Z Z ?_))
  all_goals first|refine sH Z Z Z ?_|(refine nJ Z ?_;(refine Qs Z Z Z (fun _=> ?_) (fun _=> ?_)))
  all_goals first|refine sH Z Z Z ?_|(refine nJ Z ?_;(first|refine xa Z Z Z ?_|refine td Z Z Z ?_))
  all_goals first|refine sH Z Z Z ?_|(refine nJ Z ?_;(refine AD Z Z ?_))
  all_goals first|refine sH Z Z Z ?_|(refine nJ Z ?_;(refine sX qD Z Z ?_))
  all_goals first|refine sH Z Z Z ?_|(refine nJ Z ?_;(refine wv H 1 ba Z Z Z Z ?_))
  all_goals first|refine sH Z Z Z ?_|(refine nJ Z ?_;(first|refine l1 (ND Z Z hx) Z Z Z ?_|refine l1 (Iq Z Z hx) Z Z Z ?_))
  all_goals first|refine sH Z Z Z ?_|(refine nJ Z ?_;(first|refine xa Z Z Z ?_|refine td Z Z Z ?_))
  all_goals (first|refine xa Z Z Z ?_|refine td Z Z Z ?_)
  all_goals (refine AD Z Z ?_)
  all_goals first|refine sH Z Z Z ?_|(refine nJ Z ?_;(refine sX fx Z Z ?_))
  all_goals first|refine sH Z Z Z ?_|(refine nJ Z ?_;(refine wv H 1 am Z Z Z Z ?_))
  all_goals first|refine sH Z Z Z ?_|(refine nJ Z ?_;(refine MS Z Z Z (fun _=> ?_) (fun _=> ?_)))
  all_goals first|refine sH Z Z Z ?_|(refine nJ Z ?_;(refine AD Z Z ?_))
  all_goals first|refine sH Z Z Z ?_|(refine nJ Z ?_;(refine sX jh Z Z ?_))
  all_goals first|refine sH Z Z Z ?_|(refine nJ Z ?_;(refine wv H 1 eS Z Z h5 Z ?_))
  all_goals first|refine sH Z Z Z ?_|(refine nJ Z ?_;(refine AD Z Z ?_))
  all_goals first|refine sH Z Z Z ?_|(refine nJ Z ?_;(refine sX eP Z Z ?_))
  all_goals first|refine sH Z Z Z ?_|(refine nJ Z ?_;(refine wv H 1 am Z Z Z Z ?_))
  all_goals first|refine sH Z Z Z ?_|(refine nJ Z ?_;(refine sX fj Z Z ?_))
  all_goals first|refine sH Z Z Z ?_|(refine nJ Z ?_;(refine wv H 1 am Z Z Z Z ?_))
  all_goals first|refine sH Z Z Z ?_|(refine nJ Z ?_;(refine add Z Z I I Z ?_))
  all_goals first|refine sH Z Z Z ?_|(refine nJ Z ?_;(refine J9 Z Z Z (fun _=> ?_) (fun _=> ?_)))
  all_goals first|refine sH Z Z Z ?_|(refine nJ Z ?_;(first|refine xa Z Z Z ?_|refine td Z Z Z ?_))
  all_goals first|refine sH Z Z Z ?_|(refine nJ Z ?_;(first|refine xa Z Z Z ?_|refine td Z Z Z ?_))
  all_goals (first|refine xa Z Z Z ?_|refine td Z Z Z ?_)
  all_goals refine bP ?_
  all_goals first
   |(
     refine jc Z ?_
     refine W ?_
     refine Zr ?_
     refine pF Z Z<|U<|Zt ?_
     exact cn (v:=J 4) Z Z ⟨by rw[hE,if_pos (by simp[cr.noForm, *])],H.below⟩)
   |(
     refine gQ Z ?_
     refine Zk<|W ?_
     refine Zr ?_
     refine pF Z Z<|U<|Zt ?_
     exact cn (v:=J 0) Z Z ⟨by rw[hE,if_neg (by simp[cr.noForm, *]<;>omega)],H.below⟩)
def oD (e:cr):UInt8:=UInt8.ofNat (e.kind.toNat+if e.txn then 16 else 0)
def oB (l:List Int):List UInt8:=l.flatMap fun n=>zt n.toNat
def eY (e:cr):List UInt8:=oD e::oB e.nums++e.text.data.toList
def mz (e:cr):List UInt8:=UInt8.ofNat (eY e).length::eY e++[UInt8.ofNat (mJ (eY e)/256),UInt8.ofNat (mJ (eY e)%256)]
theorem Pc (n:Nat):IntKind.u8.wrap (n:Int)=(n%256:Nat):=by
 simp[IntKind.wrap,IntKind.signed,IntKind.bits]
theorem QG (s:ByteArray):dP.all s.data.toList=Lib.strCells s:=by
 unfold fA.all Lib.strCells
 show List.flatMap (fun n:UInt8=>[Value.int .u8 n.toNat]) _=_
 induction s.data.toList with
 |nil=>rfl
 |cons a l ih=>simp only[gz,eU,ih];rfl
theorem rx {e:cr} (h:eI e=0):1<=e.kind/\e.kind<=3/\(∀ n∈e.nums,0<=n/\n<=1073741824)/\e.text.size<=40/\ ¬ e.noForm:=by
 unfold eI at h
 split at h;· omega
 split at h;· omega
 split at h;· omega
 split at h;· omega
 rename_i h1 h2 h3 h4
 refine⟨by omega,by omega,fun n hn=> ?_,by omega,h4⟩
 have:=ej.1 (Classical.not_not.1 h2) n hn
 exact vh this
theorem yn: ∀ (l:List Int),(∀ n∈l,0<=n/\n<=1073741824)->(oB l).length<=5*l.length
 |[],_=>by simp[oB]
 |n::l,h=>by
  have h1:=yn l fun m hm=>h m (ai _ hm)
  have h2:=h n (az ..)
  have h3:=ID 5 n.toNat I
  simp only[oB,gz,ay,bf]at*
  omega
theorem yN {e:cr} (h:eI e=0):(eY e).length<=61/\0<(eY e).length:=by
 obtain⟨_,_,h3,h4,_⟩:=rx h
 have:=yn _ h3
 have hs:e.text.data.toList.length=e.text.size:=by rw[bY];rfl
 simp only[eY,ay,bf,hs]
 have h4':e.nums.length=4:=rfl
 omega
theorem Dx (e:cr) (w:World) (h:eI e=0):dt aa Ce [e.v] w fun v w2=> ∃ A c,v=.tuple #[.slice A (mz e).length c,J 0]/\Rd dP w.heap.size w2.heap.size A (mz e) w2/\(mz e).length<=c/\Below w.heap.size w w2:=by
 obtain⟨hk1,hk3,hnn,htx,-⟩:=rx h
 obtain⟨hl61,hl0⟩:=yN h
 refine aG Bn Z Z ?_
 have H:=Hp.start w
 refine W ?_
 refine Zr ?_
 refine gY H Z Z ?_;intro w1 b1 H
 refine vz Z Z ?_
 refine pF Z Z ?_
 refine U<|W<|W ?_
 refine Zr ?_
 refine Rc H 0 dJ Z Z Z Z ?_
 refine cu sf (xZ e _) Z Z ?_;rintro _ w2 ⟨rfl,hb2⟩;replace H:=H.later hb2
 refine pF Z Z ?_
 refine U<|W ?_
 refine Zr ?_
 refine iN Z Z ?_
 refine G (cv Z Z h)<|U<|ZF Z<|Zk<|W ?_
 refine Zr ?_
 refine sX fi Z Z ?_
 refine wv H 0 am Z Z Z Z ?_
 refine pF Z Z ?_
 refine U<|W ?_
 obtain⟨k,hk⟩: ∃ k:Nat,e.kind=k:=⟨e.kind.toNat,by omega⟩
 have hkB:oD e=UInt8.ofNat (k+if e.txn then 16 else 0):=by unfold oD;rw[hk];rfl
 refine ft (τ:=Unit) [17,18,19,20,5] (fun _=>[(5,J (k+if e.txn then 16 else 0:Nat))]) (fun _ w'=>Hp w w' [(b1,.cells e.c.toArray dA)] []) ?_ ?_
 ·refine cE ?_
  refine Zr ?_
  refine sX jh Z Z ?_
  refine wv H 0 eS Z Z Z Z ?_
  refine U ?_
  refine kI (b:=e.txn) Z (fun ht=> ?_) (fun ht=> ?_)
  ·refine bK ?_
   refine iN Z Z ?_
   have h16:k|||16=k+16:=by
    have:k=1∨k=2∨k=3:=by omega
    rcases this with rfl|rfl|rfl<;>rfl
   rw[hk]
   refine G (NZ (a:=k) (b:=16) Z Z I I) ?_
   rw[h16]
   refine pF Z Z ?_
   refine U ?_
   refine⟨(),H,dR (by rw[ht];rfl),by repeat (first|exact yU.refl _ _|exact io|refine gZ Z ?_|refine fJ _ Z ?_)⟩
  ·refine og ?_
   rw[hk]
   refine⟨(),H,dR (by rw[ht];rfl),by repeat (first|exact yU.refl _ _|exact io|refine gZ Z ?_|refine fJ _ Z ?_)⟩
 rintro _ ρ1 w3 H
 show CW _ _ _ _ (dK (ia _ _ ρ1) [(5,J (k+if e.txn then 16 else 0:Nat))]) w3
 have hk19:(k+if e.txn then 16 else 0)<256:=by split<;>omega
 refine W ?_
 refine Zr ?_
 refine iN Z Z ?_
 refine OH i8 iI Z (CQ hk19) Z ?_
 refine uO (vs:=[.int .u8 _]) H eF z5 Z Z Z Z Z Z ?_;intro w4 b23 H
 refine vz Z Z ?_
 refine U ?_
 replace H:=H.swap
 have ho:gG dP (.slice (Qd b23) 1 1) nb [oD e] [(b23,.cells (tT [.int .u8 (k+if e.txn then 16 else 0:Nat)]).toArray nb)]:=by
  have e1:dP.all [oD e]=(tT [.int .u8 (k+if e.txn then 16 else 0:Nat)]).toArray.toList:=by
   show [Value.int .u8 _]=_
   rw[hkB,Qc _ hk19]
   rfl
  unfold gG
  rw[e1]
  exact sm.lit (n:=1) (by decide) Z
 refine W<|W ?_
 refine Zr ?_
 refine sX nV Z Z ?_
 refine wv H 0 am Z Z Z Z ?_
 refine sX fx Z Z ?_
 refine wv H 0 am Z Z Z Z ?_
 refine sX eP Z Z ?_
 refine wv H 0 am Z Z Z Z ?_
 refine sX fj Z Z ?_
 refine wv H 0 am Z Z Z Z ?_
 refine uO (vs:=[J _,J _,J _,J _]) H bj CP Z Z Z Z Z Z ?_;intro w5 b32 H
 refine vt eT Z Z ?_
 refine iN Z Z ?_
 refine U<|Zb ?_
 have hns: ∀ k,k<4->(tT [J e.epoch,J e.pid,J e.ver,J e.seq]).toArray[0+k*1]? =some (J (e.nums.getD k 0)):=by
  intro k hk
  have:k=0∨k=1∨k=2∨k=3:=by omega
  rcases this with rfl|rfl|rfl|rfl<;>rfl
 have hmem: ∀ k,k<4->e.nums.getD k 0∈e.nums:=by
  intro k hk
  have:k=0∨k=1∨k=2∨k=3:=by omega
  rcases this with rfl|rfl|rfl|rfl<;>simp[cr.nums]
 have hstep: ∀ k,k<4->e.nums.take (k+1)=e.nums.take k++[e.nums.getD k 0]:=by
  intro k hk
  have:k=0∨k=1∨k=2∨k=3:=by omega
  rcases this with rfl|rfl|rfl|rfl<;>rfl
 have hnlen: ∀ k,k<=4->(oB (e.nums.take k)).length<=20:=by
  intro k hk
  have:=yn (e.nums.take k) fun n hn=>hnn n (zo hn)
  have h2:(e.nums.take k).length<=4:=by simp[cr.nums];omega
  omega
 refine cf (τ:=Nat×Option Addr×Nat) [6,8,34,35,36,37,38,39,40,41] (fun(k,A,c)=>[(6,.slice A (oD e::oB (e.nums.take k)).length c),(34,J k)])
  (fun(k,A,c) w'=>k<=4/\ ∃ L',gG dP (.slice A (oD e::oB (e.nums.take k)).length c) nb (oD e::oB (e.nums.take k)) L'/\Hp w w' ([(b32,.cells (tT [J e.epoch,J e.pid,J e.ver,J e.seq]).toArray dg),(b1,.cells e.c.toArray dA)]++L'++[]) []) (fun(k,_,_)=>4-k) (0,_,1) ⟨by omega,_,ho,H⟩ (mK Z Z) ?_
 rintro⟨j,A1,c1⟩ ρ1 w1 ⟨hj4,L1,ho,H⟩
 show CW _ _ _ _ (dK (ia _ _ ρ1) [(6,.slice A1 (oD e::oB (e.nums.take j)).length c1),(34,J j)]) w1
 refine W ?_
 refine Zr ?_
 refine Hq Z Z Z (fun h35=> ?_) (fun h35=> ?_)
 all_goals refine bP ?_
 all_goals refine cE ?_
 ·refine jc Z ?_
  refine Zk ?_
  have hj:j<4:=by omega
  have hns:=hns j hj
  obtain⟨hm0,hm1⟩:=hnn _ (hmem j hj)
  have hstep:=hstep j hj
  have hnl:=hnlen j hj4
  generalize e.nums.getD j 0=x at*
  obtain⟨m,rfl⟩: ∃ m:Nat,x=m:=⟨x.toNat,by omega⟩
  refine W<|Zb<|W ?_
  refine Zr ?_
  refine Qh bj Z Z I I Z ?_
  refine wv H 0 am Z Z hns Z ?_
  refine pF Z Z ?_
  refine U ?_
  refine Zr ?_
  refine mD Z Z ?_
  refine iN Z Z ?_
  refine cu BI (JR m H ho I (by simp only[bf];omega)) Z Z ?_;rintro _ w5 ⟨A2,c2,L2,rfl,ho2,H2⟩
  refine vz Z Z ?_
  refine U ?_
  refine Zr ?_
  refine add Z Z I I Z ?_
  refine iN Z Z ?_
  refine U ?_
  have hnx:oD e::oB (e.nums.take (j+1))=oD e::oB (e.nums.take j)++zt m:=by
   rw[hstep];simp[oB]
  rw[<-hnx]at ho2
  refine⟨(j+1,A2,c2),⟨by omega,L2,ho2,H2⟩,mK (by rw[hnx];rfl) Z,by repeat (first|exact io|refine gZ Z ?_|refine fJ _ Z ?_),by show 4- (j+1)<4-j;omega⟩
 ·refine gQ Z ?_
  refine Zx ?_
  have hj:j=4:=by omega
  subst hj
  have h20:=hnlen 4 I
  have e4:e.nums.take 4=e.nums:=rfl
  rw[e4]at*
  have hne:oD e::oB e.nums≠[]:=by simp
  refine W ?_
  refine Zr ?_
  refine mD Z Z ?_
  refine sX qD Z Z ?_
  refine wv H 1 ba Z Z Z Z ?_
  refine RG (Y:=dP) o0 kg Z QG H ho hne Z Z (by simp only[bf];omega) Z ?_
  intro A2 c2 w2 L2 hc1 hc2 ho H
  refine vz Z Z ?_
  refine U ?_
  have eb:oD e::oB e.nums++e.text.data.toList=eY e:=rfl
  rw[eb]at*
  refine W ?_
  refine Zr ?_
  refine mD Z Z ?_
  refine cu zg (K9 (eY e) A2 c2 w2 ((ho.rd H).mono (bN _) (ao _)) I) Z Z ?_;rintro _ w6 ⟨rfl,hb6⟩;replace H:=H.later hb6
  refine pF Z Z ?_
  refine U ?_
  have hs:=DW (eY e)
  refine W ?_
  refine Zr ?_
  refine mD Z Z ?_
  refine vt fb Z Z ?_
  refine OH i8 iI Z (CQ (n:=(eY e).length) I) Z ?_
  refine uO (vs:=[.int .u8 _]) H eF z5 Z Z Z Z Z Z ?_;intro w7 b51 H7
  refine mD Z Z ?_
  have ho5:gG dP (.slice (Qd b51) 1 1) nb [UInt8.ofNat (eY e).length] [(b51,.cells (tT [.int .u8 ((eY e).length:Nat)]).toArray nb)]:=by
   have e1:dP.all [UInt8.ofNat (eY e).length]=(tT [.int .u8 ((eY e).length:Nat)]).toArray.toList:=by
    show [Value.int .u8 _]=_
    rw[Qc _ I]
    rfl
   unfold gG
   rw[e1]
   exact sm.lit (n:=1) (by decide) Z
  refine wN (Y:=dP) o0 (K:=[]) (M:=_) H7 ho5 (news:=eY e) Z Z Z (ho.rd (K:=(b51,_)::[_,_]) (M:=[]) H7).src (by simp only[bf,ei];omega) Z ?_
  intro A8 c8 w8 L8 _ _ ho8 H8
  refine iN Z Z ?_
  refine G (OX (b:=8) Z Z I) ?_
  refine OH i8 iI Z (CQ (n:=mJ (eY e)/2 ^ 8) I) Z ?_
  refine iN Z Z ?_
  refine OH i8 iI Z (Pc (mJ (eY e))) Z ?_
  refine uO (vs:=[.int .u8 _,.int .u8 _]) H8 eF z5 Z Z Z Z Z Z ?_;intro w9 b59 H9
  refine wN (Y:=dP) o0 (K:=[_]) (M:=_) H9 ho8 (news:=[UInt8.ofNat (mJ (eY e)/256),UInt8.ofNat (mJ (eY e)%256)]) Z Z Z ?_ (by simp only[ay,bf,ei];omega) Z ?_
  ·have:=zk.row (m:=2) (sz:=1) (H9.ent (i:=0) Z) Z
   have e1:dP.all [UInt8.ofNat (mJ (eY e)/256),UInt8.ofNat (mJ (eY e)%256)]=[.int .u8 (mJ (eY e)/256:Nat),.int .u8 (mJ (eY e)%256:Nat)]:=by
    show [Value.int .u8 _,Value.int .u8 _]=_
    rw[Qc _ I,Qc _ I]
   rw[e1]
   exact this
  intro A9 c9 w10 L9 hc9 _ ho9 H10
  refine vz Z Z ?_
  refine pF Z Z ?_
  refine U<|Zt ?_
  refine my Z Z Z ⟨A9,c9,rfl,?_,hc9,H10.below⟩
  exact ho9.rd H10
/-- the number that is next, from its i-th byte on -/
def rn:Nat->Nat->List UInt8->Nat×List UInt8×Bool
 |_,_,[]=>(0,[],true)
 |i,n,c::l=>if i=5 then(0,c::l,true)else if c.toNat<128 then(n+c.toNat%128*2 ^ (7*i),l,decide (c.toNat=0)&&decide (0<i))else rn (i+1) (n+c.toNat%128*2 ^ (7*i)) l
def Fo (l:List UInt8) (bad:Bool):Nat×List UInt8×Bool:=if bad then(0,l,true)else rn 0 0 l
theorem PD {n x i:Nat} (hn:n<2 ^ (7*i)):n|||x*2 ^ (7*i)=n+x*2 ^ (7*i):=by
 have:=sY hn x
 rw[Nat.or_comm,DH,<-this,DI]
theorem tc {w0 w:World} {F:List ce} {M:List (Nat×Obj)} {b:Nat} {l:List UInt8} {A:Option Addr} {c:Nat} {bad:Bool} (H:Hp w0 w ((b,.cells #[.slice A l.length c,.bool bad] uT)::M) F) (hr:Rd dP 0 w0.heap.size A l w0) (hc:l.length<=c):
  dt aa uy [.pointer (Qd b)] w fun v w2=>v=J ((Fo l bad).1:Nat)/\ ∃ A' c',Hp w0 w2 ((b,.cells #[.slice A' (Fo l bad).2.1.length c',.bool (Fo l bad).2.2] uT)::M) F/\Rd dP 0 w0.heap.size A' (Fo l bad).2.1 w0/\(Fo l bad).2.1.length<=c':=by
 refine aG uc Z Z ?_
 refine W ?_
 refine Zr ?_
 refine pF Z Z ?_
 refine U<|W ?_
 refine Zr ?_
 refine pF Z Z ?_
 refine U<|W ?_
 refine Zr ?_
 refine pF Z Z ?_
 refine U<|Zb ?_
 refine cf (τ:=Nat×Nat×List UInt8×Bool) [2,3,4,5,6,7,8,9,10,11,12,13,14,15,16,17,18,19,20,21,22,23,24,25,26,27,28,29,30,31,32,33,34,35,36,37,38,39,40,41,42,43,44,45,46,47,48,49,50,51,52,53,54,55,56,57,58,59,60]
  (fun(i,n,_,_)=>[(3,J (n:Nat)),(4,J (i:Nat))])
  (fun(i,n,l1,bad1) w'=>i<=5/\n<2 ^ (7*i)/\(if bad1 then(0,l1,true)else rn i n l1)=Fo l bad/\ ∃ A c,Hp w0 w' ((b,.cells #[.slice A l1.length c,.bool bad1] uT)::M) F/\Rd dP 0 w0.heap.size A l1 w0/\l1.length<=c) (fun(_,_,l1,_)=>l1.length) (0,0,l,bad) ⟨by omega,by decide,rfl,A,c,H,hr,hc⟩ (mK Z Z) ?_
 rintro⟨i,n,l1,bad1⟩ ρ1 w1 ⟨hi5,hn,hrn,A1,c1,H,hr,hc⟩
 show CW _ _ _ _ (dK (ia _ _ ρ1) [(3,J (n:Nat)),(4,J (i:Nat))]) w1
 refine W<|Zb<|W<|W ?_
 refine Zr ?_
 refine Hj Z Z ?_
 refine KL Z Z ?_
 refine sX kz Z Z ?_
 refine wv H 0 eS Z Z Z Z ?_
 refine AD Z Z ?_
 by_cases hstop:bad1=true∨l1=[]∨i=5
 ·have hres:Fo l bad=(0,l1,true):=by
   rw[<-hrn]
   rcases hstop with h|h|h
   ·rw[if_pos h]
   ·subst h;split<;>rfl
   ·subst h;split
    ·rfl
    ·cases l1<;>simp[rn]
  cases bad1
  ·refine nJ Z ?_
   refine Hj Z Z ?_
   refine ZG ?_
   refine KL Z Z ?_
   refine ZG ?_
   refine sX mg Z Z ?_
   refine ZG ?_
   refine wv H 0 eV Z Z Z Z ?_
   refine ZG ?_
   refine vt fb Z Z ?_
   refine ZG ?_
   by_cases hl:l1=[]
   ·refine MR Z Z (by rw[hl];rfl) Z ?_
    refine td Z Z Z ?_
    refine AD Z Z ?_
    iterate 2 refine sH Z Z Z ?_
    refine xa Z Z Z ?_
    refine U<|ZT Z<|W ?_
    refine Zr ?_
    refine Hj Z Z ?_
    refine KL Z Z ?_
    refine sX kz Z Z ?_
    refine Qn H 0 mL Z Z Z (by simp) fun w2 H2=>U<|W ?_
    refine Zr ?_
    refine pF Z Z ?_
    refine U<|Zt ?_
    rw[hres]
    exact cn (v:=J 0) Z Z ⟨rfl,A1,c1,H2,hr,hc⟩
   ·have hi:i=5:=by
     rcases hstop with h|h|h
     ·cases h
     ·exact absurd h hl
     ·exact h
    have hl0:l1.length≠0:=fun h=>hl (bO h)
    refine HO Z Z I Z ?_
    refine td Z Z Z ?_
    refine AD Z Z ?_
    refine ZG ?_
    refine iN Z Z ?_
    refine ZG<|MR Z Z I Z ?_
    refine td Z Z Z ?_
    refine U<|ZT Z<|W ?_
    refine Zr ?_
    refine Hj Z Z ?_
    refine KL Z Z ?_
    refine sX kz Z Z ?_
    refine Qn H 0 mL Z Z Z (by simp) fun w2 H2=>U<|W ?_
    refine Zr ?_
    refine pF Z Z ?_
    refine U<|Zt ?_
    rw[hres]
    exact cn (v:=J 0) Z Z ⟨rfl,A1,c1,H2,hr,hc⟩
  ·iterate 6 refine sH Z Z Z ?_
   refine xa Z Z Z ?_
   refine AD Z Z ?_
   iterate 2 refine sH Z Z Z ?_
   refine xa Z Z Z ?_
   refine U<|ZT Z<|W ?_
   refine Zr ?_
   refine Hj Z Z ?_
   refine KL Z Z ?_
   refine sX kz Z Z ?_
   refine Qn H 0 mL Z Z Z (by simp) fun w2 H2=>U<|W ?_
   refine Zr ?_
   refine pF Z Z ?_
   refine U<|Zt ?_
   rw[hres]
   exact cn (v:=J 0) Z Z ⟨rfl,A1,c1,H2,hr,hc⟩
 ·have hb1:bad1=false:=by
   cases bad1
   ·rfl
   ·exact absurd (.inl Z) hstop
  subst hb1
  have hi:i<5:=by
   have:i≠5:=fun h=>hstop (.inr (.inr h))
   omega
  obtain⟨x,l2,rfl⟩: ∃ x l2,l1=x::l2:=by
   cases l1 with
   |nil=>exact absurd (.inr (.inl Z)) hstop
   |cons x l2=>exact⟨x,l2,rfl⟩
  have hx:x.toNat<256:=UInt8.toNat_lt _
  obtain⟨bb,o,rfl,-,hbl,hcl⟩:=hr.at_ (k:=0) (by simp)
  rw[if_neg (by decide),rn,if_neg I]at hrn
  have h7:2 ^ (7*i)<=2 ^ 28:=Nat.pow_le_pow_right (by decide) I
  have hmod:x.toNat%128<128:=kP _ (by decide)
  have hmul:x.toNat%128*2 ^ (7*i)<=128*2 ^ 28:=Nat.mul_le_mul I h7
  have h71:2 ^ (7*(i+1))=128*2 ^ (7*i):=by rw[Nat.mul_add,Nat.pow_add];omega
  have hmul2:x.toNat%128*2 ^ (7*i)<=127*2 ^ (7*i):=dq _ I
  refine ZG ?_
  refine Hj Z Z ?_
  refine ZG ?_
  refine KL Z Z ?_
  refine ZG ?_
  refine sX mg Z Z ?_
  refine ZG ?_
  refine wv H 0 eV Z Z Z Z ?_
  refine ZG ?_
  refine vt fb Z Z ?_
  refine ZG<|HO Z Z (by simp;omega) Z ?_
  refine td Z Z Z ?_
  refine AD Z Z ?_
  refine ZG ?_
  refine iN Z Z ?_
  refine ZG<|HO Z Z I Z ?_
  refine td Z Z Z ?_
  refine U<|ZF Z<|Zk<|W ?_
  refine Zr ?_
  refine Hj Z Z ?_
  refine KL Z Z ?_
  refine sX mg Z Z ?_
  refine wv H 0 eV Z Z Z Z ?_
  refine Qh eF Z Z I (by simp) Z ?_
  refine ld mO Z ((H.below.cell (p:=⟨bb,_,none⟩) hbl).trans (hcl 0 _ Z)) Z ?_
  refine OH iI i8 Z (vB (n:=x.toNat) I) Z ?_
  refine pF Z Z ?_
  refine U<|W ?_
  refine Zr ?_
  refine Hj Z Z ?_
  refine Hj Z Z ?_
  refine KL Z Z ?_
  refine sX mg Z Z ?_
  refine wv H 0 eV Z Z Z Z ?_
  refine tP eF Z Z I (by simp;omega) hc Z ?_;intro A39 hA39
  refine KL Z Z ?_
  refine sX mg Z Z ?_
  refine Ro H 0 Da Z Z Z (by simp) fun w2 H2=> ?_
  have hr2:Rd dP 0 w0.heap.size A39 l2 w0:=hr.from_ (k:=1) hA39 (fun h=>h)
  have H:Hp w0 w2 ((b,.cells #[.slice A39 l2.length (c1-1),.bool false] uT)::M) F:=H2
  have hc2:l2.length<=c1-1:=by simp only[bf]at hc;omega
  refine U<|W ?_
  refine Zr ?_
  refine iN Z Z ?_
  refine iN Z Z ?_
  refine G (O9 (a:=x.toNat) (b:=127) Z Z I I) ?_
  rw[Ng]
  refine iN Z Z ?_
  refine mul Z Z I I Z ?_
  refine G (OY (a:=x.toNat%128) (b:=7*i) (k:=.i64) Z (by simp;rfl) I I)<|G (NZ (a:=n) (b:=x.toNat%128*2 ^ (7*i)) Z Z I I) ?_
  rw[PD hn]
  refine pF Z Z ?_
  refine U<|W ?_
  refine Zr ?_
  refine iN Z Z ?_
  refine Hq Z Z Z (fun h50=> ?_) (fun h50=> ?_)
  all_goals refine bP ?_
  ·rw[if_pos I]at hrn
   refine ZT Z<|W ?_
   refine Zr ?_
   refine Hj Z Z ?_
   refine iN Z Z ?_
   by_cases hx0:x.toNat=0
   ·refine MR Z Z I Z ?_
    refine AD Z Z ?_
    refine ZG ?_
    refine iN Z Z ?_
    refine ZG<|G (lf (a:=(i:Int)) (b:=0) Z Z) ?_
    refine xa Z Z Z ?_
    refine KL Z Z ?_
    refine sX kz Z Z ?_
    refine Qn H 0 mL Z Z Z (by simp) fun w3 H3=>U<|W ?_
    refine Zr ?_
    refine iN Z Z ?_
    refine pF Z Z ?_
    refine U<|Zt ?_
    rw[<-hrn]
    have e:(decide (x.toNat=0)&&decide (0<i))=decide ((0:Int)<i):=by
     rw[decide_eq_true hx0,ig];exact decide_eq_decide.2 I
    rw[e]
    exact cn (v:=J (n+x.toNat%128*2 ^ (7*i):Nat)) Z Z ⟨rfl,A39,c1-1,H3,hr2,hc2⟩
   ·refine HO Z Z I Z ?_
    refine AD Z Z ?_
    iterate 2 refine sH Z Z Z ?_
    refine td Z Z Z ?_
    refine KL Z Z ?_
    refine sX kz Z Z ?_
    refine Qn H 0 mL Z Z Z (by simp) fun w3 H3=>U<|W ?_
    refine Zr ?_
    refine iN Z Z ?_
    refine pF Z Z ?_
    refine U<|Zt ?_
    rw[<-hrn]
    have e:(decide (x.toNat=0)&&decide (0<i))=false:=by rw[decide_eq_false hx0];rfl
    rw[e]
    exact cn (v:=J (n+x.toNat%128*2 ^ (7*i):Nat)) Z Z ⟨rfl,A39,c1-1,H3,hr2,hc2⟩
  ·rw[if_neg I]at hrn
   refine ZF Z<|Zk ?_
   refine Zr ?_
   refine iN Z Z ?_
   refine add Z Z I I Z ?_
   refine pF Z Z ?_
   refine U ?_
   refine⟨(i+1,n+x.toNat%128*2 ^ (7*i),l2,false),⟨by omega,by rw[h71];omega,by rw[<-hrn];rfl,A39,c1-1,H,hr2,hc2⟩,mK Z Z,by repeat (first|exact io|refine gZ Z ?_|refine fJ _ Z ?_),by show l2.length<l2.length+1;omega⟩
/-- an entry out of a body -/
def tW (c:UInt8) (l:List UInt8):cr×Bool:=
 let q1:=Fo l false
 let q2:=Fo q1.2.1 q1.2.2
 let q3:=Fo q2.2.1 q2.2.2
 let q4:=Fo q3.2.1 q3.2.2
 (⟨(q1.1:Nat),(q2.1:Nat),(q3.1:Nat),(q4.1:Nat),(c.toNat&&&15:Nat),!decide (((c.toNat&&&16:Nat):Int)=0),⟨q4.2.1.toArray⟩⟩,q4.2.2)
def uQ (c:UInt8) (l:List UInt8):Bool:=!(tW c l).2&&decide (c.toNat<32)&&decide (eI (tW c l).1=0)
theorem OM (c0:UInt8) (l:List UInt8) (A:Option Addr) (c:Nat) (w:World) (hr:Rd dP 0 w.heap.size A (c0::l) w) (hc:(c0::l).length<=c):
  dt aa FO [.slice A (c0::l).length c] w fun v w2=>v=.tuple #[(tW c0 l).1.v,.bool (uQ c0 l)]/\Below w.heap.size w w2:=by
 obtain⟨bb,o,rfl,-,hbl,hcl⟩:=hr.at_ (k:=0) (by simp)
 have hc0:c0.toNat<256:=UInt8.toNat_lt _
 refine aG Ey Z Z ?_
 have H:=Hp.start w
 refine W ?_
 refine Zr ?_
 refine fc H gB Z ?_;intro w1 b2 H
 refine QI Z Z ?_
 refine U<|W ?_
 refine Zr ?_
 refine mD Z Z ?_
 refine tP eF Z Z I (by simp;omega) hc Z ?_;intro A7 hA7
 have hr7:Rd dP 0 w.heap.size A7 l w:=hr.from_ (k:=1) hA7 (fun h=>h)
 have hc7:l.length<=c-1:=by simp only[bf]at hc;omega
 refine G (v:=.agg #[.slice A7 l.length (c-1),.bool false]) (bC Jq KP Z) ?_
 refine gY H Z Z ?_;intro w2 b9 H
 refine RE Z Z ?_
 refine U<|W ?_
 have hcl2:=fun(w':World) (hw':pj w2 w')=>((H.later hw').below.cell (p:=⟨bb,_,none⟩) hbl).trans (hcl 0 _ Z)
 refine bL cD [0,1,2,3,4,5,6,7,8,9,10,11] [12] [11] [0,1,3,4,5,6,8,9,10] (sp [(11,Sp.blk w2.heap.size (.agg #[J 0,J 0,J 0,J 0,J 0,.bool false,.string ⟨#[]⟩]) dA)]) N N N N Nq (cQ _) ?_
 refine aw Z Z Z Z Z (fun _ _=>iH Z) ?_
 refine aw Z Z Z Z Z (fun _ _=>AY eF Z Z I (by simp)) ?_
 refine aw Z Z Z Z Z (fun w' hw'=>bi mO Z (hcl2 w' hw')) ?_
 refine aw Z Z Z Z Z (fun _ _=>Nf (a:=c0.toNat) (b:=15) Z Z I I) ?_
 refine aw Z Z Z Z Z (fun _ _=>Gq iI i8 Z (vB (n:=c0.toNat&&&15) (mF (If I)))) ?_
 refine aw Z Z Z Z Z (fun _ _=>iH Z) ?_
 refine aw Z Z Z Z Z (fun _ _=>AY eF Z Z I (by simp)) ?_
 refine aw Z Z Z Z Z (fun w' hw'=>bi mO Z (hcl2 w' hw')) ?_
 refine aw Z Z Z Z Z (fun _ _=>Nf (a:=c0.toNat) (b:=16) Z Z I I) ?_
 refine aw Z Z Z Z Z (fun _ _=>jk (k:=.u8) (a:=((c0.toNat&&&16:Nat):Int)) (b:=0) Z Z) ?_
 refine aw (v:=.agg (cr.c ⟨0,0,0,0,(c0.toNat&&&15:Nat),!decide (((c0.toNat&&&16:Nat):Int)=0),⟨#[]⟩⟩).toArray) Z Z Z Z Z (fun _ _=>bC ot gB Z)<|O8 gB Z Z Z Z (fun w' w2 b hC hb hh=>⟨b,rfl,aV hC.size hb,hh⟩) ?_
 rintro _ ⟨_,_,b5,rfl,_,_⟩
 refine aU ?_
 rintro w3 hw3 ⟨-,b,he,hge,hb5⟩
 cases he
 replace H:=(H.adoptNew hw3 hb5 hge).swap
 refine Lj H 1 fa Z Z Z Z Z Z ?_;intro w4 H
 refine U<|W ?_
 refine Zr ?_
 refine Hj Z Z ?_
 refine cu iM (tc (l:=l) (bad:=false) H hr7 hc7) Z Z ?_;rintro _ w5 ⟨rfl,A1,c1,H1,hr1,hc1⟩
 refine Hj Z Z ?_
 refine cu iM (tc H1 hr1 hc1) Z Z ?_;rintro _ w6 ⟨rfl,A2,c2,H2,hr2,hc2⟩
 refine Hj Z Z ?_
 refine cu iM (tc H2 hr2 hc2) Z Z ?_;rintro _ w7 ⟨rfl,A3,c3,H3,hr3,hc3⟩
 refine Hj Z Z ?_
 refine cu iM (tc H3 hr3 hc3) Z Z ?_;rintro _ w8 ⟨rfl,A4,c4,H4,hr4,hc4⟩
 generalize hE:tW c0 l=E
 have hEE:E=_:=hE.symm
 unfold tW at hEE
 simp only at hEE
 generalize hq1:Fo l false=q1 at*
 generalize hq2:Fo q1.2.1 q1.2.2=q2 at*
 generalize hq3:Fo q2.2.1 q2.2.2=q3 at*
 generalize hq4:Fo q3.2.1 q3.2.2=q4 at*
 obtain⟨n1,l1,x1⟩:=q1
 obtain⟨n2,l2,x2⟩:=q2
 obtain⟨n3,l3,x3⟩:=q3
 obtain⟨n4,l4,x4⟩:=q4
 dsimp only at*
 clear H H1 H2 H3 hr1 hr2 hr3 hc1 hc2 hc3 hq1 hq2 hq3 hq4
 refine sX nV Z Z ?_
 refine QP H4 1 bQ Z Z Z (fm Z) ?_;intro w9 H
 refine sX fx Z Z ?_
 refine QP H 1 bQ Z Z Z (fm Z) ?_;intro w10 H
 refine sX eP Z Z ?_
 refine QP H 1 bQ Z Z Z (fm Z) ?_;intro w11 H
 refine sX fj Z Z ?_
 refine QP H 1 bQ Z Z Z (fm Z) ?_;intro w12 H
 refine U<|W ?_
 refine Zr ?_
 refine Hj Z Z ?_
 refine KL Z Z ?_
 refine sX mg Z Z ?_
 refine wv H 0 eV Z Z Z Z ?_
 refine Go.Eng.l1 (PW eF iI kg Z Z (fun _=>rfl) (hr4.below H.below)) Z Z Z ?_
 refine sX qD Z Z ?_
 refine Rm H 1 GY Z Z Z (fm Z) ?_;intro w13 H
 refine U ?_
 have H:Hp w w13 [(b9,.cells #[.slice A4 l4.length c4,.bool x4] uT),(b5,.cells E.1.c.toArray dA),(b2,.cells (cr.c ⟨0,0,0,0,0,false,⟨#[]⟩⟩).toArray dA)] []:=by rw[hEE];exact H
 have hx4:E.2=x4:=by rw[hEE]
 have hcl3:=fun(w':World) (hw':pj w13 w')=>((H.later hw').below.cell (p:=⟨bb,_,none⟩) hbl).trans (hcl 0 _ Z)
 obtain⟨E,x5⟩:=E
 dsimp only at*
 subst hx4
 clear hEE
 refine W ?_
 refine bL cD [0,1,2,3,4,5,6,7,8,9,10,11,12,13,14,15,16] [17,18] [14] [1,2,3,5,6,7,8,10,11,12,15,16] (sp [(14,Sp.one (J (eI E)))]) N N N N Nq (cQ _) ?_
 refine aw Z Z Z Z Z (fun w' hw'=>jR dJ Z ((H.later hw').ent (i:=1) Z) Z) ?_
 refine aw Z Z Z Z Z (fun _ _=>iH Z) ?_
 refine aw Z Z Z Z Z (fun _ _=>aH Z) ?_
 refine aw Z Z Z Z Z (fun _ _=>Zf kz Z) ?_
 refine aw Z Z Z Z Z (fun w' hw'=>bi eS Z (aJ ((H.later hw').ent (i:=0) Z) Z)) ?_
 refine aw Z Z Z Z Z (fun _ _=>ee Z) ?_
 refine aw Z Z Z Z Z (fun _ _=>iH Z) ?_
 have hob:uQ c0 l=(!x5&&decide (c0.toNat<32)&&decide (eI E=0)):=by unfold uQ;rw[hE]
 rw[hob]
 cases x5
 ·refine aw Z Z Z Z Z (fun _ _=>iH Z) ?_
  refine aw Z Z Z Z Z (fun _ _=>AY eF Z Z I (by simp)) ?_
  refine aw Z Z Z Z Z (fun w' hw'=>bi mO Z (hcl3 w' hw')) ?_
  refine aw Z Z Z Z Z (fun _ _=>cO (k:=.u8) (a:=(c0.toNat:Int)) (b:=32) Z Z) ?_
  refine aw Z Z Z Z Z (fun _ _=>LP Z Z) ?_
  refine aw Z Z Z Z Z (fun _ _=>iH Z) ?_
  have h32:decide ((c0.toNat:Int)<32)=decide (c0.toNat<32):=decide_eq_decide.2 I
  rw[h32]
  cases h:decide (c0.toNat<32)
  ·iterate 3 refine eZ Z Z Z Z ?_
   refine aw Z Z Z Z Z (fun _ _=>IA Z Z) ?_
   refine aU ?_
   intro w' hw' hF;replace H:=H.later hw';clear hw'
   refine Lj H 2 fa Z Z Z Z Z Z ?_;intro w15 H
   refine QI Z Z<|U<|Zt ?_
   exact ML Z dJ Z (H.ent (i:=2) Z) Z Z ⟨rfl,H.below⟩
  ·refine aw Z Z Z Z Z (fun w' hw'=>jR dJ Z ((H.later hw').ent (i:=1) Z) Z) ?_
   refine zi sf Z Z Z Z (fun w' _=>(xZ E w').mono (fun v w2 ⟨h1,h2⟩=>⟨h2,h1⟩)) Z ?_
   rintro _ ⟨_,_,rfl⟩
   refine aw Z Z Z Z Z (fun _ _=>bv Z Z) ?_
   refine aw Z Z Z Z Z (fun _ _=>LP Z Z) ?_
   refine aU ?_
   intro w' hw' hF;replace H:=H.later hw';clear hw'
   refine Lj H 2 fa Z Z Z Z Z Z ?_;intro w15 H
   refine QI Z Z<|U<|Zt ?_
   exact ML Z dJ Z (H.ent (i:=2) Z) Z Z ⟨rfl,H.below⟩
 ·iterate 4 refine eZ Z Z Z Z ?_
  refine aw Z Z Z Z Z (fun _ _=>IA Z Z) ?_
  refine aw Z Z Z Z Z (fun _ _=>iH Z) ?_
  iterate 3 refine eZ Z Z Z Z ?_
  refine aw Z Z Z Z Z (fun _ _=>IA Z Z) ?_
  refine aU ?_
  intro w' hw' hF;replace H:=H.later hw';clear hw'
  refine Lj H 2 fa Z Z Z Z Z Z ?_;intro w15 H
  refine QI Z Z<|U<|Zt ?_
  exact ML Z dJ Z (H.ent (i:=2) Z) Z Z ⟨rfl,H.below⟩
/-- the entry that is first, and how many bytes it takes -/
def step:List UInt8->Option (cr×Nat)
 |[]=>none
 |n::r=>
  if n.toNat=0∨r.length<n.toNat+2 then none
  else if mJ (r.take n.toNat)≠(r.getD n.toNat 0).toNat*256+(r.getD (n.toNat+1) 0).toNat then none
  else if uQ (r.headD 0) (r.take n.toNat).tail=true then some ((tW (r.headD 0) (r.take n.toNat).tail).1,n.toNat+3)else none
inductive KO:List UInt8->List cr->Nat->Prop
 |stop {l:List UInt8} (h:step l=none):KO l [] 0
 |go {l:List UInt8} {e:cr} {k n:Nat} {es:List cr} (h:step l=some (e,k)) (hd:KO (l.drop k) es n):KO l (e::es) (k+n)
theorem Qq {a b:Nat} (hb:b<256):a*2 ^ 8|||b=a*256+b:=by
 have:=sY (i:=8) (b:=b) (by simpa using hb) a
 rw[DH,<-this]
theorem vm (l:List UInt8) (A:Option Addr) (c:Nat) (w:World) (hr:Rd dP 0 w.heap.size A l w) (hc:l.length<=c) (hbd:l.length<=1000000000000):
  dt aa Cf [.slice A l.length c] w fun v w2=> ∃ es n A' c',v=.tuple #[.slice A' es.length c',J (n:Nat)]/\KO l es n/\Rd hJ w.heap.size w2.heap.size A' es w2/\es.length<=c'/\Below w.heap.size w w2:=by
 refine aG Bo Z Z ?_
 have H:=Hp.start w
 refine W ?_
 refine Zr ?_
 refine vz Z Z ?_
 refine pF Z Z ?_
 refine U<|W ?_
 refine Zr ?_
 refine vz Z Z ?_
 refine U<|W ?_
 refine Zr ?_
 refine pF Z Z ?_
 refine U<|W<|Zb ?_
 refine cf (τ:=Nat×List cr×Option Addr×Nat) [4,5,6,7,8,9,10,11,12,13,14,15,16,17,18,19,20,21,22,23,24,25,26,27,28,29,30,31,32,33,34,35,36,37,38,39,40,41,42,43,44,45,46,47,48,49,50,51,52,53,54,55,56,57,58,59,60,61,62,63,64,65,66,67,68,69,70,71,72,73]
  (fun(at_,out,A1,c1)=>[(4,.slice A1 out.length c1),(5,J (at_:Nat))])
  (fun(at_,out,A1,c1) w'=>at_<=l.length/\out.length<=at_/\(∀ es n,KO (l.drop at_) es n->KO l (out++es) (at_+n))/\ ∃ L',gG hJ (.slice A1 out.length c1) dA out L'/\Hp w w' ([]++L'++[]) [])
  (fun(at_,_,_,_)=>l.length-at_) (0,[],none,0) ⟨by omega,by simp,fun es n h=>by simpa using h,[],gG.nil,H⟩ (mK Z Z) ?_
 rintro⟨at_,out,A1,c1⟩ ρ1 w1 ⟨hat,hout,hdec,L1,ho,H⟩
 show CW _ _ _ _ (dK (ia _ _ ρ1) [(4,.slice A1 out.length c1),(5,J (at_:Nat))]) w1
 have hfin: ∀ {w2:World},step (l.drop at_)=none->Hp w w2 ([]++L1++[]) []-> ∃ es n A' c',(Value.tuple #[.slice A1 out.length c1,J (at_:Nat)])=.tuple #[.slice A' es.length c',J (n:Nat)]/\KO l es n/\Rd hJ w.heap.size w2.heap.size A' es w2/\es.length<=c'/\Below w.heap.size w w2:=fun hs H=>by
  have hd:=hdec [] 0 (.stop hs)
  rw[aZ,pJ]at hd
  obtain⟨A2,c2,he,hlc,-⟩:=ho.form
  injection he with h1 h2 h3
  subst h3
  exact⟨out,at_,A1,c1,rfl,hd,ho.rd H,hlc,H.below⟩
 refine W<|W ?_
 refine Zr ?_
 refine iN Z Z ?_
 refine mD Z Z ?_
 refine vt fb Z Z ?_
 refine Hq Z Z Z (fun h13=> ?_) (fun h13=> ?_)
 all_goals refine bP ?_
 ·refine jc Z ?_
  refine Zk ?_
  have hlt:at_<l.length:=by omega
  obtain⟨bb,o,hA,-,hbl,hcl0⟩:=hr.at_ hlt
  subst hA
  have hcl: ∀ {k:Nat} (hk:k<l.length) (w':World),Below w.heap.size w w'->w'.cell? ⟨bb,o+k*1,none⟩=some (.int .u8 (l[k].toNat:Nat)):=fun{k} hk w' hb=>by
   obtain⟨bb',o',hA,-,hbl,hcl⟩:=hr.at_ hk
   injection hA with hA
   injection hA with h1 h2
   subst h1;subst h2
   exact(hb.cell (p:=⟨bb,_,none⟩) hbl).trans (hcl 0 _ Z)
  have hd0:l.drop at_=l[at_]::l.drop (at_+1):=nf hlt
  have hx:=hcl hlt
  have h256:l[at_].toNat<256:=UInt8.toNat_lt _
  generalize hn:l[at_].toNat=n at*
  refine Zb<|W ?_
  refine Zr ?_
  refine mD Z Z ?_
  refine iN Z Z ?_
  refine Qh eF Z Z I I Z ?_
  refine ld mO Z (hx _ H.below) Z ?_
  refine OH iI i8 Z (vB (n:=n) I) Z ?_
  refine pF Z Z ?_
  refine U<|W<|W ?_
  refine Zr ?_
  refine iN Z Z ?_
  by_cases hstop:n=0∨l.length<at_+n+3
  ·have hs:step (l.drop at_)=none:=by
    rw[hd0,step,hn,if_pos]
    rw[cZ];omega
   by_cases hn0:n=0
   ·refine MR Z Z I Z ?_
    refine AD Z Z ?_
    iterate 7 refine sH Z Z Z ?_
    refine xa Z Z Z ?_
    refine U<|ZT Z<|Zx<|W ?_
    refine Zr ?_
    refine mD Z Z ?_
    refine iN Z Z ?_
    refine vz Z Z ?_
    refine pF Z Z ?_
    refine U<|Zt ?_
    exact my Z Z Z (hfin hs H)
   ·refine HO Z Z I Z ?_
    refine AD Z Z ?_
    refine ZG ?_
    refine iN Z Z ?_
    refine ZG ?_
    refine iN Z Z ?_
    refine ZG ?_
    refine add Z Z I I Z ?_
    refine ZG ?_
    refine add Z Z I I Z ?_
    refine ZG ?_
    refine mD Z Z ?_
    refine ZG ?_
    refine vt fb Z Z ?_
    refine ZG<|PO Z Z I Z ?_
    refine td Z Z Z ?_
    refine U<|ZT Z<|Zx<|W ?_
    refine Zr ?_
    refine mD Z Z ?_
    refine iN Z Z ?_
    refine vz Z Z ?_
    refine pF Z Z ?_
    refine U<|Zt ?_
    exact my Z Z Z (hfin hs H)
  have hn0:n≠0:=fun h=>hstop (.inl h)
  have hlen:at_+n+3<=l.length:=by omega
  refine HO Z Z I Z ?_
  refine AD Z Z ?_
  refine ZG ?_
  refine iN Z Z ?_
  refine ZG ?_
  refine iN Z Z ?_
  refine ZG ?_
  refine add Z Z I I Z ?_
  refine ZG ?_
  refine add Z Z I I Z ?_
  refine ZG ?_
  refine mD Z Z ?_
  refine ZG ?_
  refine vt fb Z Z ?_
  refine ZG<|PP Z Z I Z ?_
  refine td Z Z Z ?_
  refine U<|ZF Z<|Zk<|W ?_
  refine Zr ?_
  refine mD Z Z ?_
  refine iN Z Z ?_
  refine add Z Z I I Z ?_
  refine iN Z Z ?_
  refine add Z Z I I Z ?_
  refine iN Z Z ?_
  refine add Z Z I I Z ?_
  refine OW eF Z Z Z I I I Z ?_;intro A37 hA37
  have e1:((at_:Int)+1).toNat=at_+1:=by omega
  have e2:((at_:Int)+1+n).toNat- (at_+1)=n:=by omega
  rw[e1]at hA37⊢
  rw[e2]
  have hrx:Rd dP 0 w.heap.size A37 ((l.drop (at_+1)).take n) w:=(hr.from_ hA37 (fun h=>by omega)).take n
  have hxl:((l.drop (at_+1)).take n).length=n:=by rw[aD,cZ];omega
  refine vz Z Z ?_
  refine U ?_
  have hg1:(l.drop (at_+1)).getD n 0=l[at_+n+1]:=by
   rw[cS,dk,show at_+1+n=at_+n+1 by omega,aj I];rfl
  have hg2:(l.drop (at_+1)).getD (n+1) 0=l[at_+n+2]:=by
   rw[cS,dk,show at_+1+(n+1)=at_+n+2 by omega,aj I];rfl
  have hc1:=hcl (k:=at_+n+1) I
  have hc2:=hcl (k:=at_+n+2) I
  have hb1:l[at_+n+1].toNat<256:=UInt8.toNat_lt _
  have hb2:l[at_+n+2].toNat<256:=UInt8.toNat_lt _
  generalize l[at_+n+1]=x1 at*
  generalize l[at_+n+2]=x2 at*
  generalize hX:(l.drop (at_+1)).take n=X at*
  have hstep:step (l.drop at_)=if mJ X≠x1.toNat*256+x2.toNat then none else if uQ (X.headD 0) X.tail=true then some ((tW (X.headD 0) X.tail).1,n+3)else none:=by
   rw[hd0,step,hn,if_neg (by rw[cZ];omega),hX,hg1,hg2]
   have:(l.drop (at_+1)).headD 0=X.headD 0:=by
    rw[<-hX]
    cases h:l.drop (at_+1)with
    |nil=>simp
    |cons a r=>
     cases n with
     |zero=>exact absurd Z hn0
     |succ n=>rfl
   rw[this]
  have hcy1:((at_:Int)+n+1).toNat=at_+n+1:=by omega
  have hcy2:((at_:Int)+n+2).toNat=at_+n+2:=by omega
  rw[<-hcy1]at hc1
  rw[<-hcy2]at hc2
  have hor:x1.toNat*2 ^ 8|||x2.toNat=x1.toNat*256+x2.toNat:=Qq hb2
  have hslt:=DW X
  refine W<|W ?_
  refine bL cD [0,2,3,4,5,6,7,8,9,10,11,12,13,14,15,16,17,18,19,1,20] [] [1] [0,2,3,4,5,6,7,9,10,11,12,13,14,15,16,18,19,20] (sp [(1,Sp.one (J (mJ X:Nat)))]) N N N N Nq (cQ _) ?_
  refine aw Z Z Z Z Z (fun _ _=>iH Z) ?_
  refine aw Z Z Z Z Z (fun _ _=>iH Z) ?_
  refine aw Z Z Z Z Z (fun _ _=>iH Z) ?_
  refine aw Z Z Z Z Z (fun _ _=>iH Z) ?_
  refine aw Z Z Z Z Z (fun _ _=>bp Z Z I I) ?_
  refine aw Z Z Z Z Z (fun _ _=>bp Z Z I I) ?_
  refine aw Z Z Z Z Z (fun _ _=>AY eF Z Z I I) ?_
  refine aw Z Z Z Z Z (fun w' hw'=>bi mO Z (hc1 w' (H.later hw').below)) ?_
  refine aw Z Z Z Z Z (fun _ _=>Gq iI i8 Z (vB (n:=x1.toNat) I)) ?_
  refine aw Z Z Z Z Z (fun _ _=>OY (a:=x1.toNat) (b:=8) (k:=.u64) Z Z I I) ?_
  refine aw Z Z Z Z Z (fun _ _=>iH Z) ?_
  refine aw Z Z Z Z Z (fun _ _=>iH Z) ?_
  refine aw Z Z Z Z Z (fun _ _=>iH Z) ?_
  refine aw Z Z Z Z Z (fun _ _=>bp Z Z I I) ?_
  refine aw Z Z Z Z Z (fun _ _=>bp Z Z I I) ?_
  refine aw Z Z Z Z Z (fun _ _=>AY eF Z Z I I) ?_
  refine aw Z Z Z Z Z (fun w' hw'=>bi mO Z (hc2 w' (H.later hw').below)) ?_
  refine aw Z Z Z Z Z (fun _ _=>Gq iI i8 Z (vB (n:=x2.toNat) I)) ?_
  refine aw Z Z Z Z Z (fun _ _=>NZ (a:=x1.toNat*2 ^ 8) (b:=x2.toNat) Z Z I I) ?_
  rw[hor]
  refine zi zg Z Z Z Z (fun w' hw'=>(K9 X A37 (c- (at_+1)) w' ((hrx.below (H.later hw').below).mono (ao _) (H.later hw').size) I).mono (fun v w2 ⟨h1,h2⟩=>⟨h2,h1⟩)) (by rw[hxl];rfl) ?_
  rintro _ ⟨_,_,rfl⟩
  by_cases hsum:mJ X=x1.toNat*256+x2.toNat
  ·refine aw Z Z Z Z Z (fun _ _=>cv Z Z I) ?_
   refine aU ?_
   intro w' hw' hF;replace H:=H.later hw';clear hw' hF
   refine U<|ZF Z<|Zk ?_
   obtain⟨c0,X',rfl⟩: ∃ c0 X',X=c0::X':=by
    cases X with
    |nil=>simp at hxl;omega
    |cons a X=>exact⟨a,X,rfl⟩
   rw[if_neg I]at hstep
   refine W ?_
   refine Zr ?_
   refine mD Z Z ?_
   rw[<-hxl]
   refine cu EM (OM c0 X' A37 _ _ ((hrx.below H.below).mono (ao _) H.size) (by rw[hxl];omega)) Z Z ?_;rintro _ w2 ⟨rfl,hb2⟩;replace H:=H.later hb2
   rw[hxl]
   refine Ru Z Z ?_
   refine Re Z Z Z ?_
   refine Re Z Z Z ?_
   refine fc H gB Z ?_;intro w3 b8 H
   refine Lj H 0 fa Z Z Z Z Z Z ?_;intro w4 H
   refine QI Z Z ?_
   refine U<|W<|W ?_
   refine Zr ?_
   refine AD Z Z ?_
   refine not Z Z ?_
   refine U ?_
   refine kI (b:=!uQ c0 X') Z (fun hb=> ?_) (fun hb=> ?_)
   ·rw[if_neg (by simpa using hb)]at hstep
    refine Zx<|W ?_
    refine Zr ?_
    refine mD Z Z ?_
    refine iN Z Z ?_
    refine vz Z Z ?_
    refine pF Z Z ?_
    refine U<|Zt ?_
    exact my Z Z Z (hfin hstep (H.forget (by simp) (fun _ h=>h)))
   ·rw[if_pos (by simpa using hb)]at hstep
    refine Zk<|W ?_
    refine Zr ?_
    refine mD Z Z ?_
    refine Rc H 0 dJ Z Z Z Z ?_
    refine uO (vs:=[.agg _]) H dW gB Z Z Z Z Z Z ?_;intro w5 b68 H5
    refine wN (Y:=hJ) KA (K:=[_,_]) (L:=L1) (M:=[]) H5 ho (news:=[(tW c0 X').1]) Z Z Z ?_ (by simp only[cH];omega) Z ?_
    ·exact zk.row (m:=1) (sz:=7) (H5.ent (i:=0) Z) Z
    intro A6 c6 w6 L6 _ _ ho6 H6
    refine vz Z Z ?_
    refine U ?_
    refine Zr ?_
    refine iN Z Z ?_
    refine iN Z Z ?_
    refine add Z Z I I Z ?_
    refine add Z Z I I Z ?_
    refine pF Z Z ?_
    refine U ?_
    refine⟨(at_+(n+3),out++[(tW c0 X').1],A6,c6),⟨by omega,by simp;omega,fun es m hD=> ?_,L6,ho6,H6.forget (by simp) (fun _ h=>h)⟩,mK Z ?_,by repeat (first|exact io|refine gZ Z ?_|refine fJ _ Z ?_),by show l.length- (at_+(n+3))<l.length-at_;omega⟩
    ·have:=hdec _ _ (.go hstep (by rw[ke];exact hD))
     rw[aB,ls]
     exact this
    ·show Value.int .i64 _=Value.int .i64 _
     congr 1
  ·rw[if_pos hsum]at hstep
   refine aw Z Z Z Z Z (fun _ _=>lN Z Z I) ?_
   refine aU ?_
   intro w' hw' hF;replace H:=H.later hw';clear hw'
   refine U<|ZT Z<|Zx<|W ?_
   refine Zr ?_
   refine mD Z Z ?_
   refine iN Z Z ?_
   refine vz Z Z ?_
   refine pF Z Z ?_
   refine U<|Zt ?_
   exact my Z Z Z (hfin hstep H)
 ·refine gQ Z ?_
  refine Zx ?_
  have hs:step (l.drop at_)=none:=by rw[er I];rfl
  refine W ?_
  refine Zr ?_
  refine mD Z Z ?_
  refine iN Z Z ?_
  refine vz Z Z ?_
  refine pF Z Z ?_
  refine U<|Zt ?_
  exact my Z Z Z (hfin hs H)
def ob (e:cr):Prop:=eI e=0
def bG (es:List cr):List UInt8:=es.flatMap mz
theorem CY (n:Nat) (h:n<256):(UInt8.ofNat n).toNat=n:=by simp[hZ h]
theorem LE: ∀ (k n i m:Nat) (rest:List UInt8),n<128 ^ k->i+k<=5->(0<k)->(n≠0∨i=0)->rn i m (zt n++rest)=(m+n*2 ^ (7*i),rest,false)
 |0,_,_,_,_,_,_,h0,_=>absurd h0 (by decide)
 |k+1,n,i,m,rest,hn,hi,_,hz=>by
  by_cases h:n<=127
  rw[vc h]
  simp only[qQ,li,rn]
  rw[if_neg I,CY n I,if_pos I,hZ I]
  have:(decide (n=0)&&decide (0<i))=false:=by
   rcases hz with h|h
   simp[h]
   simp[h]
  rw[this]
  rw[Ea I]
  simp only[qQ,rn]
  have hm:n%128<128:=kP _ (by decide)
  rw[if_neg I,CY _ I,if_neg I]
  have hk:k≠0:=by rintro rfl;simp at hn;omega
  rw[LE k (n/128) (i+1) _ rest (by rw[Nat.pow_succ]at hn;exact zm I) I I (.inl I)]
  congr 1
  have e1:(n%128+128)%128=n%128:=by omega
  have e2:2 ^ (7*(i+1))=128*2 ^ (7*i):=by rw[Nat.mul_add,Nat.pow_add];omega
  rw[e1,e2]
  have e3:n/128*(128*2 ^ (7*i))=(n/128*128)*2 ^ (7*i):=(Nat.mul_assoc _ _ _).symm
  rw[e3,ls,<-cN]
  congr 2
  omega
theorem zP {n:Nat} (hn:n<=1073741824) (rest:List UInt8):Fo (zt n++rest) false=(n,rest,false):=by
 unfold Fo
 rw[if_neg (by decide),LE 5 n 0 0 rest I I I (.inr Z)]
 simp
theorem JZ: ∀ k:Nat,k<4-> ∀ t:Bool,let c:=k+if t then 16 else 0;c<32/\(c&&&15)=k/\(!decide (((c&&&16:Nat):Int)=0))=t:=by decide
theorem M5 {e:cr} (h:ob e): ∃ c x,eY e=c::x/\uQ c x=true/\(tW c x).1=e:=by
 obtain⟨h1,h2,h3,h4,-⟩:=rx h
 refine⟨oD e,oB e.nums++e.text.data.toList,rfl,?_⟩
 obtain⟨ep,pid,ver,seq,kind,txn,text⟩:=e
 simp only[cr.nums,av,bd,or_false,forall_eq_or_imp,forall_eq]at h3
 dsimp only at h1 h2
 obtain⟨a1,a2,a3,a4⟩:=h3
 obtain⟨n1,rfl⟩: ∃ n:Nat,ep=n:=⟨ep.toNat,by omega⟩
 obtain⟨n2,rfl⟩: ∃ n:Nat,pid=n:=⟨pid.toNat,by omega⟩
 obtain⟨n3,rfl⟩: ∃ n:Nat,ver=n:=⟨ver.toNat,by omega⟩
 obtain⟨n4,rfl⟩: ∃ n:Nat,seq=n:=⟨seq.toNat,by omega⟩
 obtain⟨k,rfl⟩: ∃ n:Nat,kind=n:=⟨kind.toNat,by omega⟩
 have hb:oB (cr.nums ⟨(n1:Nat),(n2:Nat),(n3:Nat),(n4:Nat),(k:Nat),txn,text⟩)++text.data.toList=zt n1++(zt n2++(zt n3++(zt n4++text.data.toList))):=by
  simp[oB,cr.nums]
 obtain⟨j1,j2,j3⟩:=JZ k I txn
 have hkb:(oD ⟨(n1:Nat),(n2:Nat),(n3:Nat),(n4:Nat),(k:Nat),txn,text⟩).toNat=k+if txn then 16 else 0:=by
  unfold oD
  exact CY _ (by simp only[uW];exact Nat.lt_trans j1 (by decide))
 have hE:tW (oD ⟨(n1:Nat),(n2:Nat),(n3:Nat),(n4:Nat),(k:Nat),txn,text⟩) (zt n1++(zt n2++(zt n3++(zt n4++text.data.toList))))=(⟨(n1:Nat),(n2:Nat),(n3:Nat),(n4:Nat),(k:Nat),txn,text⟩,false):=by
  unfold tW
  simp only[zP (show n1<=1073741824 by omega),zP (show n2<=1073741824 by omega),zP (show n3<=1073741824 by omega),zP (show n4<=1073741824 by omega),hkb,j2,j3]
 dsimp only
 rw[hb]
 refine⟨?_,by rw[hE]⟩
 unfold uQ
 rw[hE,hkb]
 simp[j1,show eI _=0 from h]
theorem Gk (e:cr):(mz e).length=(eY e).length+3:=by simp[mz]
theorem Lf {e:cr} (h:ob e) (rest:List UInt8):step (mz e++rest)=some (e,(mz e).length):=by
 obtain⟨hl,h0⟩:=yN h
 have hs:=DW (eY e)
 obtain⟨c,x,h1,h2,h3⟩:=M5 h
 have e1:mz e++rest=UInt8.ofNat (eY e).length::(eY e++(UInt8.ofNat (mJ (eY e)/256)::UInt8.ofNat (mJ (eY e)%256)::rest)):=by simp[mz]
 rw[e1,step,CY _ I,if_neg (by simp only[ay,bf];omega)]
 have t1:(eY e++(UInt8.ofNat (mJ (eY e)/256)::UInt8.ofNat (mJ (eY e)%256)::rest)).take (eY e).length=eY e:=jm
 have t2:(eY e++(UInt8.ofNat (mJ (eY e)/256)::UInt8.ofNat (mJ (eY e)%256)::rest)).getD (eY e).length 0=UInt8.ofNat (mJ (eY e)/256):=by
  rw[cS,cG (ao _),mE];rfl
 have t3:(eY e++(UInt8.ofNat (mJ (eY e)/256)::UInt8.ofNat (mJ (eY e)%256)::rest)).getD ((eY e).length+1) 0=UInt8.ofNat (mJ (eY e)%256):=by
  rw[cS,cG I,pe];rfl
 rw[t1,t2,t3,CY _ I,CY _ I,if_neg (fun h=>h (Nat.div_add_mod' _ _).symm)]
 have t4:(eY e++(UInt8.ofNat (mJ (eY e)/256)::UInt8.ofNat (mJ (eY e)%256)::rest)).headD 0=c:=by rw[h1];rfl
 rw[t4,Gk]
 rw[h1]
 simp[h2,h3]
theorem I3: ∀ (es:List cr) (rest:List UInt8),(∀ e∈es,ob e)->step rest=none->KO (bG es++rest) es (bG es).length
 |[],rest,_,h=> .stop h
 |e::es,rest,hg,h=>by
  have h1:=Lf (hg e (az ..)) (bG es++rest)
  have h2:=I3 es rest (fun x hx=>hg x (ai _ hx)) h
  have e1:bG (e::es)++rest=mz e++(bG es++rest):=by simp[bG]
  have e2:(bG (e::es)).length=(mz e).length+(bG es).length:=by simp[bG]
  rw[e1,e2]
  exact .go h1 (by rw[List.drop_left];exact h2)
theorem ry {l:List UInt8} {es es':List cr} {n n':Nat} (h:KO l es n) (h':KO l es' n'):es=es'/\n=n':=by
 induction h generalizing es' n' with
 |stop h=>cases h' with
  |stop=>exact⟨rfl,rfl⟩
  |go h1 _=>rw[h]at h1;cases h1
 |go h hd ih=>cases h' with
  |stop h1=>rw[h]at h1;cases h1
  |go h1 hd1=>
   rw[h]at h1
   injection h1 with h1;injection h1 with h1 h2
   subst h1;subst h2
   obtain⟨a,b⟩:=ih hd1
   exact⟨by rw[a],by rw[b]⟩
theorem MF (e:cr):bG [e]=mz e:=by simp[bG]
theorem Kc {es:List cr} {k:Nat} (h:k<es.length):bG (es.take (k+1))=bG (es.take k)++mz es[k]:=by
 unfold bG
 rw[DJ h,nh,List.flatMap_singleton]
theorem fX (es:List cr) (k:Nat):(bG (es.take k)).length<=(bG es).length:=by
 have:bG es=bG (es.take k)++bG (es.drop k):=by
  unfold bG;rw[<-nh,g8]
 rw[this,ay];omega
def e0:cr:=⟨0,1,0,0,2,true,⟨#[]⟩⟩
section
open Go.ChangeShapes Go.WideShapes Go.ChangeAt Go.RowKit Go.Eng
/-- the row's end, out of a function's contract -/
theorem Jz {f:FuncId} {vs:List Value} {w:World} (h:dt aa f vs w fun v w2=>v=.bool true/\Below w.heap.size w w2):Calls aa f vs.toArray w fun e w'=>e=.returned (.bool true)/\Below w.heap.size w w':=
 Calls.mono h fun _ _ ⟨_,he,hv,hb⟩=>⟨by rw[he,hv],hb⟩
end


/-- picked -/
def pk (n:Int) (m:Nat):Nat:=(if n<0 then(-(n+1)).toNat else n.toNat)%m
theorem ut (n:Int) {m:Nat} (h:0<m):pk n m<m:=kP _ h
theorem sy (n:Int) (m:Nat) (w:World) (h1: -9223372036854775808<=n) (h2:n<=9223372036854775807) (hm:0<m) (hm2:m<=1000000000000):
  dt aa t8 [J n,J (m:Nat)] w fun v w2=>v=J (pk n m:Nat)/\Below w.heap.size w w2:=by
 refine aG tq Z Z ?_
 have H:=Hp.start w
 refine W ?_
 refine Zr ?_
 refine pF Z Z ?_
 refine U<|W ?_
 obtain⟨a,ha⟩: ∃ a:Nat,(if n<0 then(-(n+1)).toNat else n.toNat)=a:=⟨_,rfl⟩
 refine ft (τ:=Unit) [5,6,7,8,9,0] (fun _=>[(0,J (a:Nat))]) (fun _ w'=>Hp w w' [] []) ?_ ?_
 ·refine cE ?_
  refine Zr ?_
  refine iN Z Z ?_
  refine Hq Z Z Z (fun h6=> ?_) (fun h6=> ?_)
  all_goals refine bP ?_
  ·refine jc Z ?_
   refine Zr ?_
   refine iN Z Z ?_
   refine G (P7 Z Z I I)<|G (PG Z I I) ?_
   refine pF Z Z ?_
   refine U ?_
   have e: -(n+1)=(a:Nat):=by rw[if_pos h6]at ha;omega
   rw[e]
   refine⟨(),H,dR Z,by repeat (first|exact yU.refl _ _|exact io|refine gZ Z ?_|refine fJ _ Z ?_)⟩
  ·refine gQ Z ?_
   refine Zk ?_
   have e:n=(a:Nat):=by rw[if_neg h6]at ha;omega
   subst e
   refine⟨(),H,dR Z,by repeat (first|exact yU.refl _ _|exact io|refine gZ Z ?_|refine fJ _ Z ?_)⟩
 rintro _ ρ1 w1 H
 show CW _ _ _ _ (dK (ia _ _ ρ1) [(0,J (a:Nat))]) w1
 refine W ?_
 refine Zr ?_
 refine iN Z Z ?_
 refine iN Z Z ?_
 refine rem Z Z I I Z ?_
 refine pF Z Z ?_
 refine U<|Zt ?_
 have e:((a:Int)%(m:Int))=(pk n m:Nat):=by unfold pk;rw[ha];rfl
 rw[e]
 exact cn (v:=J (pk n m:Nat)) Z Z ⟨rfl,H.below⟩
structure Qk where
 kind:Int
 a:Int
 b:Int
 c:Int
def Qk.cs (r:Qk):List Value:=[J r.kind,J r.a,J r.b,J r.c]
def i64 (n:Int):Prop:= -9223372036854775808<=n/\n<=9223372036854775807
def Qk.ok (r:Qk):Prop:=i64 r.kind/\i64 r.a/\i64 r.b/\i64 r.c
def yX (n:Nat):List UInt8:=if h:n=0 then []else UInt8.ofNat (97+n%10)::yX (n/10)
termination_by n
decreasing_by omega
theorem Ji {n:Nat} (h:0<n):yX n=UInt8.ofNat (97+n%10)::yX (n/10):=by rw[yX,dif_neg I]
theorem z8:yX 0=[]:=by rw[yX];simp
theorem CT: ∀ (k n:Nat),n<10 ^ k->(yX n).length<=k
 |0,n,h=>by
  have:n=0:=by simpa using h
  subst this;rw[z8];simp
 |k+1,n,h=>by
  by_cases hn:n=0
  subst hn;rw[z8];simp
  rw[Ji I]
  have:=CT k (n/10) (by rw[Nat.pow_succ]at h;omega)
  simp;omega
def CS (n:Int):ByteArray:=⟨(yX (pk n 10000)).toArray⟩
theorem Jh (n:Int):(CS n).size<=4:=by
 have:=CT 4 (pk n 10000) (ut n (by decide))
 simpa [CS,ByteArray.size]using this
def Qk.entry (r:Qk):cr:=
 let p:=pk r.b 4
 if p=0 then⟨pk r.a 4,0,0,0,1,false,CS r.c⟩
 else if pk r.kind 6=0∨pk r.kind 6=1 then⟨pk r.a 4,p,pk r.a 3,0,2+pk r.c 2,true,⟨#[]⟩⟩
 else⟨pk r.a 4,p,pk r.a 3,pk r.c 5,1,decide (((pk r.c 2:Nat):Int)=0),CS r.c⟩
section
open Go.ChangeShapes Go.WideShapes Go.ChangeAt Go.RowKit Go.Eng
theorem DP {n:Int} (h:(Lit.int .i64 n).wf=true):i64 n:=by
 have: -9223372036854775808<=n/\n<=9223372036854775807:=by simpa [Lit.wf,IntKind.min,IntKind.max,IntKind.signed,IntKind.bits]using h
 exact this
section
variable {H:Type} {enc:TypeId×Value->H} {w:World} {base:Nat} {sp:Nat->Bool} {held:Bool}
end
end
section
open Go.ChangeShapes Go.WideShapes Go.ChangeAt Go.RowKit
theorem KU (r:List Char):wordsSigns (' '::r)=[]::wordsSigns r:=by rw[wordsSigns]
theorem KV (c:Char) (hc:c≠' ') (l w:List Char) (ws:List (List Char)) (h:wordsSigns l=w::ws):wordsSigns (c::l)=(c::w)::ws:=by
 rw[wordsSigns,h]
 exact hc
theorem s0: ∀ (a r:List Char),(∀ c∈a,c≠' ')->wordsSigns (a++' '::r)=a::wordsSigns r
 |[],r,_=>KU r
 |c::a,r,h=>KV c (h c (az ..)) _ _ _ (s0 a r fun x hx=>h x (ai _ hx))
def xq:List Char:=['a','t',' ','t','a','i','l','r','a','c','e','/','t','a','i','l','r','a','c','e','t','o','p','.','T','o','p','A','t','o','m','i','c',' ','t','a','i','l','r','a','c','e','/','t','a','i','l','r','a','c','e','t','o','p','.','T','o','p','O','r','d','e','r',' ','t','a','i','l','r','a','c','e','/','t','a','i','l','r','a','c','e','t','o','p','.','T','o','p','P','o','l','l','e','d']
def IS:List Char:=['0','0','7','a','4','d','8','a','1','6','9','9','7','6','b','0','b','a','2','a','a','f','4','c','5','7','c','e','c','0','e','1','c','4','9','7','3','f','a','9','2','c','6','6','3','3','2','3','e','f','8','e','1','4','4','7','1','5','b','d','7','2','c','6']
theorem Oy:Tryz.checked.prog.initOrder=String.ofList (['h','a','r','n','e','s','s']++' '::(IS++' '::(['c','u','t']++' '::xq))):=by kernel_rfl
theorem tp:behindMainWord (wordsSigns Tryz.checked.prog.initOrder.toList)=['c','u','t']::wordsSigns xq:=by
 rw[Oy,String.toList_ofList,s0 _ _ (by decide),s0 _ _ (by decide+kernel),s0 _ _ (by decide)]
 have hs:isSumSigns IS=true:=by decide+kernel
 simp[behindMainWord,hs]
theorem QY: "gc".toList=['g','c']:=by simp
theorem Pg: "spec".toList=['s','p','e','c']:=by simp
theorem OU: "cut".toList=['c','u','t']:=by simp
theorem Of {P:Program} {c:List Char} {r:List (List Char)} (h:behindMainWord (wordsSigns P.initOrder.toList)=c::r) (hg:(c== "gc".toList||c== "spec".toList)=false) (hc:(c== "cut".toList||(c== "finals".toList&&r.head? ==some "cut".toList))=true):P.make=some .cut:=by
 unfold Program.make
 rw[h]
 simp only[hg,hc]
 rfl
theorem PY:(['c','u','t']== "gc".toList||['c','u','t']== "spec".toList)=false:=by rw[QY,Pg];decide
theorem QD (r:List (List Char)):(['c','u','t']== "cut".toList||(['c','u','t']== "finals".toList&&r.head? ==some "cut".toList))=true:=by rw[OU];rfl
theorem C4 (ws:List (List Char)):stripLifts liftWords (['c','u','t']::ws)=([],['c','u','t']::ws):=by
 simp[stripLifts,liftWords]
theorem MT {P:Program} {c:List Char} {r:List (List Char)} (h:behindMainWord (wordsSigns P.initOrder.toList)=c::r) (hs:stripLifts liftWords (c::r)=([],c::r)) (hc:(c== "cut".toList)=true) (hl:P.laysLater=false) (hb:P.bearsReflect=false) (hd:P.doorFits []=true):P.mayEnter=true:=by
 have e:((c::r).head? ==some "cut".toList)=true:=by
  rw[eq_of_beq hc];simp
 unfold Program.mayEnter
 rw[h]
 simp only[hs,hl,hb,hd,e]
 simp
theorem OI:(['c','u','t']== "cut".toList)=true:=by rw[OU];rfl
theorem HC:Tryz.checked.prog.headLifts=[]:=by
 unfold Program.headLifts
 rw[tp]
 generalize wordsSigns xq=ws
 simp[C4]
theorem FJ:Tryz.checked.prog.liftsFinal=false:=by
 unfold Program.liftsFinal
 rw[tp,HC]
 generalize wordsSigns xq=ws
 simp
theorem Mm:Tryz.checked.prog.make=some .cut:=Of tp PY (QD _)
theorem Ht:Tryz.checked.prog.laysLater=false:=by kernel_rfl
theorem CM:Tryz.checked.prog.bearsReflect=false:=by kernel_rfl
theorem Kk:Tryz.checked.prog.doorFits []=true:=by kernel_rfl
theorem JT:Tryz.checked.prog.mayEnter=true:=MT tp (C4 _) OI Ht CM Kk
theorem Hf:ownKnob aa.godebug=none:=by kernel_rfl
theorem xd:laidOutB Tryz.checked.prog=true:=by kernel_rfl
theorem Hm:mapsRowed Tryz.checked.prog=true:=by kernel_rfl
theorem Md:(Tryz.checked.prog.stops==[])=true:=by kernel_rfl
theorem Me:(Tryz.checked.prog.stopKnobs==[])=true:=by kernel_rfl
theorem Ha:Tryz.checked.prog.plainKeys=true:=by kernel_rfl
theorem Fd:Tryz.checked.prog.stopsHeard=true:=by kernel_rfl
end
theorem I2 {e:cr} (h:ob e):(mz e).length<=64:=by
 have:=(yN h).1
 rw[Gk];omega
theorem EH: ∀ (es:List cr),(∀ e∈es,ob e)->(bG es).length<=64*es.length
 |[],_=>by simp[bG]
 |e::es,h=>by
  have h1:=I2 (h e (az ..))
  have h2:=EH es fun x hx=>h x (ai _ hx)
  have:bG (e::es)=mz e++bG es:=by simp[bG]
  rw[this];simp;omega
theorem uG (es:List cr) (h: ∀ e∈es,ob e):KO (bG es) es (bG es).length:=by
 have:=I3 es [] h Z
 rwa[aZ]at this
theorem cy {α:Type} {l:List α} {k:Nat} {e:α} (h:l[k]? =some e): ∃ hk:k<l.length,l[k]=e:=aE.1 h
theorem uC {es:List cr} {k:Nat} {e:cr} (h:es[k]? =some e):bG (es.take (k+1))=bG (es.take k)++mz e:=by
 obtain⟨hk,rfl⟩:=cy h
 exact Kc hk
structure Prod where
 ver:Int
 seq:Int
 open_:Int
 mark:Int
def Prod.c (p:Prod):List Value:=[J p.ver,J p.seq,J p.open_,J p.mark]
def p0:Prod:=⟨0,-1,-1,-1⟩
abbrev Jc:TypeId:=81
theorem sF:FG aa Jc dg GF=true:=by kernel_rfl
def pv (e:cr) (p:Prod):Prod:=if e.ver≠p.ver then⟨e.ver,-1,p.open_,p.mark⟩else p
def fp (i:Nat) (e:cr) (p:Prod):Prod:=
 if e.kind≠1 then⟨(pv e p).ver,(pv e p).seq,-1,i⟩
 else if e.txn=true/\(pv e p).open_<0 then⟨(pv e p).ver,e.seq,i,(pv e p).mark⟩
 else⟨(pv e p).ver,e.seq,(pv e p).open_,(pv e p).mark⟩
def fU (es:List cr) (pid:Int):Option Prod:=
 es.zipIdx.foldl (fun a q=>if q.1.pid≠0/\q.1.pid=pid then some (fp q.2 q.1 (a.getD p0))else a) none
theorem JE (pid:Int):fU [] pid=none:=rfl
theorem qp (es:List cr) (e:cr) (pid:Int):fU (es++[e]) pid=if e.pid≠0/\e.pid=pid then some (fp es.length e ((fU es pid).getD p0))else fU es pid:=by
 unfold fU
 rw[List.zipIdx_append,List.foldl_append]
 simp
theorem d6 {α:Type} {l:List α} {k:Nat} {e:α} (h:l[k]? =some e):l.take (k+1)=l.take k++[e]:=by
 obtain⟨hk,rfl⟩:=cy h
 exact DJ hk
theorem Au {es:List cr} {k:Nat} {e:cr} (h:es[k]? =some e) (pid:Int):fU (es.take (k+1)) pid=if e.pid≠0/\e.pid=pid then some (fp k e ((fU (es.take k) pid).getD p0))else fU (es.take k) pid:=by
 obtain⟨hk,-⟩:=cy h
 rw[d6 h,qp,aD,bB I]
abbrev PB:=Int×Nat×Prod
abbrev Ca (b:Nat):Value:=.pointer (Qd b)
def rK (S:List PB):List (Int×Value):=S.map fun q=>(q.1,Ca q.2.1)
def yh (q:PB):Nat×Obj:=(q.2.1,.cells q.2.2.c.toArray lW (0,0))
def jG (bm:Nat) (S:List PB):List (Nat×Obj):=(bm,uu (rK S))::S.map yh
def vr (S:List PB) (pid:Int):Option Prod:=(S.find? (fun q=>decide (q.1=pid))).map (·.2.2)
theorem va (S:List PB):(rK S).map (·.1)=S.map (·.1):=by simp[rK]
theorem Fs {S:List PB} {j:Nat} {pid:Int} {b:Nat} {p:Prod} (h:S[j]? =some (pid,b,p)):(rK S)[j]? =some (pid,Ca b):=by simp[rK,h]
theorem gH {S:List PB} {j:Nat} {pid:Int} {b:Nat} {p p':Prod} (h:S[j]? =some (pid,b,p)):rK (S.set j (pid,b,p'))=rK S:=by
 unfold rK
 apply dZ
 intro i
 rw[aI,aI,lI]
 split
 rename_i hij;subst hij
 obtain⟨hlt,hg⟩:=cy h
 simp[hlt,hg]
 rfl
theorem Ms {S:List PB} {j:Nat} {pid:Int} {b:Nat} {p p':Prod} (h:S[j]? =some (pid,b,p)):(S.set j (pid,b,p')).map (·.1)=S.map (·.1):=by
 rw[<-va,gH h,va]
theorem Fx {S:List PB} {j:Nat} {q:PB} (h:S[j]? =some q):(yh q::(S.eraseIdx j).map yh).Perm (S.map yh):=by
 obtain⟨hlt,rfl⟩:=cy h
 have:=Go.ChangeMaps.set_perm S j hlt S[j]
 rw[List.set_getElem_self]at this
 exact(this.map yh).symm
theorem jp {S:List PB} {j:Nat} {q q':PB} (h:S[j]? =some q):((S.set j q').map yh).Perm (yh q'::(S.eraseIdx j).map yh):=by
 obtain⟨hlt,-⟩:=cy h
 exact(Go.ChangeMaps.set_perm S j hlt q').map yh
theorem Dk {S:List PB} {pid:Int} (h: ∀ q∈S,q.1≠pid):vr S pid=none:=by
 unfold vr
 rw[B2.2 (fun q hq=>by simpa using h q hq)];rfl
theorem ve {S:List PB} (hn:(S.map (·.1)).Nodup) {j:Nat} {pid:Int} {b:Nat} {p:Prod} (h:S[j]? =some (pid,b,p)):vr S pid=some p:=by
 unfold vr
 induction S generalizing j with
 |nil=>simp at h
 |cons q r ih=>
  simp only[eU,jz]at hn
  cases j with
  |zero=>simp at h;subst h;simp
  |succ j=>
   simp only[pg]at h
   have hne: ¬ q.1=pid:=fun e=>hn.1 (bD.2 ⟨_,ab h,e.symm⟩)
   rw[pO (by simpa using hne)]
   exact ih hn.2 h
theorem AQ (S:List PB) (pid:Int):(∀ q∈S,q.1≠pid)∨ ∃ (j b:Nat) (p:Prod),S[j]? =some (pid,b,p):=by
 by_cases h: ∃ q∈S,q.1=pid
 obtain⟨⟨a,b,p⟩,hq,rfl⟩:=h
 obtain⟨j,hj⟩:=aN.1 hq
 exact .inr ⟨j,b,p,hj⟩
 exact .inl fun q hq e=>h ⟨q,hq,e⟩
theorem Mp (S:List PB) (q:PB) {pid:Int} (h:q.1≠pid):vr (S++[q]) pid=vr S pid:=by
 unfold vr
 rw[List.find?_append,pO (by simpa using h)]
 simp
theorem Mo {S:List PB} {j:Nat} {k:Int} {b:Nat} {p p':Prod} (h:S[j]? =some (k,b,p)) {pid:Int} (hp:k≠pid):vr (S.set j (k,b,p')) pid=vr S pid:=by
 unfold vr
 induction S generalizing j with
 |nil=>simp at h
 |cons q r ih=>
  cases j with
  |zero=>
   simp at h;subst h
   simp only[B1]
   rw[pO (by simpa using hp),pO (by simpa using hp)]
  |succ j=>
   simp only[pg]at h
   simp only[List.set_cons_succ,List.find?_cons]
   split
   rfl
   exact ih h
def PS (S:List PB) (es:List cr):Prop:=(S.map (·.1)).Nodup/\ ∀ pid,vr S pid=fU es pid
theorem NT {S:List PB} {es:List cr} {k:Nat} {e:cr} (h:es[k]? =some e) (h0:e.pid=0) (hs:PS S (es.take k)):PS S (es.take (k+1)):=
 ⟨hs.1,fun pid=>by rw[Au h,if_neg (fun x=>x.1 h0)];exact hs.2 pid⟩
theorem ln {S:List PB} {es:List cr} {k j:Nat} {e:cr} {b:Nat} {p:Prod} (h:es[k]? =some e) (h0:e.pid≠0) (hn:(S.map (·.1)).Nodup) (hj:S[j]? =some (e.pid,b,p)) (hp:p=(fU (es.take k) e.pid).getD p0) (ho: ∀ pid,pid≠e.pid->vr S pid=fU (es.take k) pid) {p':Prod} (hp':p'=fp k e p):
  PS (S.set j (e.pid,b,p')) (es.take (k+1)):=by
 have hn':((S.set j (e.pid,b,p')).map (·.1)).Nodup:=by rw[Ms hj];exact hn
 refine⟨hn',fun pid=> ?_⟩
 rw[Au h]
 by_cases hpid:e.pid=pid
 subst hpid
 obtain⟨hlt,-⟩:=cy hj
 rw[if_pos ⟨h0,rfl⟩,ve hn' (al hlt),hp',<-hp]
 rw[if_neg (fun x=>hpid x.2),Mo hj hpid]
 exact ho pid (Ne.symm hpid)
theorem Dd (es:List cr) (A:Option Addr) (c:Nat) (w:World) (hr:Rd hJ 0 w.heap.size A es w) (hb:es.length<=1000000):
  dt aa Cg [.slice A es.length c] w fun v w2=> ∃ S bm,v=.map (some bm)/\PS S es/\Hp w w2 (jG bm S) []:=by
 refine aG Bp Z Z ?_
 have H:=Hp.startRd hr
 refine W<|Zr<|G (Nb Z)<|U<|W<|Zr<|Rx H Z fun w1 bm H=>G (Nb Z)<|U<|W<|W<|Zr<|G (Ys Z)<|G (bh eN Z)<|G (Yi Z)<|U<|Zb ?_
 refine cf (τ:=Nat×List PB) [4,5,6,10,11,12,13,14,15,16,17,18,19,20,21,22,23,24,25,26,27,28,29,30,31,32,33,34,35,36,37,38,39,40,41,42,43,44,45,46,47,48,49,50,51,52,53,54,55,56,57,58,59,60,61,62,63,64,65,66,67,68,69,70,71,72,73,74] (fun(k,S)=>[(10,J (k:Nat))]) (fun(k,S) w'=>k<=es.length/\PS S (es.take k)/\Hp w w' (jG bm S) [ey hJ 0 w.heap.size A es]) (fun(k,_)=>es.length-k) (0,[]) ⟨by omega,⟨List.nodup_nil,fun pid=>rfl⟩,H⟩ (dR Z) ?_
 rintro⟨k,S⟩ ρ1 w2 ⟨hk,hS,H⟩
 show CW _ _ _ _ (dK (ia _ _ ρ1) [(10,J (k:Nat))]) w2
 refine W<|Zr ?_
 refine du (cO Z Z) Z Z Z (fun h11=> ?_) (fun h11=> ?_)
 ·
  refine U<|W<|ZT Z<|Zk<|W<|Zb<|W<|Zr<|G (Yi Z)<|qg H 0 Z dW Z Z I I Z fun b3 o3 x3 e3=>G (ka (xs:=cr.c x3) dJ Z Z e3.cl)<|fc H gB Z fun w4 b5 H=>G (Wi Z)<|Lj H 0 fa Z Z Z Z Z Z fun w5 H=>U<|W<|W<|Zr<|G (Zf fx Z)<|G (Zd am H 0 Z Z Z) ?_
  refine du (bv Z Z) Z Z Z (fun h17=> ?_) (fun h17=> ?_)
  ·
   refine U<|ZT Z<|Zx<|Zr<|G (bp Z Z I I)<|G (Yi Z)<|U ?_
   refine⟨(k+1,S),⟨by have:=(cy e3.at_).1;omega,NT e3.at_ h17 hS,H.forget (aR _ _) (fun _ h=>h)⟩,dR Z,Qg,by show es.length- (k+1)<es.length-k;omega⟩
  ·
   refine U<|ZF Z<|Zk<|W<|Zr<|G (Mk Z)<|G (Zf fx Z)<|G (Zd am H 0 Z Z Z) ?_
   rcases AQ S x3.pid with hno|⟨j,b,p,hj⟩
   ·
    refine G (O3 sF rc Z Z (H.ent (i:=1) Z) (by intro q hq;obtain⟨a,ha,rfl⟩:=bD.1 hq;exact hno a ha))<|G (Wp Z)<|U<|W ?_
    refine ft (τ:=List PB×Nat×Nat×Prod) [6,22,23,24,25,26,27,28,29] (fun(S1,j,b,p)=>[(6,Ca b)]) (fun(S1,j,b,p) w'=>(S1.map (·.1)).Nodup/\S1[j]? =some (x3.pid,b,p)/\p=(fU (es.take k) x3.pid).getD p0/\(∀ pid,pid≠x3.pid->vr S1 pid=fU (es.take k) pid)/\Hp w w' ((b,.cells p.c.toArray lW (0,0))::(b5,.cells (cr.c x3).toArray dA (0,0))::(bm,uu (rK S1))::(S1.eraseIdx j).map yh) [ey hJ 0 w.heap.size A es]) ?_ ?_
    ·skip
     refine W<|Zr<|G (Yp Z)<|G (yg oc Z)<|U<|ZT Z<|W<|Zr<|G (bC (cs:=(Prod.c p0).toArray) yY z4 N)<|gY H Z Z fun w6 b25 H=>G (Wp Z)<|U<|Zr<|G (Mk Z)<|G (Zf fx Z)<|G (Zd am H 1 Z Z Z)<|G (Yp Z)<|Rv H 2 sF Z Z Z Z (by intro q hq;obtain⟨a,ha,rfl⟩:=bD.1 hq;exact hno a ha) fun w7 H=>U ?_
     have hj:(S++[(x3.pid,b25,p0)])[S.length]? =some (x3.pid,b25,p0):=by simp
     have hkn:vr S x3.pid=none:=Dk hno
     rw[hS.2]at hkn
     refine⟨(S++[(x3.pid,b25,p0)],S.length,b25,p0),⟨?_,hj,by rw[hkn];rfl,fun pid hpid=>by rw[Mp _ _ (Ne.symm hpid)];exact hS.2 pid,?_⟩,dR Z,Qg⟩
     ·rw[bk];exact pK.2 ⟨hS.1,by simp,by intro a ha c hc;simp at hc;subst hc;obtain⟨q,hq,rfl⟩:=bD.1 ha;exact hno q hq⟩
     ·have hmm:rK (S++[(x3.pid,b25,p0)])=rK S++[(x3.pid,Ca b25)]:=by simp[rK]
      have hee:(S++[(x3.pid,b25,p0)]).eraseIdx S.length=S:=by rw[List.eraseIdx_append_of_length_le (ao _)];simp
      rw[hmm,hee];exact H
    rintro⟨S1,j,b,p⟩ ρ2 w8 ⟨hn,hj,hp,ho,H⟩
    show CW _ _ _ _ (dK (ia _ _ ρ2) [(6,Ca b)]) w8
    refine W<|W ?_
    refine bL cD [0,1,2,3,4,5,6] [] [] [0,2,3,4,6] (sp []) N N N N Nq (cQ _) ?_
    refine aw Z Z Z Z Z (fun w' hw'=>Zf eP Z)<|aw Z Z Z Z Z (fun w' hw'=>bi am Z (aJ ((H.later hw').ent (i:=1) Z) Z))<|aw Z Z Z Z Z (fun w' hw'=>Yp Z)<|aw Z Z Z Z Z (fun w' hw'=>aH Z)<|aw Z Z Z Z Z (fun w' hw'=>Zf jY Z)<|aw Z Z Z Z Z (fun w' hw'=>bi am Z (aJ ((H.later hw').ent (i:=0) Z) Z)) ?_
    refine P3 Z Z Z Z Z (fun w' hw'=>jk Z Z) (fun h36=> ?_) (fun h36=> ?_)
    ·
     refine aU ?_
     intro w9 hw' hF
     replace H:=H.later hw';clear hw' hF
     refine U<|ZT Z<|Zr<|G (Yp Z)<|G (Yp Z)<|G (Zf eP Z)<|G (Zd am H 1 Z Z Z)<|G (aH Z)<|G (Zf jY Z)<|bA H 0 ((Prod.c ⟨x3.ver,p.seq,p.open_,p.mark⟩).toArray) bQ Z Z Z Z Z N N fun w10 H=>G (aH Z)<|G (Zf fz Z)<|bA H 0 ((Prod.c ⟨x3.ver,-1,p.open_,p.mark⟩).toArray) bQ Z Z Z Z Z N N fun w11 H=>U<|Zb<|W<|Zr<|G (Zf fi Z)<|G (Zd am H 1 Z Z Z) ?_
     refine rM (jk Z Z) Z Z Z (fun h66=> ?_) (fun h66=> ?_)
     ·
      refine G (Wb Z)<|U<|ZT Z<|Zr<|G (Yp Z)<|G (Yp Z)<|G (Yi Z)<|G (aH Z)<|G (Zf ec Z)<|bA H 0 ((Prod.c ⟨x3.ver,-1,-1,p.mark⟩).toArray) bQ Z Z Z Z Z N N fun w12 H=>G (aH Z)<|G (Zf iw Z)<|bA H 0 ((Prod.c ⟨x3.ver,-1,-1,k⟩).toArray) bQ Z Z Z Z Z N N fun w13 H=>U<|Zr<|G (bp Z Z I I)<|G (Yi Z)<|U ?_
      have hst:(⟨x3.ver,-1,-1,k⟩:Prod)=fp k x3 p:=by
       simp[fp,pv,h36,h66]
      have hP:=jp (q':=(x3.pid,b,(⟨x3.ver,-1,-1,k⟩:Prod))) hj
      refine⟨(k+1,S1.set j (x3.pid,b,(⟨x3.ver,-1,-1,k⟩:Prod))),⟨by omega,ln e3.at_ h17 hn hj hp ho hst,(H.perm (L':=(b5,_)::jG bm (S1.set j (x3.pid,b,_))) (by unfold jG;rw[gH hj];exact((hP.cons _).cons _).trans (((ak _ _ _).cons _).trans (ak _ _ _)))).forget (aR _ _) (fun _ h=>h)⟩,dR Z,Qg,by show es.length- (k+1)<es.length-k;omega⟩
     ·
      refine G (Wb Z)<|U<|ZF Z<|W<|Zr<|G (Yp Z)<|G (Zf fj Z)<|G (Zd am H 1 Z Z Z)<|G (aH Z)<|G (Zf fz Z)<|bA H 0 ((Prod.c ⟨x3.ver,x3.seq,p.open_,p.mark⟩).toArray) bQ Z Z Z Z Z N N fun w14 H=>U<|W<|Zr<|G (Zf jh Z) ?_
      refine zS (bi eS Z (aJ (H.ent (i:=1) Z) Z)) Z Z Z (fun h51=> ?_) (fun h51=> ?_)
      ·
       refine G (Yb Z)<|ZG<|G (Yp Z)<|ZG<|G (aH Z)<|ZG<|G (Zf ec Z)<|ZG<|G (Zd am H 0 Z Z Z)<|ZG ?_
       refine du (cO Z Z) Z Z Z (fun h57=> ?_) (fun h57=> ?_)
       ·
        refine G (Kt Z Z)<|U<|ZT Z<|Zr<|G (Yp Z)<|G (Yi Z)<|G (aH Z)<|G (Zf ec Z)<|bA H 0 ((Prod.c ⟨x3.ver,x3.seq,k,p.mark⟩).toArray) bQ Z Z Z Z Z N N fun w15 H=>U<|Zr<|G (bp Z Z I I)<|G (Yi Z)<|U ?_
        replace h57:p.open_<0:=h57
        have hst:(⟨x3.ver,x3.seq,k,p.mark⟩:Prod)=fp k x3 p:=by
         simp[fp,pv,h36,h66,h51,h57]
        have hP:=jp (q':=(x3.pid,b,(⟨x3.ver,x3.seq,k,p.mark⟩:Prod))) hj
        refine⟨(k+1,S1.set j (x3.pid,b,(⟨x3.ver,x3.seq,k,p.mark⟩:Prod))),⟨by omega,ln e3.at_ h17 hn hj hp ho hst,(H.perm (L':=(b5,_)::jG bm (S1.set j (x3.pid,b,_))) (by unfold jG;rw[gH hj];exact((hP.cons _).cons _).trans (((ak _ _ _).cons _).trans (ak _ _ _)))).forget (aR _ _) (fun _ h=>h)⟩,dR Z,Qg,by show es.length- (k+1)<es.length-k;omega⟩
       ·
        refine G (Kt Z Z)<|U<|ZF Z<|Zk<|Zr<|G (bp Z Z I I)<|G (Yi Z)<|U ?_
        replace h57: ¬ p.open_<0:=h57
        have hst:(⟨x3.ver,x3.seq,p.open_,p.mark⟩:Prod)=fp k x3 p:=by
         simp[fp,pv,h36,h66,h51,h57]
        have hP:=jp (q':=(x3.pid,b,(⟨x3.ver,x3.seq,p.open_,p.mark⟩:Prod))) hj
        refine⟨(k+1,S1.set j (x3.pid,b,(⟨x3.ver,x3.seq,p.open_,p.mark⟩:Prod))),⟨by omega,ln e3.at_ h17 hn hj hp ho hst,(H.perm (L':=(b5,_)::jG bm (S1.set j (x3.pid,b,_))) (by unfold jG;rw[gH hj];exact((hP.cons _).cons _).trans (((ak _ _ _).cons _).trans (ak _ _ _)))).forget (aR _ _) (fun _ h=>h)⟩,dR Z,Qg,by show es.length- (k+1)<es.length-k;omega⟩
      ·
       refine G (Yb Z)<|ZN<|ZN<|ZN<|ZN<|ZN<|G (N Z Z)<|U<|ZF Z<|Zk<|Zr<|G (bp Z Z I I)<|G (Yi Z)<|U ?_
       have hst:(⟨x3.ver,x3.seq,p.open_,p.mark⟩:Prod)=fp k x3 p:=by
        simp[fp,pv,h36,h66,h51]
       have hP:=jp (q':=(x3.pid,b,(⟨x3.ver,x3.seq,p.open_,p.mark⟩:Prod))) hj
       refine⟨(k+1,S1.set j (x3.pid,b,(⟨x3.ver,x3.seq,p.open_,p.mark⟩:Prod))),⟨by omega,ln e3.at_ h17 hn hj hp ho hst,(H.perm (L':=(b5,_)::jG bm (S1.set j (x3.pid,b,_))) (by unfold jG;rw[gH hj];exact((hP.cons _).cons _).trans (((ak _ _ _).cons _).trans (ak _ _ _)))).forget (aR _ _) (fun _ h=>h)⟩,dR Z,Qg,by show es.length- (k+1)<es.length-k;omega⟩
    ·
     refine aU ?_
     intro w16 hw' hF
     replace H:=H.later hw';clear hw' hF
     refine U<|ZF Z<|Zk<|Zb<|W<|Zr<|G (Zf fi Z)<|G (Zd am H 1 Z Z Z) ?_
     refine rM (jk Z Z) Z Z Z (fun h66=> ?_) (fun h66=> ?_)
     ·
      refine G (Wb Z)<|U<|ZT Z<|Zr<|G (Yp Z)<|G (Yp Z)<|G (Yi Z)<|G (aH Z)<|G (Zf ec Z)<|bA H 0 ((Prod.c ⟨p.ver,p.seq,-1,p.mark⟩).toArray) bQ Z Z Z Z Z N N fun w17 H=>G (aH Z)<|G (Zf iw Z)<|bA H 0 ((Prod.c ⟨p.ver,p.seq,-1,k⟩).toArray) bQ Z Z Z Z Z N N fun w18 H=>U<|Zr<|G (bp Z Z I I)<|G (Yi Z)<|U ?_
      have hst:(⟨p.ver,p.seq,-1,k⟩:Prod)=fp k x3 p:=by
       simp[fp,pv,h36,h66]
      have hP:=jp (q':=(x3.pid,b,(⟨p.ver,p.seq,-1,k⟩:Prod))) hj
      refine⟨(k+1,S1.set j (x3.pid,b,(⟨p.ver,p.seq,-1,k⟩:Prod))),⟨by omega,ln e3.at_ h17 hn hj hp ho hst,(H.perm (L':=(b5,_)::jG bm (S1.set j (x3.pid,b,_))) (by unfold jG;rw[gH hj];exact((hP.cons _).cons _).trans (((ak _ _ _).cons _).trans (ak _ _ _)))).forget (aR _ _) (fun _ h=>h)⟩,dR Z,Qg,by show es.length- (k+1)<es.length-k;omega⟩
     ·
      refine G (Wb Z)<|U<|ZF Z<|W<|Zr<|G (Yp Z)<|G (Zf fj Z)<|G (Zd am H 1 Z Z Z)<|G (aH Z)<|G (Zf fz Z)<|bA H 0 ((Prod.c ⟨p.ver,x3.seq,p.open_,p.mark⟩).toArray) bQ Z Z Z Z Z N N fun w19 H=>U<|W<|Zr<|G (Zf jh Z) ?_
      refine zS (bi eS Z (aJ (H.ent (i:=1) Z) Z)) Z Z Z (fun h51=> ?_) (fun h51=> ?_)
      ·
       refine G (Yb Z)<|ZG<|G (Yp Z)<|ZG<|G (aH Z)<|ZG<|G (Zf ec Z)<|ZG<|G (Zd am H 0 Z Z Z)<|ZG ?_
       refine du (cO Z Z) Z Z Z (fun h57=> ?_) (fun h57=> ?_)
       ·
        refine G (Kt Z Z)<|U<|ZT Z<|Zr<|G (Yp Z)<|G (Yi Z)<|G (aH Z)<|G (Zf ec Z)<|bA H 0 ((Prod.c ⟨p.ver,x3.seq,k,p.mark⟩).toArray) bQ Z Z Z Z Z N N fun w20 H=>U<|Zr<|G (bp Z Z I I)<|G (Yi Z)<|U ?_
        replace h57:p.open_<0:=h57
        have hst:(⟨p.ver,x3.seq,k,p.mark⟩:Prod)=fp k x3 p:=by
         simp[fp,pv,h36,h66,h51,h57]
        have hP:=jp (q':=(x3.pid,b,(⟨p.ver,x3.seq,k,p.mark⟩:Prod))) hj
        refine⟨(k+1,S1.set j (x3.pid,b,(⟨p.ver,x3.seq,k,p.mark⟩:Prod))),⟨by omega,ln e3.at_ h17 hn hj hp ho hst,(H.perm (L':=(b5,_)::jG bm (S1.set j (x3.pid,b,_))) (by unfold jG;rw[gH hj];exact((hP.cons _).cons _).trans (((ak _ _ _).cons _).trans (ak _ _ _)))).forget (aR _ _) (fun _ h=>h)⟩,dR Z,Qg,by show es.length- (k+1)<es.length-k;omega⟩
       ·
        refine G (Kt Z Z)<|U<|ZF Z<|Zk<|Zr<|G (bp Z Z I I)<|G (Yi Z)<|U ?_
        replace h57: ¬ p.open_<0:=h57
        have hst:(⟨p.ver,x3.seq,p.open_,p.mark⟩:Prod)=fp k x3 p:=by
         simp[fp,pv,h36,h66,h51,h57]
        have hP:=jp (q':=(x3.pid,b,(⟨p.ver,x3.seq,p.open_,p.mark⟩:Prod))) hj
        refine⟨(k+1,S1.set j (x3.pid,b,(⟨p.ver,x3.seq,p.open_,p.mark⟩:Prod))),⟨by omega,ln e3.at_ h17 hn hj hp ho hst,(H.perm (L':=(b5,_)::jG bm (S1.set j (x3.pid,b,_))) (by unfold jG;rw[gH hj];exact((hP.cons _).cons _).trans (((ak _ _ _).cons _).trans (ak _ _ _)))).forget (aR _ _) (fun _ h=>h)⟩,dR Z,Qg,by show es.length- (k+1)<es.length-k;omega⟩
      ·
       refine G (Yb Z)<|ZN<|ZN<|ZN<|ZN<|ZN<|G (N Z Z)<|U<|ZF Z<|Zk<|Zr<|G (bp Z Z I I)<|G (Yi Z)<|U ?_
       have hst:(⟨p.ver,x3.seq,p.open_,p.mark⟩:Prod)=fp k x3 p:=by
        simp[fp,pv,h36,h66,h51]
       have hP:=jp (q':=(x3.pid,b,(⟨p.ver,x3.seq,p.open_,p.mark⟩:Prod))) hj
       refine⟨(k+1,S1.set j (x3.pid,b,(⟨p.ver,x3.seq,p.open_,p.mark⟩:Prod))),⟨by omega,ln e3.at_ h17 hn hj hp ho hst,(H.perm (L':=(b5,_)::jG bm (S1.set j (x3.pid,b,_))) (by unfold jG;rw[gH hj];exact((hP.cons _).cons _).trans (((ak _ _ _).cons _).trans (ak _ _ _)))).forget (aR _ _) (fun _ h=>h)⟩,dR Z,Qg,by show es.length- (k+1)<es.length-k;omega⟩
   ·
    refine G (O2 sF rc Z Z (H.ent (i:=1) Z) (by rw[va];exact hS.1) (Fs hj))<|G (Wp Z)<|U<|W ?_
    refine ft (τ:=List PB×Nat×Nat×Prod) [6,22,23,24,25,26,27,28,29] (fun(S1,j,b,p)=>[(6,Ca b)]) (fun(S1,j,b,p) w'=>(S1.map (·.1)).Nodup/\S1[j]? =some (x3.pid,b,p)/\p=(fU (es.take k) x3.pid).getD p0/\(∀ pid,pid≠x3.pid->vr S1 pid=fU (es.take k) pid)/\Hp w w' ((b,.cells p.c.toArray lW (0,0))::(b5,.cells (cr.c x3).toArray dA (0,0))::(bm,uu (rK S1))::(S1.eraseIdx j).map yh) [ey hJ 0 w.heap.size A es]) ?_ ?_
    ·skip
     refine W<|Zr<|G (Yp Z)<|G (wk oc Z)<|U<|ZF Z<|Zk ?_
     refine⟨(S,j,b,p),⟨hS.1,hj,by rw[<-hS.2,ve hS.1 hj];rfl,fun pid _=>hS.2 pid,H.perm ?_⟩,dR Z,Qg⟩
     have hP:=Fx hj
     exact((ak _ _ _).trans ((ak _ _ _).cons _)).trans ((hP.cons _).cons _)
    rintro⟨S1,j,b,p⟩ ρ2 w21 ⟨hn,hj,hp,ho,H⟩
    show CW _ _ _ _ (dK (ia _ _ ρ2) [(6,Ca b)]) w21
    refine W<|W ?_
    refine bL cD [0,1,2,3,4,5,6] [] [] [0,2,3,4,6] (sp []) N N N N Nq (cQ _) ?_
    refine aw Z Z Z Z Z (fun w' hw'=>Zf eP Z)<|aw Z Z Z Z Z (fun w' hw'=>bi am Z (aJ ((H.later hw').ent (i:=1) Z) Z))<|aw Z Z Z Z Z (fun w' hw'=>Yp Z)<|aw Z Z Z Z Z (fun w' hw'=>aH Z)<|aw Z Z Z Z Z (fun w' hw'=>Zf jY Z)<|aw Z Z Z Z Z (fun w' hw'=>bi am Z (aJ ((H.later hw').ent (i:=0) Z) Z)) ?_
    refine P3 Z Z Z Z Z (fun w' hw'=>jk Z Z) (fun h36=> ?_) (fun h36=> ?_)
    ·
     refine aU ?_
     intro w22 hw' hF
     replace H:=H.later hw';clear hw' hF
     refine U<|ZT Z<|Zr<|G (Yp Z)<|G (Yp Z)<|G (Zf eP Z)<|G (Zd am H 1 Z Z Z)<|G (aH Z)<|G (Zf jY Z)<|bA H 0 ((Prod.c ⟨x3.ver,p.seq,p.open_,p.mark⟩).toArray) bQ Z Z Z Z Z N N fun w23 H=>G (aH Z)<|G (Zf fz Z)<|bA H 0 ((Prod.c ⟨x3.ver,-1,p.open_,p.mark⟩).toArray) bQ Z Z Z Z Z N N fun w24 H=>U<|Zb<|W<|Zr<|G (Zf fi Z)<|G (Zd am H 1 Z Z Z) ?_
     refine rM (jk Z Z) Z Z Z (fun h66=> ?_) (fun h66=> ?_)
     ·
      refine G (Wb Z)<|U<|ZT Z<|Zr<|G (Yp Z)<|G (Yp Z)<|G (Yi Z)<|G (aH Z)<|G (Zf ec Z)<|bA H 0 ((Prod.c ⟨x3.ver,-1,-1,p.mark⟩).toArray) bQ Z Z Z Z Z N N fun w25 H=>G (aH Z)<|G (Zf iw Z)<|bA H 0 ((Prod.c ⟨x3.ver,-1,-1,k⟩).toArray) bQ Z Z Z Z Z N N fun w26 H=>U<|Zr<|G (bp Z Z I I)<|G (Yi Z)<|U ?_
      have hst:(⟨x3.ver,-1,-1,k⟩:Prod)=fp k x3 p:=by
       simp[fp,pv,h36,h66]
      have hP:=jp (q':=(x3.pid,b,(⟨x3.ver,-1,-1,k⟩:Prod))) hj
      refine⟨(k+1,S1.set j (x3.pid,b,(⟨x3.ver,-1,-1,k⟩:Prod))),⟨by omega,ln e3.at_ h17 hn hj hp ho hst,(H.perm (L':=(b5,_)::jG bm (S1.set j (x3.pid,b,_))) (by unfold jG;rw[gH hj];exact((hP.cons _).cons _).trans (((ak _ _ _).cons _).trans (ak _ _ _)))).forget (aR _ _) (fun _ h=>h)⟩,dR Z,Qg,by show es.length- (k+1)<es.length-k;omega⟩
     ·
      refine G (Wb Z)<|U<|ZF Z<|W<|Zr<|G (Yp Z)<|G (Zf fj Z)<|G (Zd am H 1 Z Z Z)<|G (aH Z)<|G (Zf fz Z)<|bA H 0 ((Prod.c ⟨x3.ver,x3.seq,p.open_,p.mark⟩).toArray) bQ Z Z Z Z Z N N fun w27 H=>U<|W<|Zr<|G (Zf jh Z) ?_
      refine zS (bi eS Z (aJ (H.ent (i:=1) Z) Z)) Z Z Z (fun h51=> ?_) (fun h51=> ?_)
      ·
       refine G (Yb Z)<|ZG<|G (Yp Z)<|ZG<|G (aH Z)<|ZG<|G (Zf ec Z)<|ZG<|G (Zd am H 0 Z Z Z)<|ZG ?_
       refine du (cO Z Z) Z Z Z (fun h57=> ?_) (fun h57=> ?_)
       ·
        refine G (Kt Z Z)<|U<|ZT Z<|Zr<|G (Yp Z)<|G (Yi Z)<|G (aH Z)<|G (Zf ec Z)<|bA H 0 ((Prod.c ⟨x3.ver,x3.seq,k,p.mark⟩).toArray) bQ Z Z Z Z Z N N fun w28 H=>U<|Zr<|G (bp Z Z I I)<|G (Yi Z)<|U ?_
        replace h57:p.open_<0:=h57
        have hst:(⟨x3.ver,x3.seq,k,p.mark⟩:Prod)=fp k x3 p:=by
         simp[fp,pv,h36,h66,h51,h57]
        have hP:=jp (q':=(x3.pid,b,(⟨x3.ver,x3.seq,k,p.mark⟩:Prod))) hj
        refine⟨(k+1,S1.set j (x3.pid,b,(⟨x3.ver,x3.seq,k,p.mark⟩:Prod))),⟨by omega,ln e3.at_ h17 hn hj hp ho hst,(H.perm (L':=(b5,_)::jG bm (S1.set j (x3.pid,b,_))) (by unfold jG;rw[gH hj];exact((hP.cons _).cons _).trans (((ak _ _ _).cons _).trans (ak _ _ _)))).forget (aR _ _) (fun _ h=>h)⟩,dR Z,Qg,by show es.length- (k+1)<es.length-k;omega⟩
       ·
        refine G (Kt Z Z)<|U<|ZF Z<|Zk<|Zr<|G (bp Z Z I I)<|G (Yi Z)<|U ?_
        replace h57: ¬ p.open_<0:=h57
        have hst:(⟨x3.ver,x3.seq,p.open_,p.mark⟩:Prod)=fp k x3 p:=by
         simp[fp,pv,h36,h66,h51,h57]
        have hP:=jp (q':=(x3.pid,b,(⟨x3.ver,x3.seq,p.open_,p.mark⟩:Prod))) hj
        refine⟨(k+1,S1.set j (x3.pid,b,(⟨x3.ver,x3.seq,p.open_,p.mark⟩:Prod))),⟨by omega,ln e3.at_ h17 hn hj hp ho hst,(H.perm (L':=(b5,_)::jG bm (S1.set j (x3.pid,b,_))) (by unfold jG;rw[gH hj];exact((hP.cons _).cons _).trans (((ak _ _ _).cons _).trans (ak _ _ _)))).forget (aR _ _) (fun _ h=>h)⟩,dR Z,Qg,by show es.length- (k+1)<es.length-k;omega⟩
      ·
       refine G (Yb Z)<|ZN<|ZN<|ZN<|ZN<|ZN<|G (N Z Z)<|U<|ZF Z<|Zk<|Zr<|G (bp Z Z I I)<|G (Yi Z)<|U ?_
       have hst:(⟨x3.ver,x3.seq,p.open_,p.mark⟩:Prod)=fp k x3 p:=by
        simp[fp,pv,h36,h66,h51]
       have hP:=jp (q':=(x3.pid,b,(⟨x3.ver,x3.seq,p.open_,p.mark⟩:Prod))) hj
       refine⟨(k+1,S1.set j (x3.pid,b,(⟨x3.ver,x3.seq,p.open_,p.mark⟩:Prod))),⟨by omega,ln e3.at_ h17 hn hj hp ho hst,(H.perm (L':=(b5,_)::jG bm (S1.set j (x3.pid,b,_))) (by unfold jG;rw[gH hj];exact((hP.cons _).cons _).trans (((ak _ _ _).cons _).trans (ak _ _ _)))).forget (aR _ _) (fun _ h=>h)⟩,dR Z,Qg,by show es.length- (k+1)<es.length-k;omega⟩
    ·
     refine aU ?_
     intro w29 hw' hF
     replace H:=H.later hw';clear hw' hF
     refine U<|ZF Z<|Zk<|Zb<|W<|Zr<|G (Zf fi Z)<|G (Zd am H 1 Z Z Z) ?_
     refine rM (jk Z Z) Z Z Z (fun h66=> ?_) (fun h66=> ?_)
     ·
      refine G (Wb Z)<|U<|ZT Z<|Zr<|G (Yp Z)<|G (Yp Z)<|G (Yi Z)<|G (aH Z)<|G (Zf ec Z)<|bA H 0 ((Prod.c ⟨p.ver,p.seq,-1,p.mark⟩).toArray) bQ Z Z Z Z Z N N fun w30 H=>G (aH Z)<|G (Zf iw Z)<|bA H 0 ((Prod.c ⟨p.ver,p.seq,-1,k⟩).toArray) bQ Z Z Z Z Z N N fun w31 H=>U<|Zr<|G (bp Z Z I I)<|G (Yi Z)<|U ?_
      have hst:(⟨p.ver,p.seq,-1,k⟩:Prod)=fp k x3 p:=by
       simp[fp,pv,h36,h66]
      have hP:=jp (q':=(x3.pid,b,(⟨p.ver,p.seq,-1,k⟩:Prod))) hj
      refine⟨(k+1,S1.set j (x3.pid,b,(⟨p.ver,p.seq,-1,k⟩:Prod))),⟨by omega,ln e3.at_ h17 hn hj hp ho hst,(H.perm (L':=(b5,_)::jG bm (S1.set j (x3.pid,b,_))) (by unfold jG;rw[gH hj];exact((hP.cons _).cons _).trans (((ak _ _ _).cons _).trans (ak _ _ _)))).forget (aR _ _) (fun _ h=>h)⟩,dR Z,Qg,by show es.length- (k+1)<es.length-k;omega⟩
     ·
      refine G (Wb Z)<|U<|ZF Z<|W<|Zr<|G (Yp Z)<|G (Zf fj Z)<|G (Zd am H 1 Z Z Z)<|G (aH Z)<|G (Zf fz Z)<|bA H 0 ((Prod.c ⟨p.ver,x3.seq,p.open_,p.mark⟩).toArray) bQ Z Z Z Z Z N N fun w32 H=>U<|W<|Zr<|G (Zf jh Z) ?_
      refine zS (bi eS Z (aJ (H.ent (i:=1) Z) Z)) Z Z Z (fun h51=> ?_) (fun h51=> ?_)
      ·
       refine G (Yb Z)<|ZG<|G (Yp Z)<|ZG<|G (aH Z)<|ZG<|G (Zf ec Z)<|ZG<|G (Zd am H 0 Z Z Z)<|ZG ?_
       refine du (cO Z Z) Z Z Z (fun h57=> ?_) (fun h57=> ?_)
       ·
        refine G (Kt Z Z)<|U<|ZT Z<|Zr<|G (Yp Z)<|G (Yi Z)<|G (aH Z)<|G (Zf ec Z)<|bA H 0 ((Prod.c ⟨p.ver,x3.seq,k,p.mark⟩).toArray) bQ Z Z Z Z Z N N fun w33 H=>U<|Zr<|G (bp Z Z I I)<|G (Yi Z)<|U ?_
        replace h57:p.open_<0:=h57
        have hst:(⟨p.ver,x3.seq,k,p.mark⟩:Prod)=fp k x3 p:=by
         simp[fp,pv,h36,h66,h51,h57]
        have hP:=jp (q':=(x3.pid,b,(⟨p.ver,x3.seq,k,p.mark⟩:Prod))) hj
        refine⟨(k+1,S1.set j (x3.pid,b,(⟨p.ver,x3.seq,k,p.mark⟩:Prod))),⟨by omega,ln e3.at_ h17 hn hj hp ho hst,(H.perm (L':=(b5,_)::jG bm (S1.set j (x3.pid,b,_))) (by unfold jG;rw[gH hj];exact((hP.cons _).cons _).trans (((ak _ _ _).cons _).trans (ak _ _ _)))).forget (aR _ _) (fun _ h=>h)⟩,dR Z,Qg,by show es.length- (k+1)<es.length-k;omega⟩
       ·
        refine G (Kt Z Z)<|U<|ZF Z<|Zk<|Zr<|G (bp Z Z I I)<|G (Yi Z)<|U ?_
        replace h57: ¬ p.open_<0:=h57
        have hst:(⟨p.ver,x3.seq,p.open_,p.mark⟩:Prod)=fp k x3 p:=by
         simp[fp,pv,h36,h66,h51,h57]
        have hP:=jp (q':=(x3.pid,b,(⟨p.ver,x3.seq,p.open_,p.mark⟩:Prod))) hj
        refine⟨(k+1,S1.set j (x3.pid,b,(⟨p.ver,x3.seq,p.open_,p.mark⟩:Prod))),⟨by omega,ln e3.at_ h17 hn hj hp ho hst,(H.perm (L':=(b5,_)::jG bm (S1.set j (x3.pid,b,_))) (by unfold jG;rw[gH hj];exact((hP.cons _).cons _).trans (((ak _ _ _).cons _).trans (ak _ _ _)))).forget (aR _ _) (fun _ h=>h)⟩,dR Z,Qg,by show es.length- (k+1)<es.length-k;omega⟩
      ·
       refine G (Yb Z)<|ZN<|ZN<|ZN<|ZN<|ZN<|G (N Z Z)<|U<|ZF Z<|Zk<|Zr<|G (bp Z Z I I)<|G (Yi Z)<|U ?_
       have hst:(⟨p.ver,x3.seq,p.open_,p.mark⟩:Prod)=fp k x3 p:=by
        simp[fp,pv,h36,h66,h51]
       have hP:=jp (q':=(x3.pid,b,(⟨p.ver,x3.seq,p.open_,p.mark⟩:Prod))) hj
       refine⟨(k+1,S1.set j (x3.pid,b,(⟨p.ver,x3.seq,p.open_,p.mark⟩:Prod))),⟨by omega,ln e3.at_ h17 hn hj hp ho hst,(H.perm (L':=(b5,_)::jG bm (S1.set j (x3.pid,b,_))) (by unfold jG;rw[gH hj];exact((hP.cons _).cons _).trans (((ak _ _ _).cons _).trans (ak _ _ _)))).forget (aR _ _) (fun _ h=>h)⟩,dR Z,Qg,by show es.length- (k+1)<es.length-k;omega⟩
 ·
  refine U<|W<|ZF Z<|Zx<|W<|Zr<|G (Mk Z)<|G (Nb Z)<|U<|Zt ?_
  have hke:k=es.length:=by omega
  subst hke
  rw[bJ]at hS
  exact cn (v:=.map (some bm)) Z Z ⟨S,bm,rfl,hS,H.forget (au _) (by simp)⟩
/-- an entry of a transaction that has no end yet -/
def nF (es:List cr) (k:Nat) (pid:Int):Prop:= ∃ e,es[k]? =some e/\e.kind=1/\e.txn=true/\e.pid=pid/\pid≠0/\ ∀ j f,k<j->es[j]? =some f->f.pid=pid->f.kind=1
theorem l0 {es:List cr} {x:cr} {k:Nat} {pid:Int}:nF (es++[x]) k pid↔(k<es.length/\nF es k pid/\(x.pid=pid->x.kind=1))∨(k=es.length/\x.kind=1/\x.txn=true/\x.pid=pid/\pid≠0):=by
 constructor
 rintro⟨e,h1,h2,h3,h4,h5,h6⟩
 have hk:=(aE.1 h1).1
 simp at hk
 by_cases hkl:k<es.length
 left
 rw[cC hkl]at h1
 refine⟨hkl,⟨e,h1,h2,h3,h4,h5,fun j f hj hf hp=>h6 j f hj (by rw[cC (aE.1 hf).1];exact hf) hp⟩,fun hp=>h6 es.length x hkl (by simp) hp⟩
 right
 have:k=es.length:=by omega
 subst this
 simp at h1
 subst h1
 exact⟨rfl,h2,h3,h4,h5⟩
 rintro(⟨hk,⟨e,h1,h2,h3,h4,h5,h6⟩,hx⟩|⟨rfl,h2,h3,h4,h5⟩)
 refine⟨e,by rw[cC hk];exact h1,h2,h3,h4,h5,fun j f hj hf hp=> ?_⟩
 by_cases hjl:j<es.length
 rw[cC hjl]at hf;exact h6 j f hj hf hp
 have hj2:=(aE.1 hf).1
 simp at hj2
 have:j=es.length:=by omega
 subst this
 simp at hf
 subst hf
 exact hx hp
 refine⟨x,by simp,h2,h3,h4,h5,fun j f hj hf _=> ?_⟩
 have hj2:=(aE.1 hf).1
 simp at hj2
 omega
structure KG (es:List cr) (pid:Int) (p:Prod):Prop where
 opn:p.open_= -1∨ ∃ k:Nat,p.open_=k/\nF es k pid
 least: ∀ k,nF es k pid->0<=p.open_/\p.open_<=k
 mark:p.mark= -1∨ ∃ (k:Nat) (e:cr),p.mark=k/\es[k]? =some e/\e.pid=pid/\e.kind≠1
 seq:p.seq= -1∨ ∃ e∈es,e.pid=pid/\e.kind=1/\p.seq=e.seq/\p.ver=e.ver
 ver: ∃ e∈es,e.pid=pid/\p.ver=e.ver
theorem De {es:List cr} {x:cr} {p:Prod} (h0:x.pid≠0) (h:p=p0/\(∀ k,¬ nF es k x.pid)∨KG es x.pid p):KG (es++[x]) x.pid (fp es.length x p):=by
 have hpv:(pv x p).ver=x.ver/\(pv x p).open_=p.open_/\(pv x p).mark=p.mark/\((pv x p).seq= -1∨((pv x p).seq=p.seq/\p.ver=x.ver)):=by
  unfold pv
  split
  exact⟨rfl,rfl,rfl,.inl Z⟩
  rename_i hv
  have hv':x.ver=p.ver:=Classical.not_not.1 hv
  exact⟨hv'.symm,rfl,rfl,.inr ⟨rfl,hv'.symm⟩⟩
 obtain⟨v1,v2,v3,v4⟩:=hpv
 have hxm:x∈es++[x]:=by simp
 have hmark:p.mark= -1∨ ∃ (k:Nat) (e:cr),p.mark=k/\(es++[x])[k]? =some e/\e.pid=x.pid/\e.kind≠1:=by
  rcases h with⟨rfl,_⟩|h
  exact .inl Z
  rcases h.mark with h|⟨k,e,h1,h2,h3,h4⟩
  exact .inl h
  exact .inr ⟨k,e,h1,by rw[cC (aE.1 h2).1];exact h2,h3,h4⟩
 have hseq:(pv x p).seq= -1∨ ∃ e∈es++[x],e.pid=x.pid/\e.kind=1/\(pv x p).seq=e.seq/\x.ver=e.ver:=by
  rcases v4 with h1|⟨h1,h2⟩
  exact .inl h1
  rcases h with⟨rfl,_⟩|h
  exact .inl h1
  rcases h.seq with h|⟨e,he,a1,a2,a3,a4⟩
  exact .inl (h1.trans h)
  exact .inr ⟨e,iB _ he,a1,a2,h1.trans a3,h2.symm.trans a4⟩
 unfold fp
 split
 rename_i hk
 refine⟨.inl Z,fun k hok=> ?_,.inr ⟨es.length,x,rfl,by simp,rfl,hk⟩,?_,⟨x,hxm,rfl,v1⟩⟩
 rcases l0.1 hok with⟨_,_,h⟩|⟨_,h,_⟩
 exact absurd (h Z) hk
 exact absurd h hk
 rcases hseq with h|⟨e,he,a1,a2,a3,a4⟩
 exact .inl h
 exact .inr ⟨e,he,a1,a2,a3,v1.trans a4⟩
 rename_i hk
 have hk1:x.kind=1:=Classical.not_not.1 hk
 have hold: ∀ k,nF es k x.pid->nF (es++[x]) k x.pid:=fun k hok=>l0.2 (.inl ⟨by obtain⟨e,h,_⟩:=hok;exact(aE.1 h).1,hok,fun _=>hk1⟩)
 split
 rename_i ht
 rw[v2]at ht
 refine⟨.inr ⟨es.length,rfl,l0.2 (.inr ⟨rfl,hk1,ht.1,rfl,h0⟩)⟩,fun k hok=> ?_,by rw[v3];exact hmark,.inr ⟨x,hxm,rfl,hk1,rfl,v1⟩,⟨x,hxm,rfl,v1⟩⟩
 rcases l0.1 hok with⟨_,h1,_⟩|⟨rfl,_⟩
 rcases h with⟨_,hn⟩|h
 exact absurd h1 (hn k)
 have:=h.least k h1;omega
 exact⟨by simp,fl _⟩
 rename_i ht
 rw[v2]at ht
 refine⟨?_,fun k hok=> ?_,by rw[v3];exact hmark,.inr ⟨x,hxm,rfl,hk1,rfl,v1⟩,⟨x,hxm,rfl,v1⟩⟩
 rw[v2]
 rcases h with⟨rfl,_⟩|h
 exact .inl Z
 rcases h.opn with h|⟨k,h1,h2⟩
 exact .inl h
 exact .inr ⟨k,h1,hold k h2⟩
 rw[v2]
 rcases l0.1 hok with⟨_,h1,_⟩|⟨rfl,_,h2,_⟩
 rcases h with⟨_,hn⟩|h
 exact absurd h1 (hn k)
 exact h.least k h1
 rcases h with⟨rfl,_⟩|h
 exact absurd ⟨h2,by decide⟩ ht
 rcases h.opn with h|⟨k,h1,hok2⟩
 exact absurd ⟨h2,by omega⟩ ht
 obtain⟨_,hok3,_⟩:=hok2
 have:=(aE.1 hok3).1
 omega
theorem JH {es:List cr} {x:cr} {pid:Int} {p:Prod} (h0:x.pid≠pid) (h:KG es pid p):KG (es++[x]) pid p:=by
 have hold: ∀ k,nF (es++[x]) k pid↔nF es k pid:=fun k=>by
  rw[l0]
  constructor
  rintro(⟨_,h,_⟩|⟨_,_,_,h,_⟩)
  exact h
  exact absurd h h0
  intro h
  exact .inl ⟨by obtain⟨e,h,_⟩:=h;exact(aE.1 h).1,h,fun h=>absurd h h0⟩
 refine⟨?_,fun k hk=>h.least k ((hold k).1 hk),?_,?_,?_⟩
 rcases h.opn with h|⟨k,h1,h2⟩
 exact .inl h
 exact .inr ⟨k,h1,(hold k).2 h2⟩
 rcases h.mark with h|⟨k,e,h1,h2,h3⟩
 exact .inl h
 exact .inr ⟨k,e,h1,by rw[cC (aE.1 h2).1];exact h2,h3⟩
 rcases h.seq with h|⟨e,he,h⟩
 exact .inl h
 exact .inr ⟨e,iB _ he,h⟩
 obtain⟨e,he,h⟩:=h.ver
 exact⟨e,iB _ he,h⟩
theorem jU (es:List cr) (pid:Int):(∀ p,fU es pid=some p->KG es pid p)/\(fU es pid=none-> ∀ e∈es,e.pid=pid->pid=0):=by
 induction es using Ll with
 |h0=>exact⟨fun p h=>by simp[JE]at h,fun _ e he=>by cases he⟩
 |h1 es x ih=>
  obtain⟨ih1,ih2⟩:=ih
  rw[qp]
  by_cases hc:x.pid≠0/\x.pid=pid
  obtain⟨h0,rfl⟩:=hc
  rw[if_pos ⟨h0,rfl⟩]
  refine⟨fun p hp=> ?_,fun h=>by cases h⟩
  injection hp with hp
  subst hp
  cases hq:fU es x.pid with
  |none=>
   refine De h0 (.inl ⟨rfl,fun k hok=> ?_⟩)
   obtain⟨e,h1,_,_,h4,h5,_⟩:=hok
   exact h5 (ih2 hq e (ab h1) h4)
  |some q=>exact De h0 (.inr (ih1 q hq))
  rw[if_neg hc]
  refine⟨fun p hp=> ?_,fun h e he hpe=> ?_⟩
  by_cases hx:x.pid=pid
  have h0:x.pid=0:=Classical.byContradiction fun h=>hc ⟨h,hx⟩
  obtain⟨e,he,h1,h1v⟩:=(ih1 p hp).ver
  have h:=ih1 p hp
  have hz:pid=0:=hx▸h0
  have hnone: ∀ l k,¬ nF l k pid:=fun l k ⟨_,_,_,_,_,h,_⟩=>h hz
  refine⟨?_,fun k hk=>absurd hk (hnone _ k),?_,?_,?_⟩
  rcases h.opn with h|⟨k,_,h2⟩
  exact .inl h
  exact absurd h2 (hnone _ k)
  rcases h.mark with h|⟨k,e,h1,h2,h3⟩
  exact .inl h
  exact .inr ⟨k,e,h1,by rw[cC (aE.1 h2).1];exact h2,h3⟩
  rcases h.seq with h|⟨e,he,h⟩
  exact .inl h
  exact .inr ⟨e,iB _ he,h⟩
  exact⟨e,iB _ he,h1,h1v⟩
  exact JH hx (ih1 p hp)
  rcases ap.1 he with he|he
  exact ih2 h e he hpe
  rw[ar.1 he]at hpe
  exact Classical.byContradiction fun h0=>hc ⟨fun h=>h0 (hpe▸h),hpe⟩
def rN (es:List cr) (n:Nat):Prop:=n<=es.length/\(∀ k pid,nF es k pid->n<=k)/\(n=es.length∨ ∃ pid,nF es n pid)
theorem Hv {es:List cr} {n m:Nat} (h:rN es n) (h':rN es m):n=m:=by
 obtain⟨a1,a2,a3⟩:=h
 obtain⟨b1,b2,b3⟩:=h'
 have h1:n<=m:=by
  rcases b3 with h|⟨pid,h⟩
  omega
  exact a2 _ _ h
 have h2:m<=n:=by
  rcases a3 with h|⟨pid,h⟩
  omega
  exact b2 _ _ h
 omega
theorem J2 {es:List cr} {S:List PB} (hS:PS S es) {out:Int} (h1:out<=es.length) (h2: ∀ q∈S,0<=q.2.2.open_->out<=q.2.2.open_) (h3:out=es.length∨ ∃ q∈S,0<=q.2.2.open_/\out=q.2.2.open_): ∃ n:Nat,out=n/\rN es n:=by
 have hq: ∀ q∈S,KG es q.1 q.2.2:=fun q hq=>by
  obtain⟨a,b,p⟩:=q
  obtain⟨j,hj⟩:=aN.1 hq
  have:=ve hS.1 hj
  rw[hS.2]at this
  exact(jU es a).1 p this
 have h4: ∀ k pid,nF es k pid->out<=k:=fun k pid hok=>by
  cases hp:fU es pid with
  |none=>
   obtain⟨e,e1,_,_,e4,e5,_⟩:=hok
   exact absurd ((jU es pid).2 hp e (ab e1) e4) e5
  |some p=>
   have hl:=(((jU es pid).1 p hp).least k hok)
   have hlk:=hS.2 pid
   rw[hp]at hlk
   unfold vr at hlk
   cases hf:S.find? (fun q=>decide (q.1=pid))with
   |none=>rw[hf]at hlk;cases hlk
   |some q=>
    rw[hf]at hlk
    simp at hlk
    have hm:=List.mem_of_find?_eq_some hf
    have:=h2 q hm (by rw[hlk];exact hl.1)
    rw[hlk]at this
    omega
 rcases h3 with rfl|⟨q,hqm,q0,rfl⟩
 exact⟨es.length,rfl,ao _,fun k pid h=>by have:=h4 k pid h;omega,.inl Z⟩
 rcases(hq q hqm).opn with h|⟨k,hk,hok⟩
 omega
 refine⟨k,hk,by omega,fun j pid h=>by have:=h4 j pid h;omega,.inr ⟨_,hok⟩⟩
def yt (es:List cr) (p:Int):Bool:=
 match es.find? (fun e=>!decide (e.kind=1)&&decide (e.pid=p))with
 |some e=>decide (e.kind=2)
 |none=>false
def xf (es:List cr) (i:Nat) (e:cr):Bool:=!e.txn||yt (es.drop (i+1)) e.pid
theorem ux (e:cr) (es:List cr) (p:Int):yt (e::es) p=if¬ e.kind=1/\e.pid=p then decide (e.kind=2)else yt es p:=by
 unfold yt
 rw[List.find?_cons]
 by_cases h1:e.kind=1<;>by_cases h2:e.pid=p<;>simp[h1,h2]
theorem cM {α:Type} {l:List α} {k:Nat} {e:α} (h:l[k]? =some e):l.drop k=e::l.drop (k+1):=by
 obtain⟨hk,rfl⟩:=cy h
 exact nf hk
theorem On (es:List cr) (A:Option Addr) (c i:Nat) (x:cr) (w:World) (hr:Rd hJ 0 w.heap.size A es w) (hi:es[i]? =some x) (hc:es.length<=c) (hb:es.length<=1000000):
  dt aa FP [.slice A es.length c,J (i:Nat)] w fun v w2=>v=.bool (xf es i x)/\Below w.heap.size w w2:=by
 refine aG Ez Z Z ?_
 have H:=Hp.startRd hr
 have hil:=(cy hi).1
 refine W<|Zr<|G (Wb Z)<|U<|W<|W<|Zr<|G (Ys Z)<|G (Yi Z)<|qg H 0 Z dW Z Z I I Z fun b1 o1 x1 e1=> ?_
 obtain rfl:x=x1:=by have:=e1.at_;rw[hi]at this;injection this
 refine G (Zf jh Z) ?_
 refine zS (bi eS Z (e1.cl 5 _ Z)) Z Z Z (fun h11=> ?_) (fun h11=> ?_)
 refine G (ee Z)<|U<|ZF Z<|Zk<|W<|W<|Zr<|G (Ys Z)<|G (Yi Z)<|G (bp Z Z I I) ?_
 have h15:(i:Int)+1=((i+1:Nat):Int):=by omega
 rw[h15]
 refine Pm (k:=i+1) H 0 Z dW Z Z Z hc I Z fun A16 H=> ?_
 generalize hds:es.drop (i+1)=ds at H
 have hdl:es.length- (i+1)=ds.length:=by rw[<-hds];simp
 rw[hdl]
 refine G (bh eN Z)<|G (Yi Z)<|U<|Zb ?_
 refine cf (τ:=Nat) [4,6,18,19,20,21,22,23,24,25,26,27,28,29,30,31,32,33,34,35,36,37,38] (fun k=>[(18,J (k:Nat))]) (fun k w'=>k<=ds.length/\yt ds x.pid=yt (ds.drop k) x.pid/\Hp w w' [] [ey hJ 0 w.heap.size A16 ds,ey hJ 0 w.heap.size A es]) (fun k=>ds.length-k) 0 ⟨by omega,rfl,H⟩ (dR Z) ?_
 rintro k ρ1 w2 ⟨hk,hkp,H⟩
 show CW _ _ _ _ (dK (ia _ _ ρ1) [(18,J (k:Nat))]) w2
 refine W<|Zr ?_
 refine du (cO Z Z) Z Z Z (fun h19=> ?_) (fun h19=> ?_)
 refine U<|W<|ZT Z<|Zk<|W<|Zb<|W<|Zr<|qg H 0 Z dW Z Z I I Z fun b3 o3 x3 e3=>G (ka (xs:=cr.c x3) dJ Z Z e3.cl)<|fc H gB Z fun w4 b6 H=>Lj H 0 fa Z Z Z Z Z Z fun w5 H=>U<|W ?_
 refine bL cD [0,1,2,3,4,5,6,7,8,9,10,11,12] [] [] [0,2,3,4,6,7,8,9,11,12] (sp []) N N N N Nq (cQ _) ?_
 refine aw Z Z Z Z Z (fun w' hw'=>Zf fi Z)<|aw Z Z Z Z Z (fun w' hw'=>bi am Z (aJ ((H.later hw').ent (i:=0) Z) Z)) ?_
 refine P3 Z Z Z Z Z (fun w' hw'=>jk Z Z) (fun h24=> ?_) (fun h24=> ?_)
 refine aw Z Z Z Z Z (fun w' hw'=>Yb Z)<|aw Z Z Z Z Z (fun w' hw'=>Zf fx Z)<|aw Z Z Z Z Z (fun w' hw'=>bi am Z (aJ ((H.later hw').ent (i:=0) Z) Z))<|aw Z Z Z Z Z (fun w' hw'=>Ys Z)<|aw Z Z Z Z Z (fun w' hw'=>Yi Z)<|qI H 1 Z Z Z Z Z dW Z Z I I fun b6 o6 x6 e6=> ?_
 obtain rfl:x=x6:=by have:=e6.at_;rw[hi]at this;injection this
 refine aw Z Z Z Z Z (fun w' hw'=>Zf fx Z)<|aw Z Z Z Z Z (fun w' hw'=>bi am Z (e6.later hw' 1 _ Z)) ?_
 refine CN Z Z Z Z Z (fun w' hw'=>bv Z Z) (fun h33=> ?_) (fun h33=> ?_)
 refine aw Z Z Z Z Z (fun w' hw'=>Kt Z Z)<|aU ?_
 intro w7 hw' hF
 replace H:=H.later hw';clear hw' hF
 refine U<|ZT Z<|W<|Zr<|G (Zf fi Z)<|G (Zd am H 0 Z Z Z)<|G (bv Z Z)<|G (Wb Z)<|U<|Zt ?_
 have hdk:=cM e3.at_
 have hx:xf es i x=decide (x3.kind=2):=by
  unfold xf;rw[h11,hds,hkp,hdk,ux,if_pos ⟨h24,h33⟩];rfl
 exact cn (v:=.bool (decide (x3.kind=2))) Z Z ⟨by rw[hx],H.below⟩
 refine aw Z Z Z Z Z (fun w' hw'=>Kt Z Z)<|aU ?_
 intro w8 hw' hF
 replace H:=H.later hw';clear hw' hF
 refine U<|ZF Z<|Zk<|Zr<|G (bp Z Z I I)<|G (Yi Z)<|U ?_
 have hdk:=cM e3.at_
 rw[hdk,ux]at hkp
 rw[if_neg (by rintro⟨a,b⟩;first|exact a h24|exact h33 b)]at hkp
 refine⟨k+1,⟨by omega,hkp,H.forget (by simp) (fun _ h=>h)⟩,dR Z,Qg,by show ds.length- (k+1)<ds.length-k;omega⟩
 refine aw Z Z Z Z Z (fun w' hw'=>Yb Z)<|eZ Z Z Z Z<|eZ Z Z Z Z<|eZ Z Z Z Z<|eZ Z Z Z Z<|eZ Z Z Z Z<|eZ Z Z Z Z<|eZ Z Z Z Z<|eZ Z Z Z Z<|aw Z Z Z Z Z (fun w' hw'=>N Z Z)<|aU ?_
 intro w9 hw' hF
 replace H:=H.later hw';clear hw' hF
 refine U<|ZF Z<|Zk<|Zr<|G (bp Z Z I I)<|G (Yi Z)<|U ?_
 have hdk:=cM e3.at_
 rw[hdk,ux]at hkp
 rw[if_neg (by rintro⟨a,b⟩;first|exact a h24|exact h33 b)]at hkp
 refine⟨k+1,⟨by omega,hkp,H.forget (by simp) (fun _ h=>h)⟩,dR Z,Qg,by show ds.length- (k+1)<ds.length-k;omega⟩
 refine U<|W<|ZF Z<|Zx<|W<|Zr<|G (Wb Z)<|U<|Zt ?_
 have hx:xf es i x=false:=by
  unfold xf;rw[h11,hds,hkp,er I];rfl
 exact cn (v:=.bool false) Z Z ⟨by rw[hx],H.below⟩
 refine G (ee Z)<|U<|ZT Z<|W<|Zr<|G (Wb Z)<|U<|Zt ?_
 have hx:xf es i x=true:=by simp[xf,h11]
 exact cn (v:=.bool true) Z Z ⟨by rw[hx],H.below⟩
theorem LO {S:List PB} {m:Nat} {k:Int} {v:Value} (h:(rK S)[m]? =some (k,v)): ∃ (b:Nat) (p:Prod),S[m]? =some (k,b,p)/\v=Ca b:=by
 unfold rK at h
 rw[aI]at h
 cases hs:S[m]? with
 |none=>rw[hs]at h;cases h
 |some q=>
  rw[hs]at h
  obtain⟨a,b,p⟩:=q
  simp at h
  exact⟨b,p,by rw[h.1],h.2.symm⟩
def DT (n:Nat) (seen:Array Nat):Nat:=((gy n).filter fun m=>!seen.contains m).length
theorem CX {n m:Nat} {seen:Array Nat} (hm:m<n) (hs:seen.contains m=false):DT n (seen.push m)<DT n seen:=by
 unfold DT
 refine filter_lt _ _ (fun x hx=> ?_) m (by rw[hs];rfl) (by simp) _ (List.mem_range.2 hm)
 simp at hx⊢
 exact hx.1
theorem C6 (es:List cr) (A:Option Addr) (c n:Nat) (w:World) (hr:Rd hJ 0 w.heap.size A es w) (hc:es.length<=c) (hb:es.length<=1000000) (hn:n<=es.length):
  dt aa Ch [.slice A es.length c,J (n:Nat)] w fun v w2=> ∃ m:Nat,rN (es.take n) m/\v=.tuple #[J (m:Nat),J 0]/\Below w.heap.size w w2:=by
 refine aG Bq Z Z ?_
 have H:=Hp.startRd hr
 refine W<|Zr<|G (Wi Z)<|G (Wi Z)<|U<|W<|W<|Zr<|G (Yi Z)<|G (dp Z Z I)<|G (Yb Z)<|ZG<|G (Yi Z)<|ZG<|G (Ys Z)<|ZG<|G (bh eN Z)<|ZG<|G (eB Z Z I)<|G (N Z Z)<|U<|ZF Z<|Zk<|W<|Zr<|G (Yi Z)<|G (Wi Z)<|U<|W<|W<|Zr<|G (Ys Z)<|G (Yi Z)<|wd (k:=n) H 0 Z dW Z Z hc I Z fun A20 H=> ?_
 obtain⟨ds,hds⟩: ∃ ds,es.take n=ds:=⟨_,rfl⟩
 have hdl:n=ds.length:=by rw[<-hds];simp;omega
 rw[hds]at H⊢
 subst hdl
 refine cu uJ (Dd ds _ _ _ (H.rd0 0 Z) I) Z Z ?_
 rintro _ w1 ⟨S,bm,rfl,hS,hj⟩;replace H:=H.join hj;clear hj
 refine Rq H 0 sF Z Z Z fun w2 it H=>U<|Zb ?_
 refine cf (τ:=Array Nat×Int) [6,8,23,24,25,26,27,28,29,30,31,32,33,34,35,36,37] (fun(seen,out)=>[(6,J out)]) (fun(seen,out) w'=>out<=ds.length/\(∀ m q,S[m]? =some q->seen.contains m=true->0<=q.2.2.open_->out<=q.2.2.open_)/\(out=ds.length∨ ∃ q∈S,0<=q.2.2.open_/\out=q.2.2.open_)/\Hp w w' ((it,.mapIter (some bm) (rK S).length seen (rK S).length)::(jG bm S++[])) [ey hJ 0 w.heap.size A20 ds,ey hJ 0 w.heap.size A es]) (fun(seen,_)=>DT S.length seen) (#[],(ds.length:Int)) ⟨by omega,by simp,.inl Z,H⟩ (dR Z) ?_
 rintro⟨seen,out⟩ ρ1 w3 ⟨ho1,ho2,ho3,H⟩
 show CW _ _ _ _ (dK (ia _ _ ρ1) [(6,J out)]) w3
 refine W<|Zr ?_
 refine Rt H 0 1 Z Z Z Z ?_ ?_
 intro hall
 refine G (Xb Z Z)<|U<|W<|ZF Z<|Zx<|W<|Zr<|G (Yi Z)<|G (Wi Z)<|G (Wi Z)<|U<|Zt ?_
 have hpl:(rK S).length=S.length:=by simp[rK]
 obtain⟨m,rfl,hst⟩:=J2 hS ho1 (fun q hq h0=>by obtain⟨m,hm⟩:=aN.1 hq;exact ho2 m q hm (hall m (by rw[hpl];exact(cy hm).1)) h0) ho3
 exact my Z Z Z ⟨m,by first|exact hst|(rw[hds];exact hst),rfl,H.below⟩
 intro m k v w4 hm hsn H
 obtain⟨b,p,hmS,rfl⟩:=LO hm
 have hbk:=H.ent (i:=m+2) (b:=b) (o:=.cells p.c.toArray lW (0,0)) (by simp[jG,yh,hmS])
 have hml:=(cy hmS).1
 refine G (Xb Z Z)<|U<|W<|ZT Z<|Zk<|Zb<|W<|Zr<|G (QA Z (H.ent (i:=0) Z) (H.ent (i:=1) Z) hm)<|G (Qz Z Z)<|G (Wp Z)<|U<|W<|Zr<|G (Yp Z)<|G (aH Z)<|G (Zf ec Z)<|G (bi am Z (aJ hbk Z)) ?_
 refine du (ku Z Z) Z Z Z (fun h31=> ?_) (fun h31=> ?_)
 refine U<|ZT Z<|Zr<|G (Yi Z)<|G (Yp Z)<|G (aH Z)<|G (Zf ec Z)<|G (bi am Z (aJ hbk Z))<|G (yp Z Z)<|G (Wi Z)<|U ?_
 refine⟨(seen.push m,min out p.open_),⟨by omega,fun m2 q hq hs h0=> ?_,?_,H⟩,dR Z,Qg,CX hml hsn⟩
 rw[Array.contains_push]at hs
 rcases Bool.or_eq_true_iff.1 hs with hs|hs
 have:=ho2 m2 q hq hs h0;omega
 have hmm:m2=m:=by simpa using hs
 subst hmm;rw[hmS]at hq;injection hq with hq;subst hq;try dsimp only at h0⊢
 omega
 by_cases hmin:out<=p.open_
 rw[Int.min_eq_left hmin];exact ho3
 exact .inr ⟨_,ab hmS,h31,by dsimp only;omega⟩
 refine U<|ZF Z<|Zk ?_
 refine⟨(seen.push m,out),⟨by omega,fun m2 q hq hs h0=> ?_,?_,H⟩,dR Z,Qg,CX hml hsn⟩
 rw[Array.contains_push]at hs
 rcases Bool.or_eq_true_iff.1 hs with hs|hs
 have:=ho2 m2 q hq hs h0;omega
 have hmm:m2=m:=by simpa using hs
 subst hmm;rw[hmS]at hq;injection hq with hq;subst hq;try dsimp only at h0⊢
 exfalso;exact h31 h0
 exact ho3
def wq (es:List cr) (m:Int) (x:cr):Bool:=match es[m.toNat]? with
 |some e=>decide (e.kind=x.kind)&&decide (e.ver=x.ver)
 |none=>false
def k9 (x e:cr):Bool:=decide (e.kind=1)&&decide (e.pid=x.pid)&&decide (e.ver=x.ver)&&decide (e.seq=x.seq)
def mH (es:List cr) (x:cr) (p:Prod):Int×Int:=
 if x.ver<p.ver then(0,10)
 else if¬ x.kind=1 then(if p.open_<0/\0<=p.mark/\wq es p.mark x=true then(p.mark,0)else(-1,0))
 else if(if p.ver<x.ver then-1 else p.seq)+1<x.seq then(0,11)
 else if x.seq=(if p.ver<x.ver then-1 else p.seq)+1 then(-1,0)
 else match es.findIdx? (k9 x)with
  |some i=>((i:Int),0)
  |none=>(0,11)
def fo (es:List cr) (x:cr):Int×Int:=if x.pid=0 then(-1,0)else mH es x ((fU es x.pid).getD ⟨x.ver,-1,-1,-1⟩)
def QJ (w:World) (es:List cr):Sp:=⟨fun v w2=> ∃ S bm,v=.map (some bm)/\PS S es/\Hp w w2 (jG bm S) [],fun _ _ _ hb ⟨S,bm,h1,h2,h3⟩=>⟨S,bm,h1,h2,h3.later hb⟩⟩
def seqB (es:List cr):Prop:= ∀ e∈es,-1000000000000000<=e.seq/\e.seq<=1000000000000000
theorem Fq {es:List cr} {x:cr} (hq:seqB es) {p:Prod} (hp:p=(fU es x.pid).getD ⟨x.ver,-1,-1,-1⟩):(p.mark= -1∨ ∃ (k:Nat) (y:cr),p.mark=k/\es[k]? =some y)/\ -1000000000000000<=p.seq/\p.seq<=1000000000000000:=by
 cases h:fU es x.pid with
 |none=>rw[h]at hp;subst hp;exact⟨.inl Z,by simp⟩
 |some q=>
  rw[h]at hp
  simp at hp
  subst hp
  have hi:=(jU es x.pid).1 p h
  refine⟨?_,?_⟩
  rcases hi.mark with h|⟨k,e,h1,h2,_⟩
  exact .inl h
  exact .inr ⟨k,e,h1,h2⟩
  rcases hi.seq with h|⟨e,he,_,_,h,_⟩
  omega
  have:=hq e he;omega
theorem Gm {es:List cr} {x:cr} (h: ∀ j e,j<es.length->es[j]? =some e->k9 x e=false):es.findIdx? (k9 x)=none:=by
 rw[cL]
 intro e he
 obtain⟨j,hj⟩:=aN.1 he
 exact h j e (cy hj).1 hj
theorem BD {es:List cr} {x y:cr} {k:Nat} (hk:es[k]? =some y) (hy:k9 x y=true) (h: ∀ j e,j<k->es[j]? =some e->k9 x e=false):es.findIdx? (k9 x)=some k:=by
 rw[aP]
 obtain⟨hl,rfl⟩:=cy hk
 exact⟨hl,hy,fun j hj=>by rw[h j _ hj (aj I)];simp⟩
theorem Ry (S:List PB) (pid:Int) {w:World} {b:Nat} (hn:(S.map (·.1)).Nodup) (hb:w.heap[b]? =some (uu (rK S))): ∃ q:Option Addr,((q=none/\ ∀ r∈S,r.1≠pid)∨ ∃ (j c:Nat) (p:Prod),S[j]? =some (pid,c,p)/\q=some ⟨c,0,none⟩)/\ ∀ {ρ:gV} {dst:Option Nat} {x y:Operand} {t:TypeId} {p:String} {af:Array Edge} {g:Option (Nat×Bool)},ev ρ x=.map (some b)->ev ρ y=J pid->(execOp (ev ρ) (Og dst (.lookup Jc x y false) t p af g)).run aa w=.ok (.value (.pointer q)) w:=by
 rcases AQ S pid with h|⟨j,c,p,h⟩
 exact⟨none,.inl ⟨rfl,h⟩,fun hx hy=>O3 sF rc hx hy hb (by intro q hq;obtain⟨a,ha,rfl⟩:=bD.1 hq;exact h a ha)⟩
 exact⟨some ⟨c,0,none⟩,.inr ⟨j,c,p,h,rfl⟩,fun hx hy=>O2 sF rc hx hy hb (by rw[va];exact hn) (Fs h)⟩
theorem Jl (es:List cr) (A:Option Addr) (c:Nat) (x:cr) (w:World) (hr:Rd hJ 0 w.heap.size A es w) (hb:es.length<=1000000) (hq:seqB es):
  dt aa Ej [.slice A es.length c,x.v] w fun v w2=>v=.tuple #[J (fo es x).1,J (fo es x).2]/\Below w.heap.size w w2:=by
 refine aG Cn Z Z ?_
 have H:=Hp.startRd hr
 refine W<|Zr<|gY H Z Z fun w1 b3 H=>G (Wi Z)<|G (Wi Z)<|U<|W<|W<|Zr<|G (Zf fx Z)<|G (Zd am H 0 Z Z Z) ?_
 refine du (bv Z Z) Z Z Z (fun h11=> ?_) (fun h11=> ?_)
 refine U<|ZT Z<|W<|Zr<|G (Wi Z)<|G (Wi Z)<|U<|Zt ?_
 have hv:fo es x=(-1,0):=by unfold fo;rw[if_pos h11]
 exact my (v:=J (-1)) (v2:=J 0) Z Z Z ⟨by rw[hv],H.below⟩
 refine U<|ZF Z<|Zk<|W ?_
 refine bL cD [0,2,3,1] [4,5] [1] [0,2] (sp [(1,QJ w1 es)]) N N N N Nq (cQ _) ?_
 refine aw Z Z Z Z Z (fun w' hw'=>Ys Z)<|aw Z Z Z Z Z (fun w' hw'=>Zf fx Z)<|aw Z Z Z Z Z (fun w' hw'=>bi am Z (aJ ((H.later hw').ent (i:=0) Z) Z)) ?_
 refine zi uJ Z Z Z Z (fun w' hw'=>(Dd es _ _ w' ((H.later hw').rd0 0 Z) hb).mono (fun v w2 ⟨S,bm,h1,h2,h3⟩=>⟨h3.below,S,bm,h1,h2,Hp.base hw' h3⟩)) Z ?_;rintro v13-
 refine aU ?_
 intro w2 hw' hF
 obtain⟨-,S,bm,rfl,hS,hj⟩:=hF
 replace H:=H.join hj;clear hj hw'
 have hb3:=H.ent (i:=S.length+1) (b:=b3) (o:=.cells (cr.c x).toArray dA (0,0)) (by simp[jG])
 obtain⟨P16,hP16,hx16⟩:=Ry S x.pid hS.1 (H.ent (i:=0) Z)
 refine G (hx16 Z Z)<|G (Wp Z)<|U<|W ?_
 refine ft (τ:=Nat×Int×Int×Int×Int×List (Nat×Obj)) [6,17,18,19,20,21,22] (fun(b,_,_,_,_,_)=>[(6,Ca b)]) (fun(b,pv_,ps,po,pm,K) w'=>(⟨pv_,ps,po,pm⟩:Prod)=(fU es x.pid).getD ⟨x.ver,-1,-1,-1⟩/\Hp w w' ((b,.cells #[J pv_,J ps,J po,J pm] lW (0,0))::(b3,.cells (cr.c x).toArray dA (0,0))::K) [ey hJ 0 w.heap.size A es]) ?_ ?_
 refine W<|Zr ?_
 rcases hP16 with⟨rfl,hno⟩|⟨j,b,p,hj,rfl⟩
 refine G (Yp Z)<|G (yg oc Z)<|U<|ZT Z<|Zr<|G (Zf eP Z)<|G (bi am Z (aJ hb3 Z))<|G (bC (cs:= #[J x.ver,J (-1),J (-1),J (-1)]) yY z4 N)<|gY H Z Z fun w3 b22 H=>G (Wp Z)<|U ?_
 refine⟨(b22,x.ver,-1,-1,-1,jG bm S),⟨by rw[<-hS.2,Dk hno];rfl,H.perm ((t5 _ _).symm.cons _)⟩,dR Z,Qg⟩
 refine G (Yp Z)<|G (wk oc Z)<|U<|ZF Z<|Zk ?_
 have hP:=Fx hj
 refine⟨(b,p.ver,p.seq,p.open_,p.mark,(bm,uu (rK S))::(S.eraseIdx j).map yh),⟨by rw[<-hS.2,ve hS.1 hj];rfl,H.perm ?_⟩,dR Z,Qg⟩
 exact(qP (l₁:=[_,_])).symm.trans (((hP.cons _).cons _).trans (t5 _ _).symm)
 rintro⟨b,pv_,ps,po,pm,K⟩ ρ2 w4 ⟨hp,H⟩
 show CW _ _ _ _ (dK (ia _ _ ρ2) [(6,Ca b)]) w4
 obtain⟨hmark,hsq1,hsq2⟩:=Fq hq hp
 dsimp only at hsq1 hsq2
 refine W<|Zb<|W ?_
 refine bL cD [0,1,2,3,4,5,6,7] [] [] [0,2,3,4,6,7] (sp []) N N N N Nq (cQ _) ?_
 refine aw Z Z Z Z Z (fun w' hw'=>Zf eP Z)<|aw Z Z Z Z Z (fun w' hw'=>bi am Z (aJ ((H.later hw').ent (i:=1) Z) Z))<|aw Z Z Z Z Z (fun w' hw'=>Yp Z)<|aw Z Z Z Z Z (fun w' hw'=>aH Z)<|aw Z Z Z Z Z (fun w' hw'=>Zf jY Z)<|aw Z Z Z Z Z (fun w' hw'=>bi am Z (aJ ((H.later hw').ent (i:=0) Z) Z)) ?_
 refine CN Z Z Z Z Z (fun w' hw'=>cO Z Z) (fun h30=> ?_) (fun h30=> ?_)
 refine aw Z Z Z Z Z (fun w' hw'=>Wb Z)<|aU ?_
 intro w5 hw' hF
 replace H:=H.later hw';clear hw' hF
 refine U<|ZT Z<|W<|Zr<|G (Wi Z)<|G (Wi Z)<|U<|Zt ?_
 have hv:fo es x=(0,10):=by
  unfold fo;rw[if_neg h11,<-hp];unfold mH;simp[h30]
 exact my (v:=J (0)) (v2:=J 10) Z Z Z ⟨by rw[hv],H.below⟩
 refine aw Z Z Z Z Z (fun w' hw'=>Wb Z)<|aU ?_
 intro w6 hw' hF
 replace H:=H.later hw';clear hw' hF
 refine U<|ZF Z<|W<|Zr<|G (Zf fi Z)<|G (Zd am H 1 Z Z Z) ?_
 refine rM (jk Z Z) Z Z Z (fun h34=> ?_) (fun h34=> ?_)
 refine G (Wb Z)<|U<|ZT Z<|W<|W ?_
 refine bL cD [0,1,2,3,4,5,6,7,8,9,10,11,12,13,14,15,16,17,18,19,20,21,22,23,24,25,26,27,28,29,30,31,32,33,34,35,36,37] [] [] [0,1,2,4,5,6,7,8,10,11,12,13,14,15,16,18,19,21,23,24,25,26,27,28,29,31,32,34,36,37] (sp []) N N N N Nq (cQ _) ?_
 refine aw Z Z Z Z Z (fun w' hw'=>Yp Z)<|aw Z Z Z Z Z (fun w' hw'=>aH Z)<|aw Z Z Z Z Z (fun w' hw'=>Zf ec Z)<|aw Z Z Z Z Z (fun w' hw'=>bi am Z (aJ ((H.later hw').ent (i:=0) Z) Z)) ?_
 refine CN Z Z Z Z Z (fun w' hw'=>cO Z Z) (fun h39=> ?_) (fun h39=> ?_)
 refine aw Z Z Z Z Z (fun w' hw'=>Yb Z)<|aw Z Z Z Z Z (fun w' hw'=>Yp Z)<|aw Z Z Z Z Z (fun w' hw'=>aH Z)<|aw Z Z Z Z Z (fun w' hw'=>Zf iw Z)<|aw Z Z Z Z Z (fun w' hw'=>bi am Z (aJ ((H.later hw').ent (i:=0) Z) Z)) ?_
 refine CN Z Z Z Z Z (fun w' hw'=>ku Z Z) (fun h45=> ?_) (fun h45=> ?_)
 rcases hmark with hm1|⟨k,y,hmk,hyk⟩
 exfalso;dsimp only at hm1 h45;omega
 dsimp only at hmk
 subst hmk
 have hkl:=(cy hyk).1
 refine aw Z Z Z Z Z (fun w' hw'=>Kt Z Z)<|aw Z Z Z Z Z (fun w' hw'=>Yb Z)<|aw Z Z Z Z Z (fun w' hw'=>Ys Z)<|aw Z Z Z Z Z (fun w' hw'=>Yp Z)<|aw Z Z Z Z Z (fun w' hw'=>aH Z)<|aw Z Z Z Z Z (fun w' hw'=>Zf iw Z)<|aw Z Z Z Z Z (fun w' hw'=>bi am Z (aJ ((H.later hw').ent (i:=0) Z) Z))<|qI H 0 Z Z Z Z Z dW Z Z I I fun b7 o7 x7 e7=> ?_
 obtain rfl:y=x7:=by have:=e7.at_;rw[hyk]at this;injection this
 refine aw Z Z Z Z Z (fun w' hw'=>Zf fi Z)<|aw Z Z Z Z Z (fun w' hw'=>bi am Z (e7.later hw' 4 _ Z))<|aw Z Z Z Z Z (fun w' hw'=>Zf fi Z)<|aw Z Z Z Z Z (fun w' hw'=>bi am Z (aJ ((H.later hw').ent (i:=1) Z) Z)) ?_
 refine CN Z Z Z Z Z (fun w' hw'=>bv Z Z) (fun h58=> ?_) (fun h58=> ?_)
 refine aw Z Z Z Z Z (fun w' hw'=>Kt Z Z)<|aw Z Z Z Z Z (fun w' hw'=>Yb Z)<|aw Z Z Z Z Z (fun w' hw'=>Ys Z)<|aw Z Z Z Z Z (fun w' hw'=>Yp Z)<|aw Z Z Z Z Z (fun w' hw'=>aH Z)<|aw Z Z Z Z Z (fun w' hw'=>Zf iw Z)<|aw Z Z Z Z Z (fun w' hw'=>bi am Z (aJ ((H.later hw').ent (i:=0) Z) Z))<|qI H 0 Z Z Z Z Z dW Z Z I I fun b8 o8 x8 e8=> ?_
 obtain rfl:y=x8:=by have:=e8.at_;rw[hyk]at this;injection this
 refine aw Z Z Z Z Z (fun w' hw'=>Zf eP Z)<|aw Z Z Z Z Z (fun w' hw'=>bi am Z (e8.later hw' 2 _ Z))<|aw Z Z Z Z Z (fun w' hw'=>Zf eP Z)<|aw Z Z Z Z Z (fun w' hw'=>bi am Z (aJ ((H.later hw').ent (i:=1) Z) Z)) ?_
 refine CN Z Z Z Z Z (fun w' hw'=>bv Z Z) (fun h71=> ?_) (fun h71=> ?_)
 refine aw Z Z Z Z Z (fun w' hw'=>Kt Z Z)<|aU ?_
 intro w9 hw' hF
 replace H:=H.later hw';clear hw' hF
 refine U<|ZT Z<|W<|Zr<|G (Yp Z)<|G (aH Z)<|G (Zf iw Z)<|G (Zd am H 0 Z Z Z)<|G (Wi Z)<|G (Wi Z)<|U<|Zt ?_
 have hmk:wq es (k:Nat) x=true:=by
  unfold wq;rw[show((k:Nat):Int).toNat=k from rfl,hyk];simp[h58,h71]
 have hv:fo es x=((k:Int),0):=by
  unfold fo;rw[if_neg h11,<-hp];unfold mH;simp[h30,h34,h39,h45,h58,h71,hmk]
 exact my (v:=J ((k:Int))) (v2:=J 0) Z Z Z ⟨by rw[hv],H.below⟩
 refine aw Z Z Z Z Z (fun w' hw'=>Kt Z Z)<|aU ?_
 intro w10 hw' hF
 replace H:=H.later hw';clear hw' hF
 refine U<|ZF Z<|Zk<|W<|Zr<|G (Wi Z)<|G (Wi Z)<|U<|Zt ?_
 have hmk:wq es (k:Nat) x=false:=by
  unfold wq;rw[show((k:Nat):Int).toNat=k from rfl,hyk];simp[h58,h71]
 have hv:fo es x=(-1,0):=by
  unfold fo;rw[if_neg h11,<-hp];unfold mH;simp[h30,h34,h39,h45,h58,h71,hmk]
 exact my (v:=J (-1)) (v2:=J 0) Z Z Z ⟨by rw[hv],H.below⟩
 refine aw Z Z Z Z Z (fun w' hw'=>Kt Z Z)<|aw Z Z Z Z Z (fun w' hw'=>Yb Z)<|eZ Z Z Z Z<|eZ Z Z Z Z<|eZ Z Z Z Z<|eZ Z Z Z Z<|eZ Z Z Z Z<|eZ Z Z Z Z<|eZ Z Z Z Z<|eZ Z Z Z Z<|eZ Z Z Z Z<|eZ Z Z Z Z<|eZ Z Z Z Z<|aw Z Z Z Z Z (fun w' hw'=>N Z Z)<|aU ?_
 intro w11 hw' hF
 replace H:=H.later hw';clear hw' hF
 refine U<|ZF Z<|Zk<|W<|Zr<|G (Wi Z)<|G (Wi Z)<|U<|Zt ?_
 have hmk:wq es (k:Nat) x=false:=by
  unfold wq;rw[show((k:Nat):Int).toNat=k from rfl,hyk];simp[h58]
 have hv:fo es x=(-1,0):=by
  unfold fo;rw[if_neg h11,<-hp];unfold mH;simp[h30,h34,h39,h45,h58,hmk]
 exact my (v:=J (-1)) (v2:=J 0) Z Z Z ⟨by rw[hv],H.below⟩
 refine aw Z Z Z Z Z (fun w' hw'=>Kt Z Z)<|aw Z Z Z Z Z (fun w' hw'=>Yb Z)<|eZ Z Z Z Z<|eZ Z Z Z Z<|eZ Z Z Z Z<|eZ Z Z Z Z<|eZ Z Z Z Z<|eZ Z Z Z Z<|eZ Z Z Z Z<|eZ Z Z Z Z<|eZ Z Z Z Z<|eZ Z Z Z Z<|eZ Z Z Z Z<|aw Z Z Z Z Z (fun w' hw'=>N Z Z)<|aw Z Z Z Z Z (fun w' hw'=>Yb Z)<|eZ Z Z Z Z<|eZ Z Z Z Z<|eZ Z Z Z Z<|eZ Z Z Z Z<|eZ Z Z Z Z<|eZ Z Z Z Z<|eZ Z Z Z Z<|eZ Z Z Z Z<|eZ Z Z Z Z<|eZ Z Z Z Z<|eZ Z Z Z Z<|aw Z Z Z Z Z (fun w' hw'=>N Z Z)<|aU ?_
 intro w12 hw' hF
 replace H:=H.later hw';clear hw' hF
 refine U<|ZF Z<|Zk<|W<|Zr<|G (Wi Z)<|G (Wi Z)<|U<|Zt ?_
 have hv:fo es x=(-1,0):=by
  unfold fo;rw[if_neg h11,<-hp];unfold mH;simp[h30,h34,h39,h45]
 exact my (v:=J (-1)) (v2:=J 0) Z Z Z ⟨by rw[hv],H.below⟩
 refine aw Z Z Z Z Z (fun w' hw'=>Yb Z)<|eZ Z Z Z Z<|eZ Z Z Z Z<|eZ Z Z Z Z<|eZ Z Z Z Z<|eZ Z Z Z Z<|aw Z Z Z Z Z (fun w' hw'=>N Z Z)<|aw Z Z Z Z Z (fun w' hw'=>Yb Z)<|eZ Z Z Z Z<|eZ Z Z Z Z<|eZ Z Z Z Z<|eZ Z Z Z Z<|eZ Z Z Z Z<|eZ Z Z Z Z<|eZ Z Z Z Z<|eZ Z Z Z Z<|eZ Z Z Z Z<|eZ Z Z Z Z<|eZ Z Z Z Z<|aw Z Z Z Z Z (fun w' hw'=>N Z Z)<|aw Z Z Z Z Z (fun w' hw'=>Yb Z)<|eZ Z Z Z Z<|eZ Z Z Z Z<|eZ Z Z Z Z<|eZ Z Z Z Z<|eZ Z Z Z Z<|eZ Z Z Z Z<|eZ Z Z Z Z<|eZ Z Z Z Z<|eZ Z Z Z Z<|eZ Z Z Z Z<|eZ Z Z Z Z<|aw Z Z Z Z Z (fun w' hw'=>N Z Z)<|aU ?_
 intro w13 hw' hF
 replace H:=H.later hw';clear hw' hF
 refine U<|ZF Z<|Zk<|W<|Zr<|G (Wi Z)<|G (Wi Z)<|U<|Zt ?_
 have hv:fo es x=(-1,0):=by
  unfold fo;rw[if_neg h11,<-hp];unfold mH;simp[h30,h34,h39]
 exact my (v:=J (-1)) (v2:=J 0) Z Z Z ⟨by rw[hv],H.below⟩
 refine G (Wb Z)<|U<|ZF Z<|W ?_
 refine bL cD [0,1,2,3,4,5,6,7] [] [] [0,2,3,4,6,7] (sp []) N N N N Nq (cQ _) ?_
 refine aw Z Z Z Z Z (fun w' hw'=>Zf eP Z)<|aw Z Z Z Z Z (fun w' hw'=>bi am Z (aJ ((H.later hw').ent (i:=1) Z) Z))<|aw Z Z Z Z Z (fun w' hw'=>Yp Z)<|aw Z Z Z Z Z (fun w' hw'=>aH Z)<|aw Z Z Z Z Z (fun w' hw'=>Zf jY Z)<|aw Z Z Z Z Z (fun w' hw'=>bi am Z (aJ ((H.later hw').ent (i:=0) Z) Z)) ?_
 refine CN Z Z Z Z Z (fun w' hw'=>lf Z Z) (fun h84=> ?_) (fun h84=> ?_)
 refine aw Z Z Z Z Z (fun w' hw'=>Wb Z)<|aU ?_
 intro w14 hw' hF
 replace H:=H.later hw';clear hw' hF
 refine U<|ZT Z<|Zr<|G (Yp Z)<|G (aH Z)<|G (Zf fz Z)<|bA H 0 (#[J pv_,J (-1),J po,J pm]) bQ Z Z Z Z Z N N fun w15 H=>U<|W<|W ?_
 refine bL cD [0,1,2,3,4,5,6,7] [] [] [0,2,3,4,6,7] (sp []) N N N N Nq (cQ _) ?_
 refine aw Z Z Z Z Z (fun w' hw'=>Zf fj Z)<|aw Z Z Z Z Z (fun w' hw'=>bi am Z (aJ ((H.later hw').ent (i:=1) Z) Z))<|aw Z Z Z Z Z (fun w' hw'=>Yp Z)<|aw Z Z Z Z Z (fun w' hw'=>aH Z)<|aw Z Z Z Z Z (fun w' hw'=>Zf fz Z)<|aw Z Z Z Z Z (fun w' hw'=>bi am Z (aJ ((H.later hw').ent (i:=0) Z) Z))<|aw Z Z Z Z Z (fun w' hw'=>bp Z Z I I) ?_
 refine CN Z Z Z Z Z (fun w' hw'=>lf Z Z) (fun h95=> ?_) (fun h95=> ?_)
 refine aU ?_
 intro w16 hw' hF
 replace H:=H.later hw';clear hw' hF
 refine U<|ZT Z<|W<|Zr<|G (Wi Z)<|G (Wi Z)<|U<|Zt ?_
 replace h95:0<x.seq:=by omega
 have hv:fo es x=(0,11):=by
  unfold fo;rw[if_neg h11,<-hp];unfold mH;simp[h30,h34,h84,h95]
 exact my (v:=J (0)) (v2:=J 11) Z Z Z ⟨by rw[hv],H.below⟩
 refine aU ?_
 intro w17 hw' hF
 replace H:=H.later hw';clear hw' hF
 refine U<|ZF Z<|Zk<|W<|W ?_
 refine bL cD [0,1,2,3,4,5,6,7] [] [] [0,2,3,4,6,7] (sp []) N N N N Nq (cQ _) ?_
 refine aw Z Z Z Z Z (fun w' hw'=>Zf fj Z)<|aw Z Z Z Z Z (fun w' hw'=>bi am Z (aJ ((H.later hw').ent (i:=1) Z) Z))<|aw Z Z Z Z Z (fun w' hw'=>Yp Z)<|aw Z Z Z Z Z (fun w' hw'=>aH Z)<|aw Z Z Z Z Z (fun w' hw'=>Zf fz Z)<|aw Z Z Z Z Z (fun w' hw'=>bi am Z (aJ ((H.later hw').ent (i:=0) Z) Z))<|aw Z Z Z Z Z (fun w' hw'=>bp Z Z I I) ?_
 refine CN Z Z Z Z Z (fun w' hw'=>bv Z Z) (fun h103=> ?_) (fun h103=> ?_)
 refine aU ?_
 intro w18 hw' hF
 replace H:=H.later hw';clear hw' hF
 refine U<|ZT Z<|W<|Zr<|G (Wi Z)<|G (Wi Z)<|U<|Zt ?_
 replace h95: ¬ 0<x.seq:=by omega
 replace h103:x.seq=0:=by omega
 have hv:fo es x=(-1,0):=by
  unfold fo;rw[if_neg h11,<-hp];unfold mH;simp[h30,h34,h84,h95,h103]
 exact my (v:=J (-1)) (v2:=J 0) Z Z Z ⟨by rw[hv],H.below⟩
 refine aU ?_
 intro w19 hw' hF
 replace H:=H.later hw';clear hw' hF
 refine U<|ZF Z<|Zk<|W<|W<|Zr<|G (Ys Z)<|G (bh eN Z)<|G (Yi Z)<|U<|Zb ?_
 refine cf (τ:=Nat) [4,5,7,8,106,107,108,109,110,111,112,113,114,115,116,117,118,119,120,121,122,123,124,125,126,127,128,129,130,131,132,133,134,135,136] (fun i=>[(106,J (i:Nat))]) (fun i w'=>i<=es.length/\(∀ j e,j<i->es[j]? =some e->k9 x e=false)/\Hp w w' ((b,.cells #[J pv_,J (-1),J po,J pm] lW (0,0))::(b3,.cells (cr.c x).toArray dA (0,0))::K) [ey hJ 0 w.heap.size A es]) (fun i=>es.length-i) 0 ⟨by omega,by intro j e hj;omega,H⟩ (dR Z) ?_
 rintro i ρ3 w20 ⟨hi,hno,H⟩
 show CW _ _ _ _ (dK (ia _ _ ρ3) [(106,J (i:Nat))]) w20
 refine W<|Zr ?_
 refine du (cO Z Z) Z Z Z (fun h107=> ?_) (fun h107=> ?_)
 refine U<|W<|ZT Z<|Zk<|W<|Zb<|W<|Zr<|G (Yi Z)<|qg H 0 Z dW Z Z I I Z fun b21 o21 x21 e21=>G (ka (xs:=cr.c x21) dJ Z Z e21.cl)<|fc H gB Z fun w22 b8 H=>G (Wi Z)<|Lj H 0 fa Z Z Z Z Z Z fun w23 H=>U<|W<|Zr<|G (Zf fi Z)<|G (Zd am H 0 Z Z Z) ?_
 refine du (bv Z Z) Z Z Z (fun h113=> ?_) (fun h113=> ?_)
 refine G (Yb Z)<|ZG<|G (Zf fx Z)<|ZG<|G (Zd am H 0 Z Z Z)<|ZG<|G (Zf fx Z)<|ZG<|G (Zd am H 2 Z Z Z)<|ZG ?_
 refine du (bv Z Z) Z Z Z (fun h119=> ?_) (fun h119=> ?_)
 refine G (Kt Z Z)<|G (Yb Z)<|ZG<|G (Zf eP Z)<|ZG<|G (Zd am H 0 Z Z Z)<|ZG<|G (Zf eP Z)<|ZG<|G (Zd am H 2 Z Z Z)<|ZG ?_
 refine du (bv Z Z) Z Z Z (fun h126=> ?_) (fun h126=> ?_)
 refine G (Kt Z Z)<|G (Yb Z)<|ZG<|G (Zf fj Z)<|ZG<|G (Zd am H 0 Z Z Z)<|ZG<|G (Zf fj Z)<|ZG<|G (Zd am H 2 Z Z Z)<|ZG ?_
 refine du (bv Z Z) Z Z Z (fun h133=> ?_) (fun h133=> ?_)
 refine G (Kt Z Z)<|U<|ZT Z<|W<|Zr<|G (Yi Z)<|G (Wi Z)<|G (Wi Z)<|U<|Zt ?_
 replace h95: ¬ 0<x.seq:=by omega
 replace h103: ¬ x.seq=0:=by omega
 have hdup:=BD e21.at_ (by simp[k9,h113,h119,h126,h133]) hno
 have hv:fo es x=((i:Int),0):=by
  unfold fo;rw[if_neg h11,<-hp];unfold mH;simp[h30,h34,h84,h95,h103,hdup]
 exact my (v:=J ((i:Int))) (v2:=J 0) Z Z Z ⟨by rw[hv],H.below⟩
 refine G (Kt Z Z)<|U<|ZF Z<|Zk<|Zr<|G (bp Z Z I I)<|G (Yi Z)<|U ?_
 refine⟨i+1,⟨by omega,fun j e hj he=> ?_,H.forget (aR _ _) (fun _ h=>h)⟩,dR Z,Qg,by show es.length- (i+1)<es.length-i;omega⟩
 by_cases hji:j<i
 exact hno j e hji he
 have:j=i:=by omega
 subst this;have he2:=e21.at_;rw[he]at he2;injection he2 with he2;subst he2
 simp[k9,h113,h119,h126,h133]
 refine G (Kt Z Z)<|G (Yb Z)<|ZN<|ZN<|ZN<|ZN<|ZN<|G (N Z Z)<|U<|ZF Z<|Zk<|Zr<|G (bp Z Z I I)<|G (Yi Z)<|U ?_
 refine⟨i+1,⟨by omega,fun j e hj he=> ?_,H.forget (aR _ _) (fun _ h=>h)⟩,dR Z,Qg,by show es.length- (i+1)<es.length-i;omega⟩
 by_cases hji:j<i
 exact hno j e hji he
 have:j=i:=by omega
 subst this;have he2:=e21.at_;rw[he]at he2;injection he2 with he2;subst he2
 simp[k9,h113,h119,h126]
 refine G (Kt Z Z)<|G (Yb Z)<|ZN<|ZN<|ZN<|ZN<|ZN<|G (N Z Z)<|G (Yb Z)<|ZN<|ZN<|ZN<|ZN<|ZN<|G (N Z Z)<|U<|ZF Z<|Zk<|Zr<|G (bp Z Z I I)<|G (Yi Z)<|U ?_
 refine⟨i+1,⟨by omega,fun j e hj he=> ?_,H.forget (aR _ _) (fun _ h=>h)⟩,dR Z,Qg,by show es.length- (i+1)<es.length-i;omega⟩
 by_cases hji:j<i
 exact hno j e hji he
 have:j=i:=by omega
 subst this;have he2:=e21.at_;rw[he]at he2;injection he2 with he2;subst he2
 simp[k9,h113,h119]
 refine G (Yb Z)<|ZN<|ZN<|ZN<|ZN<|ZN<|G (N Z Z)<|G (Yb Z)<|ZN<|ZN<|ZN<|ZN<|ZN<|G (N Z Z)<|G (Yb Z)<|ZN<|ZN<|ZN<|ZN<|ZN<|G (N Z Z)<|U<|ZF Z<|Zk<|Zr<|G (bp Z Z I I)<|G (Yi Z)<|U ?_
 refine⟨i+1,⟨by omega,fun j e hj he=> ?_,H.forget (aR _ _) (fun _ h=>h)⟩,dR Z,Qg,by show es.length- (i+1)<es.length-i;omega⟩
 by_cases hji:j<i
 exact hno j e hji he
 have:j=i:=by omega
 subst this;have he2:=e21.at_;rw[he]at he2;injection he2 with he2;subst he2
 simp[k9,h113]
 refine U<|W<|ZF Z<|Zx<|W<|Zr<|G (Wi Z)<|G (Wi Z)<|U<|Zt ?_
 replace h95: ¬ 0<x.seq:=by omega
 replace h103: ¬ x.seq=0:=by omega
 have hdup:=Gm (x:=x) (es:=es) (fun j e hj he=>hno j e I he)
 have hv:fo es x=(0,11):=by
  unfold fo;rw[if_neg h11,<-hp];unfold mH;simp[h30,h34,h84,h95,h103,hdup]
 exact my (v:=J (0)) (v2:=J 11) Z Z Z ⟨by rw[hv],H.below⟩
 refine aw Z Z Z Z Z (fun w' hw'=>Wb Z)<|aU ?_
 intro w24 hw' hF
 replace H:=H.later hw';clear hw' hF
 refine U<|ZF Z<|Zk<|W<|W ?_
 refine bL cD [0,1,2,3,4,5,6,7] [] [] [0,2,3,4,6,7] (sp []) N N N N Nq (cQ _) ?_
 refine aw Z Z Z Z Z (fun w' hw'=>Zf fj Z)<|aw Z Z Z Z Z (fun w' hw'=>bi am Z (aJ ((H.later hw').ent (i:=1) Z) Z))<|aw Z Z Z Z Z (fun w' hw'=>Yp Z)<|aw Z Z Z Z Z (fun w' hw'=>aH Z)<|aw Z Z Z Z Z (fun w' hw'=>Zf fz Z)<|aw Z Z Z Z Z (fun w' hw'=>bi am Z (aJ ((H.later hw').ent (i:=0) Z) Z))<|aw Z Z Z Z Z (fun w' hw'=>bp Z Z I I) ?_
 refine CN Z Z Z Z Z (fun w' hw'=>lf Z Z) (fun h95=> ?_) (fun h95=> ?_)
 refine aU ?_
 intro w25 hw' hF
 replace H:=H.later hw';clear hw' hF
 refine U<|ZT Z<|W<|Zr<|G (Wi Z)<|G (Wi Z)<|U<|Zt ?_
 have hv:fo es x=(0,11):=by
  unfold fo;rw[if_neg h11,<-hp];unfold mH;simp[h30,h34,h84,h95]
 exact my (v:=J (0)) (v2:=J 11) Z Z Z ⟨by rw[hv],H.below⟩
 refine aU ?_
 intro w26 hw' hF
 replace H:=H.later hw';clear hw' hF
 refine U<|ZF Z<|Zk<|W<|W ?_
 refine bL cD [0,1,2,3,4,5,6,7] [] [] [0,2,3,4,6,7] (sp []) N N N N Nq (cQ _) ?_
 refine aw Z Z Z Z Z (fun w' hw'=>Zf fj Z)<|aw Z Z Z Z Z (fun w' hw'=>bi am Z (aJ ((H.later hw').ent (i:=1) Z) Z))<|aw Z Z Z Z Z (fun w' hw'=>Yp Z)<|aw Z Z Z Z Z (fun w' hw'=>aH Z)<|aw Z Z Z Z Z (fun w' hw'=>Zf fz Z)<|aw Z Z Z Z Z (fun w' hw'=>bi am Z (aJ ((H.later hw').ent (i:=0) Z) Z))<|aw Z Z Z Z Z (fun w' hw'=>bp Z Z I I) ?_
 refine CN Z Z Z Z Z (fun w' hw'=>bv Z Z) (fun h103=> ?_) (fun h103=> ?_)
 refine aU ?_
 intro w27 hw' hF
 replace H:=H.later hw';clear hw' hF
 refine U<|ZT Z<|W<|Zr<|G (Wi Z)<|G (Wi Z)<|U<|Zt ?_
 have hv:fo es x=(-1,0):=by
  unfold fo;rw[if_neg h11,<-hp];unfold mH;simp[h30,h34,h84,h95,h103]
 exact my (v:=J (-1)) (v2:=J 0) Z Z Z ⟨by rw[hv],H.below⟩
 refine aU ?_
 intro w28 hw' hF
 replace H:=H.later hw';clear hw' hF
 refine U<|ZF Z<|Zk<|W<|W<|Zr<|G (Ys Z)<|G (bh eN Z)<|G (Yi Z)<|U<|Zb ?_
 refine cf (τ:=Nat) [4,5,7,8,106,107,108,109,110,111,112,113,114,115,116,117,118,119,120,121,122,123,124,125,126,127,128,129,130,131,132,133,134,135,136] (fun i=>[(106,J (i:Nat))]) (fun i w'=>i<=es.length/\(∀ j e,j<i->es[j]? =some e->k9 x e=false)/\Hp w w' ((b,.cells #[J pv_,J ps,J po,J pm] lW (0,0))::(b3,.cells (cr.c x).toArray dA (0,0))::K) [ey hJ 0 w.heap.size A es]) (fun i=>es.length-i) 0 ⟨by omega,by intro j e hj;omega,H⟩ (dR Z) ?_
 rintro i ρ3 w29 ⟨hi,hno,H⟩
 show CW _ _ _ _ (dK (ia _ _ ρ3) [(106,J (i:Nat))]) w29
 refine W<|Zr ?_
 refine du (cO Z Z) Z Z Z (fun h107=> ?_) (fun h107=> ?_)
 refine U<|W<|ZT Z<|Zk<|W<|Zb<|W<|Zr<|G (Yi Z)<|qg H 0 Z dW Z Z I I Z fun b30 o30 x30 e30=>G (ka (xs:=cr.c x30) dJ Z Z e30.cl)<|fc H gB Z fun w31 b8 H=>G (Wi Z)<|Lj H 0 fa Z Z Z Z Z Z fun w32 H=>U<|W<|Zr<|G (Zf fi Z)<|G (Zd am H 0 Z Z Z) ?_
 refine du (bv Z Z) Z Z Z (fun h113=> ?_) (fun h113=> ?_)
 refine G (Yb Z)<|ZG<|G (Zf fx Z)<|ZG<|G (Zd am H 0 Z Z Z)<|ZG<|G (Zf fx Z)<|ZG<|G (Zd am H 2 Z Z Z)<|ZG ?_
 refine du (bv Z Z) Z Z Z (fun h119=> ?_) (fun h119=> ?_)
 refine G (Kt Z Z)<|G (Yb Z)<|ZG<|G (Zf eP Z)<|ZG<|G (Zd am H 0 Z Z Z)<|ZG<|G (Zf eP Z)<|ZG<|G (Zd am H 2 Z Z Z)<|ZG ?_
 refine du (bv Z Z) Z Z Z (fun h126=> ?_) (fun h126=> ?_)
 refine G (Kt Z Z)<|G (Yb Z)<|ZG<|G (Zf fj Z)<|ZG<|G (Zd am H 0 Z Z Z)<|ZG<|G (Zf fj Z)<|ZG<|G (Zd am H 2 Z Z Z)<|ZG ?_
 refine du (bv Z Z) Z Z Z (fun h133=> ?_) (fun h133=> ?_)
 refine G (Kt Z Z)<|U<|ZT Z<|W<|Zr<|G (Yi Z)<|G (Wi Z)<|G (Wi Z)<|U<|Zt ?_
 have hdup:=BD e30.at_ (by simp[k9,h113,h119,h126,h133]) hno
 have hv:fo es x=((i:Int),0):=by
  unfold fo;rw[if_neg h11,<-hp];unfold mH;simp[h30,h34,h84,h95,h103,hdup]
 exact my (v:=J ((i:Int))) (v2:=J 0) Z Z Z ⟨by rw[hv],H.below⟩
 refine G (Kt Z Z)<|U<|ZF Z<|Zk<|Zr<|G (bp Z Z I I)<|G (Yi Z)<|U ?_
 refine⟨i+1,⟨by omega,fun j e hj he=> ?_,H.forget (aR _ _) (fun _ h=>h)⟩,dR Z,Qg,by show es.length- (i+1)<es.length-i;omega⟩
 by_cases hji:j<i
 exact hno j e hji he
 have:j=i:=by omega
 subst this;have he2:=e30.at_;rw[he]at he2;injection he2 with he2;subst he2
 simp[k9,h113,h119,h126,h133]
 refine G (Kt Z Z)<|G (Yb Z)<|ZN<|ZN<|ZN<|ZN<|ZN<|G (N Z Z)<|U<|ZF Z<|Zk<|Zr<|G (bp Z Z I I)<|G (Yi Z)<|U ?_
 refine⟨i+1,⟨by omega,fun j e hj he=> ?_,H.forget (aR _ _) (fun _ h=>h)⟩,dR Z,Qg,by show es.length- (i+1)<es.length-i;omega⟩
 by_cases hji:j<i
 exact hno j e hji he
 have:j=i:=by omega
 subst this;have he2:=e30.at_;rw[he]at he2;injection he2 with he2;subst he2
 simp[k9,h113,h119,h126]
 refine G (Kt Z Z)<|G (Yb Z)<|ZN<|ZN<|ZN<|ZN<|ZN<|G (N Z Z)<|G (Yb Z)<|ZN<|ZN<|ZN<|ZN<|ZN<|G (N Z Z)<|U<|ZF Z<|Zk<|Zr<|G (bp Z Z I I)<|G (Yi Z)<|U ?_
 refine⟨i+1,⟨by omega,fun j e hj he=> ?_,H.forget (aR _ _) (fun _ h=>h)⟩,dR Z,Qg,by show es.length- (i+1)<es.length-i;omega⟩
 by_cases hji:j<i
 exact hno j e hji he
 have:j=i:=by omega
 subst this;have he2:=e30.at_;rw[he]at he2;injection he2 with he2;subst he2
 simp[k9,h113,h119]
 refine G (Yb Z)<|ZN<|ZN<|ZN<|ZN<|ZN<|G (N Z Z)<|G (Yb Z)<|ZN<|ZN<|ZN<|ZN<|ZN<|G (N Z Z)<|G (Yb Z)<|ZN<|ZN<|ZN<|ZN<|ZN<|G (N Z Z)<|U<|ZF Z<|Zk<|Zr<|G (bp Z Z I I)<|G (Yi Z)<|U ?_
 refine⟨i+1,⟨by omega,fun j e hj he=> ?_,H.forget (aR _ _) (fun _ h=>h)⟩,dR Z,Qg,by show es.length- (i+1)<es.length-i;omega⟩
 by_cases hji:j<i
 exact hno j e hji he
 have:j=i:=by omega
 subst this;have he2:=e30.at_;rw[he]at he2;injection he2 with he2;subst he2
 simp[k9,h113]
 refine U<|W<|ZF Z<|Zx<|W<|Zr<|G (Wi Z)<|G (Wi Z)<|U<|Zt ?_
 have hdup:=Gm (x:=x) (es:=es) (fun j e hj he=>hno j e I he)
 have hv:fo es x=(0,11):=by
  unfold fo;rw[if_neg h11,<-hp];unfold mH;simp[h30,h34,h84,h95,h103,hdup]
 exact my (v:=J (0)) (v2:=J 11) Z Z Z ⟨by rw[hv],H.below⟩
def DQ (es:List cr) (n i:Nat):List ByteArray:=match es[i]? with
 |some e=>if e.kind=1/\xf (es.take n) i e=true then [e.text]else []
 |none=>[]
def texts (es:List cr) (n a b:Nat):List ByteArray:=(List.range' a (b-a)).flatMap (DQ es n)
theorem Ad (es:List cr) (n a:Nat):texts es n a a=[]:=by simp[texts]
theorem s7 {es:List cr} {n a b:Nat} (h:a<=b):texts es n a (b+1)=texts es n a b++DQ es n b:=by
 unfold texts
 have e:b+1-a=(b-a)+1:=by omega
 rw[e,List.range'_1_concat,nh]
 have e2:a+(b-a)=b:=by omega
 simp[e2]
def xS (es:List cr) (n st a most:Nat) (out:List ByteArray) (b:Nat):Prop:=a<=b/\(b=a∨b<=st)/\out=texts es n a b/\out.length<=most/\(st<=b∨out.length=most)/\ ∀ bq_,a<=bq_->bq_<b->(texts es n a bq_).length<most
theorem NN (es:List cr) (A:Option Addr) (c n a most:Nat) (w:World) (hr:Rd hJ 0 w.heap.size A es w) (hc:es.length<=c) (hb:es.length<=1000000) (hn:n<=es.length) (ha:a<=es.length) (hm1:1<=most) (hm2:most<=20):
  dt aa zb [.slice A es.length c,J (n:Nat),J (a:Nat),J (most:Nat)] w fun v w2=> ∃ (st:Nat) (out:List ByteArray) (b:Nat) (A':Option Addr) (c':Nat),rN (es.take n) st/\xS es n st a most out b/\v=.tuple #[.slice A' out.length c',J (b:Nat),J 0]/\Rd mq w.heap.size w2.heap.size A' out w2/\out.length<=c'/\Below w.heap.size w w2:=by
 refine aG xt Z Z ?_
 have H:=Hp.startRd hr
 refine W<|Zr<|G (Ws Z)<|G (Wi Z)<|G (Wi Z)<|U<|W<|Zr<|G (Ys Z)<|G (Yi Z)<|cu uK (C6 es _ _ n _ (H.rd0 0 Z) hc hb hn) Z Z ?_
 rintro _ w1 ⟨st,hst,rfl,hb2⟩;replace H:=H.later hb2;clear hb2
 have hstl:st<=n:=by have:=hst.1;simp at this;omega
 refine G (Yu Z)<|G (Xi Z Z)<|G (Xi Z Z)<|G (Wi Z)<|G (Wi Z)<|U<|W<|W<|Zr<|G (Yi Z)<|G (cv Z Z Z)<|U<|ZF Z<|Zk<|W<|W<|Zr<|G (Yi Z)<|G (dp Z Z I)<|G (Yb Z)<|ZG<|G (Yi Z)<|ZG<|G (Ys Z)<|ZG<|G (bh eN Z)<|ZG<|G (eB Z Z I)<|G (N Z Z)<|G (Yb Z)<|ZG<|G (Yi Z)<|ZG<|G (dp Z Z I)<|G (N Z Z)<|G (Yb Z)<|ZG<|G (Yi Z)<|ZG<|G (eB Z Z I) ?_
 refine G (N Z Z)<|U<|ZF Z<|Zk<|W<|Zr<|G (Ws Z)<|U<|W<|Zr<|G (Yi Z)<|G (Wi Z)<|U<|W<|Zb ?_
 refine cf (τ:=Nat×List ByteArray×Option Addr×Nat) [13,14,41,42,43,44,45,46,47,48,49,50,51,52,53,54,55,56,57,58,59,60,61,62,63,64,65,66,67,68,69,70,71,72] (fun(at_,out,A1,c1)=>[(13,.slice A1 out.length c1),(14,J (at_:Nat))]) (fun(at_,out,A1,c1) w'=>a<=at_/\(at_=a∨at_<=st)/\out=texts es n a at_/\out.length<=most/\(∀ bq_,a<=bq_->bq_<at_->(texts es n a bq_).length<most)/\ ∃ L',gG mq (.slice A1 out.length c1) pd out L'/\Hp w w' ([]++L'++[]) [ey hJ 0 w.heap.size A es]) (fun(at_,_,_,_)=>st-at_) (a,[],none,0) ⟨by omega,.inl Z,(Ad _ _ _).symm,by simp,(fun _ _ _=>by omega),[],gG.nil,H⟩ (mK Z Z) ?_
 rintro⟨at_,out,A1,c1⟩ ρ1 w2 ⟨hat1,hat2,hout,hol,hmin,L1,ho,H⟩
 show CW _ _ _ _ (dK (ia _ _ ρ1) [(13,.slice A1 out.length c1),(14,J (at_:Nat))]) w2
 refine W<|W<|Zr<|G (Yi Z)<|G (Yi Z) ?_
 refine du (cO Z Z) Z Z Z (fun h43=> ?_) (fun h43=> ?_)
 refine G (Yb Z)<|ZG<|G (Ys Z)<|ZG<|G (bh jA Z)<|ZG<|G (Yi Z)<|ZG ?_
 refine du (cO Z Z) Z Z Z (fun h48=> ?_) (fun h48=> ?_)
 refine G (Kt Z Z)<|U<|ZT Z<|Zk<|W<|Zb<|W<|Zr<|G (Ys Z)<|G (Yi Z)<|qg H 0 Z dW Z Z I I Z fun b3 o3 x3 e3=> ?_
 have hxt:(es.take n)[at_]? =some x3:=by rw[fe I];exact e3.at_
 refine G (Zf fi Z)<|G (bi am Z (e3.cl 4 _ Z)) ?_
 refine du (bv Z Z) Z Z Z (fun h57=> ?_) (fun h57=> ?_)
 refine G (Yb Z)<|ZG<|G (Ys Z)<|ZG<|G (Yi Z)<|ZG<|wd (k:=n) H 0 Z dW Z Z hc I Z fun A61 H=>ZG ?_
 have hK:=On (es.take n) A61 c at_ x3 _ (H.rd0 0 Z) hxt (by simp;omega) (by simp;omega)
 rw[show(es.take n).length=n by simp;omega]at hK
 refine G (Yi Z)<|ZG<|cu EN (hK) Z Z ?_
 rintro _ w4 ⟨rfl,hb2⟩;replace H:=H.later hb2;clear hb2
 refine G (Kt Z Z)<|U ?_
 refine kI Z (fun hc64=> ?_) (fun hc64=> ?_)
 refine Zr<|G (Ys Z)<|G (Ys Z)<|G (Yi Z)<|qg H 1 Z dW Z Z I I Z fun b5 o5 x5 e5=>G (Zf qD Z)<|G (bi ba Z (e5.cl 6 _ Z))<|uO (vs:=[.string x5.text]) H ki E1 Z Z Z Z Z Z fun w6 b71 H=> ?_
 have hxx:x5=x3:=by have h1:=e3.at_;rw[e5.at_]at h1;injection h1
 refine wN (Y:=mq) tL (K:=[(b71,_)]) (L:=L1) (M:=[]) H ho (news:=[x5.text]) Z Z Z (zk.row (m:=1) (sz:=1) (H.ent (i:=0) Z) Z) (by simp only[cH];omega) Z ?_
 intro A3 c3 w7 L3 h3a _ ho3 H
 refine G (Ws Z)<|U<|Zr<|G (Yi Z)<|G (bp Z Z I I)<|G (Wi Z)<|U ?_
 have hvis:DQ es n at_=[x5.text]:=by unfold DQ;rw[e3.at_];simp only;rw[if_pos ⟨h57,hc64⟩,hxx]
 refine⟨(at_+1,out++[x5.text],A3,c3),⟨by omega,.inr I,by rw[s7 hat1,hvis,hout],by simp;omega,(fun bq_ h1 h2=>by rcases iZ bq_ at_ with h3|h3;exact hmin bq_ h1 h3;rw[show bq_=at_ by omega,<-hout];omega),L3,ho3,H.forget (by simp) (by simp)⟩,mK Z Z,Qg,by show st- (at_+1)<st-at_;omega⟩
 refine Zk<|Zr<|G (Yi Z)<|G (bp Z Z I I)<|G (Wi Z)<|U ?_
 have hvis:DQ es n at_=[]:=by unfold DQ;rw[e3.at_];simp only;rw[if_neg (by rintro⟨p,q⟩;first|exact h57 p|(rw[hc64]at q;cases q))]
 refine⟨(at_+1,out,A1,c1),⟨by omega,.inr I,by rw[s7 hat1,hvis,hout,aZ],hol,(fun bq_ h1 h2=>by rcases iZ bq_ at_ with h3|h3;exact hmin bq_ h1 h3;rw[show bq_=at_ by omega,<-hout];omega),L1,ho,H.forget (by simp) (by simp)⟩,mK Z Z,Qg,by show st- (at_+1)<st-at_;omega⟩
 refine G (Yb Z)<|ZN<|ZN<|ZN<|ZN<|ZN<|G (N Z Z)<|U<|ZF Z<|Zk<|Zr<|G (Yi Z)<|G (bp Z Z I I)<|G (Wi Z)<|U ?_
 have hvis:DQ es n at_=[]:=by unfold DQ;rw[e3.at_];simp only;rw[if_neg (by rintro⟨p,q⟩;first|exact h57 p|(rw[hc64]at q;cases q))]
 refine⟨(at_+1,out,A1,c1),⟨by omega,.inr I,by rw[s7 hat1,hvis,hout,aZ],hol,(fun bq_ h1 h2=>by rcases iZ bq_ at_ with h3|h3;exact hmin bq_ h1 h3;rw[show bq_=at_ by omega,<-hout];omega),L1,ho,H.forget (by simp) (by simp)⟩,mK Z Z,Qg,by show st- (at_+1)<st-at_;omega⟩
 refine G (Kt Z Z)<|U<|ZF Z<|Zx<|W<|Zr<|G (Ys Z)<|G (Yi Z)<|G (Ws Z)<|G (Wi Z)<|G (Wi Z)<|U<|Zt ?_
 obtain⟨A2,c2,he,hlc,-⟩:=ho.form
 injection he with h1 h2 h3
 subst h3
 exact HM Z Z Z Z ⟨st,out,at_,A1,c1,hst,⟨hat1,hat2,hout,hol,by omega,hmin⟩,rfl,ho.rd H,hlc,H.below⟩
 refine G (Yb Z)<|ZN<|ZN<|ZN<|ZN<|G (N Z Z)<|U<|ZF Z<|Zx<|W<|Zr<|G (Ys Z)<|G (Yi Z)<|G (Ws Z)<|G (Wi Z)<|G (Wi Z)<|U<|Zt ?_
 obtain⟨A2,c2,he,hlc,-⟩:=ho.form
 injection he with h1 h2 h3
 subst h3
 exact HM Z Z Z Z ⟨st,out,at_,A1,c1,hst,⟨hat1,hat2,hout,hol,by omega,hmin⟩,rfl,ho.rd H,hlc,H.below⟩
/-- what IndexFunc answers -/
def lO:Option Nat->Int
 |some i=>i
 |none=> -1
theorem Rd.blk {α:Type} {Y:fA α} {w:World} {b:Nat} {cs:Array Value} {T:TypeId} {fr:Nat×Nat} {es:List α} (h:w.heap[b]? =some (.cells cs T fr)) (hc:cs.toList=Y.all es):Rd Y 0 w.heap.size (Qd b) es w:=
 fun _=>⟨b,0,rfl,bN _,bV h,fun j u hj=>by rw[cF];exact aJ h (by rw[<-hc]at hj;simpa using hj)⟩
def PU:cr:=⟨0,0,0,0,1,false,⟨#[97]⟩⟩
inductive uh:List cr->Prop
 |nil:uh []
 |snoc {es:List cr} {x:cr}:uh es->(fo es x).2=0->(fo es x).1<0->uh (es++[x])
theorem LB {l:List cr} {f:cr} (h:uh (l++[f])):uh l/\(fo l f).2=0/\(fo l f).1<0:=by
 generalize hl:l++[f]=m at h
 cases h with
 |nil=>simp at hl
 |snoc hs a b=>
  obtain⟨rfl,hx⟩:=List.append_inj' hl Z
  simp at hx
  subst hx
  exact⟨hs,a,b⟩
theorem uh.take {es:List cr} (h:uh es): ∀ k,uh (es.take k):=by
 induction h with
 |nil=>intro k;simp;exact .nil
 |@snoc es x h h1 h2 ih=>
  intro k
  by_cases hk:k<=es.length
  rw[kO hk];exact ih k
  rw[eo (by simp;omega)];exact .snoc h h1 h2
def B0 (es:List cr) (pid ver:Int):Nat:=(es.filter fun e=>decide (e.kind=1)&&decide (e.pid=pid)&&decide (e.ver=ver)).length
theorem uH (es:List cr) (x:cr) (pid ver:Int):B0 (es++[x]) pid ver=B0 es pid ver+if x.kind=1/\x.pid=pid/\x.ver=ver then 1 else 0:=by
 unfold B0
 rw[jn,ay]
 congr 1
 by_cases h1:x.kind=1<;>by_cases h2:x.pid=pid<;>by_cases h3:x.ver=ver<;>simp[h1,h2,h3]
theorem Gv {es:List cr} {a b:Nat} (h:a<=b) (pid ver:Int):B0 (es.take a) pid ver<=B0 (es.take b) pid ver:=by
 unfold B0
 refine List.Sublist.length_le (List.Sublist.filter _ ?_)
 have:es.take a=(es.take b).take a:=by rw[dv,bB h]
 rw[this]
 exact List.take_sublist _ _
theorem xD {es:List cr} {pid ver:Int} (h: ∀ e∈es,e.pid=pid->e.ver≠ver):B0 es pid ver=0:=by
 unfold B0
 rw[List.length_eq_zero_iff,wQ]
 intro e he hc
 simp at hc
 exact h e he hc.1.2 hc.2
theorem E3 {es:List cr} {x:cr} (h0:x.pid≠0) (h1:(fo es x).2=0) (h2:(fo es x).1<0) {p:Prod} (hp:p=(fU es x.pid).getD ⟨x.ver,-1,-1,-1⟩):p.ver<=x.ver/\(x.kind=1->x.seq=(if p.ver<x.ver then-1 else p.seq)+1):=by
 unfold fo at h1 h2
 rw[if_neg h0,<-hp]at h1 h2
 unfold mH at h1 h2
 split at h1
 simp at h1
 rename_i hv
 rw[if_neg hv]at h2
 refine⟨by omega,fun hk=> ?_⟩
 rw[if_neg (fun h=>h hk)]at h1 h2
 generalize (if p.ver<x.ver then(-1:Int)else p.seq)=s at h1 h2⊢
 split at h1
 simp at h1
 rename_i hg
 rw[if_neg hg]at h2
 split at h1
 assumption
 rename_i hs
 rw[if_neg hs]at h2
 exfalso
 split at h1
 rename_i i hi
 rw[hi]at h2
 simp at h2
 omega
 simp at h1
theorem ye {es:List cr} (h:uh es): ∀ pid,pid≠0->(∀ p,fU es pid=some p->(∀ e∈es,e.pid=pid->e.ver<=p.ver)/\p.seq=(B0 es pid p.ver:Int)-1):=by
 induction h with
 |nil=>intro pid _ p hp;cases hp
 |@snoc es x h h1 h2 ih=>
  intro pid h0 p hp
  rw[qp]at hp
  by_cases hx:x.pid=pid
  subst hx
  rw[if_pos ⟨h0,rfl⟩]at hp
  injection hp with hp
  obtain⟨v1,v2⟩:=E3 h0 h1 h2 Z
  have hver:p.ver=x.ver:=by
   rw[<-hp];unfold fp pv
   split<;>(split<;>(try split)<;>simp_all)
  have hle: ∀ e∈es,e.pid=x.pid->e.ver<=x.ver:=fun e he hpe=>by
   cases hq:fU es x.pid with
   |none=>exact absurd hpe.symm (fun h=>h0 ((jU es x.pid).2 hq e he hpe))
   |some q=>
    rw[hq]at v1
    have:=(ih x.pid h0 q hq).1 e he hpe
    simp at v1
    omega
  refine⟨fun e he hpe=> ?_,?_⟩
  rw[hver]
  rcases ap.1 he with he|he
  exact hle e he hpe
  rw[ar.1 he];exact fl _
  rw[hver,uH]
  have hold:(pv x ((fU es x.pid).getD p0)).seq=(B0 es x.pid x.ver:Int)-1:=by
   cases hq:fU es x.pid with
   |none=>
    have hz:B0 es x.pid x.ver=0:=xD fun e he hpe=>absurd ((jU es x.pid).2 hq e he hpe) h0
    rw[hz];unfold pv;simp only[Option.getD_none];split<;>simp[p0]
   |some q=>
    obtain⟨i1,i2⟩:=ih x.pid h0 q hq
    unfold pv
    simp only[Option.getD_some]
    split
    rename_i hne
    rw[hq]at v1
    simp at v1
    have hz:B0 es x.pid x.ver=0:=xD fun e he hpe hev=>by have:=i1 e he hpe;omega
    rw[hz];rfl
    rename_i heq
    have:x.ver=q.ver:=Classical.not_not.1 heq
    rw[i2,this]
  by_cases hk:x.kind=1
  rw[if_pos ⟨hk,rfl,rfl⟩]
  have hs:=v2 hk
  have hseq:p.seq=x.seq:=by
   rw[<-hp];unfold fp
   rw[if_neg (fun h=>h hk)]
   split<;>rfl
  have hcnt:x.seq=(B0 es x.pid x.ver:Int):=by
   cases hq:fU es x.pid with
   |none=>
    have hz:B0 es x.pid x.ver=0:=xD fun e he hpe=>absurd ((jU es x.pid).2 hq e he hpe) h0
    rw[hq]at hs;simp at hs;omega
   |some q=>
    obtain⟨i1,i2⟩:=ih x.pid h0 q hq
    rw[hq]at hs v1
    simp at hs v1
    by_cases hlt:q.ver<x.ver
    rw[if_pos hlt]at hs
    have hz:B0 es x.pid x.ver=0:=xD fun e he hpe hev=>by have:=i1 e he hpe;omega
    omega
    rw[if_neg hlt]at hs
    have:q.ver=x.ver:=by omega
    rw[this]at i2
    omega
  omega
  rw[if_neg (fun h=>hk h.1)]
  have hseq:p.seq=(pv x ((fU es x.pid).getD p0)).seq:=by
   rw[<-hp];unfold fp
   rw[if_pos hk]
  rw[hseq,hold];simp
  rw[if_neg (fun h=>hx h.2)]at hp
  obtain⟨i1,i2⟩:=ih pid h0 p hp
  refine⟨fun e he hpe=> ?_,?_⟩
  rcases ap.1 he with he|he
  exact i1 e he hpe
  rw[ar.1 he]at hpe;exact absurd hpe hx
  rw[uH,if_neg (fun h=>hx h.2.1),i2];simp
theorem LA {es:List cr} (h:uh es) {j:Nat} {f:cr} (hj:es[j]? =some f) (h0:f.pid≠0): ∀ e∈es.take j,e.pid=f.pid->e.ver<=f.ver:=by
 have h1:=h.take (j+1)
 rw[d6 hj]at h1
 generalize es.take j=l at h1⊢
 obtain⟨hs,a,b⟩:=LB h1
 intro e he hpe
 obtain⟨v1,-⟩:=E3 h0 a b Z
 cases hq:fU l f.pid with
 |none=>exact absurd ((jU l f.pid).2 hq e he hpe) h0
 |some q=>
  rw[hq]at v1
  simp at v1
  have:=(ye hs f.pid h0 q hq).1 e he hpe
  omega
theorem Fj {es:List cr} (h:uh es) {j:Nat} {f:cr} (hj:es[j]? =some f) (h0:f.pid≠0) (hk:f.kind=1):f.seq=(B0 (es.take j) f.pid f.ver:Int):=by
 have h1:=h.take (j+1)
 rw[d6 hj]at h1
 have h2:=ye h1 f.pid h0 _ (by rw[qp,if_pos ⟨h0,rfl⟩])
 have hver:(fp (es.take j).length f ((fU (es.take j) f.pid).getD p0)).ver=f.ver:=by
  unfold fp pv
  split<;>(split<;>(try split)<;>simp_all)
 have hseq:(fp (es.take j).length f ((fU (es.take j) f.pid).getD p0)).seq=f.seq:=by
  unfold fp
  rw[if_neg (fun h=>h hk)]
  split<;>rfl
 rw[hver,hseq,uH,if_pos ⟨hk,rfl,rfl⟩]at h2
 omega
theorem Jv {es:List cr} (h: ∀ e∈es,ob e):seqB es:=fun e he=>by
 obtain⟨_,_,h3,_⟩:=rx (h e he)
 have:=h3 e.seq (by simp[cr.nums])
 omega
def later (es:List cr) (k:Nat) (x:cr):Bool:=(es.drop k).any fun y=>decide (y.pid=x.pid)&&decide (x.ver<y.ver)
theorem GP {es:List cr} {x:cr} {k:Nat} (hk:es[k]? =some x) (h0:x.pid≠0): ∃ p,fU es x.pid=some p:=by
 cases hq:fU es x.pid with
 |none=>exact absurd ((jU es x.pid).2 hq x (ab hk) Z) h0
 |some p=>exact⟨p,rfl⟩
theorem GQ {es:List cr} (h:uh es) {k:Nat} {x:cr} (hk:es[k]? =some x) (h0:x.pid≠0) (hl:later es k x=false) (hd:x.kind=1):fo es x=((k:Int),0):=by
 obtain⟨p,hp⟩:=GP hk h0
 obtain⟨l1,l2⟩:=ye h x.pid h0 p hp
 have hkl:=(cy hk).1
 have hxle:=l1 x (ab hk) Z
 have hver:p.ver=x.ver:=by
  obtain⟨e,he,hpe,hve⟩:=((jU es x.pid).1 p hp).ver
  obtain⟨j,hj⟩:=aN.1 he
  by_cases hjk:j<k
  have:=LA h hk h0 e (ab (by rw[fe hjk];exact hj)) hpe
  omega
  have hmem:e∈es.drop k:=ab (i:=j-k) (by rw[dk,show k+(j-k)=j by omega];exact hj)
  have hnl:=uV.1 hl e hmem
  simp[hpe]at hnl
  omega
 have hseq:=Fj h hk h0 hd
 have hc1:B0 (es.take (k+1)) x.pid x.ver=B0 (es.take k) x.pid x.ver+1:=by
  rw[d6 hk,uH,if_pos ⟨hd,rfl,rfl⟩]
 have hc2:B0 (es.take (k+1)) x.pid x.ver<=B0 es x.pid x.ver:=by
  have:=Gv (es:=es) (a:=k+1) (b:=es.length) I x.pid x.ver
  rwa[bJ]at this
 rw[hver]at l2
 have hdup:es.findIdx? (k9 x)=some k:=BD hk (by simp[k9,hd]) fun j e hj he=>by
  by_cases hi:k9 x e=true
  exfalso
  simp[k9]at hi
  obtain⟨⟨⟨a1,a2⟩,a3⟩,a4⟩:=hi
  have s1:=Fj h he (by rw[a2];exact h0) a1
  rw[a2,a3]at s1
  have s2:B0 (es.take (j+1)) x.pid x.ver=B0 (es.take j) x.pid x.ver+1:=by
   rw[d6 he,uH,if_pos ⟨a1,a2,a3⟩]
  have s3:=Gv (es:=es) (a:=j+1) (b:=k) I x.pid x.ver
  omega
  simpa using hi
 unfold fo
 rw[if_neg h0,hp]
 unfold mH
 simp only[Option.getD_some,hver]
 rw[if_neg I,if_neg (fun h=>h hd),if_neg (by omega: ¬ x.ver<x.ver),if_neg I,if_neg I,hdup]
theorem CD (es:List UInt8) (A:Option Addr) (c:Nat) (w:World) (hr:Rd dP 0 w.heap.size A es w) (hb:es.length*1<=140737488355328):
  dt aa la [.slice A es.length c] w fun v w2=> ∃ A' c' L',v=.slice A' es.length c'/\es.length<=c'/\c'<=maxLen/\gG dP (.slice A' es.length c') nb es L'/\Hp w w2 L' []:=by
 refine aG qz Z Z ?_
 have H:=Hp.startRd hr
 refine W<|Zr<|G (Ws Z)<|U<|W<|W<|Zr<|G (Ys Z) ?_
 refine zS (pU fb Z) Z Z Z (fun h4=> ?_) (fun h4=> ?_)
 refine U<|ZT Z<|W<|Zr<|G (Ws Z)<|U<|Zt ?_
 have he:es=[]:=by
  cases es with
  |nil=>rfl
  |cons e es=>obtain⟨b,o,hA,_⟩:=hr (by simp);subst hA;cases h4
 subst he
 exact cn Z Z ⟨none,0,[],rfl,by simp,by decide,gG.nil,H.forget (by simp) (by simp)⟩
 refine U<|ZF Z<|Zk<|W<|Zr<|OL H eF Z fun w1 b5 H=>G (Ys Z)<|wN (Y:=dP) o0 (K:=[]) (L:=[(b5,_)]) (M:=[]) H (sm.lit (by decide) (by rfl)) (es:=[]) (news:=es) Z Z Z (Rd.src (H.fact (i:=0) Z)) (by simpa using hb) Z ?_
 intro A3 c3 w3 L3 h3a h3b ho3 H
 refine G (Ws Z)<|U<|Zt ?_
 exact cn Z Z ⟨A3,c3,L3,rfl,h3a,h3b,ho3,H.forget (by simp) (by simp)⟩
theorem tH (es:List Int) (A:Option Addr) (c:Nat) (w:World) (hr:Rd bS 0 w.heap.size A es w) (hb:es.length*8<=140737488355328):
  dt aa ma [.slice A es.length c] w fun v w2=> ∃ A' c' L',v=.slice A' es.length c'/\es.length<=c'/\c'<=maxLen/\gG bS (.slice A' es.length c') dg es L'/\Hp w w2 L' []:=by
 refine aG rX Z Z ?_
 have H:=Hp.startRd hr
 refine W<|Zr<|G (Ws Z)<|U<|W<|W<|Zr<|G (Ys Z) ?_
 refine zS (pU eT Z) Z Z Z (fun h4=> ?_) (fun h4=> ?_)
 refine U<|ZT Z<|W<|Zr<|G (Ws Z)<|U<|Zt ?_
 have he:es=[]:=by
  cases es with
  |nil=>rfl
  |cons e es=>obtain⟨b,o,hA,_⟩:=hr (by simp);subst hA;cases h4
 subst he
 exact cn Z Z ⟨none,0,[],rfl,by simp,by decide,gG.nil,H.forget (by simp) (by simp)⟩
 refine U<|ZF Z<|Zk<|W<|Zr<|OL H bj Z fun w1 b5 H=>G (Ys Z)<|wN (Y:=bS) zX (K:=[]) (L:=[(b5,_)]) (M:=[]) H (sm.lit (by decide) (by rfl)) (es:=[]) (news:=es) Z Z Z (Rd.src (H.fact (i:=0) Z)) (by simpa using hb) Z ?_
 intro A3 c3 w3 L3 h3a h3b ho3 H
 refine G (Ws Z)<|U<|Zt ?_
 exact cn Z Z ⟨A3,c3,L3,rfl,h3a,h3b,ho3,H.forget (by simp) (by simp)⟩

/-- a row of rows of bytes -/
abbrev RB:=Option Addr×List UInt8×Nat
def LD:fA RB:=⟨fun p=>[.slice p.1 p.2.1.length p.2.2],1,fun _=>rfl,by decide,fun a u hu=>by
 simp only[av,bd,or_false]at hu
 subst hu;rfl⟩
def xW (ps:List RB):List UInt8:=ps.flatMap fun p=>p.2.1
theorem uN {ps:List RB} {k:Nat} {p:RB} (h:ps[k]? =some p):xW (ps.take (k+1))=xW (ps.take k)++p.2.1:=by
 rw[d6 h];simp[xW]
theorem ES (ps:List RB) (k:Nat):(xW (ps.take k)).length<=(xW ps).length:=by
 have:xW ps=xW (ps.take k)++xW (ps.drop k):=by unfold xW;rw[<-nh,g8]
 rw[this];simp
theorem JL {g cp:Nat} {cur:Array Value} (h:cur.size=cp*1) (hm:cp<=maxLen):gG dP (.slice (Qd g) 0 cp) nb [] [(g,.cells cur nb (0,0))]:=
 ⟨by simp[fA.all],.inr ⟨g,cp,cur,rfl,rfl,bN _,hm,h,by simp[fA.all]⟩⟩
theorem Oz (n:Nat) (w:World) (hn:n<=1000000):dt aa rQ [.slice none 0 0,J (n:Nat)] w fun v w2=> ∃ A' c' L',v=.slice A' 0 c'/\gG dP (.slice A' 0 c') nb [] L'/\Hp w w2 L' []:=by
 refine aG qU Z Z ?_
 have H:=Hp.start w
 refine W<|Zr<|G (Ws Z)<|U<|W<|W<|Zr<|G (Yi Z)<|G (dp Z Z I)<|U<|ZF Z<|Zk<|W<|W<|Zr<|G (Yi Z)<|G (Ys Z)<|G (ET fb Z)<|G (Ys Z)<|G (bh fb Z)<|G (lX Z Z I I)<|G (lX Z Z I I)<|G (Wi Z)<|U<|W<|Zr<|G (Yi Z) ?_
 refine du (lf Z Z) Z Z Z (fun h16=> ?_) (fun h16=> ?_)
 refine U<|ZT Z<|Zr<|G (Ys Z)<|G (Ys Z)<|G (ET fb Z)<|G (D1 (i:=0) eF Z Z I I)<|G (Yi Z)<|RF (m:=n) o0 i8 H Z (by show Value.int .i64 _=_;congr 1) I I Z fun w1 g cp cur hcs hncp hcpm H=>G (Ys Z)<|G (bh fb Z)<|Ah eF Z Z I I Z fun A25 hA25=> ?_
 obtain rfl:=hA25 I
 refine G (Ws Z)<|U<|W<|Zr<|G (Ys Z)<|G (Ws Z)<|U<|Zt ?_
 exact cn Z Z ⟨_,_,_,rfl,JL hcs hcpm,H⟩
 refine U<|ZF Z<|Zk<|W<|Zr<|G (Ys Z)<|G (Ws Z)<|U<|Zt ?_
 exact cn Z Z ⟨none,0,[],rfl,gG.nil,H⟩
theorem vn (ps:List RB) (A:Option Addr) (c:Nat) (w:World) (hr:Rd LD 0 w.heap.size A ps w) (hp: ∀ p∈ps,Rd dP 0 w.heap.size p.1 p.2.1 w) (hb:(xW ps).length<=1000000) (hl:ps.length<=1000):
  dt aa qw [.slice A ps.length c] w fun v w2=> ∃ A' c' L',v=.slice A' (xW ps).length c'/\(xW ps).length<=c'/\c'<=maxLen/\gG dP (.slice A' (xW ps).length c') nb (xW ps) L'/\Hp w w2 L' []:=by
 refine aG p9 Z Z ?_
 have H:=Hp.startRd hr
 refine W<|Zr<|G (Ws Z)<|U<|W<|Zr<|G (Wi Z)<|U<|W<|W<|Zr<|G (Ys Z)<|G (bh AR Z)<|G (Yi Z)<|U<|Zb ?_
 refine cf (τ:=Nat) [3,5,11,12,13,14,15,16,17,18,19,20,21,22] (fun k=>[(3,J ((xW (ps.take k)).length:Nat)),(11,J (k:Nat))]) (fun k w'=>k<=ps.length/\Hp w w' [] [ey LD 0 w.heap.size A ps]) (fun k=>ps.length-k) 0 ⟨by omega,H⟩ (mK Z Z) ?_
 rintro k ρ1 w1 ⟨hk,H⟩
 show CW _ _ _ _ (dK (ia _ _ ρ1) [(3,J ((xW (ps.take k)).length:Nat)),(11,J (k:Nat))]) w1
 have hle:=ES ps k
 refine W<|Zr ?_
 refine du (cO Z Z) Z Z Z (fun h12=> ?_) (fun h12=> ?_)
 refine U<|W<|ZT Z<|Zk<|W<|Zb<|W<|Zr<|qg H 0 Z sx Z Z I I Z fun b2 o2 x2 e2=> ?_
 have hle2:=ES ps (k+1)
 rw[uN e2.at_,ay]at hle2
 refine G (bi eV Z (e2.cl 0 _ Z))<|G (Ws Z)<|U<|W<|Zr<|G (Yi Z)<|G (Ys Z)<|G (bh fb Z)<|G (bp Z Z I I)<|G (Wi Z)<|U<|W<|Zr<|G (Yi Z)<|G (dp Z Z I)<|U<|ZF Z<|Zk<|Zr<|G (bp Z Z I I)<|G (Yi Z)<|U ?_
 refine⟨k+1,⟨by omega,H⟩,mK (by rw[uN e2.at_,ay];rfl) Z,Qg,by show ps.length- (k+1)<ps.length-k;omega⟩
 refine U<|W<|ZF Z<|Zx<|W<|Zr<|G (Yi Z)<|cu qY (Oz (xW (ps.take k)).length _ I) Z Z ?_
 rintro _ w3 ⟨A24,c24,L24,rfl,ho24,hj24⟩;replace H:=H.join hj24;clear hj24
 refine G (Ws Z)<|U<|W<|W<|Zr<|G (Ys Z)<|G (bh AR Z)<|G (Yi Z)<|U<|Zb ?_
 refine cf (τ:=Nat×Option Addr×Nat) [6,8,27,28,29,30,31,32,33,34] (fun(j,Ag,cg)=>[(6,.slice Ag (xW (ps.take j)).length cg),(27,J (j:Nat))]) (fun(j,Ag,cg) w'=>j<=ps.length/\ ∃ L',gG dP (.slice Ag (xW (ps.take j)).length cg) nb (xW (ps.take j)) L'/\Hp w w' ([]++L'++[]) [ey LD 0 w.heap.size A ps]) (fun(j,_,_)=>ps.length-j) (0,A24,c24) ⟨by omega,L24,ho24,by simpa using H⟩ (mK Z Z) ?_
 rintro⟨j,Ag,cg⟩ ρ2 w4 ⟨hj,L1,ho,H⟩
 show CW _ _ _ _ (dK (ia _ _ ρ2) [(6,.slice Ag (xW (ps.take j)).length cg),(27,J (j:Nat))]) w4
 have hle:=ES ps j
 refine W<|Zr ?_
 refine du (cO Z Z) Z Z Z (fun h28=> ?_) (fun h28=> ?_)
 refine U<|W<|ZT Z<|Zk<|W<|Zb<|W<|Zr<|qg H 0 Z sx Z Z I I Z fun b5 o5 x5 e5=> ?_
 have hle2:=ES ps (j+1)
 rw[uN e5.at_,ay]at hle2
 have hpx:=(hp _ (ab e5.at_)).below H.below
 refine G (bi eV Z (e5.cl 0 _ Z))<|G (Ws Z)<|U<|Zr<|G (Ys Z)<|G (Ys Z)<|wN (Y:=dP) o0 (K:=[]) (L:=L1) (M:=[]) H ho (news:=x5.2.1) Z Z Z (Rd.src hpx) I Z ?_
 intro A3 c3 w6 L3 h3a _ ho3 H
 refine G (Ws Z)<|U<|Zr<|G (bp Z Z I I)<|G (Yi Z)<|U ?_
 refine⟨(j+1,A3,c3),⟨by omega,L3,by rw[uN e5.at_];exact ho3,H⟩,mK (by rw[uN e5.at_];rfl) Z,Qg,by show ps.length- (j+1)<ps.length-j;omega⟩
 refine U<|W<|ZF Z<|Zx<|W<|Zr<|G (Ys Z)<|G (Ws Z)<|U<|Zt ?_
 have hjp:j=ps.length:=by omega
 subst hjp
 rw[bJ]at ho
 obtain⟨A2,c2,he,hlc,hmx⟩:=ho.form
 injection he with h1 h2 h3
 subst h3
 exact cn (v:=.slice Ag (xW (ps.take ps.length)).length cg) Z Z ⟨Ag,cg,L1,by rw[bJ],hlc,hmx,ho,H.forget (by simp) (by simp)⟩
theorem HL (es:List cr) (s:Nat):bG es=bG (es.take s)++bG (es.drop s):=by
 unfold bG;rw[<-nh,g8]
theorem yb (es:List cr) (s:Nat):(bG es).take (bG (es.take s)).length=bG (es.take s):=by
 rw[HL es s]
 exact List.take_left' Z
theorem MG (a b:List cr):bG (a++b)=bG a++bG b:=by simp[bG]
structure pf where
 A:Option Addr
 cap:Nat
 es:List cr
 s:Nat
abbrev iS (es:List cr) (s:Nat):Nat:=(bG (es.take s)).length
def pf.c (l:pf):List Value:=[.slice l.A (bG l.es).length l.cap,J (iS l.es l.s:Nat)]
structure GL (es:List cr) (s:Nat):Prop where
 good: ∀ e∈es,ob e
 len:es.length<=400
 sz:(bG es).length<=40000
 sle:s<=es.length
structure pf.ok (l:pf) (w:World):Prop where
 gl:GL l.es l.s
 cap:(bG l.es).length<=l.cap
 rd:Rd dP 0 w.heap.size l.A (bG l.es) w
theorem xB {es:List cr} {s:Nat} (h:GL es s):KO (bG (es.take s)) (es.take s) (iS es s):=uG _ fun e he=>h.good e (qO _ _ he)
theorem y1 (l:pf) (w:World) (h:l.ok w):dt aa zc [.agg l.c.toArray] w fun v w2=>v=J 0/\Below w.heap.size w w2:=by
 refine aG EA Z Z ?_
 have hgl:=h.gl
 have hcap:=h.cap
 have hsz:=hgl.sz
 have hln:=hgl.len
 have hsle:=hgl.sle
 have hss:iS l.es l.s<=(bG l.es).length:=fX l.es l.s
 have H:=Hp.startRd h.rd
 obtain⟨lA,lc,es,s⟩:=l
 dsimp only at hgl hcap hsz hln hsle hss H
 have hss2:(bG (es.take s)).length<=(bG es).length:=hss
 show CW _ _ _ _ (args [.agg #[.slice lA (bG es).length lc,J (iS es s:Nat)]]) w
 refine W<|Zr<|gY H Z Z fun w1 b1 H=>G (Wi Z)<|U<|W<|W<|Zr<|G (Zf jb Z)<|G (Zd eV H 0 Z Z Z)<|G (bh fb Z)<|G (eB Z Z I)<|U<|ZF Z<|Zk<|W<|Zr<|G (Zf jb Z)<|G (Zd eV H 0 Z Z Z)<|cu m0 (vm (bG es) _ _ _ (H.rd0 0 Z) hcap I) Z Z ?_
 have hlo14:=H.size
 rintro _ w2 ⟨ds,nd,A14,c14,rfl,hd,hr14,hc14,hb14⟩;replace H:=H.learnRd hb14 hr14;clear hr14 hb14
 have hde:=(ry hd (uG es hgl.good)).1.symm
 have hdn:=(ry hd (uG es hgl.good)).2.symm
 subst hde;subst hdn;clear hd
 refine G (Yu Z)<|G (Xs Z Z)<|G (Xi Z Z)<|G (Ws Z)<|G (Wi Z)<|U<|W<|W<|Zr<|G (Yi Z)<|G (Zf jb Z)<|G (Zd eV H 0 Z Z Z)<|G (bh fb Z)<|G (cv Z Z Z)<|G (Yb Z)<|ZG<|G (Ys Z)<|ZG<|G (bh eN Z)<|ZG<|G (eB Z Z I)<|G (N Z Z)<|U<|ZF Z<|Zk<|W<|W<|Zr<|G (Zf oT Z)<|G (Zd am H 0 Z Z Z)<|G (dp Z Z I)<|G (Yb Z)<|ZG<|G (Zf oT Z)<|ZG<|G (Zd am H 0 Z Z Z)<|ZG<|G (Yi Z)<|ZG<|G (eB Z Z I) ?_
 refine G (N Z Z)<|U<|ZF Z<|Zk<|W<|W<|Zr<|G (Zf jb Z)<|G (Zd eV H 0 Z Z Z)<|G (Zf oT Z)<|G (Zd am H 0 Z Z Z)<|wd (k:=iS es s) H 1 Z eF Z Z hcap I Z fun A41 H=> ?_
 rw[yb]at H
 refine cu m0 (vm (bG (es.take s)) _ _ _ (H.rd0 0 Z) I I) Z Z ?_
 have hlo42:=H.size
 rintro _ w3 ⟨ds,nd,A42,c42,rfl,hd,hr42,hc42,hb42⟩;replace H:=H.learnRd hb42 hr42;clear hr42 hb42
 have hde:=(ry hd (xB hgl)).1.symm
 have hdn:=(ry hd (xB hgl)).2.symm
 subst hde;subst hdn;clear hd
 refine G (Yu Z)<|G (Xs Z Z)<|G (Xi Z Z)<|G (Ws Z)<|G (Wi Z)<|U<|W<|Zr<|G (Yi Z)<|G (Zf oT Z)<|G (Zd am H 0 Z Z Z)<|G (cv Z Z Z)<|U<|ZF Z<|Zk<|W<|Zr<|G (Wi Z)<|U<|Zt ?_
 exact cn Z Z ⟨rfl,H.below⟩
theorem B7 (l:pf) (w:World) (h:l.ok w):dt aa vH [.agg l.c.toArray] w fun v w2=> ∃ A' c',v=.tuple #[.slice A' l.es.length c',J (l.s:Nat),J 0]/\Rd hJ w.heap.size w2.heap.size A' l.es w2/\l.es.length<=c'/\Below w.heap.size w w2:=by
 refine aG Br Z Z ?_
 have hgl:=h.gl
 have hcap:=h.cap
 have hsz:=hgl.sz
 have hln:=hgl.len
 have hsle:=hgl.sle
 have hss:iS l.es l.s<=(bG l.es).length:=fX l.es l.s
 have H:=Hp.startRd h.rd
 obtain⟨lA,lc,es,s⟩:=l
 dsimp only at hgl hcap hsz hln hsle hss H
 have hss2:(bG (es.take s)).length<=(bG es).length:=hss
 show CW _ _ _ _ (args [.agg #[.slice lA (bG es).length lc,J (iS es s:Nat)]]) w
 refine W<|Zr<|gY H Z Z fun w1 b1 H=>G (Ws Z)<|G (Wi Z)<|G (Wi Z)<|U<|W<|W<|Zr<|G (Zw fE H 0 Z Z Z)<|cu qd (y1 ⟨lA,lc,es,s⟩ _ ⟨hgl,hcap,H.rd0 0 Z⟩) Z Z ?_
 rintro _ w2 ⟨rfl,hb⟩;replace H:=H.later hb;clear hb
 refine G (Wi Z)<|U<|W<|Zr<|G (Yi Z)<|G (cv Z Z Z)<|U<|ZF Z<|Zk<|W<|Zr<|G (Zf jb Z)<|G (Zd eV H 0 Z Z Z)<|cu m0 (vm (bG es) _ _ _ (H.rd0 0 Z) hcap I) Z Z ?_
 have hlo18:=H.size
 rintro _ w3 ⟨ds,nd,A18,c18,rfl,hd,hr18,hc18,hb18⟩;replace H:=H.learnRd hb18 hr18;clear hr18 hb18
 have hde:=(ry hd (uG es hgl.good)).1.symm
 have hdn:=(ry hd (uG es hgl.good)).2.symm
 subst hde;subst hdn;clear hd
 refine G (Yu Z)<|G (Xs Z Z)<|G (Xi Z Z)<|G (Ws Z)<|G (Wi Z)<|U<|W<|Zr<|G (Zf jb Z)<|G (Zd eV H 0 Z Z Z)<|G (Zf oT Z)<|G (Zd am H 0 Z Z Z)<|wd (k:=iS es s) H 1 Z eF Z Z hcap I Z fun A26 H=> ?_
 rw[yb]at H
 refine cu m0 (vm (bG (es.take s)) _ _ _ (H.rd0 0 Z) I I) Z Z ?_
 have hlo27:=H.size
 rintro _ w4 ⟨ds,nd,A27,c27,rfl,hd,hr27,hc27,hb27⟩;replace H:=H.learnRd hb27 hr27;clear hr27 hb27
 have hde:=(ry hd (xB hgl)).1.symm
 have hdn:=(ry hd (xB hgl)).2.symm
 subst hde;subst hdn;clear hd
 refine G (Yu Z)<|G (Xs Z Z)<|G (Xi Z Z)<|G (Ws Z)<|G (Wi Z)<|U<|W<|Zr<|G (Ys Z)<|G (Ys Z)<|G (bh eN Z)<|G (Ws Z)<|G (Wi Z)<|G (Wi Z)<|U<|Zt ?_
 have hls:(es.take s).length=s:=by simp;omega
 have hrd:=Rd.mono (H.fact (i:=2) Z) hlo18 (H.facts _ (ab (i:=2) Z)).2.1
 exact HM (v:=.slice A18 es.length c18) (v2:=J ((es.take s).length:Nat)) (v3:=J 0) Z Z Z Z ⟨A18,c18,by rw[hls],hrd,hc18,H.below⟩
theorem iq (A:Option Addr) (c:Nat) (es:List cr) (s:Nat) (w:World) (h:(⟨A,c,es,s⟩:pf).ok w):dt aa vH [.agg #[.slice A (bG es).length c,J (iS es s:Nat)]] w fun v w2=> ∃ A' c',v=.tuple #[.slice A' es.length c',J (s:Nat),J 0]/\Rd hJ w.heap.size w2.heap.size A' es w2/\es.length<=c'/\Below w.heap.size w w2:=B7 ⟨A,c,es,s⟩ w h
theorem ur (A:Option Addr) (c:Nat) (es:List cr) (s:Nat) (w:World) (h:(⟨A,c,es,s⟩:pf).ok w):dt aa zc [.agg #[.slice A (bG es).length c,J (iS es s:Nat)]] w fun v w2=>v=J 0/\Below w.heap.size w w2:=y1 ⟨A,c,es,s⟩ w h
theorem oh (es:List UInt8) (A:Option Addr) (c:Nat) (w:World) (hr:Rd dP 0 w.heap.size A es w) (hb:es.length*1<=140737488355328):
  dt aa la [.slice A es.length c] w fun v w2=> ∃ A' c',v=.slice A' es.length c'/\es.length<=c'/\Rd dP w.heap.size w2.heap.size A' es w2/\Below w.heap.size w w2:=
 (CD es A c w hr hb).mono fun v w2 ⟨A',c',L',h1,h2,_,h4,h5⟩=>⟨A',c',h1,h2,h4.rd (K:=[]) (M:=[]) (by simpa using h5),h5.below⟩
theorem xE (es:List Int) (A:Option Addr) (c:Nat) (w:World) (hr:Rd bS 0 w.heap.size A es w) (hb:es.length*8<=140737488355328):
  dt aa ma [.slice A es.length c] w fun v w2=> ∃ A' c',v=.slice A' es.length c'/\es.length<=c'/\Rd bS w.heap.size w2.heap.size A' es w2/\Below w.heap.size w w2:=
 (tH es A c w hr hb).mono fun v w2 ⟨A',c',L',h1,h2,_,h4,h5⟩=>⟨A',c',h1,h2,h4.rd (K:=[]) (M:=[]) (by simpa using h5),h5.below⟩
def BV (w w2:World) (A:Option Addr) (c:Nat) (es:List cr) (s:Nat):Prop:=GL es s/\(bG es).length<=c/\Rd dP w.heap.size w2.heap.size A (bG es) w2
theorem BV.ok {w w2:World} {A:Option Addr} {c:Nat} {es:List cr} {s:Nat} (h:BV w w2 A c es s):(⟨A,c,es,s⟩:pf).ok w2:=⟨h.1,h.2.1,h.2.2.mono (bN _) (ao _)⟩
theorem kU (es:List cr) (x:cr):bG (es++[x])=bG es++mz x:=by rw[MG,MF]
theorem xb {es:List cr} {s:Nat} (x:cr) (h:s<=es.length):iS (es++[x]) s=iS es s:=by unfold iS;rw[kO h]
def Ck (es:List cr) (x:cr):Prop:=es.length=400∨40000<(bG es).length+(mz x).length
theorem GL.snoc {es:List cr} {s:Nat} {x:cr} (h:GL es s) (hx:ob x) (hf: ¬ Ck es x):GL (es++[x]) s:=by
 unfold Ck at hf
 refine⟨fun e he=> ?_,by simp;have:=h.len;omega,by rw[kU,ay];omega,by simp;have:=h.sle;omega⟩
 rcases ap.1 he with he|he
 exact h.good e he
 rw[ar.1 he];exact hx
theorem GL.all {es:List cr} {s:Nat} (h:GL es s):GL es es.length:=⟨h.good,h.len,h.sz,ao _⟩
theorem GL.take {es:List cr} {s:Nat} (h:GL es s) (n:Nat) {t:Nat} (ht:t<=(es.take n).length):GL (es.take n) t:=⟨fun e he=>h.good e (qO _ _ he),by simp;have:=h.len;omega,by have:=fX es n;have:=h.sz;omega,ht⟩
theorem D4 (l:pf) (x:cr) (w:World) (h:l.ok w) (hx:ob x) (hf: ¬ Ck l.es x):dt aa xj [.agg l.c.toArray,x.v] w fun v w2=> ∃ A' c',v=.tuple #[.agg (pf.c ⟨A',c',l.es++[x],l.s⟩).toArray,J 0]/\BV w w2 A' c' (l.es++[x]) l.s/\Below w.heap.size w w2:=by
 refine aG Cp Z Z ?_
 have hgl:=h.gl
 have hcap:=h.cap
 have hsz:=hgl.sz
 have hln:=hgl.len
 have hsle:=hgl.sle
 have hss:iS l.es l.s<=(bG l.es).length:=fX l.es l.s
 have H:=Hp.startRd h.rd
 obtain⟨lA,lc,es,s⟩:=l
 dsimp only at hgl hcap hsz hln hsle hss H
 have hss2:(bG (es.take s)).length<=(bG es).length:=hss
 show CW _ _ _ _ (args [.agg #[.slice lA (bG es).length lc,J (iS es s:Nat)],x.v]) w
 unfold Ck at hf
 dsimp only at hf
 have hel:=I2 hx
 refine W<|Zr<|gY H Z Z fun w1 b2 H=>gY H Z Z fun w2 b3 H=>fc H tO Z fun w3 b4 H=>G (Wi Z)<|U<|W<|Zr<|G (Zw fE H 2 Z Z Z)<|cu gR (iq lA lc es s _ ⟨hgl,hcap,H.rd0 0 Z⟩) Z Z ?_
 rintro _ w4 ⟨A12,c12,rfl,hr12,hc12,hb12⟩;replace H:=H.learnRd hb12 hr12;clear hr12 hb12
 refine G (Yu Z)<|G (Xs Z Z)<|G (Xi Z Z)<|G (Xi Z Z)<|G (Ws Z)<|G (Wi Z)<|G (Wi Z)<|U<|W<|W<|Zr<|G (Yi Z)<|G (cv Z Z Z)<|U<|ZF Z<|Zk<|W<|Zr<|G (Zw dJ H 1 Z Z Z)<|cu uI (Dx x _ hx) Z Z ?_
 rintro _ w6 ⟨A5,c5,rfl,hr5,hc5,hb5⟩;replace H:=H.learnRd hb5 hr5;clear hr5 hb5
 refine G (Yu Z)<|G (Xs Z Z)<|G (Xi Z Z)<|G (Ws Z)<|G (Wi Z)<|U<|W<|W<|Zr<|G (Yi Z)<|G (cv Z Z Z)<|U<|ZF Z<|Zk<|W<|W<|Zr<|G (Ys Z)<|G (bh eN Z)<|G (lS Z Z I)<|G (Yb Z)<|ZG<|G (Zf jb Z)<|ZG<|G (Zd eV H 2 Z Z Z)<|ZG<|G (bh fb Z)<|ZG<|G (Ys Z)<|ZG<|G (bh fb Z)<|ZG<|G (bp Z Z I I)<|ZG<|G (eB Z Z I)<|G (N Z Z)<|U<|ZF Z<|Zk<|W ?_
 refine rz cD [0,2,5] [1,3,4,6,7,8,9] [0,2,5] 7 N N N Nq ?_
 refine aw Z Z Z Z Z (fun w' hw'=>Zf jb Z)<|aw Z Z Z Z Z (fun w' hw'=>Ys Z)<|aw Z Z Z Z Z (fun w' hw'=>Zf oT Z)<|aU ?_
 intro w7 hw';replace H:=H.later hw';clear hw'
 refine uj 1 6 N Z Z ?_ ?_
 refine G (Zd eV H 2 Z Z Z)<|U ?_
 refine uj 3 6 N Z Z ?_ ?_
 refine uO (vs:=[.slice lA (bG es).length lc,.slice A5 (mz x).length c5]) H sx DN Z Z Z Z Z Z fun w8 b45 H=> ?_
 have hcat:xW [(lA,bG es,lc),(A5,mz x,c5)]=bG (es++[x]):=by rw[kU];simp[xW]
 refine U ?_
 refine uj 4 6 N Z Z ?_ ?_
 have hC:=vn [(lA,bG es,lc),(A5,mz x,c5)] (Qd b45) 2 _ (Rd.blk (H.ent (i:=0) Z) Z) (by intro p hp;simp at hp;rcases hp with rfl|rfl;exact H.rd0 2 Z;exact H.rd0 0 Z) (by rw[hcat,kU,ay];omega) (by simp)
 rw[hcat]at hC
 have hloX:=H.size
 refine cu fN hC Z Z ?_;rintro _ w9 ⟨AX,cX,LX,rfl,hcX,-,hoX,hjX⟩;replace H:=H.learnOwn hjX hoX
 refine U<|df 6 N Z<|G (Zd am H 3 Z Z Z)<|U<|df 7 N Z<|G (bC (cs:= #[.slice AX (bG (es++[x])).length cX,J (iS es s:Nat)]) wc tO N)<|U<|df 8 N Z<|bA H 1 (#[.slice AX (bG (es++[x])).length cX,J (iS es s:Nat)]) kR Z Z Z Z Z N N fun w10 H=>U<|df 9 N Z<|G (Wi Z)<|U<|cj N<|Zt ?_
 exact ch (cs0:= #[.slice AX (bG (es++[x])).length cX,J (iS es s:Nat)]) (v1:=J 0) Z fE Z (H.ent (i:=1) Z) Z Z ⟨AX,cX,by unfold pf.c;rw[xb _ hsle],⟨hgl.snoc hx (by unfold Ck;omega),hcX,Rd.mono (H.fact (i:=0) Z) hloX (H.facts _ (ab (i:=0) Z)).2.1⟩,H.below⟩
 refine G (Zd am H 3 Z Z Z)<|U<|df 4 N Z ?_
 have hC:=vn [(lA,bG es,lc),(A5,mz x,c5)] (Qd b45) 2 _ (Rd.blk (H.ent (i:=0) Z) Z) (by intro p hp;simp at hp;rcases hp with rfl|rfl;exact H.rd0 2 Z;exact H.rd0 0 Z) (by rw[hcat,kU,ay];omega) (by simp)
 rw[hcat]at hC
 have hloX:=H.size
 refine cu fN hC Z Z ?_;rintro _ w11 ⟨AX,cX,LX,rfl,hcX,-,hoX,hjX⟩;replace H:=H.learnOwn hjX hoX
 refine U<|df 7 N Z<|G (bC (cs:= #[.slice AX (bG (es++[x])).length cX,J (iS es s:Nat)]) wc tO N)<|U<|df 8 N Z<|bA H 1 (#[.slice AX (bG (es++[x])).length cX,J (iS es s:Nat)]) kR Z Z Z Z Z N N fun w12 H=>U<|df 9 N Z<|G (Wi Z)<|U<|cj N<|Zt ?_
 exact ch (cs0:= #[.slice AX (bG (es++[x])).length cX,J (iS es s:Nat)]) (v1:=J 0) Z fE Z (H.ent (i:=1) Z) Z Z ⟨AX,cX,by unfold pf.c;rw[xb _ hsle],⟨hgl.snoc hx (by unfold Ck;omega),hcX,Rd.mono (H.fact (i:=0) Z) hloX (H.facts _ (ab (i:=0) Z)).2.1⟩,H.below⟩
 refine G (Zd am H 2 Z Z Z)<|U<|df 3 N Z<|uO (vs:=[.slice lA (bG es).length lc,.slice A5 (mz x).length c5]) H sx DN Z Z Z Z Z Z fun w13 b45 H=> ?_
 have hcat:xW [(lA,bG es,lc),(A5,mz x,c5)]=bG (es++[x]):=by rw[kU];simp[xW]
 refine U<|df 4 N Z ?_
 have hC:=vn [(lA,bG es,lc),(A5,mz x,c5)] (Qd b45) 2 _ (Rd.blk (H.ent (i:=0) Z) Z) (by intro p hp;simp at hp;rcases hp with rfl|rfl;exact H.rd0 2 Z;exact H.rd0 0 Z) (by rw[hcat,kU,ay];omega) (by simp)
 rw[hcat]at hC
 have hloX:=H.size
 refine cu fN hC Z Z ?_;rintro _ w14 ⟨AX,cX,LX,rfl,hcX,-,hoX,hjX⟩;replace H:=H.learnOwn hjX hoX
 refine U<|df 7 N Z<|G (bC (cs:= #[.slice AX (bG (es++[x])).length cX,J (iS es s:Nat)]) wc tO N)<|U<|df 8 N Z<|bA H 1 (#[.slice AX (bG (es++[x])).length cX,J (iS es s:Nat)]) kR Z Z Z Z Z N N fun w15 H=>U<|df 9 N Z<|G (Wi Z)<|U<|cj N<|Zt ?_
 exact ch (cs0:= #[.slice AX (bG (es++[x])).length cX,J (iS es s:Nat)]) (v1:=J 0) Z fE Z (H.ent (i:=1) Z) Z Z ⟨AX,cX,by unfold pf.c;rw[xb _ hsle],⟨hgl.snoc hx (by unfold Ck;omega),hcX,Rd.mono (H.fact (i:=0) Z) hloX (H.facts _ (ab (i:=0) Z)).2.1⟩,H.below⟩
 refine G (Zd am H 2 Z Z Z)<|U<|df 1 N Z<|G (Zd eV H 2 Z Z Z)<|U<|df 3 N Z<|uO (vs:=[.slice lA (bG es).length lc,.slice A5 (mz x).length c5]) H sx DN Z Z Z Z Z Z fun w16 b45 H=> ?_
 have hcat:xW [(lA,bG es,lc),(A5,mz x,c5)]=bG (es++[x]):=by rw[kU];simp[xW]
 refine U<|df 4 N Z ?_
 have hC:=vn [(lA,bG es,lc),(A5,mz x,c5)] (Qd b45) 2 _ (Rd.blk (H.ent (i:=0) Z) Z) (by intro p hp;simp at hp;rcases hp with rfl|rfl;exact H.rd0 2 Z;exact H.rd0 0 Z) (by rw[hcat,kU,ay];omega) (by simp)
 rw[hcat]at hC
 have hloX:=H.size
 refine cu fN hC Z Z ?_;rintro _ w17 ⟨AX,cX,LX,rfl,hcX,-,hoX,hjX⟩;replace H:=H.learnOwn hjX hoX
 refine U<|df 7 N Z<|G (bC (cs:= #[.slice AX (bG (es++[x])).length cX,J (iS es s:Nat)]) wc tO N)<|U<|df 8 N Z<|bA H 1 (#[.slice AX (bG (es++[x])).length cX,J (iS es s:Nat)]) kR Z Z Z Z Z N N fun w18 H=>U<|df 9 N Z<|G (Wi Z)<|U<|cj N<|Zt ?_
 exact ch (cs0:= #[.slice AX (bG (es++[x])).length cX,J (iS es s:Nat)]) (v1:=J 0) Z fE Z (H.ent (i:=1) Z) Z Z ⟨AX,cX,by unfold pf.c;rw[xb _ hsle],⟨hgl.snoc hx (by unfold Ck;omega),hcX,Rd.mono (H.fact (i:=0) Z) hloX (H.facts _ (ab (i:=0) Z)).2.1⟩,H.below⟩
theorem Oi (es:List cr):iS es es.length=(bG es).length:=by unfold iS;rw[bJ]
theorem FI {es:List cr} {a b:Nat} (h:a<=b):iS es a<=iS es b:=by
 have:=fX (es.take b) a
 unfold iS
 rwa[dv,bB h]at this
theorem Oh (es:List cr) (s n:Nat):min ((iS es s:Nat):Int) ((iS es n:Nat):Int)=(iS (es.take n) (min s n):Nat):=by
 have e:iS (es.take n) (min s n)=iS es (min s n):=by
  unfold iS;rw[dv,bB (Nat.min_le_right _ _)]
 rw[e]
 by_cases h:s<=n
 have:=FI (es:=es) h
 rw[bB h];omega
 have:=FI (es:=es) (show n<=s by omega)
 rw[Nat.min_eq_right I];omega
theorem Rd.cut0 {α:Type} {Y:fA α} {lo hi cap sz:Nat} {A:Option Addr} {es:List α} {w:World} (h:Rd Y lo hi A es w) (k:Nat):Rd Y lo hi (cut A cap 0 sz) (es.take k) w:=by
 have e:cut A cap 0 sz=A:=by
  unfold cut
  split
  rfl
  cases A<;>simp[Addr.add]
 rw[e]
 exact h.take k
theorem G2 (l:pf) (w:World) (h:l.ok w):dt aa Bd [.agg l.c.toArray] w fun v w2=> ∃ A' c',v=.tuple #[.agg (pf.c ⟨A',c',l.es,l.es.length⟩).toArray,J 0]/\BV w w2 A' c' l.es l.es.length/\Below w.heap.size w w2:=by
 refine aG F5 Z Z ?_
 have hgl:=h.gl
 have hcap:=h.cap
 have hsz:=hgl.sz
 have hln:=hgl.len
 have hsle:=hgl.sle
 have hss:iS l.es l.s<=(bG l.es).length:=fX l.es l.s
 have H:=Hp.startRd h.rd
 obtain⟨lA,lc,es,s⟩:=l
 dsimp only at hgl hcap hsz hln hsle hss H
 have hss2:(bG (es.take s)).length<=(bG es).length:=hss
 show CW _ _ _ _ (args [.agg #[.slice lA (bG es).length lc,J (iS es s:Nat)]]) w
 refine W<|Zr<|gY H Z Z fun w1 b1 H=>fc H tO Z fun w2 b2 H=>G (Wi Z)<|U<|W<|W<|Zr<|G (Zw fE H 1 Z Z Z)<|cu qd (ur lA lc es s _ ⟨hgl,hcap,H.rd0 0 Z⟩) Z Z ?_
 rintro _ w3 ⟨rfl,hb⟩;replace H:=H.later hb;clear hb
 refine G (Wi Z)<|U<|W<|Zr<|G (Yi Z)<|G (cv Z Z Z)<|U<|ZF Z<|Zk<|W ?_
 have hlo:=H.size
 refine bL cD [0,1,3,4,5,2,6] [7,8] [2] [0,3,5,6] (sp [(2,Sp.row w3.heap.size dP (bG es))]) N N N N Nq (cQ _) ?_
 refine aw Z Z Z Z Z (fun w' hw'=>Zf jb Z)<|aw Z Z Z Z Z (fun w' hw'=>bi eV Z (aJ ((H.later hw').ent (i:=1) Z) Z))<|aw Z Z Z Z Z (fun w' hw'=>Zf jb Z)<|aw Z Z Z Z Z (fun w' hw'=>bi eV Z (aJ ((H.later hw').ent (i:=1) Z) Z))<|aw Z Z Z Z Z (fun w' hw'=>bh fb Z)<|DB f0 Z Z Z Z Z (fun w' hw'=>hw'.size) (fun w' hw'=>oh (bG es) _ _ w' ((H.later hw').rd0 0 Z) I) Z fun A13 c13 hc13=>aw Z Z Z Z Z (fun w' hw'=>bC (cs:= #[.slice A13 (bG es).length c13,J ((bG es).length:Nat)]) wc tO N)<|aU ?_
 intro w4 hw' hF
 obtain⟨hF,Aq,cq,eq,hcq,hrw13⟩:=hF;cases eq;clear hcq
 replace H:=H.learnRd hw' hrw13
 clear hw' hF
 refine bA H 0 (#[.slice A13 (bG es).length c13,J ((bG es).length:Nat)]) kR Z Z Z Z Z N N fun w5 H=>G (Wi Z)<|U<|Zt ?_
 exact ch (cs0:= #[.slice A13 (bG es).length c13,J ((bG es).length:Nat)]) (v1:=J 0) Z fE Z (H.ent (i:=0) Z) Z Z ⟨A13,c13,by unfold pf.c;rw[Oi],⟨hgl.all,hc13,Rd.mono (H.fact (i:=0) Z) hlo (H.facts _ (ab (i:=0) Z)).2.1⟩,H.below⟩
theorem Jy (l:pf) (n:Nat) (w:World) (h:l.ok w) (hn:n<=l.es.length):dt aa Dp [.agg l.c.toArray,J (n:Nat)] w fun v w2=> ∃ A' c',v=.tuple #[.agg (pf.c ⟨A',c',l.es.take n,min l.s n⟩).toArray,J 0]/\BV w w2 A' c' (l.es.take n) (min l.s n)/\Below w.heap.size w w2:=by
 refine aG HH Z Z ?_
 have hgl:=h.gl
 have hcap:=h.cap
 have hsz:=hgl.sz
 have hln:=hgl.len
 have hsle:=hgl.sle
 have hss:iS l.es l.s<=(bG l.es).length:=fX l.es l.s
 have H:=Hp.startRd h.rd
 obtain⟨lA,lc,es,s⟩:=l
 dsimp only at hgl hcap hsz hln hsle hss H
 have hss2:(bG (es.take s)).length<=(bG es).length:=hss
 show CW _ _ _ _ (args [.agg #[.slice lA (bG es).length lc,J (iS es s:Nat)],J (n:Nat)]) w
 dsimp only at hn
 refine W<|Zr<|gY H Z Z fun w1 b2 H=>fc H tO Z fun w2 b4 H=>G (Wi Z)<|U<|W<|Zr<|G (Zw fE H 1 Z Z Z)<|cu gR (iq lA lc es s _ ⟨hgl,hcap,H.rd0 0 Z⟩) Z Z ?_
 rintro _ w3 ⟨A16,c16,rfl,hr16,hc16,hb16⟩;replace H:=H.learnRd hb16 hr16;clear hr16 hb16
 refine G (Yu Z)<|G (Xs Z Z)<|G (Xi Z Z)<|G (Xi Z Z)<|G (Ws Z)<|G (Wi Z)<|G (Wi Z)<|U<|W<|W<|Zr<|G (Yi Z)<|G (cv Z Z Z)<|U<|ZF Z<|Zk<|W<|W<|Zr<|G (Yi Z)<|G (dp Z Z I)<|G (Yb Z)<|ZG<|G (Yi Z)<|ZG<|G (Ys Z)<|ZG<|G (bh eN Z)<|ZG<|G (eB Z Z I)<|G (N Z Z)<|U<|ZF Z<|Zk<|W<|W<|Zr<|G (Yi Z)<|G (Ys Z)<|G (bh eN Z) ?_
 refine du (bv Z Z) Z Z Z (fun h36=> ?_) (fun h36=> ?_)
 refine U<|ZT Z<|W ?_
 have hlo:=H.size
 refine bL cD [0,1,3,4,2,5] [6,7] [2] [0,3,5] (sp [(2,Sp.row w3.heap.size dP (bG es))]) N N N N Nq (cQ _) ?_
 refine aw Z Z Z Z Z (fun w' hw'=>Zf jb Z)<|aw Z Z Z Z Z (fun w' hw'=>bi eV Z (aJ ((H.later hw').ent (i:=1) Z) Z))<|aw Z Z Z Z Z (fun w' hw'=>Zf oT Z)<|aw Z Z Z Z Z (fun w' hw'=>bi am Z (aJ ((H.later hw').ent (i:=1) Z) Z))<|DB f0 Z Z Z Z Z (fun w' hw'=>hw'.size) (fun w' hw'=>oh (bG es) _ _ w' ((H.later hw').rd0 1 Z) I) Z fun A39 c39 hc39=>aw Z Z Z Z Z (fun w' hw'=>bC (cs:= #[.slice A39 (bG es).length c39,J (iS es s:Nat)]) wc tO N)<|aU ?_
 intro w4 hw' hF
 obtain⟨hF,Aq,cq,eq,hcq,hrw39⟩:=hF;cases eq;clear hcq
 replace H:=H.learnRd hw' hrw39
 clear hw' hF
 refine bA H 0 (#[.slice A39 (bG es).length c39,J (iS es s:Nat)]) kR Z Z Z Z Z N N fun w5 H=>G (Wi Z)<|U<|Zt ?_
 have hnl:n=es.length:=by omega
 subst hnl
 exact ch (cs0:= #[.slice A39 (bG es).length c39,J (iS es s:Nat)]) (v1:=J 0) Z fE Z (H.ent (i:=0) Z) Z Z ⟨A39,c39,by unfold pf.c;rw[bB hsle,bJ],⟨by rw[bB hsle,bJ];exact hgl,by rw[bJ];exact hc39,by rw[bJ];exact Rd.mono (H.fact (i:=0) Z) hlo (H.facts _ (ab (i:=0) Z)).2.1⟩,H.below⟩
 refine U<|ZF Z<|Zk<|W<|Zr<|G (Wi Z)<|U<|W<|W<|Zr<|G (Ys Z)<|G (Yi Z)<|wd (k:=n) H 0 Z dW Z Z hc16 I Z fun A45 H=>G (bh eN Z)<|G (Yi Z)<|U<|Zb ?_
 refine cf (τ:=Nat) [9,11,12,13,47,48,49,50,51,52,53,54,55,56,57,58,59,60] (fun k=>[(9,J (iS es k:Nat)),(47,J (k:Nat))]) (fun k w'=>k<=n/\Hp w w' [(b4,.cells #[.slice none 0 0,J 0] GG (0,0)),(b2,.cells #[.slice lA (bG es).length lc,J (iS es s:Nat)] GG (0,0))] [ey hJ w2.heap.size w3.heap.size A45 (es.take n),ey hJ w2.heap.size w3.heap.size A16 es,ey dP 0 w.heap.size lA (bG es)]) (fun k=>n-k) 0 ⟨by omega,H⟩ (mK Z Z) ?_
 rintro k ρ1 w6 ⟨hk,H⟩
 show CW _ _ _ _ (dK (ia _ _ ρ1) [(9,J (iS es k:Nat)),(47,J (k:Nat))]) w6
 have hsk0:iS es k<=(bG es).length:=fX es k
 refine W<|Zr ?_
 refine du (cO Z Z) Z Z Z (fun h48=> ?_) (fun h48=> ?_)
 refine U<|W<|ZT Z<|Zk<|W<|Zb<|W<|Zr ?_
 have htl:(es.take n).length=n:=by simp;omega
 refine qg H 0 Z dW Z Z I I Z fun b7 o7 x7 e7=> ?_
 have hxk:es[k]? =some x7:=by have:=e7.at_;rwa[fe I]at this
 have hg:=hgl.good _ (ab hxk)
 have hsk:=fX es (k+1)
 rw[uC hxk,ay]at hsk
 have hsk2:iS es k+(mz x7).length<=(bG es).length:=hsk
 refine G (ka (xs:=cr.c x7) dJ Z Z e7.cl)<|fc H gB Z fun w8 b11 H=>Lj H 0 fa Z Z Z Z Z Z fun w9 H=>U<|W<|Zr<|G (Zw dJ H 0 Z Z Z)<|cu uI (Dx x7 _ hg) Z Z ?_
 rintro _ w11 ⟨A10,c10,rfl,hr10,hc10,hb10⟩;replace H:=H.learnRd hb10 hr10;clear hr10 hb10
 refine G (Yu Z)<|G (Xs Z Z)<|G (Xi Z Z)<|G (Ws Z)<|G (Wi Z)<|U<|Zr<|G (Yi Z)<|G (Ys Z)<|G (bh fb Z)<|G (bp Z Z I I)<|G (Wi Z)<|U<|Zr<|G (bp Z Z I I)<|G (Yi Z)<|U ?_
 refine⟨k+1,⟨by omega,H.forget (aR _ _) (fun _ h=>ai _ h)⟩,mK (by show _=Value.int .i64 ((iS es (k+1):Nat):Int);unfold iS;rw[uC hxk,ay];rfl) Z,Qg,by show n- (k+1)<n-k;omega⟩
 have hkn:n=k:=by omega
 subst hkn
 refine U<|W<|ZF Z<|Zx<|W ?_
 have hlo:=H.size
 refine bL cD [0,1,2,3,5,6,7,8,4,9] [10,11] [4] [0,2,3,5,7,8,9] (sp [(4,Sp.row w6.heap.size dP (bG (es.take n)))]) N N N N Nq (cQ _) ?_
 refine aw Z Z Z Z Z (fun w' hw'=>Zf jb Z)<|aw Z Z Z Z Z (fun w' hw'=>bi eV Z (aJ ((H.later hw').ent (i:=1) Z) Z))<|aw Z Z Z Z Z (fun w' hw'=>Yi Z)<|aw Z Z Z Z Z (fun w' hw'=>D1 (i:=((iS es n:Nat):Int)) eF Z Z I (by have:=fX es n;show((iS es n:Nat):Int)<=_;unfold iS;omega))<|aw Z Z Z Z Z (fun w' hw'=>Zf oT Z)<|aw Z Z Z Z Z (fun w' hw'=>bi am Z (aJ ((H.later hw').ent (i:=1) Z) Z))<|aw Z Z Z Z Z (fun w' hw'=>Yi Z)<|aw Z Z Z Z Z (fun w' hw'=>yp Z Z)<|DB f0 Z Z Z Z Z (fun w' hw'=>hw'.size) (fun w' hw'=>oh (bG (es.take n)) _ _ w' (by have:=Rd.cut0 (cap:=lc) (sz:=1) ((H.later hw').rd0 2 Z) (iS es n);rwa[yb]at this) (by have:=fX es n;omega)) Z fun A65 c65 hc65=>aw Z Z Z Z Z (fun w' hw'=>bC (cs:= #[.slice A65 (bG (es.take n)).length c65,J (min ((iS es s:Nat):Int) ((iS es n:Nat):Int))]) wc tO N)<|aU ?_
 intro w12 hw' hF
 obtain⟨hF,Aq,cq,eq,hcq,hrw65⟩:=hF;cases eq;clear hcq
 replace H:=H.learnRd hw' hrw65
 clear hw' hF
 refine bA H 0 (#[.slice A65 (bG (es.take n)).length c65,J (min ((iS es s:Nat):Int) ((iS es n:Nat):Int))]) kR Z Z Z Z Z N N fun w13 H=>G (Wi Z)<|U<|Zt ?_
 exact ch (cs0:= #[.slice A65 (bG (es.take n)).length c65,J (min ((iS es s:Nat):Int) ((iS es n:Nat):Int))]) (v1:=J 0) Z fE Z (H.ent (i:=0) Z) Z Z ⟨A65,c65,by unfold pf.c;rw[Oh],⟨hgl.take n (by simp;omega),hc65,Rd.mono (H.fact (i:=0) Z) hlo (H.facts _ (ab (i:=0) Z)).2.1⟩,H.below⟩
/-- a replica, and where its log's bytes lie -/
structure gm where
 up:Bool
 A:Option Addr
 cap:Nat
 es:List cr
 s:Nat
 high:Int
 lo:Nat
 hi:Nat
def gm.c (r:gm):List Value:=[.bool r.up,.slice r.A (bG r.es).length r.cap,J (iS r.es r.s:Nat),J r.high]
def jr:fA gm:=⟨gm.c,4,fun _=>rfl,by decide,fun a u hu=>by
 simp only[gm.c,av,bd,or_false]at hu
 rcases hu with h|h|h|h<;>subst h<;>rfl⟩
def fI:fA Bool:=⟨fun n=>[.bool n],1,fun _=>rfl,by decide,fun a u hu=>by
 simp only[ar]at hu;subst hu;rfl⟩
abbrev gm.log (r:gm):pf:=⟨r.A,r.cap,r.es,r.s⟩
abbrev B8 (r:gm):ce:=ey dP r.lo r.hi r.A (bG r.es)
abbrev vE (rs:List gm):List ce:=rs.map B8
structure RA where
 up:Bool
 es:List cr
 s:Nat
 high:Int
def gm.a (r:gm):RA:=⟨r.up,r.es,r.s,r.high⟩
structure f3 where
 epoch:Int
 leader:Int
 isr:List Bool
 known:List Int
 reps:List RA
 few:Int
 base:Int
structure Pa where
 epoch:Int
 leader:Int
 isr:List Bool
 iA:Option Addr
 iC:Nat
 known:List Int
 kA:Option Addr
 kC:Nat
 reps:List gm
 rA:Option Addr
 rC:Nat
 few:Int
 base:Int
def Pa.c (p:Pa):List Value:=[J p.epoch,J p.leader,.slice p.iA p.isr.length p.iC,.slice p.kA p.known.length p.kC,.slice p.rA p.reps.length p.rC,J p.few,J p.base]
abbrev Pa.v (p:Pa):Value:=.agg p.c.toArray
def Pa.a (p:Pa):f3:=⟨p.epoch,p.leader,p.isr,p.known,p.reps.map gm.a,p.few,p.base⟩
structure Pa.rd (p:Pa) (lo hi:Nat) (w:World):Prop where
 isr:Rd fI lo hi p.iA p.isr w
 known:Rd bS lo hi p.kA p.known w
 reps:Rd jr lo hi p.rA p.reps w
 logs: ∀ r∈p.reps,Rd dP lo hi r.A (bG r.es) w
 iC:p.isr.length<=p.iC
 kC:p.known.length<=p.kC
 rC:p.reps.length<=p.rC
 cap: ∀ r∈p.reps,(bG r.es).length<=r.cap
 few:p.isr.length<=1000000/\p.known.length<=1000000/\p.reps.length<=1000000
theorem Pa.rd.st {p:Pa} {lo hi:Nat} {w w':World} (hk: ∀ k,lo<=k->k<hi->w'.heap[k]? =w.heap[k]?) (h:p.rd lo hi w):p.rd lo hi w':=
 ⟨h.isr.st hk,h.known.st hk,h.reps.st hk,fun r hr=>(h.logs r hr).st hk,h.iC,h.kC,h.rC,h.cap,h.few⟩
theorem Pa.rd.mono {p:Pa} {lo hi lo' hi':Nat} {w:World} (h:p.rd lo hi w) (hl:lo'<=lo) (hh:hi<=hi'):p.rd lo' hi' w:=
 ⟨h.isr.mono hl hh,h.known.mono hl hh,h.reps.mono hl hh,fun r hr=>(h.logs r hr).mono hl hh,h.iC,h.kC,h.rC,h.cap,h.few⟩
def KI (lo hi:Nat) (p:Pa):ce:=⟨lo,hi,p.rd lo hi,fun _ _ hk h=>h.st hk⟩
structure RA.ok (r:RA):Prop where
 gl:GL r.es r.s
 high0:0<=r.high
 high1:r.high<=r.es.length
structure f3.ok (p:f3):Prop where
 n1:1<=p.reps.length
 n2:p.reps.length<=5
 isrl:p.isr.length=p.reps.length
 knownl:p.known.length=p.reps.length
 few1:1<=p.few
 few2:p.few<=p.reps.length
 ep0:0<=p.epoch
 ep1:p.epoch<=1073741824
 ld0: -1<=p.leader
 ld1:p.leader<p.reps.length
 base0:0<=p.base
 base1:p.base<=400
 some_:true∈p.isr
 lead: ∀ (l:Nat) (r:RA),p.leader=l->p.reps[l]? =some r->p.isr[l]? =some true/\r.up=true
 reps: ∀ r∈p.reps,r.ok
 known: ∀ n∈p.known,0<=n/\n<=400
theorem Hp.startPa {p:Pa} {w:World} (h:p.rd 0 w.heap.size w):Hp w w [] [KI 0 w.heap.size p,ey fI 0 w.heap.size p.iA p.isr,ey bS 0 w.heap.size p.kA p.known,ey jr 0 w.heap.size p.rA p.reps]:=
 ((((Hp.start w).learnOld (ey jr 0 w.heap.size p.rA p.reps) h.reps (ao _)).learnOld (ey bS 0 w.heap.size p.kA p.known) h.known (ao _)).learnOld (ey fI 0 w.heap.size p.iA p.isr) h.isr (ao _)).learnOld (KI 0 w.heap.size p) h (ao _)
theorem Hp.pa {w0 w:World} {L:List (Nat×Obj)} {F:List ce} {lo hi:Nat} {p:Pa} (H:Hp w0 w L F) (i:Nat) (hF:F[i]? =some (KI lo hi p)):p.rd 0 w.heap.size w:=
 Pa.rd.mono (H.fact hF) (bN _) (H.facts _ (ab hF)).2.1
theorem Pa.rd.nil (lo hi:Nat) (w:World):Pa.rd ⟨0,0,[],none,0,[],none,0,[],none,0,0,0⟩ lo hi w:=
 ⟨Rd.nil,Rd.nil,Rd.nil,fun r hr=>by simp at hr,by simp,by simp,by simp,fun r hr=>by simp at hr,by simp⟩
def Jg:Pa:=⟨0,0,[],none,0,[],none,0,[],none,0,0,0⟩
def mp:f3:=⟨0,0,[],[],[],0,0⟩
def iJ (w w2:World) (p:Pa):Prop:=p.rd w.heap.size w2.heap.size w2/\Below w.heap.size w w2
theorem iJ.zero {w w2:World} (h:Below w.heap.size w w2):iJ w w2 Jg:=⟨Pa.rd.nil _ _ _,h⟩
structure Jd (w w2:World) (p:Pa) (g1 g2 g3:Nat) (c1 c2 c3:Array Value):Prop where
 i:p.iA=some ⟨g1,0,none⟩
 k:p.kA=some ⟨g2,0,none⟩
 r:p.rA=some ⟨g3,0,none⟩
 ri:d7 fI p.isr p.iC c1
 rk:d7 bS p.known p.kC c2
 rr:d7 jr p.reps p.rC c3
 cap: ∀ r∈p.reps,(bG r.es).length<=r.cap
 los: ∀ r∈p.reps,w.heap.size<=r.lo
 few:p.isr.length<=1000000/\p.known.length<=1000000/\p.reps.length<=1000000
 hp:Hp w w2 [(g1,.cells c1 j6 (0,0)),(g2,.cells c2 dg (0,0)),(g3,.cells c3 g7 (0,0))] (vE p.reps)
theorem Jd.new {w w2:World} {p:Pa} {g1 g2 g3:Nat} {c1 c2 c3:Array Value} (h:Jd w w2 p g1 g2 g3 c1 c2 c3):iJ w w2 p:=by
 have H:=h.hp
 have e1:=H.ents _ (ie _)
 have e2:=H.ents _ (rb _ (ie _))
 have e3:=H.ents _ (rb _ (rb _ (ie _)))
 refine⟨⟨?_,?_,?_,fun r hr=> ?_,h.ri.le,h.rk.le,h.rr.le,h.cap,h.few⟩,H.below⟩
 rw[h.i];exact(h.ri.rd e1.1).mono e1.2 (bV e1.1)
 rw[h.k];exact(h.rk.rd e2.1).mono e2.2 (bV e2.1)
 rw[h.r];exact(h.rr.rd e3.1).mono e3.2 (bV e3.1)
 obtain⟨f1,f2,-⟩:=H.facts (B8 r) (bF hr)
 exact Rd.mono f1 (h.los r hr) f2
theorem CE (es:List Bool) (A:Option Addr) (c:Nat) (w:World) (hr:Rd fI 0 w.heap.size A es w) (hb:es.length*1<=140737488355328):
  dt aa qS [.slice A es.length c] w fun v w2=> ∃ A' c' L',v=.slice A' es.length c'/\es.length<=c'/\c'<=maxLen/\gG fI (.slice A' es.length c') j6 es L'/\Hp w w2 L' []:=by
 refine aG qA Z Z ?_
 have H:=Hp.startRd hr
 refine W<|Zr<|G (Ws Z)<|U<|W<|W<|Zr<|G (Ys Z) ?_
 refine zS (pU yr Z) Z Z Z (fun h4=> ?_) (fun h4=> ?_)
 refine U<|ZT Z<|W<|Zr<|G (Ws Z)<|U<|Zt ?_
 have he:es=[]:=by
  cases es with
  |nil=>rfl
  |cons e es=>obtain⟨b,o,hA,_⟩:=hr (by simp);subst hA;cases h4
 subst he
 exact cn Z Z ⟨none,0,[],rfl,by simp,by decide,gG.nil,H.forget (by simp) (by simp)⟩
 refine U<|ZF Z<|Zk<|W<|Zr<|OL H fg Z fun w1 b5 H=>G (Ys Z)<|wN (Y:=fI) Nd (K:=[]) (L:=[(b5,_)]) (M:=[]) H (sm.lit (by decide) (by rfl)) (es:=[]) (news:=es) Z Z Z (Rd.src (H.fact (i:=0) Z)) (by simpa using hb) Z ?_
 intro A3 c3 w3 L3 h3a h3b ho3 H
 refine G (Ws Z)<|U<|Zt ?_
 exact cn Z Z ⟨A3,c3,L3,rfl,h3a,h3b,ho3,H.forget (by simp) (by simp)⟩
theorem yI (es:List gm) (A:Option Addr) (c:Nat) (w:World) (hr:Rd jr 0 w.heap.size A es w) (hb:es.length*48<=140737488355328):
  dt aa nj [.slice A es.length c] w fun v w2=> ∃ A' c' L',v=.slice A' es.length c'/\es.length<=c'/\c'<=maxLen/\gG jr (.slice A' es.length c') g7 es L'/\Hp w w2 L' []:=by
 refine aG mV Z Z ?_
 have H:=Hp.startRd hr
 refine W<|Zr<|G (Ws Z)<|U<|W<|W<|Zr<|G (Ys Z) ?_
 refine zS (pU ik Z) Z Z Z (fun h4=> ?_) (fun h4=> ?_)
 refine U<|ZT Z<|W<|Zr<|G (Ws Z)<|U<|Zt ?_
 have he:es=[]:=by
  cases es with
  |nil=>rfl
  |cons e es=>obtain⟨b,o,hA,_⟩:=hr (by simp);subst hA;cases h4
 subst he
 exact cn Z Z ⟨none,0,[],rfl,by simp,by decide,gG.nil,H.forget (by simp) (by simp)⟩
 refine U<|ZF Z<|Zk<|W<|Zr<|OL H bM Z fun w1 b5 H=>G (Ys Z)<|wN (Y:=jr) GB (K:=[]) (L:=[(b5,_)]) (M:=[]) H (sm.lit (by decide) (by rfl)) (es:=[]) (news:=es) Z Z Z (Rd.src (H.fact (i:=0) Z)) (by simpa using hb) Z ?_
 intro A3 c3 w3 L3 h3a h3b ho3 H
 refine G (Ws Z)<|U<|Zt ?_
 exact cn Z Z ⟨A3,c3,L3,rfl,h3a,h3b,ho3,H.forget (by simp) (by simp)⟩
theorem Cc (es:List Bool) (A:Option Addr) (c:Nat) (w:World) (hr:Rd fI 0 w.heap.size A es w) (hb:es.length<=1000000):
  dt aa qR [.slice A es.length c,.bool true] w fun v w2=>(∃ n:Int,v=J n/\(0<=n↔true∈es))/\Below w.heap.size w w2:=by
 refine aG qy Z Z ?_
 have H:=Hp.startRd hr
 refine W<|Zr<|G (Wi Z)<|U<|W<|W<|Zr<|G (Ys Z)<|G (bh yr Z)<|G (Yi Z)<|U<|Zb ?_
 refine cf (τ:=Nat) [4,5,8,9,10,11,12,13,14,15,16,17,18] (fun k=>[(8,J (k:Nat))]) (fun k w'=>k<=es.length/\(∀ j,j<k->es[j]? =some false)/\Hp w w' [] [ey fI 0 w.heap.size A es]) (fun k=>es.length-k) 0 ⟨by omega,by intro j hj;omega,H⟩ (dR Z) ?_
 rintro k ρ1 w1 ⟨hk,hno,H⟩
 show CW _ _ _ _ (dK (ia _ _ ρ1) [(8,J (k:Nat))]) w1
 refine W<|Zr ?_
 refine du (cO Z Z) Z Z Z (fun h9=> ?_) (fun h9=> ?_)
 refine U<|W<|ZT Z<|Zk<|W<|Zb<|W<|Zr<|G (Yi Z)<|G (Wi Z)<|U<|W<|Zr<|G (Yb Z)<|G (Ys Z)<|G (Yi Z)<|qg H 0 Z fg Z Z I I Z fun b2 o2 x2 e2=>G (bi eS Z (e2.cl 0 _ Z))<|G (EU wU Z Z) ?_
 refine nK 16 Z (fun h16=> ?_) (fun h16=> ?_)
 refine U<|ZT Z<|W<|Zr<|G (Yi Z)<|G (Wi Z)<|U<|Zt ?_
 exact cn Z Z ⟨⟨_,rfl,⟨fun _=>by have:=ab e2.at_;simp at h16;rwa[h16]at this,fun _=>by omega⟩⟩,H.below⟩
 refine U<|ZF Z<|Zk<|Zr<|G (bp Z Z I I)<|G (Yi Z)<|U ?_
 refine⟨k+1,⟨by omega,fun j hj=> ?_,H⟩,dR Z,Qg,by show es.length- (k+1)<es.length-k;omega⟩
 by_cases hji:j<k
 exact hno j hji
 have:j=k:=by omega
 subst this;rw[e2.at_];simpa using h16
 refine U<|W<|ZF Z<|Zx<|W<|Zr<|G (Wi Z)<|U<|Zt ?_
 exact cn Z Z ⟨⟨-1,rfl,⟨fun h=>by omega,fun h=>by obtain⟨j,hj⟩:=aN.1 h;have:=hno j (by have:=(cy hj).1;omega);rw[hj]at this;cases this⟩⟩,H.below⟩
theorem yG (es:List Bool) (A:Option Addr) (c:Nat) (w:World) (hr:Rd fI 0 w.heap.size A es w) (hb:es.length<=1000000):
  dt aa py [.slice A es.length c,.bool true] w fun v w2=>v=.bool (decide (true∈es))/\Below w.heap.size w w2:=by
 refine aG oM Z Z ?_
 have H:=Hp.start w
 refine W<|Zr<|G (Wb Z)<|U<|W<|Zr<|G (Ys Z)<|G (Yb Z)<|cu qF (Cc es _ _ _ hr hb) Z Z ?_
 rintro _ w1 ⟨⟨n,rfl,hn⟩,hb⟩;replace H:=H.later hb;clear hb
 refine G (ku Z Z)<|G (Wb Z)<|U<|Zt ?_
 exact cn (v:=.bool (decide (0<=n))) Z Z ⟨by rw[decide_eq_decide.2 hn],H.below⟩
theorem sB (p:Pa) (i:Nat) (r:gm) (w:World) (hR:Rd jr 0 w.heap.size p.rA p.reps w) (hr:p.reps[i]? =some r) (hl:r.log.ok w):dt aa FQ [p.v,J (i:Nat)] w fun v w2=>v=.tuple #[J (r.es.length:Nat),J (r.s:Nat)]/\Below w.heap.size w w2:=by
 refine aG EB Z Z ?_
 obtain⟨ep,ld,isr,iA,iC,kn,kA,kC,reps,rA,rC,fw,bs⟩:=p
 dsimp only at hR hr
 have H:=Hp.startRd hR
 have hil:=(cy hr).1
 show CW _ _ _ _ (args [.agg #[J (ep),J (ld),.slice iA isr.length iC,.slice kA kn.length kC,.slice rA reps.length rC,J (fw),J (bs)],J (((i:Nat):Int))]) w
 refine W<|Zr<|gY H Z Z fun w1 b2 H=>G (Wi Z)<|G (Wi Z)<|U<|W<|Zr<|G (Zf dQ Z)<|G (Zd cJ H 0 Z Z Z)<|G (Yi Z)<|qg H 0 Z bM Z Z I I Z fun b2 o2 x2 e2=> ?_
 obtain rfl:x2=r:=by have:=e2.at_;rw[hr]at this;exact(aY this).symm
 refine G (Zf dU Z)<|G (ka (xs:=[.slice x2.A ((bG x2.es).length) x2.cap,J (((iS x2.es x2.s:Nat):Int))]) fE Z Z (HU e2.cl 1 Z))<|cu gR (iq x2.A x2.cap x2.es x2.s _ ⟨hl.gl,hl.cap,hl.rd.below H.below|>.mono (ao _) H.size⟩) Z Z ?_
 rintro _ w3 ⟨Aen,cen,rfl,hren,hcen,hben⟩;replace H:=H.learnRd hben hren;clear hren hben
 refine G (Yu Z)<|G (Xs Z Z)<|G (Xi Z Z)<|G (Xi Z Z)<|G (Ws Z)<|G (Wi Z)<|G (Wi Z)<|U<|W<|Zr<|G (Ys Z)<|G (bh eN Z)<|G (Yi Z)<|G (Wi Z)<|G (Wi Z)<|U<|Zt ?_
 exact my Z Z Z ⟨rfl,H.below⟩
theorem Pa.facts {p:Pa} (h:p.a.ok):1<=p.reps.length/\p.reps.length<=5/\p.isr.length=p.reps.length/\p.known.length=p.reps.length/\1<=p.few/\p.few<=p.reps.length/\0<=p.epoch/\p.epoch<=1073741824/\ -1<=p.leader/\p.leader<p.reps.length/\0<=p.base/\p.base<=400/\true∈p.isr:=by
 have h1:=h.n1;have h2:=h.n2;have h3:=h.isrl;have h4:=h.knownl;have h6:=h.few2;have h7:=h.ld1
 simp only[Pa.a,bc]at h1 h2 h3 h4 h6 h7
 exact⟨h1,h2,h3,h4,h.few1,h6,h.ep0,h.ep1,h.ld0,h7,h.base0,h.base1,h.some_⟩
theorem Pa.repOk {p:Pa} (h:p.a.ok) {i:Nat} {r:gm} (hr:p.reps[i]? =some r):GL r.es r.s/\0<=r.high/\r.high<=r.es.length:=by
 have h1:=h.reps r.a (bF (ab hr))
 exact⟨h1.gl,h1.high0,h1.high1⟩
theorem Pa.leads {p:Pa} (h:p.a.ok) {l:Nat} {r:gm} (hl:p.leader=l) (hr:p.reps[l]? =some r):p.isr[l]? =some true/\r.up=true:=
 h.lead l r.a hl (by simp[Pa.a,hr])
theorem Pa.log {p:Pa} {w:World} (hd:p.rd 0 w.heap.size w) (h:p.a.ok) {i:Nat} {r:gm} (hr:p.reps[i]? =some r):r.log.ok w:=
 ⟨(Pa.repOk h hr).1,hd.cap r (ab hr),hd.logs r (ab hr)⟩
theorem sD (p:Pa) (w:World) (h:p.rd 0 w.heap.size w) (hok:p.a.ok):dt aa En [p.v] w fun v w2=>v=J 0/\Below w.heap.size w w2:=by
 refine aG Cs Z Z ?_
 obtain⟨hn1,hn2,hil,hkl,hf1,hf2,he0,he1,hl0,hl1,hb0,hb1,hsm⟩:=Pa.facts hok
 have hkn:=hok.known
 have hiC:=h.iC
 have hkC:=h.kC
 have hrC:=h.rC
 have hfew:=h.few
 have H:=Hp.startPa h
 obtain⟨ep,ld,isr,iA,iC,kn,kA,kC,reps,rA,rC,fw,bs⟩:=p
 simp only[Pa.a]at hkn
 dsimp only at H hn1 hn2 hil hkl hf1 hf2 he0 he1 hl0 hl1 hb0 hb1 hsm hiC hkC hrC hfew
 show CW _ _ _ _ (args [.agg #[J (ep),J (ld),.slice iA isr.length iC,.slice kA kn.length kC,.slice rA reps.length rC,J (fw),J (bs)]]) w
 refine W<|Zr<|gY H Z Z fun w1 b1 H=>G (Wi Z)<|U<|W<|Zr<|G (Zf dQ Z)<|G (Zd cJ H 0 Z Z Z)<|G (bh ik Z)<|G (Wi Z)<|U<|W<|W<|Zr<|G (Yi Z)<|G (dp Z Z I)<|G (Yb Z)<|ZG<|G (Yi Z)<|ZG<|G (eB Z Z I)<|G (N Z Z)<|G (Yb Z)<|ZG<|G (Zf kW Z)<|ZG<|G (Zd l5 H 0 Z Z Z)<|ZG<|G (bh yr Z)<|ZG<|G (Yi Z)<|ZG<|G (cv Z Z I)<|G (N Z Z)<|G (Yb Z)<|ZG<|G (Zf iX Z)<|ZG<|G (Zd cB H 0 Z Z Z) ?_
 refine ZG<|G (bh eT Z)<|ZG<|G (Yi Z)<|ZG<|G (cv Z Z I)<|G (N Z Z)<|G (Yb Z)<|ZG<|G (Zf yF Z)<|ZG<|G (Zd am H 0 Z Z Z)<|ZG<|G (dp Z Z I)<|G (N Z Z)<|G (Yb Z)<|ZG<|G (Zf yF Z)<|ZG<|G (Zd am H 0 Z Z Z)<|ZG<|G (Yi Z)<|ZG<|G (eB Z Z I)<|G (N Z Z)<|G (Yb Z)<|ZG<|G (Zf qi Z)<|ZG<|G (Zd am H 0 Z Z Z)<|ZG<|G (dp Z Z I)<|G (N Z Z)<|G (Yb Z)<|ZG<|G (Zf qi Z)<|ZG<|G (Zd am H 0 Z Z Z)<|ZG<|G (eB Z Z I) ?_
 refine G (N Z Z)<|G (Yb Z)<|ZG<|G (Zf eC Z)<|ZG<|G (Zd am H 0 Z Z Z)<|ZG<|G (dp Z Z I)<|G (N Z Z)<|G (Yb Z)<|ZG<|G (Zf eC Z)<|ZG<|G (Zd am H 0 Z Z Z)<|ZG<|G (Yi Z)<|ZG<|G (rU Z Z I)<|G (N Z Z)<|G (Yb Z)<|ZG<|G (Zf yE Z)<|ZG<|G (Zd am H 0 Z Z Z)<|ZG<|G (dp Z Z I)<|G (N Z Z)<|G (Yb Z)<|ZG<|G (Zf yE Z)<|ZG<|G (Zd am H 0 Z Z Z)<|ZG<|G (eB Z Z I)<|G (N Z Z)<|U<|ZF Z<|Zk<|W<|W ?_
 refine Zr<|G (Zf kW Z)<|G (Zd l5 H 0 Z Z Z)<|cu oX (yG isr iA iC _ (H.rd0 1 Z) I) Z Z ?_
 rintro _ w2 ⟨rfl,hb⟩;replace H:=H.later hb;clear hb
 rw[decide_eq_true hsm]
 refine G (ee Z)<|G (Yb Z)<|ZG<|G (Zf eC Z)<|ZG<|G (Zd am H 0 Z Z Z)<|ZG ?_
 refine du (ku Z Z) Z Z Z (fun h80=> ?_) (fun h80=> ?_)
 obtain⟨l,hld⟩: ∃ l:Nat,ld=l:=⟨ld.toNat,by omega⟩
 refine ZG<|G (Yb Z)<|ZG<|G (Zf kW Z)<|ZG<|G (Zd l5 H 0 Z Z Z)<|ZG<|G (Zf eC Z)<|ZG<|G (Zd am H 0 Z Z Z)<|ZG<|qg (k:=l) H 1 Z fg Z (congrArg (Value.int .i64) hld) I I Z fun b3 o3 x3 e3=>ZG ?_
 obtain⟨hI,-⟩:=Pa.leads hok (l:=l) hld (show(Pa.reps ⟨ep,ld,isr,iA,iC,kn,kA,kC,reps,rA,rC,fw,bs⟩)[l]? =_ from aj (by show l<reps.length;omega))
 obtain rfl:x3=true:=by have:=e3.at_;rw[show isr[l]? =_ from hI]at this;exact(aY this).symm
 refine G (bi (v:=.bool true) eS Z (e3.cl 0 _ Z))<|ZG<|G (ee Z)<|ZG<|G (Yb Z)<|ZG<|G (Zf dQ Z)<|ZG<|G (Zd cJ H 0 Z Z Z)<|ZG<|G (Zf eC Z)<|ZG<|G (Zd am H 0 Z Z Z)<|ZG<|qg (k:=l) H 3 Z bM Z (congrArg (Value.int .i64) hld) I I Z fun b4 o4 x4 e4=>ZG<|G (Zf kV Z)<|ZG ?_
 obtain⟨-,hU⟩:=Pa.leads hok (l:=l) hld (show(Pa.reps ⟨ep,ld,isr,iA,iC,kn,kA,kC,reps,rA,rC,fw,bs⟩)[l]? =_ from e4.at_)
 refine G (bi (v:=.bool true) eS Z (e4.cl 0 _ (by rw[<-hU];rfl)))<|ZG<|G (ee Z)<|ZG<|G (N Z Z)<|ZG<|G (Kt Z Z)<|G (N Z Z)<|U<|ZF Z<|Zk<|W<|W<|Zr<|G (Zf dQ Z)<|G (Zd cJ H 0 Z Z Z)<|G (bh ik Z)<|G (Yi Z)<|U<|Zb ?_
 refine cf (τ:=Nat) [2,4,5,6,7,104,105,106,107,108,109,110,111,112,113,114,115,116,117,118,119,120,121,122,123,124,125,126,127,128,129,130,131,132,133,134,135,136,137,138,139,140,141,142,143,144,145,146] (fun k=>[(104,J (k:Nat))]) (fun k w'=>k<=reps.length/\Hp w w' [(b1,.cells #[J (ep),J (ld),.slice iA isr.length iC,.slice kA kn.length kC,.slice rA reps.length rC,J (fw),J (bs)] bI (0,0))] [KI 0 w.heap.size ⟨ep,ld,isr,iA,iC,kn,kA,kC,reps,rA,rC,fw,bs⟩,ey fI 0 w.heap.size iA isr,ey bS 0 w.heap.size kA kn,ey jr 0 w.heap.size rA reps]) (fun k=>reps.length-k) 0 ⟨by omega,H⟩ (dR Z) ?_
 rintro k ρ1 w5 ⟨hk,H⟩
 show CW _ _ _ _ (dK (ia _ _ ρ1) [(104,J (k:Nat))]) w5
 refine W<|Zr ?_
 refine du (cO Z Z) Z Z Z (fun h105=> ?_) (fun h105=> ?_)
 refine U<|W<|ZT Z<|Zk<|W<|Zb<|W<|Zr<|G (Yi Z)<|qg H 3 Z bM Z Z I I Z fun b6 o6 x6 e6=>G (ka (xs:=gm.c x6) pb Z Z e6.cl)<|fc H sv Z fun w7 b5 H=>G (Wi Z)<|bA H 0 (#[.bool (x6.up),.slice x6.A ((bG x6.es).length) x6.cap,J (((iS x6.es x6.s:Nat):Int)),J (x6.high)]) ou Z Z Z Z Z N N fun w8 H=>U<|W<|Zr<|G (Zw bo H 1 Z Z Z)<|G (Yi Z)<|cu kY (sB ⟨ep,ld,isr,iA,iC,kn,kA,kC,reps,rA,rC,fw,bs⟩ k x6 _ (H.rd0 3 Z) e6.at_ (Pa.log (Hp.pa H 0 Z) hok (i:=k) e6.at_)) Z Z ?_
 rintro _ w9 ⟨rfl,hb⟩;replace H:=H.later hb;clear hb
 refine G (Yu Z)<|G (Xi Z Z)<|G (Xi Z Z)<|G (Wi Z)<|G (Wi Z)<|U<|W<|Zr<|G (Zf dU Z)<|G (j9 1 [.slice x6.A ((bG x6.es).length) x6.cap,J (((iS x6.es x6.s:Nat):Int))] fE Z Z (H.ent (i:=0) Z) Z)<|cu qd (ur x6.A x6.cap x6.es x6.s _ (Pa.log (Hp.pa H 0 Z) hok (i:=k) e6.at_)) Z Z ?_
 rintro _ w10 ⟨rfl,hb⟩;replace H:=H.later hb;clear hb
 refine G (cv Z Z Z)<|G (Yb Z)<|ZG<|G (Zf eX Z)<|ZG<|G (Zd am H 0 Z Z Z)<|ZG<|G (dp Z Z (by have:=(Pa.repOk hok (show(Pa.reps ⟨ep,ld,isr,iA,iC,kn,kA,kC,reps,rA,rC,fw,bs⟩)[k]? =_ from e6.at_)).2.1;omega))<|G (N Z Z)<|G (Yb Z)<|ZG<|G (Zf eX Z)<|ZG<|G (Zd am H 0 Z Z Z)<|ZG<|G (Yi Z)<|ZG<|G (eB Z Z (by have:=(Pa.repOk hok (show(Pa.reps ⟨ep,ld,isr,iA,iC,kn,kA,kC,reps,rA,rC,fw,bs⟩)[k]? =_ from e6.at_)).2.2;omega))<|G (N Z Z)<|G (Yb Z)<|ZG<|G (Zf iX Z)<|ZG<|G (Zd cB H 1 Z Z Z)<|ZG<|G (Yi Z)<|ZG<|qg H 2 Z bj Z Z I I Z fun b11 o11 x11 e11=>ZG<|G (bi am Z (e11.cl 0 _ Z))<|ZG<|G (dp Z Z (by have:=(hkn _ (ab e11.at_)).1;omega))<|G (N Z Z)<|G (Yb Z)<|ZG<|G (Zf iX Z)<|ZG<|G (Zd cB H 1 Z Z Z)<|ZG<|G (Yi Z) ?_
 refine ZG<|qg H 2 Z bj Z Z I I Z fun b12 o12 x12 e12=>ZG<|G (bi am Z (e12.cl 0 _ Z))<|ZG<|G (eB Z Z (by have:=(hkn _ (ab e12.at_)).2;omega))<|G (N Z Z)<|U<|ZF Z<|Zk<|Zr<|G (bp Z Z I I)<|G (Yi Z)<|U ?_
 refine⟨k+1,⟨by omega,H.forget (.cons _ (au _)) (fun _ h=>h)⟩,dR Z,Qg,by show reps.length- (k+1)<reps.length-k;omega⟩
 refine U<|W<|ZF Z<|Zx<|W<|Zr<|G (Wi Z)<|U<|Zt ?_
 exact cn Z Z ⟨rfl,H.below⟩
 refine ZG<|G (Yb Z)<|ZN<|ZN<|ZN<|ZN<|ZN<|ZN<|ZN<|ZN<|ZN<|ZN<|ZN<|ZN<|ZN<|ZN<|ZN<|ZN<|ZN<|ZG<|G (N Z Z)<|G (N Z Z)<|U<|ZF Z<|Zk<|W<|W<|Zr<|G (Zf dQ Z)<|G (Zd cJ H 0 Z Z Z)<|G (bh ik Z)<|G (Yi Z)<|U<|Zb ?_
 refine cf (τ:=Nat) [2,4,5,6,7,104,105,106,107,108,109,110,111,112,113,114,115,116,117,118,119,120,121,122,123,124,125,126,127,128,129,130,131,132,133,134,135,136,137,138,139,140,141,142,143,144,145,146] (fun k=>[(104,J (k:Nat))]) (fun k w'=>k<=reps.length/\Hp w w' [(b1,.cells #[J (ep),J (ld),.slice iA isr.length iC,.slice kA kn.length kC,.slice rA reps.length rC,J (fw),J (bs)] bI (0,0))] [KI 0 w.heap.size ⟨ep,ld,isr,iA,iC,kn,kA,kC,reps,rA,rC,fw,bs⟩,ey fI 0 w.heap.size iA isr,ey bS 0 w.heap.size kA kn,ey jr 0 w.heap.size rA reps]) (fun k=>reps.length-k) 0 ⟨by omega,H⟩ (dR Z) ?_
 rintro k ρ1 w13 ⟨hk,H⟩
 show CW _ _ _ _ (dK (ia _ _ ρ1) [(104,J (k:Nat))]) w13
 refine W<|Zr ?_
 refine du (cO Z Z) Z Z Z (fun h105=> ?_) (fun h105=> ?_)
 refine U<|W<|ZT Z<|Zk<|W<|Zb<|W<|Zr<|G (Yi Z)<|qg H 3 Z bM Z Z I I Z fun b14 o14 x14 e14=>G (ka (xs:=gm.c x14) pb Z Z e14.cl)<|fc H sv Z fun w15 b5 H=>G (Wi Z)<|bA H 0 (#[.bool (x14.up),.slice x14.A ((bG x14.es).length) x14.cap,J (((iS x14.es x14.s:Nat):Int)),J (x14.high)]) ou Z Z Z Z Z N N fun w16 H=>U<|W<|Zr<|G (Zw bo H 1 Z Z Z)<|G (Yi Z)<|cu kY (sB ⟨ep,ld,isr,iA,iC,kn,kA,kC,reps,rA,rC,fw,bs⟩ k x14 _ (H.rd0 3 Z) e14.at_ (Pa.log (Hp.pa H 0 Z) hok (i:=k) e14.at_)) Z Z ?_
 rintro _ w17 ⟨rfl,hb⟩;replace H:=H.later hb;clear hb
 refine G (Yu Z)<|G (Xi Z Z)<|G (Xi Z Z)<|G (Wi Z)<|G (Wi Z)<|U<|W<|Zr<|G (Zf dU Z)<|G (j9 1 [.slice x14.A ((bG x14.es).length) x14.cap,J (((iS x14.es x14.s:Nat):Int))] fE Z Z (H.ent (i:=0) Z) Z)<|cu qd (ur x14.A x14.cap x14.es x14.s _ (Pa.log (Hp.pa H 0 Z) hok (i:=k) e14.at_)) Z Z ?_
 rintro _ w18 ⟨rfl,hb⟩;replace H:=H.later hb;clear hb
 refine G (cv Z Z Z)<|G (Yb Z)<|ZG<|G (Zf eX Z)<|ZG<|G (Zd am H 0 Z Z Z)<|ZG<|G (dp Z Z (by have:=(Pa.repOk hok (show(Pa.reps ⟨ep,ld,isr,iA,iC,kn,kA,kC,reps,rA,rC,fw,bs⟩)[k]? =_ from e14.at_)).2.1;omega))<|G (N Z Z)<|G (Yb Z)<|ZG<|G (Zf eX Z)<|ZG<|G (Zd am H 0 Z Z Z)<|ZG<|G (Yi Z)<|ZG<|G (eB Z Z (by have:=(Pa.repOk hok (show(Pa.reps ⟨ep,ld,isr,iA,iC,kn,kA,kC,reps,rA,rC,fw,bs⟩)[k]? =_ from e14.at_)).2.2;omega))<|G (N Z Z)<|G (Yb Z)<|ZG<|G (Zf iX Z)<|ZG<|G (Zd cB H 1 Z Z Z)<|ZG<|G (Yi Z)<|ZG<|qg H 2 Z bj Z Z I I Z fun b19 o19 x19 e19=>ZG<|G (bi am Z (e19.cl 0 _ Z))<|ZG<|G (dp Z Z (by have:=(hkn _ (ab e19.at_)).1;omega))<|G (N Z Z)<|G (Yb Z)<|ZG<|G (Zf iX Z)<|ZG<|G (Zd cB H 1 Z Z Z)<|ZG<|G (Yi Z) ?_
 refine ZG<|qg H 2 Z bj Z Z I I Z fun b20 o20 x20 e20=>ZG<|G (bi am Z (e20.cl 0 _ Z))<|ZG<|G (eB Z Z (by have:=(hkn _ (ab e20.at_)).2;omega))<|G (N Z Z)<|U<|ZF Z<|Zk<|Zr<|G (bp Z Z I I)<|G (Yi Z)<|U ?_
 refine⟨k+1,⟨by omega,H.forget (.cons _ (au _)) (fun _ h=>h)⟩,dR Z,Qg,by show reps.length- (k+1)<reps.length-k;omega⟩
 refine U<|W<|ZF Z<|Zx<|W<|Zr<|G (Wi Z)<|U<|Zt ?_
 exact cn Z Z ⟨rfl,H.below⟩
theorem AH {f:ce} {l:List gm} {x:gm} {F:List ce} (h:f∈F++vE (l++[x])):f∈B8 x::(F++vE l):=by
 simp only[vE,bk,eU,pL,ap,ar]at h
 simp only[av,ap,vE]
 rcases h with h|h|h
 exact .inr (.inl h)
 exact .inr (.inr h)
 exact .inl h
theorem Ay (p:Pa) (w:World) (h:p.rd 0 w.heap.size w) (hok:p.a.ok):dt aa zd [p.v] w fun v w2=> ∃ (p':Pa) (g1 g2 g3:Nat) (c1 c2 c3:Array Value),v=p'.v/\p'.a=p.a/\Jd w w2 p' g1 g2 g3 c1 c2 c3:=by
 refine aG ED Z Z ?_
 obtain⟨hn1,hn2,hil,hkl,hf1,hf2,he0,he1,hl0,hl1,hb0,hb1,hsm⟩:=Pa.facts hok
 have hkn:=hok.known
 have hiC:=h.iC
 have hkC:=h.kC
 have hrC:=h.rC
 have hfew:=h.few
 have H:=Hp.startPa h
 obtain⟨ep,ld,isr,iA,iC,kn,kA,kC,reps,rA,rC,fw,bs⟩:=p
 simp only[Pa.a]at hkn
 dsimp only at H hn1 hn2 hil hkl hf1 hf2 he0 he1 hl0 hl1 hb0 hb1 hsm hiC hkC hrC hfew
 show CW _ _ _ _ (args [.agg #[J (ep),J (ld),.slice iA isr.length iC,.slice kA kn.length kC,.slice rA reps.length rC,J (fw),J (bs)]]) w
 refine W<|Zr<|gY H Z Z fun w1 b1 H=>fc H bR Z fun w2 b2 H=>U<|W ?_
 refine bL cD [0,1,3,4,6,7,2,9,5,8] [10,11,12,13,14] [2,5,8] [0,3,6,9] (sp [(2,Sp.orow w2.heap.size fI j6 isr),(5,Sp.orow w2.heap.size bS dg kn),(8,Sp.orow w2.heap.size jr g7 reps)]) N N N N Nq (cQ _) ?_
 refine aw Z Z Z Z Z (fun w' hw'=>Zf kW Z)<|aw Z Z Z Z Z (fun w' hw'=>bi l5 Z (aJ ((H.later hw').ent (i:=1) Z) Z))<|aw Z Z Z Z Z (fun w' hw'=>Zf iX Z)<|aw Z Z Z Z Z (fun w' hw'=>bi cB Z (aJ ((H.later hw').ent (i:=1) Z) Z))<|aw Z Z Z Z Z (fun w' hw'=>Zf dQ Z)<|aw Z Z Z Z Z (fun w' hw'=>bi cJ Z (aJ ((H.later hw').ent (i:=1) Z) Z))<|yO qG Z Z Z Z Z (fun w' hw'=>hw'.size) (fun w' hw'=>CE isr _ _ w' ((H.later hw').rd0 1 Z) I) Z fun A6 c6 hc6=>aw Z Z Z Z Z (fun w' hw'=>Zf kW Z)<|yO gD Z Z Z Z Z (fun w' hw'=>hw'.size) (fun w' hw'=>tH kn _ _ w' ((H.later hw').rd0 2 Z) I) Z fun A9 c9 hc9=>yO m5 Z Z Z Z Z (fun w' hw'=>hw'.size) (fun w' hw'=>yI reps _ _ w' ((H.later hw').rd0 3 Z) I) Z fun A12 c12 hc12=>aU ?_
 intro w3 hw' hF
 obtain⟨hF,Aq,cq,L12,eq,hcq,hm12,ho12,he12,hn12⟩:=hF;cases eq;clear hcq
 obtain⟨hF,Aq,cq,L9,eq,hcq,hm9,ho9,he9,hn9⟩:=hF;cases eq;clear hcq
 obtain⟨hF,Aq,cq,L6,eq,hcq,hm6,ho6,he6,hn6⟩:=hF;cases eq;clear hcq
 obtain⟨g1,cur1,rfl,rfl,row1⟩:=ho6.row I
 obtain⟨g2,cur2,rfl,rfl,row2⟩:=ho9.row I
 obtain⟨g3,cur3,rfl,rfl,row3⟩:=ho12.row I
 have e6:=he6 _ (d9 _)
 have e9:=he9 _ (d9 _)
 have e12:=he12 _ (d9 _)
 replace H:=H.adopt3 hw' e6 e9 e12 (sR e6.1 e9.1 Z) (sR e6.1 e12.1 Z) (sR e9.1 e12.1 Z)
 clear hw' hF
 refine bA H 4 (#[J (ep),J (ld),.slice (Qd g1) isr.length c6,.slice kA kn.length kC,.slice rA reps.length rC,J (fw),J (bs)]) Jt Z Z Z Z Z N N fun w4 H=>G (Zf iX Z)<|bA H 4 (#[J (ep),J (ld),.slice (Qd g1) isr.length c6,.slice (Qd g2) kn.length c9,.slice rA reps.length rC,J (fw),J (bs)]) jQ Z Z Z Z Z N N fun w5 H=>G (Zf dQ Z)<|bA H 4 (#[J (ep),J (ld),.slice (Qd g1) isr.length c6,.slice (Qd g2) kn.length c9,.slice (Qd g3) reps.length c12,J (fw),J (bs)]) D2 Z Z Z Z Z N N fun w6 H=>U<|W<|W<|Zr<|G (Zf dQ Z)<|G (Zd cJ H 4 Z Z Z)<|G (bh ik Z)<|G (Yi Z)<|U<|Zb ?_
 refine cf (τ:=Nat×List gm×Array Value) [3,19,20,21,22,23,24,25,26,27,28,29,30,31,32,33,34,35,36] (fun(k,_)=>[(19,J (k:Nat))]) (fun(k,rs,c3) w'=>k<=rs.length/\rs.length=reps.length/\rs.map gm.a=reps.map gm.a/\rs.drop k=reps.drop k/\(∀ r∈rs.take k,(bG r.es).length<=r.cap/\w.heap.size<=r.lo)/\d7 jr rs c12 c3/\Hp w w' [(g1,.cells cur1 j6 (0,0)),(g2,.cells cur2 dg (0,0)),(g3,.cells c3 g7 (0,0)),(b2,.cells #[J 0,J 0,.slice none 0 0,.slice none 0 0,.slice none 0 0,J 0,J 0] bI (0,0)),(b1,.cells #[J ep,J ld,.slice (Qd g1) isr.length c6,.slice (Qd g2) kn.length c9,.slice (Qd g3) reps.length c12,J fw,J bs] bI (0,0))] ([KI 0 w.heap.size ⟨ep,ld,isr,iA,iC,kn,kA,kC,reps,rA,rC,fw,bs⟩,ey fI 0 w.heap.size iA isr,ey bS 0 w.heap.size kA kn,ey jr 0 w.heap.size rA reps]++vE (rs.take k))) (fun(k,rs,_)=>rs.length-k) (0,reps,cur3) ⟨by omega,rfl,rfl,rfl,by simp,row3,H⟩ (dR Z) ?_
 rintro⟨k,rs,c3⟩ ρ1 w7 ⟨hk,hrl,hma,hdr,hcp,row,H⟩
 show CW _ _ _ _ (dK (ia _ _ ρ1) [(19,J (k:Nat))]) w7
 refine W<|Zr ?_
 refine du (cO Z Z) Z Z Z (fun h20=> ?_) (fun h20=> ?_)
 refine U<|W<|ZT Z<|Zk<|W<|Zb<|W ?_
 obtain⟨x,hx⟩: ∃ x,rs[k]? =some x:=⟨_,aj I⟩
 have hxt:=zW hdr hx
 have hsz:=(Pa.repOk hok (show(Pa.reps ⟨ep,ld,isr,iA,iC,kn,kA,kC,reps,rA,rC,fw,bs⟩)[k]? =_ from hxt)).1.sz
 refine Zr<|G (Yi Z)<|G (Wi Z)<|U ?_
 have hlo:=H.size
 refine bL cD [0,1,2,3,4,5,6,7,8,9,10,11,12,13] [14] [10] [0,2,3,5,6,7,8,11,12,13] (sp [(10,Sp.row w7.heap.size dP (bG x.es))]) N N N N Nq (cQ _) ?_
 refine aw Z Z Z Z Z (fun w' hw'=>Zf dQ Z)<|aw Z Z Z Z Z (fun w' hw'=>bi cJ Z (aJ ((H.later hw').ent (i:=4) Z) Z))<|aw Z Z Z Z Z (fun w' hw'=>Yi Z)<|aw Z Z Z Z Z (fun w' hw'=>Zf dQ Z)<|aw Z Z Z Z Z (fun w' hw'=>bi cJ Z (aJ ((H.later hw').ent (i:=4) Z) Z))<|aw Z Z Z Z Z (fun w' hw'=>Yi Z)<|aw Z Z Z Z Z (fun w' hw'=>cR bM Z Z (by first|omega|(simp only[ae];omega)))<|aw Z Z Z Z Z (fun w' hw'=>Zf dU Z)<|aw Z Z Z Z Z (fun w' hw'=>Zf jb Z)<|aw Z Z Z Z Z (fun w' hw'=>bU eV row hx 1 Z ((H.later hw').ent (i:=2) Z) Z)<|DB f0 Z Z Z Z Z (fun w' hw'=>hw'.size) (fun w' hw'=>oh (bG x.es) _ _ w' ((Hp.pa (H.later hw') 0 Z).logs x (ab hxt)) I) Z fun A32 c32 hc32=>aw Z Z Z Z Z (fun w' hw'=>cR bM Z Z (by first|omega|(simp only[ae];omega)))<|aw Z Z Z Z Z (fun w' hw'=>Zf dU Z)<|aw Z Z Z Z Z (fun w' hw'=>Zf jb Z)<|aU ?_
 intro w8 hw' hF
 obtain⟨hF,Aq,cq,eq,hcq,hrw32⟩:=hF;cases eq;clear hcq
 replace H:=H.learnRd hw' hrw32
 clear hw' hF
 refine ni H 2 ({x with A:=A32,cap:=c32,lo:=w7.heap.size,hi:=w8.heap.size}) Da row hx 1 Z Z Z Z Z Z N fun w10 cur9 row9 H=>U<|Zr<|G (bp Z Z I I)<|G (Yi Z)<|U ?_
 obtain⟨z1,z2,z3⟩:=O7 (x':={x with A:=A32,cap:=c32,lo:=w7.heap.size,hi:=w8.heap.size}) hx hma hdr Z
 refine⟨(k+1,rs.set k {x with A:=A32,cap:=c32,lo:=w7.heap.size,hi:=w8.heap.size},cur9),⟨by rw[ae];omega,by rw[ae];exact hrl,z1,z2,?_,row9,H.forget (au _) (fun f hf=>by rw[z3]at hf;exact AH hf)⟩,dR Z,Qg,by show(rs.set k _).length- (k+1)<rs.length-k;rw[ae];omega⟩
 rw[z3];intro t ht;rcases ap.1 ht with ht|ht;exact hcp t ht;rw[ar.1 ht];exact⟨hc32,hlo⟩
 refine U<|W<|ZF Z<|Zx<|W<|Zr<|G (Zw bo H 4 Z Z Z)<|bA H 3 (#[J (ep),J (ld),.slice (Qd g1) isr.length c6,.slice (Qd g2) kn.length c9,.slice (Qd g3) reps.length c12,J (fw),J (bs)]) bl Z Z Z Z Z N N fun w11 H=>U<|Zt ?_
 have hke:k=rs.length:=by omega
 rw[hke,bJ]at H hcp
 exact eW (cs0:= #[J ep,J ld,.slice (Qd g1) isr.length c6,.slice (Qd g2) kn.length c9,.slice (Qd g3) reps.length c12,J fw,J bs]) Z bo Z (H.ent (i:=3) Z) Z ⟨⟨ep,ld,isr,some ⟨g1,0,none⟩,c6,kn,some ⟨g2,0,none⟩,c9,rs,some ⟨g3,0,none⟩,c12,fw,bs⟩,g1,g2,g3,cur1,cur2,c3,by unfold Pa.v Pa.c;dsimp only;rw[hrl],by unfold Pa.a;dsimp only;rw[hma],⟨rfl,rfl,rfl,row1,row2,row,fun r hr=>(hcp r hr).1,fun r hr=>(hcp r hr).2,by dsimp only;omega,H.forget (.cons_cons _ (.cons_cons _ (.cons_cons _ (List.nil_sublist _)))) (fun f hf=>cz _ hf)⟩⟩
/-- the least of what is known of those that keep up -/
def cY:List Bool->List Int->Int->Int
 |b::bs,n::ns,m=>cY bs ns (if b then min m n else m)
 |_,_,m=>m
theorem AS {isr:List Bool} {kn:List Int} {k:Nat} {b:Bool} {n m:Int} (hb:isr[k]? =some b) (hn:kn[k]? =some n):cY (isr.drop k) (kn.drop k) m=cY (isr.drop (k+1)) (kn.drop (k+1)) (if b then min m n else m):=by
 rw[cM hb,cM hn]
 rfl
theorem Fw {w0 w:World} {L:List (Nat×Obj)} {F:List ce} {r:gm} (H:Hp w0 w L F) (hF:B8 r∈F) (hg:GL r.es r.s) (hc:(bG r.es).length<=r.cap):r.log.ok w:=by
 obtain⟨h1,h2,-⟩:=H.facts (B8 r) hF
 exact⟨hg,hc,Rd.mono h1 (bN _) h2⟩
theorem He (p:Pa) (r:Nat) (w:World) (h:p.rd 0 w.heap.size w) (hok:p.a.ok) (hr:r<p.reps.length):dt aa J8 [p.v,J (r:Nat)] w fun v w2=> ∃ (p':Pa) (g1 g2 g3:Nat) (c1 c2 c3:Array Value),v=.tuple #[p'.v,J 0]/\p'.a=p.a/\Jd w w2 p' g1 g2 g3 c1 c2 c3:=by
 refine aG HK Z Z ?_
 obtain⟨hn1,hn2,hil,hkl,hf1,hf2,he0,he1,hl0,hl1,hb0,hb1,hsm⟩:=Pa.facts hok
 have hkn:=hok.known
 have hiC:=h.iC
 have hkC:=h.kC
 have hrC:=h.rC
 have hfew:=h.few
 have H:=Hp.startPa h
 obtain⟨ep,ld,isr,iA,iC,kn,kA,kC,reps,rA,rC,fw,bs⟩:=p
 simp only[Pa.a]at hkn
 dsimp only at H hn1 hn2 hil hkl hf1 hf2 he0 he1 hl0 hl1 hb0 hb1 hsm hiC hkC hrC hfew
 dsimp only at hr
 show CW _ _ _ _ (args [.agg #[J (ep),J (ld),.slice iA isr.length iC,.slice kA kn.length kC,.slice rA reps.length rC,J (fw),J (bs)],J (((r:Nat):Int))]) w
 refine W<|Zr<|gY H Z Z fun w1 b2 H=>fc H bR Z fun w2 b4 H=>G (Wi Z)<|U<|W<|W<|Zr<|G (Zw bo H 1 Z Z Z)<|cu lF (sD ⟨ep,ld,isr,iA,iC,kn,kA,kC,reps,rA,rC,fw,bs⟩ _ (Hp.pa H 0 Z) hok) Z Z ?_
 rintro _ w3 ⟨rfl,hb⟩;replace H:=H.later hb;clear hb
 refine G (Wi Z)<|U<|W<|Zr<|G (Yi Z)<|G (cv Z Z Z)<|U<|ZF Z<|Zk<|W<|W<|Zr<|G (Yi Z)<|G (dp Z Z I)<|G (Yb Z)<|ZG<|G (Yi Z)<|ZG<|G (Zf dQ Z)<|ZG<|G (Zd cJ H 1 Z Z Z)<|ZG<|G (bh ik Z)<|ZG<|G (rU Z Z I)<|G (N Z Z)<|U<|ZF Z<|Zk<|W<|Zr<|G (Zw bo H 1 Z Z Z)<|cu m6 (Ay ⟨ep,ld,isr,iA,iC,kn,kA,kC,reps,rA,rC,fw,bs⟩ _ (Hp.pa H 0 Z) hok) Z Z ?_
 rintro _ w4 ⟨⟨ep2,ld2,is2,iA2,c1,kn2,kA2,c2,rs,rA2,c3,fw2,bs2⟩,g1,g2,g3,u1,u2,u3,rfl,ha2,ho⟩
 simp only[Pa.a,f3.mk.injEq]at ha2
 obtain⟨e1,e2,e3,e4,hma,e6,e7⟩:=ha2
 obtain rfl:ep=ep2:=e1.symm
 obtain rfl:ld=ld2:=e2.symm
 obtain rfl:isr=is2:=e3.symm
 obtain rfl:kn=kn2:=e4.symm
 obtain rfl:fw=fw2:=e6.symm
 obtain rfl:bs=bs2:=e7.symm
 have hrl:rs.length=reps.length:=by have:=congrArg da hma;simpa using this
 obtain⟨i1,i2,i3,row1,row2,row3,hcp,hlos,-,hjn⟩:=ho
 dsimp only at i1 i2 i3 row1 row2 row3 hcp hlos hjn
 subst i1;subst i2;subst i3
 have hlo0:=H.size
 replace H:=H.joinF hjn (by intro f hf;obtain⟨r,hr,rfl⟩:=bD.1 hf;exact hlos r hr)
 replace hlos: ∀ r∈rs,w.heap.size<=r.lo:=fun r hr=>aV hlo0 (hlos r hr)
 clear hjn
 refine bA H 3 (#[J (ep),J (ld),.slice (Qd g1) isr.length c1,.slice (Qd g2) kn.length c2,.slice (Qd g3) rs.length c3,J (fw),J (bs)]) bl Z Z Z Z Z N N fun w5 H=>G (Wi Z)<|U<|Zt ?_
 exact ch (cs0:= #[J (ep),J (ld),.slice (Qd g1) isr.length c1,.slice (Qd g2) kn.length c2,.slice (Qd g3) rs.length c3,J (fw),J (bs)]) (v1:=J 0) Z bo Z (H.ent (i:=3) Z) Z Z ⟨⟨ep,ld,isr,_,c1,kn,_,c2,rs,_,c3,fw,bs⟩,g1,g2,g3,u1,u2,u3,rfl,by simp only[Pa.a,hma],⟨rfl,rfl,rfl,row1,row2,row3,hcp,hlos,by dsimp only;omega,H.forget (.cons_cons _ (.cons_cons _ (.cons_cons _ (List.nil_sublist _)))) (fun f hf=>cz _ hf)⟩⟩
theorem D8 {w0 w:World} {M:List (Nat×Obj)} {F:List ce} {g1 g2 g3:Nat} {u1 u2 u3:Array Value} (ep ld:Int) (isr:List Bool) (iC:Nat) (kn:List Int) (kC:Nat) (reps:List gm) (rC:Nat) (fw bs:Int) (l:Nat) (r:gm)
  (H:Hp w0 w ((g1,.cells u1 j6 (0,0))::(g2,.cells u2 dg (0,0))::(g3,.cells u3 g7 (0,0))::M) F) (row1:d7 fI isr iC u1) (row2:d7 bS kn kC u2) (row3:d7 jr reps rC u3) (hil:isr.length=reps.length) (hkl:kn.length=reps.length) (hn:reps.length<=5) (hld:ld=l) (hr:reps[l]? =some r) (hF:B8 r∈F) (hg:GL r.es r.s) (hc:(bG r.es).length<=r.cap):
  dt aa Be [.agg #[J (ep),J (ld),.slice (Qd g1) isr.length iC,.slice (Qd g2) kn.length kC,.slice (Qd g3) reps.length rC,J (fw),J (bs)]] w fun v w2=> ∃ u4,v=.agg #[J (ep),J (ld),.slice (Qd g1) isr.length iC,.slice (Qd g2) kn.length kC,.slice (Qd g3) reps.length rC,J (fw),J (bs)]/\d7 jr (reps.set l {r with high:=max r.high (min (cY isr kn 400) (r.es.length:Nat))}) rC u4/\Hp w0 w2 ((g1,.cells u1 j6 (0,0))::(g2,.cells u2 dg (0,0))::(g3,.cells u4 g7 (0,0))::M) F:=by
 refine aG zz Z Z ?_
 have hll:=(cy hr).1
 refine W<|Zr<|gY H Z Z fun w1 b1 H=>fc H bR Z fun w2 b2 H=>U<|W<|W<|Zr<|G (Zf eC Z)<|G (Zd am H 1 Z Z Z)<|G (dp Z Z I)<|U<|ZF Z<|Zk<|W<|Zr<|G (Wi Z)<|U<|W<|W<|Zr<|G (Zf iX Z)<|G (Zd cB H 1 Z Z Z)<|G (bh eT Z)<|G (Yi Z)<|U<|Zb ?_
 refine cf (τ:=Nat×Int) [3,4,5,16,17,18,19,20,21,22,23,24,25,26,27,28,29] (fun(k,m)=>[(16,J (k:Nat)),(3,J m)]) (fun(k,m) w'=>k<=kn.length/\cY (isr.drop k) (kn.drop k) m=cY isr kn 400/\Hp w0 w' ((b2,.cells #[J 0,J 0,.slice none 0 0,.slice none 0 0,.slice none 0 0,J 0,J 0] bI (0,0))::(b1,.cells #[J (ep),J (ld),.slice (Qd g1) isr.length iC,.slice (Qd g2) kn.length kC,.slice (Qd g3) reps.length rC,J (fw),J (bs)] bI (0,0))::(g1,.cells u1 j6 (0,0))::(g2,.cells u2 dg (0,0))::(g3,.cells u3 g7 (0,0))::M) F) (fun(k,_)=>kn.length-k) (0,400) ⟨by omega,rfl,H⟩ (mK Z Z) ?_
 rintro⟨k,m⟩ ρ1 w3 ⟨hk,hm,H⟩
 show CW _ _ _ _ (dK (ia _ _ ρ1) [(16,J (k:Nat)),(3,J m)]) w3
 refine W<|Zr ?_
 refine du (cO Z Z) Z Z Z (fun h17=> ?_) (fun h17=> ?_)
 refine U<|W<|ZT Z<|Zk<|W<|Zb<|W ?_
 obtain⟨n,hn_⟩: ∃ n,kn[k]? =some n:=⟨_,aj I⟩
 obtain⟨b,hb_⟩: ∃ b,isr[k]? =some b:=⟨_,aj I⟩
 refine Zr<|G (Yi Z)<|G (cR bj Z Z (by first|omega|(simp only[ae];omega)))<|G (bU am row2 hn_ 0 Z (H.ent (i:=3) Z) Z)<|G (Wi Z)<|G (Wi Z)<|U<|W<|Zr<|G (Zf kW Z)<|G (Zd l5 H 1 Z Z Z)<|G (Yi Z)<|G (cR fg Z Z (by first|omega|(simp only[ae];omega))) ?_
 refine zS (bU eS row1 hb_ 0 Z (H.ent (i:=2) Z) Z) Z Z Z (fun h25=> ?_) (fun h25=> ?_)
 refine U<|ZT Z<|Zr<|G (Yi Z)<|G (Yi Z)<|G (yp Z Z)<|G (Wi Z)<|U<|Zr<|G (bp Z Z I I)<|G (Yi Z)<|U ?_
 refine⟨(k+1,min m n),⟨by omega,by rw[<-hm,AS hb_ hn_];rw[if_pos h25],H⟩,mK Z Z,Qg,by show kn.length- (k+1)<kn.length-k;omega⟩
 refine U<|ZF Z<|Zk<|Zr<|G (bp Z Z I I)<|G (Yi Z)<|U ?_
 refine⟨(k+1,m),⟨by omega,by rw[<-hm,AS hb_ hn_];rw[if_neg (by simp[h25])],H⟩,mK Z Z,Qg,by show kn.length- (k+1)<kn.length-k;omega⟩
 have hke:k=kn.length:=by omega
 have hm2:m=cY isr kn 400:=by rw[<-hm,hke,fC];cases(isr.drop kn.length)<;>rfl
 refine U<|W<|ZF Z<|Zx<|W<|Zr<|G (Zw bo H 1 Z Z Z)<|G (Zf eC Z)<|G (Zd am H 1 Z Z Z)<|cu kY (by have hE:=sB ⟨ep,ld,isr,some ⟨g1,0,none⟩,iC,kn,some ⟨g2,0,none⟩,kC,reps,some ⟨g3,0,none⟩,rC,fw,bs⟩ l r _ (row3.rd0 (H.ent (i:=4) Z)) hr (Fw H hF hg hc);rw[<-hld]at hE;exact hE) Z Z ?_
 rintro _ w4 ⟨rfl,hb⟩;replace H:=H.later hb;clear hb
 refine G (Yu Z)<|G (Xi Z Z)<|G (Xi Z Z)<|G (Wi Z)<|G (Wi Z)<|U<|W<|Zr<|G (Zf dQ Z)<|G (Zd cJ H 1 Z Z Z)<|G (Zf eC Z)<|G (Zd am H 1 Z Z Z)<|G (cR (k:=l) bM Z (congrArg (Value.int .i64) hld) (by first|omega|(simp only[ae];omega)))<|G (Wp Z)<|U<|W<|Zr<|G (Yp Z)<|G (Yp Z)<|G (aH Z)<|G (Zf eX Z)<|G (bU am row3 hr 3 Z (H.ent (i:=4) Z) Z)<|G (Yi Z)<|G (Yi Z)<|G (yp Z Z)<|G (Ef Z Z)<|G (aH Z)<|G (Zf eX Z)<|ni H 4 ({r with high:=max r.high (min m (r.es.length:Nat))}) bQ row3 hr 3 Z Z Z Z Z Z N fun w6 cur5 row5 H=> ?_
 have hs7:(reps.set l ({r with high:=max r.high (min m (r.es.length:Nat))}))[l]? =some ({r with high:=max r.high (min m (r.es.length:Nat))}):=al (cy hr).1
 refine U<|W<|Zr<|G (Zw bo H 1 Z Z Z)<|bA H 0 (#[J (ep),J (ld),.slice (Qd g1) isr.length iC,.slice (Qd g2) kn.length kC,.slice (Qd g3) reps.length rC,J (fw),J (bs)]) bl Z Z Z Z Z N N fun w8 H=>U<|Zt ?_
 exact eW (cs0:= #[J (ep),J (ld),.slice (Qd g1) isr.length iC,.slice (Qd g2) kn.length kC,.slice (Qd g3) reps.length rC,J (fw),J (bs)]) Z bo Z (H.ent (i:=0) Z) Z ⟨_,rfl,hm2▸row5,H.forget (.cons _ (.cons _ (au _))) (fun _ h=>h)⟩
/-- the logs of replicas that a call has made -/
def ui (w:World) (F:List ce) (rs:List gm):Prop:= ∀ r∈rs,(bG r.es).length<=r.cap/\w.heap.size<=r.lo/\B8 r∈F
theorem ui.of {w:World} {F:List ce} {rs:List gm} (h1: ∀ r∈rs,(bG r.es).length<=r.cap) (h2: ∀ r∈rs,w.heap.size<=r.lo):ui w (F++vE rs) rs:=fun r hr=>⟨h1 r hr,h2 r hr,cz _ (bF hr)⟩
theorem ui.cons {w:World} {F:List ce} {f:ce} {rs:List gm} (h:ui w F rs):ui w (f::F) rs:=fun r hr=>⟨(h r hr).1,(h r hr).2.1,ai _ (h r hr).2.2⟩
theorem ui.set {w:World} {F:List ce} {rs:List gm} (h:ui w F rs) (i:Nat) {x:gm} (hx:(bG x.es).length<=x.cap/\w.heap.size<=x.lo/\B8 x∈F):ui w F (rs.set i x):=fun r hr=>by
 rcases aA hr with hr|rfl
 exact h r hr
 exact hx
theorem ui.same {w:World} {F:List ce} {rs:List gm} (h:ui w F rs) (i:Nat) {x x':gm} (hx:rs[i]? =some x) (h1:x'.A=x.A) (h2:x'.cap=x.cap) (h3:x'.es=x.es) (h4:x'.lo=x.lo) (h5:x'.hi=x.hi):ui w F (rs.set i x'):=h.set i (by
 have:=h x (ab hx)
 unfold B8 at this⊢
 rw[h1,h2,h3,h4,h5];exact this)
theorem ui.log {w w0 w':World} {L:List (Nat×Obj)} {F:List ce} {rs:List gm} (h:ui w F rs) (H:Hp w0 w' L F) {i:Nat} {x:gm} (hx:rs[i]? =some x) (hg:GL x.es x.s):x.log.ok w':=by
 have h1:=h x (ab hx)
 exact Fw H h1.2.2 hg h1.1
theorem iJ.mk_ {w w2:World} {L:List (Nat×Obj)} {F:List ce} {p:Pa} {g1 g2 g3:Nat} {u1 u2 u3:Array Value} (i:p.iA=some ⟨g1,0,none⟩) (k:p.kA=some ⟨g2,0,none⟩) (r:p.rA=some ⟨g3,0,none⟩) (ri:d7 fI p.isr p.iC u1) (rk:d7 bS p.known p.kC u2) (rr:d7 jr p.reps p.rC u3) (hl:ui w F p.reps)
  (few:p.isr.length<=1000000/\p.known.length<=1000000/\p.reps.length<=1000000) (H:Hp w w2 L F) (hL:(g1,Obj.cells u1 j6 (0,0))∈L/\(g2,Obj.cells u2 dg (0,0))∈L/\(g3,Obj.cells u3 g7 (0,0))∈L):iJ w w2 p:=by
 have e1:=H.ents _ hL.1
 have e2:=H.ents _ hL.2.1
 have e3:=H.ents _ hL.2.2
 refine⟨⟨?_,?_,?_,fun r hr=> ?_,ri.le,rk.le,rr.le,fun r hr=>(hl r hr).1,few⟩,H.below⟩
 rw[i];exact(ri.rd e1.1).mono e1.2 (bV e1.1)
 rw[k];exact(rk.rd e2.1).mono e2.2 (bV e2.1)
 rw[r];exact(rr.rd e3.1).mono e3.2 (bV e3.1)
 obtain⟨h1,h2,h3⟩:=hl r hr
 obtain⟨f1,f2,-⟩:=H.facts (B8 r) h3
 exact Rd.mono f1 h2 f2
theorem Hn {rs reps:List gm} (hma:rs.map gm.a=reps.map gm.a) {i:Nat} {x:gm} (hx:rs[i]? =some x):(reps.map gm.a)[i]? =some x.a:=by
 rw[<-hma,aI,hx];rfl
theorem IC {rs reps:List gm} {ep ld:Int} {isr:List Bool} {iA kA rA:Option Addr} {iC kC rC:Nat} {kn:List Int} {fw bs:Int} (hma:rs.map gm.a=reps.map gm.a) (hok:(Pa.a ⟨ep,ld,isr,iA,iC,kn,kA,kC,reps,rA,rC,fw,bs⟩).ok) {i:Nat} {x:gm} (hx:rs[i]? =some x):GL x.es x.s/\0<=x.high/\x.high<=x.es.length:=by
 have h1:=hok.reps x.a (ab (show(reps.map gm.a)[i]? =_ from Hn hma hx))
 exact⟨h1.gl,h1.high0,h1.high1⟩
def m9 (p:f3):f3:=match p.reps[p.leader.toNat]? with
 |some r=>if p.leader<0 then p else{p with reps:=p.reps.set p.leader.toNat {r with high:=max r.high (min (cY p.isr p.known 400) r.es.length)}}
 |none=>p
theorem xR {p:f3} {l:Nat} {r:RA} (hl:p.leader=l) (hr:p.reps[l]? =some r):m9 p={p with reps:=p.reps.set l {r with high:=max r.high (min (cY p.isr p.known 400) r.es.length)}}:=by
 have h1:p.leader.toNat=l:=by omega
 unfold m9
 rw[h1,hr];dsimp only;rw[if_neg I]
def jq (p:f3) (r:Nat):f3×Int:=match p.reps[r]? with
 |none=>(mp,5)
 |some x=>if x.up=false then(mp,7)else
  if p.leader=r then(m9 {p with reps:=p.reps.set r {x with s:=x.es.length},known:=p.known.set r x.es.length},0)else({p with reps:=p.reps.set r {x with s:=x.es.length}},0)
theorem Fl (l:pf) (w:World) (h:l.ok w):dt aa Bd [.agg l.c.toArray] w fun v w2=> ∃ A' c',v=.tuple #[.agg #[.slice A' (bG l.es).length c',J (iS l.es l.es.length:Nat)],J 0]/\(bG l.es).length<=c'/\Rd dP w.heap.size w2.heap.size A' (bG l.es) w2/\Below w.heap.size w w2:=
 (G2 l w h).mono fun _ _ ⟨A',c',h1,h2,h3⟩=>⟨A',c',h1,h2.2.1,h2.2.2,h3⟩
theorem LR (p:Pa) (r:Nat) (w:World) (h:p.rd 0 w.heap.size w) (hok:p.a.ok) (hr:r<p.reps.length):dt aa FR [p.v,J (r:Nat)] w fun v w2=> ∃ p':Pa,v=.tuple #[p'.v,J (jq p.a r).2]/\p'.a=(jq p.a r).1/\iJ w w2 p':=by
 refine aG EC Z Z ?_
 obtain⟨hn1,hn2,hil,hkl,hf1,hf2,he0,he1,hl0,hl1,hb0,hb1,hsm⟩:=Pa.facts hok
 have hkn:=hok.known
 have hiC:=h.iC
 have hkC:=h.kC
 have hrC:=h.rC
 have hfew:=h.few
 have H:=Hp.startPa h
 obtain⟨ep,ld,isr,iA,iC,kn,kA,kC,reps,rA,rC,fw,bs⟩:=p
 simp only[Pa.a]at hkn
 dsimp only at H hn1 hn2 hil hkl hf1 hf2 he0 he1 hl0 hl1 hb0 hb1 hsm hiC hkC hrC hfew
 dsimp only at hr
 show CW _ _ _ _ (args [.agg #[J (ep),J (ld),.slice iA isr.length iC,.slice kA kn.length kC,.slice rA reps.length rC,J (fw),J (bs)],J (((r:Nat):Int))]) w
 refine W<|Zr<|gY H Z Z fun w1 b2 H=>fc H bR Z fun w2 b4 H=>G (Wi Z)<|U<|W<|Zr<|G (Zw bo H 1 Z Z Z)<|G (Yi Z)<|cu wH (He ⟨ep,ld,isr,iA,iC,kn,kA,kC,reps,rA,rC,fw,bs⟩ r _ (Hp.pa H 0 Z) hok hr) Z Z ?_
 rintro _ w3 ⟨⟨ep2,ld2,is2,iA2,c1,kn2,kA2,c2,rs,rA2,c3,fw2,bs2⟩,g1,g2,g3,u1,u2,u3,rfl,ha2,ho⟩
 simp only[Pa.a,f3.mk.injEq]at ha2
 obtain⟨e1,e2,e3,e4,hma,e6,e7⟩:=ha2
 obtain rfl:ep=ep2:=e1.symm
 obtain rfl:ld=ld2:=e2.symm
 obtain rfl:isr=is2:=e3.symm
 obtain rfl:kn=kn2:=e4.symm
 obtain rfl:fw=fw2:=e6.symm
 obtain rfl:bs=bs2:=e7.symm
 have hrl:rs.length=reps.length:=by have:=congrArg da hma;simpa using this
 obtain⟨i1,i2,i3,row1,row2,row3,hcp,hlos,-,hjn⟩:=ho
 dsimp only at i1 i2 i3 row1 row2 row3 hcp hlos hjn
 subst i1;subst i2;subst i3
 have hlo0:=H.size
 replace H:=H.joinF hjn (by intro f hf;obtain⟨r,hr,rfl⟩:=bD.1 hf;exact hlos r hr)
 replace hlos: ∀ r∈rs,w.heap.size<=r.lo:=fun r hr=>aV hlo0 (hlos r hr)
 clear hjn
 have hlg:=ui.of (F:=[KI 0 w.heap.size ⟨ep,ld,isr,iA,iC,kn,kA,kC,reps,rA,rC,fw,bs⟩,ey fI 0 w.heap.size iA isr,ey bS 0 w.heap.size kA kn,ey jr 0 w.heap.size rA reps]) hcp hlos
 have hok2: ∀ {i:Nat} {x:gm},rs[i]? =some x->GL x.es x.s/\0<=x.high/\x.high<=x.es.length:=fun hx=>IC hma hok hx
 obtain⟨x,hx⟩: ∃ x,rs[r]? =some x:=⟨_,aj I⟩
 have hxa:=Hn hma hx
 refine G (Yu Z)<|G (Xa Z Z)<|G (Xi Z Z)<|bA H 4 (#[J (ep),J (ld),.slice (Qd g1) isr.length c1,.slice (Qd g2) kn.length c2,.slice (Qd g3) rs.length c3,J (fw),J (bs)]) bl Z Z Z Z Z N N fun w4 H=>G (Wi Z)<|U<|W<|W<|Zr<|G (Yi Z)<|G (cv Z Z Z)<|U<|ZF Z<|Zk<|W<|W<|Zr<|G (Zf dQ Z)<|G (Zd cJ H 4 Z Z Z)<|G (Yi Z)<|G (cR bM Z Z (by first|omega|(simp only[ae];omega)))<|G (Zf kV Z) ?_
 refine zS (bU eS row3 hx 0 Z (H.ent (i:=2) Z) Z) Z Z Z (fun h22=> ?_) (fun h22=> ?_)
 refine G (ee Z)<|U<|ZF Z<|Zk<|W ?_
 have hlo:=H.size
 refine bL cD [0,1,2,3,4,5,6,7,8,9,10,11,12,13,14] [15] [9] [0,2,3,5,6,7,10,11,12,13,14] (sp [(9,Sp.nrow w4.heap.size dP (bG x.es) (fun A c=> .tuple #[.agg #[.slice A (bG x.es).length c,J (iS x.es x.es.length:Nat)],J 0]))]) N N N N Nq (cQ _) ?_
 refine aw Z Z Z Z Z (fun w' hw'=>Zf dQ Z)<|aw Z Z Z Z Z (fun w' hw'=>bi cJ Z (aJ ((H.later hw').ent (i:=4) Z) Z))<|aw Z Z Z Z Z (fun w' hw'=>Yi Z)<|aw Z Z Z Z Z (fun w' hw'=>Zf dQ Z)<|aw Z Z Z Z Z (fun w' hw'=>bi cJ Z (aJ ((H.later hw').ent (i:=4) Z) Z))<|aw Z Z Z Z Z (fun w' hw'=>Yi Z)<|aw Z Z Z Z Z (fun w' hw'=>cR bM Z Z (by first|omega|(simp only[ae];omega)))<|aw Z Z Z Z Z (fun w' hw'=>Zf dU Z)<|aw Z Z Z Z Z (fun w' hw'=>wu 1 [.slice x.A ((bG x.es).length) x.cap,J (((iS x.es x.s:Nat):Int))] fE row3 hx Z Z ((H.later hw').ent (i:=2) Z) Z)<|HZ (gv:=(fun A c=> .tuple #[.agg #[.slice A (bG x.es).length c,J (iS x.es x.es.length:Nat)],J 0])) Gy Z Z Z Z Z (fun w' hw'=>hw'.size) (fun w' hw'=>Fl (gm.log x) w' (hlg.log (H.later hw') hx (hok2 hx).1)) Z fun A35 c35 hc35=>aw Z Z Z Z Z (fun w' hw'=>Yu Z)<|aw Z Z Z Z Z (fun w' hw'=>Xa Z Z)<|aw Z Z Z Z Z (fun w' hw'=>Xi Z Z)<|aw Z Z Z Z Z (fun w' hw'=>cR bM Z Z (by first|omega|(simp only[ae];omega)))<|aw Z Z Z Z Z (fun w' hw'=>Zf dU Z)<|aU ?_
 intro w5 hw' hF
 obtain⟨hF,Aq,cq,eq,hcq,hrw35⟩:=hF;cases eq;clear hcq
 replace H:=H.learnRd hw' hrw35
 clear hw' hF
 refine ni H 2 ({x with A:=A35,cap:=c35,s:=x.es.length,lo:=w4.heap.size,hi:=w5.heap.size}) kR row3 hx 1 Z Z Z Z Z Z N fun w7 cur6 row6 H=> ?_
 have hs8:(rs.set r ({x with A:=A35,cap:=c35,s:=x.es.length,lo:=w4.heap.size,hi:=w5.heap.size}))[r]? =some ({x with A:=A35,cap:=c35,s:=x.es.length,lo:=w4.heap.size,hi:=w5.heap.size}):=al (cy hx).1
 refine U<|W<|W ?_
 have hlg1:=(hlg.cons (f:=ey dP w4.heap.size w5.heap.size A35 (bG x.es))).set r (x:={x with A:=A35,cap:=c35,s:=x.es.length,lo:=w4.heap.size,hi:=w5.heap.size}) ⟨hc35,hlo,ie _⟩
 have hs9:(rs.set r {x with A:=A35,cap:=c35,s:=x.es.length,lo:=w4.heap.size,hi:=w5.heap.size})[r]? =some {x with A:=A35,cap:=c35,s:=x.es.length,lo:=w4.heap.size,hi:=w5.heap.size}:=al I
 have hF9:=(hlg1 _ (ab hs9)).2.2
 have hc9:=(hlg1 _ (ab hs9)).1
 refine Zr<|G (Yi Z)<|G (Zf eC Z)<|G (Zd am H 4 Z Z Z) ?_
 refine du (bv Z Z) Z Z Z (fun h43=> ?_) (fun h43=> ?_)
 refine U<|ZT Z<|W ?_
 obtain⟨kx,hkx⟩: ∃ kx,kn[r]? =some kx:=⟨_,aj I⟩
 refine bL cD [0,1,2,3,4,5,6,7,8,9] [10] [5] [0,2,4,6,7,8,9] (sp [(5,Sp.one (.tuple #[J ((x.es.length:Nat):Int),J ((x.es.length:Nat):Int)]))]) N N N N Nq (cQ _) ?_
 refine aw Z Z Z Z Z (fun w' hw'=>Zf iX Z)<|aw Z Z Z Z Z (fun w' hw'=>bi cB Z (aJ ((H.later hw').ent (i:=4) Z) Z))<|aw Z Z Z Z Z (fun w' hw'=>Yi Z)<|aw Z Z Z Z Z (fun w' hw'=>jR bo Z ((H.later hw').ent (i:=4) Z) Z)<|aw Z Z Z Z Z (fun w' hw'=>Yi Z)<|qJ kY Z Z Z Z Z (fun w' hw'=>(by have hA:=sB ⟨ep,ld,isr,some ⟨g1,0,none⟩,c1,kn,some ⟨g2,0,none⟩,c2,rs.set r {x with A:=A35,cap:=c35,s:=x.es.length,lo:=w4.heap.size,hi:=w5.heap.size},some ⟨g3,0,none⟩,c3,fw,bs⟩ r {x with A:=A35,cap:=c35,s:=x.es.length,lo:=w4.heap.size,hi:=w5.heap.size} w' (row6.rd0 ((H.later hw').ent (i:=2) Z)) hs9 (hlg1.log (H.later hw') hs9 (hok2 hx).1.all);simp only[Pa.v,Pa.c,ae]at hA;exact hA)) Z<|aw Z Z Z Z Z (fun w' hw'=>Yu Z)<|aw Z Z Z Z Z (fun w' hw'=>Xi Z Z)<|aw Z Z Z Z Z (fun w' hw'=>Xi Z Z)<|aw Z Z Z Z Z (fun w' hw'=>cR bj Z Z (by first|omega|(simp only[ae];omega)))<|aU ?_
 intro w9 hw' hF
 replace H:=H.later hw';clear hw' hF
 refine ni H 1 ((((x.es.length:Nat):Int))) bQ row2 hkx 0 Z Z Z Z Z Z N fun w11 cur10 row10 H=> ?_
 have hs12:(kn.set r ((((x.es.length:Nat):Int))))[r]? =some ((((x.es.length:Nat):Int))):=al (cy hkx).1
 refine U<|Zr<|G (Zw bo H 4 Z Z Z)<|cu pE ((by have hA:=D8 ep ld isr c1 (kn.set r ((x.es.length:Nat):Int)) c2 (rs.set r {x with A:=A35,cap:=c35,s:=x.es.length,lo:=w4.heap.size,hi:=w5.heap.size}) c3 fw bs r ({x with A:=A35,cap:=c35,s:=x.es.length,lo:=w4.heap.size,hi:=w5.heap.size}) H row1 row10 row6 (by simp only[ae];omega) (by simp only[ae,bW];omega) (by simp only[ae];omega) h43.symm hs9 hF9 (hok2 hx).1.all hc9;simp only[Pa.v,Pa.c,ae]at hA;exact hA)) Z Z ?_
 rintro _ w13 ⟨u9,rfl,row9,H⟩
 refine bA H 4 (#[J (ep),J (ld),.slice (Qd g1) isr.length c1,.slice (Qd g2) kn.length c2,.slice (Qd g3) rs.length c3,J (fw),J (bs)]) bl Z Z Z Z Z N N fun w14 H=>U<|W<|Zr<|G (Zw bo H 4 Z Z Z)<|bA H 3 (#[J (ep),J (ld),.slice (Qd g1) isr.length c1,.slice (Qd g2) kn.length c2,.slice (Qd g3) rs.length c3,J (fw),J (bs)]) bl Z Z Z Z Z N N fun w15 H=>G (Wi Z)<|U<|Zt ?_
 have hS:jq (Pa.a ⟨ep,ld,isr,iA,iC,kn,kA,kC,reps,rA,rC,fw,bs⟩) r=(m9 {Pa.a ⟨ep,ld,isr,iA,iC,kn,kA,kC,reps,rA,rC,fw,bs⟩with reps:=(reps.map gm.a).set r {x.a with s:=x.es.length},known:=kn.set r ((x.es.length:Nat):Int)},0):=by simp[jq,Pa.a,hxa,gm.a,h22,<-h43]
 rw[hS]
 rw[xR (l:=r) (r:={x.a with s:=x.es.length}) h43.symm (al (by simp;omega))]
 have hlg2:=hlg1.same r (x':={x with A:=A35,cap:=c35,s:=x.es.length,lo:=w4.heap.size,hi:=w5.heap.size,high:=max x.high (min (cY isr (kn.set r ((x.es.length:Nat):Int)) 400) (x.es.length:Nat))}) hs9 Z Z Z Z Z
 exact ch (cs0:= #[J (ep),J (ld),.slice (Qd g1) isr.length c1,.slice (Qd g2) kn.length c2,.slice (Qd g3) rs.length c3,J (fw),J (bs)]) (v1:=J 0) Z bo Z (H.ent (i:=3) Z) Z Z ⟨_,by simp[Pa.c],by simp[Pa.a,cU,hma,gm.a],(iJ.mk_ (p:=⟨ep,ld,isr,some ⟨g1,0,none⟩,c1,kn.set r ((x.es.length:Nat):Int),some ⟨g2,0,none⟩,c2,_,some ⟨g3,0,none⟩,c3,fw,bs⟩) Z Z Z row1 row10 row9 hlg2 (by dsimp only;try simp only[ae];omega) H ⟨by simp,by simp,by simp⟩)⟩
 refine U<|ZF Z<|Zk<|W<|Zr<|G (Zw bo H 4 Z Z Z)<|bA H 3 (#[J (ep),J (ld),.slice (Qd g1) isr.length c1,.slice (Qd g2) kn.length c2,.slice (Qd g3) rs.length c3,J (fw),J (bs)]) bl Z Z Z Z Z N N fun w16 H=>G (Wi Z)<|U<|Zt ?_
 have hS:jq (Pa.a ⟨ep,ld,isr,iA,iC,kn,kA,kC,reps,rA,rC,fw,bs⟩) r=({Pa.a ⟨ep,ld,isr,iA,iC,kn,kA,kC,reps,rA,rC,fw,bs⟩with reps:=(reps.map gm.a).set r {x.a with s:=x.es.length}},0):=by simp[jq,Pa.a,hxa,gm.a,h22,show¬ ld=(r:Int)from fun h=>h43 h.symm]
 rw[hS]
 exact ch (cs0:= #[J (ep),J (ld),.slice (Qd g1) isr.length c1,.slice (Qd g2) kn.length c2,.slice (Qd g3) rs.length c3,J (fw),J (bs)]) (v1:=J 0) Z bo Z (H.ent (i:=3) Z) Z Z ⟨_,by simp[Pa.c],by simp[Pa.a,cU,hma,gm.a],(iJ.mk_ (p:=⟨ep,ld,isr,some ⟨g1,0,none⟩,c1,kn,some ⟨g2,0,none⟩,c2,rs.set r {x with A:=A35,cap:=c35,s:=x.es.length,lo:=w4.heap.size,hi:=w5.heap.size},some ⟨g3,0,none⟩,c3,fw,bs⟩) Z Z Z row1 row2 row6 hlg1 (by dsimp only;try simp only[ae];omega) H ⟨by simp,by simp,by simp⟩)⟩
 refine G (ee Z)<|U<|ZT Z<|W<|Zr<|G (bC (cs:= #[J (0),J (0),.slice none 0 0,.slice none 0 0,.slice none 0 0,J (0),J (0)]) dz bR N)<|bA H 3 (#[J (0),J (0),.slice none 0 0,.slice none 0 0,.slice none 0 0,J (0),J (0)]) bl Z Z Z Z Z N N fun w17 H=>G (Wi Z)<|U<|Zt ?_
 have hS:jq (Pa.a ⟨ep,ld,isr,iA,iC,kn,kA,kC,reps,rA,rC,fw,bs⟩) r=(mp,7):=by simp[jq,Pa.a,hxa,gm.a,h22]
 rw[hS]
 exact ch (cs0:= #[J 0,J 0,.slice none 0 0,.slice none 0 0,.slice none 0 0,J 0,J 0]) (v1:=J 7) Z bo Z (H.ent (i:=3) Z) Z Z ⟨Jg,rfl,rfl,iJ.zero H.below⟩

theorem gJ:(aa.info? dg).map (fun i=>(i.zero,i.size,i.bytes))=some (some (J 0),1,8):=by kernel_rfl
theorem NL (m:Nat) (h:m<=1000000):d7 bS (aq m (0:Int)) m (aq m (Value.int .i64 0)).toArray:=by
 have hl: ∀ m:Nat,bS.all (aq m (0:Int))=aq m (Value.int .i64 0):=by
  intro m
  induction m with
  |zero=>rfl
  |succ m ih=>rw[ng,ng,<-ih];rfl
 refine⟨by simp[bS],?_,by simp,by simp only[maxLen];omega⟩
 rw[hl]
 simp[bS]
def fq (p:f3) (r:Nat):f3×Int:=match p.reps[r]? with
 |none=>(mp,5)
 |some x=>if x.up=false then(mp,7)else if p.isr[r]? =some false then(mp,13)else if p.leader=r then(mp,6)else if p.epoch=1073741824 then(mp,2)else
  (m9 {p with epoch:=p.epoch+1,leader:=r,known:=(aq p.reps.length 0).set r x.s,base:=x.es.length},0)
theorem JK (p:Pa) (r:Nat) (w:World) (h:p.rd 0 w.heap.size w) (hok:p.a.ok) (hr:r<p.reps.length):dt aa Em [p.v,J (r:Nat)] w fun v w2=> ∃ p':Pa,v=.tuple #[p'.v,J (fq p.a r).2]/\p'.a=(fq p.a r).1/\iJ w w2 p':=by
 refine aG Cr Z Z ?_
 obtain⟨hn1,hn2,hil,hkl,hf1,hf2,he0,he1,hl0,hl1,hb0,hb1,hsm⟩:=Pa.facts hok
 have hkn:=hok.known
 have hiC:=h.iC
 have hkC:=h.kC
 have hrC:=h.rC
 have hfew:=h.few
 have H:=Hp.startPa h
 obtain⟨ep,ld,isr,iA,iC,kn,kA,kC,reps,rA,rC,fw,bs⟩:=p
 simp only[Pa.a]at hkn
 dsimp only at H hn1 hn2 hil hkl hf1 hf2 he0 he1 hl0 hl1 hb0 hb1 hsm hiC hkC hrC hfew
 dsimp only at hr
 show CW _ _ _ _ (args [.agg #[J (ep),J (ld),.slice iA isr.length iC,.slice kA kn.length kC,.slice rA reps.length rC,J (fw),J (bs)],J (((r:Nat):Int))]) w
 refine W<|Zr<|gY H Z Z fun w1 b2 H=>fc H bR Z fun w2 b4 H=>G (Wi Z)<|U<|W<|Zr<|G (Zw bo H 1 Z Z Z)<|G (Yi Z)<|cu wH (He ⟨ep,ld,isr,iA,iC,kn,kA,kC,reps,rA,rC,fw,bs⟩ r _ (Hp.pa H 0 Z) hok hr) Z Z ?_
 rintro _ w3 ⟨⟨ep2,ld2,is2,iA2,c1,kn2,kA2,c2,rs,rA2,c3,fw2,bs2⟩,g1,g2,g3,u1,u2,u3,rfl,ha2,ho⟩
 simp only[Pa.a,f3.mk.injEq]at ha2
 obtain⟨e1,e2,e3,e4,hma,e6,e7⟩:=ha2
 obtain rfl:ep=ep2:=e1.symm
 obtain rfl:ld=ld2:=e2.symm
 obtain rfl:isr=is2:=e3.symm
 obtain rfl:kn=kn2:=e4.symm
 obtain rfl:fw=fw2:=e6.symm
 obtain rfl:bs=bs2:=e7.symm
 have hrl:rs.length=reps.length:=by have:=congrArg da hma;simpa using this
 obtain⟨i1,i2,i3,row1,row2,row3,hcp,hlos,-,hjn⟩:=ho
 dsimp only at i1 i2 i3 row1 row2 row3 hcp hlos hjn
 subst i1;subst i2;subst i3
 have hlo0:=H.size
 replace H:=H.joinF hjn (by intro f hf;obtain⟨r,hr,rfl⟩:=bD.1 hf;exact hlos r hr)
 replace hlos: ∀ r∈rs,w.heap.size<=r.lo:=fun r hr=>aV hlo0 (hlos r hr)
 clear hjn
 have hlg:=ui.of (F:=[KI 0 w.heap.size ⟨ep,ld,isr,iA,iC,kn,kA,kC,reps,rA,rC,fw,bs⟩,ey fI 0 w.heap.size iA isr,ey bS 0 w.heap.size kA kn,ey jr 0 w.heap.size rA reps]) hcp hlos
 have hok2: ∀ {i:Nat} {x:gm},rs[i]? =some x->GL x.es x.s/\0<=x.high/\x.high<=x.es.length:=fun hx=>IC hma hok hx
 obtain⟨x,hx⟩: ∃ x,rs[r]? =some x:=⟨_,aj I⟩
 have hxa:=Hn hma hx
 refine G (Yu Z)<|G (Xa Z Z)<|G (Xi Z Z)<|bA H 4 (#[J (ep),J (ld),.slice (Qd g1) isr.length c1,.slice (Qd g2) kn.length c2,.slice (Qd g3) rs.length c3,J (fw),J (bs)]) bl Z Z Z Z Z N N fun w4 H=>G (Wi Z)<|U<|W<|W<|Zr<|G (Yi Z)<|G (cv Z Z Z)<|U<|ZF Z<|Zk<|W<|Zb<|W ?_
 obtain⟨b,hb⟩: ∃ b,isr[r]? =some b:=⟨_,aj I⟩
 refine Zr<|G (Zf dQ Z)<|G (Zd cJ H 4 Z Z Z)<|G (Yi Z)<|G (cR bM Z Z (by first|omega|(simp only[ae];omega)))<|G (Zf kV Z) ?_
 refine zS (bU eS row3 hx 0 Z (H.ent (i:=2) Z) Z) Z Z Z (fun h23=> ?_) (fun h23=> ?_)
 ·
  refine G (ee Z)<|G (Wb Z)<|U<|ZF Z<|W<|Zr<|G (Zf kW Z)<|G (Zd l5 H 4 Z Z Z)<|G (Yi Z)<|G (cR fg Z Z (by first|omega|(simp only[ae];omega))) ?_
  refine zS (bU eS row1 hb 0 Z (H.ent (i:=0) Z) Z) Z Z Z (fun h31=> ?_) (fun h31=> ?_)
  ·
   refine G (ee Z)<|G (Wb Z)<|U<|ZF Z<|W<|Zr<|G (Zf eC Z)<|G (Zd am H 4 Z Z Z)<|G (Yi Z) ?_
   refine du (bv Z Z) Z Z Z (fun h38=> ?_) (fun h38=> ?_)
   ·
    refine G (Wb Z)<|U<|ZT Z<|W<|Zr<|G (bC (cs:= #[J (0),J (0),.slice none 0 0,.slice none 0 0,.slice none 0 0,J (0),J (0)]) dz bR N)<|bA H 3 (#[J (0),J (0),.slice none 0 0,.slice none 0 0,.slice none 0 0,J (0),J (0)]) bl Z Z Z Z Z N N fun w5 H=>G (Wi Z)<|U<|Zt ?_
    have hS:fq (Pa.a ⟨ep,ld,isr,iA,iC,kn,kA,kC,reps,rA,rC,fw,bs⟩) r=(mp,6):=by simp[fq,Pa.a,hxa,gm.a,h23,hb,h31,<-h38]
    rw[hS]
    exact ch (cs0:= #[J 0,J 0,.slice none 0 0,.slice none 0 0,.slice none 0 0,J 0,J 0]) (v1:=J 6) Z bo Z (H.ent (i:=3) Z) Z Z ⟨Jg,rfl,rfl,iJ.zero H.below⟩
   ·
    refine G (Wb Z)<|U<|ZF Z<|W<|Zr<|G (Zf qi Z)<|G (Zd am H 4 Z Z Z) ?_
    refine du (bv Z Z) Z Z Z (fun h43=> ?_) (fun h43=> ?_)
    ·
     refine G (Wb Z)<|U<|ZT Z<|W<|Zr<|G (bC (cs:= #[J (0),J (0),.slice none 0 0,.slice none 0 0,.slice none 0 0,J (0),J (0)]) dz bR N)<|bA H 3 (#[J (0),J (0),.slice none 0 0,.slice none 0 0,.slice none 0 0,J (0),J (0)]) bl Z Z Z Z Z N N fun w6 H=>G (Wi Z)<|U<|Zt ?_
     have hS:fq (Pa.a ⟨ep,ld,isr,iA,iC,kn,kA,kC,reps,rA,rC,fw,bs⟩) r=(mp,2):=by simp[fq,Pa.a,hxa,gm.a,h23,hb,h31,h38,h43]
     rw[hS]
     exact ch (cs0:= #[J 0,J 0,.slice none 0 0,.slice none 0 0,.slice none 0 0,J 0,J 0]) (v1:=J 2) Z bo Z (H.ent (i:=3) Z) Z Z ⟨Jg,rfl,rfl,iJ.zero H.below⟩
    ·
     refine G (Wb Z)<|U<|ZF Z<|Zk<|W<|Zr<|G (Zf qi Z)<|G (Zd am H 4 Z Z Z)<|G (bp Z Z I I)<|G (Zf qi Z)<|bA H 4 (#[J (ep+1),J (ld),.slice (Qd g1) isr.length c1,.slice (Qd g2) kn.length c2,.slice (Qd g3) rs.length c3,J (fw),J (bs)]) bQ Z Z Z Z Z N N fun w7 H=>U<|W<|Zr<|G (Yi Z)<|G (Zf eC Z)<|bA H 4 (#[J (ep+1),J (((r:Nat):Int)),.slice (Qd g1) isr.length c1,.slice (Qd g2) kn.length c2,.slice (Qd g3) rs.length c3,J (fw),J (bs)]) bQ Z Z Z Z Z N N fun w8 H=>U<|W<|Zr<|G (Zf dQ Z)<|G (Zd cJ H 4 Z Z Z)<|G (bh ik Z)<|Rw (m:=rs.length) H bj gJ Z Z Z I I Z fun w9 b54 H=> ?_
     have row54:=NL rs.length I
     refine G (Zf iX Z)<|bA H 5 (#[J (ep+1),J (((r:Nat):Int)),.slice (Qd g1) isr.length c1,.slice (Qd b54) rs.length rs.length,.slice (Qd g3) rs.length c3,J (fw),J (bs)]) jQ Z Z Z Z Z N N fun w10 H=>U<|W ?_
     refine bL cD [0,1,2,3,4,5,6,7,8,9] [10,11,12] [5] [0,2,4,6,7,8,9] (sp [(5,Sp.one (.tuple #[J ((x.es.length:Nat):Int),J ((x.s:Nat):Int)]))]) N N N N Nq (cQ _) ?_
     refine aw Z Z Z Z Z (fun w' hw'=>Zf iX Z)<|aw Z Z Z Z Z (fun w' hw'=>bi cB Z (aJ ((H.later hw').ent (i:=5) Z) Z))<|aw Z Z Z Z Z (fun w' hw'=>Yi Z)<|aw Z Z Z Z Z (fun w' hw'=>jR bo Z ((H.later hw').ent (i:=5) Z) Z)<|aw Z Z Z Z Z (fun w' hw'=>Yi Z)<|qJ kY Z Z Z Z Z (fun w' hw'=>(by have hA:=sB ⟨ep+1,(r:Nat),isr,some ⟨g1,0,none⟩,c1,aq rs.length 0,some ⟨b54,0,none⟩,rs.length,rs,some ⟨g3,0,none⟩,c3,fw,bs⟩ r x w' (row3.rd0 ((H.later hw').ent (i:=3) Z)) hx (hlg.log (H.later hw') hx (hok2 hx).1);simp only[Pa.v,Pa.c,bW]at hA;exact hA)) Z<|aw Z Z Z Z Z (fun w' hw'=>Yu Z)<|aw Z Z Z Z Z (fun w' hw'=>Xi Z Z)<|aw Z Z Z Z Z (fun w' hw'=>Xi Z Z)<|aw Z Z Z Z Z (fun w' hw'=>Zf yE Z)<|aU ?_
     intro w11 hw' hF
     replace H:=H.later hw';clear hw' hF
     refine bA H 5 (#[J (ep+1),J (((r:Nat):Int)),.slice (Qd g1) isr.length c1,.slice (Qd b54) rs.length rs.length,.slice (Qd g3) rs.length c3,J (fw),J (((x.es.length:Nat):Int))]) bQ Z Z Z Z Z N N fun w12 H=>G (cR bj Z Z (by first|omega|(simp only[ae];omega))) ?_
     refine ni H 0 ((((x.s:Nat):Int))) bQ row54 (show(aq rs.length (0:Int))[r]? =some 0 by rw[fv,if_pos I]) 0 Z Z Z Z Z Z N ?_;intro w14 cur13 row13 H
     have hs15:((aq rs.length (0:Int)).set r ((((x.s:Nat):Int))))[r]? =some ((((x.s:Nat):Int))):=al (cy (show(aq rs.length (0:Int))[r]? =some 0 by rw[fv,if_pos I])).1
     refine U<|W<|Zr<|G (Zw bo H 5 Z Z Z)<|cu pE ((by have hA:=D8 (g2:=b54) (M:=[(g2,.cells u2 dg (0,0)),(b4,.cells #[J 0,J 0,.slice none 0 0,.slice none 0 0,.slice none 0 0,J 0,J 0] bI (0,0)),(b2,.cells #[J (ep+1),J (((r:Nat):Int)),.slice (Qd g1) isr.length c1,.slice (Qd b54) rs.length rs.length,.slice (Qd g3) rs.length c3,J (fw),J (((x.es.length:Nat):Int))] bI (0,0))]) (ep+1) ((r:Nat):Int) isr c1 ((aq rs.length 0).set r ((x.s:Nat):Int)) rs.length rs c3 fw ((x.es.length:Nat):Int) r x (H.perm ((ak _ _ _).trans (.cons _ (.cons _ (ak _ _ _))))) row1 row13 row3 I (by simp) I Z hx (hlg _ (ab hx)).2.2 (hok2 hx).1 (hlg _ (ab hx)).1;simp only[Pa.v,Pa.c,ae,bW]at hA;exact hA)) Z Z ?_
     rintro _ w16 ⟨u9,rfl,row9,H⟩
     refine bA H 4 (#[J (ep+1),J (((r:Nat):Int)),.slice (Qd g1) isr.length c1,.slice (Qd b54) rs.length rs.length,.slice (Qd g3) rs.length c3,J (fw),J (((x.es.length:Nat):Int))]) bl Z Z Z Z Z N N fun w17 H=>G (Wi Z)<|U<|Zt ?_
     have hS:fq (Pa.a ⟨ep,ld,isr,iA,iC,kn,kA,kC,reps,rA,rC,fw,bs⟩) r=(m9 {Pa.a ⟨ep,ld,isr,iA,iC,kn,kA,kC,reps,rA,rC,fw,bs⟩with epoch:=ep+1,leader:=(r:Nat),known:=(aq (reps.map gm.a).length 0).set r ((x.s:Nat):Int),base:=((x.es.length:Nat):Int)},0):=by simp[fq,Pa.a,hxa,gm.a,h23,hb,h31,h38,h43]
     rw[hS]
     rw[xR (l:=r) (r:=x.a) Z hxa]
     have hlg1:=hlg.same r (x':={x with high:=max x.high (min (cY isr ((aq rs.length 0).set r ((x.s:Nat):Int)) 400) (x.es.length:Nat))}) hx Z Z Z Z Z
     exact ch (cs0:= #[J (ep+1),J (((r:Nat):Int)),.slice (Qd g1) isr.length c1,.slice (Qd b54) rs.length rs.length,.slice (Qd g3) rs.length c3,J (fw),J (((x.es.length:Nat):Int))]) (v1:=J 0) Z bo Z (H.ent (i:=4) Z) Z Z ⟨_,by simp[Pa.c],by simp[Pa.a,cU,hma,hrl,gm.a],(iJ.mk_ (p:=⟨ep+1,(r:Nat),isr,some ⟨g1,0,none⟩,c1,(aq rs.length 0).set r ((x.s:Nat):Int),some ⟨b54,0,none⟩,rs.length,_,some ⟨g3,0,none⟩,c3,fw,((x.es.length:Nat):Int)⟩) Z Z Z row1 row13 row9 hlg1 (by dsimp only;try simp only[ae,bW];omega) H ⟨by simp,by simp,by simp⟩)⟩
  ·
   refine G (ee Z)<|G (Wb Z)<|U<|ZT Z<|W<|Zr<|G (bC (cs:= #[J (0),J (0),.slice none 0 0,.slice none 0 0,.slice none 0 0,J (0),J (0)]) dz bR N)<|bA H 3 (#[J (0),J (0),.slice none 0 0,.slice none 0 0,.slice none 0 0,J (0),J (0)]) bl Z Z Z Z Z N N fun w18 H=>G (Wi Z)<|U<|Zt ?_
   have hS:fq (Pa.a ⟨ep,ld,isr,iA,iC,kn,kA,kC,reps,rA,rC,fw,bs⟩) r=(mp,13):=by simp[fq,Pa.a,hxa,gm.a,h23,hb,h31]
   rw[hS]
   exact ch (cs0:= #[J 0,J 0,.slice none 0 0,.slice none 0 0,.slice none 0 0,J 0,J 0]) (v1:=J 13) Z bo Z (H.ent (i:=3) Z) Z Z ⟨Jg,rfl,rfl,iJ.zero H.below⟩
 ·
  refine G (ee Z)<|G (Wb Z)<|U<|ZT Z<|W<|Zr<|G (bC (cs:= #[J (0),J (0),.slice none 0 0,.slice none 0 0,.slice none 0 0,J (0),J (0)]) dz bR N)<|bA H 3 (#[J (0),J (0),.slice none 0 0,.slice none 0 0,.slice none 0 0,J (0),J (0)]) bl Z Z Z Z Z N N fun w19 H=>G (Wi Z)<|U<|Zt ?_
  have hS:fq (Pa.a ⟨ep,ld,isr,iA,iC,kn,kA,kC,reps,rA,rC,fw,bs⟩) r=(mp,7):=by simp[fq,Pa.a,hxa,gm.a,h23]
  rw[hS]
  exact ch (cs0:= #[J 0,J 0,.slice none 0 0,.slice none 0 0,.slice none 0 0,J 0,J 0]) (v1:=J 7) Z bo Z (H.ent (i:=3) Z) Z Z ⟨Jg,rfl,rfl,iJ.zero H.below⟩
/-- how many of those that keep up are up -/
def GJ:List Bool->List RA->Int->Int
 |b::bs,y::ys,n=>GJ bs ys (if(b&&y.up)=true then n+1 else n)
 |_,_,n=>n
theorem DS {isr:List Bool} {ys:List RA} {k:Nat} {b:Bool} {y:RA} {n:Int} (hb:isr[k]? =some b) (hy:ys[k]? =some y):GJ (isr.drop k) (ys.drop k) n=GJ (isr.drop (k+1)) (ys.drop (k+1)) (if(b&&y.up)=true then n+1 else n):=by
 rw[cM hb,cM hy]
 rfl
def eu (p:f3) (e:cr):f3×Int×Int:=if p.leader<0 then(mp,0,8)else match p.reps[p.leader.toNat]? with
 |none=>(mp,0,12)
 |some x=>if eI {e with epoch:=p.epoch}≠0 then(mp,0,eI {e with epoch:=p.epoch})else
  if(fo x.es {e with epoch:=p.epoch}).2≠0 then(mp,0,(fo x.es {e with epoch:=p.epoch}).2)else
  if 0<=(fo x.es {e with epoch:=p.epoch}).1 then(p,(fo x.es {e with epoch:=p.epoch}).1,0)else
  if GJ p.isr p.reps 0<p.few then(mp,0,9)else({p with reps:=p.reps.set p.leader.toNat {x with es:=x.es++[{e with epoch:=p.epoch}]}},(x.es.length:Nat),0)
theorem Mc {es:List cr} {s:Nat} {x:cr} (h:GL es s) (hx:ob x) (hl:es.length<400): ¬ Ck es x:=by
 have h1:=EH (es++[x]) (fun e he=>by
  rcases ap.1 he with he|he
  exact h.good e he
  rw[ar.1 he];exact hx)
 rw[kU,ay,ay]at h1
 simp only[cH]at h1
 unfold Ck
 omega
theorem vD (l:pf) (x:cr) (w:World) (h:l.ok w) (hx:ob x) (hf:l.es.length<400):dt aa xj [.agg l.c.toArray,x.v] w fun v w2=> ∃ A' c',v=.tuple #[.agg #[.slice A' (bG (l.es++[x])).length c',J (iS (l.es++[x]) l.s:Nat)],J 0]/\(bG (l.es++[x])).length<=c'/\Rd dP w.heap.size w2.heap.size A' (bG (l.es++[x])) w2/\Below w.heap.size w w2:=
 (D4 l x w h hx (Mc h.gl hx hf)).mono fun _ _ ⟨A',c',h1,h2,h3⟩=>⟨A',c',h1,h2.2.1,h2.2.2,h3⟩
theorem vO {w:World} {b:Nat} {l:List UInt8} (h:w.heap[b]? =some (.cells #[.slice none 0 0,J 0] GG (0,0))) (h0:0<l.length): ∃ (j:Nat) (u:Value),(dP.all l)[j]? =some u/\ ∀ k,w.cell? ⟨b,k,none⟩≠some u:=by
 obtain⟨x,l,rfl⟩: ∃ x t,l=x::t:=by cases l<;>simp at h0⊢
 refine⟨0,.int .u8 (x.toNat:Nat),rfl,fun k hk=> ?_⟩
 have:=OJ h hk
 simp at this
theorem zQ (p:Pa) (e:cr) (w:World) (h:p.rd 0 w.heap.size w) (hok:p.a.ok) (hroom: ∀ (l:Nat) (x:gm),p.leader=l->p.reps[l]? =some x->x.es.length<400):dt aa HA [p.v,e.v] w fun v w2=> ∃ p':Pa,v=.tuple #[p'.v,J (eu p.a e).2.1,J (eu p.a e).2.2]/\p'.a=(eu p.a e).1/\iJ w w2 p':=by
 refine aG F6 Z Z ?_
 obtain⟨hn1,hn2,hil,hkl,hf1,hf2,he0,he1,hl0,hl1,hb0,hb1,hsm⟩:=Pa.facts hok
 have hkn:=hok.known
 have hiC:=h.iC
 have hkC:=h.kC
 have hrC:=h.rC
 have hfew:=h.few
 have H:=Hp.startPa h
 obtain⟨ep,ld,isr,iA,iC,kn,kA,kC,reps,rA,rC,fw,bs⟩:=p
 simp only[Pa.a]at hkn
 dsimp only at H hn1 hn2 hil hkl hf1 hf2 he0 he1 hl0 hl1 hb0 hb1 hsm hiC hkC hrC hfew
 dsimp only at hroom
 show CW _ _ _ _ (args [.agg #[J (ep),J (ld),.slice iA isr.length iC,.slice kA kn.length kC,.slice rA reps.length rC,J (fw),J (bs)],.agg #[J (e.epoch),J (e.pid),J (e.ver),J (e.seq),J (e.kind),.bool (e.txn),.string (e.text)]]) w
 refine W<|Zr<|gY H Z Z fun w1 b2 H=>gY H Z Z fun w2 b3 H=>fc H bR Z fun w3 b4 H=>G (Wi Z)<|G (Wi Z)<|U<|W<|W<|Zr<|G (Zw bo H 2 Z Z Z)<|cu lF (sD ⟨ep,ld,isr,iA,iC,kn,kA,kC,reps,rA,rC,fw,bs⟩ _ (Hp.pa H 0 Z) hok) Z Z ?_
 rintro _ w4 ⟨rfl,hb⟩;replace H:=H.later hb;clear hb
 refine G (Wi Z)<|U<|W<|Zr<|G (Yi Z)<|G (cv Z Z Z)<|U<|ZF Z<|Zk<|W<|W<|Zr<|G (Zf eC Z)<|G (Zd am H 2 Z Z Z) ?_
 refine du (cO Z Z) Z Z Z (fun h27=> ?_) (fun h27=> ?_)
 refine U<|ZT Z<|W<|Zr<|G (bC (cs:= #[J (0),J (0),.slice none 0 0,.slice none 0 0,.slice none 0 0,J (0),J (0)]) dz bR N)<|bA H 0 (#[J (0),J (0),.slice none 0 0,.slice none 0 0,.slice none 0 0,J (0),J (0)]) bl Z Z Z Z Z N N fun w5 H=>G (Wi Z)<|G (Wi Z)<|U<|Zt ?_
 have hS:eu (Pa.a ⟨ep,ld,isr,iA,iC,kn,kA,kC,reps,rA,rC,fw,bs⟩) e=(mp,0,8):=by unfold eu;exact if_pos h27
 rw[hS]
 exact gM (cs0:= #[J 0,J 0,.slice none 0 0,.slice none 0 0,.slice none 0 0,J 0,J 0]) (v1:=J (0)) (v2:=J (8)) Z bo Z (H.ent (i:=0) Z) Z Z Z ⟨Jg,rfl,rfl,iJ.zero H.below⟩
 refine U<|ZF Z<|Zk<|W ?_
 obtain⟨l,hld⟩: ∃ l:Nat,ld=l:=⟨ld.toNat,by omega⟩
 refine Zr<|G (Zw bo H 2 Z Z Z)<|cu m6 (Ay ⟨ep,ld,isr,iA,iC,kn,kA,kC,reps,rA,rC,fw,bs⟩ _ (Hp.pa H 0 Z) hok) Z Z ?_
 rintro _ w6 ⟨⟨ep2,ld2,is2,iA2,c1,kn2,kA2,c2,rs,rA2,c3,fw2,bs2⟩,g1,g2,g3,u1,u2,u3,rfl,ha2,ho⟩
 simp only[Pa.a,f3.mk.injEq]at ha2
 obtain⟨e1,e2,e3,e4,hma,e6,e7⟩:=ha2
 obtain rfl:ep=ep2:=e1.symm
 obtain rfl:ld=ld2:=e2.symm
 obtain rfl:isr=is2:=e3.symm
 obtain rfl:kn=kn2:=e4.symm
 obtain rfl:fw=fw2:=e6.symm
 obtain rfl:bs=bs2:=e7.symm
 have hrl:rs.length=reps.length:=by have:=congrArg da hma;simpa using this
 obtain⟨i1,i2,i3,row1,row2,row3,hcp,hlos,-,hjn⟩:=ho
 dsimp only at i1 i2 i3 row1 row2 row3 hcp hlos hjn
 subst i1;subst i2;subst i3
 have hlo0:=H.size
 replace H:=H.joinF hjn (by intro f hf;obtain⟨r,hr,rfl⟩:=bD.1 hf;exact hlos r hr)
 replace hlos: ∀ r∈rs,w.heap.size<=r.lo:=fun r hr=>aV hlo0 (hlos r hr)
 clear hjn
 have hlg:=ui.of (F:=[KI 0 w.heap.size ⟨ep,ld,isr,iA,iC,kn,kA,kC,reps,rA,rC,fw,bs⟩,ey fI 0 w.heap.size iA isr,ey bS 0 w.heap.size kA kn,ey jr 0 w.heap.size rA reps]) hcp hlos
 have hok2: ∀ {i:Nat} {x:gm},rs[i]? =some x->GL x.es x.s/\0<=x.high/\x.high<=x.es.length:=fun hx=>IC hma hok hx
 obtain⟨x,hx⟩: ∃ x,rs[l]? =some x:=⟨_,aj I⟩
 have hxa:=Hn hma hx
 refine bA H 5 (#[J (ep),J (ld),.slice (Qd g1) isr.length c1,.slice (Qd g2) kn.length c2,.slice (Qd g3) rs.length c3,J (fw),J (bs)]) bl Z Z Z Z Z N N fun w7 H=>U<|W<|Zr<|G (Zf dQ Z)<|G (Zd cJ H 5 Z Z Z)<|G (Zf eC Z)<|G (Zd am H 5 Z Z Z)<|G (cR (k:=l) bM Z (congrArg (Value.int .i64) hld) (by first|omega|(simp only[ae];omega)))<|G (Wp Z)<|U<|W<|Zr<|G (Yp Z)<|G (aH Z)<|G (Zf dU Z)<|G (wu 1 [.slice x.A ((bG x.es).length) x.cap,J (((iS x.es x.s:Nat):Int))] fE row3 hx Z Z (H.ent (i:=2) Z) Z)<|cu gR (iq x.A x.cap x.es x.s _ (hlg.log H hx (hok2 hx).1)) Z Z ?_
 have hloen:=H.size
 rintro _ w8 ⟨Aen,cen,rfl,hren,hcen,hben⟩;replace H:=H.learnRd hben hren;clear hren hben
 refine G (Yu Z)<|G (Xs Z Z)<|G (Xi Z Z)<|G (Xi Z Z)<|G (Ws Z)<|G (Wi Z)<|G (Wi Z)<|U<|W<|Zr<|G (Zf qi Z)<|G (Zd am H 5 Z Z Z)<|G (Zf nV Z)<|bA H 4 (#[J (ep),J (e.pid),J (e.ver),J (e.seq),J (e.kind),.bool (e.txn),.string (e.text)]) bQ Z Z Z Z Z N N fun w9 H=>U<|W<|W<|Zr<|G (Zw dJ H 4 Z Z Z)<|cu sf (xZ {e with epoch:=ep} _) Z Z ?_
 rintro _ w10 ⟨rfl,hb⟩;replace H:=H.later hb;clear hb
 refine G (Wi Z)<|U<|W<|Zr<|G (Yi Z) ?_
 refine rM (jk Z Z) Z Z Z (fun h51=> ?_) (fun h51=> ?_)
 refine U<|ZT Z<|W<|Zr<|G (bC (cs:= #[J (0),J (0),.slice none 0 0,.slice none 0 0,.slice none 0 0,J (0),J (0)]) dz bR N)<|G (Yi Z)<|bA H 3 (#[J (0),J (0),.slice none 0 0,.slice none 0 0,.slice none 0 0,J (0),J (0)]) bl Z Z Z Z Z N N fun w11 H=>G (Wi Z)<|G (Wi Z)<|U<|Zt ?_
 have hlr:(Pa.a ⟨ep,ld,isr,iA,iC,kn,kA,kC,reps,rA,rC,fw,bs⟩).reps[ld.toNat]? =some x.a:=by rw[show ld.toNat=l by omega];exact hxa
 have hS:eu (Pa.a ⟨ep,ld,isr,iA,iC,kn,kA,kC,reps,rA,rC,fw,bs⟩) e=(mp,0,eI {e with epoch:=ep}):=by unfold eu;rw[if_neg (show¬ (Pa.a ⟨ep,ld,isr,iA,iC,kn,kA,kC,reps,rA,rC,fw,bs⟩).leader<0 from by show¬ ld<0;omega),show(Pa.a ⟨ep,ld,isr,iA,iC,kn,kA,kC,reps,rA,rC,fw,bs⟩).leader.toNat=ld.toNat from rfl,hlr];simp[Pa.a,gm.a,h51]
 rw[hS]
 exact gM (cs0:= #[J 0,J 0,.slice none 0 0,.slice none 0 0,.slice none 0 0,J 0,J 0]) (v1:=J (0)) (v2:=J (eI {e with epoch:=ep})) Z bo Z (H.ent (i:=3) Z) Z Z Z ⟨Jg,rfl,rfl,iJ.zero H.below⟩
 refine U<|ZF Z<|Zk<|W<|Zr<|G (Ys Z)<|G (Zw dJ H 4 Z Z Z)<|cu CF (Jl x.es Aen cen {e with epoch:=ep} _ (H.rd0 0 Z) (by have:=(hok2 hx).1.len;omega) (Jv (hok2 hx).1.good)) Z Z ?_
 rintro _ w12 ⟨rfl,hb⟩;replace H:=H.later hb;clear hb
 refine G (Yu Z)<|G (Xi Z Z)<|G (Xi Z Z)<|G (Wi Z)<|G (Wi Z)<|U<|W<|W<|Zr<|G (Yi Z) ?_
 refine rM (jk Z Z) Z Z Z (fun h61=> ?_) (fun h61=> ?_)
 refine U<|ZT Z<|W<|Zr<|G (bC (cs:= #[J (0),J (0),.slice none 0 0,.slice none 0 0,.slice none 0 0,J (0),J (0)]) dz bR N)<|G (Yi Z)<|bA H 3 (#[J (0),J (0),.slice none 0 0,.slice none 0 0,.slice none 0 0,J (0),J (0)]) bl Z Z Z Z Z N N fun w13 H=>G (Wi Z)<|G (Wi Z)<|U<|Zt ?_
 have hlr:(Pa.a ⟨ep,ld,isr,iA,iC,kn,kA,kC,reps,rA,rC,fw,bs⟩).reps[ld.toNat]? =some x.a:=by rw[show ld.toNat=l by omega];exact hxa
 have hS:eu (Pa.a ⟨ep,ld,isr,iA,iC,kn,kA,kC,reps,rA,rC,fw,bs⟩) e=(mp,0,(fo x.es {e with epoch:=ep}).2):=by unfold eu;rw[if_neg (show¬ (Pa.a ⟨ep,ld,isr,iA,iC,kn,kA,kC,reps,rA,rC,fw,bs⟩).leader<0 from by show¬ ld<0;omega),show(Pa.a ⟨ep,ld,isr,iA,iC,kn,kA,kC,reps,rA,rC,fw,bs⟩).leader.toNat=ld.toNat from rfl,hlr];simp[Pa.a,gm.a,h51,h61]
 rw[hS]
 exact gM (cs0:= #[J 0,J 0,.slice none 0 0,.slice none 0 0,.slice none 0 0,J 0,J 0]) (v1:=J (0)) (v2:=J ((fo x.es {e with epoch:=ep}).2)) Z bo Z (H.ent (i:=3) Z) Z Z Z ⟨Jg,rfl,rfl,iJ.zero H.below⟩
 refine U<|ZF Z<|Zk<|W<|W<|Zr<|G (Yi Z) ?_
 refine du (ku Z Z) Z Z Z (fun h65=> ?_) (fun h65=> ?_)
 refine U<|ZT Z<|W<|Zr<|G (Zw bo H 5 Z Z Z)<|G (Yi Z)<|bA H 3 (#[J (ep),J (ld),.slice (Qd g1) isr.length c1,.slice (Qd g2) kn.length c2,.slice (Qd g3) rs.length c3,J (fw),J (bs)]) bl Z Z Z Z Z N N fun w14 H=>G (Wi Z)<|G (Wi Z)<|U<|Zt ?_
 have hlr:(Pa.a ⟨ep,ld,isr,iA,iC,kn,kA,kC,reps,rA,rC,fw,bs⟩).reps[ld.toNat]? =some x.a:=by rw[show ld.toNat=l by omega];exact hxa
 have hS:eu (Pa.a ⟨ep,ld,isr,iA,iC,kn,kA,kC,reps,rA,rC,fw,bs⟩) e=((Pa.a ⟨ep,ld,isr,iA,iC,kn,kA,kC,reps,rA,rC,fw,bs⟩),(fo x.es {e with epoch:=ep}).1,0):=by unfold eu;rw[if_neg (show¬ (Pa.a ⟨ep,ld,isr,iA,iC,kn,kA,kC,reps,rA,rC,fw,bs⟩).leader<0 from by show¬ ld<0;omega),show(Pa.a ⟨ep,ld,isr,iA,iC,kn,kA,kC,reps,rA,rC,fw,bs⟩).leader.toNat=ld.toNat from rfl,hlr];simp[Pa.a,gm.a,h51,h61,h65]
 rw[hS]
 exact gM (cs0:= #[J (ep),J (ld),.slice (Qd g1) isr.length c1,.slice (Qd g2) kn.length c2,.slice (Qd g3) rs.length c3,J (fw),J (bs)]) (v1:=J ((fo x.es {e with epoch:=ep}).1)) (v2:=J (0)) Z bo Z (H.ent (i:=3) Z) Z Z Z ⟨_,by simp[Pa.c],by simp[Pa.a,cU,hma,gm.a],(iJ.mk_ (p:=⟨ep,ld,isr,some ⟨g1,0,none⟩,c1,kn,some ⟨g2,0,none⟩,c2,rs,some ⟨g3,0,none⟩,c3,fw,bs⟩) Z Z Z row1 row2 row3 hlg.cons (by dsimp only;first|omega|(simp only[ae,bW];omega)) H ⟨by simp,by simp,by simp⟩)⟩
 refine U<|ZF Z<|Zk<|W<|Zr<|G (Wi Z)<|U<|W<|W<|Zr<|G (Zf dQ Z)<|G (Zd cJ H 5 Z Z Z)<|G (bh ik Z)<|G (Yi Z)<|U<|Zb ?_
 refine cf (τ:=Nat×Int) [15,16,17,71,72,73,74,75,76,77,78,79,80,81,82,83,84,85,86,87] (fun(k,n)=>[(71,J (k:Nat)),(15,J n)]) (fun(k,n) w'=>k<=rs.length/\(0<=n/\n<=k)/\GJ (isr.drop k) ((rs.map gm.a).drop k) n=GJ isr (rs.map gm.a) 0/\Hp w w' [(g1,.cells u1 j6 (0,0)),(g2,.cells u2 dg (0,0)),(g3,.cells u3 g7 (0,0)),(b4,.cells #[J (0),J (0),.slice none 0 0,.slice none 0 0,.slice none 0 0,J (0),J (0)] bI (0,0)),(b3,.cells #[J (ep),J (e.pid),J (e.ver),J (e.seq),J (e.kind),.bool (e.txn),.string (e.text)] dA (0,0)),(b2,.cells #[J (ep),J (ld),.slice (Qd g1) isr.length c1,.slice (Qd g2) kn.length c2,.slice (Qd g3) rs.length c3,J (fw),J (bs)] bI (0,0))] ([ey hJ w7.heap.size w8.heap.size Aen x.es,KI 0 w.heap.size ⟨ep,ld,isr,iA,iC,kn,kA,kC,reps,rA,rC,fw,bs⟩,ey fI 0 w.heap.size iA isr,ey bS 0 w.heap.size kA kn,ey jr 0 w.heap.size rA reps]++vE rs)) (fun(k,_)=>rs.length-k) (0,0) ⟨by omega,by omega,rfl,H⟩ (mK Z Z) ?_
 rintro⟨k,n⟩ ρ1 w15 ⟨hk,⟨hn0,hnk⟩,hm,H⟩
 show CW _ _ _ _ (dK (ia _ _ ρ1) [(71,J (k:Nat)),(15,J n)]) w15
 refine W<|Zr ?_
 refine du (cO Z Z) Z Z Z (fun h72=> ?_) (fun h72=> ?_)
 refine U<|W<|ZT Z<|Zk<|W<|Zb<|W ?_
 obtain⟨y,hy⟩: ∃ y,rs[k]? =some y:=⟨_,aj I⟩
 obtain⟨b,hb⟩: ∃ b,isr[k]? =some b:=⟨_,aj I⟩
 refine Zr<|G (Yi Z)<|G (cR bM Z Z (by first|omega|(simp only[ae];omega)))<|G (pq pb row3 hy Z Z (H.ent (i:=2) Z))<|fc H sv Z fun w16 b17 H=>G (Wi Z)<|bA H 0 (#[.bool (y.up),.slice y.A ((bG y.es).length) y.cap,J (((iS y.es y.s:Nat):Int)),J (y.high)]) ou Z Z Z Z Z N N fun w17 H=>U<|W<|Zr<|G (Zf kW Z)<|G (Zd l5 H 6 Z Z Z)<|G (Yi Z)<|G (cR fg Z Z (by first|omega|(simp only[ae];omega))) ?_
 refine zS (bU eS row1 hb 0 Z (H.ent (i:=1) Z) Z) Z Z Z (fun h80=> ?_) (fun h80=> ?_)
 refine G (Yb Z)<|ZG<|G (Zf kV Z)<|ZG ?_
 refine zS (bi eS Z (aJ (H.ent (i:=0) Z) Z)) Z Z Z (fun h83=> ?_) (fun h83=> ?_)
 refine G (Kt Z Z)<|U<|ZT Z<|Zr<|G (Yi Z)<|G (bp Z Z I I)<|G (Wi Z)<|U<|Zr<|G (bp Z Z I I)<|G (Yi Z)<|U ?_
 refine⟨(k+1,n+1),⟨by omega,by omega,by rw[<-hm,DS hb (show(rs.map gm.a)[k]? =some y.a by rw[aI,hy];rfl)];simp[gm.a,h80,h83],H.forget (.cons _ (au _)) (fun _ h=>h)⟩,mK Z Z,Qg,by show rs.length- (k+1)<rs.length-k;omega⟩
 refine G (Kt Z Z)<|U<|ZF Z<|Zk<|Zr<|G (bp Z Z I I)<|G (Yi Z)<|U ?_
 refine⟨(k+1,n),⟨by omega,by omega,by rw[<-hm,DS hb (show(rs.map gm.a)[k]? =some y.a by rw[aI,hy];rfl)];simp[gm.a,h80,h83],H.forget (.cons _ (au _)) (fun _ h=>h)⟩,mK Z Z,Qg,by show rs.length- (k+1)<rs.length-k;omega⟩
 refine G (Yb Z)<|ZN<|ZN<|G (N Z Z)<|U<|ZF Z<|Zk<|Zr<|G (bp Z Z I I)<|G (Yi Z)<|U ?_
 refine⟨(k+1,n),⟨by omega,by omega,by rw[<-hm,DS hb (show(rs.map gm.a)[k]? =some y.a by rw[aI,hy];rfl)];simp[gm.a,h80],H.forget (.cons _ (au _)) (fun _ h=>h)⟩,mK Z Z,Qg,by show rs.length- (k+1)<rs.length-k;omega⟩
 have hke:k=rs.length:=by omega
 have hm2:n=GJ isr (rs.map gm.a) 0:=by rw[<-hm,er (l:=isr) I];rfl
 refine U<|W<|ZF Z<|Zx<|W<|W<|Zr<|G (Yi Z)<|G (Zf yF Z)<|G (Zd am H 5 Z Z Z) ?_
 refine du (cO Z Z) Z Z Z (fun h91=> ?_) (fun h91=> ?_)
 refine U<|ZT Z<|W<|Zr<|G (bC (cs:= #[J (0),J (0),.slice none 0 0,.slice none 0 0,.slice none 0 0,J (0),J (0)]) dz bR N)<|bA H 3 (#[J (0),J (0),.slice none 0 0,.slice none 0 0,.slice none 0 0,J (0),J (0)]) bl Z Z Z Z Z N N fun w18 H=>G (Wi Z)<|G (Wi Z)<|U<|Zt ?_
 have hlr:(Pa.a ⟨ep,ld,isr,iA,iC,kn,kA,kC,reps,rA,rC,fw,bs⟩).reps[ld.toNat]? =some x.a:=by rw[show ld.toNat=l by omega];exact hxa
 have hS:eu (Pa.a ⟨ep,ld,isr,iA,iC,kn,kA,kC,reps,rA,rC,fw,bs⟩) e=(mp,0,9):=by unfold eu;rw[if_neg (show¬ (Pa.a ⟨ep,ld,isr,iA,iC,kn,kA,kC,reps,rA,rC,fw,bs⟩).leader<0 from by show¬ ld<0;omega),show(Pa.a ⟨ep,ld,isr,iA,iC,kn,kA,kC,reps,rA,rC,fw,bs⟩).leader.toNat=ld.toNat from rfl,hlr];simp[Pa.a,gm.a,h51,h61,h65,<-hma,<-hm2,h91]
 rw[hS]
 exact gM (cs0:= #[J 0,J 0,.slice none 0 0,.slice none 0 0,.slice none 0 0,J 0,J 0]) (v1:=J (0)) (v2:=J (9)) Z bo Z (H.ent (i:=3) Z) Z Z Z ⟨Jg,rfl,rfl,iJ.zero H.below⟩
 refine U<|ZF Z<|Zk<|W ?_
 have hgd:ob {e with epoch:=ep}:=by simpa [ob]using h51
 have hrm:x.es.length<400:=by obtain⟨z,hz⟩: ∃ z,reps[l]? =some z:=⟨_,aj I⟩;have h1:=hroom l z hld hz;have h2:=hxa;rw[aI,hz]at h2;injection h2 with h2;have h3:z.es=x.es:=congrArg RA.es h2;rw[<-h3];exact h1
 have hlo:=H.size
 refine bL cD [0,1,2,3,4,5,6,7,8,9] [10,11] [5,9] [0,1,2,6,7,8] (sp [(5,Sp.nrow w15.heap.size dP (bG (x.es++[{e with epoch:=ep}])) (fun A c=> .tuple #[.agg #[.slice A (bG (x.es++[{e with epoch:=ep}])).length c,J (iS (x.es++[{e with epoch:=ep}]) x.s:Nat)],J 0])),(9,Sp.blk w15.heap.size (.agg #[.slice none 0 0,J 0]) GG)]) N N N N Nq (cQ _) ?_
 refine aw Z Z Z Z Z (fun w' hw'=>Yp Z)<|aw Z Z Z Z Z (fun w' hw'=>aH Z)<|aw Z Z Z Z Z (fun w' hw'=>Zf dU Z)<|aw Z Z Z Z Z (fun w' hw'=>wu 1 [.slice x.A ((bG x.es).length) x.cap,J (((iS x.es x.s:Nat):Int))] fE row3 hx Z Z ((H.later hw').ent (i:=2) Z) Z)<|aw Z Z Z Z Z (fun w' hw'=>jR dJ Z ((H.later hw').ent (i:=4) Z) Z)<|HZ (gv:=(fun A c=> .tuple #[.agg #[.slice A (bG (x.es++[{e with epoch:=ep}])).length c,J (iS (x.es++[{e with epoch:=ep}]) x.s:Nat)],J 0])) vP Z Z Z Z Z (fun w' hw'=>hw'.size) (fun w' hw'=>vD (gm.log x) {e with epoch:=ep} w' ((hlg.cons (f:=ey hJ w7.heap.size w8.heap.size Aen x.es)).log (H.later hw') hx (hok2 hx).1) hgd hrm) Z fun A99 c99 hc99=>aw Z Z Z Z Z (fun w' hw'=>Yu Z)<|aw Z Z Z Z Z (fun w' hw'=>Xa Z Z)<|aw Z Z Z Z Z (fun w' hw'=>Xi Z Z)<|yP tO Z Z Z Z Z (fun w' hw'=>hw'.size) fun b18=>aU ?_
 intro w19 hw' hF
 obtain⟨hF,bq,eq,hge18,hbl18⟩:=hF;cases eq
 obtain⟨hF,Aq,cq,eq,hcq,hrw99⟩:=hF;cases eq;clear hcq
 have Hb:=H
 replace H:=H.adoptNew hw' hbl18 hge18
 obtain⟨lo99,hi99,hlo99,H'⟩:=Hb.learnApart H hw'.size hrw99 (vO hbl18);replace H:=H';clear H'
 clear hw' hF
 refine bA H 0 (#[.slice A99 ((bG (x.es++[{e with epoch:=ep}])).length) c99,J (((iS (x.es++[{e with epoch:=ep}]) x.s:Nat):Int))]) kR Z Z Z Z Z N N fun w20 H=>G (Wi Z)<|U<|W<|W<|Zr<|G (Yi Z)<|G (cv Z Z Z)<|U<|ZF Z<|Zk<|W<|Zr<|G (Yp Z)<|G (Zw fE H 0 Z Z Z)<|G (aH Z)<|G (Zf dU Z)<|ni H 3 ({x with A:=A99,cap:=c99,es:=(x.es++[{e with epoch:=ep}]),lo:=lo99,hi:=hi99}) kR row3 hx 1 Z Z Z Z Z Z N fun w22 cur21 row21 H=> ?_
 have hs23:(rs.set l ({x with A:=A99,cap:=c99,es:=(x.es++[{e with epoch:=ep}]),lo:=lo99,hi:=hi99}))[l]? =some ({x with A:=A99,cap:=c99,es:=(x.es++[{e with epoch:=ep}]),lo:=lo99,hi:=hi99}):=al (cy hx).1
 refine U<|W ?_
 have hlg1:=((hlg.cons (f:=ey hJ w7.heap.size w8.heap.size Aen x.es)).cons (f:=ey dP lo99 hi99 A99 (bG (x.es++[{e with epoch:=ep}])))).set l (x:={x with A:=A99,cap:=c99,es:=(x.es++[{e with epoch:=ep}]),lo:=lo99,hi:=hi99}) ⟨hc99,aV hlo hlo99,ie _⟩
 refine Zr<|G (Zw bo H 6 Z Z Z)<|G (Ys Z)<|G (bh eN Z)<|bA H 4 (#[J (ep),J (ld),.slice (Qd g1) isr.length c1,.slice (Qd g2) kn.length c2,.slice (Qd g3) rs.length c3,J (fw),J (bs)]) bl Z Z Z Z Z N N fun w24 H=>G (Wi Z)<|G (Wi Z)<|U<|Zt ?_
 have hlr:(Pa.a ⟨ep,ld,isr,iA,iC,kn,kA,kC,reps,rA,rC,fw,bs⟩).reps[ld.toNat]? =some x.a:=by rw[show ld.toNat=l by omega];exact hxa
 have hS:eu (Pa.a ⟨ep,ld,isr,iA,iC,kn,kA,kC,reps,rA,rC,fw,bs⟩) e=({(Pa.a ⟨ep,ld,isr,iA,iC,kn,kA,kC,reps,rA,rC,fw,bs⟩)with reps:=(reps.map gm.a).set ld.toNat {x.a with es:=(x.es++[{e with epoch:=ep}])}},((x.es.length:Nat):Int),0):=by unfold eu;rw[if_neg (show¬ (Pa.a ⟨ep,ld,isr,iA,iC,kn,kA,kC,reps,rA,rC,fw,bs⟩).leader<0 from by show¬ ld<0;omega),show(Pa.a ⟨ep,ld,isr,iA,iC,kn,kA,kC,reps,rA,rC,fw,bs⟩).leader.toNat=ld.toNat from rfl,hlr];simp[Pa.a,gm.a,h51,h61,h65,<-hma,<-hm2,h91]
 rw[hS]
 exact gM (cs0:= #[J (ep),J (ld),.slice (Qd g1) isr.length c1,.slice (Qd g2) kn.length c2,.slice (Qd g3) rs.length c3,J (fw),J (bs)]) (v1:=J (((x.es.length:Nat):Int))) (v2:=J (0)) Z bo Z (H.ent (i:=4) Z) Z Z Z ⟨_,by simp[Pa.c],by simp[Pa.a,cU,hma,gm.a,show ld.toNat=l by omega],(iJ.mk_ (p:=⟨ep,ld,isr,some ⟨g1,0,none⟩,c1,kn,some ⟨g2,0,none⟩,c2,rs.set l {x with A:=A99,cap:=c99,es:=(x.es++[{e with epoch:=ep}]),lo:=lo99,hi:=hi99},some ⟨g3,0,none⟩,c3,fw,bs⟩) Z Z Z row1 row2 row21 hlg1 (by dsimp only;first|omega|(simp only[ae,bW];omega)) H ⟨by simp,by simp,by simp⟩)⟩
end Go.Proofs.YtclibalpdhhhfaaGreatDoor
