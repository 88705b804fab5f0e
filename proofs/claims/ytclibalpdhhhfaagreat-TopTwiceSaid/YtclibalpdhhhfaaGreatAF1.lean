/- Part 1 of the proofs over this seat: what its theorems say holds for every input that they name. -/
import Derived.Test.YtclibalpdhhhfaaGreatAE0
namespace Go.Proofs.YtclibalpdhhhfaaGreat
open Go Go.Eng Go.RowKit
open Go.Eng renaming m8→U, AG→W, Jj→Zr, M1→Zk, Pm→Zt, OL→Zb, O4→Zx, Pv→Yi, Pw→Yb, Pt→Ys, Pu→Yp, Ps→Yt, Pr→Yu, PK→Wi, PL→Wb, PI→Ws, PJ→Wp, PH→Wt, Pz→Zf, PD→Xi, PF→Xa, PE→Xb, PC→Xs, Pc→Kt, Pd→N, pB→ZT, oq→ZF
open Go.Proofs.Tryz renaming prog→aa
open _root_.List renaming length_set→ab,mem_of_getElem?→ae,getElem?_eq_getElem→ah,mem_cons_of_mem→ak,getElem?_set_self→am,mem_singleton→aq,mem_append→au,mem_cons→ax,length_append→ay,mem_cons_self→az,getElem?_eq_some_iff→aA,append_assoc→aE,length_take→aH,getElem?_map→aL,sublist_cons_self→aV,mem_iff_getElem?→aW,append_nil→aX,findIdx?_eq_some_iff_getElem→bf,map_append→bk,mem_map→bw,mem_or_eq_of_mem_set→bE,length_map→bF,length_replicate→bH,take_length→bJ,mem_map_of_mem→bL,length_singleton→bO,eq_nil_of_length_eq_zero→bS,length_cons→bV,getD_eq_getElem?_getD→bW,mem_append_right→ch,getElem?_append_left→cm,length→cu,getElem?_append_right→cv,map_set→cw,mem_nil_iff→cC,findIdx?_eq_none_iff→dm,take_take→dn,length_drop→dE,getElem?_drop→dI,mem_singleton_self→dW,all_eq_true→d9,drop_of_length_le→ef,map_cons→eF,ext_getElem?→eG,drop_length→fm,getElem?_take_of_lt→fy,take_of_length_le→f5,flatMap_cons→f6,take_append_drop→gG,take_append_of_le_length→hN,mem_append_left→hZ,take_left→i4,drop_drop→jQ,nodup_cons→kE,nil_append→kF,getElem?_set→lh,map_nil→mb,drop_eq_getElem_cons→mI,take_succ_cons→mJ,flatMap_append→mK,length_nil→nH,getElem?_cons_succ→oz,nodup_append→oT,find?_cons_of_neg→oV,take_subset→qi,perm_middle→qj,cons_append→qk,perm_append_singleton→s0,nil_sublist→vr,mem_of_mem_take→yE,set_cons_zero→Be,range→Bf,find?_eq_none→Bg,take_succ_eq_append_getElem→CS
open _root_.List.Perm renaming swap→al
open _root_.Nat renaming le_refl→ao,le_trans→aS,min_eq_left→bu,zero_le→bG,zero_add→cH,add_mul→cP,mul_le_mul_right→dg,le_of_ble_eq_true→fc,mod_eq_of_lt→gN,lt_or_ge→iE,mod_lt→jt,add_assoc→kM,sub_self→l9,le_of_lt→ma,add_sub_cancel_left→oy,two_pow_add_eq_or_of_lt→rX,add_zero→rY,add_comm→rZ,div_lt_of_lt_mul→yC,mul_comm→CR
open _root_.List.Sublist renaming refl→ap
open _root_.Bool renaming and_eq_true→aQ,true_and→gR
open _root_.Option.some renaming inj→bj
open _root_.Array renaming length_toList→ci
open _root_.List.Mem renaming head→fA,tail→qw
open _root_.Int renaming le_refl→iS,toNat_natCast→uc
set_option maxHeartbeats 4000000
set_option maxRecDepth 20000
set_option linter.unusedSimpArgs false
set_option linter.unusedVariables false
set_option linter.unusedSectionVars false
section
open Go Go.Eng
theorem bX:aa.follows .mixedOrders=true:=by kernel_rfl
abbrev cW:TypeId:=3
theorem aj:ph aa 3=true:=by kernel_rfl
theorem bI:(aa.info? 3).map (·.size)=some 1:=by kernel_rfl
theorem ik:oJ aa 3 .i64=true:=by kernel_rfl
theorem v6:(aa.info? 3).bind (·.zero)=some (.int .i64 0):=by kernel_rfl
abbrev jc:TypeId:=4
theorem dP:ph aa 4=true:=by kernel_rfl
theorem iF:(aa.info? 4).map (·.size)=some 1:=by kernel_rfl
theorem wd:aa.underlying 4=some .bool:=by kernel_rfl
abbrev mF:TypeId:=5
theorem mh:ph aa 5=true:=by kernel_rfl
theorem ig:oJ aa 5 .u8=true:=by kernel_rfl
theorem zi:(aa.info? 5).bind (·.zero)=some (.int .u8 0):=by kernel_rfl
abbrev km:TypeId:=9
theorem aY:ph aa 9=true:=by kernel_rfl
theorem zu:(aa.info? 9).map (·.size)=some 1:=by kernel_rfl
theorem ji:wg aa 9=true:=by kernel_rfl
theorem v5:(aa.info? 9).bind (·.zero)=some (.string ⟨#[]⟩):=by kernel_rfl
theorem Cv:oJ aa 21 .i32=true:=by kernel_rfl
theorem Md:dX aa 22 76 4=true:=by kernel_rfl
theorem KK:pi aa 22=true:=by kernel_rfl
abbrev lp:TypeId:=24
theorem pI:lf aa 24 4=true:=by kernel_rfl
theorem Ci:(aa.info? 24).map (·.size)=some 4:=by kernel_rfl
theorem JZ:gT aa 24 [(0,1),(1,1),(2,1),(3,1)]=true:=by kernel_rfl
theorem p6:bZ aa 24 0 0=true:=by kernel_rfl
theorem lx:bZ aa 24 1 1=true:=by kernel_rfl
theorem GZ:bZ aa 24 2 2=true:=by kernel_rfl
theorem AA:bZ aa 24 3 3=true:=by kernel_rfl
theorem CY:(aa.info? 24).bind (·.zero)=some (.agg #[.int .i64 0,.int .i64 0,.int .i64 0,.int .i64 0]):=by kernel_rfl
theorem wl:dX aa 26 72 7=true:=by kernel_rfl
theorem zY:pi aa 26=true:=by kernel_rfl
theorem zb:D8 aa 26 72 7 72=true:=by kernel_rfl
theorem lr:dX aa 28 63 3=true:=by kernel_rfl
theorem yl:pi aa 28=true:=by kernel_rfl
theorem Hg:D8 aa 28 63 3 40=true:=by kernel_rfl
theorem eg:ph aa 29=true:=by kernel_rfl
theorem ui:(aa.info? 29).map (·.size)=some 1:=by kernel_rfl
theorem ic:dX aa 29 47 7=true:=by kernel_rfl
theorem lJ:pi aa 29=true:=by kernel_rfl
theorem xc:D8 aa 29 47 7 104=true:=by kernel_rfl
theorem dJ:ph aa 30=true:=by kernel_rfl
theorem zx:(aa.info? 30).map (·.size)=some 1:=by kernel_rfl
theorem gB:dX aa 30 89 7=true:=by kernel_rfl
theorem kS:pi aa 30=true:=by kernel_rfl
theorem HR:D8 aa 30 89 7 80=true:=by kernel_rfl
abbrev bd:TypeId:=32
theorem av:lf aa 32 4=true:=by kernel_rfl
theorem aF:(aa.info? 32).map (·.size)=some 4:=by kernel_rfl
theorem ft:gT aa 32 [(0,1),(1,1),(2,1),(3,1)]=true:=by kernel_rfl
theorem kb:bZ aa 32 0 0=true:=by kernel_rfl
theorem ka:bZ aa 32 1 1=true:=by kernel_rfl
theorem vN:bZ aa 32 2 2=true:=by kernel_rfl
theorem cO:bZ aa 32 3 3=true:=by kernel_rfl
theorem cJ:(aa.info? 32).bind (·.zero)=some (.agg #[.int .i64 0,.int .i64 0,.int .i64 0,.slice none 0 0]):=by kernel_rfl
theorem dq:ph aa 33=true:=by kernel_rfl
theorem tq:(aa.info? 33).map (·.size)=some 1:=by kernel_rfl
theorem eu:dX aa 33 94 3=true:=by kernel_rfl
theorem gg:pi aa 33=true:=by kernel_rfl
theorem AR:D8 aa 33 94 3 48=true:=by kernel_rfl
abbrev xW:TypeId:=34
theorem eo:ph aa 34=true:=by kernel_rfl
theorem nS:(aa.info? 34).map (·.size)=some 1:=by kernel_rfl
theorem cV:dX aa 34 99 2=true:=by kernel_rfl
theorem g7:pi aa 34=true:=by kernel_rfl
theorem vS:D8 aa 34 99 2 16=true:=by kernel_rfl
abbrev cL:TypeId:=36
theorem aP:lf aa 36 5=true:=by kernel_rfl
theorem bB:(aa.info? 36).map (·.size)=some 5:=by kernel_rfl
theorem jR:gT aa 36 [(0,1),(1,1),(2,1),(3,1),(4,1)]=true:=by kernel_rfl
theorem jq:bZ aa 36 0 0=true:=by kernel_rfl
theorem vM:bZ aa 36 1 1=true:=by kernel_rfl
theorem j9:bZ aa 36 2 2=true:=by kernel_rfl
theorem dH:bZ aa 36 3 3=true:=by kernel_rfl
theorem dS:bZ aa 36 4 4=true:=by kernel_rfl
theorem dZ:(aa.info? 36).bind (·.zero)=some (.agg #[.int .i64 0,.int .i64 0,.int .i64 0,.slice none 0 0,.slice none 0 0]):=by kernel_rfl
theorem jV:ph aa 37=true:=by kernel_rfl
theorem Ey:(aa.info? 37).map (·.size)=some 1:=by kernel_rfl
theorem sa:dX aa 37 140 6=true:=by kernel_rfl
theorem tB:pi aa 37=true:=by kernel_rfl
theorem Hf:D8 aa 37 140 6 88=true:=by kernel_rfl
abbrev nN:TypeId:=39
theorem nC:lf aa 39 11=true:=by kernel_rfl
theorem lE:(aa.info? 39).map (·.size)=some 11:=by kernel_rfl
theorem JY:gT aa 39 [(0,1),(1,4),(5,5),(10,1)]=true:=by kernel_rfl
theorem dG:bZ aa 39 0 0=true:=by kernel_rfl
theorem ey:bZ aa 39 1 1=true:=by kernel_rfl
theorem jp:bZ aa 39 2 5=true:=by kernel_rfl
theorem j8:bZ aa 39 3 10=true:=by kernel_rfl
theorem pb:(aa.info? 39).bind (·.zero)=some (.agg #[.slice none 0 0,.int .i64 0,.int .i64 0,.int .i64 0,.slice none 0 0,.int .i64 0,.int .i64 0,.int .i64 0,.slice none 0 0,.slice none 0 0,.slice none 0 0]):=by kernel_rfl
theorem gD:ph aa 43=true:=by kernel_rfl
theorem Im:(aa.info? 43).map (·.size)=some 1:=by kernel_rfl
theorem d5:dX aa 43 4 1=true:=by kernel_rfl
theorem xA:pi aa 43=true:=by kernel_rfl
theorem LE:D8 aa 43 4 1 1=true:=by kernel_rfl
abbrev xV:TypeId:=44
theorem cn:ph aa 44=true:=by kernel_rfl
theorem jv:(aa.info? 44).map (·.size)=some 1:=by kernel_rfl
theorem aZ:dX aa 44 3 1=true:=by kernel_rfl
theorem eB:pi aa 44=true:=by kernel_rfl
theorem za:D8 aa 44 3 1 8=true:=by kernel_rfl
theorem bT:ph aa 45=true:=by kernel_rfl
theorem Da:(aa.info? 45).map (·.size)=some 1:=by kernel_rfl
theorem bv:dX aa 45 56 4=true:=by kernel_rfl
theorem gW:pi aa 45=true:=by kernel_rfl
theorem FM:D8 aa 45 56 4 48=true:=by kernel_rfl
abbrev bD:TypeId:=47
theorem aG:lf aa 47 7=true:=by kernel_rfl
theorem aK:(aa.info? 47).map (·.size)=some 7:=by kernel_rfl
theorem cK:gT aa 47 [(0,1),(1,1),(2,1),(3,1),(4,1),(5,1),(6,1)]=true:=by kernel_rfl
theorem pH:bZ aa 47 0 0=true:=by kernel_rfl
theorem dp:bZ aa 47 1 1=true:=by kernel_rfl
theorem fX:bZ aa 47 2 2=true:=by kernel_rfl
theorem fW:bZ aa 47 3 3=true:=by kernel_rfl
theorem cS:bZ aa 47 4 4=true:=by kernel_rfl
theorem xL:bZ aa 47 5 5=true:=by kernel_rfl
theorem uA:bZ aa 47 6 6=true:=by kernel_rfl
theorem bp:(aa.info? 47).bind (·.zero)=some (.agg #[.int .i64 0,.int .i64 0,.slice none 0 0,.slice none 0 0,.slice none 0 0,.int .i64 0,.int .i64 0]):=by kernel_rfl
theorem m4:ph aa 48=true:=by kernel_rfl
theorem dR:dX aa 48 59 7=true:=by kernel_rfl
theorem ex:pi aa 48=true:=by kernel_rfl
theorem Ju:D8 aa 48 59 7 64=true:=by kernel_rfl
theorem Cp:ph aa 49=true:=by kernel_rfl
theorem d3:ph aa 52=true:=by kernel_rfl
theorem Cj:(aa.info? 52).map (·.size)=some 1:=by kernel_rfl
theorem d4:dX aa 52 5 1=true:=by kernel_rfl
theorem eJ:pi aa 52=true:=by kernel_rfl
theorem ov:D8 aa 52 5 1 1=true:=by kernel_rfl
theorem CZ:(aa.info? 52).bind (·.zero)=some (.slice none 0 0):=by kernel_rfl
abbrev AY:TypeId:=54
theorem eP:lf aa 54 2=true:=by kernel_rfl
theorem i6:(aa.info? 54).map (·.size)=some 2:=by kernel_rfl
theorem tp:gT aa 54 [(0,1),(1,1)]=true:=by kernel_rfl
theorem gm:bZ aa 54 0 0=true:=by kernel_rfl
theorem kW:bZ aa 54 1 1=true:=by kernel_rfl
theorem pJ:(aa.info? 54).bind (·.zero)=some (.agg #[.slice none 0 0,.int .i64 0]):=by kernel_rfl
abbrev fK:TypeId:=56
theorem ow:lf aa 56 4=true:=by kernel_rfl
theorem lF:(aa.info? 56).map (·.size)=some 4:=by kernel_rfl
theorem F6:gT aa 56 [(0,1),(1,2),(3,1)]=true:=by kernel_rfl
theorem fo:bZ aa 56 0 0=true:=by kernel_rfl
theorem dw:bZ aa 56 1 1=true:=by kernel_rfl
theorem dU:bZ aa 56 2 3=true:=by kernel_rfl
theorem pG:(aa.info? 56).bind (·.zero)=some (.agg #[.bool false,.slice none 0 0,.int .i64 0,.int .i64 0]):=by kernel_rfl
abbrev dt:TypeId:=59
theorem dD:lf aa 59 7=true:=by kernel_rfl
theorem eQ:(aa.info? 59).map (·.size)=some 7:=by kernel_rfl
theorem nR:gT aa 59 [(0,1),(1,1),(2,1),(3,1),(4,1),(5,1),(6,1)]=true:=by kernel_rfl
theorem nt:bZ aa 59 0 0=true:=by kernel_rfl
theorem fe:bZ aa 59 1 1=true:=by kernel_rfl
theorem ez:bZ aa 59 2 2=true:=by kernel_rfl
theorem eY:bZ aa 59 3 3=true:=by kernel_rfl
theorem eX:bZ aa 59 4 4=true:=by kernel_rfl
theorem iW:bZ aa 59 5 5=true:=by kernel_rfl
theorem p7:bZ aa 59 6 6=true:=by kernel_rfl
theorem f7:(aa.info? 59).bind (·.zero)=some (.agg #[.int .i64 0,.int .i64 0,.int .i64 0,.int .i64 0,.int .i64 0,.bool false,.string ⟨#[]⟩]):=by kernel_rfl
abbrev lS:TypeId:=61
theorem gZ:ph aa 61=true:=by kernel_rfl
theorem Ex:(aa.info? 61).map (·.size)=some 1:=by kernel_rfl
theorem fT:dX aa 61 9 1=true:=by kernel_rfl
theorem iM:pi aa 61=true:=by kernel_rfl
theorem vR:D8 aa 61 9 1 16=true:=by kernel_rfl
abbrev d8:TypeId:=63
theorem aM:lf aa 63 3=true:=by kernel_rfl
theorem aO:(aa.info? 63).map (·.size)=some 3:=by kernel_rfl
theorem iz:gT aa 63 [(0,1),(1,1),(2,1)]=true:=by kernel_rfl
theorem yw:bZ aa 63 0 0=true:=by kernel_rfl
theorem yv:bZ aa 63 1 1=true:=by kernel_rfl
theorem qG:bZ aa 63 2 2=true:=by kernel_rfl
theorem dk:(aa.info? 63).bind (·.zero)=some (.agg #[.int .i64 0,.int .i64 0,.slice none 0 0]):=by kernel_rfl
abbrev fZ:TypeId:=72
theorem dN:lf aa 72 7=true:=by kernel_rfl
theorem iG:(aa.info? 72).map (·.size)=some 7:=by kernel_rfl
theorem jj:gT aa 72 [(0,1),(1,1),(2,1),(3,1),(4,1),(5,1),(6,1)]=true:=by kernel_rfl
theorem mw:bZ aa 72 0 0=true:=by kernel_rfl
theorem eZ:bZ aa 72 1 1=true:=by kernel_rfl
theorem dQ:bZ aa 72 2 2=true:=by kernel_rfl
theorem eN:bZ aa 72 3 3=true:=by kernel_rfl
theorem Fy:bZ aa 72 4 4=true:=by kernel_rfl
theorem AB:bZ aa 72 5 5=true:=by kernel_rfl
theorem jy:bZ aa 72 6 6=true:=by kernel_rfl
theorem ju:(aa.info? 72).bind (·.zero)=some (.agg #[.int .i64 0,.string ⟨#[]⟩,.int .i64 0,.int .i64 0,.int .i64 0,.string ⟨#[]⟩,.int .i64 0]):=by kernel_rfl
abbrev vo:TypeId:=76
theorem Nb:lf aa 76 4=true:=by kernel_rfl
theorem Me:(aa.info? 76).map (·.size)=some 4:=by kernel_rfl
theorem K7:bZ aa 76 0 0=true:=by kernel_rfl
theorem mu:bZ aa 76 1 1=true:=by kernel_rfl
theorem K6:bZ aa 76 2 2=true:=by kernel_rfl
theorem kV:bZ aa 76 3 3=true:=by kernel_rfl
theorem Ov:(aa.info? 76).bind (·.zero)=some (.agg #[.int .i64 0,.int .i64 0,.int .i64 0,.int .i64 0]):=by kernel_rfl
abbrev dB:TypeId:=89
theorem zc:lf aa 89 7=true:=by kernel_rfl
theorem Hq:(aa.info? 89).map (·.size)=some 7:=by kernel_rfl
theorem NF:gT aa 89 [(0,1),(1,1),(2,1),(3,1),(4,1),(5,1),(6,1)]=true:=by kernel_rfl
theorem oe:bZ aa 89 0 0=true:=by kernel_rfl
theorem kU:bZ aa 89 1 1=true:=by kernel_rfl
theorem gk:bZ aa 89 2 2=true:=by kernel_rfl
theorem cQ:bZ aa 89 3 3=true:=by kernel_rfl
theorem dv:bZ aa 89 4 4=true:=by kernel_rfl
theorem tR:bZ aa 89 5 5=true:=by kernel_rfl
theorem jb:bZ aa 89 6 6=true:=by kernel_rfl
theorem Hk:(aa.info? 89).bind (·.zero)=some (.agg #[.string ⟨#[]⟩,.int .i64 0,.int .i64 0,.int .i64 0,.slice none 0 0,.int .i64 0,.int .i64 0]):=by kernel_rfl
abbrev db:TypeId:=94
theorem nD:lf aa 94 3=true:=by kernel_rfl
theorem sd:(aa.info? 94).map (·.size)=some 3:=by kernel_rfl
theorem Ik:gT aa 94 [(0,1),(1,1),(2,1)]=true:=by kernel_rfl
theorem om:bZ aa 94 0 0=true:=by kernel_rfl
theorem qF:bZ aa 94 1 1=true:=by kernel_rfl
theorem iP:bZ aa 94 2 2=true:=by kernel_rfl
theorem tj:(aa.info? 94).bind (·.zero)=some (.agg #[.string ⟨#[]⟩,.int .i64 0,.slice none 0 0]):=by kernel_rfl
abbrev d7:TypeId:=99
theorem AT:lf aa 99 2=true:=by kernel_rfl
theorem zw:(aa.info? 99).map (·.size)=some 2:=by kernel_rfl
theorem uh:gT aa 99 [(0,1),(1,1)]=true:=by kernel_rfl
theorem je:bZ aa 99 0 0=true:=by kernel_rfl
theorem ol:bZ aa 99 1 1=true:=by kernel_rfl
theorem kP:(aa.info? 99).bind (·.zero)=some (.agg #[.int .i64 0,.int .i64 0]):=by kernel_rfl
abbrev bK:TypeId:=104
theorem Ij:gT aa 104 [(0,11)]=true:=by kernel_rfl
theorem aU:bZ aa 104 0 0=true:=by kernel_rfl
theorem JI:(aa.info? 104).bind (·.zero)=some (.agg #[.slice none 0 0,.int .i64 0,.int .i64 0,.int .i64 0,.slice none 0 0,.int .i64 0,.int .i64 0,.int .i64 0,.slice none 0 0,.slice none 0 0,.slice none 0 0]):=by kernel_rfl
theorem E7:oJ aa 108 .u64=true:=by kernel_rfl
abbrev ua:TypeId:=127
theorem Ih:gT aa 127 [(0,1),(1,1)]=true:=by kernel_rfl
theorem lP:bZ aa 127 0 0=true:=by kernel_rfl
theorem j7:bZ aa 127 1 1=true:=by kernel_rfl
theorem JH:(aa.info? 127).bind (·.zero)=some (.agg #[.slice none 0 0,.bool false]):=by kernel_rfl
theorem iJ:Gj aa 137=true:=by kernel_rfl
abbrev fu:TypeId:=140
theorem zv:(aa.info? 140).map (·.size)=some 6:=by kernel_rfl
theorem xq:gT aa 140 [(0,1),(1,1),(2,1),(3,1),(4,1),(5,1)]=true:=by kernel_rfl
theorem oh:bZ aa 140 0 0=true:=by kernel_rfl
theorem Fx:bZ aa 140 1 1=true:=by kernel_rfl
theorem tS:bZ aa 140 2 2=true:=by kernel_rfl
theorem og:bZ aa 140 3 3=true:=by kernel_rfl
theorem yu:bZ aa 140 4 4=true:=by kernel_rfl
theorem lQ:bZ aa 140 5 5=true:=by kernel_rfl
theorem v7:(aa.info? 140).bind (·.zero)=some (.agg #[.string ⟨#[]⟩,.int .i64 0,.int .i64 0,.bool false,.slice none 0 0,.slice none 0 0]):=by kernel_rfl
abbrev FP:TypeId:=187
theorem nI:Gj aa 187=true:=by kernel_rfl
theorem qx:(aa.info? 187).bind (·.zero)=some (.pointer none):=by kernel_rfl
abbrev lD:TypeId:=191
theorem ya:gT aa 191 [(0,1),(1,1),(2,1),(3,1)]=true:=by kernel_rfl
theorem jD:bZ aa 191 0 0=true:=by kernel_rfl
theorem fi:bZ aa 191 1 1=true:=by kernel_rfl
theorem dY:bZ aa 191 2 2=true:=by kernel_rfl
theorem g9:bZ aa 191 3 3=true:=by kernel_rfl
theorem zh:(aa.info? 191).bind (·.zero)=some (.agg #[.int .i64 0,.int .i64 0,.int .i64 0,.int .i64 0]):=by kernel_rfl
theorem wk:dX aa 199 44 1=true:=by kernel_rfl
theorem IS:pi aa 199=true:=by kernel_rfl
theorem rB:dX aa 209 52 1=true:=by kernel_rfl
theorem zX:pi aa 209=true:=by kernel_rfl
abbrev sk:FuncId:=4
theorem rL:aa.funcs[(4:Nat)]? =some Tryz.f4:=Tryz.func4
abbrev nZ:FuncId:=9
theorem tb:aa.funcs[(9:Nat)]? =some Tryz.f9:=Tryz.func9
theorem td:bh aa 9=true:=by kernel_rfl
abbrev uJ:FuncId:=10
theorem tM:aa.funcs[(10:Nat)]? =some Tryz.f10:=Tryz.func10
theorem t0:bh aa 10=true:=by kernel_rfl
abbrev wz:FuncId:=11
theorem vJ:aa.funcs[(11:Nat)]? =some Tryz.f11:=Tryz.func11
theorem qa:bh aa 11=true:=by kernel_rfl
abbrev u6:FuncId:=13
theorem As:aa.funcs[(13:Nat)]? =some Tryz.f13:=Tryz.func13
theorem gu:bh aa 13=true:=by kernel_rfl
abbrev n7:FuncId:=15
theorem nf:aa.funcs[(15:Nat)]? =some Tryz.f15:=Tryz.func15
theorem nw:bh aa 15=true:=by kernel_rfl
abbrev Du:FuncId:=17
theorem BH:aa.funcs[(17:Nat)]? =some Tryz.f17:=Tryz.func17
theorem k9:bh aa 17=true:=by kernel_rfl
abbrev Bz:FuncId:=18
theorem Av:aa.funcs[(18:Nat)]? =some Tryz.f18:=Tryz.func18
theorem kh:bh aa 18=true:=by kernel_rfl
abbrev By:FuncId:=19
theorem Au:aa.funcs[(19:Nat)]? =some Tryz.f19:=Tryz.func19
theorem t5:bh aa 19=true:=by kernel_rfl
abbrev s7:FuncId:=20
theorem sv:aa.funcs[(20:Nat)]? =some Tryz.f20:=Tryz.func20
theorem aJ:bh aa 20=true:=by kernel_rfl
abbrev uI:FuncId:=21
theorem tL:aa.funcs[(21:Nat)]? =some Tryz.f21:=Tryz.func21
theorem tZ:bh aa 21=true:=by kernel_rfl
abbrev uH:FuncId:=22
theorem tK:aa.funcs[(22:Nat)]? =some Tryz.f22:=Tryz.func22
theorem tY:bh aa 22=true:=by kernel_rfl
abbrev DA:FuncId:=23
theorem BP:aa.funcs[(23:Nat)]? =some Tryz.f23:=Tryz.func23
theorem BZ:bh aa 23=true:=by kernel_rfl
abbrev yq:FuncId:=25
theorem DG:aa.funcs[(25:Nat)]? =some Tryz.f25:=Tryz.func25
theorem mz:bh aa 25=true:=by kernel_rfl
abbrev Bu:FuncId:=26
theorem Ao:aa.funcs[(26:Nat)]? =some Tryz.f26:=Tryz.func26
theorem kf:bh aa 26=true:=by kernel_rfl
abbrev oM:FuncId:=27
theorem od:aa.funcs[(27:Nat)]? =some Tryz.f27:=Tryz.func27
theorem jg:bh aa 27=true:=by kernel_rfl
abbrev Fb:FuncId:=28
theorem DH:aa.funcs[(28:Nat)]? =some Tryz.f28:=Tryz.func28
theorem js:bh aa 28=true:=by kernel_rfl
abbrev Af:FuncId:=29
theorem yN:aa.funcs[(29:Nat)]? =some Tryz.f29:=Tryz.func29
theorem sV:bh aa 29=true:=by kernel_rfl
abbrev Fh:FuncId:=30
theorem DN:aa.funcs[(30:Nat)]? =some Tryz.f30:=Tryz.func30
theorem D2:bh aa 30=true:=by kernel_rfl
abbrev na:FuncId:=31
theorem mO:aa.funcs[(31:Nat)]? =some Tryz.f31:=Tryz.func31
theorem mQ:bh aa 31=true:=by kernel_rfl
abbrev rJ:FuncId:=32
theorem wL:aa.funcs[(32:Nat)]? =some Tryz.f32:=Tryz.func32
theorem wW:bh aa 32=true:=by kernel_rfl
abbrev Dv:FuncId:=33
theorem BI:aa.funcs[(33:Nat)]? =some Tryz.f33:=Tryz.func33
theorem vi:bh aa 33=true:=by kernel_rfl
abbrev kJ:FuncId:=34
theorem ks:aa.funcs[(34:Nat)]? =some Tryz.f34:=Tryz.func34
theorem kw:bh aa 34=true:=by kernel_rfl
abbrev rI:FuncId:=35
theorem wK:aa.funcs[(35:Nat)]? =some Tryz.f35:=Tryz.func35
theorem wU:bh aa 35=true:=by kernel_rfl
abbrev Ai:FuncId:=36
theorem yP:aa.funcs[(36:Nat)]? =some Tryz.f36:=Tryz.func36
theorem yX:bh aa 36=true:=by kernel_rfl
abbrev uK:FuncId:=37
theorem tP:aa.funcs[(37:Nat)]? =some Tryz.f37:=Tryz.func37
theorem t6:bh aa 37=true:=by kernel_rfl
abbrev jd:FuncId:=38
theorem ng:aa.funcs[(38:Nat)]? =some Tryz.f38:=Tryz.func38
theorem ny:bh aa 38=true:=by kernel_rfl
abbrev GP:FuncId:=39
theorem Fp:aa.funcs[(39:Nat)]? =some Tryz.f39:=Tryz.func39
theorem yx:bh aa 39=true:=by kernel_rfl
abbrev E8:FuncId:=40
theorem DD:aa.funcs[(40:Nat)]? =some Tryz.f40:=Tryz.func40
theorem DV:bh aa 40=true:=by kernel_rfl
abbrev qo:FuncId:=41
theorem pV:aa.funcs[(41:Nat)]? =some Tryz.f41:=Tryz.func41
theorem qb:bh aa 41=true:=by kernel_rfl
abbrev Dz:FuncId:=42
theorem BM:aa.funcs[(42:Nat)]? =some Tryz.f42:=Tryz.func42
theorem ru:bh aa 42=true:=by kernel_rfl
abbrev pj:FuncId:=43
theorem oN:aa.funcs[(43:Nat)]? =some Tryz.f43:=Tryz.func43
theorem dA:bh aa 43=true:=by kernel_rfl
abbrev mn:FuncId:=44
theorem lZ:aa.funcs[(44:Nat)]? =some Tryz.f44:=Tryz.func44
theorem ir:bh aa 44=true:=by kernel_rfl
abbrev sT:FuncId:=45
theorem xE:aa.funcs[(45:Nat)]? =some Tryz.f45:=Tryz.func45
theorem xO:bh aa 45=true:=by kernel_rfl
abbrev lX:FuncId:=46
theorem lw:aa.funcs[(46:Nat)]? =some Tryz.f46:=Tryz.func46
theorem di:bh aa 46=true:=by kernel_rfl
abbrev GR:FuncId:=47
theorem Fs:aa.funcs[(47:Nat)]? =some Tryz.f47:=Tryz.func47
theorem FK:bh aa 47=true:=by kernel_rfl
abbrev Fi:FuncId:=48
theorem DO:aa.funcs[(48:Nat)]? =some Tryz.f48:=Tryz.func48
theorem D3:bh aa 48=true:=by kernel_rfl
abbrev Fg:FuncId:=49
theorem DM:aa.funcs[(49:Nat)]? =some Tryz.f49:=Tryz.func49
theorem D1:bh aa 49=true:=by kernel_rfl
abbrev yr:FuncId:=50
theorem DL:aa.funcs[(50:Nat)]? =some Tryz.f50:=Tryz.func50
theorem mB:bh aa 50=true:=by kernel_rfl
abbrev jZ:FuncId:=51
theorem mV:aa.funcs[(51:Nat)]? =some Tryz.f51:=Tryz.func51
theorem te:bh aa 51=true:=by kernel_rfl
abbrev jG:FuncId:=52
theorem mr:aa.funcs[(52:Nat)]? =some Tryz.f52:=Tryz.func52
theorem sJ:bh aa 52=true:=by kernel_rfl
abbrev iO:FuncId:=53
theorem jH:aa.funcs[(53:Nat)]? =some Tryz.f53:=Tryz.func53
theorem mX:bh aa 53=true:=by kernel_rfl
abbrev jo:FuncId:=54
theorem lO:aa.funcs[(54:Nat)]? =some Tryz.f54:=Tryz.func54
theorem lR:bh aa 54=true:=by kernel_rfl
abbrev jY:FuncId:=55
theorem mU:aa.funcs[(55:Nat)]? =some Tryz.f55:=Tryz.func55
theorem mY:bh aa 55=true:=by kernel_rfl
abbrev ob:FuncId:=56
theorem tc:aa.funcs[(56:Nat)]? =some Tryz.f56:=Tryz.func56
theorem mW:bh aa 56=true:=by kernel_rfl
abbrev kT:FuncId:=57
theorem qu:aa.funcs[(57:Nat)]? =some Tryz.f57:=Tryz.func57
theorem fS:bh aa 57=true:=by kernel_rfl
abbrev lM:FuncId:=58
theorem ro:aa.funcs[(58:Nat)]? =some Tryz.f58:=Tryz.func58
theorem dL:bh aa 58=true:=by kernel_rfl
abbrev gi:FuncId:=59
theorem im:aa.funcs[(59:Nat)]? =some Tryz.f59:=Tryz.func59
theorem ed:bh aa 59=true:=by kernel_rfl
abbrev xD:FuncId:=60
theorem wM:aa.funcs[(60:Nat)]? =some Tryz.f60:=Tryz.func60
theorem bN:bh aa 60=true:=by kernel_rfl
abbrev tH:FuncId:=61
theorem ta:aa.funcs[(61:Nat)]? =some Tryz.f61:=Tryz.func61
theorem io:bh aa 61=true:=by kernel_rfl
abbrev Dp:FuncId:=62
theorem BB:aa.funcs[(62:Nat)]? =some Tryz.f62:=Tryz.func62
theorem rq:bh aa 62=true:=by kernel_rfl
abbrev sU:FuncId:=63
theorem xI:aa.funcs[(63:Nat)]? =some Tryz.f63:=Tryz.func63
theorem xQ:bh aa 63=true:=by kernel_rfl
abbrev n6:FuncId:=64
theorem nc:aa.funcs[(64:Nat)]? =some Tryz.f64:=Tryz.func64
theorem nv:bh aa 64=true:=by kernel_rfl
abbrev qp:FuncId:=65
theorem pX:aa.funcs[(65:Nat)]? =some Tryz.f65:=Tryz.func65
theorem qc:bh aa 65=true:=by kernel_rfl
abbrev lK:FuncId:=66
theorem rf:aa.funcs[(66:Nat)]? =some Tryz.f66:=Tryz.func66
theorem f8:bh aa 66=true:=by kernel_rfl
abbrev mM:FuncId:=67
theorem mq:aa.funcs[(67:Nat)]? =some Tryz.f67:=Tryz.func67
theorem my:bh aa 67=true:=by kernel_rfl
abbrev kB:FuncId:=68
theorem pW:aa.funcs[(68:Nat)]? =some Tryz.f68:=Tryz.func68
theorem fa:bh aa 68=true:=by kernel_rfl
abbrev mo:FuncId:=69
theorem nK:aa.funcs[(69:Nat)]? =some Tryz.f69:=Tryz.func69
theorem nM:bh aa 69=true:=by kernel_rfl
abbrev jn:FuncId:=70
theorem lN:aa.funcs[(70:Nat)]? =some Tryz.f70:=Tryz.func70
theorem dx:bh aa 70=true:=by kernel_rfl
abbrev s9:FuncId:=71
theorem sy:aa.funcs[(71:Nat)]? =some Tryz.f71:=Tryz.func71
theorem dV:bh aa 71=true:=by kernel_rfl
abbrev u7:FuncId:=72
theorem Aw:aa.funcs[(72:Nat)]? =some Tryz.f72:=Tryz.func72
theorem ki:bh aa 72=true:=by kernel_rfl
abbrev rK:FuncId:=73
theorem rp:aa.funcs[(73:Nat)]? =some Tryz.f73:=Tryz.func73
theorem la:bh aa 73=true:=by kernel_rfl
abbrev lL:FuncId:=74
theorem px:aa.funcs[(74:Nat)]? =some Tryz.f74:=Tryz.func74
theorem wV:bh aa 74=true:=by kernel_rfl
abbrev wD:FuncId:=75
theorem BN:aa.funcs[(75:Nat)]? =some Tryz.f75:=Tryz.func75
theorem vm:bh aa 75=true:=by kernel_rfl
abbrev GQ:FuncId:=76
theorem Fr:aa.funcs[(76:Nat)]? =some Tryz.f76:=Tryz.func76
theorem qL:bh aa 76=true:=by kernel_rfl
abbrev wE:FuncId:=77
theorem BO:aa.funcs[(77:Nat)]? =some Tryz.f77:=Tryz.func77
theorem BY:bh aa 77=true:=by kernel_rfl
abbrev sr:FuncId:=78
theorem vd:aa.funcs[(78:Nat)]? =some Tryz.f78:=Tryz.func78
theorem vk:bh aa 78=true:=by kernel_rfl
abbrev Dx:FuncId:=79
theorem BK:aa.funcs[(79:Nat)]? =some Tryz.f79:=Tryz.func79
theorem vj:bh aa 79=true:=by kernel_rfl
abbrev Dr:FuncId:=80
theorem BE:aa.funcs[(80:Nat)]? =some Tryz.f80:=Tryz.func80
theorem BT:bh aa 80=true:=by kernel_rfl
abbrev Fe:FuncId:=81
theorem DJ:aa.funcs[(81:Nat)]? =some Tryz.f81:=Tryz.func81
theorem DZ:bh aa 81=true:=by kernel_rfl
abbrev Dt:FuncId:=82
theorem BG:aa.funcs[(82:Nat)]? =some Tryz.f82:=Tryz.func82
theorem BV:bh aa 82=true:=by kernel_rfl
abbrev Ff:FuncId:=83
theorem DK:aa.funcs[(83:Nat)]? =some Tryz.f83:=Tryz.func83
theorem D0:bh aa 83=true:=by kernel_rfl
abbrev Fd:FuncId:=84
theorem DI:aa.funcs[(84:Nat)]? =some Tryz.f84:=Tryz.func84
theorem DY:bh aa 84=true:=by kernel_rfl
abbrev Ds:FuncId:=85
theorem BF:aa.funcs[(85:Nat)]? =some Tryz.f85:=Tryz.func85
theorem BU:bh aa 85=true:=by kernel_rfl
abbrev qZ:FuncId:=86
theorem tN:aa.funcs[(86:Nat)]? =some Tryz.f86:=Tryz.func86
theorem AK:bh aa 86=true:=by kernel_rfl
abbrev ra:FuncId:=87
theorem tO:aa.funcs[(87:Nat)]? =some Tryz.f87:=Tryz.func87
theorem AL:bh aa 87=true:=by kernel_rfl
abbrev pn:FuncId:=88
theorem rj:aa.funcs[(88:Nat)]? =some Tryz.f88:=Tryz.func88
theorem BW:bh aa 88=true:=by kernel_rfl
abbrev pp:FuncId:=90
theorem rm:aa.funcs[(90:Nat)]? =some Tryz.f90:=Tryz.func90
theorem BX:bh aa 90=true:=by kernel_rfl
abbrev jC:FuncId:=91
theorem j5:aa.funcs[(91:Nat)]? =some Tryz.f91:=Tryz.func91
theorem AM:bh aa 91=true:=by kernel_rfl
abbrev nJ:FuncId:=92
theorem pY:aa.funcs[(92:Nat)]? =some Tryz.f92:=Tryz.func92
theorem mD:bh aa 92=true:=by kernel_rfl
abbrev tI:FuncId:=93
theorem sx:aa.funcs[(93:Nat)]? =some Tryz.f93:=Tryz.func93
theorem sI:bh aa 93=true:=by kernel_rfl
abbrev wC:FuncId:=94
theorem vc:aa.funcs[(94:Nat)]? =some Tryz.f94:=Tryz.func94
theorem hM:bh aa 94=true:=by kernel_rfl
abbrev oa:FuncId:=95
theorem py:aa.funcs[(95:Nat)]? =some Tryz.f95:=Tryz.func95
theorem wX:bh aa 95=true:=by kernel_rfl
abbrev rb:FuncId:=96
theorem pZ:aa.funcs[(96:Nat)]? =some Tryz.f96:=Tryz.func96
theorem gw:bh aa 96=true:=by kernel_rfl
abbrev Dq:FuncId:=97
theorem BC:aa.funcs[(97:Nat)]? =some Tryz.f97:=Tryz.func97
theorem BS:bh aa 97=true:=by kernel_rfl
abbrev wA:FuncId:=98
theorem BD:aa.funcs[(98:Nat)]? =some Tryz.f98:=Tryz.func98
theorem vh:bh aa 98=true:=by kernel_rfl
abbrev nb:FuncId:=99
theorem mP:aa.funcs[(99:Nat)]? =some Tryz.f99:=Tryz.func99
theorem d6:bh aa 99=true:=by kernel_rfl
abbrev qY:FuncId:=100
theorem qt:aa.funcs[(100:Nat)]? =some Tryz.f100:=Tryz.func100
theorem kD:bh aa 100=true:=by kernel_rfl
abbrev wF:FuncId:=101
theorem ve:aa.funcs[(101:Nat)]? =some Tryz.f101:=Tryz.func101
theorem iY:bh aa 101=true:=by kernel_rfl
abbrev yI:FuncId:=102
theorem xG:aa.funcs[(102:Nat)]? =some Tryz.f102:=Tryz.func102
theorem kz:bh aa 102=true:=by kernel_rfl
abbrev Dy:FuncId:=103
theorem BL:aa.funcs[(103:Nat)]? =some Tryz.f103:=Tryz.func103
theorem nL:bh aa 103=true:=by kernel_rfl
abbrev fq:FuncId:=104
theorem g8:aa.funcs[(104:Nat)]? =some Tryz.f104:=Tryz.func104
theorem kY:bh aa 104=true:=by kernel_rfl
abbrev yJ:FuncId:=105
theorem xH:aa.funcs[(105:Nat)]? =some Tryz.f105:=Tryz.func105
theorem xP:bh aa 105=true:=by kernel_rfl
abbrev xC:FuncId:=106
theorem wJ:aa.funcs[(106:Nat)]? =some Tryz.f106:=Tryz.func106
theorem qM:bh aa 106=true:=by kernel_rfl
abbrev I2:FuncId:=107
theorem GV:aa.funcs[(107:Nat)]? =some Tryz.f107:=Tryz.func107
theorem kg:bh aa 107=true:=by kernel_rfl
abbrev Cy:FuncId:=108
theorem GU:aa.funcs[(108:Nat)]? =some Tryz.f108:=Tryz.func108
theorem G6:bh aa 108=true:=by kernel_rfl
abbrev Ad:FuncId:=109
theorem yL:aa.funcs[(109:Nat)]? =some Tryz.f109:=Tryz.func109
theorem lk:bh aa 109=true:=by kernel_rfl
abbrev Ab:FuncId:=110
theorem Fq:aa.funcs[(110:Nat)]? =some Tryz.f110:=Tryz.func110
theorem FJ:bh aa 110=true:=by kernel_rfl
abbrev Fa:FuncId:=111
theorem DF:aa.funcs[(111:Nat)]? =some Tryz.f111:=Tryz.func111
theorem DX:bh aa 111=true:=by kernel_rfl
abbrev Ac:FuncId:=112
theorem yt:aa.funcs[(112:Nat)]? =some Tryz.f112:=Tryz.func112
theorem qK:bh aa 112=true:=by kernel_rfl
abbrev Dw:FuncId:=113
theorem BJ:aa.funcs[(113:Nat)]? =some Tryz.f113:=Tryz.func113
theorem gb:bh aa 113=true:=by kernel_rfl
abbrev sm:FuncId:=115
theorem rh:aa.funcs[(115:Nat)]? =some Tryz.f115:=Tryz.func115
theorem hJ:bh aa 115=true:=by kernel_rfl
abbrev pS:FuncId:=116
theorem pr:aa.funcs[(116:Nat)]? =some Tryz.f116:=Tryz.func116
theorem fv:bh aa 116=true:=by kernel_rfl
abbrev m9:FuncId:=117
theorem mN:aa.funcs[(117:Nat)]? =some Tryz.f117:=Tryz.func117
theorem eU:bh aa 117=true:=by kernel_rfl
abbrev yp:FuncId:=118
theorem wI:aa.funcs[(118:Nat)]? =some Tryz.f118:=Tryz.func118
theorem wT:bh aa 118=true:=by kernel_rfl
abbrev gI:FuncId:=119
theorem xJ:aa.funcs[(119:Nat)]? =some Tryz.f119:=Tryz.func119
theorem ib:bh aa 119=true:=by kernel_rfl
abbrev qW:FuncId:=120
theorem qq:aa.funcs[(120:Nat)]? =some Tryz.f120:=Tryz.func120
theorem iw:bh aa 120=true:=by kernel_rfl
abbrev Bv:FuncId:=121
theorem Ap:aa.funcs[(121:Nat)]? =some Tryz.f121:=Tryz.func121
theorem tW:bh aa 121=true:=by kernel_rfl
abbrev Bt:FuncId:=122
theorem Am:aa.funcs[(122:Nat)]? =some Tryz.f122:=Tryz.func122
theorem tV:bh aa 122=true:=by kernel_rfl
abbrev pT:FuncId:=123
theorem pw:aa.funcs[(123:Nat)]? =some Tryz.f123:=Tryz.func123
theorem fx:bh aa 123=true:=by kernel_rfl
abbrev Ah:FuncId:=124
theorem yO:aa.funcs[(124:Nat)]? =some Tryz.f124:=Tryz.func124
theorem yW:bh aa 124=true:=by kernel_rfl
abbrev vI:FuncId:=125
theorem uL:aa.funcs[(125:Nat)]? =some Tryz.f125:=Tryz.func125
theorem uN:bh aa 125=true:=by kernel_rfl
abbrev rH:FuncId:=126
theorem rg:aa.funcs[(126:Nat)]? =some Tryz.f126:=Tryz.func126
theorem kZ:bh aa 126=true:=by kernel_rfl
abbrev n9:FuncId:=127
theorem ni:aa.funcs[(127:Nat)]? =some Tryz.f127:=Tryz.func127
theorem nA:bh aa 127=true:=by kernel_rfl
abbrev n8:FuncId:=128
theorem nh:aa.funcs[(128:Nat)]? =some Tryz.f128:=Tryz.func128
theorem nz:bh aa 128=true:=by kernel_rfl
abbrev Ae:FuncId:=129
theorem yM:aa.funcs[(129:Nat)]? =some Tryz.f129:=Tryz.func129
theorem yV:bh aa 129=true:=by kernel_rfl
abbrev li:FuncId:=130
theorem xF:aa.funcs[(130:Nat)]? =some Tryz.f130:=Tryz.func130
theorem nB:bh aa 130=true:=by kernel_rfl
abbrev rG:FuncId:=131
theorem re:aa.funcs[(131:Nat)]? =some Tryz.f131:=Tryz.func131
theorem rt:bh aa 131=true:=by kernel_rfl
abbrev oK:FuncId:=132
abbrev Bx:FuncId:=134
theorem Ar:aa.funcs[(134:Nat)]? =some Tryz.f134:=Tryz.func134
theorem tX:bh aa 134=true:=by kernel_rfl
abbrev E9:FuncId:=135
theorem DE:aa.funcs[(135:Nat)]? =some Tryz.f135:=Tryz.func135
theorem DW:bh aa 135=true:=by kernel_rfl
abbrev s8:FuncId:=136
abbrev Bs:FuncId:=138
theorem Al:aa.funcs[(138:Nat)]? =some Tryz.f138:=Tryz.func138
theorem AJ:bh aa 138=true:=by kernel_rfl
abbrev qX:FuncId:=139
theorem qr:aa.funcs[(139:Nat)]? =some Tryz.f139:=Tryz.func139
theorem qv:bh aa 139=true:=by kernel_rfl
abbrev yK:FuncId:=140
theorem xK:aa.funcs[(140:Nat)]? =some Tryz.f140:=Tryz.func140
theorem xR:bh aa 140=true:=by kernel_rfl
abbrev ml:FuncId:=141
theorem lY:aa.funcs[(141:Nat)]? =some Tryz.f141:=Tryz.func141
theorem l6:bh aa 141=true:=by kernel_rfl
abbrev wB:FuncId:=142
theorem vK:aa.funcs[(142:Nat)]? =some Tryz.f142:=Tryz.func142
theorem vQ:bh aa 142=true:=by kernel_rfl
abbrev pR:FuncId:=145
theorem pq:aa.funcs[(145:Nat)]? =some Tryz.f145:=Tryz.func145
theorem pE:bh aa 145=true:=by kernel_rfl
abbrev lW:FuncId:=148
theorem lv:aa.funcs[(148:Nat)]? =some Tryz.f148:=Tryz.func148
theorem lB:bh aa 148=true:=by kernel_rfl
end
structure cN where
 epoch:Int
 pid:Int
 ver:Int
 seq:Int
 kind:Int
 txn:Bool
 text:ByteArray
 deriving DecidableEq
def cN.c (e:cN):List Value:=[.int .i64 e.epoch,.int .i64 e.pid,.int .i64 e.ver,.int .i64 e.seq,.int .i64 e.kind,.bool e.txn,.string e.text]
abbrev cN.v (e:cN):Value:=.agg e.c.toArray
def gJ:fg cN:=⟨cN.c,7,fun _=>rfl,by decide,fun a u hu=>by
 simp only[cN.c,ax,cC,or_false]at hu
 rcases hu with h|h|h|h|h|h|h<;>subst h<;>rfl⟩
def bQ:fg Int:=⟨fun n=>[.int .i64 n],1,fun _=>rfl,by decide,fun a u hu=>by
 simp only[ax,cC,or_false]at hu
 subst hu;rfl⟩
def dy:fg UInt8:=⟨fun n=>[.int .u8 n.toNat],1,fun _=>rfl,by decide,fun a u hu=>by
 simp only[ax,cC,or_false]at hu
 subst hu;rfl⟩
def kR:fg ByteArray:=⟨fun s=>[.string s],1,fun _=>rfl,by decide,fun a u hu=>by
 simp only[ax,cC,or_false]at hu
 subst hu;rfl⟩
def Ce:Nat->Nat->List UInt8->Nat
 |_,n,[]=>n
 |i,n,c::l=>Ce (i+1) ((n+(i+1)*c.toNat)%65521) l
def me (l:List UInt8):Nat:=Ce 0 0 l
theorem Er: ∀ (l:List UInt8) (i n:Nat),n<65521->Ce i n l<65521
 |[],_,_,h=>h
 |_::l,i,_,_=>Er l (i+1) _ (jt _ (by decide))
theorem C5 (l:List UInt8):me l<65521:=Er l 0 0 (by decide)
theorem JV (l:List UInt8) (A:Option Addr) (c:Nat) (w:World) (hr:Rd dy 0 w.heap.size A l w) (hb:l.length<=1000000000000000):
  dd aa GP [.slice A l.length c] w fun v w2=>v=J (me l:Nat)/\Below w.heap.size w w2:=by
 refine aD Fp Z Z ?_
 have H:=Hp.start w
 refine W ?_
 refine Zr ?_
 refine oP Z Z ?_
 refine U<|W ?_
 refine Zr ?_
 refine oP Z Z ?_
 refine U<|W<|W ?_
 refine Zr ?_
 refine l7 Z Z ?_
 refine uG eJ Z Z ?_
 refine ip Z Z ?_
 refine U<|Zb ?_
 refine ce (τ:=Nat×Nat) [3,4,5,8,9,10,11,12,13,14,15,16,17,18,19,20,21] (fun x=>[(3,J x.1),(8,J x.2)]) (fun x w'=>x.1<65521/\x.2<=l.length/\Hp w w' [] []/\Ce x.2 x.1 (l.drop x.2)=me l) (fun x=>l.length-x.2) (0,0) ⟨by decide,by simp,H,rfl⟩ (kO Z Z) ?_
 rintro⟨m,k⟩ ρ1 w1 ⟨hm,hk,H,hs⟩
 show CW _ _ _ _ (dC (gC _ _ ρ1) [(3,J (m:Nat)),(8,J (k:Nat))]) w1
 refine W ?_
 refine Zr ?_
 refine GE Z Z Z (fun h9=> ?_) (fun h9=> ?_)
 all_goals refine m8 ?_
 all_goals refine AG ?_
 ·refine pB Z ?_
  refine Zk ?_
  have hkl:k<l.length:=by omega
  obtain⟨b,o,rfl,-,hbl,hcl⟩:=hr.at_ hkl
  have hd:l.drop k=l[k]::l.drop (k+1):=mI hkl
  have h256:l[k].toNat<256:=UInt8.toNat_lt _
  generalize hc:l[k]=x at*
  have hmul:(k+1)*x.toNat<=(k+1)*256:=Nat.mul_le_mul_left _ I
  have hmul2:((k:Int)+1)*(x.toNat:Int)=(((k+1)*x.toNat:Nat):Int):=by simp
  refine W<|Zb<|W ?_
  refine Zr ?_
  refine ip Z Z ?_
  refine Ot d4 Z Z I I Z ?_
  refine ld mh Z ((H.below.cell (p:=⟨b,_,none⟩) hbl).trans (hcl 0 _ Z)) Z ?_
  refine oP Z Z ?_
  refine oP Z Z ?_
  refine U ?_
  refine Zr ?_
  refine ip Z Z ?_
  refine ip Z Z ?_
  refine add Z Z I I Z ?_
  refine ip Z Z ?_
  refine M3 ig ik Z (uR I) Z ?_
  refine mul Z Z I I Z ?_
  refine add Z Z I I Z ?_
  refine rem Z Z I I Z ?_
  refine oP Z Z ?_
  refine U ?_
  refine Zr ?_
  refine add Z Z I I Z ?_
  refine ip Z Z ?_
  refine U ?_
  refine⟨((m+(k+1)*x.toNat)%65521,k+1),⟨jt _ (by decide),by omega,H,?_⟩,?_,by repeat (first|exact mE|refine ln Z ?_|refine jz _ Z ?_),by show l.length- (k+1)<l.length-k;omega⟩
  ·rw[<-hs,hd,Ce]
  ·intro p hp
   simp only[ax,cC,or_false]at hp
   rcases hp with rfl|rfl
   ·show Value.int .i64 _=Value.int .i64 _
    congr 1
   ·rfl
 ·refine oq Z ?_
  refine Zx ?_
  have hkl:k=l.length:=by omega
  subst hkl
  simp only[fm,Ce]at hs
  subst hs
  refine W ?_
  refine Zr ?_
  refine ip Z Z ?_
  refine oP Z Z ?_
  refine U<|Zt ?_
  exact cD Z Z ⟨rfl,H.below⟩
/-- a number in as few bytes as may be -/
def yH (n:Nat):List UInt8:=if h:n<=127 then [UInt8.ofNat n]else UInt8.ofNat (n%128+128)::yH (n/128)
termination_by n
decreasing_by omega
theorem un {n:Nat} (h:n<=127):yH n=[UInt8.ofNat n]:=by rw[yH,dif_pos h]
theorem Dg {n:Nat} (h:127<n):yH n=UInt8.ofNat (n%128+128)::yH (n/128):=by rw[yH,dif_neg I]
theorem LH (n:Nat):n&&&127=n%128:=Nat.and_two_pow_sub_one_eq_mod n 7
theorem OC (n:Nat) (h:n<128):n|||128=n+128:=by
 have:=rX (i:=7) (b:=n) (by simpa using h) 1
 rw[Nat.or_comm];simp at this;omega
theorem Oo (n:Nat) (h:n<256):((UInt8.ofNat n).toNat:Int)=n:=by
 simp[gN h]
theorem Hy: ∀ (k n:Nat),n<128 ^ k->(yH n).length<=max k 1
 |0,n,h=>by
  have:n=0:=by simpa using h
  subst this;rw[un I];simp
 |k+1,n,h=>by
  by_cases hn:n<=127
  rw[un hn];simp
  have:=Hy k (n/128) (by rw[Nat.pow_succ]at h;exact yC I)
  rw[Dg I]
  simp only[bV]
  have hk:k≠0:=by
   rintro rfl
   simp at h;omega
  omega
theorem IM {w0 w:World} {F:List cr} {K M L:List (Nat×Obj)} {es:List UInt8} {A:Option Addr} {c:Nat} (n:Nat) (H:Hp w0 w (K++L++M) F) (ho:gd dy (.slice A es.length c) mF es L) (hn:n<4611686018427387904) (hb:es.length+n<140737488355328):
  dd aa Bs [.slice A es.length c,J n] w fun v w2=> ∃ A' c' L',v=.slice A' (es++yH n).length c'/\gd dy (.slice A' (es++yH n).length c') mF (es++yH n) L'/\Hp w0 w2 (K++L'++M) F:=by
 refine aD Al Z Z ?_
 refine W ?_
 refine Zr ?_
 refine uO Z Z ?_
 refine U<|W<|Zb ?_
 refine ce (τ:=Option Addr×Nat×List UInt8×Nat) [0,1,5,6,7,8,9,10,11,12,13,15,14] (fun(A,c,l,m)=>[(0,.slice A l.length c),(1,J m)])
  (fun(A,c,l,m) w'=>m<4611686018427387904/\l.length+m<140737488355328/\l++yH m=es++yH n/\ ∃ L',gd dy (.slice A l.length c) mF l L'/\Hp w0 w' (K++L'++M) F) (fun(_,_,_,m)=>m) (A,c,es,n) ⟨hn,hb,rfl,L,ho,H⟩ (kO Z Z) ?_
 rintro⟨A1,c1,l,m⟩ ρ1 w1 ⟨hm,hb1,hl,L1,ho1,H1⟩
 show CW _ _ _ _ (dC (gC _ _ ρ1) [(0,.slice A1 l.length c1),(1,J (m:Nat))]) w1
 refine W<|W ?_
 refine Zr ?_
 refine ip Z Z ?_
 refine I3 Z Z Z (fun h6=> ?_) (fun h6=> ?_)
 all_goals refine m8 ?_
 ·refine pB Z ?_
  refine Zk ?_
  have hmod:m%128<128:=jt _ (by decide)
  refine Zb<|W ?_
  refine Zr ?_
  refine l7 Z Z ?_
  refine ip Z Z ?_
  refine G (Ny (b:=127) Z Z I I) ?_
  rw[LH]
  refine G (Mt (b:=128) Z Z I I) ?_
  rw[OC _ hmod]
  refine M3 ik ig Z (B3 I) Z ?_
  refine sW (vs:=[.int .u8 _]) H1 d4 zi Z Z Z Z Z Z ?_;intro w2 b12 H2
  refine vT (Y:=dy) ov (K:=(b12,_)::K) (L:=L1) (M:=M) H2 ho1 (news:=[UInt8.ofNat (m%128+128)]) Z Z Z ?_ ?_ Z ?_
  ·have:=vX.row (m:=1) (sz:=1) (H2.ent (i:=0) Z) Z
   have e:dy.all [UInt8.ofNat (m%128+128)]=[.int .u8 ((m%128+128:Nat):Int)]:=by
    show [Value.int .u8 _]=_
    rw[Oo _ I]
   rw[e]
   exact this
  ·simp only[bO];omega
  intro A3 c3 w3 L3 _ _ ho3 H3
  refine uO Z Z ?_
  refine U ?_
  refine Zr ?_
  refine ip Z Z ?_
  refine G (Nj (b:=7) Z Z I) ?_
  refine oP Z Z ?_
  refine U ?_
  refine⟨(A3,c3,l++[UInt8.ofNat (m%128+128)],m/2 ^ 7),⟨by omega,by simp;omega,?_,L3,ho3,H3.forget (by simp) (fun _ h=>h)⟩,kO Z Z,by repeat (first|exact mE|refine ln Z ?_|refine jz _ Z ?_),by show m/2 ^ 7<m;omega⟩
  rw[<-hl,Dg (n:=m) I];simp
 ·refine oq Z ?_
  refine Zx<|W ?_
  refine Zr ?_
  refine l7 Z Z ?_
  refine ip Z Z ?_
  refine M3 ik ig Z (B3 I) Z ?_
  refine sW (vs:=[.int .u8 _]) H1 d4 zi Z Z Z Z Z Z ?_;intro w2 b19 H2
  refine vT (Y:=dy) ov (K:=(b19,_)::K) (L:=L1) (M:=M) H2 ho1 (news:=[UInt8.ofNat m]) Z Z Z ?_ ?_ Z ?_
  ·have:=vX.row (m:=1) (sz:=1) (H2.ent (i:=0) Z) Z
   have e:dy.all [UInt8.ofNat m]=[.int .u8 (m:Int)]:=by
    show [Value.int .u8 _]=_
    rw[Oo _ I]
   rw[e]
   exact this
  ·simp only[bO];omega
  intro A3 c3 w3 L3 _ _ ho3 H3
  refine uO Z Z ?_
  refine U<|Zt ?_
  rw[un I]at hl
  rw[hl]at ho3
  refine cD Z (v:=.slice A3 (es++yH n).length c3) (by rw[<-hl];rfl) ⟨A3,c3,L3,rfl,ho3,H3.forget (by simp) (fun _ h=>h)⟩
def iN (n:Int):Bool:=decide (0<=n)&&decide (n<=1073741824)
theorem uw {n:Int} (h:iN n=true):0<=n/\n<=1073741824:=by simpa [iN]using h
theorem MS {n:Int} (h: ¬ iN n=true):n<0∨1073741824<n:=by
 simp[iN]at h;omega
def cN.nums (e:cN):List Int:=[e.epoch,e.pid,e.ver,e.seq]
def cN.noForm (e:cN):Prop:=(e.kind≠1/\(e.pid=0∨e.txn=false∨e.seq≠0∨e.text≠⟨#[]⟩))∨(e.pid=0/\(e.txn=true∨0<e.ver+e.seq))
instance (e:cN):Decidable e.noForm:=by unfold cN.noForm;infer_instance
def eC (e:cN):Int:=
 if e.kind<1∨3<e.kind then 3
 else if¬ e.nums.all iN=true then 2
 else if 40<e.text.size then 1
 else if e.noForm then 4 else 0
theorem xn (e:cN) (w:World):dd aa Dp [e.v] w fun v w2=>v=J (eC e)/\Below w.heap.size w w2:=by
 refine aD BB Z Z ?_
 have H:=Hp.start w
 refine W ?_
 refine Zr ?_
 refine fQ H Z Z ?_;intro w1 b1 H
 refine oP Z Z ?_
 refine U<|W<|W ?_
 refine Zr ?_
 refine rW eX Z Z ?_
 refine vH H 0 aj Z Z Z Z ?_
 refine GE Z Z Z (fun h7=> ?_) (fun h7=> ?_)
 ·have hE:eC e=3:=by unfold eC;rw[if_pos (.inl h7)]
  refine zK Z Z ?_
  iterate 3 refine rF Z Z Z ?_
  refine wo Z Z Z ?_
  refine U<|ZT Z<|W ?_
  refine Zr ?_
  refine oP Z Z ?_
  refine U<|Zt ?_
  exact cD (v:=J 3) Z Z ⟨by rw[hE],H.below⟩
 refine zK Z Z ?_
 refine ZG ?_
 refine rW eX Z Z ?_
 refine ZG ?_
 refine vH H 0 aj Z Z Z Z ?_
 refine ZG ?_
 refine I3 Z Z Z (fun h11=> ?_) (fun h11=> ?_)
 ·have hE:eC e=3:=by unfold eC;rw[if_pos (.inr h11)]
  refine sg Z Z Z ?_
  refine U<|ZT Z<|W ?_
  refine Zr ?_
  refine oP Z Z ?_
  refine U<|Zt ?_
  exact cD (v:=J 3) Z Z ⟨by rw[hE],H.below⟩
 refine sg Z Z Z ?_
 refine U<|ZF Z<|Zk ?_
 have hk0: ¬ (e.kind<1∨3<e.kind):=by omega
 refine W<|W ?_
 refine Zr ?_
 refine rW nt Z Z ?_
 refine vH H 0 aj Z Z Z Z ?_
 refine rW fe Z Z ?_
 refine vH H 0 aj Z Z Z Z ?_
 refine rW ez Z Z ?_
 refine vH H 0 aj Z Z Z Z ?_
 refine rW eY Z Z ?_
 refine vH H 0 aj Z Z Z Z ?_
 refine sW (vs:=[J _,J _,J _,J _]) H aZ v6 Z Z Z Z Z Z ?_;intro w2 b21 H
 refine uG eB Z Z ?_
 refine ip Z Z ?_
 refine U<|Zb ?_
 have hns: ∀ k,k<4->(p5 [J e.epoch,J e.pid,J e.ver,J e.seq]).toArray[0+k*1]? =some (J (e.nums.getD k 0)):=by
  intro k hk
  have:k=0∨k=1∨k=2∨k=3:=by omega
  rcases this with rfl|rfl|rfl|rfl<;>rfl
 have hmem: ∀ k,k<4->e.nums.getD k 0∈e.nums:=by
  intro k hk
  have:k=0∨k=1∨k=2∨k=3:=by omega
  rcases this with rfl|rfl|rfl|rfl<;>simp[cN.nums]
 refine ce (τ:=Nat) [4,23,24,25,26,27,28,29,30,31,32,33,2] (fun k=>[(23,J k)]) (fun k w'=>k<=4/\(∀ j,j<k->(e.nums.getD j 0|>iN)=true)/\Hp w w' [(b21,_),(b1,_)] []) (fun k=>4-k) 0 ⟨by omega,by simp,H⟩ (dF Z) ?_
 rintro k ρ1 w1 ⟨hk4,hgood,H⟩
 refine W ?_
 refine Zr ?_
 refine GE Z Z Z (fun h24=> ?_) (fun h24=> ?_)
 all_goals refine m8 ?_
 all_goals refine AG ?_
 ·refine pB Z ?_
  refine Zk ?_
  have hk:k<4:=by omega
  have hns:=hns k hk
  have hm:=hmem k hk
  generalize hx:e.nums.getD k 0=x at hns hm
  refine W<|Zb<|W ?_
  refine Zr ?_
  refine Ot aZ Z Z I I Z ?_
  refine vH H 0 aj Z Z hns Z ?_
  refine oP Z Z ?_
  refine U<|W ?_
  refine Zr ?_
  refine ip Z Z ?_
  by_cases hin:iN x=true
  ·obtain⟨h0,h1⟩:=uw hin
   refine NW Z Z I Z ?_
   refine zK Z Z ?_
   refine ZG ?_
   refine ip Z Z ?_
   refine ZG ?_
   refine N2 Z Z I Z ?_
   refine sg Z Z Z ?_
   refine U<|ZF Z<|Zk ?_
   refine Zr ?_
   refine add Z Z I I Z ?_
   refine ip Z Z ?_
   refine U ?_
   refine⟨k+1,⟨by omega,fun j hj=> ?_,H⟩,dF Z,by repeat (first|exact mE|refine ln Z ?_|refine jz _ Z ?_),by show 4- (k+1)<4-k;omega⟩
   by_cases hjk:j=k
   ·subst hjk;rw[hx];exact hin
   ·exact hgood j I
  ·have hE:eC e=2:=by
    unfold eC
    rw[if_neg hk0,if_pos]
    intro ha
    exact hin (d9.1 ha x hm)
   have hbad:=MS hin
   by_cases h0:x<0
   ·refine OE Z Z h0 Z ?_
    refine zK Z Z ?_
    iterate 2 refine rF Z Z Z ?_
    refine wo Z Z Z ?_
    refine U<|ZT Z<|W ?_
    refine Zr ?_
    refine oP Z Z ?_
    refine U<|Zt ?_
    exact cD (v:=J 2) Z Z ⟨by rw[hE],H.below⟩
   ·refine NW Z Z h0 Z ?_
    refine zK Z Z ?_
    refine ZG ?_
    refine ip Z Z ?_
    refine ZG ?_
    refine N1 Z Z I Z ?_
    refine sg Z Z Z ?_
    refine U<|ZT Z<|W ?_
    refine Zr ?_
    refine oP Z Z ?_
    refine U<|Zt ?_
    exact cD (v:=J 2) Z Z ⟨by rw[hE],H.below⟩
 ·refine oq Z ?_
  refine Zx ?_
  have hk:k=4:=by omega
  subst hk
  have hall:e.nums.all iN=true:=by
   have g0:=hgood 0 I
   have g1:=hgood 1 I
   have g2:=hgood 2 I
   have g3:=hgood 3 I
   simp only[cN.nums,List.getD_cons_zero,List.getD_cons_succ]at g0 g1 g2 g3
   simp[cN.nums,g0,g1,g2,g3]
  have hv:=uw (d9.1 hall e.ver (by simp[cN.nums]))
  have hs:=uw (d9.1 hall e.seq (by simp[cN.nums]))
  refine W<|W ?_
  refine Zr ?_
  refine rW p7 Z Z ?_
  refine vH H 1 aY Z Z Z Z ?_
  refine Pg ji Z Z ?_
  refine I3 Z Z Z (fun h37=> ?_) (fun h37=> ?_)
  all_goals refine m8 ?_
  ·refine pB Z ?_
   refine W ?_
   refine Zr ?_
   refine oP Z Z ?_
   refine U<|Zt ?_
   have hE:eC e=1:=by
    unfold eC
    rw[if_neg hk0,if_neg (by simpa using hall),if_pos I]
   exact cD (v:=J 1) Z Z ⟨by rw[hE],H.below⟩
  refine ZF Z<|Zk ?_
  have hE:eC e=if e.noForm then 4 else 0:=by
   unfold eC
   rw[if_neg hk0,if_neg (by simpa using hall),if_neg I]
  refine W<|W ?_
  refine Zr ?_
  by_cases hx:e.text=⟨#[]⟩
  all_goals cases ht:e.txn
  all_goals (have h5:e.c.toArray[0+5]? =some (.bool e.txn):=rfl;rw[ht]at h5)
  all_goals (refine rW eX Z Z ?_)
  all_goals (refine vH H 1 aj Z Z Z Z ?_)
  all_goals (refine OD Z Z Z (fun _=> ?_) (fun _=> ?_))
  all_goals (refine zK Z Z ?_)
  all_goals first|refine rF Z Z Z ?_|(refine tA Z ?_;(refine rW fe Z Z ?_))
  all_goals first|refine rF Z Z Z ?_|(refine tA Z ?_;(refine vH H 1 aj Z Z Z Z ?_))
  all_goals first|refine rF Z Z Z ?_|(refine tA Z ?_;(refine Lc Z Z Z (fun _=> ?_) (fun _=> ?_)))
  all_goals first|refine rF Z Z Z ?_|(refine tA Z ?_;(refine zK Z Z ?_))
  all_goals first|refine rF Z Z Z ?_|(refine tA Z ?_;(refine rW iW Z Z ?_))
  all_goals first|refine rF Z Z Z ?_|(refine tA Z ?_;(refine vH H 1 dP Z Z h5 Z ?_))
  all_goals first|refine rF Z Z Z ?_|(refine tA Z ?_;(refine not Z Z ?_))
  all_goals first|refine rF Z Z Z ?_|(refine tA Z ?_;(first|refine wo Z Z Z ?_|refine sg Z Z Z ?_))
  all_goals first|refine rF Z Z Z ?_|(refine tA Z ?_;(refine zK Z Z ?_))
  all_goals first|refine rF Z Z Z ?_|(refine tA Z ?_;(refine rW eY Z Z ?_))
  all_goals first|refine rF Z Z Z ?_|(refine tA Z ?_;(refine vH H 1 aj Z Z Z Z ?_))
  all_goals first|refine rF Z Z Z ?_|(refine tA Z ?_;(refine OD Z Z Z (fun _=> ?_) (fun _=> ?_)))
  all_goals first|refine rF Z Z Z ?_|(refine tA Z ?_;(first|refine wo Z Z Z ?_|refine sg Z Z Z ?_))
  all_goals first|refine rF Z Z Z ?_|(refine tA Z ?_;(refine zK Z Z ?_))
  all_goals first|refine rF Z Z Z ?_|(refine tA Z ?_;(refine rW p7 Z Z ?_))
  all_goals first|refine rF Z Z Z ?_|(refine tA Z ?_;(refine vH H 1 aY Z Z Z Z ?_))
  all_goals first|refine rF Z Z Z ?_|(refine tA Z ?_;(first|refine l1 (Mb Z Z hx) Z Z Z ?_|refine l1 (Mc Z Z hx) Z Z Z ?_))
  all_goals first|refine rF Z Z Z ?_|(refine tA Z ?_;(first|refine wo Z Z Z ?_|refine sg Z Z Z ?_))
  all_goals (first|refine wo Z Z Z ?_|refine sg Z Z Z ?_)
  all_goals (refine zK Z Z ?_)
  all_goals first|refine rF Z Z Z ?_|(refine tA Z ?_;(refine rW fe Z Z ?_))
  all_goals first|refine rF Z Z Z ?_|(refine tA Z ?_;(refine vH H 1 aj Z Z Z Z ?_))
  all_goals first|refine rF Z Z Z ?_|(refine tA Z ?_;(refine Lc Z Z Z (fun _=> ?_) (fun _=> ?_)))
  all_goals first|refine rF Z Z Z ?_|(refine tA Z ?_;(refine zK Z Z ?_))
  all_goals first|refine rF Z Z Z ?_|(refine tA Z ?_;(refine rW iW Z Z ?_))
  all_goals first|refine rF Z Z Z ?_|(refine tA Z ?_;(refine vH H 1 dP Z Z h5 Z ?_))
  all_goals first|refine rF Z Z Z ?_|(refine tA Z ?_;(refine zK Z Z ?_))
  all_goals first|refine rF Z Z Z ?_|(refine tA Z ?_;(refine rW ez Z Z ?_))
  all_goals first|refine rF Z Z Z ?_|(refine tA Z ?_;(refine vH H 1 aj Z Z Z Z ?_))
  all_goals first|refine rF Z Z Z ?_|(refine tA Z ?_;(refine rW eY Z Z ?_))
  all_goals first|refine rF Z Z Z ?_|(refine tA Z ?_;(refine vH H 1 aj Z Z Z Z ?_))
  all_goals first|refine rF Z Z Z ?_|(refine tA Z ?_;(refine add Z Z I I Z ?_))
  all_goals first|refine rF Z Z Z ?_|(refine tA Z ?_;(refine I3 Z Z Z (fun _=> ?_) (fun _=> ?_)))
  all_goals first|refine rF Z Z Z ?_|(refine tA Z ?_;(first|refine wo Z Z Z ?_|refine sg Z Z Z ?_))
  all_goals first|refine rF Z Z Z ?_|(refine tA Z ?_;(first|refine wo Z Z Z ?_|refine sg Z Z Z ?_))
  all_goals (first|refine wo Z Z Z ?_|refine sg Z Z Z ?_)
  all_goals refine m8 ?_
  all_goals first
   |(
     refine pB Z ?_
     refine W ?_
     refine Zr ?_
     refine oP Z Z<|U<|Zt ?_
     exact cD (v:=J 4) Z Z ⟨by rw[hE,if_pos (by simp[cN.noForm, *])],H.below⟩)
   |(
     refine oq Z ?_
     refine Zk<|W ?_
     refine Zr ?_
     refine oP Z Z<|U<|Zt ?_
     exact cD (v:=J 0) Z Z ⟨by rw[hE,if_neg (by simp[cN.noForm, *]<;>omega)],H.below⟩)
def nY (e:cN):UInt8:=UInt8.ofNat (e.kind.toNat+if e.txn then 16 else 0)
def nW (l:List Int):List UInt8:=l.flatMap fun n=>yH n.toNat
def eK (e:cN):List UInt8:=nY e::nW e.nums++e.text.data.toList
def iv (e:cN):List UInt8:=UInt8.ofNat (eK e).length::eK e++[UInt8.ofNat (me (eK e)/256),UInt8.ofNat (me (eK e)%256)]
theorem NA (n:Nat):IntKind.u8.wrap (n:Int)=(n%256:Nat):=by
 simp[IntKind.wrap,IntKind.signed,IntKind.bits]
theorem OQ (s:ByteArray):dy.all s.data.toList=Lib.strCells s:=by
 unfold fg.all Lib.strCells
 show List.flatMap (fun n:UInt8=>[Value.int .u8 n.toNat]) _=_
 induction s.data.toList with
 |nil=>rfl
 |cons a l ih=>simp only[f6,eF,ih];rfl
theorem qH {e:cN} (h:eC e=0):1<=e.kind/\e.kind<=3/\(∀ n∈e.nums,0<=n/\n<=1073741824)/\e.text.size<=40/\ ¬ e.noForm:=by
 unfold eC at h
 split at h;· omega
 split at h;· omega
 split at h;· omega
 split at h;· omega
 rename_i h1 h2 h3 h4
 refine⟨by omega,by omega,fun n hn=> ?_,by omega,h4⟩
 have:=d9.1 (Classical.not_not.1 h2) n hn
 exact uw this
theorem xx: ∀ (l:List Int),(∀ n∈l,0<=n/\n<=1073741824)->(nW l).length<=5*l.length
 |[],_=>by simp[nW]
 |n::l,h=>by
  have h1:=xx l fun m hm=>h m (ak _ hm)
  have h2:=h n (az ..)
  have h3:=Hy 5 n.toNat I
  simp only[nW,f6,ay,bV]at*
  omega
theorem uD {e:cN} (h:eC e=0):(eK e).length<=61/\0<(eK e).length:=by
 obtain⟨_,_,h3,h4,_⟩:=qH h
 have:=xx _ h3
 have hs:e.text.data.toList.length=e.text.size:=by rw[ci];rfl
 simp only[eK,ay,bV,hs]
 have h4':e.nums.length=4:=rfl
 omega
theorem CG (e:cN) (w:World) (h:eC e=0):dd aa Bt [e.v] w fun v w2=> ∃ A c,v=.tuple #[.slice A (iv e).length c,J 0]/\Rd dy w.heap.size w2.heap.size A (iv e) w2/\(iv e).length<=c/\Below w.heap.size w w2:=by
 obtain⟨hk1,hk3,hnn,htx,-⟩:=qH h
 obtain⟨hl61,hl0⟩:=uD h
 refine aD Am Z Z ?_
 have H:=Hp.start w
 refine W ?_
 refine Zr ?_
 refine fQ H Z Z ?_;intro w1 b1 H
 refine uO Z Z ?_
 refine oP Z Z ?_
 refine U<|W<|W ?_
 refine Zr ?_
 refine Py H 0 dD Z Z Z Z ?_
 refine cd rq (xn e _) Z Z ?_;rintro _ w2 ⟨rfl,hb2⟩;replace H:=H.later hb2
 refine oP Z Z ?_
 refine U<|W ?_
 refine Zr ?_
 refine ip Z Z ?_
 refine G (bU Z Z h)<|U<|ZF Z<|Zk<|W ?_
 refine Zr ?_
 refine rW eX Z Z ?_
 refine vH H 0 aj Z Z Z Z ?_
 refine oP Z Z ?_
 refine U<|W ?_
 obtain⟨k,hk⟩: ∃ k:Nat,e.kind=k:=⟨e.kind.toNat,by omega⟩
 have hkB:nY e=UInt8.ofNat (k+if e.txn then 16 else 0):=by unfold nY;rw[hk];rfl
 refine eE (τ:=Unit) [17,18,19,20,5] (fun _=>[(5,J (k+if e.txn then 16 else 0:Nat))]) (fun _ w'=>Hp w w' [(b1,.cells e.c.toArray dt)] []) ?_ ?_
 ·refine AG ?_
  refine Zr ?_
  refine rW iW Z Z ?_
  refine vH H 0 dP Z Z Z Z ?_
  refine U ?_
  refine jf (b:=e.txn) Z (fun ht=> ?_) (fun ht=> ?_)
  ·refine Jj ?_
   refine ip Z Z ?_
   have h16:k|||16=k+16:=by
    have:k=1∨k=2∨k=3:=by omega
    rcases this with rfl|rfl|rfl<;>rfl
   rw[hk]
   refine G (Mt (a:=k) (b:=16) Z Z I I) ?_
   rw[h16]
   refine oP Z Z ?_
   refine U ?_
   refine⟨(),H,dF (by rw[ht];rfl),by repeat (first|exact Ec.refl _ _|exact mE|refine ln Z ?_|refine jz _ Z ?_)⟩
  ·refine M1 ?_
   rw[hk]
   refine⟨(),H,dF (by rw[ht];rfl),by repeat (first|exact Ec.refl _ _|exact mE|refine ln Z ?_|refine jz _ Z ?_)⟩
 rintro _ ρ1 w3 H
 show CW _ _ _ _ (dC (gC _ _ ρ1) [(5,J (k+if e.txn then 16 else 0:Nat))]) w3
 have hk19:(k+if e.txn then 16 else 0)<256:=by split<;>omega
 refine W ?_
 refine Zr ?_
 refine ip Z Z ?_
 refine M3 ik ig Z (B3 hk19) Z ?_
 refine sW (vs:=[.int .u8 _]) H d4 zi Z Z Z Z Z Z ?_;intro w4 b23 H
 refine uO Z Z ?_
 refine U ?_
 replace H:=H.swap
 have ho:gd dy (.slice (Qd b23) 1 1) mF [nY e] [(b23,.cells (p5 [.int .u8 (k+if e.txn then 16 else 0:Nat)]).toArray mF)]:=by
  have e1:dy.all [nY e]=(p5 [.int .u8 (k+if e.txn then 16 else 0:Nat)]).toArray.toList:=by
   show [Value.int .u8 _]=_
   rw[hkB,Oo _ hk19]
   rfl
  unfold gd
  rw[e1]
  exact rT.lit (n:=1) (by decide) Z
 refine W<|W ?_
 refine Zr ?_
 refine rW nt Z Z ?_
 refine vH H 0 aj Z Z Z Z ?_
 refine rW fe Z Z ?_
 refine vH H 0 aj Z Z Z Z ?_
 refine rW ez Z Z ?_
 refine vH H 0 aj Z Z Z Z ?_
 refine rW eY Z Z ?_
 refine vH H 0 aj Z Z Z Z ?_
 refine sW (vs:=[J _,J _,J _,J _]) H aZ v6 Z Z Z Z Z Z ?_;intro w5 b32 H
 refine uG eB Z Z ?_
 refine ip Z Z ?_
 refine U<|Zb ?_
 have hns: ∀ k,k<4->(p5 [J e.epoch,J e.pid,J e.ver,J e.seq]).toArray[0+k*1]? =some (J (e.nums.getD k 0)):=by
  intro k hk
  have:k=0∨k=1∨k=2∨k=3:=by omega
  rcases this with rfl|rfl|rfl|rfl<;>rfl
 have hmem: ∀ k,k<4->e.nums.getD k 0∈e.nums:=by
  intro k hk
  have:k=0∨k=1∨k=2∨k=3:=by omega
  rcases this with rfl|rfl|rfl|rfl<;>simp[cN.nums]
 have hstep: ∀ k,k<4->e.nums.take (k+1)=e.nums.take k++[e.nums.getD k 0]:=by
  intro k hk
  have:k=0∨k=1∨k=2∨k=3:=by omega
  rcases this with rfl|rfl|rfl|rfl<;>rfl
 have hnlen: ∀ k,k<=4->(nW (e.nums.take k)).length<=20:=by
  intro k hk
  have:=xx (e.nums.take k) fun n hn=>hnn n (yE hn)
  have h2:(e.nums.take k).length<=4:=by simp[cN.nums];omega
  omega
 refine ce (τ:=Nat×Option Addr×Nat) [6,8,34,35,36,37,38,39,40,41] (fun(k,A,c)=>[(6,.slice A (nY e::nW (e.nums.take k)).length c),(34,J k)])
  (fun(k,A,c) w'=>k<=4/\ ∃ L',gd dy (.slice A (nY e::nW (e.nums.take k)).length c) mF (nY e::nW (e.nums.take k)) L'/\Hp w w' ([(b32,.cells (p5 [J e.epoch,J e.pid,J e.ver,J e.seq]).toArray cW),(b1,.cells e.c.toArray dt)]++L'++[]) []) (fun(k,_,_)=>4-k) (0,_,1) ⟨by omega,_,ho,H⟩ (kO Z Z) ?_
 rintro⟨j,A1,c1⟩ ρ1 w1 ⟨hj4,L1,ho,H⟩
 show CW _ _ _ _ (dC (gC _ _ ρ1) [(6,.slice A1 (nY e::nW (e.nums.take j)).length c1),(34,J j)]) w1
 refine W ?_
 refine Zr ?_
 refine GE Z Z Z (fun h35=> ?_) (fun h35=> ?_)
 all_goals refine m8 ?_
 all_goals refine AG ?_
 ·refine pB Z ?_
  refine Zk ?_
  have hj:j<4:=by omega
  have hns:=hns j hj
  obtain⟨hm0,hm1⟩:=hnn _ (hmem j hj)
  have hstep:=hstep j hj
  have hnl:=hnlen j hj4
  generalize e.nums.getD j 0=x at*
  obtain⟨m,rfl⟩: ∃ m:Nat,x=m:=⟨x.toNat,by omega⟩
  refine W<|Zb<|W ?_
  refine Zr ?_
  refine Ot aZ Z Z I I Z ?_
  refine vH H 0 aj Z Z hns Z ?_
  refine oP Z Z ?_
  refine U ?_
  refine Zr ?_
  refine l7 Z Z ?_
  refine ip Z Z ?_
  refine cd AJ (IM m H ho I (by simp only[bV];omega)) Z Z ?_;rintro _ w5 ⟨A2,c2,L2,rfl,ho2,H2⟩
  refine uO Z Z ?_
  refine U ?_
  refine Zr ?_
  refine add Z Z I I Z ?_
  refine ip Z Z ?_
  refine U ?_
  have hnx:nY e::nW (e.nums.take (j+1))=nY e::nW (e.nums.take j)++yH m:=by
   rw[hstep];simp[nW]
  rw[<-hnx]at ho2
  refine⟨(j+1,A2,c2),⟨by omega,L2,ho2,H2⟩,kO (by rw[hnx];rfl) Z,by repeat (first|exact mE|refine ln Z ?_|refine jz _ Z ?_),by show 4- (j+1)<4-j;omega⟩
 ·refine oq Z ?_
  refine Zx ?_
  have hj:j=4:=by omega
  subst hj
  have h20:=hnlen 4 I
  have e4:e.nums.take 4=e.nums:=rfl
  rw[e4]at*
  have hne:nY e::nW e.nums≠[]:=by simp
  refine W ?_
  refine Zr ?_
  refine l7 Z Z ?_
  refine rW p7 Z Z ?_
  refine vH H 1 aY Z Z Z Z ?_
  refine Qa (Y:=dy) ov ji Z OQ H ho hne Z Z (by simp only[bV];omega) Z ?_
  intro A2 c2 w2 L2 hc1 hc2 ho H
  refine uO Z Z ?_
  refine U ?_
  have eb:nY e::nW e.nums++e.text.data.toList=eK e:=rfl
  rw[eb]at*
  refine W ?_
  refine Zr ?_
  refine l7 Z Z ?_
  refine cd yx (JV (eK e) A2 c2 w2 ((ho.rd H).mono (bG _) (ao _)) I) Z Z ?_;rintro _ w6 ⟨rfl,hb6⟩;replace H:=H.later hb6
  refine oP Z Z ?_
  refine U ?_
  have hs:=C5 (eK e)
  refine W ?_
  refine Zr ?_
  refine l7 Z Z ?_
  refine uG eJ Z Z ?_
  refine M3 ik ig Z (B3 (n:=(eK e).length) I) Z ?_
  refine sW (vs:=[.int .u8 _]) H d4 zi Z Z Z Z Z Z ?_;intro w7 b51 H7
  refine l7 Z Z ?_
  have ho5:gd dy (.slice (Qd b51) 1 1) mF [UInt8.ofNat (eK e).length] [(b51,.cells (p5 [.int .u8 ((eK e).length:Nat)]).toArray mF)]:=by
   have e1:dy.all [UInt8.ofNat (eK e).length]=(p5 [.int .u8 ((eK e).length:Nat)]).toArray.toList:=by
    show [Value.int .u8 _]=_
    rw[Oo _ I]
    rfl
   unfold gd
   rw[e1]
   exact rT.lit (n:=1) (by decide) Z
  refine vT (Y:=dy) ov (K:=[]) (M:=_) H7 ho5 (news:=eK e) Z Z Z (ho.rd (K:=(b51,_)::[_,_]) (M:=[]) H7).src (by simp only[bV,nH];omega) Z ?_
  intro A8 c8 w8 L8 _ _ ho8 H8
  refine ip Z Z ?_
  refine G (Nj (b:=8) Z Z I) ?_
  refine M3 ik ig Z (B3 (n:=me (eK e)/2 ^ 8) I) Z ?_
  refine ip Z Z ?_
  refine M3 ik ig Z (NA (me (eK e))) Z ?_
  refine sW (vs:=[.int .u8 _,.int .u8 _]) H8 d4 zi Z Z Z Z Z Z ?_;intro w9 b59 H9
  refine vT (Y:=dy) ov (K:=[_]) (M:=_) H9 ho8 (news:=[UInt8.ofNat (me (eK e)/256),UInt8.ofNat (me (eK e)%256)]) Z Z Z ?_ (by simp only[ay,bV,nH];omega) Z ?_
  ·have:=vX.row (m:=2) (sz:=1) (H9.ent (i:=0) Z) Z
   have e1:dy.all [UInt8.ofNat (me (eK e)/256),UInt8.ofNat (me (eK e)%256)]=[.int .u8 (me (eK e)/256:Nat),.int .u8 (me (eK e)%256:Nat)]:=by
    show [Value.int .u8 _,Value.int .u8 _]=_
    rw[Oo _ I,Oo _ I]
   rw[e1]
   exact this
  intro A9 c9 w10 L9 hc9 _ ho9 H10
  refine uO Z Z ?_
  refine oP Z Z ?_
  refine U<|Zt ?_
  refine l5 Z Z Z ⟨A9,c9,rfl,?_,hc9,H10.below⟩
  exact ho9.rd H10
/-- the number that is next, from its i-th byte on -/
def rn:Nat->Nat->List UInt8->Nat×List UInt8×Bool
 |_,_,[]=>(0,[],true)
 |i,n,c::l=>if i=5 then(0,c::l,true)else if c.toNat<128 then(n+c.toNat%128*2 ^ (7*i),l,decide (c.toNat=0)&&decide (0<i))else rn (i+1) (n+c.toNat%128*2 ^ (7*i)) l
def EE (l:List UInt8) (bad:Bool):Nat×List UInt8×Bool:=if bad then(0,l,true)else rn 0 0 l
theorem NR {n x i:Nat} (hn:n<2 ^ (7*i)):n|||x*2 ^ (7*i)=n+x*2 ^ (7*i):=by
 have:=rX hn x
 rw[Nat.or_comm,CR,<-this,rZ]
theorem sf {w0 w:World} {F:List cr} {M:List (Nat×Obj)} {b:Nat} {l:List UInt8} {A:Option Addr} {c:Nat} {bad:Bool} (H:Hp w0 w ((b,.cells #[.slice A l.length c,.bool bad] ua)::M) F) (hr:Rd dy 0 w0.heap.size A l w0) (hc:l.length<=c):
  dd aa tH [.pointer (Qd b)] w fun v w2=>v=J ((EE l bad).1:Nat)/\ ∃ A' c',Hp w0 w2 ((b,.cells #[.slice A' (EE l bad).2.1.length c',.bool (EE l bad).2.2] ua)::M) F/\Rd dy 0 w0.heap.size A' (EE l bad).2.1 w0/\(EE l bad).2.1.length<=c':=by
 refine aD ta Z Z ?_
 refine W ?_
 refine Zr ?_
 refine oP Z Z ?_
 refine U<|W ?_
 refine Zr ?_
 refine oP Z Z ?_
 refine U<|W ?_
 refine Zr ?_
 refine oP Z Z ?_
 refine U<|Zb ?_
 refine ce (τ:=Nat×Nat×List UInt8×Bool) [2,3,4,5,6,7,8,9,10,11,12,13,14,15,16,17,18,19,20,21,22,23,24,25,26,27,28,29,30,31,32,33,34,35,36,37,38,39,40,41,42,43,44,45,46,47,48,49,50,51,52,53,54,55,56,57,58,59,60]
  (fun(i,n,_,_)=>[(3,J (n:Nat)),(4,J (i:Nat))])
  (fun(i,n,l1,bad1) w'=>i<=5/\n<2 ^ (7*i)/\(if bad1 then(0,l1,true)else rn i n l1)=EE l bad/\ ∃ A c,Hp w0 w' ((b,.cells #[.slice A l1.length c,.bool bad1] ua)::M) F/\Rd dy 0 w0.heap.size A l1 w0/\l1.length<=c) (fun(_,_,l1,_)=>l1.length) (0,0,l,bad) ⟨by omega,by decide,rfl,A,c,H,hr,hc⟩ (kO Z Z) ?_
 rintro⟨i,n,l1,bad1⟩ ρ1 w1 ⟨hi5,hn,hrn,A1,c1,H,hr,hc⟩
 show CW _ _ _ _ (dC (gC _ _ ρ1) [(3,J (n:Nat)),(4,J (i:Nat))]) w1
 refine W<|Zb<|W<|W ?_
 refine Zr ?_
 refine Gy Z Z ?_
 refine JD Z Z ?_
 refine rW j7 Z Z ?_
 refine vH H 0 dP Z Z Z Z ?_
 refine zK Z Z ?_
 by_cases hstop:bad1=true∨l1=[]∨i=5
 ·have hres:EE l bad=(0,l1,true):=by
   rw[<-hrn]
   rcases hstop with h|h|h
   ·rw[if_pos h]
   ·subst h;split<;>rfl
   ·subst h;split
    ·rfl
    ·cases l1<;>simp[rn]
  cases bad1
  ·refine tA Z ?_
   refine Gy Z Z ?_
   refine ZG ?_
   refine JD Z Z ?_
   refine ZG ?_
   refine rW lP Z Z ?_
   refine ZG ?_
   refine vH H 0 d3 Z Z Z Z ?_
   refine ZG ?_
   refine uG eJ Z Z ?_
   refine ZG ?_
   by_cases hl:l1=[]
   ·refine K9 Z Z (by rw[hl];rfl) Z ?_
    refine sg Z Z Z ?_
    refine zK Z Z ?_
    iterate 2 refine rF Z Z Z ?_
    refine wo Z Z Z ?_
    refine U<|ZT Z<|W ?_
    refine Zr ?_
    refine Gy Z Z ?_
    refine JD Z Z ?_
    refine rW j7 Z Z ?_
    refine Ox H 0 iF Z Z Z (by simp) fun w2 H2=>U<|W ?_
    refine Zr ?_
    refine oP Z Z ?_
    refine U<|Zt ?_
    rw[hres]
    exact cD (v:=J 0) Z Z ⟨rfl,A1,c1,H2,hr,hc⟩
   ·have hi:i=5:=by
     rcases hstop with h|h|h
     ·cases h
     ·exact absurd h hl
     ·exact h
    have hl0:l1.length≠0:=fun h=>hl (bS h)
    refine G0 Z Z I Z ?_
    refine sg Z Z Z ?_
    refine zK Z Z ?_
    refine ZG ?_
    refine ip Z Z ?_
    refine ZG<|K9 Z Z I Z ?_
    refine sg Z Z Z ?_
    refine U<|ZT Z<|W ?_
    refine Zr ?_
    refine Gy Z Z ?_
    refine JD Z Z ?_
    refine rW j7 Z Z ?_
    refine Ox H 0 iF Z Z Z (by simp) fun w2 H2=>U<|W ?_
    refine Zr ?_
    refine oP Z Z ?_
    refine U<|Zt ?_
    rw[hres]
    exact cD (v:=J 0) Z Z ⟨rfl,A1,c1,H2,hr,hc⟩
  ·iterate 6 refine rF Z Z Z ?_
   refine wo Z Z Z ?_
   refine zK Z Z ?_
   iterate 2 refine rF Z Z Z ?_
   refine wo Z Z Z ?_
   refine U<|ZT Z<|W ?_
   refine Zr ?_
   refine Gy Z Z ?_
   refine JD Z Z ?_
   refine rW j7 Z Z ?_
   refine Ox H 0 iF Z Z Z (by simp) fun w2 H2=>U<|W ?_
   refine Zr ?_
   refine oP Z Z ?_
   refine U<|Zt ?_
   rw[hres]
   exact cD (v:=J 0) Z Z ⟨rfl,A1,c1,H2,hr,hc⟩
 ·have hb1:bad1=false:=by
   cases bad1
   ·rfl
   ·exact absurd (.inl Z) hstop
  subst hb1
  have hi:i<5:=by
   have:i≠5:=fun h=>hstop (.inr (.inr h))
   omega
  obtain⟨x,l2,rfl⟩: ∃ x l2,l1=x::l2:=by
   cases l1 with
   |nil=>exact absurd (.inr (.inl Z)) hstop
   |cons x l2=>exact⟨x,l2,rfl⟩
  have hx:x.toNat<256:=UInt8.toNat_lt _
  obtain⟨bb,o,rfl,-,hbl,hcl⟩:=hr.at_ (k:=0) (by simp)
  rw[if_neg (by decide),rn,if_neg I]at hrn
  have h7:2 ^ (7*i)<=2 ^ 28:=Nat.pow_le_pow_right (by decide) I
  have hmod:x.toNat%128<128:=jt _ (by decide)
  have hmul:x.toNat%128*2 ^ (7*i)<=128*2 ^ 28:=Nat.mul_le_mul I h7
  have h71:2 ^ (7*(i+1))=128*2 ^ (7*i):=by rw[Nat.mul_add,Nat.pow_add];omega
  have hmul2:x.toNat%128*2 ^ (7*i)<=127*2 ^ (7*i):=dg _ I
  refine ZG ?_
  refine Gy Z Z ?_
  refine ZG ?_
  refine JD Z Z ?_
  refine ZG ?_
  refine rW lP Z Z ?_
  refine ZG ?_
  refine vH H 0 d3 Z Z Z Z ?_
  refine ZG ?_
  refine uG eJ Z Z ?_
  refine ZG<|G0 Z Z (by simp;omega) Z ?_
  refine sg Z Z Z ?_
  refine zK Z Z ?_
  refine ZG ?_
  refine ip Z Z ?_
  refine ZG<|G0 Z Z I Z ?_
  refine sg Z Z Z ?_
  refine U<|ZF Z<|Zk<|W ?_
  refine Zr ?_
  refine Gy Z Z ?_
  refine JD Z Z ?_
  refine rW lP Z Z ?_
  refine vH H 0 d3 Z Z Z Z ?_
  refine Ot d4 Z Z I (by simp) Z ?_
  refine ld mh Z ((H.below.cell (p:=⟨bb,_,none⟩) hbl).trans (hcl 0 _ Z)) Z ?_
  refine M3 ig ik Z (uR (n:=x.toNat) I) Z ?_
  refine oP Z Z ?_
  refine U<|W ?_
  refine Zr ?_
  refine Gy Z Z ?_
  refine Gy Z Z ?_
  refine JD Z Z ?_
  refine rW lP Z Z ?_
  refine vH H 0 d3 Z Z Z Z ?_
  refine sO d4 Z Z I (by simp;omega) hc Z ?_;intro A39 hA39
  refine JD Z Z ?_
  refine rW lP Z Z ?_
  refine PQ H 0 Cj Z Z Z (by simp) fun w2 H2=> ?_
  have hr2:Rd dy 0 w0.heap.size A39 l2 w0:=hr.from_ (k:=1) hA39 (fun h=>h)
  have H:Hp w0 w2 ((b,.cells #[.slice A39 l2.length (c1-1),.bool false] ua)::M) F:=H2
  have hc2:l2.length<=c1-1:=by simp only[bV]at hc;omega
  refine U<|W ?_
  refine Zr ?_
  refine ip Z Z ?_
  refine ip Z Z ?_
  refine G (Ny (a:=x.toNat) (b:=127) Z Z I I) ?_
  rw[LH]
  refine ip Z Z ?_
  refine mul Z Z I I Z ?_
  refine G (Nk (a:=x.toNat%128) (b:=7*i) (k:=.i64) Z (by simp;rfl) I I)<|G (Mt (a:=n) (b:=x.toNat%128*2 ^ (7*i)) Z Z I I) ?_
  rw[NR hn]
  refine oP Z Z ?_
  refine U<|W ?_
  refine Zr ?_
  refine ip Z Z ?_
  refine GE Z Z Z (fun h50=> ?_) (fun h50=> ?_)
  all_goals refine m8 ?_
  ·rw[if_pos I]at hrn
   refine ZT Z<|W ?_
   refine Zr ?_
   refine Gy Z Z ?_
   refine ip Z Z ?_
   by_cases hx0:x.toNat=0
   ·refine K9 Z Z I Z ?_
    refine zK Z Z ?_
    refine ZG ?_
    refine ip Z Z ?_
    refine ZG<|G (j0 (a:=(i:Int)) (b:=0) Z Z) ?_
    refine wo Z Z Z ?_
    refine JD Z Z ?_
    refine rW j7 Z Z ?_
    refine Ox H 0 iF Z Z Z (by simp) fun w3 H3=>U<|W ?_
    refine Zr ?_
    refine ip Z Z ?_
    refine oP Z Z ?_
    refine U<|Zt ?_
    rw[<-hrn]
    have e:(decide (x.toNat=0)&&decide (0<i))=decide ((0:Int)<i):=by
     rw[decide_eq_true hx0,gR];exact decide_eq_decide.2 I
    rw[e]
    exact cD (v:=J (n+x.toNat%128*2 ^ (7*i):Nat)) Z Z ⟨rfl,A39,c1-1,H3,hr2,hc2⟩
   ·refine G0 Z Z I Z ?_
    refine zK Z Z ?_
    iterate 2 refine rF Z Z Z ?_
    refine sg Z Z Z ?_
    refine JD Z Z ?_
    refine rW j7 Z Z ?_
    refine Ox H 0 iF Z Z Z (by simp) fun w3 H3=>U<|W ?_
    refine Zr ?_
    refine ip Z Z ?_
    refine oP Z Z ?_
    refine U<|Zt ?_
    rw[<-hrn]
    have e:(decide (x.toNat=0)&&decide (0<i))=false:=by rw[decide_eq_false hx0];rfl
    rw[e]
    exact cD (v:=J (n+x.toNat%128*2 ^ (7*i):Nat)) Z Z ⟨rfl,A39,c1-1,H3,hr2,hc2⟩
  ·rw[if_neg I]at hrn
   refine ZF Z<|Zk ?_
   refine Zr ?_
   refine ip Z Z ?_
   refine add Z Z I I Z ?_
   refine oP Z Z ?_
   refine U ?_
   refine⟨(i+1,n+x.toNat%128*2 ^ (7*i),l2,false),⟨by omega,by rw[h71];omega,by rw[<-hrn];rfl,A39,c1-1,H,hr2,hc2⟩,kO Z Z,by repeat (first|exact mE|refine ln Z ?_|refine jz _ Z ?_),by show l2.length<l2.length+1;omega⟩
/-- an entry out of a body -/
def sX (c:UInt8) (l:List UInt8):cN×Bool:=
 let q1:=EE l false
 let q2:=EE q1.2.1 q1.2.2
 let q3:=EE q2.2.1 q2.2.2
 let q4:=EE q3.2.1 q3.2.2
 (⟨(q1.1:Nat),(q2.1:Nat),(q3.1:Nat),(q4.1:Nat),(c.toNat&&&15:Nat),!decide (((c.toNat&&&16:Nat):Int)=0),⟨q4.2.1.toArray⟩⟩,q4.2.2)
def t8 (c:UInt8) (l:List UInt8):Bool:=!(sX c l).2&&decide (c.toNat<32)&&decide (eC (sX c l).1=0)
theorem M7 (c0:UInt8) (l:List UInt8) (A:Option Addr) (c:Nat) (w:World) (hr:Rd dy 0 w.heap.size A (c0::l) w) (hc:(c0::l).length<=c):
  dd aa E8 [.slice A (c0::l).length c] w fun v w2=>v=.tuple #[(sX c0 l).1.v,.bool (t8 c0 l)]/\Below w.heap.size w w2:=by
 obtain⟨bb,o,rfl,-,hbl,hcl⟩:=hr.at_ (k:=0) (by simp)
 have hc0:c0.toNat<256:=UInt8.toNat_lt _
 refine aD DD Z Z ?_
 have H:=Hp.start w
 refine W ?_
 refine Zr ?_
 refine eH H f7 Z ?_;intro w1 b2 H
 refine OS Z Z ?_
 refine U<|W ?_
 refine Zr ?_
 refine l7 Z Z ?_
 refine sO d4 Z Z I (by simp;omega) hc Z ?_;intro A7 hA7
 have hr7:Rd dy 0 w.heap.size A7 l w:=hr.from_ (k:=1) hA7 (fun h=>h)
 have hc7:l.length<=c-1:=by simp only[bV]at hc;omega
 refine G (v:=.agg #[.slice A7 l.length (c-1),.bool false]) (bi Ih JH Z) ?_
 refine fQ H Z Z ?_;intro w2 b9 H
 refine P8 Z Z ?_
 refine U<|W ?_
 have hcl2:=fun(w':World) (hw':oD w2 w')=>((H.later hw').below.cell (p:=⟨bb,_,none⟩) hbl).trans (hcl 0 _ Z)
 refine bz bX [0,1,2,3,4,5,6,7,8,9,10,11] [12] [11] [0,1,3,4,5,6,8,9,10] (sp [(11,Sp.blk w2.heap.size (.agg #[J 0,J 0,J 0,J 0,J 0,.bool false,.string ⟨#[]⟩]) dt)]) N N N N Nq (cF _) ?_
 refine aw Z Z Z Z Z (fun _ _=>ie Z) ?_
 refine aw Z Z Z Z Z (fun _ _=>sS d4 Z Z I (by simp)) ?_
 refine aw Z Z Z Z Z (fun w' hw'=>aT mh Z (hcl2 w' hw')) ?_
 refine aw Z Z Z Z Z (fun _ _=>LG (a:=c0.toNat) (b:=15) Z Z I I) ?_
 refine aw Z Z Z Z Z (fun _ _=>CI ig ik Z (uR (n:=c0.toNat&&&15) (ma (Hh I)))) ?_
 refine aw Z Z Z Z Z (fun _ _=>ie Z) ?_
 refine aw Z Z Z Z Z (fun _ _=>sS d4 Z Z I (by simp)) ?_
 refine aw Z Z Z Z Z (fun w' hw'=>aT mh Z (hcl2 w' hw')) ?_
 refine aw Z Z Z Z Z (fun _ _=>LG (a:=c0.toNat) (b:=16) Z Z I I) ?_
 refine aw Z Z Z Z Z (fun _ _=>iL (k:=.u8) (a:=((c0.toNat&&&16:Nat):Int)) (b:=0) Z Z) ?_
 refine aw (v:=.agg (cN.c ⟨0,0,0,0,(c0.toNat&&&15:Nat),!decide (((c0.toNat&&&16:Nat):Int)=0),⟨#[]⟩⟩).toArray) Z Z Z Z Z (fun _ _=>bi nR f7 Z)<|Nx f7 Z Z Z Z (fun w' w2 b hC hb hh=>⟨b,rfl,aS hC.size hb,hh⟩) ?_
 rintro _ ⟨_,_,b5,rfl,_,_⟩
 refine aR ?_
 rintro w3 hw3 ⟨-,b,he,hge,hb5⟩
 cases he
 replace H:=(H.adoptNew hw3 hb5 hge).swap
 refine J0 H 1 eQ Z Z Z Z Z Z ?_;intro w4 H
 refine U<|W ?_
 refine Zr ?_
 refine Gy Z Z ?_
 refine cd io (sf (l:=l) (bad:=false) H hr7 hc7) Z Z ?_;rintro _ w5 ⟨rfl,A1,c1,H1,hr1,hc1⟩
 refine Gy Z Z ?_
 refine cd io (sf H1 hr1 hc1) Z Z ?_;rintro _ w6 ⟨rfl,A2,c2,H2,hr2,hc2⟩
 refine Gy Z Z ?_
 refine cd io (sf H2 hr2 hc2) Z Z ?_;rintro _ w7 ⟨rfl,A3,c3,H3,hr3,hc3⟩
 refine Gy Z Z ?_
 refine cd io (sf H3 hr3 hc3) Z Z ?_;rintro _ w8 ⟨rfl,A4,c4,H4,hr4,hc4⟩
 generalize hE:sX c0 l=E
 have hEE:E=_:=hE.symm
 unfold sX at hEE
 simp only at hEE
 generalize hq1:EE l false=q1 at*
 generalize hq2:EE q1.2.1 q1.2.2=q2 at*
 generalize hq3:EE q2.2.1 q2.2.2=q3 at*
 generalize hq4:EE q3.2.1 q3.2.2=q4 at*
 obtain⟨n1,l1,x1⟩:=q1
 obtain⟨n2,l2,x2⟩:=q2
 obtain⟨n3,l3,x3⟩:=q3
 obtain⟨n4,l4,x4⟩:=q4
 dsimp only at*
 clear H H1 H2 H3 hr1 hr2 hr3 hc1 hc2 hc3 hq1 hq2 hq3 hq4
 refine rW nt Z Z ?_
 refine OZ H4 1 bI Z Z Z (fc Z) ?_;intro w9 H
 refine rW fe Z Z ?_
 refine OZ H 1 bI Z Z Z (fc Z) ?_;intro w10 H
 refine rW ez Z Z ?_
 refine OZ H 1 bI Z Z Z (fc Z) ?_;intro w11 H
 refine rW eY Z Z ?_
 refine OZ H 1 bI Z Z Z (fc Z) ?_;intro w12 H
 refine U<|W ?_
 refine Zr ?_
 refine Gy Z Z ?_
 refine JD Z Z ?_
 refine rW lP Z Z ?_
 refine vH H 0 d3 Z Z Z Z ?_
 refine Go.Eng.l1 (N8 d4 ig ji Z Z (fun _=>rfl) (hr4.below H.below)) Z Z Z ?_
 refine rW p7 Z Z ?_
 refine PP H 1 zu Z Z Z (fc Z) ?_;intro w13 H
 refine U ?_
 have H:Hp w w13 [(b9,.cells #[.slice A4 l4.length c4,.bool x4] ua),(b5,.cells E.1.c.toArray dt),(b2,.cells (cN.c ⟨0,0,0,0,0,false,⟨#[]⟩⟩).toArray dt)] []:=by rw[hEE];exact H
 have hx4:E.2=x4:=by rw[hEE]
 have hcl3:=fun(w':World) (hw':oD w13 w')=>((H.later hw').below.cell (p:=⟨bb,_,none⟩) hbl).trans (hcl 0 _ Z)
 obtain⟨E,x5⟩:=E
 dsimp only at*
 subst hx4
 clear hEE
 refine W ?_
 refine bz bX [0,1,2,3,4,5,6,7,8,9,10,11,12,13,14,15,16] [17,18] [14] [1,2,3,5,6,7,8,10,11,12,15,16] (sp [(14,Sp.one (J (eC E)))]) N N N N Nq (cF _) ?_
 refine aw Z Z Z Z Z (fun w' hw'=>jw dD Z ((H.later hw').ent (i:=1) Z) Z) ?_
 refine aw Z Z Z Z Z (fun _ _=>ie Z) ?_
 refine aw Z Z Z Z Z (fun _ _=>aI Z) ?_
 refine aw Z Z Z Z Z (fun _ _=>Zf j7 Z) ?_
 refine aw Z Z Z Z Z (fun w' hw'=>aT dP Z (aB ((H.later hw').ent (i:=0) Z) Z)) ?_
 refine aw Z Z Z Z Z (fun _ _=>dK Z) ?_
 refine aw Z Z Z Z Z (fun _ _=>ie Z) ?_
 have hob:t8 c0 l=(!x5&&decide (c0.toNat<32)&&decide (eC E=0)):=by unfold t8;rw[hE]
 rw[hob]
 cases x5
 ·refine aw Z Z Z Z Z (fun _ _=>ie Z) ?_
  refine aw Z Z Z Z Z (fun _ _=>sS d4 Z Z I (by simp)) ?_
  refine aw Z Z Z Z Z (fun w' hw'=>aT mh Z (hcl3 w' hw')) ?_
  refine aw Z Z Z Z Z (fun _ _=>cG (k:=.u8) (a:=(c0.toNat:Int)) (b:=32) Z Z) ?_
  refine aw Z Z Z Z Z (fun _ _=>Ki Z Z) ?_
  refine aw Z Z Z Z Z (fun _ _=>ie Z) ?_
  have h32:decide ((c0.toNat:Int)<32)=decide (c0.toNat<32):=decide_eq_decide.2 I
  rw[h32]
  cases h:decide (c0.toNat<32)
  ·iterate 3 refine eO Z Z Z Z ?_
   refine aw Z Z Z Z Z (fun _ _=>Hv Z Z) ?_
   refine aR ?_
   intro w' hw' hF;replace H:=H.later hw';clear hw'
   refine J0 H 2 eQ Z Z Z Z Z Z ?_;intro w15 H
   refine OS Z Z<|U<|Zt ?_
   exact KZ Z dD Z (H.ent (i:=2) Z) Z Z ⟨rfl,H.below⟩
  ·refine aw Z Z Z Z Z (fun w' hw'=>jw dD Z ((H.later hw').ent (i:=1) Z) Z) ?_
   refine yz rq Z Z Z Z (fun w' _=>(xn E w').mono (fun v w2 ⟨h1,h2⟩=>⟨h2,h1⟩)) Z ?_
   rintro _ ⟨_,_,rfl⟩
   refine aw Z Z Z Z Z (fun _ _=>bl Z Z) ?_
   refine aw Z Z Z Z Z (fun _ _=>Ki Z Z) ?_
   refine aR ?_
   intro w' hw' hF;replace H:=H.later hw';clear hw'
   refine J0 H 2 eQ Z Z Z Z Z Z ?_;intro w15 H
   refine OS Z Z<|U<|Zt ?_
   exact KZ Z dD Z (H.ent (i:=2) Z) Z Z ⟨rfl,H.below⟩
 ·iterate 4 refine eO Z Z Z Z ?_
  refine aw Z Z Z Z Z (fun _ _=>Hv Z Z) ?_
  refine aw Z Z Z Z Z (fun _ _=>ie Z) ?_
  iterate 3 refine eO Z Z Z Z ?_
  refine aw Z Z Z Z Z (fun _ _=>Hv Z Z) ?_
  refine aR ?_
  intro w' hw' hF;replace H:=H.later hw';clear hw'
  refine J0 H 2 eQ Z Z Z Z Z Z ?_;intro w15 H
  refine OS Z Z<|U<|Zt ?_
  exact KZ Z dD Z (H.ent (i:=2) Z) Z Z ⟨rfl,H.below⟩
/-- the entry that is first, and how many bytes it takes -/
def tm:List UInt8->Option (cN×Nat)
 |[]=>none
 |n::r=>
  if n.toNat=0∨r.length<n.toNat+2 then none
  else if me (r.take n.toNat)≠(r.getD n.toNat 0).toNat*256+(r.getD (n.toNat+1) 0).toNat then none
  else if t8 (r.headD 0) (r.take n.toNat).tail=true then some ((sX (r.headD 0) (r.take n.toNat).tail).1,n.toNat+3)else none
inductive HY:List UInt8->List cN->Nat->Prop
 |stop {l:List UInt8} (h:tm l=none):HY l [] 0
 |go {l:List UInt8} {e:cN} {k n:Nat} {es:List cN} (h:tm l=some (e,k)) (hd:HY (l.drop k) es n):HY l (e::es) (k+n)
theorem OB {a b:Nat} (hb:b<256):a*2 ^ 8|||b=a*256+b:=by
 have:=rX (i:=8) (b:=b) (by simpa using hb) a
 rw[CR,<-this]
theorem Ma {l:List UInt8} {e:cN} {k:Nat} (h:tm l=some (e,k)):4<=k/\k<=l.length:=by
 cases l with
 |nil=>cases h
 |cons n r=>
  simp only[tm]at h
  split at h;· cases h
  split at h;· cases h
  split at h
  injection h with h;injection h with h1 h2
  rename_i h3 _ _
  simp only[bV]
  omega
  cases h
theorem rM (l:List UInt8) (A:Option Addr) (c:Nat) (w:World) (hr:Rd dy 0 w.heap.size A l w) (hc:l.length<=c) (hbd:l.length<=1000000000000):
  dd aa Bu [.slice A l.length c] w fun v w2=> ∃ es n A' c',v=.tuple #[.slice A' es.length c',J (n:Nat)]/\HY l es n/\Rd gJ w.heap.size w2.heap.size A' es w2/\es.length<=c'/\Below w.heap.size w w2:=by
 refine aD Ao Z Z ?_
 have H:=Hp.start w
 refine W ?_
 refine Zr ?_
 refine uO Z Z ?_
 refine oP Z Z ?_
 refine U<|W ?_
 refine Zr ?_
 refine uO Z Z ?_
 refine U<|W ?_
 refine Zr ?_
 refine oP Z Z ?_
 refine U<|W<|Zb ?_
 refine ce (τ:=Nat×List cN×Option Addr×Nat) [4,5,6,7,8,9,10,11,12,13,14,15,16,17,18,19,20,21,22,23,24,25,26,27,28,29,30,31,32,33,34,35,36,37,38,39,40,41,42,43,44,45,46,47,48,49,50,51,52,53,54,55,56,57,58,59,60,61,62,63,64,65,66,67,68,69,70,71,72,73]
  (fun(at_,out,A1,c1)=>[(4,.slice A1 out.length c1),(5,J (at_:Nat))])
  (fun(at_,out,A1,c1) w'=>at_<=l.length/\out.length<=at_/\(∀ es n,HY (l.drop at_) es n->HY l (out++es) (at_+n))/\ ∃ L',gd gJ (.slice A1 out.length c1) dt out L'/\Hp w w' ([]++L'++[]) [])
  (fun(at_,_,_,_)=>l.length-at_) (0,[],none,0) ⟨by omega,by simp,fun es n h=>by simpa using h,[],gd.nil,H⟩ (kO Z Z) ?_
 rintro⟨at_,out,A1,c1⟩ ρ1 w1 ⟨hat,hout,hdec,L1,ho,H⟩
 show CW _ _ _ _ (dC (gC _ _ ρ1) [(4,.slice A1 out.length c1),(5,J (at_:Nat))]) w1
 have hfin: ∀ {w2:World},tm (l.drop at_)=none->Hp w w2 ([]++L1++[]) []-> ∃ es n A' c',(Value.tuple #[.slice A1 out.length c1,J (at_:Nat)])=.tuple #[.slice A' es.length c',J (n:Nat)]/\HY l es n/\Rd gJ w.heap.size w2.heap.size A' es w2/\es.length<=c'/\Below w.heap.size w w2:=fun hs H=>by
  have hd:=hdec [] 0 (.stop hs)
  rw[aX,rY]at hd
  obtain⟨A2,c2,he,hlc,-⟩:=ho.form
  injection he with h1 h2 h3
  subst h3
  exact⟨out,at_,A1,c1,rfl,hd,ho.rd H,hlc,H.below⟩
 refine W<|W ?_
 refine Zr ?_
 refine ip Z Z ?_
 refine l7 Z Z ?_
 refine uG eJ Z Z ?_
 refine GE Z Z Z (fun h13=> ?_) (fun h13=> ?_)
 all_goals refine m8 ?_
 ·refine pB Z ?_
  refine Zk ?_
  have hlt:at_<l.length:=by omega
  obtain⟨bb,o,hA,-,hbl,hcl0⟩:=hr.at_ hlt
  subst hA
  have hcl: ∀ {k:Nat} (hk:k<l.length) (w':World),Below w.heap.size w w'->w'.cell? ⟨bb,o+k*1,none⟩=some (.int .u8 (l[k].toNat:Nat)):=fun{k} hk w' hb=>by
   obtain⟨bb',o',hA,-,hbl,hcl⟩:=hr.at_ hk
   injection hA with hA
   injection hA with h1 h2
   subst h1;subst h2
   exact(hb.cell (p:=⟨bb,_,none⟩) hbl).trans (hcl 0 _ Z)
  have hd0:l.drop at_=l[at_]::l.drop (at_+1):=mI hlt
  have hx:=hcl hlt
  have h256:l[at_].toNat<256:=UInt8.toNat_lt _
  generalize hn:l[at_].toNat=n at*
  refine Zb<|W ?_
  refine Zr ?_
  refine l7 Z Z ?_
  refine ip Z Z ?_
  refine Ot d4 Z Z I I Z ?_
  refine ld mh Z (hx _ H.below) Z ?_
  refine M3 ig ik Z (uR (n:=n) I) Z ?_
  refine oP Z Z ?_
  refine U<|W<|W ?_
  refine Zr ?_
  refine ip Z Z ?_
  by_cases hstop:n=0∨l.length<at_+n+3
  ·have hs:tm (l.drop at_)=none:=by
    rw[hd0,tm,hn,if_pos]
    rw[dE];omega
   by_cases hn0:n=0
   ·refine K9 Z Z I Z ?_
    refine zK Z Z ?_
    iterate 7 refine rF Z Z Z ?_
    refine wo Z Z Z ?_
    refine U<|ZT Z<|Zx<|W ?_
    refine Zr ?_
    refine l7 Z Z ?_
    refine ip Z Z ?_
    refine uO Z Z ?_
    refine oP Z Z ?_
    refine U<|Zt ?_
    exact l5 Z Z Z (hfin hs H)
   ·refine G0 Z Z I Z ?_
    refine zK Z Z ?_
    refine ZG ?_
    refine ip Z Z ?_
    refine ZG ?_
    refine ip Z Z ?_
    refine ZG ?_
    refine add Z Z I I Z ?_
    refine ZG ?_
    refine add Z Z I I Z ?_
    refine ZG ?_
    refine l7 Z Z ?_
    refine ZG ?_
    refine uG eJ Z Z ?_
    refine ZG<|N1 Z Z I Z ?_
    refine sg Z Z Z ?_
    refine U<|ZT Z<|Zx<|W ?_
    refine Zr ?_
    refine l7 Z Z ?_
    refine ip Z Z ?_
    refine uO Z Z ?_
    refine oP Z Z ?_
    refine U<|Zt ?_
    exact l5 Z Z Z (hfin hs H)
  have hn0:n≠0:=fun h=>hstop (.inl h)
  have hlen:at_+n+3<=l.length:=by omega
  refine G0 Z Z I Z ?_
  refine zK Z Z ?_
  refine ZG ?_
  refine ip Z Z ?_
  refine ZG ?_
  refine ip Z Z ?_
  refine ZG ?_
  refine add Z Z I I Z ?_
  refine ZG ?_
  refine add Z Z I I Z ?_
  refine ZG ?_
  refine l7 Z Z ?_
  refine ZG ?_
  refine uG eJ Z Z ?_
  refine ZG<|N2 Z Z I Z ?_
  refine sg Z Z Z ?_
  refine U<|ZF Z<|Zk<|W ?_
  refine Zr ?_
  refine l7 Z Z ?_
  refine ip Z Z ?_
  refine add Z Z I I Z ?_
  refine ip Z Z ?_
  refine add Z Z I I Z ?_
  refine ip Z Z ?_
  refine add Z Z I I Z ?_
  refine Ni d4 Z Z Z I I I Z ?_;intro A37 hA37
  have e1:((at_:Int)+1).toNat=at_+1:=by omega
  have e2:((at_:Int)+1+n).toNat- (at_+1)=n:=by omega
  rw[e1]at hA37⊢
  rw[e2]
  have hrx:Rd dy 0 w.heap.size A37 ((l.drop (at_+1)).take n) w:=(hr.from_ hA37 (fun h=>by omega)).take n
  have hxl:((l.drop (at_+1)).take n).length=n:=by rw[aH,dE];omega
  refine uO Z Z ?_
  refine U ?_
  have hg1:(l.drop (at_+1)).getD n 0=l[at_+n+1]:=by
   rw[bW,dI,show at_+1+n=at_+n+1 by omega,ah I];rfl
  have hg2:(l.drop (at_+1)).getD (n+1) 0=l[at_+n+2]:=by
   rw[bW,dI,show at_+1+(n+1)=at_+n+2 by omega,ah I];rfl
  have hc1:=hcl (k:=at_+n+1) I
  have hc2:=hcl (k:=at_+n+2) I
  have hb1:l[at_+n+1].toNat<256:=UInt8.toNat_lt _
  have hb2:l[at_+n+2].toNat<256:=UInt8.toNat_lt _
  generalize l[at_+n+1]=x1 at*
  generalize l[at_+n+2]=x2 at*
  generalize hX:(l.drop (at_+1)).take n=X at*
  have hstep:tm (l.drop at_)=if me X≠x1.toNat*256+x2.toNat then none else if t8 (X.headD 0) X.tail=true then some ((sX (X.headD 0) X.tail).1,n+3)else none:=by
   rw[hd0,tm,hn,if_neg (by rw[dE];omega),hX,hg1,hg2]
   have:(l.drop (at_+1)).headD 0=X.headD 0:=by
    rw[<-hX]
    cases h:l.drop (at_+1)with
    |nil=>simp
    |cons a r=>
     cases n with
     |zero=>exact absurd Z hn0
     |succ n=>rfl
   rw[this]
  have hcy1:((at_:Int)+n+1).toNat=at_+n+1:=by omega
  have hcy2:((at_:Int)+n+2).toNat=at_+n+2:=by omega
  rw[<-hcy1]at hc1
  rw[<-hcy2]at hc2
  have hor:x1.toNat*2 ^ 8|||x2.toNat=x1.toNat*256+x2.toNat:=OB hb2
  have hslt:=C5 X
  refine W<|W ?_
  refine bz bX [0,2,3,4,5,6,7,8,9,10,11,12,13,14,15,16,17,18,19,1,20] [] [1] [0,2,3,4,5,6,7,9,10,11,12,13,14,15,16,18,19,20] (sp [(1,Sp.one (J (me X:Nat)))]) N N N N Nq (cF _) ?_
  refine aw Z Z Z Z Z (fun _ _=>ie Z) ?_
  refine aw Z Z Z Z Z (fun _ _=>ie Z) ?_
  refine aw Z Z Z Z Z (fun _ _=>ie Z) ?_
  refine aw Z Z Z Z Z (fun _ _=>ie Z) ?_
  refine aw Z Z Z Z Z (fun _ _=>br Z Z I I) ?_
  refine aw Z Z Z Z Z (fun _ _=>br Z Z I I) ?_
  refine aw Z Z Z Z Z (fun _ _=>sS d4 Z Z I I) ?_
  refine aw Z Z Z Z Z (fun w' hw'=>aT mh Z (hc1 w' (H.later hw').below)) ?_
  refine aw Z Z Z Z Z (fun _ _=>CI ig ik Z (uR (n:=x1.toNat) I)) ?_
  refine aw Z Z Z Z Z (fun _ _=>Nk (a:=x1.toNat) (b:=8) (k:=.u64) Z Z I I) ?_
  refine aw Z Z Z Z Z (fun _ _=>ie Z) ?_
  refine aw Z Z Z Z Z (fun _ _=>ie Z) ?_
  refine aw Z Z Z Z Z (fun _ _=>ie Z) ?_
  refine aw Z Z Z Z Z (fun _ _=>br Z Z I I) ?_
  refine aw Z Z Z Z Z (fun _ _=>br Z Z I I) ?_
  refine aw Z Z Z Z Z (fun _ _=>sS d4 Z Z I I) ?_
  refine aw Z Z Z Z Z (fun w' hw'=>aT mh Z (hc2 w' (H.later hw').below)) ?_
  refine aw Z Z Z Z Z (fun _ _=>CI ig ik Z (uR (n:=x2.toNat) I)) ?_
  refine aw Z Z Z Z Z (fun _ _=>Mt (a:=x1.toNat*2 ^ 8) (b:=x2.toNat) Z Z I I) ?_
  rw[hor]
  refine yz yx Z Z Z Z (fun w' hw'=>(JV X A37 (c- (at_+1)) w' ((hrx.below (H.later hw').below).mono (ao _) (H.later hw').size) I).mono (fun v w2 ⟨h1,h2⟩=>⟨h2,h1⟩)) (by rw[hxl];rfl) ?_
  rintro _ ⟨_,_,rfl⟩
  by_cases hsum:me X=x1.toNat*256+x2.toNat
  ·refine aw Z Z Z Z Z (fun _ _=>bU Z Z I) ?_
   refine aR ?_
   intro w' hw' hF;replace H:=H.later hw';clear hw' hF
   refine U<|ZF Z<|Zk ?_
   obtain⟨c0,X',rfl⟩: ∃ c0 X',X=c0::X':=by
    cases X with
    |nil=>simp at hxl;omega
    |cons a X=>exact⟨a,X,rfl⟩
   rw[if_neg I]at hstep
   refine W ?_
   refine Zr ?_
   refine l7 Z Z ?_
   rw[<-hxl]
   refine cd DV (M7 c0 X' A37 _ _ ((hrx.below H.below).mono (ao _) H.size) (by rw[hxl];omega)) Z Z ?_;rintro _ w2 ⟨rfl,hb2⟩;replace H:=H.later hb2
   rw[hxl]
   refine PX Z Z ?_
   refine PA Z Z Z ?_
   refine PA Z Z Z ?_
   refine eH H f7 Z ?_;intro w3 b8 H
   refine J0 H 0 eQ Z Z Z Z Z Z ?_;intro w4 H
   refine OS Z Z ?_
   refine U<|W<|W ?_
   refine Zr ?_
   refine zK Z Z ?_
   refine not Z Z ?_
   refine U ?_
   refine jf (b:=!t8 c0 X') Z (fun hb=> ?_) (fun hb=> ?_)
   ·rw[if_neg (by simpa using hb)]at hstep
    refine Zx<|W ?_
    refine Zr ?_
    refine l7 Z Z ?_
    refine ip Z Z ?_
    refine uO Z Z ?_
    refine oP Z Z ?_
    refine U<|Zt ?_
    exact l5 Z Z Z (hfin hstep (H.forget (by simp) (fun _ h=>h)))
   ·rw[if_pos (by simpa using hb)]at hstep
    refine Zk<|W ?_
    refine Zr ?_
    refine l7 Z Z ?_
    refine Py H 0 dD Z Z Z Z ?_
    refine sW (vs:=[.agg _]) H dR f7 Z Z Z Z Z Z ?_;intro w5 b68 H5
    refine vT (Y:=gJ) Ju (K:=[_,_]) (L:=L1) (M:=[]) H5 ho (news:=[(sX c0 X').1]) Z Z Z ?_ (by simp only[bO];omega) Z ?_
    ·exact vX.row (m:=1) (sz:=7) (H5.ent (i:=0) Z) Z
    intro A6 c6 w6 L6 _ _ ho6 H6
    refine uO Z Z ?_
    refine U ?_
    refine Zr ?_
    refine ip Z Z ?_
    refine ip Z Z ?_
    refine add Z Z I I Z ?_
    refine add Z Z I I Z ?_
    refine oP Z Z ?_
    refine U ?_
    refine⟨(at_+(n+3),out++[(sX c0 X').1],A6,c6),⟨by omega,by simp;omega,fun es m hD=> ?_,L6,ho6,H6.forget (by simp) (fun _ h=>h)⟩,kO Z ?_,by repeat (first|exact mE|refine ln Z ?_|refine jz _ Z ?_),by show l.length- (at_+(n+3))<l.length-at_;omega⟩
    ·have:=hdec _ _ (.go hstep (by rw[jQ];exact hD))
     rw[aE,kM]
     exact this
    ·show Value.int .i64 _=Value.int .i64 _
     congr 1
  ·rw[if_pos hsum]at hstep
   refine aw Z Z Z Z Z (fun _ _=>jW Z Z I) ?_
   refine aR ?_
   intro w' hw' hF;replace H:=H.later hw';clear hw'
   refine U<|ZT Z<|Zx<|W ?_
   refine Zr ?_
   refine l7 Z Z ?_
   refine ip Z Z ?_
   refine uO Z Z ?_
   refine oP Z Z ?_
   refine U<|Zt ?_
   exact l5 Z Z Z (hfin hstep H)
 ·refine oq Z ?_
  refine Zx ?_
  have hs:tm (l.drop at_)=none:=by rw[ef I];rfl
  refine W ?_
  refine Zr ?_
  refine l7 Z Z ?_
  refine ip Z Z ?_
  refine uO Z Z ?_
  refine oP Z Z ?_
  refine U<|Zt ?_
  exact l5 Z Z Z (hfin hs H)
def rv (e:cN):Prop:=eC e=0
def bg (es:List cN):List UInt8:=es.flatMap iv
theorem zm (n:Nat) (h:n<256):(UInt8.ofNat n).toNat=n:=by simp[gN h]
theorem J8: ∀ (k n i m:Nat) (rest:List UInt8),n<128 ^ k->i+k<=5->(0<k)->(n≠0∨i=0)->rn i m (yH n++rest)=(m+n*2 ^ (7*i),rest,false)
 |0,_,_,_,_,_,_,h0,_=>absurd h0 (by decide)
 |k+1,n,i,m,rest,hn,hi,_,hz=>by
  by_cases h:n<=127
  rw[un h]
  simp only[qk,kF,rn]
  rw[if_neg I,zm n I,if_pos I,gN I]
  have:(decide (n=0)&&decide (0<i))=false:=by
   rcases hz with h|h
   simp[h]
   simp[h]
  rw[this]
  rw[Dg I]
  simp only[qk,rn]
  have hm:n%128<128:=jt _ (by decide)
  rw[if_neg I,zm _ I,if_neg I]
  have hk:k≠0:=by rintro rfl;simp at hn;omega
  rw[J8 k (n/128) (i+1) _ rest (by rw[Nat.pow_succ]at hn;exact yC I) I I (.inl I)]
  congr 1
  have e1:(n%128+128)%128=n%128:=by omega
  have e2:2 ^ (7*(i+1))=128*2 ^ (7*i):=by rw[Nat.mul_add,Nat.pow_add];omega
  rw[e1,e2]
  have e3:n/128*(128*2 ^ (7*i))=(n/128*128)*2 ^ (7*i):=(Nat.mul_assoc _ _ _).symm
  rw[e3,kM,<-cP]
  congr 2
  omega
theorem y1 {n:Nat} (hn:n<=1073741824) (rest:List UInt8):EE (yH n++rest) false=(n,rest,false):=by
 unfold EE
 rw[if_neg (by decide),J8 5 n 0 0 rest I I I (.inr Z)]
 simp
theorem IT: ∀ k:Nat,k<4-> ∀ t:Bool,let c:=k+if t then 16 else 0;c<32/\(c&&&15)=k/\(!decide (((c&&&16:Nat):Int)=0))=t:=by decide
theorem Lw {e:cN} (h:rv e): ∃ c x,eK e=c::x/\t8 c x=true/\(sX c x).1=e:=by
 obtain⟨h1,h2,h3,h4,-⟩:=qH h
 refine⟨nY e,nW e.nums++e.text.data.toList,rfl,?_⟩
 obtain⟨ep,pid,ver,seq,kind,txn,text⟩:=e
 simp only[cN.nums,ax,cC,or_false,forall_eq_or_imp,forall_eq]at h3
 dsimp only at h1 h2
 obtain⟨a1,a2,a3,a4⟩:=h3
 obtain⟨n1,rfl⟩: ∃ n:Nat,ep=n:=⟨ep.toNat,by omega⟩
 obtain⟨n2,rfl⟩: ∃ n:Nat,pid=n:=⟨pid.toNat,by omega⟩
 obtain⟨n3,rfl⟩: ∃ n:Nat,ver=n:=⟨ver.toNat,by omega⟩
 obtain⟨n4,rfl⟩: ∃ n:Nat,seq=n:=⟨seq.toNat,by omega⟩
 obtain⟨k,rfl⟩: ∃ n:Nat,kind=n:=⟨kind.toNat,by omega⟩
 have hb:nW (cN.nums ⟨(n1:Nat),(n2:Nat),(n3:Nat),(n4:Nat),(k:Nat),txn,text⟩)++text.data.toList=yH n1++(yH n2++(yH n3++(yH n4++text.data.toList))):=by
  simp[nW,cN.nums]
 obtain⟨j1,j2,j3⟩:=IT k I txn
 have hkb:(nY ⟨(n1:Nat),(n2:Nat),(n3:Nat),(n4:Nat),(k:Nat),txn,text⟩).toNat=k+if txn then 16 else 0:=by
  unfold nY
  exact zm _ (by simp only[uc];exact Nat.lt_trans j1 (by decide))
 have hE:sX (nY ⟨(n1:Nat),(n2:Nat),(n3:Nat),(n4:Nat),(k:Nat),txn,text⟩) (yH n1++(yH n2++(yH n3++(yH n4++text.data.toList))))=(⟨(n1:Nat),(n2:Nat),(n3:Nat),(n4:Nat),(k:Nat),txn,text⟩,false):=by
  unfold sX
  simp only[y1 (show n1<=1073741824 by omega),y1 (show n2<=1073741824 by omega),y1 (show n3<=1073741824 by omega),y1 (show n4<=1073741824 by omega),hkb,j2,j3]
 dsimp only
 rw[hb]
 refine⟨?_,by rw[hE]⟩
 unfold t8
 rw[hE,hkb]
 simp[j1,show eC _=0 from h]
theorem AE (e:cN):(iv e).length=(eK e).length+3:=by simp[iv]
theorem Ew {e:cN} (h:rv e) (rest:List UInt8):tm (iv e++rest)=some (e,(iv e).length):=by
 obtain⟨hl,h0⟩:=uD h
 have hs:=C5 (eK e)
 obtain⟨c,x,h1,h2,h3⟩:=Lw h
 have e1:iv e++rest=UInt8.ofNat (eK e).length::(eK e++(UInt8.ofNat (me (eK e)/256)::UInt8.ofNat (me (eK e)%256)::rest)):=by simp[iv]
 rw[e1,tm,zm _ I,if_neg (by simp only[ay,bV];omega)]
 have t1:(eK e++(UInt8.ofNat (me (eK e)/256)::UInt8.ofNat (me (eK e)%256)::rest)).take (eK e).length=eK e:=i4
 have t2:(eK e++(UInt8.ofNat (me (eK e)/256)::UInt8.ofNat (me (eK e)%256)::rest)).getD (eK e).length 0=UInt8.ofNat (me (eK e)/256):=by
  rw[bW,cv (ao _),l9];rfl
 have t3:(eK e++(UInt8.ofNat (me (eK e)/256)::UInt8.ofNat (me (eK e)%256)::rest)).getD ((eK e).length+1) 0=UInt8.ofNat (me (eK e)%256):=by
  rw[bW,cv I,oy];rfl
 rw[t1,t2,t3,zm _ I,zm _ I,if_neg (fun h=>h (Nat.div_add_mod' _ _).symm)]
 have t4:(eK e++(UInt8.ofNat (me (eK e)/256)::UInt8.ofNat (me (eK e)%256)::rest)).headD 0=c:=by rw[h1];rfl
 rw[t4,AE]
 rw[h1]
 simp[h2,h3]
theorem HN: ∀ (es:List cN) (rest:List UInt8),(∀ e∈es,rv e)->tm rest=none->HY (bg es++rest) es (bg es).length
 |[],rest,_,h=> .stop h
 |e::es,rest,hg,h=>by
  have h1:=Ew (hg e (az ..)) (bg es++rest)
  have h2:=HN es rest (fun x hx=>hg x (ak _ hx)) h
  have e1:bg (e::es)++rest=iv e++(bg es++rest):=by simp[bg]
  have e2:(bg (e::es)).length=(iv e).length+(bg es).length:=by simp[bg]
  rw[e1,e2]
  exact .go h1 (by rw[List.drop_left];exact h2)
theorem pz {l:List UInt8} {es es':List cN} {n n':Nat} (h:HY l es n) (h':HY l es' n'):es=es'/\n=n':=by
 induction h generalizing es' n' with
 |stop h=>cases h' with
  |stop=>exact⟨rfl,rfl⟩
  |go h1 _=>rw[h]at h1;cases h1
 |go h hd ih=>cases h' with
  |stop h1=>rw[h]at h1;cases h1
  |go h1 hd1=>
   rw[h]at h1
   injection h1 with h1;injection h1 with h1 h2
   subst h1;subst h2
   obtain⟨a,b⟩:=ih hd1
   exact⟨by rw[a],by rw[b]⟩
theorem KU (e:cN):bg [e]=iv e:=by simp[bg]
theorem I5 {es:List cN} {k:Nat} (h:k<es.length):bg (es.take (k+1))=bg (es.take k)++iv es[k]:=by
 unfold bg
 rw[CS h,mK,List.flatMap_singleton]
theorem fd (es:List cN) (k:Nat):(bg (es.take k)).length<=(bg es).length:=by
 have:bg es=bg (es.take k)++bg (es.drop k):=by
  unfold bg;rw[<-mK,gG]
 rw[this,ay];omega
def e0:cN:=⟨0,1,0,0,2,true,⟨#[]⟩⟩
section
open Go.ChangeShapes Go.WideShapes Go.ChangeAt Go.RowKit Go.Eng
/-- the row's end, out of a function's contract -/
theorem Iu {f:FuncId} {vs:List Value} {w:World} (h:dd aa f vs w fun v w2=>v=.bool true/\Below w.heap.size w w2):Calls aa f vs.toArray w fun e w'=>e=.returned (.bool true)/\Below w.heap.size w w':=
 Calls.mono h fun _ _ ⟨_,he,hv,hb⟩=>⟨by rw[he,hv],hb⟩
end


/-- picked -/
def pk (n:Int) (m:Nat):Nat:=(if n<0 then(-(n+1)).toNat else n.toNat)%m
theorem iZ (n:Int) {m:Nat} (h:0<m):pk n m<m:=jt _ h
theorem dh (n:Int) (m:Nat) (w:World) (h1: -9223372036854775808<=n) (h2:n<=9223372036854775807) (hm:0<m) (hm2:m<=1000000000000):
  dd aa s7 [J n,J (m:Nat)] w fun v w2=>v=J (pk n m:Nat)/\Below w.heap.size w w2:=by
 refine aD sv Z Z ?_
 have H:=Hp.start w
 refine W ?_
 refine Zr ?_
 refine oP Z Z ?_
 refine U<|W ?_
 obtain⟨a,ha⟩: ∃ a:Nat,(if n<0 then(-(n+1)).toNat else n.toNat)=a:=⟨_,rfl⟩
 refine eE (τ:=Unit) [5,6,7,8,9,0] (fun _=>[(0,J (a:Nat))]) (fun _ w'=>Hp w w' [] []) ?_ ?_
 ·refine AG ?_
  refine Zr ?_
  refine ip Z Z ?_
  refine GE Z Z Z (fun h6=> ?_) (fun h6=> ?_)
  all_goals refine m8 ?_
  ·refine pB Z ?_
   refine Zr ?_
   refine ip Z Z ?_
   refine G (Oi Z Z I I)<|G (NU Z I I) ?_
   refine oP Z Z ?_
   refine U ?_
   have e: -(n+1)=(a:Nat):=by rw[if_pos h6]at ha;omega
   rw[e]
   refine⟨(),H,dF Z,by repeat (first|exact Ec.refl _ _|exact mE|refine ln Z ?_|refine jz _ Z ?_)⟩
  ·refine oq Z ?_
   refine Zk ?_
   have e:n=(a:Nat):=by rw[if_neg h6]at ha;omega
   subst e
   refine⟨(),H,dF Z,by repeat (first|exact Ec.refl _ _|exact mE|refine ln Z ?_|refine jz _ Z ?_)⟩
 rintro _ ρ1 w1 H
 show CW _ _ _ _ (dC (gC _ _ ρ1) [(0,J (a:Nat))]) w1
 refine W ?_
 refine Zr ?_
 refine ip Z Z ?_
 refine ip Z Z ?_
 refine rem Z Z I I Z ?_
 refine oP Z Z ?_
 refine U<|Zt ?_
 have e:((a:Int)%(m:Int))=(pk n m:Nat):=by unfold pk;rw[ha];rfl
 rw[e]
 exact cD (v:=J (pk n m:Nat)) Z Z ⟨rfl,H.below⟩
structure Hj where
 kind:Int
 a:Int
 b:Int
 c:Int
def Hj.cs (r:Hj):List Value:=[J r.kind,J r.a,J r.b,J r.c]
def Bn:fg Hj:=⟨Hj.cs,4,fun _=>rfl,by decide,fun a u hu=>by
 simp only[Hj.cs,ax,cC,or_false]at hu
 rcases hu with h|h|h|h<;>subst h<;>rfl⟩
def i64 (n:Int):Prop:= -9223372036854775808<=n/\n<=9223372036854775807
def Hj.ok (r:Hj):Prop:=i64 r.kind/\i64 r.a/\i64 r.b/\i64 r.c
def uU (n:Nat):List UInt8:=if h:n=0 then []else UInt8.ofNat (97+n%10)::uU (n/10)
termination_by n
decreasing_by omega
theorem B5 {n:Nat} (h:0<n):uU n=UInt8.ofNat (97+n%10)::uU (n/10):=by rw[uU,dif_neg I]
theorem vw:uU 0=[]:=by rw[uU];simp
theorem xl: ∀ (k n:Nat),n<10 ^ k->(uU n).length<=k
 |0,n,h=>by
  have:n=0:=by simpa using h
  subst this;rw[vw];simp
 |k+1,n,h=>by
  by_cases hn:n=0
  subst hn;rw[vw];simp
  rw[B5 I]
  have:=xl k (n/10) (by rw[Nat.pow_succ]at h;omega)
  simp;omega
def uT (n:Int):ByteArray:=⟨(uU (pk n 10000)).toArray⟩
theorem Oe (a b:List UInt8):(⟨a.toArray⟩:ByteArray)++⟨b.toArray⟩=⟨(a++b).toArray⟩:=by
 apply ByteArray.ext
 simp
theorem HZ (n:Int):(uT n).size<=4:=by
 have:=xl 4 (pk n 10000) (iZ n (by decide))
 simpa [uT,ByteArray.size]using this
theorem LT (n:Int) (w:World) (hn:i64 n):dd aa uH [J n] w fun v w2=>v=.string (uT n)/\Below w.heap.size w w2:=by
 refine aD tK Z Z ?_
 have H:=Hp.start w
 obtain⟨hn1,hn2⟩:=hn
 have hpk:=iZ n (show 0<10000 by decide)
 refine W<|Zr<|G (Wt Z)<|U<|W<|Zr<|G (Wt Z)<|U<|W<|W<|Zr<|G (Yi Z)<|cd aJ (dh _ 10000 _ I I (by decide) (by decide)) Z Z ?_
 rintro _ w1 ⟨rfl,hb⟩;replace H:=H.later hb;clear hb
 refine G (Wi Z)<|U<|Zb ?_
 refine ce (τ:=Nat×List UInt8) [0,3,6,7,8,9,10,11,12,13,14,15,16] (fun(m,s)=>[(0,J (m:Nat)),(3,.string ⟨s.toArray⟩)]) (fun(m,s) w'=>m<10000/\s++uU m=uU (pk n 10000)/\Hp w w' [] []) (fun(m,_)=>m) (pk n 10000,[]) ⟨hpk,rfl,H⟩ (kO Z Z) ?_
 rintro⟨m,s⟩ ρ1 w1 ⟨hm,hs,H⟩
 show CW _ _ _ _ (dC (gC _ _ ρ1) [(0,J (m:Nat)),(3,.string ⟨s.toArray⟩)]) w1
 have hsl:(⟨s.toArray⟩:ByteArray).size<=4:=by
  have h4:=xl 4 (pk n 10000) (by simpa using hpk)
  rw[<-hs,ay]at h4
  show s.toArray.size<=4
  simp;omega
 refine W<|W<|Zr<|G (Yi Z) ?_
 refine cT (j0 Z Z) Z Z Z (fun h7=> ?_) (fun h7=> ?_)
 ·
  refine U<|ZT Z<|Zk<|W<|Zb<|Zr<|G (Yt Z)<|G (Yi Z)<|G (Nl Z Z I I)<|G (br Z Z I I) ?_
  have e13:(97:Int)+(m:Int)%10=(97+m%10:Nat):=by omega
  rw[e13]
  refine G (CI ik Cv Z (NB I))<|G (N7 Cv ji Z Z I)<|G (NK Z Z (by simp only[ByteArray.size]at hsl⊢;simp at hsl⊢;omega)) ?_
  rw[show(⟨#[UInt8.ofNat (97+m%10)]⟩:ByteArray)=⟨[UInt8.ofNat (97+m%10)].toArray⟩from rfl,Oe]
  refine G (Wt Z)<|U<|Zr<|G (Yi Z)<|G (OA Z Z I I I)<|G (Wi Z)<|U ?_
  refine⟨(m/10,s++[UInt8.ofNat (97+m%10)]),⟨by omega,by rw[<-hs,B5 (n:=m) I];simp,H⟩,kO Z Z,by repeat (first|exact Ec.refl _ _|exact mE|refine ln Z ?_|refine jz _ Z ?_),by show m/10<m;omega⟩
 ·
  refine U<|ZF Z<|Zx<|W<|Zr<|G (Yt Z)<|G (Wt Z)<|U<|Zt ?_
  have hm0:m=0:=by omega
  subst hm0
  rw[vw,aX]at hs
  subst hs
  exact cD (v:=.string (uT n)) Z Z ⟨rfl,H.below⟩
def Hj.entry (r:Hj):cN:=
 let p:=pk r.b 4
 if p=0 then⟨pk r.a 4,0,0,0,1,false,uT r.c⟩
 else if pk r.kind 6=0∨pk r.kind 6=1 then⟨pk r.a 4,p,pk r.a 3,0,2+pk r.c 2,true,⟨#[]⟩⟩
 else⟨pk r.a 4,p,pk r.a 3,pk r.c 5,1,decide (((pk r.c 2:Nat):Int)=0),uT r.c⟩
section
open Go.ChangeShapes Go.WideShapes Go.ChangeAt Go.RowKit Go.Eng
theorem xm {n:Int} (h:(Lit.int .i64 n).wf=true):i64 n:=by
 have: -9223372036854775808<=n/\n<=9223372036854775807:=by simpa [Lit.wf,IntKind.min,IntKind.max,IntKind.signed,IntKind.bits]using h
 exact this
theorem LY:aa.underlying vo=some (.struct (aa.fieldsOf vo)):=by kernel_rfl
theorem Gi:(aa.fieldsOf vo).toList.map (fun f=>(f.offset,aa.cellsOf f.type))=[(0,1),(1,1),(2,1),(3,1)]:=by kernel_rfl
theorem Kd:((aa.fieldsOf vo).toList.all fun f=>oJ aa f.type .i64)=true:=by kernel_rfl
theorem yf:aa.cellsOf vo=4:=by kernel_rfl
theorem ww {P:Program} {t:TypeId} {k:IntKind} (h:oJ P t k=true):P.underlying t=some (.int k):=by
 unfold oJ at h
 split at h
 rename_i k' hk;rw[hk,of_decide_eq_true h]
 cases h
section
variable {H:Type} {enc:TypeId×Value->H} {w:World} {base:Nat} {sp:Nat->Bool} {held:Bool}
theorem Dd {P:Program} {t:TypeId} {fs:Array Field} (hu:P.underlying t=some (.struct fs)) (hp:fs.toList.map (fun f=>(f.offset,P.cellsOf f.type))=[(0,1),(1,1),(2,1),(3,1)]) (hi:(fs.toList.all fun f=>oJ P f.type .i64)=true) (hce:P.cellsOf t=4)
  {n:Nat} {cs:List Value} {x:DataW H×List MemPlace} (h:DataW.trod enc P w base sp held n t cs=some x): ∃ r:Hj,cs=r.cs/\r.ok:=by
 obtain⟨xs,k,_,_,hl,hlen,hf⟩:=DataW.trod_struct hu h
 rw[hce]at hl
 obtain⟨fs⟩:=fs
 have hl4:fs.length=4:=by have:=congrArg cu hp;simpa using this
 obtain⟨f0,f1,f2,f3,rfl⟩: ∃ a b c d,fs=[a,b,c,d]:=by
  match fs,hl4 with
  |[a,b,c,d],_=>exact⟨a,b,c,d,rfl⟩
 simp only[eF,mb,List.cons.injEq,Prod.mk.injEq,and_true]at hp
 obtain⟨⟨o0,c0⟩,⟨o1,c1⟩,⟨o2,c2⟩,o3,c3⟩:=hp
 simp only[List.all_cons,List.all_nil,aQ,and_true]at hi
 obtain⟨i0,i1,i2,i3⟩:=hi
 obtain⟨v0,v1,v2,v3,rfl⟩: ∃ a b c d,cs=[a,b,c,d]:=by
  match cs,hl with
  |[a,b,c,d],_=>exact⟨a,b,c,d,rfl⟩
 have g0:=hf 0 f0 rfl
 have g1:=hf 1 f1 rfl
 have g2:=hf 2 f2 rfl
 have g3:=hf 3 f3 rfl
 rw[o0,c0]at g0;rw[o1,c1]at g1;rw[o2,c2]at g2;rw[o3,c3]at g3
 have hx:xs.length=4:=by simpa using hlen
 obtain⟨x0,h0⟩: ∃ y,xs[0]? =some y:=⟨_,ah (by omega)⟩
 obtain⟨x1,h1⟩: ∃ y,xs[1]? =some y:=⟨_,ah (by omega)⟩
 obtain⟨x2,h2⟩: ∃ y,xs[2]? =some y:=⟨_,ah (by omega)⟩
 obtain⟨x3,h3⟩: ∃ y,xs[3]? =some y:=⟨_,ah (by omega)⟩
 rw[h0]at g0;rw[h1]at g1;rw[h2]at g2;rw[h3]at g3
 obtain⟨n0,e0,_,w0⟩:=DataW.trod_int (ww i0) g0
 obtain⟨n1,e1,_,w1⟩:=DataW.trod_int (ww i1) g1
 obtain⟨n2,e2,_,w2⟩:=DataW.trod_int (ww i2) g2
 obtain⟨n3,e3,_,w3⟩:=DataW.trod_int (ww i3) g3
 simp at e0 e1 e2 e3
 subst e0 e1 e2 e3
 exact⟨⟨n0,n1,n2,n3⟩,rfl,xm w0,xm w1,xm w2,xm w3⟩
theorem Iz {n:Nat} {cs:List Value} {x:DataW H×List MemPlace} (h:DataW.trod enc aa w base sp held n vo cs=some x): ∃ r:Hj,cs=r.cs/\r.ok:=
 Dd LY Gi Kd yf h
theorem J4 {α:Type} {Y:fg α} {T e:TypeId} (hT:aa.underlying T=some (.slice e)) (hce:aa.cellsOf e=Y.sz) (ok:α->Prop) (hel: ∀ n cs x,DataW.trod enc aa w base sp held n e cs=some x-> ∃ r:α,cs=Y.f r/\ok r)
  {A:Option Addr} {l c:Nat} {d:DataW H} {ps:List MemPlace} (h:DataW.Trod enc aa w base sp held T (.slice A l c) d ps):
  ∃ rs:List α,rs.length=l/\l<=c/\c<=maxLen/\Rd Y 0 w.heap.size A rs w/\ ∀ r∈rs,ok r:=by
 obtain⟨fuel,hf⟩:=h
 rcases Go.Deep.open_slice hT hf with⟨hcs,_⟩|⟨a,len,cap,m,n,D,Pl,hcs,_,hl,hm,hmm,_,hx⟩
 simp[Value.cells]at hcs
 obtain⟨rfl,rfl,rfl⟩:=hcs
 exact⟨[],rfl,ao _,bG _,Rd.nil,by simp⟩
 simp[Value.cells]at hcs
 obtain⟨rfl,rfl,rfl⟩:=hcs
 have hlm:l<=m:=by rw[hmm];split<;>omega
 have each: ∀ i,i<l-> ∃ r:α,ok r/\ ∀ j u,(Y.f r)[j]? =some u->w.cell? ((a.add (i*Y.sz)).add j)=some u:=by
  intro i hi
  obtain⟨cs',h1,h2⟩:=hx i (by omega)
  obtain⟨r,hr,hok⟩:=hel _ _ _ h2
  rw[hce]at h1
  obtain⟨_,hlen,hcell⟩:=World.cells?_some h1
  refine⟨r,hok,fun j u hj=> ?_⟩
  have hjl:j<Y.sz:=by
   have:=(aA.1 hj).1
   rwa[Y.len]at this
  rw[hcell j hjl,hr,hj]
 have build: ∀ k,k<=l-> ∃ rs:List α,rs.length=k/\(∀ r∈rs,ok r)/\ ∀ i r,rs[i]? =some r-> ∀ j u,(Y.f r)[j]? =some u->w.cell? ((a.add (i*Y.sz)).add j)=some u:=by
  intro k
  induction k with
  |zero=>intro _;exact⟨[],rfl,by simp,by simp⟩
  |succ k ih=>
   intro hk
   obtain⟨rs,h1,h2,h3⟩:=ih (by omega)
   obtain⟨r,hok,hr⟩:=each k (by omega)
   refine⟨rs++[r],by simp[h1],?_,?_⟩
   intro q hq
   rcases au.1 hq with hq|hq
   exact h2 q hq
   rw[aq.1 hq];exact hok
   intro i q hq
   by_cases hi:i<rs.length
   rw[cm hi]at hq;exact h3 i q hq
   rw[cv (by omega)]at hq
   have:i=k:=by
    have:=(aA.1 hq).1
    simp at this;omega
   subst this
   rw[<-h1]at hq hr⊢
   simp at hq
   rw[<-hq];exact hr
 obtain⟨rs,h1,h2,h3⟩:=build l (ao _)
 refine⟨rs,h1,hl,hm,fun h0=> ?_,h2⟩
 obtain⟨r0,hr0e⟩: ∃ r,rs[0]? =some r:=⟨_,ah h0⟩
 have hpos:0<(Y.f r0).length:=by rw[Y.len];exact Y.pos
 obtain⟨u0,hu0⟩: ∃ u,(Y.f r0)[0]? =some u:=⟨_,ah hpos⟩
 have hc0:=h3 0 r0 hr0e 0 u0 hu0
 have hz:(a.add (0*Y.sz)).add 0=a:=by simp[Addr.add]
 rw[hz]at hc0
 have hs:=World.cell?_spot hc0
 obtain⟨b,o,s⟩:=a
 simp only at hs
 subst hs
 refine⟨b,o,rfl,bG _,?_,fun j u hj=> ?_⟩
 unfold World.cell? at hc0
 split at hc0
 rename_i hb;exact bY hb
 cases hc0
 have hjl:j<rs.length*Y.sz:=by
  have:=(aA.1 hj).1
  rwa[fg.length]at this
 have hq:j/Y.sz<rs.length:=by rw[Nat.div_lt_iff_lt_mul Y.pos];exact hjl
 have hm2:j%Y.sz<Y.sz:=jt _ Y.pos
 have hdm:j/Y.sz*Y.sz+j%Y.sz=j:=Nat.div_add_mod' j Y.sz
 have hg:=fg.get (Y:=Y) hq hm2
 rw[hdm,hj]at hg
 have:=h3 (j/Y.sz) _ (ah hq) (j%Y.sz) u hg.symm
 rw[Addr.add_lit,Addr.add_lit,kM,hdm]at this
 exact this
end
end
section
open Go.ChangeShapes Go.WideShapes Go.ChangeAt Go.RowKit
theorem JM (r:List Char):wordsSigns (' '::r)=[]::wordsSigns r:=by rw[wordsSigns]
theorem JN (c:Char) (hc:c≠' ') (l w:List Char) (ws:List (List Char)) (h:wordsSigns l=w::ws):wordsSigns (c::l)=(c::w)::ws:=by
 rw[wordsSigns,h]
 exact hc
theorem r5: ∀ (a r:List Char),(∀ c∈a,c≠' ')->wordsSigns (a++' '::r)=a::wordsSigns r
 |[],r,_=>JM r
 |c::a,r,h=>JN c (h c (az ..)) _ _ _ (r5 a r fun x hx=>h x (ak _ hx))
def wG:List Char:=['a','t',' ','t','a','i','l','r','a','c','e','/','t','a','i','l','r','a','c','e','t','o','p','.','T','o','p','K','e','p','t',' ','t','a','i','l','r','a','c','e','/','t','a','i','l','r','a','c','e','t','o','p','.','T','o','p','T','w','i','c','e',' ','t','a','i','l','r','a','c','e','/','t','a','i','l','r','a','c','e','t','o','p','.','T','o','p','L','a','t','e','r',' ','t','a','i','l','r','a','c','e','/','t','a','i','l','r','a','c','e','k','e','e','p','.','W','o','r','l','d','G','o','o','d',' ','t','a','i','l','r','a','c','e','/','t','a','i','l','r','a','c','e','k','e','e','p','.','L','o','g','s','O','n','c','e',' ','t','a','i','l','r','a','c','e','/','t','a','i','l','r','a','c','e','k','e','e','p','.','A','g','a','i','n','S','a','m','e']
def HF:List Char:=['e','6','a','a','d','7','b','0','2','3','5','2','c','b','a','b','7','0','5','d','6','f','f','1','1','e','2','f','7','d','a','d','1','1','d','2','8','6','0','3','5','a','9','8','1','d','4','3','d','b','e','b','0','7','6','5','4','2','a','9','c','d','6','c']
theorem MV:Tryz.checked.prog.initOrder=String.ofList (['h','a','r','n','e','s','s']++' '::(HF++' '::(['c','u','t']++' '::wG))):=by kernel_rfl
theorem su:behindMainWord (wordsSigns Tryz.checked.prog.initOrder.toList)=['c','u','t']::wordsSigns wG:=by
 rw[MV,String.toList_ofList,r5 _ _ (by decide),r5 _ _ (by decide+kernel),r5 _ _ (by decide)]
 have hs:isSumSigns HF=true:=by decide+kernel
 simp[behindMainWord,hs]
theorem O8: "gc".toList=['g','c']:=by simp
theorem ND: "spec".toList=['s','p','e','c']:=by simp
theorem Nh: "cut".toList=['c','u','t']:=by simp
theorem MJ {P:Program} {c:List Char} {r:List (List Char)} (h:behindMainWord (wordsSigns P.initOrder.toList)=c::r) (hg:(c== "gc".toList||c== "spec".toList)=false) (hc:(c== "cut".toList||(c== "finals".toList&&r.head? ==some "cut".toList))=true):P.make=some .cut:=by
 unfold Program.make
 rw[h]
 simp only[hg,hc]
 rfl
theorem Oa:(['c','u','t']== "gc".toList||['c','u','t']== "spec".toList)=false:=by rw[O8,ND];decide
theorem ON (r:List (List Char)):(['c','u','t']== "cut".toList||(['c','u','t']== "finals".toList&&r.head? ==some "cut".toList))=true:=by rw[Nh];rfl
theorem Cf (ws:List (List Char)):stripLifts liftWords (['c','u','t']::ws)=([],['c','u','t']::ws):=by
 simp[stripLifts,liftWords]
theorem Ld {P:Program} {c:List Char} {r:List (List Char)} (h:behindMainWord (wordsSigns P.initOrder.toList)=c::r) (hs:stripLifts liftWords (c::r)=([],c::r)) (hc:(c== "cut".toList)=true) (hl:P.laysLater=false) (hb:P.bearsReflect=false) (hd:P.doorFits []=true):P.mayEnter=true:=by
 have e:((c::r).head? ==some "cut".toList)=true:=by
  rw[eq_of_beq hc];simp
 unfold Program.mayEnter
 rw[h]
 simp only[hs,hl,hb,hd,e]
 simp
theorem M4:(['c','u','t']== "cut".toList)=true:=by rw[Nh];rfl
theorem GS:Tryz.checked.prog.headLifts=[]:=by
 unfold Program.headLifts
 rw[su]
 generalize wordsSigns wG=ws
 simp[Cf]
theorem E4:Tryz.checked.prog.liftsFinal=false:=by
 unfold Program.liftsFinal
 rw[su,GS]
 generalize wordsSigns wG=ws
 simp
theorem KF:Tryz.checked.prog.make=some .cut:=MJ su Oa (ON _)
theorem GG:Tryz.checked.prog.laysLater=false:=by kernel_rfl
theorem B0:Tryz.checked.prog.bearsReflect=false:=by kernel_rfl
theorem Je:Tryz.checked.prog.doorFits []=true:=by kernel_rfl
theorem IN:Tryz.checked.prog.mayEnter=true:=Ld su (Cf _) M4 GG B0 Je
theorem Gs:ownKnob aa.godebug=none:=by kernel_rfl
theorem y6:laidOutB Tryz.checked.prog=true:=by kernel_rfl
theorem GC:mapsRowed Tryz.checked.prog=true:=by kernel_rfl
theorem Kx:(Tryz.checked.prog.stops==[])=true:=by kernel_rfl
theorem Ky:(Tryz.checked.prog.stopKnobs==[])=true:=by kernel_rfl
theorem Gl:Tryz.checked.prog.plainKeys=false:=by kernel_rfl
theorem Ev:Tryz.checked.prog.stopsHeard=true:=by kernel_rfl
end
theorem HM {e:cN} (h:rv e):(iv e).length<=64:=by
 have:=(uD h).1
 rw[AE];omega
theorem DP: ∀ (es:List cN),(∀ e∈es,rv e)->(bg es).length<=64*es.length
 |[],_=>by simp[bg]
 |e::es,h=>by
  have h1:=HM (h e (az ..))
  have h2:=DP es fun x hx=>h x (ak _ hx)
  have:bg (e::es)=iv e++bg es:=by simp[bg]
  rw[this];simp;omega
theorem tU (es:List cN) (h: ∀ e∈es,rv e):HY (bg es) es (bg es).length:=by
 have:=HN es [] h Z
 rwa[aX]at this
theorem cE {α:Type} {l:List α} {k:Nat} {e:α} (h:l[k]? =some e): ∃ hk:k<l.length,l[k]=e:=aA.1 h
theorem tQ {es:List cN} {k:Nat} {e:cN} (h:es[k]? =some e):bg (es.take (k+1))=bg (es.take k)++iv e:=by
 obtain⟨hk,rfl⟩:=cE h
 exact I5 hk
structure Prod where
 ver:Int
 seq:Int
 open_:Int
 mark:Int
def Prod.c (p:Prod):List Value:=[J p.ver,J p.seq,J p.open_,J p.mark]
def p0:Prod:=⟨0,-1,-1,-1⟩
abbrev HV:TypeId:=188
theorem rE:E1 aa HV cW FP=true:=by kernel_rfl
def pv (e:cN) (p:Prod):Prod:=if e.ver≠p.ver then⟨e.ver,-1,p.open_,p.mark⟩else p
def fM (i:Nat) (e:cN) (p:Prod):Prod:=
 if e.kind≠1 then⟨(pv e p).ver,(pv e p).seq,-1,i⟩
 else if e.txn=true/\(pv e p).open_<0 then⟨(pv e p).ver,e.seq,i,(pv e p).mark⟩
 else⟨(pv e p).ver,e.seq,(pv e p).open_,(pv e p).mark⟩
def jT (es:List cN) (pid:Int):Option Prod:=
 es.zipIdx.foldl (fun a q=>if q.1.pid≠0/\q.1.pid=pid then some (fM q.2 q.1 (a.getD p0))else a) none
theorem IB (pid:Int):jT [] pid=none:=rfl
theorem zF (es:List cN) (e:cN) (pid:Int):jT (es++[e]) pid=if e.pid≠0/\e.pid=pid then some (fM es.length e ((jT es pid).getD p0))else jT es pid:=by
 unfold jT
 rw[List.zipIdx_append,List.foldl_append]
 simp
theorem eI {α:Type} {l:List α} {k:Nat} {e:α} (h:l[k]? =some e):l.take (k+1)=l.take k++[e]:=by
 obtain⟨hk,rfl⟩:=cE h
 exact CS hk
theorem zE {es:List cN} {k:Nat} {e:cN} (h:es[k]? =some e) (pid:Int):jT (es.take (k+1)) pid=if e.pid≠0/\e.pid=pid then some (fM k e ((jT (es.take k) pid).getD p0))else jT (es.take k) pid:=by
 obtain⟨hk,-⟩:=cE h
 rw[eI h,zF,aH,bu I]
abbrev PB:=Int×Nat×Prod
abbrev Bo (b:Nat):Value:=.pointer (Qd b)
def qS (S:List PB):List (Int×Value):=S.map fun q=>(q.1,Bo q.2.1)
def xt (q:PB):Nat×Obj:=(q.2.1,.cells q.2.2.c.toArray lD (0,0))
def jl (bm:Nat) (S:List PB):List (Nat×Obj):=(bm,tw (qS S))::S.map xt
def uF (S:List PB) (pid:Int):Option Prod:=(S.find? (fun q=>decide (q.1=pid))).map (·.2.2)
theorem um (S:List PB):(qS S).map (·.1)=S.map (·.1):=by simp[qS]
theorem EJ {S:List PB} {j:Nat} {pid:Int} {b:Nat} {p:Prod} (h:S[j]? =some (pid,b,p)):(qS S)[j]? =some (pid,Bo b):=by simp[qS,h]
theorem gf {S:List PB} {j:Nat} {pid:Int} {b:Nat} {p p':Prod} (h:S[j]? =some (pid,b,p)):qS (S.set j (pid,b,p'))=qS S:=by
 unfold qS
 apply eG
 intro i
 rw[aL,aL,lh]
 split
 rename_i hij;subst hij
 obtain⟨hlt,hg⟩:=cE h
 simp[hlt,hg]
 rfl
theorem KN {S:List PB} {j:Nat} {pid:Int} {b:Nat} {p p':Prod} (h:S[j]? =some (pid,b,p)):(S.set j (pid,b,p')).map (·.1)=S.map (·.1):=by
 rw[<-um,gf h,um]
theorem ET {S:List PB} {j:Nat} {q:PB} (h:S[j]? =some q):(xt q::(S.eraseIdx j).map xt).Perm (S.map xt):=by
 obtain⟨hlt,rfl⟩:=cE h
 have:=Go.ChangeMaps.set_perm S j hlt S[j]
 rw[List.set_getElem_self]at this
 exact(this.map xt).symm
theorem i7 {S:List PB} {j:Nat} {q q':PB} (h:S[j]? =some q):((S.set j q').map xt).Perm (xt q'::(S.eraseIdx j).map xt):=by
 obtain⟨hlt,-⟩:=cE h
 exact(Go.ChangeMaps.set_perm S j hlt q').map xt
theorem Cu {S:List PB} {pid:Int} (h: ∀ q∈S,q.1≠pid):uF S pid=none:=by
 unfold uF
 rw[Bg.2 (fun q hq=>by simpa using h q hq)];rfl
theorem ut {S:List PB} (hn:(S.map (·.1)).Nodup) {j:Nat} {pid:Int} {b:Nat} {p:Prod} (h:S[j]? =some (pid,b,p)):uF S pid=some p:=by
 unfold uF
 induction S generalizing j with
 |nil=>simp at h
 |cons q r ih=>
  simp only[eF,kE]at hn
  cases j with
  |zero=>simp at h;subst h;simp
  |succ j=>
   simp only[oz]at h
   have hne: ¬ q.1=pid:=fun e=>hn.1 (bw.2 ⟨_,ae h,e.symm⟩)
   rw[oV (by simpa using hne)]
   exact ih hn.2 h
theorem zW (S:List PB) (pid:Int):(∀ q∈S,q.1≠pid)∨ ∃ (j b:Nat) (p:Prod),S[j]? =some (pid,b,p):=by
 by_cases h: ∃ q∈S,q.1=pid
 obtain⟨⟨a,b,p⟩,hq,rfl⟩:=h
 obtain⟨j,hj⟩:=aW.1 hq
 exact .inr ⟨j,b,p,hj⟩
 exact .inl fun q hq e=>h ⟨q,hq,e⟩
theorem KI (S:List PB) (q:PB) {pid:Int} (h:q.1≠pid):uF (S++[q]) pid=uF S pid:=by
 unfold uF
 rw[List.find?_append,oV (by simpa using h)]
 simp
theorem KH {S:List PB} {j:Nat} {k:Int} {b:Nat} {p p':Prod} (h:S[j]? =some (k,b,p)) {pid:Int} (hp:k≠pid):uF (S.set j (k,b,p')) pid=uF S pid:=by
 unfold uF
 induction S generalizing j with
 |nil=>simp at h
 |cons q r ih=>
  cases j with
  |zero=>
   simp at h;subst h
   simp only[Be]
   rw[oV (by simpa using hp),oV (by simpa using hp)]
  |succ j=>
   simp only[oz]at h
   simp only[List.set_cons_succ,List.find?_cons]
   split
   rfl
   exact ih h
def PS (S:List PB) (es:List cN):Prop:=(S.map (·.1)).Nodup/\ ∀ pid,uF S pid=jT es pid
theorem Mo {S:List PB} {es:List cN} {k:Nat} {e:cN} (h:es[k]? =some e) (h0:e.pid=0) (hs:PS S (es.take k)):PS S (es.take (k+1)):=
 ⟨hs.1,fun pid=>by rw[zE h,if_neg (fun x=>x.1 h0)];exact hs.2 pid⟩
theorem kI {S:List PB} {es:List cN} {k j:Nat} {e:cN} {b:Nat} {p:Prod} (h:es[k]? =some e) (h0:e.pid≠0) (hn:(S.map (·.1)).Nodup) (hj:S[j]? =some (e.pid,b,p)) (hp:p=(jT (es.take k) e.pid).getD p0) (ho: ∀ pid,pid≠e.pid->uF S pid=jT (es.take k) pid) {p':Prod} (hp':p'=fM k e p):
  PS (S.set j (e.pid,b,p')) (es.take (k+1)):=by
 have hn':((S.set j (e.pid,b,p')).map (·.1)).Nodup:=by rw[KN hj];exact hn
 refine⟨hn',fun pid=> ?_⟩
 rw[zE h]
 by_cases hpid:e.pid=pid
 subst hpid
 obtain⟨hlt,-⟩:=cE hj
 rw[if_pos ⟨h0,rfl⟩,ut hn' (am hlt),hp',<-hp]
 rw[if_neg (fun x=>hpid x.2),KH hj hpid]
 exact ho pid (Ne.symm hpid)
theorem Cl (es:List cN) (A:Option Addr) (c:Nat) (w:World) (hr:Rd gJ 0 w.heap.size A es w) (hb:es.length<=1000000):
  dd aa Bv [.slice A es.length c] w fun v w2=> ∃ S bm,v=.map (some bm)/\PS S es/\Hp w w2 (jl bm S) []:=by
 refine aD Ap Z Z ?_
 have H:=Hp.startRd hr
 refine W<|Zr<|G (LC Z)<|U<|W<|Zr<|P0 H Z fun w1 bm H=>G (LC Z)<|U<|W<|W<|Zr<|G (Ys Z)<|G (bn ex Z)<|G (Yi Z)<|U<|Zb ?_
 refine ce (τ:=Nat×List PB) [4,5,6,10,11,12,13,14,15,16,17,18,19,20,21,22,23,24,25,26,27,28,29,30,31,32,33,34,35,36,37,38,39,40,41,42,43,44,45,46,47,48,49,50,51,52,53,54,55,56,57,58,59,60,61,62,63,64,65,66,67,68,69,70,71,72,73,74] (fun(k,S)=>[(10,J (k:Nat))]) (fun(k,S) w'=>k<=es.length/\PS S (es.take k)/\Hp w w' (jl bm S) [dM gJ 0 w.heap.size A es]) (fun(k,_)=>es.length-k) (0,[]) ⟨by omega,⟨List.nodup_nil,fun pid=>rfl⟩,H⟩ (dF Z) ?_
 rintro⟨k,S⟩ ρ1 w2 ⟨hk,hS,H⟩
 show CW _ _ _ _ (dC (gC _ _ ρ1) [(10,J (k:Nat))]) w2
 refine W<|Zr ?_
 refine cT (cG Z Z) Z Z Z (fun h11=> ?_) (fun h11=> ?_)
 ·
  refine U<|W<|ZT Z<|Zk<|W<|Zb<|W<|Zr<|G (Yi Z)<|qn H 0 Z dR Z Z I I Z fun b3 o3 x3 e3=>G (jM (xs:=cN.c x3) dD Z Z e3.cl)<|eH H f7 Z fun w4 b5 H=>G (Wi Z)<|J0 H 0 eQ Z Z Z Z Z Z fun w5 H=>U<|W<|W<|Zr<|G (Zf fe Z)<|G (Zd aj H 0 Z Z Z) ?_
  refine cT (bl Z Z) Z Z Z (fun h17=> ?_) (fun h17=> ?_)
  ·
   refine U<|ZT Z<|Zx<|Zr<|G (br Z Z I I)<|G (Yi Z)<|U ?_
   refine⟨(k+1,S),⟨by have:=(cE e3.at_).1;omega,Mo e3.at_ h17 hS,H.forget (aV _ _) (fun _ h=>h)⟩,dF Z,Qg,by show es.length- (k+1)<es.length-k;omega⟩
  ·
   refine U<|ZF Z<|Zk<|W<|Zr<|G (KD Z)<|G (Zf fe Z)<|G (Zd aj H 0 Z Z Z) ?_
   rcases zW S x3.pid with hno|⟨j,b,p,hj⟩
   ·
    refine G (Nr rE qx Z Z (H.ent (i:=1) Z) (by intro q hq;obtain⟨a,ha,rfl⟩:=bw.1 hq;exact hno a ha))<|G (Wp Z)<|U<|W ?_
    refine eE (τ:=List PB×Nat×Nat×Prod) [6,22,23,24,25,26,27,28,29] (fun(S1,j,b,p)=>[(6,Bo b)]) (fun(S1,j,b,p) w'=>(S1.map (·.1)).Nodup/\S1[j]? =some (x3.pid,b,p)/\p=(jT (es.take k) x3.pid).getD p0/\(∀ pid,pid≠x3.pid->uF S1 pid=jT (es.take k) pid)/\Hp w w' ((b,.cells p.c.toArray lD (0,0))::(b5,.cells (cN.c x3).toArray dt (0,0))::(bm,tw (qS S1))::(S1.eraseIdx j).map xt) [dM gJ 0 w.heap.size A es]) ?_ ?_
    ·skip
     refine W<|Zr<|G (Yp Z)<|G (xr nI Z)<|U<|ZT Z<|W<|Zr<|G (bi (cs:=(Prod.c p0).toArray) ya zh N)<|fQ H Z Z fun w6 b25 H=>G (Wp Z)<|U<|Zr<|G (KD Z)<|G (Zf fe Z)<|G (Zd aj H 1 Z Z Z)<|G (Yp Z)<|PY H 2 rE Z Z Z Z (by intro q hq;obtain⟨a,ha,rfl⟩:=bw.1 hq;exact hno a ha) fun w7 H=>U ?_
     have hj:(S++[(x3.pid,b25,p0)])[S.length]? =some (x3.pid,b25,p0):=by simp
     have hkn:uF S x3.pid=none:=Cu hno
     rw[hS.2]at hkn
     refine⟨(S++[(x3.pid,b25,p0)],S.length,b25,p0),⟨?_,hj,by rw[hkn];rfl,fun pid hpid=>by rw[KI _ _ (Ne.symm hpid)];exact hS.2 pid,?_⟩,dF Z,Qg⟩
     ·rw[bk];exact oT.2 ⟨hS.1,by simp,by intro a ha c hc;simp at hc;subst hc;obtain⟨q,hq,rfl⟩:=bw.1 ha;exact hno q hq⟩
     ·have hmm:qS (S++[(x3.pid,b25,p0)])=qS S++[(x3.pid,Bo b25)]:=by simp[qS]
      have hee:(S++[(x3.pid,b25,p0)]).eraseIdx S.length=S:=by rw[List.eraseIdx_append_of_length_le (ao _)];simp
      rw[hmm,hee];exact H
    rintro⟨S1,j,b,p⟩ ρ2 w8 ⟨hn,hj,hp,ho,H⟩
    show CW _ _ _ _ (dC (gC _ _ ρ2) [(6,Bo b)]) w8
    refine W<|W ?_
    refine bz bX [0,1,2,3,4,5,6] [] [] [0,2,3,4,6] (sp []) N N N N Nq (cF _) ?_
    refine aw Z Z Z Z Z (fun w' hw'=>Zf ez Z)<|aw Z Z Z Z Z (fun w' hw'=>aT aj Z (aB ((H.later hw').ent (i:=1) Z) Z))<|aw Z Z Z Z Z (fun w' hw'=>Yp Z)<|aw Z Z Z Z Z (fun w' hw'=>aI Z)<|aw Z Z Z Z Z (fun w' hw'=>Zf jD Z)<|aw Z Z Z Z Z (fun w' hw'=>aT aj Z (aB ((H.later hw').ent (i:=0) Z) Z)) ?_
    refine M9 Z Z Z Z Z (fun w' hw'=>iL Z Z) (fun h36=> ?_) (fun h36=> ?_)
    ·
     refine aR ?_
     intro w9 hw' hF
     replace H:=H.later hw';clear hw' hF
     refine U<|ZT Z<|Zr<|G (Yp Z)<|G (Yp Z)<|G (Zf ez Z)<|G (Zd aj H 1 Z Z Z)<|G (aI Z)<|G (Zf jD Z)<|bo H 0 ((Prod.c ⟨x3.ver,p.seq,p.open_,p.mark⟩).toArray) bI Z Z Z Z Z N N fun w10 H=>G (aI Z)<|G (Zf fi Z)<|bo H 0 ((Prod.c ⟨x3.ver,-1,p.open_,p.mark⟩).toArray) bI Z Z Z Z Z N N fun w11 H=>U<|Zb<|W<|Zr<|G (Zf eX Z)<|G (Zd aj H 1 Z Z Z) ?_
     refine qm (iL Z Z) Z Z Z (fun h66=> ?_) (fun h66=> ?_)
     ·
      refine G (Wb Z)<|U<|ZT Z<|Zr<|G (Yp Z)<|G (Yp Z)<|G (Yi Z)<|G (aI Z)<|G (Zf dY Z)<|bo H 0 ((Prod.c ⟨x3.ver,-1,-1,p.mark⟩).toArray) bI Z Z Z Z Z N N fun w12 H=>G (aI Z)<|G (Zf g9 Z)<|bo H 0 ((Prod.c ⟨x3.ver,-1,-1,k⟩).toArray) bI Z Z Z Z Z N N fun w13 H=>U<|Zr<|G (br Z Z I I)<|G (Yi Z)<|U ?_
      have hst:(⟨x3.ver,-1,-1,k⟩:Prod)=fM k x3 p:=by
       simp[fM,pv,h36,h66]
      have hP:=i7 (q':=(x3.pid,b,(⟨x3.ver,-1,-1,k⟩:Prod))) hj
      refine⟨(k+1,S1.set j (x3.pid,b,(⟨x3.ver,-1,-1,k⟩:Prod))),⟨by omega,kI e3.at_ h17 hn hj hp ho hst,(H.perm (L':=(b5,_)::jl bm (S1.set j (x3.pid,b,_))) (by unfold jl;rw[gf hj];exact((hP.cons _).cons _).trans (((al _ _ _).cons _).trans (al _ _ _)))).forget (aV _ _) (fun _ h=>h)⟩,dF Z,Qg,by show es.length- (k+1)<es.length-k;omega⟩
     ·
      refine G (Wb Z)<|U<|ZF Z<|W<|Zr<|G (Yp Z)<|G (Zf eY Z)<|G (Zd aj H 1 Z Z Z)<|G (aI Z)<|G (Zf fi Z)<|bo H 0 ((Prod.c ⟨x3.ver,x3.seq,p.open_,p.mark⟩).toArray) bI Z Z Z Z Z N N fun w14 H=>U<|W<|Zr<|G (Zf iW Z) ?_
      refine wr (aT dP Z (aB (H.ent (i:=1) Z) Z)) Z Z Z (fun h51=> ?_) (fun h51=> ?_)
      ·
       refine G (Yb Z)<|ZG<|G (Yp Z)<|ZG<|G (aI Z)<|ZG<|G (Zf dY Z)<|ZG<|G (Zd aj H 0 Z Z Z)<|ZG ?_
       refine cT (cG Z Z) Z Z Z (fun h57=> ?_) (fun h57=> ?_)
       ·
        refine G (Kt Z Z)<|U<|ZT Z<|Zr<|G (Yp Z)<|G (Yi Z)<|G (aI Z)<|G (Zf dY Z)<|bo H 0 ((Prod.c ⟨x3.ver,x3.seq,k,p.mark⟩).toArray) bI Z Z Z Z Z N N fun w15 H=>U<|Zr<|G (br Z Z I I)<|G (Yi Z)<|U ?_
        replace h57:p.open_<0:=h57
        have hst:(⟨x3.ver,x3.seq,k,p.mark⟩:Prod)=fM k x3 p:=by
         simp[fM,pv,h36,h66,h51,h57]
        have hP:=i7 (q':=(x3.pid,b,(⟨x3.ver,x3.seq,k,p.mark⟩:Prod))) hj
        refine⟨(k+1,S1.set j (x3.pid,b,(⟨x3.ver,x3.seq,k,p.mark⟩:Prod))),⟨by omega,kI e3.at_ h17 hn hj hp ho hst,(H.perm (L':=(b5,_)::jl bm (S1.set j (x3.pid,b,_))) (by unfold jl;rw[gf hj];exact((hP.cons _).cons _).trans (((al _ _ _).cons _).trans (al _ _ _)))).forget (aV _ _) (fun _ h=>h)⟩,dF Z,Qg,by show es.length- (k+1)<es.length-k;omega⟩
       ·
        refine G (Kt Z Z)<|U<|ZF Z<|Zk<|Zr<|G (br Z Z I I)<|G (Yi Z)<|U ?_
        replace h57: ¬ p.open_<0:=h57
        have hst:(⟨x3.ver,x3.seq,p.open_,p.mark⟩:Prod)=fM k x3 p:=by
         simp[fM,pv,h36,h66,h51,h57]
        have hP:=i7 (q':=(x3.pid,b,(⟨x3.ver,x3.seq,p.open_,p.mark⟩:Prod))) hj
        refine⟨(k+1,S1.set j (x3.pid,b,(⟨x3.ver,x3.seq,p.open_,p.mark⟩:Prod))),⟨by omega,kI e3.at_ h17 hn hj hp ho hst,(H.perm (L':=(b5,_)::jl bm (S1.set j (x3.pid,b,_))) (by unfold jl;rw[gf hj];exact((hP.cons _).cons _).trans (((al _ _ _).cons _).trans (al _ _ _)))).forget (aV _ _) (fun _ h=>h)⟩,dF Z,Qg,by show es.length- (k+1)<es.length-k;omega⟩
      ·
       refine G (Yb Z)<|ZN<|ZN<|ZN<|ZN<|ZN<|G (N Z Z)<|U<|ZF Z<|Zk<|Zr<|G (br Z Z I I)<|G (Yi Z)<|U ?_
       have hst:(⟨x3.ver,x3.seq,p.open_,p.mark⟩:Prod)=fM k x3 p:=by
        simp[fM,pv,h36,h66,h51]
       have hP:=i7 (q':=(x3.pid,b,(⟨x3.ver,x3.seq,p.open_,p.mark⟩:Prod))) hj
       refine⟨(k+1,S1.set j (x3.pid,b,(⟨x3.ver,x3.seq,p.open_,p.mark⟩:Prod))),⟨by omega,kI e3.at_ h17 hn hj hp ho hst,(H.perm (L':=(b5,_)::jl bm (S1.set j (x3.pid,b,_))) (by unfold jl;rw[gf hj];exact((hP.cons _).cons _).trans (((al _ _ _).cons _).trans (al _ _ _)))).forget (aV _ _) (fun _ h=>h)⟩,dF Z,Qg,by show es.length- (k+1)<es.length-k;omega⟩
    ·
     refine aR ?_
     intro w16 hw' hF
     replace H:=H.later hw';clear hw' hF
     refine U<|ZF Z<|Zk<|Zb<|W<|Zr<|G (Zf eX Z)<|G (Zd aj H 1 Z Z Z) ?_
     refine qm (iL Z Z) Z Z Z (fun h66=> ?_) (fun h66=> ?_)
     ·
      refine G (Wb Z)<|U<|ZT Z<|Zr<|G (Yp Z)<|G (Yp Z)<|G (Yi Z)<|G (aI Z)<|G (Zf dY Z)<|bo H 0 ((Prod.c ⟨p.ver,p.seq,-1,p.mark⟩).toArray) bI Z Z Z Z Z N N fun w17 H=>G (aI Z)<|G (Zf g9 Z)<|bo H 0 ((Prod.c ⟨p.ver,p.seq,-1,k⟩).toArray) bI Z Z Z Z Z N N fun w18 H=>U<|Zr<|G (br Z Z I I)<|G (Yi Z)<|U ?_
      have hst:(⟨p.ver,p.seq,-1,k⟩:Prod)=fM k x3 p:=by
       simp[fM,pv,h36,h66]
      have hP:=i7 (q':=(x3.pid,b,(⟨p.ver,p.seq,-1,k⟩:Prod))) hj
      refine⟨(k+1,S1.set j (x3.pid,b,(⟨p.ver,p.seq,-1,k⟩:Prod))),⟨by omega,kI e3.at_ h17 hn hj hp ho hst,(H.perm (L':=(b5,_)::jl bm (S1.set j (x3.pid,b,_))) (by unfold jl;rw[gf hj];exact((hP.cons _).cons _).trans (((al _ _ _).cons _).trans (al _ _ _)))).forget (aV _ _) (fun _ h=>h)⟩,dF Z,Qg,by show es.length- (k+1)<es.length-k;omega⟩
     ·
      refine G (Wb Z)<|U<|ZF Z<|W<|Zr<|G (Yp Z)<|G (Zf eY Z)<|G (Zd aj H 1 Z Z Z)<|G (aI Z)<|G (Zf fi Z)<|bo H 0 ((Prod.c ⟨p.ver,x3.seq,p.open_,p.mark⟩).toArray) bI Z Z Z Z Z N N fun w19 H=>U<|W<|Zr<|G (Zf iW Z) ?_
      refine wr (aT dP Z (aB (H.ent (i:=1) Z) Z)) Z Z Z (fun h51=> ?_) (fun h51=> ?_)
      ·
       refine G (Yb Z)<|ZG<|G (Yp Z)<|ZG<|G (aI Z)<|ZG<|G (Zf dY Z)<|ZG<|G (Zd aj H 0 Z Z Z)<|ZG ?_
       refine cT (cG Z Z) Z Z Z (fun h57=> ?_) (fun h57=> ?_)
       ·
        refine G (Kt Z Z)<|U<|ZT Z<|Zr<|G (Yp Z)<|G (Yi Z)<|G (aI Z)<|G (Zf dY Z)<|bo H 0 ((Prod.c ⟨p.ver,x3.seq,k,p.mark⟩).toArray) bI Z Z Z Z Z N N fun w20 H=>U<|Zr<|G (br Z Z I I)<|G (Yi Z)<|U ?_
        replace h57:p.open_<0:=h57
        have hst:(⟨p.ver,x3.seq,k,p.mark⟩:Prod)=fM k x3 p:=by
         simp[fM,pv,h36,h66,h51,h57]
        have hP:=i7 (q':=(x3.pid,b,(⟨p.ver,x3.seq,k,p.mark⟩:Prod))) hj
        refine⟨(k+1,S1.set j (x3.pid,b,(⟨p.ver,x3.seq,k,p.mark⟩:Prod))),⟨by omega,kI e3.at_ h17 hn hj hp ho hst,(H.perm (L':=(b5,_)::jl bm (S1.set j (x3.pid,b,_))) (by unfold jl;rw[gf hj];exact((hP.cons _).cons _).trans (((al _ _ _).cons _).trans (al _ _ _)))).forget (aV _ _) (fun _ h=>h)⟩,dF Z,Qg,by show es.length- (k+1)<es.length-k;omega⟩
       ·
        refine G (Kt Z Z)<|U<|ZF Z<|Zk<|Zr<|G (br Z Z I I)<|G (Yi Z)<|U ?_
        replace h57: ¬ p.open_<0:=h57
        have hst:(⟨p.ver,x3.seq,p.open_,p.mark⟩:Prod)=fM k x3 p:=by
         simp[fM,pv,h36,h66,h51,h57]
        have hP:=i7 (q':=(x3.pid,b,(⟨p.ver,x3.seq,p.open_,p.mark⟩:Prod))) hj
        refine⟨(k+1,S1.set j (x3.pid,b,(⟨p.ver,x3.seq,p.open_,p.mark⟩:Prod))),⟨by omega,kI e3.at_ h17 hn hj hp ho hst,(H.perm (L':=(b5,_)::jl bm (S1.set j (x3.pid,b,_))) (by unfold jl;rw[gf hj];exact((hP.cons _).cons _).trans (((al _ _ _).cons _).trans (al _ _ _)))).forget (aV _ _) (fun _ h=>h)⟩,dF Z,Qg,by show es.length- (k+1)<es.length-k;omega⟩
      ·
       refine G (Yb Z)<|ZN<|ZN<|ZN<|ZN<|ZN<|G (N Z Z)<|U<|ZF Z<|Zk<|Zr<|G (br Z Z I I)<|G (Yi Z)<|U ?_
       have hst:(⟨p.ver,x3.seq,p.open_,p.mark⟩:Prod)=fM k x3 p:=by
        simp[fM,pv,h36,h66,h51]
       have hP:=i7 (q':=(x3.pid,b,(⟨p.ver,x3.seq,p.open_,p.mark⟩:Prod))) hj
       refine⟨(k+1,S1.set j (x3.pid,b,(⟨p.ver,x3.seq,p.open_,p.mark⟩:Prod))),⟨by omega,kI e3.at_ h17 hn hj hp ho hst,(H.perm (L':=(b5,_)::jl bm (S1.set j (x3.pid,b,_))) (by unfold jl;rw[gf hj];exact((hP.cons _).cons _).trans (((al _ _ _).cons _).trans (al _ _ _)))).forget (aV _ _) (fun _ h=>h)⟩,dF Z,Qg,by show es.length- (k+1)<es.length-k;omega⟩
   ·
    refine G (Np rE qx Z Z (H.ent (i:=1) Z) (by rw[um];exact hS.1) (EJ hj))<|G (Wp Z)<|U<|W ?_
    refine eE (τ:=List PB×Nat×Nat×Prod) [6,22,23,24,25,26,27,28,29] (fun(S1,j,b,p)=>[(6,Bo b)]) (fun(S1,j,b,p) w'=>(S1.map (·.1)).Nodup/\S1[j]? =some (x3.pid,b,p)/\p=(jT (es.take k) x3.pid).getD p0/\(∀ pid,pid≠x3.pid->uF S1 pid=jT (es.take k) pid)/\Hp w w' ((b,.cells p.c.toArray lD (0,0))::(b5,.cells (cN.c x3).toArray dt (0,0))::(bm,tw (qS S1))::(S1.eraseIdx j).map xt) [dM gJ 0 w.heap.size A es]) ?_ ?_
    ·skip
     refine W<|Zr<|G (Yp Z)<|G (vC nI Z)<|U<|ZF Z<|Zk ?_
     refine⟨(S,j,b,p),⟨hS.1,hj,by rw[<-hS.2,ut hS.1 hj];rfl,fun pid _=>hS.2 pid,H.perm ?_⟩,dF Z,Qg⟩
     have hP:=ET hj
     exact((al _ _ _).trans ((al _ _ _).cons _)).trans ((hP.cons _).cons _)
    rintro⟨S1,j,b,p⟩ ρ2 w21 ⟨hn,hj,hp,ho,H⟩
    show CW _ _ _ _ (dC (gC _ _ ρ2) [(6,Bo b)]) w21
    refine W<|W ?_
    refine bz bX [0,1,2,3,4,5,6] [] [] [0,2,3,4,6] (sp []) N N N N Nq (cF _) ?_
    refine aw Z Z Z Z Z (fun w' hw'=>Zf ez Z)<|aw Z Z Z Z Z (fun w' hw'=>aT aj Z (aB ((H.later hw').ent (i:=1) Z) Z))<|aw Z Z Z Z Z (fun w' hw'=>Yp Z)<|aw Z Z Z Z Z (fun w' hw'=>aI Z)<|aw Z Z Z Z Z (fun w' hw'=>Zf jD Z)<|aw Z Z Z Z Z (fun w' hw'=>aT aj Z (aB ((H.later hw').ent (i:=0) Z) Z)) ?_
    refine M9 Z Z Z Z Z (fun w' hw'=>iL Z Z) (fun h36=> ?_) (fun h36=> ?_)
    ·
     refine aR ?_
     intro w22 hw' hF
     replace H:=H.later hw';clear hw' hF
     refine U<|ZT Z<|Zr<|G (Yp Z)<|G (Yp Z)<|G (Zf ez Z)<|G (Zd aj H 1 Z Z Z)<|G (aI Z)<|G (Zf jD Z)<|bo H 0 ((Prod.c ⟨x3.ver,p.seq,p.open_,p.mark⟩).toArray) bI Z Z Z Z Z N N fun w23 H=>G (aI Z)<|G (Zf fi Z)<|bo H 0 ((Prod.c ⟨x3.ver,-1,p.open_,p.mark⟩).toArray) bI Z Z Z Z Z N N fun w24 H=>U<|Zb<|W<|Zr<|G (Zf eX Z)<|G (Zd aj H 1 Z Z Z) ?_
     refine qm (iL Z Z) Z Z Z (fun h66=> ?_) (fun h66=> ?_)
     ·
      refine G (Wb Z)<|U<|ZT Z<|Zr<|G (Yp Z)<|G (Yp Z)<|G (Yi Z)<|G (aI Z)<|G (Zf dY Z)<|bo H 0 ((Prod.c ⟨x3.ver,-1,-1,p.mark⟩).toArray) bI Z Z Z Z Z N N fun w25 H=>G (aI Z)<|G (Zf g9 Z)<|bo H 0 ((Prod.c ⟨x3.ver,-1,-1,k⟩).toArray) bI Z Z Z Z Z N N fun w26 H=>U<|Zr<|G (br Z Z I I)<|G (Yi Z)<|U ?_
      have hst:(⟨x3.ver,-1,-1,k⟩:Prod)=fM k x3 p:=by
       simp[fM,pv,h36,h66]
      have hP:=i7 (q':=(x3.pid,b,(⟨x3.ver,-1,-1,k⟩:Prod))) hj
      refine⟨(k+1,S1.set j (x3.pid,b,(⟨x3.ver,-1,-1,k⟩:Prod))),⟨by omega,kI e3.at_ h17 hn hj hp ho hst,(H.perm (L':=(b5,_)::jl bm (S1.set j (x3.pid,b,_))) (by unfold jl;rw[gf hj];exact((hP.cons _).cons _).trans (((al _ _ _).cons _).trans (al _ _ _)))).forget (aV _ _) (fun _ h=>h)⟩,dF Z,Qg,by show es.length- (k+1)<es.length-k;omega⟩
     ·
      refine G (Wb Z)<|U<|ZF Z<|W<|Zr<|G (Yp Z)<|G (Zf eY Z)<|G (Zd aj H 1 Z Z Z)<|G (aI Z)<|G (Zf fi Z)<|bo H 0 ((Prod.c ⟨x3.ver,x3.seq,p.open_,p.mark⟩).toArray) bI Z Z Z Z Z N N fun w27 H=>U<|W<|Zr<|G (Zf iW Z) ?_
      refine wr (aT dP Z (aB (H.ent (i:=1) Z) Z)) Z Z Z (fun h51=> ?_) (fun h51=> ?_)
      ·
       refine G (Yb Z)<|ZG<|G (Yp Z)<|ZG<|G (aI Z)<|ZG<|G (Zf dY Z)<|ZG<|G (Zd aj H 0 Z Z Z)<|ZG ?_
       refine cT (cG Z Z) Z Z Z (fun h57=> ?_) (fun h57=> ?_)
       ·
        refine G (Kt Z Z)<|U<|ZT Z<|Zr<|G (Yp Z)<|G (Yi Z)<|G (aI Z)<|G (Zf dY Z)<|bo H 0 ((Prod.c ⟨x3.ver,x3.seq,k,p.mark⟩).toArray) bI Z Z Z Z Z N N fun w28 H=>U<|Zr<|G (br Z Z I I)<|G (Yi Z)<|U ?_
        replace h57:p.open_<0:=h57
        have hst:(⟨x3.ver,x3.seq,k,p.mark⟩:Prod)=fM k x3 p:=by
         simp[fM,pv,h36,h66,h51,h57]
        have hP:=i7 (q':=(x3.pid,b,(⟨x3.ver,x3.seq,k,p.mark⟩:Prod))) hj
        refine⟨(k+1,S1.set j (x3.pid,b,(⟨x3.ver,x3.seq,k,p.mark⟩:Prod))),⟨by omega,kI e3.at_ h17 hn hj hp ho hst,(H.perm (L':=(b5,_)::jl bm (S1.set j (x3.pid,b,_))) (by unfold jl;rw[gf hj];exact((hP.cons _).cons _).trans (((al _ _ _).cons _).trans (al _ _ _)))).forget (aV _ _) (fun _ h=>h)⟩,dF Z,Qg,by show es.length- (k+1)<es.length-k;omega⟩
       ·
        refine G (Kt Z Z)<|U<|ZF Z<|Zk<|Zr<|G (br Z Z I I)<|G (Yi Z)<|U ?_
        replace h57: ¬ p.open_<0:=h57
        have hst:(⟨x3.ver,x3.seq,p.open_,p.mark⟩:Prod)=fM k x3 p:=by
         simp[fM,pv,h36,h66,h51,h57]
        have hP:=i7 (q':=(x3.pid,b,(⟨x3.ver,x3.seq,p.open_,p.mark⟩:Prod))) hj
        refine⟨(k+1,S1.set j (x3.pid,b,(⟨x3.ver,x3.seq,p.open_,p.mark⟩:Prod))),⟨by omega,kI e3.at_ h17 hn hj hp ho hst,(H.perm (L':=(b5,_)::jl bm (S1.set j (x3.pid,b,_))) (by unfold jl;rw[gf hj];exact((hP.cons _).cons _).trans (((al _ _ _).cons _).trans (al _ _ _)))).forget (aV _ _) (fun _ h=>h)⟩,dF Z,Qg,by show es.length- (k+1)<es.length-k;omega⟩
      ·
       refine G (Yb Z)<|ZN<|ZN<|ZN<|ZN<|ZN<|G (N Z Z)<|U<|ZF Z<|Zk<|Zr<|G (br Z Z I I)<|G (Yi Z)<|U ?_
       have hst:(⟨x3.ver,x3.seq,p.open_,p.mark⟩:Prod)=fM k x3 p:=by
        simp[fM,pv,h36,h66,h51]
       have hP:=i7 (q':=(x3.pid,b,(⟨x3.ver,x3.seq,p.open_,p.mark⟩:Prod))) hj
       refine⟨(k+1,S1.set j (x3.pid,b,(⟨x3.ver,x3.seq,p.open_,p.mark⟩:Prod))),⟨by omega,kI e3.at_ h17 hn hj hp ho hst,(H.perm (L':=(b5,_)::jl bm (S1.set j (x3.pid,b,_))) (by unfold jl;rw[gf hj];exact((hP.cons _).cons _).trans (((al _ _ _).cons _).trans (al _ _ _)))).forget (aV _ _) (fun _ h=>h)⟩,dF Z,Qg,by show es.length- (k+1)<es.length-k;omega⟩
    ·
     refine aR ?_
     intro w29 hw' hF
     replace H:=H.later hw';clear hw' hF
     refine U<|ZF Z<|Zk<|Zb<|W<|Zr<|G (Zf eX Z)<|G (Zd aj H 1 Z Z Z) ?_
     refine qm (iL Z Z) Z Z Z (fun h66=> ?_) (fun h66=> ?_)
     ·
      refine G (Wb Z)<|U<|ZT Z<|Zr<|G (Yp Z)<|G (Yp Z)<|G (Yi Z)<|G (aI Z)<|G (Zf dY Z)<|bo H 0 ((Prod.c ⟨p.ver,p.seq,-1,p.mark⟩).toArray) bI Z Z Z Z Z N N fun w30 H=>G (aI Z)<|G (Zf g9 Z)<|bo H 0 ((Prod.c ⟨p.ver,p.seq,-1,k⟩).toArray) bI Z Z Z Z Z N N fun w31 H=>U<|Zr<|G (br Z Z I I)<|G (Yi Z)<|U ?_
      have hst:(⟨p.ver,p.seq,-1,k⟩:Prod)=fM k x3 p:=by
       simp[fM,pv,h36,h66]
      have hP:=i7 (q':=(x3.pid,b,(⟨p.ver,p.seq,-1,k⟩:Prod))) hj
      refine⟨(k+1,S1.set j (x3.pid,b,(⟨p.ver,p.seq,-1,k⟩:Prod))),⟨by omega,kI e3.at_ h17 hn hj hp ho hst,(H.perm (L':=(b5,_)::jl bm (S1.set j (x3.pid,b,_))) (by unfold jl;rw[gf hj];exact((hP.cons _).cons _).trans (((al _ _ _).cons _).trans (al _ _ _)))).forget (aV _ _) (fun _ h=>h)⟩,dF Z,Qg,by show es.length- (k+1)<es.length-k;omega⟩
     ·
      refine G (Wb Z)<|U<|ZF Z<|W<|Zr<|G (Yp Z)<|G (Zf eY Z)<|G (Zd aj H 1 Z Z Z)<|G (aI Z)<|G (Zf fi Z)<|bo H 0 ((Prod.c ⟨p.ver,x3.seq,p.open_,p.mark⟩).toArray) bI Z Z Z Z Z N N fun w32 H=>U<|W<|Zr<|G (Zf iW Z) ?_
      refine wr (aT dP Z (aB (H.ent (i:=1) Z) Z)) Z Z Z (fun h51=> ?_) (fun h51=> ?_)
      ·
       refine G (Yb Z)<|ZG<|G (Yp Z)<|ZG<|G (aI Z)<|ZG<|G (Zf dY Z)<|ZG<|G (Zd aj H 0 Z Z Z)<|ZG ?_
       refine cT (cG Z Z) Z Z Z (fun h57=> ?_) (fun h57=> ?_)
       ·
        refine G (Kt Z Z)<|U<|ZT Z<|Zr<|G (Yp Z)<|G (Yi Z)<|G (aI Z)<|G (Zf dY Z)<|bo H 0 ((Prod.c ⟨p.ver,x3.seq,k,p.mark⟩).toArray) bI Z Z Z Z Z N N fun w33 H=>U<|Zr<|G (br Z Z I I)<|G (Yi Z)<|U ?_
        replace h57:p.open_<0:=h57
        have hst:(⟨p.ver,x3.seq,k,p.mark⟩:Prod)=fM k x3 p:=by
         simp[fM,pv,h36,h66,h51,h57]
        have hP:=i7 (q':=(x3.pid,b,(⟨p.ver,x3.seq,k,p.mark⟩:Prod))) hj
        refine⟨(k+1,S1.set j (x3.pid,b,(⟨p.ver,x3.seq,k,p.mark⟩:Prod))),⟨by omega,kI e3.at_ h17 hn hj hp ho hst,(H.perm (L':=(b5,_)::jl bm (S1.set j (x3.pid,b,_))) (by unfold jl;rw[gf hj];exact((hP.cons _).cons _).trans (((al _ _ _).cons _).trans (al _ _ _)))).forget (aV _ _) (fun _ h=>h)⟩,dF Z,Qg,by show es.length- (k+1)<es.length-k;omega⟩
       ·
        refine G (Kt Z Z)<|U<|ZF Z<|Zk<|Zr<|G (br Z Z I I)<|G (Yi Z)<|U ?_
        replace h57: ¬ p.open_<0:=h57
        have hst:(⟨p.ver,x3.seq,p.open_,p.mark⟩:Prod)=fM k x3 p:=by
         simp[fM,pv,h36,h66,h51,h57]
        have hP:=i7 (q':=(x3.pid,b,(⟨p.ver,x3.seq,p.open_,p.mark⟩:Prod))) hj
        refine⟨(k+1,S1.set j (x3.pid,b,(⟨p.ver,x3.seq,p.open_,p.mark⟩:Prod))),⟨by omega,kI e3.at_ h17 hn hj hp ho hst,(H.perm (L':=(b5,_)::jl bm (S1.set j (x3.pid,b,_))) (by unfold jl;rw[gf hj];exact((hP.cons _).cons _).trans (((al _ _ _).cons _).trans (al _ _ _)))).forget (aV _ _) (fun _ h=>h)⟩,dF Z,Qg,by show es.length- (k+1)<es.length-k;omega⟩
      ·
       refine G (Yb Z)<|ZN<|ZN<|ZN<|ZN<|ZN<|G (N Z Z)<|U<|ZF Z<|Zk<|Zr<|G (br Z Z I I)<|G (Yi Z)<|U ?_
       have hst:(⟨p.ver,x3.seq,p.open_,p.mark⟩:Prod)=fM k x3 p:=by
        simp[fM,pv,h36,h66,h51]
       have hP:=i7 (q':=(x3.pid,b,(⟨p.ver,x3.seq,p.open_,p.mark⟩:Prod))) hj
       refine⟨(k+1,S1.set j (x3.pid,b,(⟨p.ver,x3.seq,p.open_,p.mark⟩:Prod))),⟨by omega,kI e3.at_ h17 hn hj hp ho hst,(H.perm (L':=(b5,_)::jl bm (S1.set j (x3.pid,b,_))) (by unfold jl;rw[gf hj];exact((hP.cons _).cons _).trans (((al _ _ _).cons _).trans (al _ _ _)))).forget (aV _ _) (fun _ h=>h)⟩,dF Z,Qg,by show es.length- (k+1)<es.length-k;omega⟩
 ·
  refine U<|W<|ZF Z<|Zx<|W<|Zr<|G (KD Z)<|G (LC Z)<|U<|Zt ?_
  have hke:k=es.length:=by omega
  subst hke
  rw[bJ]at hS
  exact cD (v:=.map (some bm)) Z Z ⟨S,bm,rfl,hS,H.forget (ap _) (by simp)⟩
/-- an entry of a transaction that has no end yet -/
def m3 (es:List cN) (k:Nat) (pid:Int):Prop:= ∃ e,es[k]? =some e/\e.kind=1/\e.txn=true/\e.pid=pid/\pid≠0/\ ∀ j f,k<j->es[j]? =some f->f.pid=pid->f.kind=1
theorem lI {es:List cN} {x:cN} {k:Nat} {pid:Int}:m3 (es++[x]) k pid↔(k<es.length/\m3 es k pid/\(x.pid=pid->x.kind=1))∨(k=es.length/\x.kind=1/\x.txn=true/\x.pid=pid/\pid≠0):=by
 constructor
 rintro⟨e,h1,h2,h3,h4,h5,h6⟩
 have hk:=(aA.1 h1).1
 simp at hk
 by_cases hkl:k<es.length
 left
 rw[cm hkl]at h1
 refine⟨hkl,⟨e,h1,h2,h3,h4,h5,fun j f hj hf hp=>h6 j f hj (by rw[cm (aA.1 hf).1];exact hf) hp⟩,fun hp=>h6 es.length x hkl (by simp) hp⟩
 right
 have:k=es.length:=by omega
 subst this
 simp at h1
 subst h1
 exact⟨rfl,h2,h3,h4,h5⟩
 rintro(⟨hk,⟨e,h1,h2,h3,h4,h5,h6⟩,hx⟩|⟨rfl,h2,h3,h4,h5⟩)
 refine⟨e,by rw[cm hk];exact h1,h2,h3,h4,h5,fun j f hj hf hp=> ?_⟩
 by_cases hjl:j<es.length
 rw[cm hjl]at hf;exact h6 j f hj hf hp
 have hj2:=(aA.1 hf).1
 simp at hj2
 have:j=es.length:=by omega
 subst this
 simp at hf
 subst hf
 exact hx hp
 refine⟨x,by simp,h2,h3,h4,h5,fun j f hj hf _=> ?_⟩
 have hj2:=(aA.1 hf).1
 simp at hj2
 omega
structure Jz (es:List cN) (pid:Int) (p:Prod):Prop where
 opn:p.open_= -1∨ ∃ k:Nat,p.open_=k/\m3 es k pid
 least: ∀ k,m3 es k pid->0<=p.open_/\p.open_<=k
 mark:p.mark= -1∨ ∃ (k:Nat) (e:cN),p.mark=k/\es[k]? =some e/\e.pid=pid/\e.kind≠1
 seq:p.seq= -1∨ ∃ e∈es,e.pid=pid/\e.kind=1/\p.seq=e.seq/\p.ver=e.ver
 ver: ∃ e∈es,e.pid=pid/\p.ver=e.ver
theorem Cm {es:List cN} {x:cN} {p:Prod} (h0:x.pid≠0) (h:p=p0/\(∀ k,¬ m3 es k x.pid)∨Jz es x.pid p):Jz (es++[x]) x.pid (fM es.length x p):=by
 have hpv:(pv x p).ver=x.ver/\(pv x p).open_=p.open_/\(pv x p).mark=p.mark/\((pv x p).seq= -1∨((pv x p).seq=p.seq/\p.ver=x.ver)):=by
  unfold pv
  split
  exact⟨rfl,rfl,rfl,.inl Z⟩
  rename_i hv
  have hv':x.ver=p.ver:=Classical.not_not.1 hv
  exact⟨hv'.symm,rfl,rfl,.inr ⟨rfl,hv'.symm⟩⟩
 obtain⟨v1,v2,v3,v4⟩:=hpv
 have hxm:x∈es++[x]:=by simp
 have hmark:p.mark= -1∨ ∃ (k:Nat) (e:cN),p.mark=k/\(es++[x])[k]? =some e/\e.pid=x.pid/\e.kind≠1:=by
  rcases h with⟨rfl,_⟩|h
  exact .inl Z
  rcases h.mark with h|⟨k,e,h1,h2,h3,h4⟩
  exact .inl h
  exact .inr ⟨k,e,h1,by rw[cm (aA.1 h2).1];exact h2,h3,h4⟩
 have hseq:(pv x p).seq= -1∨ ∃ e∈es++[x],e.pid=x.pid/\e.kind=1/\(pv x p).seq=e.seq/\x.ver=e.ver:=by
  rcases v4 with h1|⟨h1,h2⟩
  exact .inl h1
  rcases h with⟨rfl,_⟩|h
  exact .inl h1
  rcases h.seq with h|⟨e,he,a1,a2,a3,a4⟩
  exact .inl (h1.trans h)
  exact .inr ⟨e,hZ _ he,a1,a2,h1.trans a3,h2.symm.trans a4⟩
 unfold fM
 split
 rename_i hk
 refine⟨.inl Z,fun k hok=> ?_,.inr ⟨es.length,x,rfl,by simp,rfl,hk⟩,?_,⟨x,hxm,rfl,v1⟩⟩
 rcases lI.1 hok with⟨_,_,h⟩|⟨_,h,_⟩
 exact absurd (h Z) hk
 exact absurd h hk
 rcases hseq with h|⟨e,he,a1,a2,a3,a4⟩
 exact .inl h
 exact .inr ⟨e,he,a1,a2,a3,v1.trans a4⟩
 rename_i hk
 have hk1:x.kind=1:=Classical.not_not.1 hk
 have hold: ∀ k,m3 es k x.pid->m3 (es++[x]) k x.pid:=fun k hok=>lI.2 (.inl ⟨by obtain⟨e,h,_⟩:=hok;exact(aA.1 h).1,hok,fun _=>hk1⟩)
 split
 rename_i ht
 rw[v2]at ht
 refine⟨.inr ⟨es.length,rfl,lI.2 (.inr ⟨rfl,hk1,ht.1,rfl,h0⟩)⟩,fun k hok=> ?_,by rw[v3];exact hmark,.inr ⟨x,hxm,rfl,hk1,rfl,v1⟩,⟨x,hxm,rfl,v1⟩⟩
 rcases lI.1 hok with⟨_,h1,_⟩|⟨rfl,_⟩
 rcases h with⟨_,hn⟩|h
 exact absurd h1 (hn k)
 have:=h.least k h1;omega
 exact⟨by simp,iS _⟩
 rename_i ht
 rw[v2]at ht
 refine⟨?_,fun k hok=> ?_,by rw[v3];exact hmark,.inr ⟨x,hxm,rfl,hk1,rfl,v1⟩,⟨x,hxm,rfl,v1⟩⟩
 rw[v2]
 rcases h with⟨rfl,_⟩|h
 exact .inl Z
 rcases h.opn with h|⟨k,h1,h2⟩
 exact .inl h
 exact .inr ⟨k,h1,hold k h2⟩
 rw[v2]
 rcases lI.1 hok with⟨_,h1,_⟩|⟨rfl,_,h2,_⟩
 rcases h with⟨_,hn⟩|h
 exact absurd h1 (hn k)
 exact h.least k h1
 rcases h with⟨rfl,_⟩|h
 exact absurd ⟨h2,by decide⟩ ht
 rcases h.opn with h|⟨k,h1,hok2⟩
 exact absurd ⟨h2,by omega⟩ ht
 obtain⟨_,hok3,_⟩:=hok2
 have:=(aA.1 hok3).1
 omega
theorem IE {es:List cN} {x:cN} {pid:Int} {p:Prod} (h0:x.pid≠pid) (h:Jz es pid p):Jz (es++[x]) pid p:=by
 have hold: ∀ k,m3 (es++[x]) k pid↔m3 es k pid:=fun k=>by
  rw[lI]
  constructor
  rintro(⟨_,h,_⟩|⟨_,_,_,h,_⟩)
  exact h
  exact absurd h h0
  intro h
  exact .inl ⟨by obtain⟨e,h,_⟩:=h;exact(aA.1 h).1,h,fun h=>absurd h h0⟩
 refine⟨?_,fun k hk=>h.least k ((hold k).1 hk),?_,?_,?_⟩
 rcases h.opn with h|⟨k,h1,h2⟩
 exact .inl h
 exact .inr ⟨k,h1,(hold k).2 h2⟩
 rcases h.mark with h|⟨k,e,h1,h2,h3⟩
 exact .inl h
 exact .inr ⟨k,e,h1,by rw[cm (aA.1 h2).1];exact h2,h3⟩
 rcases h.seq with h|⟨e,he,h⟩
 exact .inl h
 exact .inr ⟨e,hZ _ he,h⟩
 obtain⟨e,he,h⟩:=h.ver
 exact⟨e,hZ _ he,h⟩
theorem uk (es:List cN) (pid:Int):(∀ p,jT es pid=some p->Jz es pid p)/\(jT es pid=none-> ∀ e∈es,e.pid=pid->pid=0):=by
 induction es using J2 with
 |h0=>exact⟨fun p h=>by simp[IB]at h,fun _ e he=>by cases he⟩
 |h1 es x ih=>
  obtain⟨ih1,ih2⟩:=ih
  rw[zF]
  by_cases hc:x.pid≠0/\x.pid=pid
  obtain⟨h0,rfl⟩:=hc
  rw[if_pos ⟨h0,rfl⟩]
  refine⟨fun p hp=> ?_,fun h=>by cases h⟩
  injection hp with hp
  subst hp
  cases hq:jT es x.pid with
  |none=>
   refine Cm h0 (.inl ⟨rfl,fun k hok=> ?_⟩)
   obtain⟨e,h1,_,_,h4,h5,_⟩:=hok
   exact h5 (ih2 hq e (ae h1) h4)
  |some q=>exact Cm h0 (.inr (ih1 q hq))
  rw[if_neg hc]
  refine⟨fun p hp=> ?_,fun h e he hpe=> ?_⟩
  by_cases hx:x.pid=pid
  have h0:x.pid=0:=Classical.byContradiction fun h=>hc ⟨h,hx⟩
  obtain⟨e,he,h1,h1v⟩:=(ih1 p hp).ver
  have h:=ih1 p hp
  have hz:pid=0:=hx▸h0
  have hnone: ∀ l k,¬ m3 l k pid:=fun l k ⟨_,_,_,_,_,h,_⟩=>h hz
  refine⟨?_,fun k hk=>absurd hk (hnone _ k),?_,?_,?_⟩
  rcases h.opn with h|⟨k,_,h2⟩
  exact .inl h
  exact absurd h2 (hnone _ k)
  rcases h.mark with h|⟨k,e,h1,h2,h3⟩
  exact .inl h
  exact .inr ⟨k,e,h1,by rw[cm (aA.1 h2).1];exact h2,h3⟩
  rcases h.seq with h|⟨e,he,h⟩
  exact .inl h
  exact .inr ⟨e,hZ _ he,h⟩
  exact⟨e,hZ _ he,h1,h1v⟩
  exact IE hx (ih1 p hp)
  rcases au.1 he with he|he
  exact ih2 h e he hpe
  rw[aq.1 he]at hpe
  exact Classical.byContradiction fun h0=>hc ⟨fun h=>h0 (hpe▸h),hpe⟩
def tF (es:List cN) (n:Nat):Prop:=n<=es.length/\(∀ k pid,m3 es k pid->n<=k)/\(n=es.length∨ ∃ pid,m3 es n pid)
theorem GJ {es:List cN} {n m:Nat} (h:tF es n) (h':tF es m):n=m:=by
 obtain⟨a1,a2,a3⟩:=h
 obtain⟨b1,b2,b3⟩:=h'
 have h1:n<=m:=by
  rcases b3 with h|⟨pid,h⟩
  omega
  exact a2 _ _ h
 have h2:m<=n:=by
  rcases a3 with h|⟨pid,h⟩
  omega
  exact b2 _ _ h
 omega
theorem IW {es:List cN} {S:List PB} (hS:PS S es) {out:Int} (h1:out<=es.length) (h2: ∀ q∈S,0<=q.2.2.open_->out<=q.2.2.open_) (h3:out=es.length∨ ∃ q∈S,0<=q.2.2.open_/\out=q.2.2.open_): ∃ n:Nat,out=n/\tF es n:=by
 have hq: ∀ q∈S,Jz es q.1 q.2.2:=fun q hq=>by
  obtain⟨a,b,p⟩:=q
  obtain⟨j,hj⟩:=aW.1 hq
  have:=ut hS.1 hj
  rw[hS.2]at this
  exact(uk es a).1 p this
 have h4: ∀ k pid,m3 es k pid->out<=k:=fun k pid hok=>by
  cases hp:jT es pid with
  |none=>
   obtain⟨e,e1,_,_,e4,e5,_⟩:=hok
   exact absurd ((uk es pid).2 hp e (ae e1) e4) e5
  |some p=>
   have hl:=(((uk es pid).1 p hp).least k hok)
   have hlk:=hS.2 pid
   rw[hp]at hlk
   unfold uF at hlk
   cases hf:S.find? (fun q=>decide (q.1=pid))with
   |none=>rw[hf]at hlk;cases hlk
   |some q=>
    rw[hf]at hlk
    simp at hlk
    have hm:=List.mem_of_find?_eq_some hf
    have:=h2 q hm (by rw[hlk];exact hl.1)
    rw[hlk]at this
    omega
 rcases h3 with rfl|⟨q,hqm,q0,rfl⟩
 exact⟨es.length,rfl,ao _,fun k pid h=>by have:=h4 k pid h;omega,.inl Z⟩
 rcases(hq q hqm).opn with h|⟨k,hk,hok⟩
 omega
 refine⟨k,hk,by omega,fun j pid h=>by have:=h4 j pid h;omega,.inr ⟨_,hok⟩⟩
def xB (es:List cN) (p:Int):Bool:=
 match es.find? (fun e=>!decide (e.kind=1)&&decide (e.pid=p))with
 |some e=>decide (e.kind=2)
 |none=>false
def yn (es:List cN) (i:Nat) (e:cN):Bool:=!e.txn||xB (es.drop (i+1)) e.pid
theorem tD (e:cN) (es:List cN) (p:Int):xB (e::es) p=if¬ e.kind=1/\e.pid=p then decide (e.kind=2)else xB es p:=by
 unfold xB
 rw[List.find?_cons]
 by_cases h1:e.kind=1<;>by_cases h2:e.pid=p<;>simp[h1,h2]
theorem cM {α:Type} {l:List α} {k:Nat} {e:α} (h:l[k]? =some e):l.drop k=e::l.drop (k+1):=by
 obtain⟨hk,rfl⟩:=cE h
 exact mI hk
theorem MP (es:List cN) (A:Option Addr) (c i:Nat) (x:cN) (w:World) (hr:Rd gJ 0 w.heap.size A es w) (hi:es[i]? =some x) (hc:es.length<=c) (hb:es.length<=1000000):
  dd aa E9 [.slice A es.length c,J (i:Nat)] w fun v w2=>v=.bool (yn es i x)/\Below w.heap.size w w2:=by
 refine aD DE Z Z ?_
 have H:=Hp.startRd hr
 have hil:=(cE hi).1
 refine W<|Zr<|G (Wb Z)<|U<|W<|W<|Zr<|G (Ys Z)<|G (Yi Z)<|qn H 0 Z dR Z Z I I Z fun b1 o1 x1 e1=> ?_
 obtain rfl:x=x1:=by have:=e1.at_;rw[hi]at this;injection this
 refine G (Zf iW Z) ?_
 refine wr (aT dP Z (e1.cl 5 _ Z)) Z Z Z (fun h11=> ?_) (fun h11=> ?_)
 refine G (dK Z)<|U<|ZF Z<|Zk<|W<|W<|Zr<|G (Ys Z)<|G (Yi Z)<|G (br Z Z I I) ?_
 have h15:(i:Int)+1=((i+1:Nat):Int):=by omega
 rw[h15]
 refine NH (k:=i+1) H 0 Z dR Z Z Z hc I Z fun A16 H=> ?_
 generalize hds:es.drop (i+1)=ds at H
 have hdl:es.length- (i+1)=ds.length:=by rw[<-hds];simp
 rw[hdl]
 refine G (bn ex Z)<|G (Yi Z)<|U<|Zb ?_
 refine ce (τ:=Nat) [4,6,18,19,20,21,22,23,24,25,26,27,28,29,30,31,32,33,34,35,36,37,38] (fun k=>[(18,J (k:Nat))]) (fun k w'=>k<=ds.length/\xB ds x.pid=xB (ds.drop k) x.pid/\Hp w w' [] [dM gJ 0 w.heap.size A16 ds,dM gJ 0 w.heap.size A es]) (fun k=>ds.length-k) 0 ⟨by omega,rfl,H⟩ (dF Z) ?_
 rintro k ρ1 w2 ⟨hk,hkp,H⟩
 show CW _ _ _ _ (dC (gC _ _ ρ1) [(18,J (k:Nat))]) w2
 refine W<|Zr ?_
 refine cT (cG Z Z) Z Z Z (fun h19=> ?_) (fun h19=> ?_)
 refine U<|W<|ZT Z<|Zk<|W<|Zb<|W<|Zr<|qn H 0 Z dR Z Z I I Z fun b3 o3 x3 e3=>G (jM (xs:=cN.c x3) dD Z Z e3.cl)<|eH H f7 Z fun w4 b6 H=>J0 H 0 eQ Z Z Z Z Z Z fun w5 H=>U<|W ?_
 refine bz bX [0,1,2,3,4,5,6,7,8,9,10,11,12] [] [] [0,2,3,4,6,7,8,9,11,12] (sp []) N N N N Nq (cF _) ?_
 refine aw Z Z Z Z Z (fun w' hw'=>Zf eX Z)<|aw Z Z Z Z Z (fun w' hw'=>aT aj Z (aB ((H.later hw').ent (i:=0) Z) Z)) ?_
 refine M9 Z Z Z Z Z (fun w' hw'=>iL Z Z) (fun h24=> ?_) (fun h24=> ?_)
 refine aw Z Z Z Z Z (fun w' hw'=>Yb Z)<|aw Z Z Z Z Z (fun w' hw'=>Zf fe Z)<|aw Z Z Z Z Z (fun w' hw'=>aT aj Z (aB ((H.later hw').ent (i:=0) Z) Z))<|aw Z Z Z Z Z (fun w' hw'=>Ys Z)<|aw Z Z Z Z Z (fun w' hw'=>Yi Z)<|kj H 1 Z Z Z Z Z dR Z Z I I fun b6 o6 x6 e6=> ?_
 obtain rfl:x=x6:=by have:=e6.at_;rw[hi]at this;injection this
 refine aw Z Z Z Z Z (fun w' hw'=>Zf fe Z)<|aw Z Z Z Z Z (fun w' hw'=>aT aj Z (e6.later hw' 1 _ Z)) ?_
 refine Bd Z Z Z Z Z (fun w' hw'=>bl Z Z) (fun h33=> ?_) (fun h33=> ?_)
 refine aw Z Z Z Z Z (fun w' hw'=>Kt Z Z)<|aR ?_
 intro w7 hw' hF
 replace H:=H.later hw';clear hw' hF
 refine U<|ZT Z<|W<|Zr<|G (Zf eX Z)<|G (Zd aj H 0 Z Z Z)<|G (bl Z Z)<|G (Wb Z)<|U<|Zt ?_
 have hdk:=cM e3.at_
 have hx:yn es i x=decide (x3.kind=2):=by
  unfold yn;rw[h11,hds,hkp,hdk,tD,if_pos ⟨h24,h33⟩];rfl
 exact cD (v:=.bool (decide (x3.kind=2))) Z Z ⟨by rw[hx],H.below⟩
 refine aw Z Z Z Z Z (fun w' hw'=>Kt Z Z)<|aR ?_
 intro w8 hw' hF
 replace H:=H.later hw';clear hw' hF
 refine U<|ZF Z<|Zk<|Zr<|G (br Z Z I I)<|G (Yi Z)<|U ?_
 have hdk:=cM e3.at_
 rw[hdk,tD]at hkp
 rw[if_neg (by rintro⟨a,b⟩;first|exact a h24|exact h33 b)]at hkp
 refine⟨k+1,⟨by omega,hkp,H.forget (by simp) (fun _ h=>h)⟩,dF Z,Qg,by show ds.length- (k+1)<ds.length-k;omega⟩
 refine aw Z Z Z Z Z (fun w' hw'=>Yb Z)<|eO Z Z Z Z<|eO Z Z Z Z<|eO Z Z Z Z<|eO Z Z Z Z<|eO Z Z Z Z<|eO Z Z Z Z<|eO Z Z Z Z<|eO Z Z Z Z<|aw Z Z Z Z Z (fun w' hw'=>N Z Z)<|aR ?_
 intro w9 hw' hF
 replace H:=H.later hw';clear hw' hF
 refine U<|ZF Z<|Zk<|Zr<|G (br Z Z I I)<|G (Yi Z)<|U ?_
 have hdk:=cM e3.at_
 rw[hdk,tD]at hkp
 rw[if_neg (by rintro⟨a,b⟩;first|exact a h24|exact h33 b)]at hkp
 refine⟨k+1,⟨by omega,hkp,H.forget (by simp) (fun _ h=>h)⟩,dF Z,Qg,by show ds.length- (k+1)<ds.length-k;omega⟩
 refine U<|W<|ZF Z<|Zx<|W<|Zr<|G (Wb Z)<|U<|Zt ?_
 have hx:yn es i x=false:=by
  unfold yn;rw[h11,hds,hkp,ef I];rfl
 exact cD (v:=.bool false) Z Z ⟨by rw[hx],H.below⟩
 refine G (dK Z)<|U<|ZT Z<|W<|Zr<|G (Wb Z)<|U<|Zt ?_
 have hx:yn es i x=true:=by simp[yn,h11]
 exact cD (v:=.bool true) Z Z ⟨by rw[hx],H.below⟩
theorem Kh {S:List PB} {m:Nat} {k:Int} {v:Value} (h:(qS S)[m]? =some (k,v)): ∃ (b:Nat) (p:Prod),S[m]? =some (k,b,p)/\v=Bo b:=by
 unfold qS at h
 rw[aL]at h
 cases hs:S[m]? with
 |none=>rw[hs]at h;cases h
 |some q=>
  rw[hs]at h
  obtain⟨a,b,p⟩:=q
  simp at h
  exact⟨b,p,by rw[h.1],h.2.symm⟩
def C3 (n:Nat) (seen:Array Nat):Nat:=((Bf n).filter fun m=>!seen.contains m).length
theorem B8 {n m:Nat} {seen:Array Nat} (hm:m<n) (hs:seen.contains m=false):C3 n (seen.push m)<C3 n seen:=by
 unfold C3
 refine filter_lt _ _ (fun x hx=> ?_) m (by rw[hs];rfl) (by simp) _ (List.mem_range.2 hm)
 simp at hx⊢
 exact hx.1
theorem Cg (es:List cN) (A:Option Addr) (c n:Nat) (w:World) (hr:Rd gJ 0 w.heap.size A es w) (hc:es.length<=c) (hb:es.length<=1000000) (hn:n<=es.length):
  dd aa Bx [.slice A es.length c,J (n:Nat)] w fun v w2=> ∃ m:Nat,tF (es.take n) m/\v=.tuple #[J (m:Nat),J 0]/\Below w.heap.size w w2:=by
 refine aD Ar Z Z ?_
 have H:=Hp.startRd hr
 refine W<|Zr<|G (Wi Z)<|G (Wi Z)<|U<|W<|W<|Zr<|G (Yi Z)<|G (cY Z Z I)<|G (Yb Z)<|ZG<|G (Yi Z)<|ZG<|G (Ys Z)<|ZG<|G (bn ex Z)<|ZG<|G (en Z Z I)<|G (N Z Z)<|U<|ZF Z<|Zk<|W<|Zr<|G (Yi Z)<|G (Wi Z)<|U<|W<|W<|Zr<|G (Ys Z)<|G (Yi Z)<|r9 (k:=n) H 0 Z dR Z Z hc I Z fun A20 H=> ?_
 obtain⟨ds,hds⟩: ∃ ds,es.take n=ds:=⟨_,rfl⟩
 have hdl:n=ds.length:=by rw[<-hds];simp;omega
 rw[hds]at H⊢
 subst hdl
 refine cd tW (Cl ds _ _ _ (H.rd0 0 Z) I) Z Z ?_
 rintro _ w1 ⟨S,bm,rfl,hS,hj⟩;replace H:=H.join hj;clear hj
 refine PT H 0 rE Z Z Z fun w2 it H=>U<|Zb ?_
 refine ce (τ:=Array Nat×Int) [6,8,23,24,25,26,27,28,29,30,31,32,33,34,35,36,37] (fun(seen,out)=>[(6,J out)]) (fun(seen,out) w'=>out<=ds.length/\(∀ m q,S[m]? =some q->seen.contains m=true->0<=q.2.2.open_->out<=q.2.2.open_)/\(out=ds.length∨ ∃ q∈S,0<=q.2.2.open_/\out=q.2.2.open_)/\Hp w w' ((it,.mapIter (some bm) (qS S).length seen (qS S).length)::(jl bm S++[])) [dM gJ 0 w.heap.size A20 ds,dM gJ 0 w.heap.size A es]) (fun(seen,_)=>C3 S.length seen) (#[],(ds.length:Int)) ⟨by omega,by simp,.inl Z,H⟩ (dF Z) ?_
 rintro⟨seen,out⟩ ρ1 w3 ⟨ho1,ho2,ho3,H⟩
 show CW _ _ _ _ (dC (gC _ _ ρ1) [(6,J out)]) w3
 refine W<|Zr ?_
 refine PW H 0 1 Z Z Z Z ?_ ?_
 intro hall
 refine G (Xb Z Z)<|U<|W<|ZF Z<|Zx<|W<|Zr<|G (Yi Z)<|G (Wi Z)<|G (Wi Z)<|U<|Zt ?_
 have hpl:(qS S).length=S.length:=by simp[qS]
 obtain⟨m,rfl,hst⟩:=IW hS ho1 (fun q hq h0=>by obtain⟨m,hm⟩:=aW.1 hq;exact ho2 m q hm (hall m (by rw[hpl];exact(cE hm).1)) h0) ho3
 exact l5 Z Z Z ⟨m,by first|exact hst|(rw[hds];exact hst),rfl,H.below⟩
 intro m k v w4 hm hsn H
 obtain⟨b,p,hmS,rfl⟩:=Kh hm
 have hbk:=H.ent (i:=m+2) (b:=b) (o:=.cells p.c.toArray lD (0,0)) (by simp[jl,xt,hmS])
 have hml:=(cE hmS).1
 refine G (Xb Z Z)<|U<|W<|ZT Z<|Zk<|Zb<|W<|Zr<|G (OK Z (H.ent (i:=0) Z) (H.ent (i:=1) Z) hm)<|G (OJ Z Z)<|G (Wp Z)<|U<|W<|Zr<|G (Yp Z)<|G (aI Z)<|G (Zf dY Z)<|G (aT aj Z (aB hbk Z)) ?_
 refine cT (j4 Z Z) Z Z Z (fun h31=> ?_) (fun h31=> ?_)
 refine U<|ZT Z<|Zr<|G (Yi Z)<|G (Yp Z)<|G (aI Z)<|G (Zf dY Z)<|G (aT aj Z (aB hbk Z))<|G (tv Z Z)<|G (Wi Z)<|U ?_
 refine⟨(seen.push m,min out p.open_),⟨by omega,fun m2 q hq hs h0=> ?_,?_,H⟩,dF Z,Qg,B8 hml hsn⟩
 rw[Array.contains_push]at hs
 rcases Bool.or_eq_true_iff.1 hs with hs|hs
 have:=ho2 m2 q hq hs h0;omega
 have hmm:m2=m:=by simpa using hs
 subst hmm;rw[hmS]at hq;injection hq with hq;subst hq;try dsimp only at h0⊢
 omega
 by_cases hmin:out<=p.open_
 rw[Int.min_eq_left hmin];exact ho3
 exact .inr ⟨_,ae hmS,h31,by dsimp only;omega⟩
 refine U<|ZF Z<|Zk ?_
 refine⟨(seen.push m,out),⟨by omega,fun m2 q hq hs h0=> ?_,?_,H⟩,dF Z,Qg,B8 hml hsn⟩
 rw[Array.contains_push]at hs
 rcases Bool.or_eq_true_iff.1 hs with hs|hs
 have:=ho2 m2 q hq hs h0;omega
 have hmm:m2=m:=by simpa using hs
 subst hmm;rw[hmS]at hq;injection hq with hq;subst hq;try dsimp only at h0⊢
 exfalso;exact h31 h0
 exact ho3
def vF (es:List cN) (m:Int) (x:cN):Bool:=match es[m.toNat]? with
 |some e=>decide (e.kind=x.kind)&&decide (e.ver=x.ver)
 |none=>false
def mT (x e:cN):Bool:=decide (e.kind=1)&&decide (e.pid=x.pid)&&decide (e.ver=x.ver)&&decide (e.seq=x.seq)
def pK (es:List cN) (x:cN) (p:Prod):Int×Int:=
 if x.ver<p.ver then(0,10)
 else if¬ x.kind=1 then(if p.open_<0/\0<=p.mark/\vF es p.mark x=true then(p.mark,0)else(-1,0))
 else if(if p.ver<x.ver then-1 else p.seq)+1<x.seq then(0,11)
 else if x.seq=(if p.ver<x.ver then-1 else p.seq)+1 then(-1,0)
 else match es.findIdx? (mT x)with
  |some i=>((i:Int),0)
  |none=>(0,11)
def ia (es:List cN) (x:cN):Int×Int:=if x.pid=0 then(-1,0)else pK es x ((jT es x.pid).getD ⟨x.ver,-1,-1,-1⟩)
def OU (w:World) (es:List cN):Sp:=⟨fun v w2=> ∃ S bm,v=.map (some bm)/\PS S es/\Hp w w2 (jl bm S) [],fun _ _ _ hb ⟨S,bm,h1,h2,h3⟩=>⟨S,bm,h1,h2,h3.later hb⟩⟩
def seqB (es:List cN):Prop:= ∀ e∈es,-1000000000000000<=e.seq/\e.seq<=1000000000000000
theorem EH {es:List cN} {x:cN} (hq:seqB es) {p:Prod} (hp:p=(jT es x.pid).getD ⟨x.ver,-1,-1,-1⟩):(p.mark= -1∨ ∃ (k:Nat) (y:cN),p.mark=k/\es[k]? =some y)/\ -1000000000000000<=p.seq/\p.seq<=1000000000000000:=by
 cases h:jT es x.pid with
 |none=>rw[h]at hp;subst hp;exact⟨.inl Z,by simp⟩
 |some q=>
  rw[h]at hp
  simp at hp
  subst hp
  have hi:=(uk es x.pid).1 p h
  refine⟨?_,?_⟩
  rcases hi.mark with h|⟨k,e,h1,h2,_⟩
  exact .inl h
  exact .inr ⟨k,e,h1,h2⟩
  rcases hi.seq with h|⟨e,he,_,_,h,_⟩
  omega
  have:=hq e he;omega
theorem FC {es:List cN} {x:cN} (h: ∀ j e,j<es.length->es[j]? =some e->mT x e=false):es.findIdx? (mT x)=none:=by
 rw[dm]
 intro e he
 obtain⟨j,hj⟩:=aW.1 he
 exact h j e (cE hj).1 hj
theorem FB {es:List cN} {x y:cN} {k:Nat} (hk:es[k]? =some y) (hy:mT x y=true) (h: ∀ j e,j<k->es[j]? =some e->mT x e=false):es.findIdx? (mT x)=some k:=by
 rw[bf]
 obtain⟨hl,rfl⟩:=cE hk
 exact⟨hl,hy,fun j hj=>by rw[h j _ hj (ah I)];simp⟩
theorem P1 (S:List PB) (pid:Int) {w:World} {b:Nat} (hn:(S.map (·.1)).Nodup) (hb:w.heap[b]? =some (tw (qS S))): ∃ q:Option Addr,((q=none/\ ∀ r∈S,r.1≠pid)∨ ∃ (j c:Nat) (p:Prod),S[j]? =some (pid,c,p)/\q=some ⟨c,0,none⟩)/\ ∀ {ρ:gM} {dst:Option Nat} {x y:Operand} {t:TypeId} {p:String} {af:Array Edge} {g:Option (Nat×Bool)},ev ρ x=.map (some b)->ev ρ y=J pid->(execOp (ev ρ) (Og dst (.lookup HV x y false) t p af g)).run aa w=.ok (.value (.pointer q)) w:=by
 rcases zW S pid with h|⟨j,c,p,h⟩
 exact⟨none,.inl ⟨rfl,h⟩,fun hx hy=>Nr rE qx hx hy hb (by intro q hq;obtain⟨a,ha,rfl⟩:=bw.1 hq;exact h a ha)⟩
 exact⟨some ⟨c,0,none⟩,.inr ⟨j,c,p,h,rfl⟩,fun hx hy=>Np rE qx hx hy hb (by rw[um];exact hn) (EJ h)⟩
theorem Ic (es:List cN) (A:Option Addr) (c:Nat) (x:cN) (w:World) (hr:Rd gJ 0 w.heap.size A es w) (hb:es.length<=1000000) (hq:seqB es):
  dd aa Dq [.slice A es.length c,x.v] w fun v w2=>v=.tuple #[J (ia es x).1,J (ia es x).2]/\Below w.heap.size w w2:=by
 refine aD BC Z Z ?_
 have H:=Hp.startRd hr
 refine W<|Zr<|fQ H Z Z fun w1 b3 H=>G (Wi Z)<|G (Wi Z)<|U<|W<|W<|Zr<|G (Zf fe Z)<|G (Zd aj H 0 Z Z Z) ?_
 refine cT (bl Z Z) Z Z Z (fun h11=> ?_) (fun h11=> ?_)
 refine U<|ZT Z<|W<|Zr<|G (Wi Z)<|G (Wi Z)<|U<|Zt ?_
 have hv:ia es x=(-1,0):=by unfold ia;rw[if_pos h11]
 exact l5 (v:=J (-1)) (v2:=J 0) Z Z Z ⟨by rw[hv],H.below⟩
 refine U<|ZF Z<|Zk<|W ?_
 refine bz bX [0,2,3,1] [4,5] [1] [0,2] (sp [(1,OU w1 es)]) N N N N Nq (cF _) ?_
 refine aw Z Z Z Z Z (fun w' hw'=>Ys Z)<|aw Z Z Z Z Z (fun w' hw'=>Zf fe Z)<|aw Z Z Z Z Z (fun w' hw'=>aT aj Z (aB ((H.later hw').ent (i:=0) Z) Z)) ?_
 refine yz tW Z Z Z Z (fun w' hw'=>(Cl es _ _ w' ((H.later hw').rd0 0 Z) hb).mono (fun v w2 ⟨S,bm,h1,h2,h3⟩=>⟨h3.below,S,bm,h1,h2,Hp.base hw' h3⟩)) Z ?_;rintro v13-
 refine aR ?_
 intro w2 hw' hF
 obtain⟨-,S,bm,rfl,hS,hj⟩:=hF
 replace H:=H.join hj;clear hj hw'
 have hb3:=H.ent (i:=S.length+1) (b:=b3) (o:=.cells (cN.c x).toArray dt (0,0)) (by simp[jl])
 obtain⟨P16,hP16,hx16⟩:=P1 S x.pid hS.1 (H.ent (i:=0) Z)
 refine G (hx16 Z Z)<|G (Wp Z)<|U<|W ?_
 refine eE (τ:=Nat×Int×Int×Int×Int×List (Nat×Obj)) [6,17,18,19,20,21,22] (fun(b,_,_,_,_,_)=>[(6,Bo b)]) (fun(b,pv_,ps,po,pm,K) w'=>(⟨pv_,ps,po,pm⟩:Prod)=(jT es x.pid).getD ⟨x.ver,-1,-1,-1⟩/\Hp w w' ((b,.cells #[J pv_,J ps,J po,J pm] lD (0,0))::(b3,.cells (cN.c x).toArray dt (0,0))::K) [dM gJ 0 w.heap.size A es]) ?_ ?_
 refine W<|Zr ?_
 rcases hP16 with⟨rfl,hno⟩|⟨j,b,p,hj,rfl⟩
 refine G (Yp Z)<|G (xr nI Z)<|U<|ZT Z<|Zr<|G (Zf ez Z)<|G (aT aj Z (aB hb3 Z))<|G (bi (cs:= #[J x.ver,J (-1),J (-1),J (-1)]) ya zh N)<|fQ H Z Z fun w3 b22 H=>G (Wp Z)<|U ?_
 refine⟨(b22,x.ver,-1,-1,-1,jl bm S),⟨by rw[<-hS.2,Cu hno];rfl,H.perm ((s0 _ _).symm.cons _)⟩,dF Z,Qg⟩
 refine G (Yp Z)<|G (vC nI Z)<|U<|ZF Z<|Zk ?_
 have hP:=ET hj
 refine⟨(b,p.ver,p.seq,p.open_,p.mark,(bm,tw (qS S))::(S.eraseIdx j).map xt),⟨by rw[<-hS.2,ut hS.1 hj];rfl,H.perm ?_⟩,dF Z,Qg⟩
 exact(qj (l₁:=[_,_])).symm.trans (((hP.cons _).cons _).trans (s0 _ _).symm)
 rintro⟨b,pv_,ps,po,pm,K⟩ ρ2 w4 ⟨hp,H⟩
 show CW _ _ _ _ (dC (gC _ _ ρ2) [(6,Bo b)]) w4
 obtain⟨hmark,hsq1,hsq2⟩:=EH hq hp
 dsimp only at hsq1 hsq2
 refine W<|Zb<|W ?_
 refine bz bX [0,1,2,3,4,5,6,7] [] [] [0,2,3,4,6,7] (sp []) N N N N Nq (cF _) ?_
 refine aw Z Z Z Z Z (fun w' hw'=>Zf ez Z)<|aw Z Z Z Z Z (fun w' hw'=>aT aj Z (aB ((H.later hw').ent (i:=1) Z) Z))<|aw Z Z Z Z Z (fun w' hw'=>Yp Z)<|aw Z Z Z Z Z (fun w' hw'=>aI Z)<|aw Z Z Z Z Z (fun w' hw'=>Zf jD Z)<|aw Z Z Z Z Z (fun w' hw'=>aT aj Z (aB ((H.later hw').ent (i:=0) Z) Z)) ?_
 refine Bd Z Z Z Z Z (fun w' hw'=>cG Z Z) (fun h30=> ?_) (fun h30=> ?_)
 refine aw Z Z Z Z Z (fun w' hw'=>Wb Z)<|aR ?_
 intro w5 hw' hF
 replace H:=H.later hw';clear hw' hF
 refine U<|ZT Z<|W<|Zr<|G (Wi Z)<|G (Wi Z)<|U<|Zt ?_
 have hv:ia es x=(0,10):=by
  unfold ia;rw[if_neg h11,<-hp];unfold pK;simp[h30]
 exact l5 (v:=J (0)) (v2:=J 10) Z Z Z ⟨by rw[hv],H.below⟩
 refine aw Z Z Z Z Z (fun w' hw'=>Wb Z)<|aR ?_
 intro w6 hw' hF
 replace H:=H.later hw';clear hw' hF
 refine U<|ZF Z<|W<|Zr<|G (Zf eX Z)<|G (Zd aj H 1 Z Z Z) ?_
 refine qm (iL Z Z) Z Z Z (fun h34=> ?_) (fun h34=> ?_)
 refine G (Wb Z)<|U<|ZT Z<|W<|W ?_
 refine bz bX [0,1,2,3,4,5,6,7,8,9,10,11,12,13,14,15,16,17,18,19,20,21,22,23,24,25,26,27,28,29,30,31,32,33,34,35,36,37] [] [] [0,1,2,4,5,6,7,8,10,11,12,13,14,15,16,18,19,21,23,24,25,26,27,28,29,31,32,34,36,37] (sp []) N N N N Nq (cF _) ?_
 refine aw Z Z Z Z Z (fun w' hw'=>Yp Z)<|aw Z Z Z Z Z (fun w' hw'=>aI Z)<|aw Z Z Z Z Z (fun w' hw'=>Zf dY Z)<|aw Z Z Z Z Z (fun w' hw'=>aT aj Z (aB ((H.later hw').ent (i:=0) Z) Z)) ?_
 refine Bd Z Z Z Z Z (fun w' hw'=>cG Z Z) (fun h39=> ?_) (fun h39=> ?_)
 refine aw Z Z Z Z Z (fun w' hw'=>Yb Z)<|aw Z Z Z Z Z (fun w' hw'=>Yp Z)<|aw Z Z Z Z Z (fun w' hw'=>aI Z)<|aw Z Z Z Z Z (fun w' hw'=>Zf g9 Z)<|aw Z Z Z Z Z (fun w' hw'=>aT aj Z (aB ((H.later hw').ent (i:=0) Z) Z)) ?_
 refine Bd Z Z Z Z Z (fun w' hw'=>j4 Z Z) (fun h45=> ?_) (fun h45=> ?_)
 rcases hmark with hm1|⟨k,y,hmk,hyk⟩
 exfalso;dsimp only at hm1 h45;omega
 dsimp only at hmk
 subst hmk
 have hkl:=(cE hyk).1
 refine aw Z Z Z Z Z (fun w' hw'=>Kt Z Z)<|aw Z Z Z Z Z (fun w' hw'=>Yb Z)<|aw Z Z Z Z Z (fun w' hw'=>Ys Z)<|aw Z Z Z Z Z (fun w' hw'=>Yp Z)<|aw Z Z Z Z Z (fun w' hw'=>aI Z)<|aw Z Z Z Z Z (fun w' hw'=>Zf g9 Z)<|aw Z Z Z Z Z (fun w' hw'=>aT aj Z (aB ((H.later hw').ent (i:=0) Z) Z))<|kj H 0 Z Z Z Z Z dR Z Z I I fun b7 o7 x7 e7=> ?_
 obtain rfl:y=x7:=by have:=e7.at_;rw[hyk]at this;injection this
 refine aw Z Z Z Z Z (fun w' hw'=>Zf eX Z)<|aw Z Z Z Z Z (fun w' hw'=>aT aj Z (e7.later hw' 4 _ Z))<|aw Z Z Z Z Z (fun w' hw'=>Zf eX Z)<|aw Z Z Z Z Z (fun w' hw'=>aT aj Z (aB ((H.later hw').ent (i:=1) Z) Z)) ?_
 refine Bd Z Z Z Z Z (fun w' hw'=>bl Z Z) (fun h58=> ?_) (fun h58=> ?_)
 refine aw Z Z Z Z Z (fun w' hw'=>Kt Z Z)<|aw Z Z Z Z Z (fun w' hw'=>Yb Z)<|aw Z Z Z Z Z (fun w' hw'=>Ys Z)<|aw Z Z Z Z Z (fun w' hw'=>Yp Z)<|aw Z Z Z Z Z (fun w' hw'=>aI Z)<|aw Z Z Z Z Z (fun w' hw'=>Zf g9 Z)<|aw Z Z Z Z Z (fun w' hw'=>aT aj Z (aB ((H.later hw').ent (i:=0) Z) Z))<|kj H 0 Z Z Z Z Z dR Z Z I I fun b8 o8 x8 e8=> ?_
 obtain rfl:y=x8:=by have:=e8.at_;rw[hyk]at this;injection this
 refine aw Z Z Z Z Z (fun w' hw'=>Zf ez Z)<|aw Z Z Z Z Z (fun w' hw'=>aT aj Z (e8.later hw' 2 _ Z))<|aw Z Z Z Z Z (fun w' hw'=>Zf ez Z)<|aw Z Z Z Z Z (fun w' hw'=>aT aj Z (aB ((H.later hw').ent (i:=1) Z) Z)) ?_
 refine Bd Z Z Z Z Z (fun w' hw'=>bl Z Z) (fun h71=> ?_) (fun h71=> ?_)
 refine aw Z Z Z Z Z (fun w' hw'=>Kt Z Z)<|aR ?_
 intro w9 hw' hF
 replace H:=H.later hw';clear hw' hF
 refine U<|ZT Z<|W<|Zr<|G (Yp Z)<|G (aI Z)<|G (Zf g9 Z)<|G (Zd aj H 0 Z Z Z)<|G (Wi Z)<|G (Wi Z)<|U<|Zt ?_
 have hmk:vF es (k:Nat) x=true:=by
  unfold vF;rw[show((k:Nat):Int).toNat=k from rfl,hyk];simp[h58,h71]
 have hv:ia es x=((k:Int),0):=by
  unfold ia;rw[if_neg h11,<-hp];unfold pK;simp[h30,h34,h39,h45,h58,h71,hmk]
 exact l5 (v:=J ((k:Int))) (v2:=J 0) Z Z Z ⟨by rw[hv],H.below⟩
 refine aw Z Z Z Z Z (fun w' hw'=>Kt Z Z)<|aR ?_
 intro w10 hw' hF
 replace H:=H.later hw';clear hw' hF
 refine U<|ZF Z<|Zk<|W<|Zr<|G (Wi Z)<|G (Wi Z)<|U<|Zt ?_
 have hmk:vF es (k:Nat) x=false:=by
  unfold vF;rw[show((k:Nat):Int).toNat=k from rfl,hyk];simp[h58,h71]
 have hv:ia es x=(-1,0):=by
  unfold ia;rw[if_neg h11,<-hp];unfold pK;simp[h30,h34,h39,h45,h58,h71,hmk]
 exact l5 (v:=J (-1)) (v2:=J 0) Z Z Z ⟨by rw[hv],H.below⟩
 refine aw Z Z Z Z Z (fun w' hw'=>Kt Z Z)<|aw Z Z Z Z Z (fun w' hw'=>Yb Z)<|eO Z Z Z Z<|eO Z Z Z Z<|eO Z Z Z Z<|eO Z Z Z Z<|eO Z Z Z Z<|eO Z Z Z Z<|eO Z Z Z Z<|eO Z Z Z Z<|eO Z Z Z Z<|eO Z Z Z Z<|eO Z Z Z Z<|aw Z Z Z Z Z (fun w' hw'=>N Z Z)<|aR ?_
 intro w11 hw' hF
 replace H:=H.later hw';clear hw' hF
 refine U<|ZF Z<|Zk<|W<|Zr<|G (Wi Z)<|G (Wi Z)<|U<|Zt ?_
 have hmk:vF es (k:Nat) x=false:=by
  unfold vF;rw[show((k:Nat):Int).toNat=k from rfl,hyk];simp[h58]
 have hv:ia es x=(-1,0):=by
  unfold ia;rw[if_neg h11,<-hp];unfold pK;simp[h30,h34,h39,h45,h58,hmk]
 exact l5 (v:=J (-1)) (v2:=J 0) Z Z Z ⟨by rw[hv],H.below⟩
 refine aw Z Z Z Z Z (fun w' hw'=>Kt Z Z)<|aw Z Z Z Z Z (fun w' hw'=>Yb Z)<|eO Z Z Z Z<|eO Z Z Z Z<|eO Z Z Z Z<|eO Z Z Z Z<|eO Z Z Z Z<|eO Z Z Z Z<|eO Z Z Z Z<|eO Z Z Z Z<|eO Z Z Z Z<|eO Z Z Z Z<|eO Z Z Z Z<|aw Z Z Z Z Z (fun w' hw'=>N Z Z)<|aw Z Z Z Z Z (fun w' hw'=>Yb Z)<|eO Z Z Z Z<|eO Z Z Z Z<|eO Z Z Z Z<|eO Z Z Z Z<|eO Z Z Z Z<|eO Z Z Z Z<|eO Z Z Z Z<|eO Z Z Z Z<|eO Z Z Z Z<|eO Z Z Z Z<|eO Z Z Z Z<|aw Z Z Z Z Z (fun w' hw'=>N Z Z)<|aR ?_
 intro w12 hw' hF
 replace H:=H.later hw';clear hw' hF
 refine U<|ZF Z<|Zk<|W<|Zr<|G (Wi Z)<|G (Wi Z)<|U<|Zt ?_
 have hv:ia es x=(-1,0):=by
  unfold ia;rw[if_neg h11,<-hp];unfold pK;simp[h30,h34,h39,h45]
 exact l5 (v:=J (-1)) (v2:=J 0) Z Z Z ⟨by rw[hv],H.below⟩
 refine aw Z Z Z Z Z (fun w' hw'=>Yb Z)<|eO Z Z Z Z<|eO Z Z Z Z<|eO Z Z Z Z<|eO Z Z Z Z<|eO Z Z Z Z<|aw Z Z Z Z Z (fun w' hw'=>N Z Z)<|aw Z Z Z Z Z (fun w' hw'=>Yb Z)<|eO Z Z Z Z<|eO Z Z Z Z<|eO Z Z Z Z<|eO Z Z Z Z<|eO Z Z Z Z<|eO Z Z Z Z<|eO Z Z Z Z<|eO Z Z Z Z<|eO Z Z Z Z<|eO Z Z Z Z<|eO Z Z Z Z<|aw Z Z Z Z Z (fun w' hw'=>N Z Z)<|aw Z Z Z Z Z (fun w' hw'=>Yb Z)<|eO Z Z Z Z<|eO Z Z Z Z<|eO Z Z Z Z<|eO Z Z Z Z<|eO Z Z Z Z<|eO Z Z Z Z<|eO Z Z Z Z<|eO Z Z Z Z<|eO Z Z Z Z<|eO Z Z Z Z<|eO Z Z Z Z<|aw Z Z Z Z Z (fun w' hw'=>N Z Z)<|aR ?_
 intro w13 hw' hF
 replace H:=H.later hw';clear hw' hF
 refine U<|ZF Z<|Zk<|W<|Zr<|G (Wi Z)<|G (Wi Z)<|U<|Zt ?_
 have hv:ia es x=(-1,0):=by
  unfold ia;rw[if_neg h11,<-hp];unfold pK;simp[h30,h34,h39]
 exact l5 (v:=J (-1)) (v2:=J 0) Z Z Z ⟨by rw[hv],H.below⟩
 refine G (Wb Z)<|U<|ZF Z<|W ?_
 refine bz bX [0,1,2,3,4,5,6,7] [] [] [0,2,3,4,6,7] (sp []) N N N N Nq (cF _) ?_
 refine aw Z Z Z Z Z (fun w' hw'=>Zf ez Z)<|aw Z Z Z Z Z (fun w' hw'=>aT aj Z (aB ((H.later hw').ent (i:=1) Z) Z))<|aw Z Z Z Z Z (fun w' hw'=>Yp Z)<|aw Z Z Z Z Z (fun w' hw'=>aI Z)<|aw Z Z Z Z Z (fun w' hw'=>Zf jD Z)<|aw Z Z Z Z Z (fun w' hw'=>aT aj Z (aB ((H.later hw').ent (i:=0) Z) Z)) ?_
 refine Bd Z Z Z Z Z (fun w' hw'=>j0 Z Z) (fun h84=> ?_) (fun h84=> ?_)
 refine aw Z Z Z Z Z (fun w' hw'=>Wb Z)<|aR ?_
 intro w14 hw' hF
 replace H:=H.later hw';clear hw' hF
 refine U<|ZT Z<|Zr<|G (Yp Z)<|G (aI Z)<|G (Zf fi Z)<|bo H 0 (#[J pv_,J (-1),J po,J pm]) bI Z Z Z Z Z N N fun w15 H=>U<|W<|W ?_
 refine bz bX [0,1,2,3,4,5,6,7] [] [] [0,2,3,4,6,7] (sp []) N N N N Nq (cF _) ?_
 refine aw Z Z Z Z Z (fun w' hw'=>Zf eY Z)<|aw Z Z Z Z Z (fun w' hw'=>aT aj Z (aB ((H.later hw').ent (i:=1) Z) Z))<|aw Z Z Z Z Z (fun w' hw'=>Yp Z)<|aw Z Z Z Z Z (fun w' hw'=>aI Z)<|aw Z Z Z Z Z (fun w' hw'=>Zf fi Z)<|aw Z Z Z Z Z (fun w' hw'=>aT aj Z (aB ((H.later hw').ent (i:=0) Z) Z))<|aw Z Z Z Z Z (fun w' hw'=>br Z Z I I) ?_
 refine Bd Z Z Z Z Z (fun w' hw'=>j0 Z Z) (fun h95=> ?_) (fun h95=> ?_)
 refine aR ?_
 intro w16 hw' hF
 replace H:=H.later hw';clear hw' hF
 refine U<|ZT Z<|W<|Zr<|G (Wi Z)<|G (Wi Z)<|U<|Zt ?_
 replace h95:0<x.seq:=by omega
 have hv:ia es x=(0,11):=by
  unfold ia;rw[if_neg h11,<-hp];unfold pK;simp[h30,h34,h84,h95]
 exact l5 (v:=J (0)) (v2:=J 11) Z Z Z ⟨by rw[hv],H.below⟩
 refine aR ?_
 intro w17 hw' hF
 replace H:=H.later hw';clear hw' hF
 refine U<|ZF Z<|Zk<|W<|W ?_
 refine bz bX [0,1,2,3,4,5,6,7] [] [] [0,2,3,4,6,7] (sp []) N N N N Nq (cF _) ?_
 refine aw Z Z Z Z Z (fun w' hw'=>Zf eY Z)<|aw Z Z Z Z Z (fun w' hw'=>aT aj Z (aB ((H.later hw').ent (i:=1) Z) Z))<|aw Z Z Z Z Z (fun w' hw'=>Yp Z)<|aw Z Z Z Z Z (fun w' hw'=>aI Z)<|aw Z Z Z Z Z (fun w' hw'=>Zf fi Z)<|aw Z Z Z Z Z (fun w' hw'=>aT aj Z (aB ((H.later hw').ent (i:=0) Z) Z))<|aw Z Z Z Z Z (fun w' hw'=>br Z Z I I) ?_
 refine Bd Z Z Z Z Z (fun w' hw'=>bl Z Z) (fun h103=> ?_) (fun h103=> ?_)
 refine aR ?_
 intro w18 hw' hF
 replace H:=H.later hw';clear hw' hF
 refine U<|ZT Z<|W<|Zr<|G (Wi Z)<|G (Wi Z)<|U<|Zt ?_
 replace h95: ¬ 0<x.seq:=by omega
 replace h103:x.seq=0:=by omega
 have hv:ia es x=(-1,0):=by
  unfold ia;rw[if_neg h11,<-hp];unfold pK;simp[h30,h34,h84,h95,h103]
 exact l5 (v:=J (-1)) (v2:=J 0) Z Z Z ⟨by rw[hv],H.below⟩
 refine aR ?_
 intro w19 hw' hF
 replace H:=H.later hw';clear hw' hF
 refine U<|ZF Z<|Zk<|W<|W<|Zr<|G (Ys Z)<|G (bn ex Z)<|G (Yi Z)<|U<|Zb ?_
 refine ce (τ:=Nat) [4,5,7,8,106,107,108,109,110,111,112,113,114,115,116,117,118,119,120,121,122,123,124,125,126,127,128,129,130,131,132,133,134,135,136] (fun i=>[(106,J (i:Nat))]) (fun i w'=>i<=es.length/\(∀ j e,j<i->es[j]? =some e->mT x e=false)/\Hp w w' ((b,.cells #[J pv_,J (-1),J po,J pm] lD (0,0))::(b3,.cells (cN.c x).toArray dt (0,0))::K) [dM gJ 0 w.heap.size A es]) (fun i=>es.length-i) 0 ⟨by omega,by intro j e hj;omega,H⟩ (dF Z) ?_
 rintro i ρ3 w20 ⟨hi,hno,H⟩
 show CW _ _ _ _ (dC (gC _ _ ρ3) [(106,J (i:Nat))]) w20
 refine W<|Zr ?_
 refine cT (cG Z Z) Z Z Z (fun h107=> ?_) (fun h107=> ?_)
 refine U<|W<|ZT Z<|Zk<|W<|Zb<|W<|Zr<|G (Yi Z)<|qn H 0 Z dR Z Z I I Z fun b21 o21 x21 e21=>G (jM (xs:=cN.c x21) dD Z Z e21.cl)<|eH H f7 Z fun w22 b8 H=>G (Wi Z)<|J0 H 0 eQ Z Z Z Z Z Z fun w23 H=>U<|W<|Zr<|G (Zf eX Z)<|G (Zd aj H 0 Z Z Z) ?_
 refine cT (bl Z Z) Z Z Z (fun h113=> ?_) (fun h113=> ?_)
 refine G (Yb Z)<|ZG<|G (Zf fe Z)<|ZG<|G (Zd aj H 0 Z Z Z)<|ZG<|G (Zf fe Z)<|ZG<|G (Zd aj H 2 Z Z Z)<|ZG ?_
 refine cT (bl Z Z) Z Z Z (fun h119=> ?_) (fun h119=> ?_)
 refine G (Kt Z Z)<|G (Yb Z)<|ZG<|G (Zf ez Z)<|ZG<|G (Zd aj H 0 Z Z Z)<|ZG<|G (Zf ez Z)<|ZG<|G (Zd aj H 2 Z Z Z)<|ZG ?_
 refine cT (bl Z Z) Z Z Z (fun h126=> ?_) (fun h126=> ?_)
 refine G (Kt Z Z)<|G (Yb Z)<|ZG<|G (Zf eY Z)<|ZG<|G (Zd aj H 0 Z Z Z)<|ZG<|G (Zf eY Z)<|ZG<|G (Zd aj H 2 Z Z Z)<|ZG ?_
 refine cT (bl Z Z) Z Z Z (fun h133=> ?_) (fun h133=> ?_)
 refine G (Kt Z Z)<|U<|ZT Z<|W<|Zr<|G (Yi Z)<|G (Wi Z)<|G (Wi Z)<|U<|Zt ?_
 replace h95: ¬ 0<x.seq:=by omega
 replace h103: ¬ x.seq=0:=by omega
 have hdup:=FB e21.at_ (by simp[mT,h113,h119,h126,h133]) hno
 have hv:ia es x=((i:Int),0):=by
  unfold ia;rw[if_neg h11,<-hp];unfold pK;simp[h30,h34,h84,h95,h103,hdup]
 exact l5 (v:=J ((i:Int))) (v2:=J 0) Z Z Z ⟨by rw[hv],H.below⟩
 refine G (Kt Z Z)<|U<|ZF Z<|Zk<|Zr<|G (br Z Z I I)<|G (Yi Z)<|U ?_
 refine⟨i+1,⟨by omega,fun j e hj he=> ?_,H.forget (aV _ _) (fun _ h=>h)⟩,dF Z,Qg,by show es.length- (i+1)<es.length-i;omega⟩
 by_cases hji:j<i
 exact hno j e hji he
 have:j=i:=by omega
 subst this;have he2:=e21.at_;rw[he]at he2;injection he2 with he2;subst he2
 simp[mT,h113,h119,h126,h133]
 refine G (Kt Z Z)<|G (Yb Z)<|ZN<|ZN<|ZN<|ZN<|ZN<|G (N Z Z)<|U<|ZF Z<|Zk<|Zr<|G (br Z Z I I)<|G (Yi Z)<|U ?_
 refine⟨i+1,⟨by omega,fun j e hj he=> ?_,H.forget (aV _ _) (fun _ h=>h)⟩,dF Z,Qg,by show es.length- (i+1)<es.length-i;omega⟩
 by_cases hji:j<i
 exact hno j e hji he
 have:j=i:=by omega
 subst this;have he2:=e21.at_;rw[he]at he2;injection he2 with he2;subst he2
 simp[mT,h113,h119,h126]
 refine G (Kt Z Z)<|G (Yb Z)<|ZN<|ZN<|ZN<|ZN<|ZN<|G (N Z Z)<|G (Yb Z)<|ZN<|ZN<|ZN<|ZN<|ZN<|G (N Z Z)<|U<|ZF Z<|Zk<|Zr<|G (br Z Z I I)<|G (Yi Z)<|U ?_
 refine⟨i+1,⟨by omega,fun j e hj he=> ?_,H.forget (aV _ _) (fun _ h=>h)⟩,dF Z,Qg,by show es.length- (i+1)<es.length-i;omega⟩
 by_cases hji:j<i
 exact hno j e hji he
 have:j=i:=by omega
 subst this;have he2:=e21.at_;rw[he]at he2;injection he2 with he2;subst he2
 simp[mT,h113,h119]
 refine G (Yb Z)<|ZN<|ZN<|ZN<|ZN<|ZN<|G (N Z Z)<|G (Yb Z)<|ZN<|ZN<|ZN<|ZN<|ZN<|G (N Z Z)<|G (Yb Z)<|ZN<|ZN<|ZN<|ZN<|ZN<|G (N Z Z)<|U<|ZF Z<|Zk<|Zr<|G (br Z Z I I)<|G (Yi Z)<|U ?_
 refine⟨i+1,⟨by omega,fun j e hj he=> ?_,H.forget (aV _ _) (fun _ h=>h)⟩,dF Z,Qg,by show es.length- (i+1)<es.length-i;omega⟩
 by_cases hji:j<i
 exact hno j e hji he
 have:j=i:=by omega
 subst this;have he2:=e21.at_;rw[he]at he2;injection he2 with he2;subst he2
 simp[mT,h113]
 refine U<|W<|ZF Z<|Zx<|W<|Zr<|G (Wi Z)<|G (Wi Z)<|U<|Zt ?_
 replace h95: ¬ 0<x.seq:=by omega
 replace h103: ¬ x.seq=0:=by omega
 have hdup:=FC (x:=x) (es:=es) (fun j e hj he=>hno j e I he)
 have hv:ia es x=(0,11):=by
  unfold ia;rw[if_neg h11,<-hp];unfold pK;simp[h30,h34,h84,h95,h103,hdup]
 exact l5 (v:=J (0)) (v2:=J 11) Z Z Z ⟨by rw[hv],H.below⟩
 refine aw Z Z Z Z Z (fun w' hw'=>Wb Z)<|aR ?_
 intro w24 hw' hF
 replace H:=H.later hw';clear hw' hF
 refine U<|ZF Z<|Zk<|W<|W ?_
 refine bz bX [0,1,2,3,4,5,6,7] [] [] [0,2,3,4,6,7] (sp []) N N N N Nq (cF _) ?_
 refine aw Z Z Z Z Z (fun w' hw'=>Zf eY Z)<|aw Z Z Z Z Z (fun w' hw'=>aT aj Z (aB ((H.later hw').ent (i:=1) Z) Z))<|aw Z Z Z Z Z (fun w' hw'=>Yp Z)<|aw Z Z Z Z Z (fun w' hw'=>aI Z)<|aw Z Z Z Z Z (fun w' hw'=>Zf fi Z)<|aw Z Z Z Z Z (fun w' hw'=>aT aj Z (aB ((H.later hw').ent (i:=0) Z) Z))<|aw Z Z Z Z Z (fun w' hw'=>br Z Z I I) ?_
 refine Bd Z Z Z Z Z (fun w' hw'=>j0 Z Z) (fun h95=> ?_) (fun h95=> ?_)
 refine aR ?_
 intro w25 hw' hF
 replace H:=H.later hw';clear hw' hF
 refine U<|ZT Z<|W<|Zr<|G (Wi Z)<|G (Wi Z)<|U<|Zt ?_
 have hv:ia es x=(0,11):=by
  unfold ia;rw[if_neg h11,<-hp];unfold pK;simp[h30,h34,h84,h95]
 exact l5 (v:=J (0)) (v2:=J 11) Z Z Z ⟨by rw[hv],H.below⟩
 refine aR ?_
 intro w26 hw' hF
 replace H:=H.later hw';clear hw' hF
 refine U<|ZF Z<|Zk<|W<|W ?_
 refine bz bX [0,1,2,3,4,5,6,7] [] [] [0,2,3,4,6,7] (sp []) N N N N Nq (cF _) ?_
 refine aw Z Z Z Z Z (fun w' hw'=>Zf eY Z)<|aw Z Z Z Z Z (fun w' hw'=>aT aj Z (aB ((H.later hw').ent (i:=1) Z) Z))<|aw Z Z Z Z Z (fun w' hw'=>Yp Z)<|aw Z Z Z Z Z (fun w' hw'=>aI Z)<|aw Z Z Z Z Z (fun w' hw'=>Zf fi Z)<|aw Z Z Z Z Z (fun w' hw'=>aT aj Z (aB ((H.later hw').ent (i:=0) Z) Z))<|aw Z Z Z Z Z (fun w' hw'=>br Z Z I I) ?_
 refine Bd Z Z Z Z Z (fun w' hw'=>bl Z Z) (fun h103=> ?_) (fun h103=> ?_)
 refine aR ?_
 intro w27 hw' hF
 replace H:=H.later hw';clear hw' hF
 refine U<|ZT Z<|W<|Zr<|G (Wi Z)<|G (Wi Z)<|U<|Zt ?_
 have hv:ia es x=(-1,0):=by
  unfold ia;rw[if_neg h11,<-hp];unfold pK;simp[h30,h34,h84,h95,h103]
 exact l5 (v:=J (-1)) (v2:=J 0) Z Z Z ⟨by rw[hv],H.below⟩
 refine aR ?_
 intro w28 hw' hF
 replace H:=H.later hw';clear hw' hF
 refine U<|ZF Z<|Zk<|W<|W<|Zr<|G (Ys Z)<|G (bn ex Z)<|G (Yi Z)<|U<|Zb ?_
 refine ce (τ:=Nat) [4,5,7,8,106,107,108,109,110,111,112,113,114,115,116,117,118,119,120,121,122,123,124,125,126,127,128,129,130,131,132,133,134,135,136] (fun i=>[(106,J (i:Nat))]) (fun i w'=>i<=es.length/\(∀ j e,j<i->es[j]? =some e->mT x e=false)/\Hp w w' ((b,.cells #[J pv_,J ps,J po,J pm] lD (0,0))::(b3,.cells (cN.c x).toArray dt (0,0))::K) [dM gJ 0 w.heap.size A es]) (fun i=>es.length-i) 0 ⟨by omega,by intro j e hj;omega,H⟩ (dF Z) ?_
 rintro i ρ3 w29 ⟨hi,hno,H⟩
 show CW _ _ _ _ (dC (gC _ _ ρ3) [(106,J (i:Nat))]) w29
 refine W<|Zr ?_
 refine cT (cG Z Z) Z Z Z (fun h107=> ?_) (fun h107=> ?_)
 refine U<|W<|ZT Z<|Zk<|W<|Zb<|W<|Zr<|G (Yi Z)<|qn H 0 Z dR Z Z I I Z fun b30 o30 x30 e30=>G (jM (xs:=cN.c x30) dD Z Z e30.cl)<|eH H f7 Z fun w31 b8 H=>G (Wi Z)<|J0 H 0 eQ Z Z Z Z Z Z fun w32 H=>U<|W<|Zr<|G (Zf eX Z)<|G (Zd aj H 0 Z Z Z) ?_
 refine cT (bl Z Z) Z Z Z (fun h113=> ?_) (fun h113=> ?_)
 refine G (Yb Z)<|ZG<|G (Zf fe Z)<|ZG<|G (Zd aj H 0 Z Z Z)<|ZG<|G (Zf fe Z)<|ZG<|G (Zd aj H 2 Z Z Z)<|ZG ?_
 refine cT (bl Z Z) Z Z Z (fun h119=> ?_) (fun h119=> ?_)
 refine G (Kt Z Z)<|G (Yb Z)<|ZG<|G (Zf ez Z)<|ZG<|G (Zd aj H 0 Z Z Z)<|ZG<|G (Zf ez Z)<|ZG<|G (Zd aj H 2 Z Z Z)<|ZG ?_
 refine cT (bl Z Z) Z Z Z (fun h126=> ?_) (fun h126=> ?_)
 refine G (Kt Z Z)<|G (Yb Z)<|ZG<|G (Zf eY Z)<|ZG<|G (Zd aj H 0 Z Z Z)<|ZG<|G (Zf eY Z)<|ZG<|G (Zd aj H 2 Z Z Z)<|ZG ?_
 refine cT (bl Z Z) Z Z Z (fun h133=> ?_) (fun h133=> ?_)
 refine G (Kt Z Z)<|U<|ZT Z<|W<|Zr<|G (Yi Z)<|G (Wi Z)<|G (Wi Z)<|U<|Zt ?_
 have hdup:=FB e30.at_ (by simp[mT,h113,h119,h126,h133]) hno
 have hv:ia es x=((i:Int),0):=by
  unfold ia;rw[if_neg h11,<-hp];unfold pK;simp[h30,h34,h84,h95,h103,hdup]
 exact l5 (v:=J ((i:Int))) (v2:=J 0) Z Z Z ⟨by rw[hv],H.below⟩
 refine G (Kt Z Z)<|U<|ZF Z<|Zk<|Zr<|G (br Z Z I I)<|G (Yi Z)<|U ?_
 refine⟨i+1,⟨by omega,fun j e hj he=> ?_,H.forget (aV _ _) (fun _ h=>h)⟩,dF Z,Qg,by show es.length- (i+1)<es.length-i;omega⟩
 by_cases hji:j<i
 exact hno j e hji he
 have:j=i:=by omega
 subst this;have he2:=e30.at_;rw[he]at he2;injection he2 with he2;subst he2
 simp[mT,h113,h119,h126,h133]
 refine G (Kt Z Z)<|G (Yb Z)<|ZN<|ZN<|ZN<|ZN<|ZN<|G (N Z Z)<|U<|ZF Z<|Zk<|Zr<|G (br Z Z I I)<|G (Yi Z)<|U ?_
 refine⟨i+1,⟨by omega,fun j e hj he=> ?_,H.forget (aV _ _) (fun _ h=>h)⟩,dF Z,Qg,by show es.length- (i+1)<es.length-i;omega⟩
 by_cases hji:j<i
 exact hno j e hji he
 have:j=i:=by omega
 subst this;have he2:=e30.at_;rw[he]at he2;injection he2 with he2;subst he2
 simp[mT,h113,h119,h126]
 refine G (Kt Z Z)<|G (Yb Z)<|ZN<|ZN<|ZN<|ZN<|ZN<|G (N Z Z)<|G (Yb Z)<|ZN<|ZN<|ZN<|ZN<|ZN<|G (N Z Z)<|U<|ZF Z<|Zk<|Zr<|G (br Z Z I I)<|G (Yi Z)<|U ?_
 refine⟨i+1,⟨by omega,fun j e hj he=> ?_,H.forget (aV _ _) (fun _ h=>h)⟩,dF Z,Qg,by show es.length- (i+1)<es.length-i;omega⟩
 by_cases hji:j<i
 exact hno j e hji he
 have:j=i:=by omega
 subst this;have he2:=e30.at_;rw[he]at he2;injection he2 with he2;subst he2
 simp[mT,h113,h119]
 refine G (Yb Z)<|ZN<|ZN<|ZN<|ZN<|ZN<|G (N Z Z)<|G (Yb Z)<|ZN<|ZN<|ZN<|ZN<|ZN<|G (N Z Z)<|G (Yb Z)<|ZN<|ZN<|ZN<|ZN<|ZN<|G (N Z Z)<|U<|ZF Z<|Zk<|Zr<|G (br Z Z I I)<|G (Yi Z)<|U ?_
 refine⟨i+1,⟨by omega,fun j e hj he=> ?_,H.forget (aV _ _) (fun _ h=>h)⟩,dF Z,Qg,by show es.length- (i+1)<es.length-i;omega⟩
 by_cases hji:j<i
 exact hno j e hji he
 have:j=i:=by omega
 subst this;have he2:=e30.at_;rw[he]at he2;injection he2 with he2;subst he2
 simp[mT,h113]
 refine U<|W<|ZF Z<|Zx<|W<|Zr<|G (Wi Z)<|G (Wi Z)<|U<|Zt ?_
 have hdup:=FC (x:=x) (es:=es) (fun j e hj he=>hno j e I he)
 have hv:ia es x=(0,11):=by
  unfold ia;rw[if_neg h11,<-hp];unfold pK;simp[h30,h34,h84,h95,h103,hdup]
 exact l5 (v:=J (0)) (v2:=J 11) Z Z Z ⟨by rw[hv],H.below⟩
def Ei (es:List cN) (n i:Nat):List ByteArray:=match es[i]? with
 |some e=>if e.kind=1/\yn (es.take n) i e=true then [e.text]else []
 |none=>[]
def texts (es:List cN) (n a b:Nat):List ByteArray:=(List.range' a (b-a)).flatMap (Ei es n)
theorem F3 (es:List cN) (n a:Nat):texts es n a a=[]:=by simp[texts]
theorem vz {es:List cN} {n a b:Nat} (h:a<=b):texts es n a (b+1)=texts es n a b++Ei es n b:=by
 unfold texts
 have e:b+1-a=(b-a)+1:=by omega
 rw[e,List.range'_1_concat,mK]
 have e2:a+(b-a)=b:=by omega
 simp[e2]
def AZ (es:List cN) (n st a most:Nat) (out:List ByteArray) (b:Nat):Prop:=a<=b/\(b=a∨b<=st)/\out=texts es n a b/\out.length<=most/\(st<=b∨out.length=most)/\ ∀ bq_,a<=bq_->bq_<b->(texts es n a bq_).length<most
theorem Mm (es:List cN) (A:Option Addr) (c n a most:Nat) (w:World) (hr:Rd gJ 0 w.heap.size A es w) (hc:es.length<=c) (hb:es.length<=1000000) (hn:n<=es.length) (ha:a<=es.length) (hm1:1<=most) (hm2:most<=20):
  dd aa yp [.slice A es.length c,J (n:Nat),J (a:Nat),J (most:Nat)] w fun v w2=> ∃ (st:Nat) (out:List ByteArray) (b:Nat) (A':Option Addr) (c':Nat),tF (es.take n) st/\AZ es n st a most out b/\v=.tuple #[.slice A' out.length c',J (b:Nat),J 0]/\Rd kR w.heap.size w2.heap.size A' out w2/\out.length<=c'/\Below w.heap.size w w2:=by
 refine aD wI Z Z ?_
 have H:=Hp.startRd hr
 refine W<|Zr<|G (Ws Z)<|G (Wi Z)<|G (Wi Z)<|U<|W<|Zr<|G (Ys Z)<|G (Yi Z)<|cd tX (Cg es _ _ n _ (H.rd0 0 Z) hc hb hn) Z Z ?_
 rintro _ w1 ⟨st,hst,rfl,hb2⟩;replace H:=H.later hb2;clear hb2
 have hstl:st<=n:=by have:=hst.1;simp at this;omega
 refine G (Yu Z)<|G (Xi Z Z)<|G (Xi Z Z)<|G (Wi Z)<|G (Wi Z)<|U<|W<|W<|Zr<|G (Yi Z)<|G (bU Z Z Z)<|U<|ZF Z<|Zk<|W<|W<|Zr<|G (Yi Z)<|G (cY Z Z I)<|G (Yb Z)<|ZG<|G (Yi Z)<|ZG<|G (Ys Z)<|ZG<|G (bn ex Z)<|ZG<|G (en Z Z I)<|G (N Z Z)<|G (Yb Z)<|ZG<|G (Yi Z)<|ZG<|G (cY Z Z I)<|G (N Z Z)<|G (Yb Z)<|ZG<|G (Yi Z)<|ZG<|G (en Z Z I) ?_
 refine G (N Z Z)<|U<|ZF Z<|Zk<|W<|Zr<|G (Ws Z)<|U<|W<|Zr<|G (Yi Z)<|G (Wi Z)<|U<|W<|Zb ?_
 refine ce (τ:=Nat×List ByteArray×Option Addr×Nat) [13,14,41,42,43,44,45,46,47,48,49,50,51,52,53,54,55,56,57,58,59,60,61,62,63,64,65,66,67,68,69,70,71,72] (fun(at_,out,A1,c1)=>[(13,.slice A1 out.length c1),(14,J (at_:Nat))]) (fun(at_,out,A1,c1) w'=>a<=at_/\(at_=a∨at_<=st)/\out=texts es n a at_/\out.length<=most/\(∀ bq_,a<=bq_->bq_<at_->(texts es n a bq_).length<most)/\ ∃ L',gd kR (.slice A1 out.length c1) km out L'/\Hp w w' ([]++L'++[]) [dM gJ 0 w.heap.size A es]) (fun(at_,_,_,_)=>st-at_) (a,[],none,0) ⟨by omega,.inl Z,(F3 _ _ _).symm,by simp,(fun _ _ _=>by omega),[],gd.nil,H⟩ (kO Z Z) ?_
 rintro⟨at_,out,A1,c1⟩ ρ1 w2 ⟨hat1,hat2,hout,hol,hmin,L1,ho,H⟩
 show CW _ _ _ _ (dC (gC _ _ ρ1) [(13,.slice A1 out.length c1),(14,J (at_:Nat))]) w2
 refine W<|W<|Zr<|G (Yi Z)<|G (Yi Z) ?_
 refine cT (cG Z Z) Z Z Z (fun h43=> ?_) (fun h43=> ?_)
 refine G (Yb Z)<|ZG<|G (Ys Z)<|ZG<|G (bn iM Z)<|ZG<|G (Yi Z)<|ZG ?_
 refine cT (cG Z Z) Z Z Z (fun h48=> ?_) (fun h48=> ?_)
 refine G (Kt Z Z)<|U<|ZT Z<|Zk<|W<|Zb<|W<|Zr<|G (Ys Z)<|G (Yi Z)<|qn H 0 Z dR Z Z I I Z fun b3 o3 x3 e3=> ?_
 have hxt:(es.take n)[at_]? =some x3:=by rw[fy I];exact e3.at_
 refine G (Zf eX Z)<|G (aT aj Z (e3.cl 4 _ Z)) ?_
 refine cT (bl Z Z) Z Z Z (fun h57=> ?_) (fun h57=> ?_)
 refine G (Yb Z)<|ZG<|G (Ys Z)<|ZG<|G (Yi Z)<|ZG<|r9 (k:=n) H 0 Z dR Z Z hc I Z fun A61 H=>ZG ?_
 have hK:=MP (es.take n) A61 c at_ x3 _ (H.rd0 0 Z) hxt (by simp;omega) (by simp;omega)
 rw[show(es.take n).length=n by simp;omega]at hK
 refine G (Yi Z)<|ZG<|cd DW (hK) Z Z ?_
 rintro _ w4 ⟨rfl,hb2⟩;replace H:=H.later hb2;clear hb2
 refine G (Kt Z Z)<|U ?_
 refine jf Z (fun hc64=> ?_) (fun hc64=> ?_)
 refine Zr<|G (Ys Z)<|G (Ys Z)<|G (Yi Z)<|qn H 1 Z dR Z Z I I Z fun b5 o5 x5 e5=>G (Zf p7 Z)<|G (aT aY Z (e5.cl 6 _ Z))<|sW (vs:=[.string x5.text]) H fT v5 Z Z Z Z Z Z fun w6 b71 H=> ?_
 have hxx:x5=x3:=by have h1:=e3.at_;rw[e5.at_]at h1;injection h1
 refine vT (Y:=kR) vR (K:=[(b71,_)]) (L:=L1) (M:=[]) H ho (news:=[x5.text]) Z Z Z (vX.row (m:=1) (sz:=1) (H.ent (i:=0) Z) Z) (by simp only[bO];omega) Z ?_
 intro A3 c3 w7 L3 h3a _ ho3 H
 refine G (Ws Z)<|U<|Zr<|G (Yi Z)<|G (br Z Z I I)<|G (Wi Z)<|U ?_
 have hvis:Ei es n at_=[x5.text]:=by unfold Ei;rw[e3.at_];simp only;rw[if_pos ⟨h57,hc64⟩,hxx]
 refine⟨(at_+1,out++[x5.text],A3,c3),⟨by omega,.inr I,by rw[vz hat1,hvis,hout],by simp;omega,(fun bq_ h1 h2=>by rcases iE bq_ at_ with h3|h3;exact hmin bq_ h1 h3;rw[show bq_=at_ by omega,<-hout];omega),L3,ho3,H.forget (by simp) (by simp)⟩,kO Z Z,Qg,by show st- (at_+1)<st-at_;omega⟩
 refine Zk<|Zr<|G (Yi Z)<|G (br Z Z I I)<|G (Wi Z)<|U ?_
 have hvis:Ei es n at_=[]:=by unfold Ei;rw[e3.at_];simp only;rw[if_neg (by rintro⟨p,q⟩;first|exact h57 p|(rw[hc64]at q;cases q))]
 refine⟨(at_+1,out,A1,c1),⟨by omega,.inr I,by rw[vz hat1,hvis,hout,aX],hol,(fun bq_ h1 h2=>by rcases iE bq_ at_ with h3|h3;exact hmin bq_ h1 h3;rw[show bq_=at_ by omega,<-hout];omega),L1,ho,H.forget (by simp) (by simp)⟩,kO Z Z,Qg,by show st- (at_+1)<st-at_;omega⟩
 refine G (Yb Z)<|ZN<|ZN<|ZN<|ZN<|ZN<|G (N Z Z)<|U<|ZF Z<|Zk<|Zr<|G (Yi Z)<|G (br Z Z I I)<|G (Wi Z)<|U ?_
 have hvis:Ei es n at_=[]:=by unfold Ei;rw[e3.at_];simp only;rw[if_neg (by rintro⟨p,q⟩;first|exact h57 p|(rw[hc64]at q;cases q))]
 refine⟨(at_+1,out,A1,c1),⟨by omega,.inr I,by rw[vz hat1,hvis,hout,aX],hol,(fun bq_ h1 h2=>by rcases iE bq_ at_ with h3|h3;exact hmin bq_ h1 h3;rw[show bq_=at_ by omega,<-hout];omega),L1,ho,H.forget (by simp) (by simp)⟩,kO Z Z,Qg,by show st- (at_+1)<st-at_;omega⟩
 refine G (Kt Z Z)<|U<|ZF Z<|Zx<|W<|Zr<|G (Ys Z)<|G (Yi Z)<|G (Ws Z)<|G (Wi Z)<|G (Wi Z)<|U<|Zt ?_
 obtain⟨A2,c2,he,hlc,-⟩:=ho.form
 injection he with h1 h2 h3
 subst h3
 exact GX Z Z Z Z ⟨st,out,at_,A1,c1,hst,⟨hat1,hat2,hout,hol,by omega,hmin⟩,rfl,ho.rd H,hlc,H.below⟩
 refine G (Yb Z)<|ZN<|ZN<|ZN<|ZN<|G (N Z Z)<|U<|ZF Z<|Zx<|W<|Zr<|G (Ys Z)<|G (Yi Z)<|G (Ws Z)<|G (Wi Z)<|G (Wi Z)<|U<|Zt ?_
 obtain⟨A2,c2,he,hlc,-⟩:=ho.form
 injection he with h1 h2 h3
 subst h3
 exact GX Z Z Z Z ⟨st,out,at_,A1,c1,hst,⟨hat1,hat2,hout,hol,by omega,hmin⟩,rfl,ho.rd H,hlc,H.below⟩
/-- what IndexFunc answers -/
def ls:Option Nat->Int
 |some i=>i
 |none=> -1
theorem Rd.blk {α:Type} {Y:fg α} {w:World} {b:Nat} {cs:Array Value} {T:TypeId} {fr:Nat×Nat} {es:List α} (h:w.heap[b]? =some (.cells cs T fr)) (hc:cs.toList=Y.all es):Rd Y 0 w.heap.size (Qd b) es w:=
 fun _=>⟨b,0,rfl,bG _,bY h,fun j u hj=>by rw[cH];exact aB h (by rw[<-hc]at hj;simpa using hj)⟩
def N6:cN:=⟨0,0,0,0,1,false,⟨#[97]⟩⟩
inductive FQ:List cN->Prop
 |nil:FQ []
 |snoc {es:List cN} {x:cN}:FQ es->(ia es x).2=0->(ia es x).1<0->FQ (es++[x])
theorem FQ.take {es:List cN} (h:FQ es): ∀ k,FQ (es.take k):=by
 induction h with
 |nil=>intro k;simp;exact .nil
 |@snoc es x h h1 h2 ih=>
  intro k
  by_cases hk:k<=es.length
  rw[hN hk];exact ih k
  rw[f5 (by simp;omega)];exact .snoc h h1 h2
theorem Ip {es:List cN} (h: ∀ e∈es,rv e):seqB es:=fun e he=>by
 obtain⟨_,_,h3,_⟩:=qH (h e he)
 have:=h3 e.seq (by simp[cN.nums])
 omega
def later (es:List cN) (k:Nat) (x:cN):Bool:=(es.drop k).any fun y=>decide (y.pid=x.pid)&&decide (x.ver<y.ver)
theorem BQ (es:List UInt8) (A:Option Addr) (c:Nat) (w:World) (hr:Rd dy 0 w.heap.size A es w) (hb:es.length*1<=140737488355328):
  dd aa kB [.slice A es.length c] w fun v w2=> ∃ A' c' L',v=.slice A' es.length c'/\es.length<=c'/\c'<=maxLen/\gd dy (.slice A' es.length c') mF es L'/\Hp w w2 L' []:=by
 refine aD pW Z Z ?_
 have H:=Hp.startRd hr
 refine W<|Zr<|G (Ws Z)<|U<|W<|W<|Zr<|G (Ys Z) ?_
 refine wr (qz eJ Z) Z Z Z (fun h4=> ?_) (fun h4=> ?_)
 refine U<|ZT Z<|W<|Zr<|G (Ws Z)<|U<|Zt ?_
 have he:es=[]:=by
  cases es with
  |nil=>rfl
  |cons e es=>obtain⟨b,o,hA,_⟩:=hr (by simp);subst hA;cases h4
 subst he
 exact cD Z Z ⟨none,0,[],rfl,by simp,by decide,gd.nil,H.forget (by simp) (by simp)⟩
 refine U<|ZF Z<|Zk<|W<|Zr<|Nw H d4 Z fun w1 b5 H=>G (Ys Z)<|vT (Y:=dy) ov (K:=[]) (L:=[(b5,_)]) (M:=[]) H (rT.lit (by decide) (by rfl)) (es:=[]) (news:=es) Z Z Z (Rd.src (H.fact (i:=0) Z)) (by simpa using hb) Z ?_
 intro A3 c3 w3 L3 h3a h3b ho3 H
 refine G (Ws Z)<|U<|Zt ?_
 exact cD Z Z ⟨A3,c3,L3,rfl,h3a,h3b,ho3,H.forget (by simp) (by simp)⟩
theorem sH (es:List Int) (A:Option Addr) (c:Nat) (w:World) (hr:Rd bQ 0 w.heap.size A es w) (hb:es.length*8<=140737488355328):
  dd aa lK [.slice A es.length c] w fun v w2=> ∃ A' c' L',v=.slice A' es.length c'/\es.length<=c'/\c'<=maxLen/\gd bQ (.slice A' es.length c') cW es L'/\Hp w w2 L' []:=by
 refine aD rf Z Z ?_
 have H:=Hp.startRd hr
 refine W<|Zr<|G (Ws Z)<|U<|W<|W<|Zr<|G (Ys Z) ?_
 refine wr (qz eB Z) Z Z Z (fun h4=> ?_) (fun h4=> ?_)
 refine U<|ZT Z<|W<|Zr<|G (Ws Z)<|U<|Zt ?_
 have he:es=[]:=by
  cases es with
  |nil=>rfl
  |cons e es=>obtain⟨b,o,hA,_⟩:=hr (by simp);subst hA;cases h4
 subst he
 exact cD Z Z ⟨none,0,[],rfl,by simp,by decide,gd.nil,H.forget (by simp) (by simp)⟩
 refine U<|ZF Z<|Zk<|W<|Zr<|Nw H aZ Z fun w1 b5 H=>G (Ys Z)<|vT (Y:=bQ) za (K:=[]) (L:=[(b5,_)]) (M:=[]) H (rT.lit (by decide) (by rfl)) (es:=[]) (news:=es) Z Z Z (Rd.src (H.fact (i:=0) Z)) (by simpa using hb) Z ?_
 intro A3 c3 w3 L3 h3a h3b ho3 H
 refine G (Ws Z)<|U<|Zt ?_
 exact cD Z Z ⟨A3,c3,L3,rfl,h3a,h3b,ho3,H.forget (by simp) (by simp)⟩

/-- a row of rows of bytes -/
abbrev RB:=Option Addr×List UInt8×Nat
def J7:fg RB:=⟨fun p=>[.slice p.1 p.2.1.length p.2.2],1,fun _=>rfl,by decide,fun a u hu=>by
 simp only[ax,cC,or_false]at hu
 subst hu;rfl⟩
def xi (ps:List RB):List UInt8:=ps.flatMap fun p=>p.2.1
theorem t7 {ps:List RB} {k:Nat} {p:RB} (h:ps[k]? =some p):xi (ps.take (k+1))=xi (ps.take k)++p.2.1:=by
 rw[eI h];simp[xi]
theorem D4 (ps:List RB) (k:Nat):(xi (ps.take k)).length<=(xi ps).length:=by
 have:xi ps=xi (ps.take k)++xi (ps.drop k):=by unfold xi;rw[<-mK,gG]
 rw[this];simp
theorem IJ {g cp:Nat} {cur:Array Value} (h:cur.size=cp*1) (hm:cp<=maxLen):gd dy (.slice (Qd g) 0 cp) mF [] [(g,.cells cur mF (0,0))]:=
 ⟨by simp[fg.all],.inr ⟨g,cp,cur,rfl,rfl,bG _,hm,h,by simp[fg.all]⟩⟩
theorem MW (n:Nat) (w:World) (hn:n<=1000000):dd aa qX [.slice none 0 0,J (n:Nat)] w fun v w2=> ∃ A' c' L',v=.slice A' 0 c'/\gd dy (.slice A' 0 c') mF [] L'/\Hp w w2 L' []:=by
 refine aD qr Z Z ?_
 have H:=Hp.start w
 refine W<|Zr<|G (Ws Z)<|U<|W<|W<|Zr<|G (Yi Z)<|G (cY Z Z I)<|U<|ZF Z<|Zk<|W<|W<|Zr<|G (Yi Z)<|G (Ys Z)<|G (D5 eJ Z)<|G (Ys Z)<|G (bn eJ Z)<|G (mR Z Z I I)<|G (mR Z Z I I)<|G (Wi Z)<|U<|W<|Zr<|G (Yi Z) ?_
 refine cT (j0 Z Z) Z Z Z (fun h16=> ?_) (fun h16=> ?_)
 refine U<|ZT Z<|Zr<|G (Ys Z)<|G (Ys Z)<|G (D5 eJ Z)<|G (C9 (i:=0) d4 Z Z I I)<|G (Yi Z)<|P9 (m:=n) ov ik H Z (by show Value.int .i64 _=_;congr 1) I I Z fun w1 g cp cur hcs hncp hcpm H=>G (Ys Z)<|G (bn eJ Z)<|zt d4 Z Z I I Z fun A25 hA25=> ?_
 obtain rfl:=hA25 I
 refine G (Ws Z)<|U<|W<|Zr<|G (Ys Z)<|G (Ws Z)<|U<|Zt ?_
 exact cD Z Z ⟨_,_,_,rfl,IJ hcs hcpm,H⟩
 refine U<|ZF Z<|Zk<|W<|Zr<|G (Ys Z)<|G (Ws Z)<|U<|Zt ?_
 exact cD Z Z ⟨none,0,[],rfl,gd.nil,H⟩
theorem uC (ps:List RB) (A:Option Addr) (c:Nat) (w:World) (hr:Rd J7 0 w.heap.size A ps w) (hp: ∀ p∈ps,Rd dy 0 w.heap.size p.1 p.2.1 w) (hb:(xi ps).length<=1000000) (hl:ps.length<=1000):
  dd aa pT [.slice A ps.length c] w fun v w2=> ∃ A' c' L',v=.slice A' (xi ps).length c'/\(xi ps).length<=c'/\c'<=maxLen/\gd dy (.slice A' (xi ps).length c') mF (xi ps) L'/\Hp w w2 L' []:=by
 refine aD pw Z Z ?_
 have H:=Hp.startRd hr
 refine W<|Zr<|G (Ws Z)<|U<|W<|Zr<|G (Wi Z)<|U<|W<|W<|Zr<|G (Ys Z)<|G (bn zX Z)<|G (Yi Z)<|U<|Zb ?_
 refine ce (τ:=Nat) [3,5,11,12,13,14,15,16,17,18,19,20,21,22] (fun k=>[(3,J ((xi (ps.take k)).length:Nat)),(11,J (k:Nat))]) (fun k w'=>k<=ps.length/\Hp w w' [] [dM J7 0 w.heap.size A ps]) (fun k=>ps.length-k) 0 ⟨by omega,H⟩ (kO Z Z) ?_
 rintro k ρ1 w1 ⟨hk,H⟩
 show CW _ _ _ _ (dC (gC _ _ ρ1) [(3,J ((xi (ps.take k)).length:Nat)),(11,J (k:Nat))]) w1
 have hle:=D4 ps k
 refine W<|Zr ?_
 refine cT (cG Z Z) Z Z Z (fun h12=> ?_) (fun h12=> ?_)
 refine U<|W<|ZT Z<|Zk<|W<|Zb<|W<|Zr<|qn H 0 Z rB Z Z I I Z fun b2 o2 x2 e2=> ?_
 have hle2:=D4 ps (k+1)
 rw[t7 e2.at_,ay]at hle2
 refine G (aT d3 Z (e2.cl 0 _ Z))<|G (Ws Z)<|U<|W<|Zr<|G (Yi Z)<|G (Ys Z)<|G (bn eJ Z)<|G (br Z Z I I)<|G (Wi Z)<|U<|W<|Zr<|G (Yi Z)<|G (cY Z Z I)<|U<|ZF Z<|Zk<|Zr<|G (br Z Z I I)<|G (Yi Z)<|U ?_
 refine⟨k+1,⟨by omega,H⟩,kO (by rw[t7 e2.at_,ay];rfl) Z,Qg,by show ps.length- (k+1)<ps.length-k;omega⟩
 refine U<|W<|ZF Z<|Zx<|W<|Zr<|G (Yi Z)<|cd qv (MW (xi (ps.take k)).length _ I) Z Z ?_
 rintro _ w3 ⟨A24,c24,L24,rfl,ho24,hj24⟩;replace H:=H.join hj24;clear hj24
 refine G (Ws Z)<|U<|W<|W<|Zr<|G (Ys Z)<|G (bn zX Z)<|G (Yi Z)<|U<|Zb ?_
 refine ce (τ:=Nat×Option Addr×Nat) [6,8,27,28,29,30,31,32,33,34] (fun(j,Ag,cg)=>[(6,.slice Ag (xi (ps.take j)).length cg),(27,J (j:Nat))]) (fun(j,Ag,cg) w'=>j<=ps.length/\ ∃ L',gd dy (.slice Ag (xi (ps.take j)).length cg) mF (xi (ps.take j)) L'/\Hp w w' ([]++L'++[]) [dM J7 0 w.heap.size A ps]) (fun(j,_,_)=>ps.length-j) (0,A24,c24) ⟨by omega,L24,ho24,by simpa using H⟩ (kO Z Z) ?_
 rintro⟨j,Ag,cg⟩ ρ2 w4 ⟨hj,L1,ho,H⟩
 show CW _ _ _ _ (dC (gC _ _ ρ2) [(6,.slice Ag (xi (ps.take j)).length cg),(27,J (j:Nat))]) w4
 have hle:=D4 ps j
 refine W<|Zr ?_
 refine cT (cG Z Z) Z Z Z (fun h28=> ?_) (fun h28=> ?_)
 refine U<|W<|ZT Z<|Zk<|W<|Zb<|W<|Zr<|qn H 0 Z rB Z Z I I Z fun b5 o5 x5 e5=> ?_
 have hle2:=D4 ps (j+1)
 rw[t7 e5.at_,ay]at hle2
 have hpx:=(hp _ (ae e5.at_)).below H.below
 refine G (aT d3 Z (e5.cl 0 _ Z))<|G (Ws Z)<|U<|Zr<|G (Ys Z)<|G (Ys Z)<|vT (Y:=dy) ov (K:=[]) (L:=L1) (M:=[]) H ho (news:=x5.2.1) Z Z Z (Rd.src hpx) I Z ?_
 intro A3 c3 w6 L3 h3a _ ho3 H
 refine G (Ws Z)<|U<|Zr<|G (br Z Z I I)<|G (Yi Z)<|U ?_
 refine⟨(j+1,A3,c3),⟨by omega,L3,by rw[t7 e5.at_];exact ho3,H⟩,kO (by rw[t7 e5.at_];rfl) Z,Qg,by show ps.length- (j+1)<ps.length-j;omega⟩
 refine U<|W<|ZF Z<|Zx<|W<|Zr<|G (Ys Z)<|G (Ws Z)<|U<|Zt ?_
 have hjp:j=ps.length:=by omega
 subst hjp
 rw[bJ]at ho
 obtain⟨A2,c2,he,hlc,hmx⟩:=ho.form
 injection he with h1 h2 h3
 subst h3
 exact cD (v:=.slice Ag (xi (ps.take ps.length)).length cg) Z Z ⟨Ag,cg,L1,by rw[bJ],hlc,hmx,ho,H.forget (by simp) (by simp)⟩
theorem Ig {n:UInt8} {r:List UInt8} {e:cN} {k:Nat} (h:tm (n::r)=some (e,k)):k=n.toNat+3:=by
 simp only[tm]at h
 split at h;· cases h
 split at h;· cases h
 split at h
 injection h with h;injection h with h1 h2;exact h2.symm
 cases h
theorem Jd {e:cN} (hg:rv e): ∃ n r,iv e=n::r/\n.toNat+3=(iv e).length:=by
 obtain⟨hl,_⟩:=uD hg
 refine⟨UInt8.ofNat (eK e).length,_,rfl,?_⟩
 rw[AE,zm _ I]
theorem JX {e:cN} (hg:rv e) {k:Nat} (hk:k<(iv e).length) (rest:List UInt8):tm ((iv e++rest).take k)=none:=by
 obtain⟨n,r,he,hn⟩:=Jd hg
 rw[hN I,he]
 cases k with
 |zero=>rfl
 |succ k=>
  rw[mJ]
  cases hs:tm (n::r.take k)with
  |none=>rfl
  |some p=>
   obtain⟨e',j⟩:=p
   have h1:=Ig hs
   have h2:=(Ma hs).2
   simp at h2
   omega
def tk:List cN->Nat->Nat
 |[],_=>0
 |e::es,k=>if(iv e).length<=k then 1+tk es (k- (iv e).length)else 0
theorem ux (e:cN) (es:List cN):bg (e::es)=iv e++bg es:=by simp[bg]
theorem FE: ∀ (es:List cN) (k:Nat),(∀ e∈es,rv e)->HY ((bg es).take k) (es.take (tk es k)) (bg (es.take (tk es k))).length
 |[],k,_=>by
  have:(bg []).take k=[]:=by simp[bg]
  rw[this]
  exact .stop Z
 |e::es,k,hg=>by
  have hge:=hg e (az ..)
  rw[ux]
  unfold tk
  by_cases h:(iv e).length<=k
  rw[if_pos h,rZ,mJ,ux,ay]
  have hd:=FE es (k- (iv e).length) fun x hx=>hg x (ak _ hx)
  have e1:(iv e++bg es).take k=iv e++(bg es).take (k- (iv e).length):=by
   rw[List.take_append,f5 h]
  rw[e1]
  exact .go (Ew hge _) (by rw[List.drop_left];exact hd)
  rw[if_neg h]
  exact .stop (JX hge I _)
theorem Ef: ∀ (es:List cN) (k:Nat),tk es k<=es.length
 |[],_=>ao _
 |e::es,k=>by
  unfold tk
  split
  have:=Ef es (k- (iv e).length);simp;omega
  exact bG _
theorem uV: ∀ (es:List cN) (k:Nat),(bg (es.take (tk es k))).length<=k
 |[],k=>by simp[bg]
 |e::es,k=>by
  unfold tk
  split
  rename_i h
  rw[rZ,mJ,ux,ay]
  have:=uV es (k- (iv e).length)
  omega
  simp[bg]
theorem Eg: ∀ (es:List cN) (k s:Nat),s<=es.length->(bg (es.take s)).length<=k->s<=tk es k
 |_,_,0,_,_=>bG _
 |[],_,s+1,h,_=>by simp at h
 |e::es,k,s+1,h,hk=>by
  rw[mJ,ux,ay]at hk
  unfold tk
  rw[if_pos I]
  have:=Eg es (k- (iv e).length) s (by simpa using h) I
  omega
theorem GW (es:List cN) (s:Nat):bg es=bg (es.take s)++bg (es.drop s):=by
 unfold bg;rw[<-mK,gG]
theorem ug (es:List cN) (s:Nat):(bg es).take (bg (es.take s)).length=bg (es.take s):=by
 rw[GW es s]
 exact List.take_left' Z
theorem KV (a b:List cN):bg (a++b)=bg a++bg b:=by simp[bg]
structure mG where
 A:Option Addr
 cap:Nat
 es:List cN
 s:Nat
abbrev fH (es:List cN) (s:Nat):Nat:=(bg (es.take s)).length
def mG.c (l:mG):List Value:=[.slice l.A (bg l.es).length l.cap,J (fH l.es l.s:Nat)]
structure GL (es:List cN) (s:Nat):Prop where
 good: ∀ e∈es,rv e
 len:es.length<=400
 sz:(bg es).length<=40000
 sle:s<=es.length
structure mG.ok (l:mG) (w:World):Prop where
 gl:GL l.es l.s
 cap:(bg l.es).length<=l.cap
 rd:Rd dy 0 w.heap.size l.A (bg l.es) w
theorem wQ {es:List cN} {s:Nat} (h:GL es s):HY (bg (es.take s)) (es.take s) (fH es s):=tU _ fun e he=>h.good e (qi _ _ he)
theorem yc (l:mG) (w:World) (h:l.ok w):dd aa yq [.agg l.c.toArray] w fun v w2=>v=J 0/\Below w.heap.size w w2:=by
 refine aD DG Z Z ?_
 have hgl:=h.gl
 have hcap:=h.cap
 have hsz:=hgl.sz
 have hln:=hgl.len
 have hsle:=hgl.sle
 have hss:fH l.es l.s<=(bg l.es).length:=fd l.es l.s
 have H:=Hp.startRd h.rd
 obtain⟨lA,lc,es,s⟩:=l
 dsimp only at hgl hcap hsz hln hsle hss H
 have hss2:(bg (es.take s)).length<=(bg es).length:=hss
 show CW _ _ _ _ (args [.agg #[.slice lA (bg es).length lc,J (fH es s:Nat)]]) w
 refine W<|Zr<|fQ H Z Z fun w1 b1 H=>G (Wi Z)<|U<|W<|W<|Zr<|G (Zf gm Z)<|G (Zd d3 H 0 Z Z Z)<|G (bn eJ Z)<|G (en Z Z I)<|U<|ZF Z<|Zk<|W<|Zr<|G (Zf gm Z)<|G (Zd d3 H 0 Z Z Z)<|cd kf (rM (bg es) _ _ _ (H.rd0 0 Z) hcap I) Z Z ?_
 have hlo14:=H.size
 rintro _ w2 ⟨ds,nd,A14,c14,rfl,hd,hr14,hc14,hb14⟩;replace H:=H.learnRd hb14 hr14;clear hr14 hb14
 have hde:=(pz hd (tU es hgl.good)).1.symm
 have hdn:=(pz hd (tU es hgl.good)).2.symm
 subst hde;subst hdn;clear hd
 refine G (Yu Z)<|G (Xs Z Z)<|G (Xi Z Z)<|G (Ws Z)<|G (Wi Z)<|U<|W<|W<|Zr<|G (Yi Z)<|G (Zf gm Z)<|G (Zd d3 H 0 Z Z Z)<|G (bn eJ Z)<|G (bU Z Z Z)<|G (Yb Z)<|ZG<|G (Ys Z)<|ZG<|G (bn ex Z)<|ZG<|G (en Z Z I)<|G (N Z Z)<|U<|ZF Z<|Zk<|W<|W<|Zr<|G (Zf kW Z)<|G (Zd aj H 0 Z Z Z)<|G (cY Z Z I)<|G (Yb Z)<|ZG<|G (Zf kW Z)<|ZG<|G (Zd aj H 0 Z Z Z)<|ZG<|G (Yi Z)<|ZG<|G (en Z Z I) ?_
 refine G (N Z Z)<|U<|ZF Z<|Zk<|W<|W<|Zr<|G (Zf gm Z)<|G (Zd d3 H 0 Z Z Z)<|G (Zf kW Z)<|G (Zd aj H 0 Z Z Z)<|r9 (k:=fH es s) H 1 Z d4 Z Z hcap I Z fun A41 H=> ?_
 rw[ug]at H
 refine cd kf (rM (bg (es.take s)) _ _ _ (H.rd0 0 Z) I I) Z Z ?_
 have hlo42:=H.size
 rintro _ w3 ⟨ds,nd,A42,c42,rfl,hd,hr42,hc42,hb42⟩;replace H:=H.learnRd hb42 hr42;clear hr42 hb42
 have hde:=(pz hd (wQ hgl)).1.symm
 have hdn:=(pz hd (wQ hgl)).2.symm
 subst hde;subst hdn;clear hd
 refine G (Yu Z)<|G (Xs Z Z)<|G (Xi Z Z)<|G (Ws Z)<|G (Wi Z)<|U<|W<|Zr<|G (Yi Z)<|G (Zf kW Z)<|G (Zd aj H 0 Z Z Z)<|G (bU Z Z Z)<|U<|ZF Z<|Zk<|W<|Zr<|G (Wi Z)<|U<|Zt ?_
 exact cD Z Z ⟨rfl,H.below⟩
theorem Bl (l:mG) (w:World) (h:l.ok w):dd aa u6 [.agg l.c.toArray] w fun v w2=> ∃ A' c',v=.tuple #[.slice A' l.es.length c',J (l.s:Nat),J 0]/\Rd gJ w.heap.size w2.heap.size A' l.es w2/\l.es.length<=c'/\Below w.heap.size w w2:=by
 refine aD As Z Z ?_
 have hgl:=h.gl
 have hcap:=h.cap
 have hsz:=hgl.sz
 have hln:=hgl.len
 have hsle:=hgl.sle
 have hss:fH l.es l.s<=(bg l.es).length:=fd l.es l.s
 have H:=Hp.startRd h.rd
 obtain⟨lA,lc,es,s⟩:=l
 dsimp only at hgl hcap hsz hln hsle hss H
 have hss2:(bg (es.take s)).length<=(bg es).length:=hss
 show CW _ _ _ _ (args [.agg #[.slice lA (bg es).length lc,J (fH es s:Nat)]]) w
 refine W<|Zr<|fQ H Z Z fun w1 b1 H=>G (Ws Z)<|G (Wi Z)<|G (Wi Z)<|U<|W<|W<|Zr<|G (Zw eP H 0 Z Z Z)<|cd mz (yc ⟨lA,lc,es,s⟩ _ ⟨hgl,hcap,H.rd0 0 Z⟩) Z Z ?_
 rintro _ w2 ⟨rfl,hb⟩;replace H:=H.later hb;clear hb
 refine G (Wi Z)<|U<|W<|Zr<|G (Yi Z)<|G (bU Z Z Z)<|U<|ZF Z<|Zk<|W<|Zr<|G (Zf gm Z)<|G (Zd d3 H 0 Z Z Z)<|cd kf (rM (bg es) _ _ _ (H.rd0 0 Z) hcap I) Z Z ?_
 have hlo18:=H.size
 rintro _ w3 ⟨ds,nd,A18,c18,rfl,hd,hr18,hc18,hb18⟩;replace H:=H.learnRd hb18 hr18;clear hr18 hb18
 have hde:=(pz hd (tU es hgl.good)).1.symm
 have hdn:=(pz hd (tU es hgl.good)).2.symm
 subst hde;subst hdn;clear hd
 refine G (Yu Z)<|G (Xs Z Z)<|G (Xi Z Z)<|G (Ws Z)<|G (Wi Z)<|U<|W<|Zr<|G (Zf gm Z)<|G (Zd d3 H 0 Z Z Z)<|G (Zf kW Z)<|G (Zd aj H 0 Z Z Z)<|r9 (k:=fH es s) H 1 Z d4 Z Z hcap I Z fun A26 H=> ?_
 rw[ug]at H
 refine cd kf (rM (bg (es.take s)) _ _ _ (H.rd0 0 Z) I I) Z Z ?_
 have hlo27:=H.size
 rintro _ w4 ⟨ds,nd,A27,c27,rfl,hd,hr27,hc27,hb27⟩;replace H:=H.learnRd hb27 hr27;clear hr27 hb27
 have hde:=(pz hd (wQ hgl)).1.symm
 have hdn:=(pz hd (wQ hgl)).2.symm
 subst hde;subst hdn;clear hd
 refine G (Yu Z)<|G (Xs Z Z)<|G (Xi Z Z)<|G (Ws Z)<|G (Wi Z)<|U<|W<|Zr<|G (Ys Z)<|G (Ys Z)<|G (bn ex Z)<|G (Ws Z)<|G (Wi Z)<|G (Wi Z)<|U<|Zt ?_
 have hls:(es.take s).length=s:=by simp;omega
 have hrd:=Rd.mono (H.fact (i:=2) Z) hlo18 (H.facts _ (ae (i:=2) Z)).2.1
 exact GX (v:=.slice A18 es.length c18) (v2:=J ((es.take s).length:Nat)) (v3:=J 0) Z Z Z Z ⟨A18,c18,by rw[hls],hrd,hc18,H.below⟩
theorem gY (A:Option Addr) (c:Nat) (es:List cN) (s:Nat) (w:World) (h:(⟨A,c,es,s⟩:mG).ok w):dd aa u6 [.agg #[.slice A (bg es).length c,J (fH es s:Nat)]] w fun v w2=> ∃ A' c',v=.tuple #[.slice A' es.length c',J (s:Nat),J 0]/\Rd gJ w.heap.size w2.heap.size A' es w2/\es.length<=c'/\Below w.heap.size w w2:=Bl ⟨A,c,es,s⟩ w h
theorem qB (A:Option Addr) (c:Nat) (es:List cN) (s:Nat) (w:World) (h:(⟨A,c,es,s⟩:mG).ok w):dd aa yq [.agg #[.slice A (bg es).length c,J (fH es s:Nat)]] w fun v w2=>v=J 0/\Below w.heap.size w w2:=yc ⟨A,c,es,s⟩ w h
theorem kX (es:List UInt8) (A:Option Addr) (c:Nat) (w:World) (hr:Rd dy 0 w.heap.size A es w) (hb:es.length*1<=140737488355328):
  dd aa kB [.slice A es.length c] w fun v w2=> ∃ A' c',v=.slice A' es.length c'/\es.length<=c'/\Rd dy w.heap.size w2.heap.size A' es w2/\Below w.heap.size w w2:=
 (BQ es A c w hr hb).mono fun v w2 ⟨A',c',L',h1,h2,_,h4,h5⟩=>⟨A',c',h1,h2,h4.rd (K:=[]) (M:=[]) (by simpa using h5),h5.below⟩
theorem wR (es:List Int) (A:Option Addr) (c:Nat) (w:World) (hr:Rd bQ 0 w.heap.size A es w) (hb:es.length*8<=140737488355328):
  dd aa lK [.slice A es.length c] w fun v w2=> ∃ A' c',v=.slice A' es.length c'/\es.length<=c'/\Rd bQ w.heap.size w2.heap.size A' es w2/\Below w.heap.size w w2:=
 (sH es A c w hr hb).mono fun v w2 ⟨A',c',L',h1,h2,_,h4,h5⟩=>⟨A',c',h1,h2,h4.rd (K:=[]) (M:=[]) (by simpa using h5),h5.below⟩
def xX (w w2:World) (A:Option Addr) (c:Nat) (es:List cN) (s:Nat):Prop:=GL es s/\(bg es).length<=c/\Rd dy w.heap.size w2.heap.size A (bg es) w2
theorem xX.ok {w w2:World} {A:Option Addr} {c:Nat} {es:List cN} {s:Nat} (h:xX w w2 A c es s):(⟨A,c,es,s⟩:mG).ok w2:=⟨h.1,h.2.1,h.2.2.mono (bG _) (ao _)⟩
theorem ku (es:List cN) (x:cN):bg (es++[x])=bg es++iv x:=by rw[KV,KU]
theorem wu {es:List cN} {s:Nat} (x:cN) (h:s<=es.length):fH (es++[x]) s=fH es s:=by unfold fH;rw[hN h]
def BA (es:List cN) (x:cN):Prop:=es.length=400∨40000<(bg es).length+(iv x).length
theorem GL.snoc {es:List cN} {s:Nat} {x:cN} (h:GL es s) (hx:rv x) (hf: ¬ BA es x):GL (es++[x]) s:=by
 unfold BA at hf
 refine⟨fun e he=> ?_,by simp;have:=h.len;omega,by rw[ku,ay];omega,by simp;have:=h.sle;omega⟩
 rcases au.1 he with he|he
 exact h.good e he
 rw[aq.1 he];exact hx
theorem GL.all {es:List cN} {s:Nat} (h:GL es s):GL es es.length:=⟨h.good,h.len,h.sz,ao _⟩
theorem GL.take {es:List cN} {s:Nat} (h:GL es s) (n:Nat) {t:Nat} (ht:t<=(es.take n).length):GL (es.take n) t:=⟨fun e he=>h.good e (qi _ _ he),by simp;have:=h.len;omega,by have:=fd es n;have:=h.sz;omega,ht⟩
theorem Dc (l:mG) (x:cN) (w:World) (h:l.ok w) (hx:rv x) (hf: ¬ BA l.es x):dd aa wA [.agg l.c.toArray,x.v] w fun v w2=> ∃ A' c',v=.tuple #[.agg (mG.c ⟨A',c',l.es++[x],l.s⟩).toArray,J 0]/\xX w w2 A' c' (l.es++[x]) l.s/\Below w.heap.size w w2:=by
 refine aD BD Z Z ?_
 have hgl:=h.gl
 have hcap:=h.cap
 have hsz:=hgl.sz
 have hln:=hgl.len
 have hsle:=hgl.sle
 have hss:fH l.es l.s<=(bg l.es).length:=fd l.es l.s
 have H:=Hp.startRd h.rd
 obtain⟨lA,lc,es,s⟩:=l
 dsimp only at hgl hcap hsz hln hsle hss H
 have hss2:(bg (es.take s)).length<=(bg es).length:=hss
 show CW _ _ _ _ (args [.agg #[.slice lA (bg es).length lc,J (fH es s:Nat)],x.v]) w
 unfold BA at hf
 dsimp only at hf
 have hel:=HM hx
 refine W<|Zr<|fQ H Z Z fun w1 b2 H=>fQ H Z Z fun w2 b3 H=>eH H pJ Z fun w3 b4 H=>G (Wi Z)<|U<|W<|Zr<|G (Zw eP H 2 Z Z Z)<|cd gu (gY lA lc es s _ ⟨hgl,hcap,H.rd0 0 Z⟩) Z Z ?_
 rintro _ w4 ⟨A12,c12,rfl,hr12,hc12,hb12⟩;replace H:=H.learnRd hb12 hr12;clear hr12 hb12
 refine G (Yu Z)<|G (Xs Z Z)<|G (Xi Z Z)<|G (Xi Z Z)<|G (Ws Z)<|G (Wi Z)<|G (Wi Z)<|U<|W<|W<|Zr<|G (Yi Z)<|G (bU Z Z Z)<|U<|ZF Z<|Zk<|W<|Zr<|G (Zw dD H 1 Z Z Z)<|cd tV (CG x _ hx) Z Z ?_
 rintro _ w6 ⟨A5,c5,rfl,hr5,hc5,hb5⟩;replace H:=H.learnRd hb5 hr5;clear hr5 hb5
 refine G (Yu Z)<|G (Xs Z Z)<|G (Xi Z Z)<|G (Ws Z)<|G (Wi Z)<|U<|W<|W<|Zr<|G (Yi Z)<|G (bU Z Z Z)<|U<|ZF Z<|Zk<|W<|W<|Zr<|G (Ys Z)<|G (bn ex Z)<|G (nu Z Z I)<|G (Yb Z)<|ZG<|G (Zf gm Z)<|ZG<|G (Zd d3 H 2 Z Z Z)<|ZG<|G (bn eJ Z)<|ZG<|G (Ys Z)<|ZG<|G (bn eJ Z)<|ZG<|G (br Z Z I I)<|ZG<|G (en Z Z I)<|G (N Z Z)<|U<|ZF Z<|Zk<|W ?_
 refine qJ bX [0,2,5] [1,3,4,6,7,8,9] [0,2,5] 7 N N N Nq ?_
 refine aw Z Z Z Z Z (fun w' hw'=>Zf gm Z)<|aw Z Z Z Z Z (fun w' hw'=>Ys Z)<|aw Z Z Z Z Z (fun w' hw'=>Zf kW Z)<|aR ?_
 intro w7 hw';replace H:=H.later hw';clear hw'
 refine tf 1 6 N Z Z ?_ ?_
 refine G (Zd d3 H 2 Z Z Z)<|U ?_
 refine tf 3 6 N Z Z ?_ ?_
 refine sW (vs:=[.slice lA (bg es).length lc,.slice A5 (iv x).length c5]) H rB CZ Z Z Z Z Z Z fun w8 b45 H=> ?_
 have hcat:xi [(lA,bg es,lc),(A5,iv x,c5)]=bg (es++[x]):=by rw[ku];simp[xi]
 refine U ?_
 refine tf 4 6 N Z Z ?_ ?_
 have hC:=uC [(lA,bg es,lc),(A5,iv x,c5)] (Qd b45) 2 _ (Rd.blk (H.ent (i:=0) Z) Z) (by intro p hp;simp at hp;rcases hp with rfl|rfl;exact H.rd0 2 Z;exact H.rd0 0 Z) (by rw[hcat,ku,ay];omega) (by simp)
 rw[hcat]at hC
 have hloX:=H.size
 refine cd fx hC Z Z ?_;rintro _ w9 ⟨AX,cX,LX,rfl,hcX,-,hoX,hjX⟩;replace H:=H.learnOwn hjX hoX
 refine U<|da 6 N Z<|G (Zd aj H 3 Z Z Z)<|U<|da 7 N Z<|G (bi (cs:= #[.slice AX (bg (es++[x])).length cX,J (fH es s:Nat)]) tp pJ N)<|U<|da 8 N Z<|bo H 1 (#[.slice AX (bg (es++[x])).length cX,J (fH es s:Nat)]) i6 Z Z Z Z Z N N fun w10 H=>U<|da 9 N Z<|G (Wi Z)<|U<|cy N<|Zt ?_
 exact bC (cs0:= #[.slice AX (bg (es++[x])).length cX,J (fH es s:Nat)]) (v1:=J 0) Z eP Z (H.ent (i:=1) Z) Z Z ⟨AX,cX,by unfold mG.c;rw[wu _ hsle],⟨hgl.snoc hx (by unfold BA;omega),hcX,Rd.mono (H.fact (i:=0) Z) hloX (H.facts _ (ae (i:=0) Z)).2.1⟩,H.below⟩
 refine G (Zd aj H 3 Z Z Z)<|U<|da 4 N Z ?_
 have hC:=uC [(lA,bg es,lc),(A5,iv x,c5)] (Qd b45) 2 _ (Rd.blk (H.ent (i:=0) Z) Z) (by intro p hp;simp at hp;rcases hp with rfl|rfl;exact H.rd0 2 Z;exact H.rd0 0 Z) (by rw[hcat,ku,ay];omega) (by simp)
 rw[hcat]at hC
 have hloX:=H.size
 refine cd fx hC Z Z ?_;rintro _ w11 ⟨AX,cX,LX,rfl,hcX,-,hoX,hjX⟩;replace H:=H.learnOwn hjX hoX
 refine U<|da 7 N Z<|G (bi (cs:= #[.slice AX (bg (es++[x])).length cX,J (fH es s:Nat)]) tp pJ N)<|U<|da 8 N Z<|bo H 1 (#[.slice AX (bg (es++[x])).length cX,J (fH es s:Nat)]) i6 Z Z Z Z Z N N fun w12 H=>U<|da 9 N Z<|G (Wi Z)<|U<|cy N<|Zt ?_
 exact bC (cs0:= #[.slice AX (bg (es++[x])).length cX,J (fH es s:Nat)]) (v1:=J 0) Z eP Z (H.ent (i:=1) Z) Z Z ⟨AX,cX,by unfold mG.c;rw[wu _ hsle],⟨hgl.snoc hx (by unfold BA;omega),hcX,Rd.mono (H.fact (i:=0) Z) hloX (H.facts _ (ae (i:=0) Z)).2.1⟩,H.below⟩
 refine G (Zd aj H 2 Z Z Z)<|U<|da 3 N Z<|sW (vs:=[.slice lA (bg es).length lc,.slice A5 (iv x).length c5]) H rB CZ Z Z Z Z Z Z fun w13 b45 H=> ?_
 have hcat:xi [(lA,bg es,lc),(A5,iv x,c5)]=bg (es++[x]):=by rw[ku];simp[xi]
 refine U<|da 4 N Z ?_
 have hC:=uC [(lA,bg es,lc),(A5,iv x,c5)] (Qd b45) 2 _ (Rd.blk (H.ent (i:=0) Z) Z) (by intro p hp;simp at hp;rcases hp with rfl|rfl;exact H.rd0 2 Z;exact H.rd0 0 Z) (by rw[hcat,ku,ay];omega) (by simp)
 rw[hcat]at hC
 have hloX:=H.size
 refine cd fx hC Z Z ?_;rintro _ w14 ⟨AX,cX,LX,rfl,hcX,-,hoX,hjX⟩;replace H:=H.learnOwn hjX hoX
 refine U<|da 7 N Z<|G (bi (cs:= #[.slice AX (bg (es++[x])).length cX,J (fH es s:Nat)]) tp pJ N)<|U<|da 8 N Z<|bo H 1 (#[.slice AX (bg (es++[x])).length cX,J (fH es s:Nat)]) i6 Z Z Z Z Z N N fun w15 H=>U<|da 9 N Z<|G (Wi Z)<|U<|cy N<|Zt ?_
 exact bC (cs0:= #[.slice AX (bg (es++[x])).length cX,J (fH es s:Nat)]) (v1:=J 0) Z eP Z (H.ent (i:=1) Z) Z Z ⟨AX,cX,by unfold mG.c;rw[wu _ hsle],⟨hgl.snoc hx (by unfold BA;omega),hcX,Rd.mono (H.fact (i:=0) Z) hloX (H.facts _ (ae (i:=0) Z)).2.1⟩,H.below⟩
 refine G (Zd aj H 2 Z Z Z)<|U<|da 1 N Z<|G (Zd d3 H 2 Z Z Z)<|U<|da 3 N Z<|sW (vs:=[.slice lA (bg es).length lc,.slice A5 (iv x).length c5]) H rB CZ Z Z Z Z Z Z fun w16 b45 H=> ?_
 have hcat:xi [(lA,bg es,lc),(A5,iv x,c5)]=bg (es++[x]):=by rw[ku];simp[xi]
 refine U<|da 4 N Z ?_
 have hC:=uC [(lA,bg es,lc),(A5,iv x,c5)] (Qd b45) 2 _ (Rd.blk (H.ent (i:=0) Z) Z) (by intro p hp;simp at hp;rcases hp with rfl|rfl;exact H.rd0 2 Z;exact H.rd0 0 Z) (by rw[hcat,ku,ay];omega) (by simp)
 rw[hcat]at hC
 have hloX:=H.size
 refine cd fx hC Z Z ?_;rintro _ w17 ⟨AX,cX,LX,rfl,hcX,-,hoX,hjX⟩;replace H:=H.learnOwn hjX hoX
 refine U<|da 7 N Z<|G (bi (cs:= #[.slice AX (bg (es++[x])).length cX,J (fH es s:Nat)]) tp pJ N)<|U<|da 8 N Z<|bo H 1 (#[.slice AX (bg (es++[x])).length cX,J (fH es s:Nat)]) i6 Z Z Z Z Z N N fun w18 H=>U<|da 9 N Z<|G (Wi Z)<|U<|cy N<|Zt ?_
 exact bC (cs0:= #[.slice AX (bg (es++[x])).length cX,J (fH es s:Nat)]) (v1:=J 0) Z eP Z (H.ent (i:=1) Z) Z Z ⟨AX,cX,by unfold mG.c;rw[wu _ hsle],⟨hgl.snoc hx (by unfold BA;omega),hcX,Rd.mono (H.fact (i:=0) Z) hloX (H.facts _ (ae (i:=0) Z)).2.1⟩,H.below⟩
theorem ML (es:List cN):fH es es.length=(bg es).length:=by unfold fH;rw[bJ]
theorem E3 {es:List cN} {a b:Nat} (h:a<=b):fH es a<=fH es b:=by
 have:=fd (es.take b) a
 unfold fH
 rwa[dn,bu h]at this
theorem MK (es:List cN) (s n:Nat):min ((fH es s:Nat):Int) ((fH es n:Nat):Int)=(fH (es.take n) (min s n):Nat):=by
 have e:fH (es.take n) (min s n)=fH es (min s n):=by
  unfold fH;rw[dn,bu (Nat.min_le_right _ _)]
 rw[e]
 by_cases h:s<=n
 have:=E3 (es:=es) h
 rw[bu h];omega
 have:=E3 (es:=es) (show n<=s by omega)
 rw[Nat.min_eq_right I];omega
theorem Rd.cut0 {α:Type} {Y:fg α} {lo hi cap sz:Nat} {A:Option Addr} {es:List α} {w:World} (h:Rd Y lo hi A es w) (k:Nat):Rd Y lo hi (cut A cap 0 sz) (es.take k) w:=by
 have e:cut A cap 0 sz=A:=by
  unfold cut
  split
  rfl
  cases A<;>simp[Addr.add]
 rw[e]
 exact h.take k
def jI (es:List cN) (s keep:Nat):Nat:=tk es (fH es s+min keep ((bg es).length-fH es s))
theorem Jk {es:List cN} {s keep:Nat} (h:s<=es.length):s<=jI es s keep:=Eg es _ s h (by unfold fH;omega)
theorem CK (es:List cN) (s keep:Nat):jI es s keep<=es.length:=Ef _ _
theorem Ge (l:mG) (w:World) (h:l.ok w):dd aa Ab [.agg l.c.toArray] w fun v w2=> ∃ A' c',v=.tuple #[.agg (mG.c ⟨A',c',l.es,l.es.length⟩).toArray,J 0]/\xX w w2 A' c' l.es l.es.length/\Below w.heap.size w w2:=by
 refine aD Fq Z Z ?_
 have hgl:=h.gl
 have hcap:=h.cap
 have hsz:=hgl.sz
 have hln:=hgl.len
 have hsle:=hgl.sle
 have hss:fH l.es l.s<=(bg l.es).length:=fd l.es l.s
 have H:=Hp.startRd h.rd
 obtain⟨lA,lc,es,s⟩:=l
 dsimp only at hgl hcap hsz hln hsle hss H
 have hss2:(bg (es.take s)).length<=(bg es).length:=hss
 show CW _ _ _ _ (args [.agg #[.slice lA (bg es).length lc,J (fH es s:Nat)]]) w
 refine W<|Zr<|fQ H Z Z fun w1 b1 H=>eH H pJ Z fun w2 b2 H=>G (Wi Z)<|U<|W<|W<|Zr<|G (Zw eP H 1 Z Z Z)<|cd mz (qB lA lc es s _ ⟨hgl,hcap,H.rd0 0 Z⟩) Z Z ?_
 rintro _ w3 ⟨rfl,hb⟩;replace H:=H.later hb;clear hb
 refine G (Wi Z)<|U<|W<|Zr<|G (Yi Z)<|G (bU Z Z Z)<|U<|ZF Z<|Zk<|W ?_
 have hlo:=H.size
 refine bz bX [0,1,3,4,5,2,6] [7,8] [2] [0,3,5,6] (sp [(2,Sp.row w3.heap.size dy (bg es))]) N N N N Nq (cF _) ?_
 refine aw Z Z Z Z Z (fun w' hw'=>Zf gm Z)<|aw Z Z Z Z Z (fun w' hw'=>aT d3 Z (aB ((H.later hw').ent (i:=1) Z) Z))<|aw Z Z Z Z Z (fun w' hw'=>Zf gm Z)<|aw Z Z Z Z Z (fun w' hw'=>aT d3 Z (aB ((H.later hw').ent (i:=1) Z) Z))<|aw Z Z Z Z Z (fun w' hw'=>bn eJ Z)<|CN fa Z Z Z Z Z (fun w' hw'=>hw'.size) (fun w' hw'=>kX (bg es) _ _ w' ((H.later hw').rd0 0 Z) I) Z fun A13 c13 hc13=>aw Z Z Z Z Z (fun w' hw'=>bi (cs:= #[.slice A13 (bg es).length c13,J ((bg es).length:Nat)]) tp pJ N)<|aR ?_
 intro w4 hw' hF
 obtain⟨hF,Aq,cq,eq,hcq,hrw13⟩:=hF;cases eq;clear hcq
 replace H:=H.learnRd hw' hrw13
 clear hw' hF
 refine bo H 0 (#[.slice A13 (bg es).length c13,J ((bg es).length:Nat)]) i6 Z Z Z Z Z N N fun w5 H=>G (Wi Z)<|U<|Zt ?_
 exact bC (cs0:= #[.slice A13 (bg es).length c13,J ((bg es).length:Nat)]) (v1:=J 0) Z eP Z (H.ent (i:=0) Z) Z Z ⟨A13,c13,by unfold mG.c;rw[ML],⟨hgl.all,hc13,Rd.mono (H.fact (i:=0) Z) hlo (H.facts _ (ae (i:=0) Z)).2.1⟩,H.below⟩
theorem Is (l:mG) (n:Nat) (w:World) (h:l.ok w) (hn:n<=l.es.length):dd aa Cy [.agg l.c.toArray,J (n:Nat)] w fun v w2=> ∃ A' c',v=.tuple #[.agg (mG.c ⟨A',c',l.es.take n,min l.s n⟩).toArray,J 0]/\xX w w2 A' c' (l.es.take n) (min l.s n)/\Below w.heap.size w w2:=by
 refine aD GU Z Z ?_
 have hgl:=h.gl
 have hcap:=h.cap
 have hsz:=hgl.sz
 have hln:=hgl.len
 have hsle:=hgl.sle
 have hss:fH l.es l.s<=(bg l.es).length:=fd l.es l.s
 have H:=Hp.startRd h.rd
 obtain⟨lA,lc,es,s⟩:=l
 dsimp only at hgl hcap hsz hln hsle hss H
 have hss2:(bg (es.take s)).length<=(bg es).length:=hss
 show CW _ _ _ _ (args [.agg #[.slice lA (bg es).length lc,J (fH es s:Nat)],J (n:Nat)]) w
 dsimp only at hn
 refine W<|Zr<|fQ H Z Z fun w1 b2 H=>eH H pJ Z fun w2 b4 H=>G (Wi Z)<|U<|W<|Zr<|G (Zw eP H 1 Z Z Z)<|cd gu (gY lA lc es s _ ⟨hgl,hcap,H.rd0 0 Z⟩) Z Z ?_
 rintro _ w3 ⟨A16,c16,rfl,hr16,hc16,hb16⟩;replace H:=H.learnRd hb16 hr16;clear hr16 hb16
 refine G (Yu Z)<|G (Xs Z Z)<|G (Xi Z Z)<|G (Xi Z Z)<|G (Ws Z)<|G (Wi Z)<|G (Wi Z)<|U<|W<|W<|Zr<|G (Yi Z)<|G (bU Z Z Z)<|U<|ZF Z<|Zk<|W<|W<|Zr<|G (Yi Z)<|G (cY Z Z I)<|G (Yb Z)<|ZG<|G (Yi Z)<|ZG<|G (Ys Z)<|ZG<|G (bn ex Z)<|ZG<|G (en Z Z I)<|G (N Z Z)<|U<|ZF Z<|Zk<|W<|W<|Zr<|G (Yi Z)<|G (Ys Z)<|G (bn ex Z) ?_
 refine cT (bl Z Z) Z Z Z (fun h36=> ?_) (fun h36=> ?_)
 refine U<|ZT Z<|W ?_
 have hlo:=H.size
 refine bz bX [0,1,3,4,2,5] [6,7] [2] [0,3,5] (sp [(2,Sp.row w3.heap.size dy (bg es))]) N N N N Nq (cF _) ?_
 refine aw Z Z Z Z Z (fun w' hw'=>Zf gm Z)<|aw Z Z Z Z Z (fun w' hw'=>aT d3 Z (aB ((H.later hw').ent (i:=1) Z) Z))<|aw Z Z Z Z Z (fun w' hw'=>Zf kW Z)<|aw Z Z Z Z Z (fun w' hw'=>aT aj Z (aB ((H.later hw').ent (i:=1) Z) Z))<|CN fa Z Z Z Z Z (fun w' hw'=>hw'.size) (fun w' hw'=>kX (bg es) _ _ w' ((H.later hw').rd0 1 Z) I) Z fun A39 c39 hc39=>aw Z Z Z Z Z (fun w' hw'=>bi (cs:= #[.slice A39 (bg es).length c39,J (fH es s:Nat)]) tp pJ N)<|aR ?_
 intro w4 hw' hF
 obtain⟨hF,Aq,cq,eq,hcq,hrw39⟩:=hF;cases eq;clear hcq
 replace H:=H.learnRd hw' hrw39
 clear hw' hF
 refine bo H 0 (#[.slice A39 (bg es).length c39,J (fH es s:Nat)]) i6 Z Z Z Z Z N N fun w5 H=>G (Wi Z)<|U<|Zt ?_
 have hnl:n=es.length:=by omega
 subst hnl
 exact bC (cs0:= #[.slice A39 (bg es).length c39,J (fH es s:Nat)]) (v1:=J 0) Z eP Z (H.ent (i:=0) Z) Z Z ⟨A39,c39,by unfold mG.c;rw[bu hsle,bJ],⟨by rw[bu hsle,bJ];exact hgl,by rw[bJ];exact hc39,by rw[bJ];exact Rd.mono (H.fact (i:=0) Z) hlo (H.facts _ (ae (i:=0) Z)).2.1⟩,H.below⟩
 refine U<|ZF Z<|Zk<|W<|Zr<|G (Wi Z)<|U<|W<|W<|Zr<|G (Ys Z)<|G (Yi Z)<|r9 (k:=n) H 0 Z dR Z Z hc16 I Z fun A45 H=>G (bn ex Z)<|G (Yi Z)<|U<|Zb ?_
 refine ce (τ:=Nat) [9,11,12,13,47,48,49,50,51,52,53,54,55,56,57,58,59,60] (fun k=>[(9,J (fH es k:Nat)),(47,J (k:Nat))]) (fun k w'=>k<=n/\Hp w w' [(b4,.cells #[.slice none 0 0,J 0] AY (0,0)),(b2,.cells #[.slice lA (bg es).length lc,J (fH es s:Nat)] AY (0,0))] [dM gJ w2.heap.size w3.heap.size A45 (es.take n),dM gJ w2.heap.size w3.heap.size A16 es,dM dy 0 w.heap.size lA (bg es)]) (fun k=>n-k) 0 ⟨by omega,H⟩ (kO Z Z) ?_
 rintro k ρ1 w6 ⟨hk,H⟩
 show CW _ _ _ _ (dC (gC _ _ ρ1) [(9,J (fH es k:Nat)),(47,J (k:Nat))]) w6
 have hsk0:fH es k<=(bg es).length:=fd es k
 refine W<|Zr ?_
 refine cT (cG Z Z) Z Z Z (fun h48=> ?_) (fun h48=> ?_)
 refine U<|W<|ZT Z<|Zk<|W<|Zb<|W<|Zr ?_
 have htl:(es.take n).length=n:=by simp;omega
 refine qn H 0 Z dR Z Z I I Z fun b7 o7 x7 e7=> ?_
 have hxk:es[k]? =some x7:=by have:=e7.at_;rwa[fy I]at this
 have hg:=hgl.good _ (ae hxk)
 have hsk:=fd es (k+1)
 rw[tQ hxk,ay]at hsk
 have hsk2:fH es k+(iv x7).length<=(bg es).length:=hsk
 refine G (jM (xs:=cN.c x7) dD Z Z e7.cl)<|eH H f7 Z fun w8 b11 H=>J0 H 0 eQ Z Z Z Z Z Z fun w9 H=>U<|W<|Zr<|G (Zw dD H 0 Z Z Z)<|cd tV (CG x7 _ hg) Z Z ?_
 rintro _ w11 ⟨A10,c10,rfl,hr10,hc10,hb10⟩;replace H:=H.learnRd hb10 hr10;clear hr10 hb10
 refine G (Yu Z)<|G (Xs Z Z)<|G (Xi Z Z)<|G (Ws Z)<|G (Wi Z)<|U<|Zr<|G (Yi Z)<|G (Ys Z)<|G (bn eJ Z)<|G (br Z Z I I)<|G (Wi Z)<|U<|Zr<|G (br Z Z I I)<|G (Yi Z)<|U ?_
 refine⟨k+1,⟨by omega,H.forget (aV _ _) (fun _ h=>ak _ h)⟩,kO (by show _=Value.int .i64 ((fH es (k+1):Nat):Int);unfold fH;rw[tQ hxk,ay];rfl) Z,Qg,by show n- (k+1)<n-k;omega⟩
 have hkn:n=k:=by omega
 subst hkn
 refine U<|W<|ZF Z<|Zx<|W ?_
 have hlo:=H.size
 refine bz bX [0,1,2,3,5,6,7,8,4,9] [10,11] [4] [0,2,3,5,7,8,9] (sp [(4,Sp.row w6.heap.size dy (bg (es.take n)))]) N N N N Nq (cF _) ?_
 refine aw Z Z Z Z Z (fun w' hw'=>Zf gm Z)<|aw Z Z Z Z Z (fun w' hw'=>aT d3 Z (aB ((H.later hw').ent (i:=1) Z) Z))<|aw Z Z Z Z Z (fun w' hw'=>Yi Z)<|aw Z Z Z Z Z (fun w' hw'=>C9 (i:=((fH es n:Nat):Int)) d4 Z Z I (by have:=fd es n;show((fH es n:Nat):Int)<=_;unfold fH;omega))<|aw Z Z Z Z Z (fun w' hw'=>Zf kW Z)<|aw Z Z Z Z Z (fun w' hw'=>aT aj Z (aB ((H.later hw').ent (i:=1) Z) Z))<|aw Z Z Z Z Z (fun w' hw'=>Yi Z)<|aw Z Z Z Z Z (fun w' hw'=>tv Z Z)<|CN fa Z Z Z Z Z (fun w' hw'=>hw'.size) (fun w' hw'=>kX (bg (es.take n)) _ _ w' (by have:=Rd.cut0 (cap:=lc) (sz:=1) ((H.later hw').rd0 2 Z) (fH es n);rwa[ug]at this) (by have:=fd es n;omega)) Z fun A65 c65 hc65=>aw Z Z Z Z Z (fun w' hw'=>bi (cs:= #[.slice A65 (bg (es.take n)).length c65,J (min ((fH es s:Nat):Int) ((fH es n:Nat):Int))]) tp pJ N)<|aR ?_
 intro w12 hw' hF
 obtain⟨hF,Aq,cq,eq,hcq,hrw65⟩:=hF;cases eq;clear hcq
 replace H:=H.learnRd hw' hrw65
 clear hw' hF
 refine bo H 0 (#[.slice A65 (bg (es.take n)).length c65,J (min ((fH es s:Nat):Int) ((fH es n:Nat):Int))]) i6 Z Z Z Z Z N N fun w13 H=>G (Wi Z)<|U<|Zt ?_
 exact bC (cs0:= #[.slice A65 (bg (es.take n)).length c65,J (min ((fH es s:Nat):Int) ((fH es n:Nat):Int))]) (v1:=J 0) Z eP Z (H.ent (i:=0) Z) Z Z ⟨A65,c65,by unfold mG.c;rw[MK],⟨hgl.take n (by simp;omega),hc65,Rd.mono (H.fact (i:=0) Z) hlo (H.facts _ (ae (i:=0) Z)).2.1⟩,H.below⟩
theorem ED (l:mG) (keep:Nat) (w:World) (h:l.ok w) (hkb:keep<=1000000000000):dd aa Fa [.agg l.c.toArray,J (keep:Nat)] w fun v w2=> ∃ A' c',v=.tuple #[.agg (mG.c ⟨A',c',l.es.take (jI l.es l.s keep),jI l.es l.s keep⟩).toArray,J 0]/\xX w w2 A' c' (l.es.take (jI l.es l.s keep)) (jI l.es l.s keep)/\Below w.heap.size w w2:=by
 refine aD DF Z Z ?_
 have hgl:=h.gl
 have hcap:=h.cap
 have hsz:=hgl.sz
 have hln:=hgl.len
 have hsle:=hgl.sle
 have hss:fH l.es l.s<=(bg l.es).length:=fd l.es l.s
 have H:=Hp.startRd h.rd
 obtain⟨lA,lc,es,s⟩:=l
 dsimp only at hgl hcap hsz hln hsle hss H
 have hss2:(bg (es.take s)).length<=(bg es).length:=hss
 show CW _ _ _ _ (args [.agg #[.slice lA (bg es).length lc,J (fH es s:Nat)],J (keep:Nat)]) w
 dsimp only
 have hmle:=CK es s keep
 have hfl:=uV es (fH es s+min keep ((bg es).length-fH es s))
 have hdt:=FE es (fH es s+min keep ((bg es).length-fH es s)) hgl.good
 change HY _ (es.take (jI es s keep)) (bg (es.take (jI es s keep))).length at hdt
 change (bg (es.take (jI es s keep))).length<=_ at hfl
 generalize jI es s keep=m at*
 have hfm:=fd es m
 have hlk:((bg es).take (fH es s+min keep ((bg es).length-fH es s))).length=(fH es s+min keep ((bg es).length-fH es s)):=by rw[aH];omega
 refine W<|Zr<|fQ H Z Z fun w1 b2 H=>eH H pJ Z fun w2 b4 H=>G (Wi Z)<|U<|W<|W<|Zr<|G (Zw eP H 1 Z Z Z)<|cd mz (qB lA lc es s _ ⟨hgl,hcap,H.rd0 0 Z⟩) Z Z ?_
 rintro _ w3 ⟨rfl,hb⟩;replace H:=H.later hb;clear hb
 refine G (Wi Z)<|U<|W<|Zr<|G (Yi Z)<|G (bU Z Z Z)<|U<|ZF Z<|Zk<|W<|W<|Zr<|G (Yi Z)<|G (cY Z Z I)<|U<|ZF Z<|Zk<|W<|Zr<|G (Zf gm Z)<|G (Zd d3 H 1 Z Z Z)<|G (bn eJ Z)<|G (Zf kW Z)<|G (Zd aj H 1 Z Z Z)<|G (mR Z Z I I)<|G (Wi Z)<|U<|W<|Zr<|G (Zf gm Z)<|G (Zd d3 H 1 Z Z Z)<|G (Zf kW Z)<|G (Zd aj H 1 Z Z Z)<|G (Yi Z)<|G (Yi Z)<|G (tv Z Z)<|G (br Z Z I I)<|r9 (k:=(fH es s+min keep ((bg es).length-fH es s))) H 0 Z d4 Z (show Value.int .i64 (((fH es s:Nat):Int)+min ((keep:Nat):Int) ((((bg es).length:Nat):Int)- ((fH es s:Nat):Int)))=J ((fH es s+min keep ((bg es).length-fH es s)):Nat) by congr 1;omega) hcap I Z fun A34 H=> ?_
 have hD:=rM ((bg es).take (fH es s+min keep ((bg es).length-fH es s))) A34 lc _ (H.rd0 0 Z) I I
 rw[hlk]at hD
 refine cd kf hD Z Z ?_;rintro _ w4 ⟨fs,n,A35,c35,rfl,hd35,hr35,hc35,hb35⟩;replace H:=H.learnRd hb35 hr35;clear hr35 hb35
 obtain⟨rfl,rfl⟩:=pz hdt hd35
 refine G (Yu Z)<|G (Xs Z Z)<|G (Xi Z Z)<|G (Ws Z)<|G (Wi Z)<|U<|W<|Zr<|G (Zf gm Z)<|G (Zd d3 H 1 Z Z Z)<|G (Yi Z)<|r9 (k:=(bg (es.take m)).length) H 2 Z d4 Z Z hcap I Z fun A41 H=> ?_
 rw[ug]at H
 have hlo:=H.size
 refine cd fa (kX (bg (es.take m)) A41 lc _ (H.rd0 0 Z) I) Z Z ?_;rintro _ w5 ⟨A42,c42,rfl,hc42,hr42,hb42⟩;replace H:=H.learnRd hb42 hr42;clear hr42 hb42
 refine G (Yi Z)<|G (bi (cs:= #[.slice A42 (bg (es.take m)).length c42,J ((bg (es.take m)).length:Nat)]) tp pJ N)<|bo H 0 (#[.slice A42 (bg (es.take m)).length c42,J ((bg (es.take m)).length:Nat)]) i6 Z Z Z Z Z N N fun w6 H=>G (Wi Z)<|U<|Zt ?_
 exact bC (cs0:= #[.slice A42 (bg (es.take m)).length c42,J ((bg (es.take m)).length:Nat)]) (v1:=J 0) Z eP Z (H.ent (i:=0) Z) Z Z ⟨A42,c42,by unfold mG.c;rw[show fH (es.take m) m=(bg (es.take m)).length from by unfold fH;rw[f5 (by rw[aH];omega)]],⟨hgl.take m (by simp;omega),hc42,Rd.mono (H.fact (i:=0) Z) hlo (H.facts _ (ae (i:=0) Z)).2.1⟩,H.below⟩
/-- a replica, and where its log's bytes lie -/
structure fb where
 up:Bool
 A:Option Addr
 cap:Nat
 es:List cN
 s:Nat
 high:Int
 lo:Nat
 hi:Nat
def fb.c (r:fb):List Value:=[.bool r.up,.slice r.A (bg r.es).length r.cap,J (fH r.es r.s:Nat),J r.high]
def gO:fg fb:=⟨fb.c,4,fun _=>rfl,by decide,fun a u hu=>by
 simp only[fb.c,ax,cC,or_false]at hu
 rcases hu with h|h|h|h<;>subst h<;>rfl⟩
def eR:fg Bool:=⟨fun n=>[.bool n],1,fun _=>rfl,by decide,fun a u hu=>by
 simp only[aq]at hu;subst hu;rfl⟩
abbrev fb.log (r:fb):mG:=⟨r.A,r.cap,r.es,r.s⟩
abbrev Bm (r:fb):cr:=dM dy r.lo r.hi r.A (bg r.es)
abbrev sP (rs:List fb):List cr:=rs.map Bm
structure RA where
 up:Bool
 es:List cN
 s:Nat
 high:Int
def fb.a (r:fb):RA:=⟨r.up,r.es,r.s,r.high⟩
structure gx where
 epoch:Int
 leader:Int
 isr:List Bool
 known:List Int
 reps:List RA
 few:Int
 base:Int
structure Pa where
 epoch:Int
 leader:Int
 isr:List Bool
 iA:Option Addr
 iC:Nat
 known:List Int
 kA:Option Addr
 kC:Nat
 reps:List fb
 rA:Option Addr
 rC:Nat
 few:Int
 base:Int
def Pa.c (p:Pa):List Value:=[J p.epoch,J p.leader,.slice p.iA p.isr.length p.iC,.slice p.kA p.known.length p.kC,.slice p.rA p.reps.length p.rC,J p.few,J p.base]
abbrev Pa.v (p:Pa):Value:=.agg p.c.toArray
def Pa.a (p:Pa):gx:=⟨p.epoch,p.leader,p.isr,p.known,p.reps.map fb.a,p.few,p.base⟩
structure Pa.rd (p:Pa) (lo hi:Nat) (w:World):Prop where
 isr:Rd eR lo hi p.iA p.isr w
 known:Rd bQ lo hi p.kA p.known w
 reps:Rd gO lo hi p.rA p.reps w
 logs: ∀ r∈p.reps,Rd dy lo hi r.A (bg r.es) w
 iC:p.isr.length<=p.iC
 kC:p.known.length<=p.kC
 rC:p.reps.length<=p.rC
 cap: ∀ r∈p.reps,(bg r.es).length<=r.cap
 few:p.isr.length<=1000000/\p.known.length<=1000000/\p.reps.length<=1000000
theorem Pa.rd.st {p:Pa} {lo hi:Nat} {w w':World} (hk: ∀ k,lo<=k->k<hi->w'.heap[k]? =w.heap[k]?) (h:p.rd lo hi w):p.rd lo hi w':=
 ⟨h.isr.st hk,h.known.st hk,h.reps.st hk,fun r hr=>(h.logs r hr).st hk,h.iC,h.kC,h.rC,h.cap,h.few⟩
theorem Pa.rd.mono {p:Pa} {lo hi lo' hi':Nat} {w:World} (h:p.rd lo hi w) (hl:lo'<=lo) (hh:hi<=hi'):p.rd lo' hi' w:=
 ⟨h.isr.mono hl hh,h.known.mono hl hh,h.reps.mono hl hh,fun r hr=>(h.logs r hr).mono hl hh,h.iC,h.kC,h.rC,h.cap,h.few⟩
def CX (lo hi:Nat) (p:Pa):cr:=⟨lo,hi,p.rd lo hi,fun _ _ hk h=>h.st hk⟩
structure RA.ok (r:RA):Prop where
 gl:GL r.es r.s
 high0:0<=r.high
 high1:r.high<=r.es.length
structure gx.ok (p:gx):Prop where
 n1:1<=p.reps.length
 n2:p.reps.length<=5
 isrl:p.isr.length=p.reps.length
 knownl:p.known.length=p.reps.length
 few1:1<=p.few
 few2:p.few<=p.reps.length
 ep0:0<=p.epoch
 ep1:p.epoch<=1073741824
 ld0: -1<=p.leader
 ld1:p.leader<p.reps.length
 base0:0<=p.base
 base1:p.base<=400
 some_:true∈p.isr
 lead: ∀ (l:Nat) (r:RA),p.leader=l->p.reps[l]? =some r->p.isr[l]? =some true/\r.up=true
 reps: ∀ r∈p.reps,r.ok
 known: ∀ n∈p.known,0<=n/\n<=400
theorem Hp.startPa {p:Pa} {w:World} (h:p.rd 0 w.heap.size w):Hp w w [] [CX 0 w.heap.size p,dM eR 0 w.heap.size p.iA p.isr,dM bQ 0 w.heap.size p.kA p.known,dM gO 0 w.heap.size p.rA p.reps]:=
 ((((Hp.start w).learnOld (dM gO 0 w.heap.size p.rA p.reps) h.reps (ao _)).learnOld (dM bQ 0 w.heap.size p.kA p.known) h.known (ao _)).learnOld (dM eR 0 w.heap.size p.iA p.isr) h.isr (ao _)).learnOld (CX 0 w.heap.size p) h (ao _)
theorem Hp.pa {w0 w:World} {L:List (Nat×Obj)} {F:List cr} {lo hi:Nat} {p:Pa} (H:Hp w0 w L F) (i:Nat) (hF:F[i]? =some (CX lo hi p)):p.rd 0 w.heap.size w:=
 Pa.rd.mono (H.fact hF) (bG _) (H.facts _ (ae hF)).2.1
theorem Pa.rd.nil (lo hi:Nat) (w:World):Pa.rd ⟨0,0,[],none,0,[],none,0,[],none,0,0,0⟩ lo hi w:=
 ⟨Rd.nil,Rd.nil,Rd.nil,fun r hr=>by simp at hr,by simp,by simp,by simp,fun r hr=>by simp at hr,by simp⟩
def zj:Pa:=⟨0,0,[],none,0,[],none,0,[],none,0,0,0⟩
def gz:gx:=⟨0,0,[],[],[],0,0⟩
def ek (w w2:World) (p:Pa):Prop:=p.rd w.heap.size w2.heap.size w2/\Below w.heap.size w w2
theorem ek.zero {w w2:World} (h:Below w.heap.size w w2):ek w w2 zj:=⟨Pa.rd.nil _ _ _,h⟩
structure FR (w w2:World) (p:Pa) (g1 g2 g3:Nat) (c1 c2 c3:Array Value):Prop where
 i:p.iA=some ⟨g1,0,none⟩
 k:p.kA=some ⟨g2,0,none⟩
 r:p.rA=some ⟨g3,0,none⟩
 ri:dT eR p.isr p.iC c1
 rk:dT bQ p.known p.kC c2
 rr:dT gO p.reps p.rC c3
 cap: ∀ r∈p.reps,(bg r.es).length<=r.cap
 los: ∀ r∈p.reps,w.heap.size<=r.lo
 few:p.isr.length<=1000000/\p.known.length<=1000000/\p.reps.length<=1000000
 hp:Hp w w2 [(g1,.cells c1 jc (0,0)),(g2,.cells c2 cW (0,0)),(g3,.cells c3 fK (0,0))] (sP p.reps)
theorem FR.new {w w2:World} {p:Pa} {g1 g2 g3:Nat} {c1 c2 c3:Array Value} (h:FR w w2 p g1 g2 g3 c1 c2 c3):ek w w2 p:=by
 have H:=h.hp
 have e1:=H.ents _ (fA _)
 have e2:=H.ents _ (qw _ (fA _))
 have e3:=H.ents _ (qw _ (qw _ (fA _)))
 refine⟨⟨?_,?_,?_,fun r hr=> ?_,h.ri.le,h.rk.le,h.rr.le,h.cap,h.few⟩,H.below⟩
 rw[h.i];exact(h.ri.rd e1.1).mono e1.2 (bY e1.1)
 rw[h.k];exact(h.rk.rd e2.1).mono e2.2 (bY e2.1)
 rw[h.r];exact(h.rr.rd e3.1).mono e3.2 (bY e3.1)
 obtain⟨f1,f2,-⟩:=H.facts (Bm r) (bL hr)
 exact Rd.mono f1 (h.los r hr) f2
theorem BR (es:List Bool) (A:Option Addr) (c:Nat) (w:World) (hr:Rd eR 0 w.heap.size A es w) (hb:es.length*1<=140737488355328):
  dd aa qp [.slice A es.length c] w fun v w2=> ∃ A' c' L',v=.slice A' es.length c'/\es.length<=c'/\c'<=maxLen/\gd eR (.slice A' es.length c') jc es L'/\Hp w w2 L' []:=by
 refine aD pX Z Z ?_
 have H:=Hp.startRd hr
 refine W<|Zr<|G (Ws Z)<|U<|W<|W<|Zr<|G (Ys Z) ?_
 refine wr (qz xA Z) Z Z Z (fun h4=> ?_) (fun h4=> ?_)
 refine U<|ZT Z<|W<|Zr<|G (Ws Z)<|U<|Zt ?_
 have he:es=[]:=by
  cases es with
  |nil=>rfl
  |cons e es=>obtain⟨b,o,hA,_⟩:=hr (by simp);subst hA;cases h4
 subst he
 exact cD Z Z ⟨none,0,[],rfl,by simp,by decide,gd.nil,H.forget (by simp) (by simp)⟩
 refine U<|ZF Z<|Zk<|W<|Zr<|Nw H d5 Z fun w1 b5 H=>G (Ys Z)<|vT (Y:=eR) LE (K:=[]) (L:=[(b5,_)]) (M:=[]) H (rT.lit (by decide) (by rfl)) (es:=[]) (news:=es) Z Z Z (Rd.src (H.fact (i:=0) Z)) (by simpa using hb) Z ?_
 intro A3 c3 w3 L3 h3a h3b ho3 H
 refine G (Ws Z)<|U<|Zt ?_
 exact cD Z Z ⟨A3,c3,L3,rfl,h3a,h3b,ho3,H.forget (by simp) (by simp)⟩
theorem xN (es:List fb) (A:Option Addr) (c:Nat) (w:World) (hr:Rd gO 0 w.heap.size A es w) (hb:es.length*48<=140737488355328):
  dd aa mM [.slice A es.length c] w fun v w2=> ∃ A' c' L',v=.slice A' es.length c'/\es.length<=c'/\c'<=maxLen/\gd gO (.slice A' es.length c') fK es L'/\Hp w w2 L' []:=by
 refine aD mq Z Z ?_
 have H:=Hp.startRd hr
 refine W<|Zr<|G (Ws Z)<|U<|W<|W<|Zr<|G (Ys Z) ?_
 refine wr (qz gW Z) Z Z Z (fun h4=> ?_) (fun h4=> ?_)
 refine U<|ZT Z<|W<|Zr<|G (Ws Z)<|U<|Zt ?_
 have he:es=[]:=by
  cases es with
  |nil=>rfl
  |cons e es=>obtain⟨b,o,hA,_⟩:=hr (by simp);subst hA;cases h4
 subst he
 exact cD Z Z ⟨none,0,[],rfl,by simp,by decide,gd.nil,H.forget (by simp) (by simp)⟩
 refine U<|ZF Z<|Zk<|W<|Zr<|Nw H bv Z fun w1 b5 H=>G (Ys Z)<|vT (Y:=gO) FM (K:=[]) (L:=[(b5,_)]) (M:=[]) H (rT.lit (by decide) (by rfl)) (es:=[]) (news:=es) Z Z Z (Rd.src (H.fact (i:=0) Z)) (by simpa using hb) Z ?_
 intro A3 c3 w3 L3 h3a h3b ho3 H
 refine G (Ws Z)<|U<|Zt ?_
 exact cD Z Z ⟨A3,c3,L3,rfl,h3a,h3b,ho3,H.forget (by simp) (by simp)⟩
theorem Br (es:List Bool) (A:Option Addr) (c:Nat) (w:World) (hr:Rd eR 0 w.heap.size A es w) (hb:es.length<=1000000):
  dd aa qo [.slice A es.length c,.bool true] w fun v w2=>(∃ n:Int,v=J n/\(0<=n↔true∈es))/\Below w.heap.size w w2:=by
 refine aD pV Z Z ?_
 have H:=Hp.startRd hr
 refine W<|Zr<|G (Wi Z)<|U<|W<|W<|Zr<|G (Ys Z)<|G (bn xA Z)<|G (Yi Z)<|U<|Zb ?_
 refine ce (τ:=Nat) [4,5,8,9,10,11,12,13,14,15,16,17,18] (fun k=>[(8,J (k:Nat))]) (fun k w'=>k<=es.length/\(∀ j,j<k->es[j]? =some false)/\Hp w w' [] [dM eR 0 w.heap.size A es]) (fun k=>es.length-k) 0 ⟨by omega,by intro j hj;omega,H⟩ (dF Z) ?_
 rintro k ρ1 w1 ⟨hk,hno,H⟩
 show CW _ _ _ _ (dC (gC _ _ ρ1) [(8,J (k:Nat))]) w1
 refine W<|Zr ?_
 refine cT (cG Z Z) Z Z Z (fun h9=> ?_) (fun h9=> ?_)
 refine U<|W<|ZT Z<|Zk<|W<|Zb<|W<|Zr<|G (Yi Z)<|G (Wi Z)<|U<|W<|Zr<|G (Yb Z)<|G (Ys Z)<|G (Yi Z)<|qn H 0 Z d5 Z Z I I Z fun b2 o2 x2 e2=>G (aT dP Z (e2.cl 0 _ Z))<|G (D6 wd Z Z) ?_
 refine mj 16 Z (fun h16=> ?_) (fun h16=> ?_)
 refine U<|ZT Z<|W<|Zr<|G (Yi Z)<|G (Wi Z)<|U<|Zt ?_
 exact cD Z Z ⟨⟨_,rfl,⟨fun _=>by have:=ae e2.at_;simp at h16;rwa[h16]at this,fun _=>by omega⟩⟩,H.below⟩
 refine U<|ZF Z<|Zk<|Zr<|G (br Z Z I I)<|G (Yi Z)<|U ?_
 refine⟨k+1,⟨by omega,fun j hj=> ?_,H⟩,dF Z,Qg,by show es.length- (k+1)<es.length-k;omega⟩
 by_cases hji:j<k
 exact hno j hji
 have:j=k:=by omega
 subst this;rw[e2.at_];simpa using h16
 refine U<|W<|ZF Z<|Zx<|W<|Zr<|G (Wi Z)<|U<|Zt ?_
 exact cD Z Z ⟨⟨-1,rfl,⟨fun h=>by omega,fun h=>by obtain⟨j,hj⟩:=aW.1 h;have:=hno j (by have:=(cE hj).1;omega);rw[hj]at this;cases this⟩⟩,H.below⟩
theorem rO (es:List Bool) (A:Option Addr) (c:Nat) (w:World) (hr:Rd eR 0 w.heap.size A es w) (hb:es.length<=1000000):
  dd aa oM [.slice A es.length c,.bool true] w fun v w2=>v=.bool (decide (true∈es))/\Below w.heap.size w w2:=by
 refine aD od Z Z ?_
 have H:=Hp.start w
 refine W<|Zr<|G (Wb Z)<|U<|W<|Zr<|G (Ys Z)<|G (Yb Z)<|cd qb (Br es _ _ _ hr hb) Z Z ?_
 rintro _ w1 ⟨⟨n,rfl,hn⟩,hb⟩;replace H:=H.later hb;clear hb
 refine G (j4 Z Z)<|G (Wb Z)<|U<|Zt ?_
 exact cD (v:=.bool (decide (0<=n))) Z Z ⟨by rw[decide_eq_decide.2 hn],H.below⟩
theorem pN (p:Pa) (i:Nat) (r:fb) (w:World) (hR:Rd gO 0 w.heap.size p.rA p.reps w) (hr:p.reps[i]? =some r) (hl:r.log.ok w):dd aa Fb [p.v,J (i:Nat)] w fun v w2=>v=.tuple #[J (r.es.length:Nat),J (r.s:Nat)]/\Below w.heap.size w w2:=by
 refine aD DH Z Z ?_
 obtain⟨ep,ld,isr,iA,iC,kn,kA,kC,reps,rA,rC,fw,bs⟩:=p
 dsimp only at hR hr
 have H:=Hp.startRd hR
 have hil:=(cE hr).1
 show CW _ _ _ _ (args [.agg #[J (ep),J (ld),.slice iA isr.length iC,.slice kA kn.length kC,.slice rA reps.length rC,J (fw),J (bs)],J (((i:Nat):Int))]) w
 refine W<|Zr<|fQ H Z Z fun w1 b2 H=>G (Wi Z)<|G (Wi Z)<|U<|W<|Zr<|G (Zf cS Z)<|G (Zd bT H 0 Z Z Z)<|G (Yi Z)<|qn H 0 Z bv Z Z I I Z fun b2 o2 x2 e2=> ?_
 obtain rfl:x2=r:=by have:=e2.at_;rw[hr]at this;exact(bj this).symm
 refine G (Zf dw Z)<|G (jM (xs:=[.slice x2.A ((bg x2.es).length) x2.cap,J (((fH x2.es x2.s:Nat):Int))]) eP Z Z (G5 e2.cl 1 Z))<|cd gu (gY x2.A x2.cap x2.es x2.s _ ⟨hl.gl,hl.cap,hl.rd.below H.below|>.mono (ao _) H.size⟩) Z Z ?_
 rintro _ w3 ⟨Aen,cen,rfl,hren,hcen,hben⟩;replace H:=H.learnRd hben hren;clear hren hben
 refine G (Yu Z)<|G (Xs Z Z)<|G (Xi Z Z)<|G (Xi Z Z)<|G (Ws Z)<|G (Wi Z)<|G (Wi Z)<|U<|W<|Zr<|G (Ys Z)<|G (bn ex Z)<|G (Yi Z)<|G (Wi Z)<|G (Wi Z)<|U<|Zt ?_
 exact l5 Z Z Z ⟨rfl,H.below⟩
theorem Pa.facts {p:Pa} (h:p.a.ok):1<=p.reps.length/\p.reps.length<=5/\p.isr.length=p.reps.length/\p.known.length=p.reps.length/\1<=p.few/\p.few<=p.reps.length/\0<=p.epoch/\p.epoch<=1073741824/\ -1<=p.leader/\p.leader<p.reps.length/\0<=p.base/\p.base<=400/\true∈p.isr:=by
 have h1:=h.n1;have h2:=h.n2;have h3:=h.isrl;have h4:=h.knownl;have h6:=h.few2;have h7:=h.ld1
 simp only[Pa.a,bF]at h1 h2 h3 h4 h6 h7
 exact⟨h1,h2,h3,h4,h.few1,h6,h.ep0,h.ep1,h.ld0,h7,h.base0,h.base1,h.some_⟩
theorem Pa.repOk {p:Pa} (h:p.a.ok) {i:Nat} {r:fb} (hr:p.reps[i]? =some r):GL r.es r.s/\0<=r.high/\r.high<=r.es.length:=by
 have h1:=h.reps r.a (bL (ae hr))
 exact⟨h1.gl,h1.high0,h1.high1⟩
theorem Pa.leads {p:Pa} (h:p.a.ok) {l:Nat} {r:fb} (hl:p.leader=l) (hr:p.reps[l]? =some r):p.isr[l]? =some true/\r.up=true:=
 h.lead l r.a hl (by simp[Pa.a,hr])
theorem Pa.log {p:Pa} {w:World} (hd:p.rd 0 w.heap.size w) (h:p.a.ok) {i:Nat} {r:fb} (hr:p.reps[i]? =some r):r.log.ok w:=
 ⟨(Pa.repOk h hr).1,hd.cap r (ae hr),hd.logs r (ae hr)⟩
theorem rD (p:Pa) (w:World) (h:p.rd 0 w.heap.size w) (hok:p.a.ok):dd aa Du [p.v] w fun v w2=>v=J 0/\Below w.heap.size w w2:=by
 refine aD BH Z Z ?_
 obtain⟨hn1,hn2,hil,hkl,hf1,hf2,he0,he1,hl0,hl1,hb0,hb1,hsm⟩:=Pa.facts hok
 have hkn:=hok.known
 have hiC:=h.iC
 have hkC:=h.kC
 have hrC:=h.rC
 have hfew:=h.few
 have H:=Hp.startPa h
 obtain⟨ep,ld,isr,iA,iC,kn,kA,kC,reps,rA,rC,fw,bs⟩:=p
 simp only[Pa.a]at hkn
 dsimp only at H hn1 hn2 hil hkl hf1 hf2 he0 he1 hl0 hl1 hb0 hb1 hsm hiC hkC hrC hfew
 show CW _ _ _ _ (args [.agg #[J (ep),J (ld),.slice iA isr.length iC,.slice kA kn.length kC,.slice rA reps.length rC,J (fw),J (bs)]]) w
 refine W<|Zr<|fQ H Z Z fun w1 b1 H=>G (Wi Z)<|U<|W<|Zr<|G (Zf cS Z)<|G (Zd bT H 0 Z Z Z)<|G (bn gW Z)<|G (Wi Z)<|U<|W<|W<|Zr<|G (Yi Z)<|G (cY Z Z I)<|G (Yb Z)<|ZG<|G (Yi Z)<|ZG<|G (en Z Z I)<|G (N Z Z)<|G (Yb Z)<|ZG<|G (Zf fX Z)<|ZG<|G (Zd gD H 0 Z Z Z)<|ZG<|G (bn xA Z)<|ZG<|G (Yi Z)<|ZG<|G (bU Z Z I)<|G (N Z Z)<|G (Yb Z)<|ZG<|G (Zf fW Z)<|ZG<|G (Zd cn H 0 Z Z Z) ?_
 refine ZG<|G (bn eB Z)<|ZG<|G (Yi Z)<|ZG<|G (bU Z Z I)<|G (N Z Z)<|G (Yb Z)<|ZG<|G (Zf xL Z)<|ZG<|G (Zd aj H 0 Z Z Z)<|ZG<|G (cY Z Z I)<|G (N Z Z)<|G (Yb Z)<|ZG<|G (Zf xL Z)<|ZG<|G (Zd aj H 0 Z Z Z)<|ZG<|G (Yi Z)<|ZG<|G (en Z Z I)<|G (N Z Z)<|G (Yb Z)<|ZG<|G (Zf pH Z)<|ZG<|G (Zd aj H 0 Z Z Z)<|ZG<|G (cY Z Z I)<|G (N Z Z)<|G (Yb Z)<|ZG<|G (Zf pH Z)<|ZG<|G (Zd aj H 0 Z Z Z)<|ZG<|G (en Z Z I) ?_
 refine G (N Z Z)<|G (Yb Z)<|ZG<|G (Zf dp Z)<|ZG<|G (Zd aj H 0 Z Z Z)<|ZG<|G (cY Z Z I)<|G (N Z Z)<|G (Yb Z)<|ZG<|G (Zf dp Z)<|ZG<|G (Zd aj H 0 Z Z Z)<|ZG<|G (Yi Z)<|ZG<|G (rc Z Z I)<|G (N Z Z)<|G (Yb Z)<|ZG<|G (Zf uA Z)<|ZG<|G (Zd aj H 0 Z Z Z)<|ZG<|G (cY Z Z I)<|G (N Z Z)<|G (Yb Z)<|ZG<|G (Zf uA Z)<|ZG<|G (Zd aj H 0 Z Z Z)<|ZG<|G (en Z Z I)<|G (N Z Z)<|U<|ZF Z<|Zk<|W<|W ?_
 refine Zr<|G (Zf fX Z)<|G (Zd gD H 0 Z Z Z)<|cd jg (rO isr iA iC _ (H.rd0 1 Z) I) Z Z ?_
 rintro _ w2 ⟨rfl,hb⟩;replace H:=H.later hb;clear hb
 rw[decide_eq_true hsm]
 refine G (dK Z)<|G (Yb Z)<|ZG<|G (Zf dp Z)<|ZG<|G (Zd aj H 0 Z Z Z)<|ZG ?_
 refine cT (j4 Z Z) Z Z Z (fun h80=> ?_) (fun h80=> ?_)
 obtain⟨l,hld⟩: ∃ l:Nat,ld=l:=⟨ld.toNat,by omega⟩
 refine ZG<|G (Yb Z)<|ZG<|G (Zf fX Z)<|ZG<|G (Zd gD H 0 Z Z Z)<|ZG<|G (Zf dp Z)<|ZG<|G (Zd aj H 0 Z Z Z)<|ZG<|qn (k:=l) H 1 Z d5 Z (congrArg (Value.int .i64) hld) I I Z fun b3 o3 x3 e3=>ZG ?_
 obtain⟨hI,-⟩:=Pa.leads hok (l:=l) hld (show(Pa.reps ⟨ep,ld,isr,iA,iC,kn,kA,kC,reps,rA,rC,fw,bs⟩)[l]? =_ from ah (by show l<reps.length;omega))
 obtain rfl:x3=true:=by have:=e3.at_;rw[show isr[l]? =_ from hI]at this;exact(bj this).symm
 refine G (aT (v:=.bool true) dP Z (e3.cl 0 _ Z))<|ZG<|G (dK Z)<|ZG<|G (Yb Z)<|ZG<|G (Zf cS Z)<|ZG<|G (Zd bT H 0 Z Z Z)<|ZG<|G (Zf dp Z)<|ZG<|G (Zd aj H 0 Z Z Z)<|ZG<|qn (k:=l) H 3 Z bv Z (congrArg (Value.int .i64) hld) I I Z fun b4 o4 x4 e4=>ZG<|G (Zf fo Z)<|ZG ?_
 obtain⟨-,hU⟩:=Pa.leads hok (l:=l) hld (show(Pa.reps ⟨ep,ld,isr,iA,iC,kn,kA,kC,reps,rA,rC,fw,bs⟩)[l]? =_ from e4.at_)
 refine G (aT (v:=.bool true) dP Z (e4.cl 0 _ (by rw[<-hU];rfl)))<|ZG<|G (dK Z)<|ZG<|G (N Z Z)<|ZG<|G (Kt Z Z)<|G (N Z Z)<|U<|ZF Z<|Zk<|W<|W<|Zr<|G (Zf cS Z)<|G (Zd bT H 0 Z Z Z)<|G (bn gW Z)<|G (Yi Z)<|U<|Zb ?_
 refine ce (τ:=Nat) [2,4,5,6,7,104,105,106,107,108,109,110,111,112,113,114,115,116,117,118,119,120,121,122,123,124,125,126,127,128,129,130,131,132,133,134,135,136,137,138,139,140,141,142,143,144,145,146] (fun k=>[(104,J (k:Nat))]) (fun k w'=>k<=reps.length/\Hp w w' [(b1,.cells #[J (ep),J (ld),.slice iA isr.length iC,.slice kA kn.length kC,.slice rA reps.length rC,J (fw),J (bs)] bD (0,0))] [CX 0 w.heap.size ⟨ep,ld,isr,iA,iC,kn,kA,kC,reps,rA,rC,fw,bs⟩,dM eR 0 w.heap.size iA isr,dM bQ 0 w.heap.size kA kn,dM gO 0 w.heap.size rA reps]) (fun k=>reps.length-k) 0 ⟨by omega,H⟩ (dF Z) ?_
 rintro k ρ1 w5 ⟨hk,H⟩
 show CW _ _ _ _ (dC (gC _ _ ρ1) [(104,J (k:Nat))]) w5
 refine W<|Zr ?_
 refine cT (cG Z Z) Z Z Z (fun h105=> ?_) (fun h105=> ?_)
 refine U<|W<|ZT Z<|Zk<|W<|Zb<|W<|Zr<|G (Yi Z)<|qn H 3 Z bv Z Z I I Z fun b6 o6 x6 e6=>G (jM (xs:=fb.c x6) ow Z Z e6.cl)<|eH H pG Z fun w7 b5 H=>G (Wi Z)<|bo H 0 (#[.bool (x6.up),.slice x6.A ((bg x6.es).length) x6.cap,J (((fH x6.es x6.s:Nat):Int)),J (x6.high)]) lF Z Z Z Z Z N N fun w8 H=>U<|W<|Zr<|G (Zw aG H 1 Z Z Z)<|G (Yi Z)<|cd js (pN ⟨ep,ld,isr,iA,iC,kn,kA,kC,reps,rA,rC,fw,bs⟩ k x6 _ (H.rd0 3 Z) e6.at_ (Pa.log (Hp.pa H 0 Z) hok (i:=k) e6.at_)) Z Z ?_
 rintro _ w9 ⟨rfl,hb⟩;replace H:=H.later hb;clear hb
 refine G (Yu Z)<|G (Xi Z Z)<|G (Xi Z Z)<|G (Wi Z)<|G (Wi Z)<|U<|W<|Zr<|G (Zf dw Z)<|G (jL 1 [.slice x6.A ((bg x6.es).length) x6.cap,J (((fH x6.es x6.s:Nat):Int))] eP Z Z (H.ent (i:=0) Z) Z)<|cd mz (qB x6.A x6.cap x6.es x6.s _ (Pa.log (Hp.pa H 0 Z) hok (i:=k) e6.at_)) Z Z ?_
 rintro _ w10 ⟨rfl,hb⟩;replace H:=H.later hb;clear hb
 refine G (bU Z Z Z)<|G (Yb Z)<|ZG<|G (Zf dU Z)<|ZG<|G (Zd aj H 0 Z Z Z)<|ZG<|G (cY Z Z (by have:=(Pa.repOk hok (show(Pa.reps ⟨ep,ld,isr,iA,iC,kn,kA,kC,reps,rA,rC,fw,bs⟩)[k]? =_ from e6.at_)).2.1;omega))<|G (N Z Z)<|G (Yb Z)<|ZG<|G (Zf dU Z)<|ZG<|G (Zd aj H 0 Z Z Z)<|ZG<|G (Yi Z)<|ZG<|G (en Z Z (by have:=(Pa.repOk hok (show(Pa.reps ⟨ep,ld,isr,iA,iC,kn,kA,kC,reps,rA,rC,fw,bs⟩)[k]? =_ from e6.at_)).2.2;omega))<|G (N Z Z)<|G (Yb Z)<|ZG<|G (Zf fW Z)<|ZG<|G (Zd cn H 1 Z Z Z)<|ZG<|G (Yi Z)<|ZG<|qn H 2 Z aZ Z Z I I Z fun b11 o11 x11 e11=>ZG<|G (aT aj Z (e11.cl 0 _ Z))<|ZG<|G (cY Z Z (by have:=(hkn _ (ae e11.at_)).1;omega))<|G (N Z Z)<|G (Yb Z)<|ZG<|G (Zf fW Z)<|ZG<|G (Zd cn H 1 Z Z Z)<|ZG<|G (Yi Z) ?_
 refine ZG<|qn H 2 Z aZ Z Z I I Z fun b12 o12 x12 e12=>ZG<|G (aT aj Z (e12.cl 0 _ Z))<|ZG<|G (en Z Z (by have:=(hkn _ (ae e12.at_)).2;omega))<|G (N Z Z)<|U<|ZF Z<|Zk<|Zr<|G (br Z Z I I)<|G (Yi Z)<|U ?_
 refine⟨k+1,⟨by omega,H.forget (.cons _ (ap _)) (fun _ h=>h)⟩,dF Z,Qg,by show reps.length- (k+1)<reps.length-k;omega⟩
 refine U<|W<|ZF Z<|Zx<|W<|Zr<|G (Wi Z)<|U<|Zt ?_
 exact cD Z Z ⟨rfl,H.below⟩
 refine ZG<|G (Yb Z)<|ZN<|ZN<|ZN<|ZN<|ZN<|ZN<|ZN<|ZN<|ZN<|ZN<|ZN<|ZN<|ZN<|ZN<|ZN<|ZN<|ZN<|ZG<|G (N Z Z)<|G (N Z Z)<|U<|ZF Z<|Zk<|W<|W<|Zr<|G (Zf cS Z)<|G (Zd bT H 0 Z Z Z)<|G (bn gW Z)<|G (Yi Z)<|U<|Zb ?_
 refine ce (τ:=Nat) [2,4,5,6,7,104,105,106,107,108,109,110,111,112,113,114,115,116,117,118,119,120,121,122,123,124,125,126,127,128,129,130,131,132,133,134,135,136,137,138,139,140,141,142,143,144,145,146] (fun k=>[(104,J (k:Nat))]) (fun k w'=>k<=reps.length/\Hp w w' [(b1,.cells #[J (ep),J (ld),.slice iA isr.length iC,.slice kA kn.length kC,.slice rA reps.length rC,J (fw),J (bs)] bD (0,0))] [CX 0 w.heap.size ⟨ep,ld,isr,iA,iC,kn,kA,kC,reps,rA,rC,fw,bs⟩,dM eR 0 w.heap.size iA isr,dM bQ 0 w.heap.size kA kn,dM gO 0 w.heap.size rA reps]) (fun k=>reps.length-k) 0 ⟨by omega,H⟩ (dF Z) ?_
 rintro k ρ1 w13 ⟨hk,H⟩
 show CW _ _ _ _ (dC (gC _ _ ρ1) [(104,J (k:Nat))]) w13
 refine W<|Zr ?_
 refine cT (cG Z Z) Z Z Z (fun h105=> ?_) (fun h105=> ?_)
 refine U<|W<|ZT Z<|Zk<|W<|Zb<|W<|Zr<|G (Yi Z)<|qn H 3 Z bv Z Z I I Z fun b14 o14 x14 e14=>G (jM (xs:=fb.c x14) ow Z Z e14.cl)<|eH H pG Z fun w15 b5 H=>G (Wi Z)<|bo H 0 (#[.bool (x14.up),.slice x14.A ((bg x14.es).length) x14.cap,J (((fH x14.es x14.s:Nat):Int)),J (x14.high)]) lF Z Z Z Z Z N N fun w16 H=>U<|W<|Zr<|G (Zw aG H 1 Z Z Z)<|G (Yi Z)<|cd js (pN ⟨ep,ld,isr,iA,iC,kn,kA,kC,reps,rA,rC,fw,bs⟩ k x14 _ (H.rd0 3 Z) e14.at_ (Pa.log (Hp.pa H 0 Z) hok (i:=k) e14.at_)) Z Z ?_
 rintro _ w17 ⟨rfl,hb⟩;replace H:=H.later hb;clear hb
 refine G (Yu Z)<|G (Xi Z Z)<|G (Xi Z Z)<|G (Wi Z)<|G (Wi Z)<|U<|W<|Zr<|G (Zf dw Z)<|G (jL 1 [.slice x14.A ((bg x14.es).length) x14.cap,J (((fH x14.es x14.s:Nat):Int))] eP Z Z (H.ent (i:=0) Z) Z)<|cd mz (qB x14.A x14.cap x14.es x14.s _ (Pa.log (Hp.pa H 0 Z) hok (i:=k) e14.at_)) Z Z ?_
 rintro _ w18 ⟨rfl,hb⟩;replace H:=H.later hb;clear hb
 refine G (bU Z Z Z)<|G (Yb Z)<|ZG<|G (Zf dU Z)<|ZG<|G (Zd aj H 0 Z Z Z)<|ZG<|G (cY Z Z (by have:=(Pa.repOk hok (show(Pa.reps ⟨ep,ld,isr,iA,iC,kn,kA,kC,reps,rA,rC,fw,bs⟩)[k]? =_ from e14.at_)).2.1;omega))<|G (N Z Z)<|G (Yb Z)<|ZG<|G (Zf dU Z)<|ZG<|G (Zd aj H 0 Z Z Z)<|ZG<|G (Yi Z)<|ZG<|G (en Z Z (by have:=(Pa.repOk hok (show(Pa.reps ⟨ep,ld,isr,iA,iC,kn,kA,kC,reps,rA,rC,fw,bs⟩)[k]? =_ from e14.at_)).2.2;omega))<|G (N Z Z)<|G (Yb Z)<|ZG<|G (Zf fW Z)<|ZG<|G (Zd cn H 1 Z Z Z)<|ZG<|G (Yi Z)<|ZG<|qn H 2 Z aZ Z Z I I Z fun b19 o19 x19 e19=>ZG<|G (aT aj Z (e19.cl 0 _ Z))<|ZG<|G (cY Z Z (by have:=(hkn _ (ae e19.at_)).1;omega))<|G (N Z Z)<|G (Yb Z)<|ZG<|G (Zf fW Z)<|ZG<|G (Zd cn H 1 Z Z Z)<|ZG<|G (Yi Z) ?_
 refine ZG<|qn H 2 Z aZ Z Z I I Z fun b20 o20 x20 e20=>ZG<|G (aT aj Z (e20.cl 0 _ Z))<|ZG<|G (en Z Z (by have:=(hkn _ (ae e20.at_)).2;omega))<|G (N Z Z)<|U<|ZF Z<|Zk<|Zr<|G (br Z Z I I)<|G (Yi Z)<|U ?_
 refine⟨k+1,⟨by omega,H.forget (.cons _ (ap _)) (fun _ h=>h)⟩,dF Z,Qg,by show reps.length- (k+1)<reps.length-k;omega⟩
 refine U<|W<|ZF Z<|Zx<|W<|Zr<|G (Wi Z)<|U<|Zt ?_
 exact cD Z Z ⟨rfl,H.below⟩
theorem zO {f:cr} {l:List fb} {x:fb} {F:List cr} (h:f∈F++sP (l++[x])):f∈Bm x::(F++sP l):=by
 simp only[sP,bk,eF,mb,au,aq]at h
 simp only[ax,au,sP]
 rcases h with h|h|h
 exact .inr (.inl h)
 exact .inr (.inr h)
 exact .inl h
theorem zH (p:Pa) (w:World) (h:p.rd 0 w.heap.size w) (hok:p.a.ok):dd aa yr [p.v] w fun v w2=> ∃ (p':Pa) (g1 g2 g3:Nat) (c1 c2 c3:Array Value),v=p'.v/\p'.a=p.a/\FR w w2 p' g1 g2 g3 c1 c2 c3:=by
 refine aD DL Z Z ?_
 obtain⟨hn1,hn2,hil,hkl,hf1,hf2,he0,he1,hl0,hl1,hb0,hb1,hsm⟩:=Pa.facts hok
 have hkn:=hok.known
 have hiC:=h.iC
 have hkC:=h.kC
 have hrC:=h.rC
 have hfew:=h.few
 have H:=Hp.startPa h
 obtain⟨ep,ld,isr,iA,iC,kn,kA,kC,reps,rA,rC,fw,bs⟩:=p
 simp only[Pa.a]at hkn
 dsimp only at H hn1 hn2 hil hkl hf1 hf2 he0 he1 hl0 hl1 hb0 hb1 hsm hiC hkC hrC hfew
 show CW _ _ _ _ (args [.agg #[J (ep),J (ld),.slice iA isr.length iC,.slice kA kn.length kC,.slice rA reps.length rC,J (fw),J (bs)]]) w
 refine W<|Zr<|fQ H Z Z fun w1 b1 H=>eH H bp Z fun w2 b2 H=>U<|W ?_
 refine bz bX [0,1,3,4,6,7,2,9,5,8] [10,11,12,13,14] [2,5,8] [0,3,6,9] (sp [(2,Sp.orow w2.heap.size eR jc isr),(5,Sp.orow w2.heap.size bQ cW kn),(8,Sp.orow w2.heap.size gO fK reps)]) N N N N Nq (cF _) ?_
 refine aw Z Z Z Z Z (fun w' hw'=>Zf fX Z)<|aw Z Z Z Z Z (fun w' hw'=>aT gD Z (aB ((H.later hw').ent (i:=1) Z) Z))<|aw Z Z Z Z Z (fun w' hw'=>Zf fW Z)<|aw Z Z Z Z Z (fun w' hw'=>aT cn Z (aB ((H.later hw').ent (i:=1) Z) Z))<|aw Z Z Z Z Z (fun w' hw'=>Zf cS Z)<|aw Z Z Z Z Z (fun w' hw'=>aT bT Z (aB ((H.later hw').ent (i:=1) Z) Z))<|xS qc Z Z Z Z Z (fun w' hw'=>hw'.size) (fun w' hw'=>BR isr _ _ w' ((H.later hw').rd0 1 Z) I) Z fun A6 c6 hc6=>aw Z Z Z Z Z (fun w' hw'=>Zf fX Z)<|xS f8 Z Z Z Z Z (fun w' hw'=>hw'.size) (fun w' hw'=>sH kn _ _ w' ((H.later hw').rd0 2 Z) I) Z fun A9 c9 hc9=>xS my Z Z Z Z Z (fun w' hw'=>hw'.size) (fun w' hw'=>xN reps _ _ w' ((H.later hw').rd0 3 Z) I) Z fun A12 c12 hc12=>aR ?_
 intro w3 hw' hF
 obtain⟨hF,Aq,cq,L12,eq,hcq,hm12,ho12,he12,hn12⟩:=hF;cases eq;clear hcq
 obtain⟨hF,Aq,cq,L9,eq,hcq,hm9,ho9,he9,hn9⟩:=hF;cases eq;clear hcq
 obtain⟨hF,Aq,cq,L6,eq,hcq,hm6,ho6,he6,hn6⟩:=hF;cases eq;clear hcq
 obtain⟨g1,cur1,rfl,rfl,row1⟩:=ho6.row I
 obtain⟨g2,cur2,rfl,rfl,row2⟩:=ho9.row I
 obtain⟨g3,cur3,rfl,rfl,row3⟩:=ho12.row I
 have e6:=he6 _ (dW _)
 have e9:=he9 _ (dW _)
 have e12:=he12 _ (dW _)
 replace H:=H.adopt3 hw' e6 e9 e12 (rP e6.1 e9.1 Z) (rP e6.1 e12.1 Z) (rP e9.1 e12.1 Z)
 clear hw' hF
 refine bo H 4 (#[J (ep),J (ld),.slice (Qd g1) isr.length c6,.slice kA kn.length kC,.slice rA reps.length rC,J (fw),J (bs)]) Im Z Z Z Z Z N N fun w4 H=>G (Zf fW Z)<|bo H 4 (#[J (ep),J (ld),.slice (Qd g1) isr.length c6,.slice (Qd g2) kn.length c9,.slice rA reps.length rC,J (fw),J (bs)]) jv Z Z Z Z Z N N fun w5 H=>G (Zf cS Z)<|bo H 4 (#[J (ep),J (ld),.slice (Qd g1) isr.length c6,.slice (Qd g2) kn.length c9,.slice (Qd g3) reps.length c12,J (fw),J (bs)]) Da Z Z Z Z Z N N fun w6 H=>U<|W<|W<|Zr<|G (Zf cS Z)<|G (Zd bT H 4 Z Z Z)<|G (bn gW Z)<|G (Yi Z)<|U<|Zb ?_
 refine ce (τ:=Nat×List fb×Array Value) [3,19,20,21,22,23,24,25,26,27,28,29,30,31,32,33,34,35,36] (fun(k,_)=>[(19,J (k:Nat))]) (fun(k,rs,c3) w'=>k<=rs.length/\rs.length=reps.length/\rs.map fb.a=reps.map fb.a/\rs.drop k=reps.drop k/\(∀ r∈rs.take k,(bg r.es).length<=r.cap/\w.heap.size<=r.lo)/\dT gO rs c12 c3/\Hp w w' [(g1,.cells cur1 jc (0,0)),(g2,.cells cur2 cW (0,0)),(g3,.cells c3 fK (0,0)),(b2,.cells #[J 0,J 0,.slice none 0 0,.slice none 0 0,.slice none 0 0,J 0,J 0] bD (0,0)),(b1,.cells #[J ep,J ld,.slice (Qd g1) isr.length c6,.slice (Qd g2) kn.length c9,.slice (Qd g3) reps.length c12,J fw,J bs] bD (0,0))] ([CX 0 w.heap.size ⟨ep,ld,isr,iA,iC,kn,kA,kC,reps,rA,rC,fw,bs⟩,dM eR 0 w.heap.size iA isr,dM bQ 0 w.heap.size kA kn,dM gO 0 w.heap.size rA reps]++sP (rs.take k))) (fun(k,rs,_)=>rs.length-k) (0,reps,cur3) ⟨by omega,rfl,rfl,rfl,by simp,row3,H⟩ (dF Z) ?_
 rintro⟨k,rs,c3⟩ ρ1 w7 ⟨hk,hrl,hma,hdr,hcp,row,H⟩
 show CW _ _ _ _ (dC (gC _ _ ρ1) [(19,J (k:Nat))]) w7
 refine W<|Zr ?_
 refine cT (cG Z Z) Z Z Z (fun h20=> ?_) (fun h20=> ?_)
 refine U<|W<|ZT Z<|Zk<|W<|Zb<|W ?_
 obtain⟨x,hx⟩: ∃ x,rs[k]? =some x:=⟨_,ah I⟩
 have hxt:=y9 hdr hx
 have hsz:=(Pa.repOk hok (show(Pa.reps ⟨ep,ld,isr,iA,iC,kn,kA,kC,reps,rA,rC,fw,bs⟩)[k]? =_ from hxt)).1.sz
 refine Zr<|G (Yi Z)<|G (Wi Z)<|U ?_
 have hlo:=H.size
 refine bz bX [0,1,2,3,4,5,6,7,8,9,10,11,12,13] [14] [10] [0,2,3,5,6,7,8,11,12,13] (sp [(10,Sp.row w7.heap.size dy (bg x.es))]) N N N N Nq (cF _) ?_
 refine aw Z Z Z Z Z (fun w' hw'=>Zf cS Z)<|aw Z Z Z Z Z (fun w' hw'=>aT bT Z (aB ((H.later hw').ent (i:=4) Z) Z))<|aw Z Z Z Z Z (fun w' hw'=>Yi Z)<|aw Z Z Z Z Z (fun w' hw'=>Zf cS Z)<|aw Z Z Z Z Z (fun w' hw'=>aT bT Z (aB ((H.later hw').ent (i:=4) Z) Z))<|aw Z Z Z Z Z (fun w' hw'=>Yi Z)<|aw Z Z Z Z Z (fun w' hw'=>cB bv Z Z (by first|omega|(simp only[ab];omega)))<|aw Z Z Z Z Z (fun w' hw'=>Zf dw Z)<|aw Z Z Z Z Z (fun w' hw'=>Zf gm Z)<|aw Z Z Z Z Z (fun w' hw'=>bP d3 row hx 1 Z ((H.later hw').ent (i:=2) Z) Z)<|CN fa Z Z Z Z Z (fun w' hw'=>hw'.size) (fun w' hw'=>kX (bg x.es) _ _ w' ((Hp.pa (H.later hw') 0 Z).logs x (ae hxt)) I) Z fun A32 c32 hc32=>aw Z Z Z Z Z (fun w' hw'=>cB bv Z Z (by first|omega|(simp only[ab];omega)))<|aw Z Z Z Z Z (fun w' hw'=>Zf dw Z)<|aw Z Z Z Z Z (fun w' hw'=>Zf gm Z)<|aR ?_
 intro w8 hw' hF
 obtain⟨hF,Aq,cq,eq,hcq,hrw32⟩:=hF;cases eq;clear hcq
 replace H:=H.learnRd hw' hrw32
 clear hw' hF
 refine kH H 2 ({x with A:=A32,cap:=c32,lo:=w7.heap.size,hi:=w8.heap.size}) Cj row hx 1 Z Z Z Z Z Z N fun w10 cur9 row9 H=>U<|Zr<|G (br Z Z I I)<|G (Yi Z)<|U ?_
 obtain⟨z1,z2,z3⟩:=Nv (x':={x with A:=A32,cap:=c32,lo:=w7.heap.size,hi:=w8.heap.size}) hx hma hdr Z
 refine⟨(k+1,rs.set k {x with A:=A32,cap:=c32,lo:=w7.heap.size,hi:=w8.heap.size},cur9),⟨by rw[ab];omega,by rw[ab];exact hrl,z1,z2,?_,row9,H.forget (ap _) (fun f hf=>by rw[z3]at hf;exact zO hf)⟩,dF Z,Qg,by show(rs.set k _).length- (k+1)<rs.length-k;rw[ab];omega⟩
 rw[z3];intro t ht;rcases au.1 ht with ht|ht;exact hcp t ht;rw[aq.1 ht];exact⟨hc32,hlo⟩
 refine U<|W<|ZF Z<|Zx<|W<|Zr<|G (Zw aG H 4 Z Z Z)<|bo H 3 (#[J (ep),J (ld),.slice (Qd g1) isr.length c6,.slice (Qd g2) kn.length c9,.slice (Qd g3) reps.length c12,J (fw),J (bs)]) aK Z Z Z Z Z N N fun w11 H=>U<|Zt ?_
 have hke:k=rs.length:=by omega
 rw[hke,bJ]at H hcp
 exact eM (cs0:= #[J ep,J ld,.slice (Qd g1) isr.length c6,.slice (Qd g2) kn.length c9,.slice (Qd g3) reps.length c12,J fw,J bs]) Z aG Z (H.ent (i:=3) Z) Z ⟨⟨ep,ld,isr,some ⟨g1,0,none⟩,c6,kn,some ⟨g2,0,none⟩,c9,rs,some ⟨g3,0,none⟩,c12,fw,bs⟩,g1,g2,g3,cur1,cur2,c3,by unfold Pa.v Pa.c;dsimp only;rw[hrl],by unfold Pa.a;dsimp only;rw[hma],⟨rfl,rfl,rfl,row1,row2,row,fun r hr=>(hcp r hr).1,fun r hr=>(hcp r hr).2,by dsimp only;omega,H.forget (.cons_cons _ (.cons_cons _ (.cons_cons _ (vr _)))) (fun f hf=>ch _ hf)⟩⟩
/-- the least of what is known of those that keep up -/
def dr:List Bool->List Int->Int->Int
 |b::bs,n::ns,m=>dr bs ns (if b then min m n else m)
 |_,_,m=>m
theorem zZ {isr:List Bool} {kn:List Int} {k:Nat} {b:Bool} {n m:Int} (hb:isr[k]? =some b) (hn:kn[k]? =some n):dr (isr.drop k) (kn.drop k) m=dr (isr.drop (k+1)) (kn.drop (k+1)) (if b then min m n else m):=by
 rw[cM hb,cM hn]
 rfl
theorem ES {w0 w:World} {L:List (Nat×Obj)} {F:List cr} {r:fb} (H:Hp w0 w L F) (hF:Bm r∈F) (hg:GL r.es r.s) (hc:(bg r.es).length<=r.cap):r.log.ok w:=by
 obtain⟨h1,h2,-⟩:=H.facts (Bm r) hF
 exact⟨hg,hc,Rd.mono h1 (bG _) h2⟩
theorem tu (p:Pa) (r:Nat) (w:World) (h:p.rd 0 w.heap.size w) (hok:p.a.ok) (hr:r<p.reps.length):dd aa I2 [p.v,J (r:Nat)] w fun v w2=> ∃ (p':Pa) (g1 g2 g3:Nat) (c1 c2 c3:Array Value),v=.tuple #[p'.v,J 0]/\p'.a=p.a/\FR w w2 p' g1 g2 g3 c1 c2 c3:=by
 refine aD GV Z Z ?_
 obtain⟨hn1,hn2,hil,hkl,hf1,hf2,he0,he1,hl0,hl1,hb0,hb1,hsm⟩:=Pa.facts hok
 have hkn:=hok.known
 have hiC:=h.iC
 have hkC:=h.kC
 have hrC:=h.rC
 have hfew:=h.few
 have H:=Hp.startPa h
 obtain⟨ep,ld,isr,iA,iC,kn,kA,kC,reps,rA,rC,fw,bs⟩:=p
 simp only[Pa.a]at hkn
 dsimp only at H hn1 hn2 hil hkl hf1 hf2 he0 he1 hl0 hl1 hb0 hb1 hsm hiC hkC hrC hfew
 dsimp only at hr
 show CW _ _ _ _ (args [.agg #[J (ep),J (ld),.slice iA isr.length iC,.slice kA kn.length kC,.slice rA reps.length rC,J (fw),J (bs)],J (((r:Nat):Int))]) w
 refine W<|Zr<|fQ H Z Z fun w1 b2 H=>eH H bp Z fun w2 b4 H=>G (Wi Z)<|U<|W<|W<|Zr<|G (Zw aG H 1 Z Z Z)<|cd k9 (rD ⟨ep,ld,isr,iA,iC,kn,kA,kC,reps,rA,rC,fw,bs⟩ _ (Hp.pa H 0 Z) hok) Z Z ?_
 rintro _ w3 ⟨rfl,hb⟩;replace H:=H.later hb;clear hb
 refine G (Wi Z)<|U<|W<|Zr<|G (Yi Z)<|G (bU Z Z Z)<|U<|ZF Z<|Zk<|W<|W<|Zr<|G (Yi Z)<|G (cY Z Z I)<|G (Yb Z)<|ZG<|G (Yi Z)<|ZG<|G (Zf cS Z)<|ZG<|G (Zd bT H 1 Z Z Z)<|ZG<|G (bn gW Z)<|ZG<|G (rc Z Z I)<|G (N Z Z)<|U<|ZF Z<|Zk<|W<|Zr<|G (Zw aG H 1 Z Z Z)<|cd mB (zH ⟨ep,ld,isr,iA,iC,kn,kA,kC,reps,rA,rC,fw,bs⟩ _ (Hp.pa H 0 Z) hok) Z Z ?_
 rintro _ w4 ⟨⟨ep2,ld2,is2,iA2,c1,kn2,kA2,c2,rs,rA2,c3,fw2,bs2⟩,g1,g2,g3,u1,u2,u3,rfl,ha2,ho⟩
 simp only[Pa.a,gx.mk.injEq]at ha2
 obtain⟨e1,e2,e3,e4,hma,e6,e7⟩:=ha2
 obtain rfl:ep=ep2:=e1.symm
 obtain rfl:ld=ld2:=e2.symm
 obtain rfl:isr=is2:=e3.symm
 obtain rfl:kn=kn2:=e4.symm
 obtain rfl:fw=fw2:=e6.symm
 obtain rfl:bs=bs2:=e7.symm
 have hrl:rs.length=reps.length:=by have:=congrArg cu hma;simpa using this
 obtain⟨i1,i2,i3,row1,row2,row3,hcp,hlos,-,hjn⟩:=ho
 dsimp only at i1 i2 i3 row1 row2 row3 hcp hlos hjn
 subst i1;subst i2;subst i3
 have hlo0:=H.size
 replace H:=H.joinF hjn (by intro f hf;obtain⟨r,hr,rfl⟩:=bw.1 hf;exact hlos r hr)
 replace hlos: ∀ r∈rs,w.heap.size<=r.lo:=fun r hr=>aS hlo0 (hlos r hr)
 clear hjn
 refine bo H 3 (#[J (ep),J (ld),.slice (Qd g1) isr.length c1,.slice (Qd g2) kn.length c2,.slice (Qd g3) rs.length c3,J (fw),J (bs)]) aK Z Z Z Z Z N N fun w5 H=>G (Wi Z)<|U<|Zt ?_
 exact bC (cs0:= #[J (ep),J (ld),.slice (Qd g1) isr.length c1,.slice (Qd g2) kn.length c2,.slice (Qd g3) rs.length c3,J (fw),J (bs)]) (v1:=J 0) Z aG Z (H.ent (i:=3) Z) Z Z ⟨⟨ep,ld,isr,_,c1,kn,_,c2,rs,_,c3,fw,bs⟩,g1,g2,g3,u1,u2,u3,rfl,by simp only[Pa.a,hma],⟨rfl,rfl,rfl,row1,row2,row3,hcp,hlos,by dsimp only;omega,H.forget (.cons_cons _ (.cons_cons _ (.cons_cons _ (vr _)))) (fun f hf=>ch _ hf)⟩⟩
theorem Hw (p:Pa) (r:Nat) (w:World) (h:p.rd 0 w.heap.size w) (hok:p.a.ok) (hr:r<p.reps.length) (hl:0<=p.leader) (hne:p.leader≠r):dd aa Ac [p.v,J (r:Nat)] w fun v w2=> ∃ (p':Pa) (g1 g2 g3:Nat) (c1 c2 c3:Array Value),v=.tuple #[p'.v,J 0]/\p'.a=p.a/\FR w w2 p' g1 g2 g3 c1 c2 c3:=by
 refine aD yt Z Z ?_
 obtain⟨hn1,hn2,hil,hkl,hf1,hf2,he0,he1,hl0,hl1,hb0,hb1,hsm⟩:=Pa.facts hok
 have hkn:=hok.known
 have hiC:=h.iC
 have hkC:=h.kC
 have hrC:=h.rC
 have hfew:=h.few
 have H:=Hp.startPa h
 obtain⟨ep,ld,isr,iA,iC,kn,kA,kC,reps,rA,rC,fw,bs⟩:=p
 simp only[Pa.a]at hkn
 dsimp only at H hn1 hn2 hil hkl hf1 hf2 he0 he1 hl0 hl1 hb0 hb1 hsm hiC hkC hrC hfew
 dsimp only at hr hl hne
 show CW _ _ _ _ (args [.agg #[J (ep),J (ld),.slice iA isr.length iC,.slice kA kn.length kC,.slice rA reps.length rC,J (fw),J (bs)],J (((r:Nat):Int))]) w
 refine W<|Zr<|fQ H Z Z fun w1 b2 H=>eH H bp Z fun w2 b4 H=>G (Wi Z)<|U<|W<|Zr<|G (Zw aG H 1 Z Z Z)<|G (Yi Z)<|cd kg (tu ⟨ep,ld,isr,iA,iC,kn,kA,kC,reps,rA,rC,fw,bs⟩ r _ (Hp.pa H 0 Z) hok hr) Z Z ?_
 rintro _ w3 ⟨⟨ep2,ld2,is2,iA2,c1,kn2,kA2,c2,rs,rA2,c3,fw2,bs2⟩,g1,g2,g3,u1,u2,u3,rfl,ha2,ho⟩
 simp only[Pa.a,gx.mk.injEq]at ha2
 obtain⟨e1,e2,e3,e4,hma,e6,e7⟩:=ha2
 obtain rfl:ep=ep2:=e1.symm
 obtain rfl:ld=ld2:=e2.symm
 obtain rfl:isr=is2:=e3.symm
 obtain rfl:kn=kn2:=e4.symm
 obtain rfl:fw=fw2:=e6.symm
 obtain rfl:bs=bs2:=e7.symm
 have hrl:rs.length=reps.length:=by have:=congrArg cu hma;simpa using this
 obtain⟨i1,i2,i3,row1,row2,row3,hcp,hlos,-,hjn⟩:=ho
 dsimp only at i1 i2 i3 row1 row2 row3 hcp hlos hjn
 subst i1;subst i2;subst i3
 have hlo0:=H.size
 replace H:=H.joinF hjn (by intro f hf;obtain⟨r,hr,rfl⟩:=bw.1 hf;exact hlos r hr)
 replace hlos: ∀ r∈rs,w.heap.size<=r.lo:=fun r hr=>aS hlo0 (hlos r hr)
 clear hjn
 refine G (Yu Z)<|G (Xa Z Z)<|G (Xi Z Z)<|bo H 4 (#[J (ep),J (ld),.slice (Qd g1) isr.length c1,.slice (Qd g2) kn.length c2,.slice (Qd g3) rs.length c3,J (fw),J (bs)]) aK Z Z Z Z Z N N fun w4 H=>G (Wi Z)<|U<|W<|W<|Zr<|G (Yi Z)<|G (bU Z Z Z)<|U<|ZF Z<|Zk<|W<|W<|Zr<|G (Zf dp Z)<|G (Zd aj H 4 Z Z Z)<|G (cY Z Z I)<|G (Yb Z)<|ZG<|G (Zf dp Z)<|ZG<|G (Zd aj H 4 Z Z Z)<|ZG<|G (Yi Z)<|ZG<|G (nu Z Z hne)<|G (N Z Z)<|U<|ZF Z<|Zk<|W<|Zr<|G (Zw aG H 4 Z Z Z)<|bo H 3 (#[J (ep),J (ld),.slice (Qd g1) isr.length c1,.slice (Qd g2) kn.length c2,.slice (Qd g3) rs.length c3,J (fw),J (bs)]) aK Z Z Z Z Z N N fun w5 H=>G (Wi Z)<|U<|Zt ?_
 exact bC (cs0:= #[J (ep),J (ld),.slice (Qd g1) isr.length c1,.slice (Qd g2) kn.length c2,.slice (Qd g3) rs.length c3,J (fw),J (bs)]) (v1:=J 0) Z aG Z (H.ent (i:=3) Z) Z Z ⟨⟨ep,ld,isr,_,c1,kn,_,c2,rs,_,c3,fw,bs⟩,g1,g2,g3,u1,u2,u3,rfl,by simp only[Pa.a,hma],⟨rfl,rfl,rfl,row1,row2,row3,hcp,hlos,by dsimp only;omega,H.forget (.cons_cons _ (.cons_cons _ (.cons_cons _ (vr _)))) (fun f hf=>ch _ hf)⟩⟩
theorem EO (p:Pa) (r:Nat) (w:World) (h:p.rd 0 w.heap.size w) (hok:p.a.ok) (hr:r<p.reps.length) (hl:p.leader<0∨p.leader=r):dd aa Ac [p.v,J (r:Nat)] w fun v w2=>v=.tuple #[.agg #[J 0,J 0,.slice none 0 0,.slice none 0 0,.slice none 0 0,J 0,J 0],J 8]/\Below w.heap.size w w2:=by
 refine aD yt Z Z ?_
 obtain⟨hn1,hn2,hil,hkl,hf1,hf2,he0,he1,hl0,hl1,hb0,hb1,hsm⟩:=Pa.facts hok
 have hkn:=hok.known
 have hiC:=h.iC
 have hkC:=h.kC
 have hrC:=h.rC
 have hfew:=h.few
 have H:=Hp.startPa h
 obtain⟨ep,ld,isr,iA,iC,kn,kA,kC,reps,rA,rC,fw,bs⟩:=p
 simp only[Pa.a]at hkn
 dsimp only at H hn1 hn2 hil hkl hf1 hf2 he0 he1 hl0 hl1 hb0 hb1 hsm hiC hkC hrC hfew
 dsimp only at hr hl
 show CW _ _ _ _ (args [.agg #[J (ep),J (ld),.slice iA isr.length iC,.slice kA kn.length kC,.slice rA reps.length rC,J (fw),J (bs)],J (((r:Nat):Int))]) w
 refine W<|Zr<|fQ H Z Z fun w1 b2 H=>eH H bp Z fun w2 b4 H=>G (Wi Z)<|U<|W<|Zr<|G (Zw aG H 1 Z Z Z)<|G (Yi Z)<|cd kg (tu ⟨ep,ld,isr,iA,iC,kn,kA,kC,reps,rA,rC,fw,bs⟩ r _ (Hp.pa H 0 Z) hok hr) Z Z ?_
 rintro _ w3 ⟨⟨ep2,ld2,is2,iA2,c1,kn2,kA2,c2,rs,rA2,c3,fw2,bs2⟩,g1,g2,g3,u1,u2,u3,rfl,ha2,ho⟩
 simp only[Pa.a,gx.mk.injEq]at ha2
 obtain⟨e1,e2,e3,e4,hma,e6,e7⟩:=ha2
 obtain rfl:ep=ep2:=e1.symm
 obtain rfl:ld=ld2:=e2.symm
 obtain rfl:isr=is2:=e3.symm
 obtain rfl:kn=kn2:=e4.symm
 obtain rfl:fw=fw2:=e6.symm
 obtain rfl:bs=bs2:=e7.symm
 have hrl:rs.length=reps.length:=by have:=congrArg cu hma;simpa using this
 obtain⟨i1,i2,i3,row1,row2,row3,hcp,hlos,-,hjn⟩:=ho
 dsimp only at i1 i2 i3 row1 row2 row3 hcp hlos hjn
 subst i1;subst i2;subst i3
 have hlo0:=H.size
 replace H:=H.joinF hjn (by intro f hf;obtain⟨r,hr,rfl⟩:=bw.1 hf;exact hlos r hr)
 replace hlos: ∀ r∈rs,w.heap.size<=r.lo:=fun r hr=>aS hlo0 (hlos r hr)
 clear hjn
 refine G (Yu Z)<|G (Xa Z Z)<|G (Xi Z Z)<|bo H 4 (#[J (ep),J (ld),.slice (Qd g1) isr.length c1,.slice (Qd g2) kn.length c2,.slice (Qd g3) rs.length c3,J (fw),J (bs)]) aK Z Z Z Z Z N N fun w4 H=>G (Wi Z)<|U<|W<|W<|Zr<|G (Yi Z)<|G (bU Z Z Z)<|U<|ZF Z<|Zk<|W<|W<|Zr<|G (Zf dp Z)<|G (Zd aj H 4 Z Z Z) ?_
 refine cT (cG Z Z) Z Z Z (fun h19=> ?_) (fun h19=> ?_)
 refine G (Yb Z)<|ZN<|ZN<|ZN<|ZN<|G (Kt Z Z)<|U<|ZT Z<|W<|Zr<|G (bi (cs:= #[J (0),J (0),.slice none 0 0,.slice none 0 0,.slice none 0 0,J (0),J (0)]) cK bp N)<|bo H 3 (#[J (0),J (0),.slice none 0 0,.slice none 0 0,.slice none 0 0,J (0),J (0)]) aK Z Z Z Z Z N N fun w5 H=>G (Wi Z)<|U<|Zt ?_
 exact bC (cs0:= #[J 0,J 0,.slice none 0 0,.slice none 0 0,.slice none 0 0,J 0,J 0]) (v1:=J 8) Z aG Z (H.ent (i:=3) Z) Z Z ⟨rfl,H.below⟩
 refine G (Yb Z)<|ZG<|G (Zf dp Z)<|ZG<|G (Zd aj H 4 Z Z Z)<|ZG<|G (Yi Z)<|ZG ?_
 refine cT (bl Z Z) Z Z Z (fun h24=> ?_) (fun h24=> ?_)
 refine G (N Z Z)<|U<|ZT Z<|W<|Zr<|G (bi (cs:= #[J (0),J (0),.slice none 0 0,.slice none 0 0,.slice none 0 0,J (0),J (0)]) cK bp N)<|bo H 3 (#[J (0),J (0),.slice none 0 0,.slice none 0 0,.slice none 0 0,J (0),J (0)]) aK Z Z Z Z Z N N fun w6 H=>G (Wi Z)<|U<|Zt ?_
 exact bC (cs0:= #[J 0,J 0,.slice none 0 0,.slice none 0 0,.slice none 0 0,J 0,J 0]) (v1:=J 8) Z aG Z (H.ent (i:=3) Z) Z Z ⟨rfl,H.below⟩
 exfalso;omega
theorem y3 {w0 w:World} {M:List (Nat×Obj)} {F:List cr} {g1 g2 g3:Nat} {u1 u2 u3:Array Value} (ep ld:Int) (isr:List Bool) (iC:Nat) (kn:List Int) (kC:Nat) (reps:List fb) (rC:Nat) (fw bs:Int) (l:Nat) (r:fb)
  (H:Hp w0 w ((g1,.cells u1 jc (0,0))::(g2,.cells u2 cW (0,0))::(g3,.cells u3 fK (0,0))::M) F) (row1:dT eR isr iC u1) (row2:dT bQ kn kC u2) (row3:dT gO reps rC u3) (hil:isr.length=reps.length) (hkl:kn.length=reps.length) (hn:reps.length<=5) (hld:ld=l) (hr:reps[l]? =some r) (hF:Bm r∈F) (hg:GL r.es r.s) (hc:(bg r.es).length<=r.cap):
  dd aa Ad [.agg #[J (ep),J (ld),.slice (Qd g1) isr.length iC,.slice (Qd g2) kn.length kC,.slice (Qd g3) reps.length rC,J (fw),J (bs)]] w fun v w2=> ∃ u4,v=.agg #[J (ep),J (ld),.slice (Qd g1) isr.length iC,.slice (Qd g2) kn.length kC,.slice (Qd g3) reps.length rC,J (fw),J (bs)]/\dT gO (reps.set l {r with high:=max r.high (min (dr isr kn 400) (r.es.length:Nat))}) rC u4/\Hp w0 w2 ((g1,.cells u1 jc (0,0))::(g2,.cells u2 cW (0,0))::(g3,.cells u4 fK (0,0))::M) F:=by
 refine aD yL Z Z ?_
 have hll:=(cE hr).1
 refine W<|Zr<|fQ H Z Z fun w1 b1 H=>eH H bp Z fun w2 b2 H=>U<|W<|W<|Zr<|G (Zf dp Z)<|G (Zd aj H 1 Z Z Z)<|G (cY Z Z I)<|U<|ZF Z<|Zk<|W<|Zr<|G (Wi Z)<|U<|W<|W<|Zr<|G (Zf fW Z)<|G (Zd cn H 1 Z Z Z)<|G (bn eB Z)<|G (Yi Z)<|U<|Zb ?_
 refine ce (τ:=Nat×Int) [3,4,5,16,17,18,19,20,21,22,23,24,25,26,27,28,29] (fun(k,m)=>[(16,J (k:Nat)),(3,J m)]) (fun(k,m) w'=>k<=kn.length/\dr (isr.drop k) (kn.drop k) m=dr isr kn 400/\Hp w0 w' ((b2,.cells #[J 0,J 0,.slice none 0 0,.slice none 0 0,.slice none 0 0,J 0,J 0] bD (0,0))::(b1,.cells #[J (ep),J (ld),.slice (Qd g1) isr.length iC,.slice (Qd g2) kn.length kC,.slice (Qd g3) reps.length rC,J (fw),J (bs)] bD (0,0))::(g1,.cells u1 jc (0,0))::(g2,.cells u2 cW (0,0))::(g3,.cells u3 fK (0,0))::M) F) (fun(k,_)=>kn.length-k) (0,400) ⟨by omega,rfl,H⟩ (kO Z Z) ?_
 rintro⟨k,m⟩ ρ1 w3 ⟨hk,hm,H⟩
 show CW _ _ _ _ (dC (gC _ _ ρ1) [(16,J (k:Nat)),(3,J m)]) w3
 refine W<|Zr ?_
 refine cT (cG Z Z) Z Z Z (fun h17=> ?_) (fun h17=> ?_)
 refine U<|W<|ZT Z<|Zk<|W<|Zb<|W ?_
 obtain⟨n,hn_⟩: ∃ n,kn[k]? =some n:=⟨_,ah I⟩
 obtain⟨b,hb_⟩: ∃ b,isr[k]? =some b:=⟨_,ah I⟩
 refine Zr<|G (Yi Z)<|G (cB aZ Z Z (by first|omega|(simp only[ab];omega)))<|G (bP aj row2 hn_ 0 Z (H.ent (i:=3) Z) Z)<|G (Wi Z)<|G (Wi Z)<|U<|W<|Zr<|G (Zf fX Z)<|G (Zd gD H 1 Z Z Z)<|G (Yi Z)<|G (cB d5 Z Z (by first|omega|(simp only[ab];omega))) ?_
 refine wr (bP dP row1 hb_ 0 Z (H.ent (i:=2) Z) Z) Z Z Z (fun h25=> ?_) (fun h25=> ?_)
 refine U<|ZT Z<|Zr<|G (Yi Z)<|G (Yi Z)<|G (tv Z Z)<|G (Wi Z)<|U<|Zr<|G (br Z Z I I)<|G (Yi Z)<|U ?_
 refine⟨(k+1,min m n),⟨by omega,by rw[<-hm,zZ hb_ hn_];rw[if_pos h25],H⟩,kO Z Z,Qg,by show kn.length- (k+1)<kn.length-k;omega⟩
 refine U<|ZF Z<|Zk<|Zr<|G (br Z Z I I)<|G (Yi Z)<|U ?_
 refine⟨(k+1,m),⟨by omega,by rw[<-hm,zZ hb_ hn_];rw[if_neg (by simp[h25])],H⟩,kO Z Z,Qg,by show kn.length- (k+1)<kn.length-k;omega⟩
 have hke:k=kn.length:=by omega
 have hm2:m=dr isr kn 400:=by rw[<-hm,hke,fm];cases(isr.drop kn.length)<;>rfl
 refine U<|W<|ZF Z<|Zx<|W<|Zr<|G (Zw aG H 1 Z Z Z)<|G (Zf dp Z)<|G (Zd aj H 1 Z Z Z)<|cd js (by have hE:=pN ⟨ep,ld,isr,some ⟨g1,0,none⟩,iC,kn,some ⟨g2,0,none⟩,kC,reps,some ⟨g3,0,none⟩,rC,fw,bs⟩ l r _ (row3.rd0 (H.ent (i:=4) Z)) hr (ES H hF hg hc);rw[<-hld]at hE;exact hE) Z Z ?_
 rintro _ w4 ⟨rfl,hb⟩;replace H:=H.later hb;clear hb
 refine G (Yu Z)<|G (Xi Z Z)<|G (Xi Z Z)<|G (Wi Z)<|G (Wi Z)<|U<|W<|Zr<|G (Zf cS Z)<|G (Zd bT H 1 Z Z Z)<|G (Zf dp Z)<|G (Zd aj H 1 Z Z Z)<|G (cB (k:=l) bv Z (congrArg (Value.int .i64) hld) (by first|omega|(simp only[ab];omega)))<|G (Wp Z)<|U<|W<|Zr<|G (Yp Z)<|G (Yp Z)<|G (aI Z)<|G (Zf dU Z)<|G (bP aj row3 hr 3 Z (H.ent (i:=4) Z) Z)<|G (Yi Z)<|G (Yi Z)<|G (tv Z Z)<|G (zS Z Z)<|G (aI Z)<|G (Zf dU Z)<|kH H 4 ({r with high:=max r.high (min m (r.es.length:Nat))}) bI row3 hr 3 Z Z Z Z Z Z N fun w6 cur5 row5 H=> ?_
 have hs7:(reps.set l ({r with high:=max r.high (min m (r.es.length:Nat))}))[l]? =some ({r with high:=max r.high (min m (r.es.length:Nat))}):=am (cE hr).1
 refine U<|W<|Zr<|G (Zw aG H 1 Z Z Z)<|bo H 0 (#[J (ep),J (ld),.slice (Qd g1) isr.length iC,.slice (Qd g2) kn.length kC,.slice (Qd g3) reps.length rC,J (fw),J (bs)]) aK Z Z Z Z Z N N fun w8 H=>U<|Zt ?_
 exact eM (cs0:= #[J (ep),J (ld),.slice (Qd g1) isr.length iC,.slice (Qd g2) kn.length kC,.slice (Qd g3) reps.length rC,J (fw),J (bs)]) Z aG Z (H.ent (i:=0) Z) Z ⟨_,rfl,hm2▸row5,H.forget (.cons _ (.cons _ (ap _))) (fun _ h=>h)⟩
/-- the logs of replicas that a call has made -/
def qg (w:World) (F:List cr) (rs:List fb):Prop:= ∀ r∈rs,(bg r.es).length<=r.cap/\w.heap.size<=r.lo/\Bm r∈F
theorem qg.of {w:World} {F:List cr} {rs:List fb} (h1: ∀ r∈rs,(bg r.es).length<=r.cap) (h2: ∀ r∈rs,w.heap.size<=r.lo):qg w (F++sP rs) rs:=fun r hr=>⟨h1 r hr,h2 r hr,ch _ (bL hr)⟩
theorem qg.cons {w:World} {F:List cr} {f:cr} {rs:List fb} (h:qg w F rs):qg w (f::F) rs:=fun r hr=>⟨(h r hr).1,(h r hr).2.1,ak _ (h r hr).2.2⟩
theorem qg.set {w:World} {F:List cr} {rs:List fb} (h:qg w F rs) (i:Nat) {x:fb} (hx:(bg x.es).length<=x.cap/\w.heap.size<=x.lo/\Bm x∈F):qg w F (rs.set i x):=fun r hr=>by
 rcases bE hr with hr|rfl
 exact h r hr
 exact hx
theorem qg.same {w:World} {F:List cr} {rs:List fb} (h:qg w F rs) (i:Nat) {x x':fb} (hx:rs[i]? =some x) (h1:x'.A=x.A) (h2:x'.cap=x.cap) (h3:x'.es=x.es) (h4:x'.lo=x.lo) (h5:x'.hi=x.hi):qg w F (rs.set i x'):=h.set i (by
 have:=h x (ae hx)
 unfold Bm at this⊢
 rw[h1,h2,h3,h4,h5];exact this)
theorem qg.log {w w0 w':World} {L:List (Nat×Obj)} {F:List cr} {rs:List fb} (h:qg w F rs) (H:Hp w0 w' L F) {i:Nat} {x:fb} (hx:rs[i]? =some x) (hg:GL x.es x.s):x.log.ok w':=by
 have h1:=h x (ae hx)
 exact ES H h1.2.2 hg h1.1
theorem ek.mk_ {w w2:World} {L:List (Nat×Obj)} {F:List cr} {p:Pa} {g1 g2 g3:Nat} {u1 u2 u3:Array Value} (i:p.iA=some ⟨g1,0,none⟩) (k:p.kA=some ⟨g2,0,none⟩) (r:p.rA=some ⟨g3,0,none⟩) (ri:dT eR p.isr p.iC u1) (rk:dT bQ p.known p.kC u2) (rr:dT gO p.reps p.rC u3) (hl:qg w F p.reps)
  (few:p.isr.length<=1000000/\p.known.length<=1000000/\p.reps.length<=1000000) (H:Hp w w2 L F) (hL:(g1,Obj.cells u1 jc (0,0))∈L/\(g2,Obj.cells u2 cW (0,0))∈L/\(g3,Obj.cells u3 fK (0,0))∈L):ek w w2 p:=by
 have e1:=H.ents _ hL.1
 have e2:=H.ents _ hL.2.1
 have e3:=H.ents _ hL.2.2
 refine⟨⟨?_,?_,?_,fun r hr=> ?_,ri.le,rk.le,rr.le,fun r hr=>(hl r hr).1,few⟩,H.below⟩
 rw[i];exact(ri.rd e1.1).mono e1.2 (bY e1.1)
 rw[k];exact(rk.rd e2.1).mono e2.2 (bY e2.1)
 rw[r];exact(rr.rd e3.1).mono e3.2 (bY e3.1)
 obtain⟨h1,h2,h3⟩:=hl r hr
 obtain⟨f1,f2,-⟩:=H.facts (Bm r) h3
 exact Rd.mono f1 h2 f2
theorem vG {rs reps:List fb} (hma:rs.map fb.a=reps.map fb.a) {i:Nat} {x:fb} (hx:rs[i]? =some x):(reps.map fb.a)[i]? =some x.a:=by
 rw[<-hma,aL,hx];rfl
theorem wq {rs reps:List fb} {ep ld:Int} {isr:List Bool} {iA kA rA:Option Addr} {iC kC rC:Nat} {kn:List Int} {fw bs:Int} (hma:rs.map fb.a=reps.map fb.a) (hok:(Pa.a ⟨ep,ld,isr,iA,iC,kn,kA,kC,reps,rA,rC,fw,bs⟩).ok) {i:Nat} {x:fb} (hx:rs[i]? =some x):GL x.es x.s/\0<=x.high/\x.high<=x.es.length:=by
 have h1:=hok.reps x.a (ae (show(reps.map fb.a)[i]? =_ from vG hma hx))
 exact⟨h1.gl,h1.high0,h1.high1⟩
def nE (p:gx):gx:=match p.reps[p.leader.toNat]? with
 |some r=>if p.leader<0 then p else{p with reps:=p.reps.set p.leader.toNat {r with high:=max r.high (min (dr p.isr p.known 400) r.es.length)}}
 |none=>p
theorem xd {p:gx} {l:Nat} {r:RA} (hl:p.leader=l) (hr:p.reps[l]? =some r):nE p={p with reps:=p.reps.set l {r with high:=max r.high (min (dr p.isr p.known 400) r.es.length)}}:=by
 have h1:p.leader.toNat=l:=by omega
 unfold nE
 rw[h1,hr];dsimp only;rw[if_neg I]
def nQ (p:gx) (r:Nat):gx×Int:=match p.reps[r]? with
 |none=>(gz,5)
 |some x=>if x.up=false then(gz,7)else
  if p.leader=r then(nE {p with reps:=p.reps.set r {x with s:=x.es.length},known:=p.known.set r x.es.length},0)else({p with reps:=p.reps.set r {x with s:=x.es.length}},0)
def pM (p:gx) (r:Nat):gx×Int:=match p.reps[r]? with
 |none=>(gz,5)
 |some x=>if x.up=true then(gz,6)else({p with reps:=p.reps.set r {x with up:=true}},0)
theorem EC (l:mG) (w:World) (h:l.ok w):dd aa Ab [.agg l.c.toArray] w fun v w2=> ∃ A' c',v=.tuple #[.agg #[.slice A' (bg l.es).length c',J (fH l.es l.es.length:Nat)],J 0]/\(bg l.es).length<=c'/\Rd dy w.heap.size w2.heap.size A' (bg l.es) w2/\Below w.heap.size w w2:=
 (Ge l w h).mono fun _ _ ⟨A',c',h1,h2,h3⟩=>⟨A',c',h1,h2.2.1,h2.2.2,h3⟩
theorem Kl (p:Pa) (r:Nat) (w:World) (h:p.rd 0 w.heap.size w) (hok:p.a.ok) (hr:r<p.reps.length):dd aa Ff [p.v,J (r:Nat)] w fun v w2=> ∃ p':Pa,v=.tuple #[p'.v,J (pM p.a r).2]/\p'.a=(pM p.a r).1/\ek w w2 p':=by
 refine aD DK Z Z ?_
 obtain⟨hn1,hn2,hil,hkl,hf1,hf2,he0,he1,hl0,hl1,hb0,hb1,hsm⟩:=Pa.facts hok
 have hkn:=hok.known
 have hiC:=h.iC
 have hkC:=h.kC
 have hrC:=h.rC
 have hfew:=h.few
 have H:=Hp.startPa h
 obtain⟨ep,ld,isr,iA,iC,kn,kA,kC,reps,rA,rC,fw,bs⟩:=p
 simp only[Pa.a]at hkn
 dsimp only at H hn1 hn2 hil hkl hf1 hf2 he0 he1 hl0 hl1 hb0 hb1 hsm hiC hkC hrC hfew
 dsimp only at hr
 show CW _ _ _ _ (args [.agg #[J (ep),J (ld),.slice iA isr.length iC,.slice kA kn.length kC,.slice rA reps.length rC,J (fw),J (bs)],J (((r:Nat):Int))]) w
 refine W<|Zr<|fQ H Z Z fun w1 b2 H=>eH H bp Z fun w2 b4 H=>G (Wi Z)<|U<|W<|Zr<|G (Zw aG H 1 Z Z Z)<|G (Yi Z)<|cd kg (tu ⟨ep,ld,isr,iA,iC,kn,kA,kC,reps,rA,rC,fw,bs⟩ r _ (Hp.pa H 0 Z) hok hr) Z Z ?_
 rintro _ w3 ⟨⟨ep2,ld2,is2,iA2,c1,kn2,kA2,c2,rs,rA2,c3,fw2,bs2⟩,g1,g2,g3,u1,u2,u3,rfl,ha2,ho⟩
 simp only[Pa.a,gx.mk.injEq]at ha2
 obtain⟨e1,e2,e3,e4,hma,e6,e7⟩:=ha2
 obtain rfl:ep=ep2:=e1.symm
 obtain rfl:ld=ld2:=e2.symm
 obtain rfl:isr=is2:=e3.symm
 obtain rfl:kn=kn2:=e4.symm
 obtain rfl:fw=fw2:=e6.symm
 obtain rfl:bs=bs2:=e7.symm
 have hrl:rs.length=reps.length:=by have:=congrArg cu hma;simpa using this
 obtain⟨i1,i2,i3,row1,row2,row3,hcp,hlos,-,hjn⟩:=ho
 dsimp only at i1 i2 i3 row1 row2 row3 hcp hlos hjn
 subst i1;subst i2;subst i3
 have hlo0:=H.size
 replace H:=H.joinF hjn (by intro f hf;obtain⟨r,hr,rfl⟩:=bw.1 hf;exact hlos r hr)
 replace hlos: ∀ r∈rs,w.heap.size<=r.lo:=fun r hr=>aS hlo0 (hlos r hr)
 clear hjn
 have hlg:=qg.of (F:=[CX 0 w.heap.size ⟨ep,ld,isr,iA,iC,kn,kA,kC,reps,rA,rC,fw,bs⟩,dM eR 0 w.heap.size iA isr,dM bQ 0 w.heap.size kA kn,dM gO 0 w.heap.size rA reps]) hcp hlos
 have hok2: ∀ {i:Nat} {x:fb},rs[i]? =some x->GL x.es x.s/\0<=x.high/\x.high<=x.es.length:=fun hx=>wq hma hok hx
 obtain⟨x,hx⟩: ∃ x,rs[r]? =some x:=⟨_,ah I⟩
 have hxa:=vG hma hx
 refine G (Yu Z)<|G (Xa Z Z)<|G (Xi Z Z)<|bo H 4 (#[J (ep),J (ld),.slice (Qd g1) isr.length c1,.slice (Qd g2) kn.length c2,.slice (Qd g3) rs.length c3,J (fw),J (bs)]) aK Z Z Z Z Z N N fun w4 H=>G (Wi Z)<|U<|W<|W<|Zr<|G (Yi Z)<|G (bU Z Z Z)<|U<|ZF Z<|Zk<|W<|W<|Zr<|G (Zf cS Z)<|G (Zd bT H 4 Z Z Z)<|G (Yi Z)<|G (cB bv Z Z (by first|omega|(simp only[ab];omega)))<|G (Zf fo Z) ?_
 refine wr (bP dP row3 hx 0 Z (H.ent (i:=2) Z) Z) Z Z Z (fun h22=> ?_) (fun h22=> ?_)
 have hS:pM (Pa.a ⟨ep,ld,isr,iA,iC,kn,kA,kC,reps,rA,rC,fw,bs⟩) r=(gz,6):=by simp[pM,Pa.a,hxa,fb.a,h22]
 rw[hS]
 refine U<|ZT Z<|W<|Zr<|G (bi (cs:= #[J (0),J (0),.slice none 0 0,.slice none 0 0,.slice none 0 0,J (0),J (0)]) cK bp N)<|bo H 3 (#[J (0),J (0),.slice none 0 0,.slice none 0 0,.slice none 0 0,J (0),J (0)]) aK Z Z Z Z Z N N fun w5 H=>G (Wi Z)<|U<|Zt ?_
 exact bC (cs0:= #[J 0,J 0,.slice none 0 0,.slice none 0 0,.slice none 0 0,J 0,J 0]) (v1:=J 6) Z aG Z (H.ent (i:=3) Z) Z Z ⟨zj,rfl,rfl,ek.zero H.below⟩
 have hS:pM (Pa.a ⟨ep,ld,isr,iA,iC,kn,kA,kC,reps,rA,rC,fw,bs⟩) r=({Pa.a ⟨ep,ld,isr,iA,iC,kn,kA,kC,reps,rA,rC,fw,bs⟩with reps:=(reps.map fb.a).set r {x.a with up:=true}},0):=by simp[pM,Pa.a,hxa,fb.a,h22]
 rw[hS]
 refine U<|ZF Z<|Zk<|W<|Zr<|G (Zf cS Z)<|G (Zd bT H 4 Z Z Z)<|G (Yi Z)<|G (cB bv Z Z (by first|omega|(simp only[ab];omega)))<|G (Zf fo Z)<|kH H 2 ({x with up:=true}) iF row3 hx 0 Z Z Z Z Z Z N fun w7 cur6 row6 H=> ?_
 have hs8:(rs.set r ({x with up:=true}))[r]? =some ({x with up:=true}):=am (cE hx).1
 refine U<|W<|Zr<|G (Zw aG H 4 Z Z Z)<|bo H 3 (#[J (ep),J (ld),.slice (Qd g1) isr.length c1,.slice (Qd g2) kn.length c2,.slice (Qd g3) rs.length c3,J (fw),J (bs)]) aK Z Z Z Z Z N N fun w9 H=>G (Wi Z)<|U<|Zt ?_
 have hlg2:=hlg.same r (x':={x with up:=true}) hx Z Z Z Z Z
 exact bC (cs0:= #[J (ep),J (ld),.slice (Qd g1) isr.length c1,.slice (Qd g2) kn.length c2,.slice (Qd g3) rs.length c3,J (fw),J (bs)]) (v1:=J 0) Z aG Z (H.ent (i:=3) Z) Z Z ⟨_,by simp[Pa.c],by simp[Pa.a,cw,hma,fb.a],(ek.mk_ (p:=⟨ep,ld,isr,some ⟨g1,0,none⟩,c1,kn,some ⟨g2,0,none⟩,c2,rs.set r {x with up:=true},some ⟨g3,0,none⟩,c3,fw,bs⟩) Z Z Z row1 row2 row6 hlg2 (by dsimp only;try simp only[ab];omega) H ⟨by simp,by simp,by simp⟩)⟩
theorem Kk (p:Pa) (r:Nat) (w:World) (h:p.rd 0 w.heap.size w) (hok:p.a.ok) (hr:r<p.reps.length):dd aa Fe [p.v,J (r:Nat)] w fun v w2=> ∃ p':Pa,v=.tuple #[p'.v,J (nQ p.a r).2]/\p'.a=(nQ p.a r).1/\ek w w2 p':=by
 refine aD DJ Z Z ?_
 obtain⟨hn1,hn2,hil,hkl,hf1,hf2,he0,he1,hl0,hl1,hb0,hb1,hsm⟩:=Pa.facts hok
 have hkn:=hok.known
 have hiC:=h.iC
 have hkC:=h.kC
 have hrC:=h.rC
 have hfew:=h.few
 have H:=Hp.startPa h
 obtain⟨ep,ld,isr,iA,iC,kn,kA,kC,reps,rA,rC,fw,bs⟩:=p
 simp only[Pa.a]at hkn
 dsimp only at H hn1 hn2 hil hkl hf1 hf2 he0 he1 hl0 hl1 hb0 hb1 hsm hiC hkC hrC hfew
 dsimp only at hr
 show CW _ _ _ _ (args [.agg #[J (ep),J (ld),.slice iA isr.length iC,.slice kA kn.length kC,.slice rA reps.length rC,J (fw),J (bs)],J (((r:Nat):Int))]) w
 refine W<|Zr<|fQ H Z Z fun w1 b2 H=>eH H bp Z fun w2 b4 H=>G (Wi Z)<|U<|W<|Zr<|G (Zw aG H 1 Z Z Z)<|G (Yi Z)<|cd kg (tu ⟨ep,ld,isr,iA,iC,kn,kA,kC,reps,rA,rC,fw,bs⟩ r _ (Hp.pa H 0 Z) hok hr) Z Z ?_
 rintro _ w3 ⟨⟨ep2,ld2,is2,iA2,c1,kn2,kA2,c2,rs,rA2,c3,fw2,bs2⟩,g1,g2,g3,u1,u2,u3,rfl,ha2,ho⟩
 simp only[Pa.a,gx.mk.injEq]at ha2
 obtain⟨e1,e2,e3,e4,hma,e6,e7⟩:=ha2
 obtain rfl:ep=ep2:=e1.symm
 obtain rfl:ld=ld2:=e2.symm
 obtain rfl:isr=is2:=e3.symm
 obtain rfl:kn=kn2:=e4.symm
 obtain rfl:fw=fw2:=e6.symm
 obtain rfl:bs=bs2:=e7.symm
 have hrl:rs.length=reps.length:=by have:=congrArg cu hma;simpa using this
 obtain⟨i1,i2,i3,row1,row2,row3,hcp,hlos,-,hjn⟩:=ho
 dsimp only at i1 i2 i3 row1 row2 row3 hcp hlos hjn
 subst i1;subst i2;subst i3
 have hlo0:=H.size
 replace H:=H.joinF hjn (by intro f hf;obtain⟨r,hr,rfl⟩:=bw.1 hf;exact hlos r hr)
 replace hlos: ∀ r∈rs,w.heap.size<=r.lo:=fun r hr=>aS hlo0 (hlos r hr)
 clear hjn
 have hlg:=qg.of (F:=[CX 0 w.heap.size ⟨ep,ld,isr,iA,iC,kn,kA,kC,reps,rA,rC,fw,bs⟩,dM eR 0 w.heap.size iA isr,dM bQ 0 w.heap.size kA kn,dM gO 0 w.heap.size rA reps]) hcp hlos
 have hok2: ∀ {i:Nat} {x:fb},rs[i]? =some x->GL x.es x.s/\0<=x.high/\x.high<=x.es.length:=fun hx=>wq hma hok hx
 obtain⟨x,hx⟩: ∃ x,rs[r]? =some x:=⟨_,ah I⟩
 have hxa:=vG hma hx
 refine G (Yu Z)<|G (Xa Z Z)<|G (Xi Z Z)<|bo H 4 (#[J (ep),J (ld),.slice (Qd g1) isr.length c1,.slice (Qd g2) kn.length c2,.slice (Qd g3) rs.length c3,J (fw),J (bs)]) aK Z Z Z Z Z N N fun w4 H=>G (Wi Z)<|U<|W<|W<|Zr<|G (Yi Z)<|G (bU Z Z Z)<|U<|ZF Z<|Zk<|W<|W<|Zr<|G (Zf cS Z)<|G (Zd bT H 4 Z Z Z)<|G (Yi Z)<|G (cB bv Z Z (by first|omega|(simp only[ab];omega)))<|G (Zf fo Z) ?_
 refine wr (bP dP row3 hx 0 Z (H.ent (i:=2) Z) Z) Z Z Z (fun h22=> ?_) (fun h22=> ?_)
 refine G (dK Z)<|U<|ZF Z<|Zk<|W ?_
 have hlo:=H.size
 refine bz bX [0,1,2,3,4,5,6,7,8,9,10,11,12,13,14] [15] [9] [0,2,3,5,6,7,10,11,12,13,14] (sp [(9,Sp.nrow w4.heap.size dy (bg x.es) (fun A c=> .tuple #[.agg #[.slice A (bg x.es).length c,J (fH x.es x.es.length:Nat)],J 0]))]) N N N N Nq (cF _) ?_
 refine aw Z Z Z Z Z (fun w' hw'=>Zf cS Z)<|aw Z Z Z Z Z (fun w' hw'=>aT bT Z (aB ((H.later hw').ent (i:=4) Z) Z))<|aw Z Z Z Z Z (fun w' hw'=>Yi Z)<|aw Z Z Z Z Z (fun w' hw'=>Zf cS Z)<|aw Z Z Z Z Z (fun w' hw'=>aT bT Z (aB ((H.later hw').ent (i:=4) Z) Z))<|aw Z Z Z Z Z (fun w' hw'=>Yi Z)<|aw Z Z Z Z Z (fun w' hw'=>cB bv Z Z (by first|omega|(simp only[ab];omega)))<|aw Z Z Z Z Z (fun w' hw'=>Zf dw Z)<|aw Z Z Z Z Z (fun w' hw'=>tC 1 [.slice x.A ((bg x.es).length) x.cap,J (((fH x.es x.s:Nat):Int))] eP row3 hx Z Z ((H.later hw').ent (i:=2) Z) Z)<|Ha (gv:=(fun A c=> .tuple #[.agg #[.slice A (bg x.es).length c,J (fH x.es x.es.length:Nat)],J 0])) FJ Z Z Z Z Z (fun w' hw'=>hw'.size) (fun w' hw'=>EC (fb.log x) w' (hlg.log (H.later hw') hx (hok2 hx).1)) Z fun A35 c35 hc35=>aw Z Z Z Z Z (fun w' hw'=>Yu Z)<|aw Z Z Z Z Z (fun w' hw'=>Xa Z Z)<|aw Z Z Z Z Z (fun w' hw'=>Xi Z Z)<|aw Z Z Z Z Z (fun w' hw'=>cB bv Z Z (by first|omega|(simp only[ab];omega)))<|aw Z Z Z Z Z (fun w' hw'=>Zf dw Z)<|aR ?_
 intro w5 hw' hF
 obtain⟨hF,Aq,cq,eq,hcq,hrw35⟩:=hF;cases eq;clear hcq
 replace H:=H.learnRd hw' hrw35
 clear hw' hF
 refine kH H 2 ({x with A:=A35,cap:=c35,s:=x.es.length,lo:=w4.heap.size,hi:=w5.heap.size}) i6 row3 hx 1 Z Z Z Z Z Z N fun w7 cur6 row6 H=> ?_
 have hs8:(rs.set r ({x with A:=A35,cap:=c35,s:=x.es.length,lo:=w4.heap.size,hi:=w5.heap.size}))[r]? =some ({x with A:=A35,cap:=c35,s:=x.es.length,lo:=w4.heap.size,hi:=w5.heap.size}):=am (cE hx).1
 refine U<|W<|W ?_
 have hlg1:=(hlg.cons (f:=dM dy w4.heap.size w5.heap.size A35 (bg x.es))).set r (x:={x with A:=A35,cap:=c35,s:=x.es.length,lo:=w4.heap.size,hi:=w5.heap.size}) ⟨hc35,hlo,fA _⟩
 have hs9:(rs.set r {x with A:=A35,cap:=c35,s:=x.es.length,lo:=w4.heap.size,hi:=w5.heap.size})[r]? =some {x with A:=A35,cap:=c35,s:=x.es.length,lo:=w4.heap.size,hi:=w5.heap.size}:=am I
 have hF9:=(hlg1 _ (ae hs9)).2.2
 have hc9:=(hlg1 _ (ae hs9)).1
 refine Zr<|G (Yi Z)<|G (Zf dp Z)<|G (Zd aj H 4 Z Z Z) ?_
 refine cT (bl Z Z) Z Z Z (fun h43=> ?_) (fun h43=> ?_)
 refine U<|ZT Z<|W ?_
 obtain⟨kx,hkx⟩: ∃ kx,kn[r]? =some kx:=⟨_,ah I⟩
 refine bz bX [0,1,2,3,4,5,6,7,8,9] [10] [5] [0,2,4,6,7,8,9] (sp [(5,Sp.one (.tuple #[J ((x.es.length:Nat):Int),J ((x.es.length:Nat):Int)]))]) N N N N Nq (cF _) ?_
 refine aw Z Z Z Z Z (fun w' hw'=>Zf fW Z)<|aw Z Z Z Z Z (fun w' hw'=>aT cn Z (aB ((H.later hw').ent (i:=4) Z) Z))<|aw Z Z Z Z Z (fun w' hw'=>Yi Z)<|aw Z Z Z Z Z (fun w' hw'=>jw aG Z ((H.later hw').ent (i:=4) Z) Z)<|aw Z Z Z Z Z (fun w' hw'=>Yi Z)<|gL js Z Z Z Z Z (fun w' hw'=>(by have hA:=pN ⟨ep,ld,isr,some ⟨g1,0,none⟩,c1,kn,some ⟨g2,0,none⟩,c2,rs.set r {x with A:=A35,cap:=c35,s:=x.es.length,lo:=w4.heap.size,hi:=w5.heap.size},some ⟨g3,0,none⟩,c3,fw,bs⟩ r {x with A:=A35,cap:=c35,s:=x.es.length,lo:=w4.heap.size,hi:=w5.heap.size} w' (row6.rd0 ((H.later hw').ent (i:=2) Z)) hs9 (hlg1.log (H.later hw') hs9 (hok2 hx).1.all);simp only[Pa.v,Pa.c,ab]at hA;exact hA)) Z<|aw Z Z Z Z Z (fun w' hw'=>Yu Z)<|aw Z Z Z Z Z (fun w' hw'=>Xi Z Z)<|aw Z Z Z Z Z (fun w' hw'=>Xi Z Z)<|aw Z Z Z Z Z (fun w' hw'=>cB aZ Z Z (by first|omega|(simp only[ab];omega)))<|aR ?_
 intro w9 hw' hF
 replace H:=H.later hw';clear hw' hF
 refine kH H 1 ((((x.es.length:Nat):Int))) bI row2 hkx 0 Z Z Z Z Z Z N fun w11 cur10 row10 H=> ?_
 have hs12:(kn.set r ((((x.es.length:Nat):Int))))[r]? =some ((((x.es.length:Nat):Int))):=am (cE hkx).1
 refine U<|Zr<|G (Zw aG H 4 Z Z Z)<|cd lk ((by have hA:=y3 ep ld isr c1 (kn.set r ((x.es.length:Nat):Int)) c2 (rs.set r {x with A:=A35,cap:=c35,s:=x.es.length,lo:=w4.heap.size,hi:=w5.heap.size}) c3 fw bs r ({x with A:=A35,cap:=c35,s:=x.es.length,lo:=w4.heap.size,hi:=w5.heap.size}) H row1 row10 row6 (by simp only[ab];omega) (by simp only[ab,bH];omega) (by simp only[ab];omega) h43.symm hs9 hF9 (hok2 hx).1.all hc9;simp only[Pa.v,Pa.c,ab]at hA;exact hA)) Z Z ?_
 rintro _ w13 ⟨u9,rfl,row9,H⟩
 refine bo H 4 (#[J (ep),J (ld),.slice (Qd g1) isr.length c1,.slice (Qd g2) kn.length c2,.slice (Qd g3) rs.length c3,J (fw),J (bs)]) aK Z Z Z Z Z N N fun w14 H=>U<|W<|Zr<|G (Zw aG H 4 Z Z Z)<|bo H 3 (#[J (ep),J (ld),.slice (Qd g1) isr.length c1,.slice (Qd g2) kn.length c2,.slice (Qd g3) rs.length c3,J (fw),J (bs)]) aK Z Z Z Z Z N N fun w15 H=>G (Wi Z)<|U<|Zt ?_
 have hS:nQ (Pa.a ⟨ep,ld,isr,iA,iC,kn,kA,kC,reps,rA,rC,fw,bs⟩) r=(nE {Pa.a ⟨ep,ld,isr,iA,iC,kn,kA,kC,reps,rA,rC,fw,bs⟩with reps:=(reps.map fb.a).set r {x.a with s:=x.es.length},known:=kn.set r ((x.es.length:Nat):Int)},0):=by simp[nQ,Pa.a,hxa,fb.a,h22,<-h43]
 rw[hS]
 rw[xd (l:=r) (r:={x.a with s:=x.es.length}) h43.symm (am (by simp;omega))]
 have hlg2:=hlg1.same r (x':={x with A:=A35,cap:=c35,s:=x.es.length,lo:=w4.heap.size,hi:=w5.heap.size,high:=max x.high (min (dr isr (kn.set r ((x.es.length:Nat):Int)) 400) (x.es.length:Nat))}) hs9 Z Z Z Z Z
 exact bC (cs0:= #[J (ep),J (ld),.slice (Qd g1) isr.length c1,.slice (Qd g2) kn.length c2,.slice (Qd g3) rs.length c3,J (fw),J (bs)]) (v1:=J 0) Z aG Z (H.ent (i:=3) Z) Z Z ⟨_,by simp[Pa.c],by simp[Pa.a,cw,hma,fb.a],(ek.mk_ (p:=⟨ep,ld,isr,some ⟨g1,0,none⟩,c1,kn.set r ((x.es.length:Nat):Int),some ⟨g2,0,none⟩,c2,_,some ⟨g3,0,none⟩,c3,fw,bs⟩) Z Z Z row1 row10 row9 hlg2 (by dsimp only;try simp only[ab];omega) H ⟨by simp,by simp,by simp⟩)⟩
 refine U<|ZF Z<|Zk<|W<|Zr<|G (Zw aG H 4 Z Z Z)<|bo H 3 (#[J (ep),J (ld),.slice (Qd g1) isr.length c1,.slice (Qd g2) kn.length c2,.slice (Qd g3) rs.length c3,J (fw),J (bs)]) aK Z Z Z Z Z N N fun w16 H=>G (Wi Z)<|U<|Zt ?_
 have hS:nQ (Pa.a ⟨ep,ld,isr,iA,iC,kn,kA,kC,reps,rA,rC,fw,bs⟩) r=({Pa.a ⟨ep,ld,isr,iA,iC,kn,kA,kC,reps,rA,rC,fw,bs⟩with reps:=(reps.map fb.a).set r {x.a with s:=x.es.length}},0):=by simp[nQ,Pa.a,hxa,fb.a,h22,show¬ ld=(r:Int)from fun h=>h43 h.symm]
 rw[hS]
 exact bC (cs0:= #[J (ep),J (ld),.slice (Qd g1) isr.length c1,.slice (Qd g2) kn.length c2,.slice (Qd g3) rs.length c3,J (fw),J (bs)]) (v1:=J 0) Z aG Z (H.ent (i:=3) Z) Z Z ⟨_,by simp[Pa.c],by simp[Pa.a,cw,hma,fb.a],(ek.mk_ (p:=⟨ep,ld,isr,some ⟨g1,0,none⟩,c1,kn,some ⟨g2,0,none⟩,c2,rs.set r {x with A:=A35,cap:=c35,s:=x.es.length,lo:=w4.heap.size,hi:=w5.heap.size},some ⟨g3,0,none⟩,c3,fw,bs⟩) Z Z Z row1 row2 row6 hlg1 (by dsimp only;try simp only[ab];omega) H ⟨by simp,by simp,by simp⟩)⟩
 refine G (dK Z)<|U<|ZT Z<|W<|Zr<|G (bi (cs:= #[J (0),J (0),.slice none 0 0,.slice none 0 0,.slice none 0 0,J (0),J (0)]) cK bp N)<|bo H 3 (#[J (0),J (0),.slice none 0 0,.slice none 0 0,.slice none 0 0,J (0),J (0)]) aK Z Z Z Z Z N N fun w17 H=>G (Wi Z)<|U<|Zt ?_
 have hS:nQ (Pa.a ⟨ep,ld,isr,iA,iC,kn,kA,kC,reps,rA,rC,fw,bs⟩) r=(gz,7):=by simp[nQ,Pa.a,hxa,fb.a,h22]
 rw[hS]
 exact bC (cs0:= #[J 0,J 0,.slice none 0 0,.slice none 0 0,.slice none 0 0,J 0,J 0]) (v1:=J 7) Z aG Z (H.ent (i:=3) Z) Z Z ⟨zj,rfl,rfl,ek.zero H.below⟩
end Go.Proofs.YtclibalpdhhhfaaGreat
