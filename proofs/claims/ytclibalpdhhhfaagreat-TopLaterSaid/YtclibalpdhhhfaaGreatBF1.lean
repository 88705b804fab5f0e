/- Part 1 of the proofs over this seat: what its theorems say holds for every input that they name. -/
import Derived.Test.YtclibalpdhhhfaaGreatBE0
namespace Go.Proofs.YtclibalpdhhhfaaGreat
open Go Go.Eng Go.RowKit
open Go.Eng renaming nk→U, AV→W, JB→Zr, Nj→Zk, PC→Zt, O0→Zb, Pj→Zx, PK→Yi, PL→Yb, PI→Ys, PJ→Yp, PH→Yt, PG→Yu, PZ→Wi, P0→Wb, PX→Ws, PY→Wp, PW→Wt, PO→Zf, PR→Xi, PU→Xa, PT→Xb, PQ→Xs, Ps→Kt, Pt→N, pL→ZT, oD→ZF
open Go.Proofs.Tryz renaming prog→aa
open _root_.List renaming length_set→ab,mem_of_getElem?→ae,getElem?_eq_getElem→ah,mem_cons_of_mem→ak,getElem?_set_self→am,mem_singleton→aq,mem_append→ar,mem_cons→ax,length_append→ay,mem_cons_self→az,getElem?_eq_some_iff→aA,append_assoc→aE,length_take→aH,getElem?_map→aL,sublist_cons_self→aW,mem_iff_getElem?→aX,append_nil→aY,findIdx?_eq_some_iff_getElem→bg,map_append→bk,mem_map→bw,length_map→bA,mem_or_eq_of_mem_set→bF,length_replicate→bH,take_length→bJ,mem_map_of_mem→bL,mem_nil_iff→bO,length_singleton→bP,eq_nil_of_length_eq_zero→bT,getElem?_append_left→bV,getD_eq_getElem?_getD→bZ,mem_append_right→ci,length→cu,getElem?_append_right→cv,map_set→cz,length_cons→cE,findIdx?_eq_none_iff→dn,take_take→dp,length_drop→dH,getElem?_drop→dL,mem_singleton_self→dX,all_eq_true→ed,drop_of_length_le→eh,map_cons→eI,ext_getElem?→eJ,drop_length→fp,getElem?_take_of_lt→fA,take_of_length_le→f8,flatMap_cons→gb,take_append_drop→gI,take_append_of_le_length→ia,mem_append_left→ib,take_left→i7,drop_drop→jY,nodup_cons→kO,nil_append→kP,getElem?_set→lw,map_nil→mn,drop_eq_getElem_cons→mS,take_succ_cons→mT,flatMap_append→mU,getElem?_cons_succ→oK,nodup_append→pe,find?_cons_of_neg→pg,take_subset→qp,perm_middle→qq,cons_append→qr,perm_append_singleton→tf,nil_sublist→vG,length_nil→xw,mem_of_mem_take→yV,set_cons_zero→Bu,range→Bv,find?_eq_none→Bx,take_succ_eq_append_getElem→C8
open _root_.List.Perm renaming swap→al
open _root_.Nat renaming le_refl→ao,le_trans→aT,min_eq_left→bu,zero_le→bG,zero_add→cI,add_mul→cQ,mul_le_mul_right→dh,le_of_ble_eq_true→fe,mod_eq_of_lt→gQ,lt_or_ge→iH,mod_lt→jA,add_assoc→kX,sub_self→mj,le_of_lt→ml,add_sub_cancel_left→oJ,two_pow_add_eq_or_of_lt→sd,add_zero→se,add_comm→sf,div_lt_of_lt_mul→yT,mul_comm→C7
open _root_.List.Sublist renaming refl→ap
open _root_.Bool renaming and_eq_true→aR,true_and→gU
open _root_.Option.some renaming inj→bj
open _root_.Array renaming length_toList→cj
open _root_.List.Mem renaming head→fC,tail→qC
open _root_.Int renaming le_refl→iV,toNat_natCast→uo
set_option maxHeartbeats 4000000
set_option maxRecDepth 20000
set_option linter.unusedSimpArgs false
set_option linter.unusedVariables false
set_option linter.unusedSectionVars false
section
open Go Go.Eng
theorem bX:aa.follows .mixedOrders=true:=by kernel_rfl
abbrev cY:TypeId:=3
theorem aj:py aa 3=true:=by kernel_rfl
theorem bI:(aa.info? 3).map (·.size)=some 1:=by kernel_rfl
theorem ip:oT aa 3 .i64=true:=by kernel_rfl
theorem wu:(aa.info? 3).bind (·.zero)=some (.int .i64 0):=by kernel_rfl
abbrev ji:TypeId:=4
theorem dQ:py aa 4=true:=by kernel_rfl
theorem iI:(aa.info? 4).map (·.size)=some 1:=by kernel_rfl
theorem wy:aa.underlying 4=some .bool:=by kernel_rfl
abbrev mP:TypeId:=5
theorem mt:py aa 5=true:=by kernel_rfl
theorem ik:oT aa 5 .u8=true:=by kernel_rfl
theorem zy:(aa.info? 5).bind (·.zero)=some (.int .u8 0):=by kernel_rfl
abbrev kE:TypeId:=9
theorem aZ:py aa 9=true:=by kernel_rfl
theorem zJ:(aa.info? 9).map (·.size)=some 1:=by kernel_rfl
theorem jo:wA aa 9=true:=by kernel_rfl
theorem wr:(aa.info? 9).bind (·.zero)=some (.string ⟨#[]⟩):=by kernel_rfl
theorem CK:oT aa 21 .i32=true:=by kernel_rfl
theorem Mu:dY aa 22 76 4=true:=by kernel_rfl
theorem K4:pz aa 22=true:=by kernel_rfl
abbrev jz:TypeId:=24
theorem nN:lu aa 24 4=true:=by kernel_rfl
theorem Cx:(aa.info? 24).map (·.size)=some 4:=by kernel_rfl
theorem Ki:gV aa 24 [(0,1),(1,1),(2,1),(3,1)]=true:=by kernel_rfl
theorem qd:ce aa 24 0 0=true:=by kernel_rfl
theorem lK:ce aa 24 1 1=true:=by kernel_rfl
theorem Hk:ce aa 24 2 2=true:=by kernel_rfl
theorem AP:ce aa 24 3 3=true:=by kernel_rfl
theorem Dd:(aa.info? 24).bind (·.zero)=some (.agg #[.int .i64 0,.int .i64 0,.int .i64 0,.int .i64 0]):=by kernel_rfl
theorem uw:dY aa 26 72 7=true:=by kernel_rfl
theorem wI:pz aa 26=true:=by kernel_rfl
theorem uQ:Er aa 26 72 7 72=true:=by kernel_rfl
theorem lF:dY aa 28 63 3=true:=by kernel_rfl
theorem yD:pz aa 28=true:=by kernel_rfl
theorem HB:Er aa 28 63 3 40=true:=by kernel_rfl
theorem ei:py aa 29=true:=by kernel_rfl
theorem ux:(aa.info? 29).map (·.size)=some 1:=by kernel_rfl
theorem ig:dY aa 29 47 7=true:=by kernel_rfl
theorem lS:pz aa 29=true:=by kernel_rfl
theorem xt:Er aa 29 47 7 104=true:=by kernel_rfl
theorem dM:py aa 30=true:=by kernel_rfl
theorem zM:(aa.info? 30).map (·.size)=some 1:=by kernel_rfl
theorem gE:dY aa 30 89 7=true:=by kernel_rfl
theorem lg:pz aa 30=true:=by kernel_rfl
theorem Ik:Er aa 30 89 7 80=true:=by kernel_rfl
abbrev bd:TypeId:=32
theorem av:lu aa 32 4=true:=by kernel_rfl
theorem aF:(aa.info? 32).map (·.size)=some 4:=by kernel_rfl
theorem fv:gV aa 32 [(0,1),(1,1),(2,1),(3,1)]=true:=by kernel_rfl
theorem km:ce aa 32 0 0=true:=by kernel_rfl
theorem kk:ce aa 32 1 1=true:=by kernel_rfl
theorem v7:ce aa 32 2 2=true:=by kernel_rfl
theorem cP:ce aa 32 3 3=true:=by kernel_rfl
theorem cK:(aa.info? 32).bind (·.zero)=some (.agg #[.int .i64 0,.int .i64 0,.int .i64 0,.slice none 0 0]):=by kernel_rfl
theorem dr:py aa 33=true:=by kernel_rfl
theorem tF:(aa.info? 33).map (·.size)=some 1:=by kernel_rfl
theorem ey:dY aa 33 94 3=true:=by kernel_rfl
theorem gi:pz aa 33=true:=by kernel_rfl
theorem Bi:Er aa 33 94 3 48=true:=by kernel_rfl
abbrev yo:TypeId:=34
theorem eu:py aa 34=true:=by kernel_rfl
theorem n7:(aa.info? 34).map (·.size)=some 1:=by kernel_rfl
theorem cW:dY aa 34 99 2=true:=by kernel_rfl
theorem g9:pz aa 34=true:=by kernel_rfl
theorem wg:Er aa 34 99 2 16=true:=by kernel_rfl
abbrev cM:TypeId:=36
theorem aQ:lu aa 36 5=true:=by kernel_rfl
theorem bC:(aa.info? 36).map (·.size)=some 5:=by kernel_rfl
theorem j0:gV aa 36 [(0,1),(1,1),(2,1),(3,1),(4,1)]=true:=by kernel_rfl
theorem jw:ce aa 36 0 0=true:=by kernel_rfl
theorem v6:ce aa 36 1 1=true:=by kernel_rfl
theorem kj:ce aa 36 2 2=true:=by kernel_rfl
theorem dK:ce aa 36 3 3=true:=by kernel_rfl
theorem dT:ce aa 36 4 4=true:=by kernel_rfl
theorem d4:(aa.info? 36).bind (·.zero)=some (.agg #[.int .i64 0,.int .i64 0,.int .i64 0,.slice none 0 0,.slice none 0 0]):=by kernel_rfl
theorem j7:py aa 37=true:=by kernel_rfl
theorem ER:(aa.info? 37).map (·.size)=some 1:=by kernel_rfl
theorem ss:dY aa 37 140 6=true:=by kernel_rfl
theorem tN:pz aa 37=true:=by kernel_rfl
theorem HA:Er aa 37 140 6 88=true:=by kernel_rfl
abbrev jW:TypeId:=39
theorem nM:lu aa 39 11=true:=by kernel_rfl
theorem jd:(aa.info? 39).map (·.size)=some 11:=by kernel_rfl
theorem Kh:gV aa 39 [(0,1),(1,4),(5,5),(10,1)]=true:=by kernel_rfl
theorem dJ:ce aa 39 0 0=true:=by kernel_rfl
theorem eA:ce aa 39 1 1=true:=by kernel_rfl
theorem jv:ce aa 39 2 5=true:=by kernel_rfl
theorem ki:ce aa 39 3 10=true:=by kernel_rfl
theorem lx:(aa.info? 39).bind (·.zero)=some (.agg #[.slice none 0 0,.int .i64 0,.int .i64 0,.int .i64 0,.slice none 0 0,.int .i64 0,.int .i64 0,.int .i64 0,.slice none 0 0,.slice none 0 0,.slice none 0 0]):=by kernel_rfl
theorem gF:py aa 43=true:=by kernel_rfl
theorem IG:(aa.info? 43).map (·.size)=some 1:=by kernel_rfl
theorem d7:dY aa 43 4 1=true:=by kernel_rfl
theorem xR:pz aa 43=true:=by kernel_rfl
theorem LY:Er aa 43 4 1 1=true:=by kernel_rfl
abbrev yn:TypeId:=44
theorem cn:py aa 44=true:=by kernel_rfl
theorem jC:(aa.info? 44).map (·.size)=some 1:=by kernel_rfl
theorem ba:dY aa 44 3 1=true:=by kernel_rfl
theorem eF:pz aa 44=true:=by kernel_rfl
theorem zq:Er aa 44 3 1 8=true:=by kernel_rfl
theorem bU:py aa 45=true:=by kernel_rfl
theorem Dq:(aa.info? 45).map (·.size)=some 1:=by kernel_rfl
theorem bv:dY aa 45 56 4=true:=by kernel_rfl
theorem gY:pz aa 45=true:=by kernel_rfl
theorem F8:Er aa 45 56 4 48=true:=by kernel_rfl
abbrev bE:TypeId:=47
theorem aG:lu aa 47 7=true:=by kernel_rfl
theorem aK:(aa.info? 47).map (·.size)=some 7:=by kernel_rfl
theorem cL:gV aa 47 [(0,1),(1,1),(2,1),(3,1),(4,1),(5,1),(6,1)]=true:=by kernel_rfl
theorem pP:ce aa 47 0 0=true:=by kernel_rfl
theorem dq:ce aa 47 1 1=true:=by kernel_rfl
theorem f6:ce aa 47 2 2=true:=by kernel_rfl
theorem f4:ce aa 47 3 3=true:=by kernel_rfl
theorem cT:ce aa 47 4 4=true:=by kernel_rfl
theorem yc:ce aa 47 5 5=true:=by kernel_rfl
theorem uL:ce aa 47 6 6=true:=by kernel_rfl
theorem bp:(aa.info? 47).bind (·.zero)=some (.agg #[.int .i64 0,.int .i64 0,.slice none 0 0,.slice none 0 0,.slice none 0 0,.int .i64 0,.int .i64 0]):=by kernel_rfl
theorem ng:py aa 48=true:=by kernel_rfl
theorem dS:dY aa 48 59 7=true:=by kernel_rfl
theorem ez:pz aa 48=true:=by kernel_rfl
theorem JM:Er aa 48 59 7 64=true:=by kernel_rfl
theorem CE:py aa 49=true:=by kernel_rfl
theorem d5:py aa 52=true:=by kernel_rfl
theorem Cy:(aa.info? 52).map (·.size)=some 1:=by kernel_rfl
theorem d6:dY aa 52 5 1=true:=by kernel_rfl
theorem eL:pz aa 52=true:=by kernel_rfl
theorem oG:Er aa 52 5 1 1=true:=by kernel_rfl
theorem De:(aa.info? 52).bind (·.zero)=some (.slice none 0 0):=by kernel_rfl
abbrev Bo:TypeId:=54
theorem eR:lu aa 54 2=true:=by kernel_rfl
theorem i9:(aa.info? 54).map (·.size)=some 2:=by kernel_rfl
theorem tE:gV aa 54 [(0,1),(1,1)]=true:=by kernel_rfl
theorem gu:ce aa 54 0 0=true:=by kernel_rfl
theorem lk:ce aa 54 1 1=true:=by kernel_rfl
theorem pQ:(aa.info? 54).bind (·.zero)=some (.agg #[.slice none 0 0,.int .i64 0]):=by kernel_rfl
abbrev fM:TypeId:=56
theorem oH:lu aa 56 4=true:=by kernel_rfl
theorem lO:(aa.info? 56).map (·.size)=some 4:=by kernel_rfl
theorem Gv:gV aa 56 [(0,1),(1,2),(3,1)]=true:=by kernel_rfl
theorem fq:ce aa 56 0 0=true:=by kernel_rfl
theorem dx:ce aa 56 1 1=true:=by kernel_rfl
theorem dV:ce aa 56 2 3=true:=by kernel_rfl
theorem pO:(aa.info? 56).bind (·.zero)=some (.agg #[.bool false,.slice none 0 0,.int .i64 0,.int .i64 0]):=by kernel_rfl
abbrev du:TypeId:=59
theorem dG:lu aa 59 7=true:=by kernel_rfl
theorem eS:(aa.info? 59).map (·.size)=some 7:=by kernel_rfl
theorem n6:gV aa 59 [(0,1),(1,1),(2,1),(3,1),(4,1),(5,1),(6,1)]=true:=by kernel_rfl
theorem nE:ce aa 59 0 0=true:=by kernel_rfl
theorem fg:ce aa 59 1 1=true:=by kernel_rfl
theorem eB:ce aa 59 2 2=true:=by kernel_rfl
theorem fa:ce aa 59 3 3=true:=by kernel_rfl
theorem eZ:ce aa 59 4 4=true:=by kernel_rfl
theorem iZ:ce aa 59 5 5=true:=by kernel_rfl
theorem qe:ce aa 59 6 6=true:=by kernel_rfl
theorem gd:(aa.info? 59).bind (·.zero)=some (.agg #[.int .i64 0,.int .i64 0,.int .i64 0,.int .i64 0,.int .i64 0,.bool false,.string ⟨#[]⟩]):=by kernel_rfl
abbrev l6:TypeId:=61
theorem g8:py aa 61=true:=by kernel_rfl
theorem EQ:(aa.info? 61).map (·.size)=some 1:=by kernel_rfl
theorem fX:dY aa 61 9 1=true:=by kernel_rfl
theorem iP:pz aa 61=true:=by kernel_rfl
theorem wd:Er aa 61 9 1 16=true:=by kernel_rfl
abbrev ec:TypeId:=63
theorem aN:lu aa 63 3=true:=by kernel_rfl
theorem aP:(aa.info? 63).map (·.size)=some 3:=by kernel_rfl
theorem iE:gV aa 63 [(0,1),(1,1),(2,1)]=true:=by kernel_rfl
theorem yN:ce aa 63 0 0=true:=by kernel_rfl
theorem yM:ce aa 63 1 1=true:=by kernel_rfl
theorem qL:ce aa 63 2 2=true:=by kernel_rfl
theorem dm:(aa.info? 63).bind (·.zero)=some (.agg #[.int .i64 0,.int .i64 0,.slice none 0 0]):=by kernel_rfl
abbrev fP:TypeId:=72
theorem dO:lu aa 72 7=true:=by kernel_rfl
theorem iJ:(aa.info? 72).map (·.size)=some 7:=by kernel_rfl
theorem jp:gV aa 72 [(0,1),(1,1),(2,1),(3,1),(4,1),(5,1),(6,1)]=true:=by kernel_rfl
theorem mI:ce aa 72 0 0=true:=by kernel_rfl
theorem fb:ce aa 72 1 1=true:=by kernel_rfl
theorem dR:ce aa 72 2 2=true:=by kernel_rfl
theorem eP:ce aa 72 3 3=true:=by kernel_rfl
theorem FR:ce aa 72 4 4=true:=by kernel_rfl
theorem AQ:ce aa 72 5 5=true:=by kernel_rfl
theorem jE:ce aa 72 6 6=true:=by kernel_rfl
theorem jB:(aa.info? 72).bind (·.zero)=some (.agg #[.int .i64 0,.string ⟨#[]⟩,.int .i64 0,.int .i64 0,.int .i64 0,.string ⟨#[]⟩,.int .i64 0]):=by kernel_rfl
abbrev vE:TypeId:=76
theorem Nw:lu aa 76 4=true:=by kernel_rfl
theorem Mw:(aa.info? 76).map (·.size)=some 4:=by kernel_rfl
theorem Lz:ce aa 76 0 0=true:=by kernel_rfl
theorem mH:ce aa 76 1 1=true:=by kernel_rfl
theorem Ly:ce aa 76 2 2=true:=by kernel_rfl
theorem lj:ce aa 76 3 3=true:=by kernel_rfl
theorem OL:(aa.info? 76).bind (·.zero)=some (.agg #[.int .i64 0,.int .i64 0,.int .i64 0,.int .i64 0]):=by kernel_rfl
abbrev dD:TypeId:=89
theorem zr:lu aa 89 7=true:=by kernel_rfl
theorem HK:(aa.info? 89).map (·.size)=some 7:=by kernel_rfl
theorem NW:gV aa 89 [(0,1),(1,1),(2,1),(3,1),(4,1),(5,1),(6,1)]=true:=by kernel_rfl
theorem ov:ce aa 89 0 0=true:=by kernel_rfl
theorem li:ce aa 89 1 1=true:=by kernel_rfl
theorem gp:ce aa 89 2 2=true:=by kernel_rfl
theorem cR:ce aa 89 3 3=true:=by kernel_rfl
theorem dw:ce aa 89 4 4=true:=by kernel_rfl
theorem t7:ce aa 89 5 5=true:=by kernel_rfl
theorem jh:ce aa 89 6 6=true:=by kernel_rfl
theorem HE:(aa.info? 89).bind (·.zero)=some (.agg #[.string ⟨#[]⟩,.int .i64 0,.int .i64 0,.int .i64 0,.slice none 0 0,.int .i64 0,.int .i64 0]):=by kernel_rfl
abbrev de:TypeId:=94
theorem nO:lu aa 94 3=true:=by kernel_rfl
theorem su:(aa.info? 94).map (·.size)=some 3:=by kernel_rfl
theorem IF:gV aa 94 [(0,1),(1,1),(2,1)]=true:=by kernel_rfl
theorem oz:ce aa 94 0 0=true:=by kernel_rfl
theorem qK:ce aa 94 1 1=true:=by kernel_rfl
theorem iS:ce aa 94 2 2=true:=by kernel_rfl
theorem tA:(aa.info? 94).bind (·.zero)=some (.agg #[.string ⟨#[]⟩,.int .i64 0,.slice none 0 0]):=by kernel_rfl
abbrev d9:TypeId:=99
theorem Bl:lu aa 99 2=true:=by kernel_rfl
theorem zL:(aa.info? 99).map (·.size)=some 2:=by kernel_rfl
theorem uv:gV aa 99 [(0,1),(1,1)]=true:=by kernel_rfl
theorem jk:ce aa 99 0 0=true:=by kernel_rfl
theorem oy:ce aa 99 1 1=true:=by kernel_rfl
theorem k9:(aa.info? 99).bind (·.zero)=some (.agg #[.int .i64 0,.int .i64 0]):=by kernel_rfl
abbrev bK:TypeId:=104
theorem IE:gV aa 104 [(0,11)]=true:=by kernel_rfl
theorem aV:ce aa 104 0 0=true:=by kernel_rfl
theorem J0:(aa.info? 104).bind (·.zero)=some (.agg #[.slice none 0 0,.int .i64 0,.int .i64 0,.int .i64 0,.slice none 0 0,.int .i64 0,.int .i64 0,.int .i64 0,.slice none 0 0,.slice none 0 0,.slice none 0 0]):=by kernel_rfl
theorem Fs:oT aa 108 .u64=true:=by kernel_rfl
abbrev um:TypeId:=127
theorem ID:gV aa 127 [(0,1),(1,1)]=true:=by kernel_rfl
theorem lY:ce aa 127 0 0=true:=by kernel_rfl
theorem kh:ce aa 127 1 1=true:=by kernel_rfl
theorem JZ:(aa.info? 127).bind (·.zero)=some (.agg #[.slice none 0 0,.bool false]):=by kernel_rfl
theorem iM:GG aa 137=true:=by kernel_rfl
abbrev fx:TypeId:=140
theorem zK:(aa.info? 140).map (·.size)=some 6:=by kernel_rfl
theorem xI:gV aa 140 [(0,1),(1,1),(2,1),(3,1),(4,1),(5,1)]=true:=by kernel_rfl
theorem ox:ce aa 140 0 0=true:=by kernel_rfl
theorem FQ:ce aa 140 1 1=true:=by kernel_rfl
theorem t8:ce aa 140 2 2=true:=by kernel_rfl
theorem ow:ce aa 140 3 3=true:=by kernel_rfl
theorem yL:ce aa 140 4 4=true:=by kernel_rfl
theorem lZ:ce aa 140 5 5=true:=by kernel_rfl
theorem wv:(aa.info? 140).bind (·.zero)=some (.agg #[.string ⟨#[]⟩,.int .i64 0,.int .i64 0,.bool false,.slice none 0 0,.slice none 0 0]):=by kernel_rfl
abbrev Gc:TypeId:=187
theorem nR:GG aa 187=true:=by kernel_rfl
theorem qD:(aa.info? 187).bind (·.zero)=some (.pointer none):=by kernel_rfl
abbrev lN:TypeId:=191
theorem yt:gV aa 191 [(0,1),(1,1),(2,1),(3,1)]=true:=by kernel_rfl
theorem jJ:ce aa 191 0 0=true:=by kernel_rfl
theorem fk:ce aa 191 1 1=true:=by kernel_rfl
theorem dZ:ce aa 191 2 2=true:=by kernel_rfl
theorem hM:ce aa 191 3 3=true:=by kernel_rfl
theorem zx:(aa.info? 191).bind (·.zero)=some (.agg #[.int .i64 0,.int .i64 0,.int .i64 0,.int .i64 0]):=by kernel_rfl
theorem wC:dY aa 199 44 1=true:=by kernel_rfl
theorem Ja:pz aa 199=true:=by kernel_rfl
theorem rK:dY aa 209 52 1=true:=by kernel_rfl
theorem Af:pz aa 209=true:=by kernel_rfl
abbrev sF:FuncId:=5
theorem rU:aa.funcs[(5:Nat)]? =some Tryz.f5:=Tryz.func5
abbrev oe:FuncId:=9
theorem tq:aa.funcs[(9:Nat)]? =some Tryz.f9:=Tryz.func9
theorem tu:bf aa 9=true:=by kernel_rfl
abbrev uX:FuncId:=10
theorem tY:aa.funcs[(10:Nat)]? =some Tryz.f10:=Tryz.func10
theorem ks:bf aa 10=true:=by kernel_rfl
abbrev wO:FuncId:=11
theorem vY:aa.funcs[(11:Nat)]? =some Tryz.f11:=Tryz.func11
theorem io:bf aa 11=true:=by kernel_rfl
abbrev vW:FuncId:=12
theorem uZ:aa.funcs[(12:Nat)]? =some Tryz.f12:=Tryz.func12
theorem kV:bf aa 12=true:=by kernel_rfl
abbrev vo:FuncId:=13
theorem AI:aa.funcs[(13:Nat)]? =some Tryz.f13:=Tryz.func13
theorem gx:bf aa 13=true:=by kernel_rfl
abbrev oh:FuncId:=15
theorem nw:aa.funcs[(15:Nat)]? =some Tryz.f15:=Tryz.func15
theorem nH:bf aa 15=true:=by kernel_rfl
abbrev DK:FuncId:=17
theorem BV:aa.funcs[(17:Nat)]? =some Tryz.f17:=Tryz.func17
theorem lr:bf aa 17=true:=by kernel_rfl
abbrev BN:FuncId:=18
theorem AK:aa.funcs[(18:Nat)]? =some Tryz.f18:=Tryz.func18
theorem kw:bf aa 18=true:=by kernel_rfl
abbrev BM:FuncId:=19
theorem AJ:aa.funcs[(19:Nat)]? =some Tryz.f19:=Tryz.func19
theorem ug:bf aa 19=true:=by kernel_rfl
abbrev tk:FuncId:=20
theorem sK:aa.funcs[(20:Nat)]? =some Tryz.f20:=Tryz.func20
theorem aJ:bf aa 20=true:=by kernel_rfl
abbrev uW:FuncId:=21
theorem tX:aa.funcs[(21:Nat)]? =some Tryz.f21:=Tryz.func21
theorem uf:bf aa 21=true:=by kernel_rfl
abbrev uV:FuncId:=22
theorem tW:aa.funcs[(22:Nat)]? =some Tryz.f22:=Tryz.func22
theorem ue:bf aa 22=true:=by kernel_rfl
abbrev DQ:FuncId:=23
theorem B3:aa.funcs[(23:Nat)]? =some Tryz.f23:=Tryz.func23
theorem Ce:bf aa 23=true:=by kernel_rfl
abbrev rQ:FuncId:=24
theorem rq:aa.funcs[(24:Nat)]? =some Tryz.f24:=Tryz.func24
theorem rD:bf aa 24=true:=by kernel_rfl
abbrev yI:FuncId:=25
theorem DW:aa.funcs[(25:Nat)]? =some Tryz.f25:=Tryz.func25
theorem mK:bf aa 25=true:=by kernel_rfl
abbrev BJ:FuncId:=26
theorem AF:aa.funcs[(26:Nat)]? =some Tryz.f26:=Tryz.func26
theorem kr:bf aa 26=true:=by kernel_rfl
abbrev oV:FuncId:=27
theorem ou:aa.funcs[(27:Nat)]? =some Tryz.f27:=Tryz.func27
theorem jm:bf aa 27=true:=by kernel_rfl
abbrev Fw:FuncId:=28
theorem DX:aa.funcs[(28:Nat)]? =some Tryz.f28:=Tryz.func28
theorem jy:bf aa 28=true:=by kernel_rfl
abbrev Ay:FuncId:=29
theorem y4:aa.funcs[(29:Nat)]? =some Tryz.f29:=Tryz.func29
theorem ta:bf aa 29=true:=by kernel_rfl
abbrev FB:FuncId:=30
theorem D3:aa.funcs[(30:Nat)]? =some Tryz.f30:=Tryz.func30
theorem Ej:bf aa 30=true:=by kernel_rfl
abbrev nt:FuncId:=31
theorem mY:aa.funcs[(31:Nat)]? =some Tryz.f31:=Tryz.func31
theorem m0:bf aa 31=true:=by kernel_rfl
abbrev rS:FuncId:=32
theorem xb:aa.funcs[(32:Nat)]? =some Tryz.f32:=Tryz.func32
theorem xm:bf aa 32=true:=by kernel_rfl
abbrev DL:FuncId:=33
theorem BW:aa.funcs[(33:Nat)]? =some Tryz.f33:=Tryz.func33
theorem vz:bf aa 33=true:=by kernel_rfl
abbrev kT:FuncId:=34
theorem kI:aa.funcs[(34:Nat)]? =some Tryz.f34:=Tryz.func34
theorem kK:bf aa 34=true:=by kernel_rfl
abbrev rR:FuncId:=35
theorem xa:aa.funcs[(35:Nat)]? =some Tryz.f35:=Tryz.func35
theorem xk:bf aa 35=true:=by kernel_rfl
abbrev AA:FuncId:=36
theorem y6:aa.funcs[(36:Nat)]? =some Tryz.f36:=Tryz.func36
theorem ze:bf aa 36=true:=by kernel_rfl
abbrev uY:FuncId:=37
theorem t5:aa.funcs[(37:Nat)]? =some Tryz.f37:=Tryz.func37
theorem uh:bf aa 37=true:=by kernel_rfl
abbrev jj:FuncId:=38
theorem ny:aa.funcs[(38:Nat)]? =some Tryz.f38:=Tryz.func38
theorem nI:bf aa 38=true:=by kernel_rfl
abbrev G9:FuncId:=39
theorem FI:aa.funcs[(39:Nat)]? =some Tryz.f39:=Tryz.func39
theorem yO:bf aa 39=true:=by kernel_rfl
abbrev Ft:FuncId:=40
theorem DT:aa.funcs[(40:Nat)]? =some Tryz.f40:=Tryz.func40
theorem Ec:bf aa 40=true:=by kernel_rfl
abbrev qv:FuncId:=41
theorem p7:aa.funcs[(41:Nat)]? =some Tryz.f41:=Tryz.func41
theorem qi:bf aa 41=true:=by kernel_rfl
abbrev DP:FuncId:=42
theorem B0:aa.funcs[(42:Nat)]? =some Tryz.f42:=Tryz.func42
theorem rE:bf aa 42=true:=by kernel_rfl
abbrev pB:FuncId:=43
theorem oW:aa.funcs[(43:Nat)]? =some Tryz.f43:=Tryz.func43
theorem dC:bf aa 43=true:=by kernel_rfl
abbrev mz:FuncId:=44
theorem me:aa.funcs[(44:Nat)]? =some Tryz.f44:=Tryz.func44
theorem iw:bf aa 44=true:=by kernel_rfl
abbrev s8:FuncId:=45
theorem xV:aa.funcs[(45:Nat)]? =some Tryz.f45:=Tryz.func45
theorem yf:bf aa 45=true:=by kernel_rfl
abbrev mb:FuncId:=46
theorem lJ:aa.funcs[(46:Nat)]? =some Tryz.f46:=Tryz.func46
theorem dk:bf aa 46=true:=by kernel_rfl
abbrev Hc:FuncId:=47
theorem FL:aa.funcs[(47:Nat)]? =some Tryz.f47:=Tryz.func47
theorem F6:bf aa 47=true:=by kernel_rfl
abbrev FC:FuncId:=48
theorem D4:aa.funcs[(48:Nat)]? =some Tryz.f48:=Tryz.func48
theorem Ek:bf aa 48=true:=by kernel_rfl
abbrev FA:FuncId:=49
theorem D2:aa.funcs[(49:Nat)]? =some Tryz.f49:=Tryz.func49
theorem Ei:bf aa 49=true:=by kernel_rfl
abbrev yJ:FuncId:=50
theorem D1:aa.funcs[(50:Nat)]? =some Tryz.f50:=Tryz.func50
theorem mL:bf aa 50=true:=by kernel_rfl
abbrev kb:FuncId:=51
theorem m7:aa.funcs[(51:Nat)]? =some Tryz.f51:=Tryz.func51
theorem tv:bf aa 51=true:=by kernel_rfl
abbrev jN:FuncId:=52
theorem mF:aa.funcs[(52:Nat)]? =some Tryz.f52:=Tryz.func52
theorem sV:bf aa 52=true:=by kernel_rfl
abbrev iR:FuncId:=53
theorem jO:aa.funcs[(53:Nat)]? =some Tryz.f53:=Tryz.func53
theorem m9:bf aa 53=true:=by kernel_rfl
abbrev ju:FuncId:=54
theorem lX:aa.funcs[(54:Nat)]? =some Tryz.f54:=Tryz.func54
theorem l5:bf aa 54=true:=by kernel_rfl
abbrev ka:FuncId:=55
theorem m6:aa.funcs[(55:Nat)]? =some Tryz.f55:=Tryz.func55
theorem na:bf aa 55=true:=by kernel_rfl
abbrev oq:FuncId:=56
theorem tr:aa.funcs[(56:Nat)]? =some Tryz.f56:=Tryz.func56
theorem m8:bf aa 56=true:=by kernel_rfl
abbrev lh:FuncId:=57
theorem qA:aa.funcs[(57:Nat)]? =some Tryz.f57:=Tryz.func57
theorem fV:bf aa 57=true:=by kernel_rfl
abbrev lV:FuncId:=58
theorem rx:aa.funcs[(58:Nat)]? =some Tryz.f58:=Tryz.func58
theorem dN:bf aa 58=true:=by kernel_rfl
abbrev gk:FuncId:=59
theorem iq:aa.funcs[(59:Nat)]? =some Tryz.f59:=Tryz.func59
theorem ef:bf aa 59=true:=by kernel_rfl
abbrev xU:FuncId:=60
theorem xc:aa.funcs[(60:Nat)]? =some Tryz.f60:=Tryz.func60
theorem bN:bf aa 60=true:=by kernel_rfl
abbrev tT:FuncId:=61
theorem tp:aa.funcs[(61:Nat)]? =some Tryz.f61:=Tryz.func61
theorem ir:bf aa 61=true:=by kernel_rfl
abbrev DF:FuncId:=62
theorem BP:aa.funcs[(62:Nat)]? =some Tryz.f62:=Tryz.func62
theorem rz:bf aa 62=true:=by kernel_rfl
abbrev s9:FuncId:=63
theorem xZ:aa.funcs[(63:Nat)]? =some Tryz.f63:=Tryz.func63
theorem yh:bf aa 63=true:=by kernel_rfl
abbrev og:FuncId:=64
theorem nv:aa.funcs[(64:Nat)]? =some Tryz.f64:=Tryz.func64
theorem nG:bf aa 64=true:=by kernel_rfl
abbrev qw:FuncId:=65
theorem p9:aa.funcs[(65:Nat)]? =some Tryz.f65:=Tryz.func65
theorem qj:bf aa 65=true:=by kernel_rfl
abbrev lT:FuncId:=66
theorem ro:aa.funcs[(66:Nat)]? =some Tryz.f66:=Tryz.func66
theorem gf:bf aa 66=true:=by kernel_rfl
abbrev mW:FuncId:=67
theorem mE:aa.funcs[(67:Nat)]? =some Tryz.f67:=Tryz.func67
theorem mJ:bf aa 67=true:=by kernel_rfl
abbrev kM:FuncId:=68
theorem p8:aa.funcs[(68:Nat)]? =some Tryz.f68:=Tryz.func68
theorem fc:bf aa 68=true:=by kernel_rfl
abbrev mB:FuncId:=69
theorem nT:aa.funcs[(69:Nat)]? =some Tryz.f69:=Tryz.func69
theorem nW:bf aa 69=true:=by kernel_rfl
abbrev jt:FuncId:=70
theorem lW:aa.funcs[(70:Nat)]? =some Tryz.f70:=Tryz.func70
theorem dy:bf aa 70=true:=by kernel_rfl
abbrev tm:FuncId:=71
theorem sN:aa.funcs[(71:Nat)]? =some Tryz.f71:=Tryz.func71
theorem dW:bf aa 71=true:=by kernel_rfl
abbrev vp:FuncId:=72
theorem AL:aa.funcs[(72:Nat)]? =some Tryz.f72:=Tryz.func72
theorem kz:bf aa 72=true:=by kernel_rfl
abbrev rT:FuncId:=73
theorem ry:aa.funcs[(73:Nat)]? =some Tryz.f73:=Tryz.func73
theorem ls:bf aa 73=true:=by kernel_rfl
abbrev lU:FuncId:=74
theorem pI:aa.funcs[(74:Nat)]? =some Tryz.f74:=Tryz.func74
theorem xl:bf aa 74=true:=by kernel_rfl
abbrev wS:FuncId:=75
theorem B1:aa.funcs[(75:Nat)]? =some Tryz.f75:=Tryz.func75
theorem vC:bf aa 75=true:=by kernel_rfl
abbrev Ha:FuncId:=76
theorem FK:aa.funcs[(76:Nat)]? =some Tryz.f76:=Tryz.func76
theorem qQ:bf aa 76=true:=by kernel_rfl
abbrev wT:FuncId:=77
theorem B2:aa.funcs[(77:Nat)]? =some Tryz.f77:=Tryz.func77
theorem Cd:bf aa 77=true:=by kernel_rfl
abbrev sH:FuncId:=78
theorem vu:aa.funcs[(78:Nat)]? =some Tryz.f78:=Tryz.func78
theorem vB:bf aa 78=true:=by kernel_rfl
abbrev DN:FuncId:=79
theorem BY:aa.funcs[(79:Nat)]? =some Tryz.f79:=Tryz.func79
theorem vA:bf aa 79=true:=by kernel_rfl
abbrev DH:FuncId:=80
theorem BS:aa.funcs[(80:Nat)]? =some Tryz.f80:=Tryz.func80
theorem B7:bf aa 80=true:=by kernel_rfl
abbrev Fy:FuncId:=81
theorem DZ:aa.funcs[(81:Nat)]? =some Tryz.f81:=Tryz.func81
theorem Eg:bf aa 81=true:=by kernel_rfl
abbrev DJ:FuncId:=82
theorem BU:aa.funcs[(82:Nat)]? =some Tryz.f82:=Tryz.func82
theorem Ca:bf aa 82=true:=by kernel_rfl
abbrev Fz:FuncId:=83
theorem D0:aa.funcs[(83:Nat)]? =some Tryz.f83:=Tryz.func83
theorem Eh:bf aa 83=true:=by kernel_rfl
abbrev Fx:FuncId:=84
theorem DY:aa.funcs[(84:Nat)]? =some Tryz.f84:=Tryz.func84
theorem Ef:bf aa 84=true:=by kernel_rfl
abbrev DI:FuncId:=85
theorem BT:aa.funcs[(85:Nat)]? =some Tryz.f85:=Tryz.func85
theorem B8:bf aa 85=true:=by kernel_rfl
abbrev rf:FuncId:=86
theorem tZ:aa.funcs[(86:Nat)]? =some Tryz.f86:=Tryz.func86
theorem Bb:bf aa 86=true:=by kernel_rfl
abbrev rg:FuncId:=87
theorem t0:aa.funcs[(87:Nat)]? =some Tryz.f87:=Tryz.func87
theorem Bc:bf aa 87=true:=by kernel_rfl
abbrev pD:FuncId:=88
theorem ru:aa.funcs[(88:Nat)]? =some Tryz.f88:=Tryz.func88
theorem Cb:bf aa 88=true:=by kernel_rfl
abbrev pE:FuncId:=90
theorem rv:aa.funcs[(90:Nat)]? =some Tryz.f90:=Tryz.func90
theorem Cc:bf aa 90=true:=by kernel_rfl
abbrev jI:FuncId:=91
theorem kf:aa.funcs[(91:Nat)]? =some Tryz.f91:=Tryz.func91
theorem Bd:bf aa 91=true:=by kernel_rfl
abbrev nS:FuncId:=92
theorem qa:aa.funcs[(92:Nat)]? =some Tryz.f92:=Tryz.func92
theorem mM:bf aa 92=true:=by kernel_rfl
abbrev tU:FuncId:=93
theorem sM:aa.funcs[(93:Nat)]? =some Tryz.f93:=Tryz.func93
theorem sU:bf aa 93=true:=by kernel_rfl
abbrev wR:FuncId:=94
theorem vt:aa.funcs[(94:Nat)]? =some Tryz.f94:=Tryz.func94
theorem hZ:bf aa 94=true:=by kernel_rfl
abbrev oo:FuncId:=95
theorem pJ:aa.funcs[(95:Nat)]? =some Tryz.f95:=Tryz.func95
theorem xn:bf aa 95=true:=by kernel_rfl
abbrev rh:FuncId:=96
theorem qb:aa.funcs[(96:Nat)]? =some Tryz.f96:=Tryz.func96
theorem gy:bf aa 96=true:=by kernel_rfl
abbrev DG:FuncId:=97
theorem BQ:aa.funcs[(97:Nat)]? =some Tryz.f97:=Tryz.func97
theorem B6:bf aa 97=true:=by kernel_rfl
abbrev wP:FuncId:=98
theorem BR:aa.funcs[(98:Nat)]? =some Tryz.f98:=Tryz.func98
theorem vy:bf aa 98=true:=by kernel_rfl
abbrev nu:FuncId:=99
theorem mZ:aa.funcs[(99:Nat)]? =some Tryz.f99:=Tryz.func99
theorem d8:bf aa 99=true:=by kernel_rfl
abbrev re:FuncId:=100
theorem qz:aa.funcs[(100:Nat)]? =some Tryz.f100:=Tryz.func100
theorem kN:bf aa 100=true:=by kernel_rfl
abbrev wU:FuncId:=101
theorem vv:aa.funcs[(101:Nat)]? =some Tryz.f101:=Tryz.func101
theorem i5:bf aa 101=true:=by kernel_rfl
abbrev yZ:FuncId:=102
theorem xX:aa.funcs[(102:Nat)]? =some Tryz.f102:=Tryz.func102
theorem kL:bf aa 102=true:=by kernel_rfl
abbrev DO:FuncId:=103
theorem BZ:aa.funcs[(103:Nat)]? =some Tryz.f103:=Tryz.func103
theorem nV:bf aa 103=true:=by kernel_rfl
abbrev fu:FuncId:=104
theorem hJ:aa.funcs[(104:Nat)]? =some Tryz.f104:=Tryz.func104
theorem lp:bf aa 104=true:=by kernel_rfl
abbrev y0:FuncId:=105
theorem xY:aa.funcs[(105:Nat)]? =some Tryz.f105:=Tryz.func105
theorem yg:bf aa 105=true:=by kernel_rfl
abbrev xT:FuncId:=106
theorem wZ:aa.funcs[(106:Nat)]? =some Tryz.f106:=Tryz.func106
theorem qR:bf aa 106=true:=by kernel_rfl
abbrev Jk:FuncId:=107
theorem Hg:aa.funcs[(107:Nat)]? =some Tryz.f107:=Tryz.func107
theorem ku:bf aa 107=true:=by kernel_rfl
abbrev CN:FuncId:=108
theorem Hf:aa.funcs[(108:Nat)]? =some Tryz.f108:=Tryz.func108
theorem Hs:bf aa 108=true:=by kernel_rfl
abbrev Av:FuncId:=109
theorem y2:aa.funcs[(109:Nat)]? =some Tryz.f109:=Tryz.func109
theorem lB:bf aa 109=true:=by kernel_rfl
abbrev As:FuncId:=110
theorem FJ:aa.funcs[(110:Nat)]? =some Tryz.f110:=Tryz.func110
theorem F5:bf aa 110=true:=by kernel_rfl
abbrev Fv:FuncId:=111
theorem DV:aa.funcs[(111:Nat)]? =some Tryz.f111:=Tryz.func111
theorem Ee:bf aa 111=true:=by kernel_rfl
abbrev Au:FuncId:=112
theorem yK:aa.funcs[(112:Nat)]? =some Tryz.f112:=Tryz.func112
theorem qP:bf aa 112=true:=by kernel_rfl
abbrev DM:FuncId:=113
theorem BX:aa.funcs[(113:Nat)]? =some Tryz.f113:=Tryz.func113
theorem gg:bf aa 113=true:=by kernel_rfl
abbrev sG:FuncId:=115
theorem rt:aa.funcs[(115:Nat)]? =some Tryz.f115:=Tryz.func115
theorem hN:bf aa 115=true:=by kernel_rfl
abbrev pZ:FuncId:=116
theorem pG:aa.funcs[(116:Nat)]? =some Tryz.f116:=Tryz.func116
theorem fy:bf aa 116=true:=by kernel_rfl
abbrev nn:FuncId:=117
theorem mX:aa.funcs[(117:Nat)]? =some Tryz.f117:=Tryz.func117
theorem eW:bf aa 117=true:=by kernel_rfl
abbrev yH:FuncId:=118
theorem wY:aa.funcs[(118:Nat)]? =some Tryz.f118:=Tryz.func118
theorem xj:bf aa 118=true:=by kernel_rfl
abbrev gK:FuncId:=119
theorem ya:aa.funcs[(119:Nat)]? =some Tryz.f119:=Tryz.func119
theorem ie:bf aa 119=true:=by kernel_rfl
abbrev rb:FuncId:=120
theorem qx:aa.funcs[(120:Nat)]? =some Tryz.f120:=Tryz.func120
theorem iB:bf aa 120=true:=by kernel_rfl
abbrev BK:FuncId:=121
theorem AG:aa.funcs[(121:Nat)]? =some Tryz.f121:=Tryz.func121
theorem uc:bf aa 121=true:=by kernel_rfl
abbrev BI:FuncId:=122
theorem AE:aa.funcs[(122:Nat)]? =some Tryz.f122:=Tryz.func122
theorem ub:bf aa 122=true:=by kernel_rfl
abbrev p5:FuncId:=123
theorem pH:aa.funcs[(123:Nat)]? =some Tryz.f123:=Tryz.func123
theorem fz:bf aa 123=true:=by kernel_rfl
abbrev Az:FuncId:=124
theorem y5:aa.funcs[(124:Nat)]? =some Tryz.f124:=Tryz.func124
theorem zd:bf aa 124=true:=by kernel_rfl
abbrev vX:FuncId:=125
theorem u5:aa.funcs[(125:Nat)]? =some Tryz.f125:=Tryz.func125
theorem u7:bf aa 125=true:=by kernel_rfl
abbrev rP:FuncId:=126
theorem rp:aa.funcs[(126:Nat)]? =some Tryz.f126:=Tryz.func126
theorem lq:bf aa 126=true:=by kernel_rfl
abbrev om:FuncId:=127
theorem nA:aa.funcs[(127:Nat)]? =some Tryz.f127:=Tryz.func127
theorem nK:bf aa 127=true:=by kernel_rfl
abbrev ol:FuncId:=128
theorem nz:aa.funcs[(128:Nat)]? =some Tryz.f128:=Tryz.func128
theorem nJ:bf aa 128=true:=by kernel_rfl
abbrev Ax:FuncId:=129
theorem y3:aa.funcs[(129:Nat)]? =some Tryz.f129:=Tryz.func129
theorem zc:bf aa 129=true:=by kernel_rfl
abbrev ly:FuncId:=130
theorem xW:aa.funcs[(130:Nat)]? =some Tryz.f130:=Tryz.func130
theorem nL:bf aa 130=true:=by kernel_rfl
abbrev rO:FuncId:=131
theorem rm:aa.funcs[(131:Nat)]? =some Tryz.f131:=Tryz.func131
theorem rB:bf aa 131=true:=by kernel_rfl
abbrev oU:FuncId:=132
abbrev BL:FuncId:=134
theorem AH:aa.funcs[(134:Nat)]? =some Tryz.f134:=Tryz.func134
theorem ud:bf aa 134=true:=by kernel_rfl
abbrev Fu:FuncId:=135
theorem DU:aa.funcs[(135:Nat)]? =some Tryz.f135:=Tryz.func135
theorem Ed:bf aa 135=true:=by kernel_rfl
abbrev tl:FuncId:=136
abbrev BH:FuncId:=138
theorem AD:aa.funcs[(138:Nat)]? =some Tryz.f138:=Tryz.func138
theorem Ba:bf aa 138=true:=by kernel_rfl
abbrev rc:FuncId:=139
theorem qy:aa.funcs[(139:Nat)]? =some Tryz.f139:=Tryz.func139
theorem qB:bf aa 139=true:=by kernel_rfl
abbrev y1:FuncId:=140
theorem yb:aa.funcs[(140:Nat)]? =some Tryz.f140:=Tryz.func140
theorem yi:bf aa 140=true:=by kernel_rfl
abbrev my:FuncId:=141
theorem mc:aa.funcs[(141:Nat)]? =some Tryz.f141:=Tryz.func141
theorem mg:bf aa 141=true:=by kernel_rfl
abbrev wQ:FuncId:=142
theorem vZ:aa.funcs[(142:Nat)]? =some Tryz.f142:=Tryz.func142
theorem wc:bf aa 142=true:=by kernel_rfl
abbrev pY:FuncId:=145
theorem pF:aa.funcs[(145:Nat)]? =some Tryz.f145:=Tryz.func145
theorem pM:bf aa 145=true:=by kernel_rfl
abbrev ma:FuncId:=148
theorem lI:aa.funcs[(148:Nat)]? =some Tryz.f148:=Tryz.func148
theorem lM:bf aa 148=true:=by kernel_rfl
end
structure cO where
 epoch:Int
 pid:Int
 ver:Int
 seq:Int
 kind:Int
 txn:Bool
 text:ByteArray
 deriving DecidableEq
def cO.c (e:cO):List Value:=[.int .i64 e.epoch,.int .i64 e.pid,.int .i64 e.ver,.int .i64 e.seq,.int .i64 e.kind,.bool e.txn,.string e.text]
abbrev cO.v (e:cO):Value:=.agg e.c.toArray
def gL:fi cO:=⟨cO.c,7,fun _=>rfl,by decide,fun a u hu=>by
 simp only[cO.c,ax,bO,or_false]at hu
 rcases hu with h|h|h|h|h|h|h<;>subst h<;>rfl⟩
def bR:fi Int:=⟨fun n=>[.int .i64 n],1,fun _=>rfl,by decide,fun a u hu=>by
 simp only[ax,bO,or_false]at hu
 subst hu;rfl⟩
def dz:fi UInt8:=⟨fun n=>[.int .u8 n.toNat],1,fun _=>rfl,by decide,fun a u hu=>by
 simp only[ax,bO,or_false]at hu
 subst hu;rfl⟩
def lf:fi ByteArray:=⟨fun s=>[.string s],1,fun _=>rfl,by decide,fun a u hu=>by
 simp only[ax,bO,or_false]at hu
 subst hu;rfl⟩
def Ct:Nat->Nat->List UInt8->Nat
 |_,n,[]=>n
 |i,n,c::l=>Ct (i+1) ((n+(i+1)*c.toNat)%65521) l
def mp (l:List UInt8):Nat:=Ct 0 0 l
theorem EJ: ∀ (l:List UInt8) (i n:Nat),n<65521->Ct i n l<65521
 |[],_,_,h=>h
 |_::l,i,_,_=>EJ l (i+1) _ (jA _ (by decide))
theorem Dl (l:List UInt8):mp l<65521:=EJ l 0 0 (by decide)
theorem Kd (l:List UInt8) (A:Option Addr) (c:Nat) (w:World) (hr:Rd dz 0 w.heap.size A l w) (hb:l.length<=1000000000000000):
  db aa G9 [.slice A l.length c] w fun v w2=>v=J (mp l:Nat)/\Below w.heap.size w w2:=by
 refine aD FI Z Z ?_
 have H:=Hp.start w
 refine W ?_
 refine Zr ?_
 refine oY Z Z ?_
 refine U<|W ?_
 refine Zr ?_
 refine oY Z Z ?_
 refine U<|W<|W ?_
 refine Zr ?_
 refine mh Z Z ?_
 refine uU eL Z Z ?_
 refine iu Z Z ?_
 refine U<|Zb ?_
 refine cf (τ:=Nat×Nat) [3,4,5,8,9,10,11,12,13,14,15,16,17,18,19,20,21] (fun x=>[(3,J x.1),(8,J x.2)]) (fun x w'=>x.1<65521/\x.2<=l.length/\Hp w w' [] []/\Ct x.2 x.1 (l.drop x.2)=mp l) (fun x=>l.length-x.2) (0,0) ⟨by decide,by simp,H,rfl⟩ (kZ Z Z) ?_
 rintro⟨m,k⟩ ρ1 w1 ⟨hm,hk,H,hs⟩
 show CW _ _ _ _ (dA (gC _ _ ρ1) [(3,J (m:Nat)),(8,J (k:Nat))]) w1
 refine W ?_
 refine Zr ?_
 refine GZ Z Z Z (fun h9=> ?_) (fun h9=> ?_)
 all_goals refine nk ?_
 all_goals refine AV ?_
 ·refine pL Z ?_
  refine Zk ?_
  have hkl:k<l.length:=by omega
  obtain⟨b,o,rfl,-,hbl,hcl⟩:=hr.at_ hkl
  have hd:l.drop k=l[k]::l.drop (k+1):=mS hkl
  have h256:l[k].toNat<256:=UInt8.toNat_lt _
  generalize hc:l[k]=x at*
  have hmul:(k+1)*x.toNat<=(k+1)*256:=Nat.mul_le_mul_left _ I
  have hmul2:((k:Int)+1)*(x.toNat:Int)=(((k+1)*x.toNat:Nat):Int):=by simp
  refine W<|Zb<|W ?_
  refine Zr ?_
  refine iu Z Z ?_
  refine OJ d6 Z Z I I Z ?_
  refine ld mt Z ((H.below.cell (p:=⟨b,_,none⟩) hbl).trans (hcl 0 _ Z)) Z ?_
  refine oY Z Z ?_
  refine oY Z Z ?_
  refine U ?_
  refine Zr ?_
  refine iu Z Z ?_
  refine iu Z Z ?_
  refine add Z Z I I Z ?_
  refine iu Z Z ?_
  refine Nl ik ip Z (ve I) Z ?_
  refine mul Z Z I I Z ?_
  refine add Z Z I I Z ?_
  refine rem Z Z I I Z ?_
  refine oY Z Z ?_
  refine U ?_
  refine Zr ?_
  refine add Z Z I I Z ?_
  refine iu Z Z ?_
  refine U ?_
  refine⟨((m+(k+1)*x.toNat)%65521,k+1),⟨jA _ (by decide),by omega,H,?_⟩,?_,by repeat (first|exact mN|refine lD Z ?_|refine jF _ Z ?_),by show l.length- (k+1)<l.length-k;omega⟩
  ·rw[<-hs,hd,Ct]
  ·intro p hp
   simp only[ax,bO,or_false]at hp
   rcases hp with rfl|rfl
   ·show Value.int .i64 _=Value.int .i64 _
    congr 1
   ·rfl
 ·refine oD Z ?_
  refine Zx ?_
  have hkl:k=l.length:=by omega
  subst hkl
  simp only[fp,Ct]at hs
  subst hs
  refine W ?_
  refine Zr ?_
  refine iu Z Z ?_
  refine oY Z Z ?_
  refine U<|Zt ?_
  exact cy Z Z ⟨rfl,H.below⟩
/-- a number in as few bytes as may be -/
def yY (n:Nat):List UInt8:=if h:n<=127 then [UInt8.ofNat n]else UInt8.ofNat (n%128+128)::yY (n/128)
termination_by n
decreasing_by omega
theorem uB {n:Nat} (h:n<=127):yY n=[UInt8.ofNat n]:=by rw[yY,dif_pos h]
theorem Dw {n:Nat} (h:127<n):yY n=UInt8.ofNat (n%128+128)::yY (n/128):=by rw[yY,dif_neg I]
theorem L0 (n:Nat):n&&&127=n%128:=Nat.and_two_pow_sub_one_eq_mod n 7
theorem OR (n:Nat) (h:n<128):n|||128=n+128:=by
 have:=sd (i:=7) (b:=n) (by simpa using h) 1
 rw[Nat.or_comm];simp at this;omega
theorem OH (n:Nat) (h:n<256):((UInt8.ofNat n).toNat:Int)=n:=by
 simp[gQ h]
theorem HS: ∀ (k n:Nat),n<128 ^ k->(yY n).length<=max k 1
 |0,n,h=>by
  have:n=0:=by simpa using h
  subst this;rw[uB I];simp
 |k+1,n,h=>by
  by_cases hn:n<=127
  rw[uB hn];simp
  have:=HS k (n/128) (by rw[Nat.pow_succ]at h;exact yT I)
  rw[Dw I]
  simp only[cE]
  have hk:k≠0:=by
   rintro rfl
   simp at h;omega
  omega
theorem I5 {w0 w:World} {F:List cr} {K M L:List (Nat×Obj)} {es:List UInt8} {A:Option Addr} {c:Nat} (n:Nat) (H:Hp w0 w (K++L++M) F) (ho:fW dz (.slice A es.length c) mP es L) (hn:n<4611686018427387904) (hb:es.length+n<140737488355328):
  db aa BH [.slice A es.length c,J n] w fun v w2=> ∃ A' c' L',v=.slice A' (es++yY n).length c'/\fW dz (.slice A' (es++yY n).length c') mP (es++yY n) L'/\Hp w0 w2 (K++L'++M) F:=by
 refine aD AD Z Z ?_
 refine W ?_
 refine Zr ?_
 refine va Z Z ?_
 refine U<|W<|Zb ?_
 refine cf (τ:=Option Addr×Nat×List UInt8×Nat) [0,1,5,6,7,8,9,10,11,12,13,15,14] (fun(A,c,l,m)=>[(0,.slice A l.length c),(1,J m)])
  (fun(A,c,l,m) w'=>m<4611686018427387904/\l.length+m<140737488355328/\l++yY m=es++yY n/\ ∃ L',fW dz (.slice A l.length c) mP l L'/\Hp w0 w' (K++L'++M) F) (fun(_,_,_,m)=>m) (A,c,es,n) ⟨hn,hb,rfl,L,ho,H⟩ (kZ Z Z) ?_
 rintro⟨A1,c1,l,m⟩ ρ1 w1 ⟨hm,hb1,hl,L1,ho1,H1⟩
 show CW _ _ _ _ (dA (gC _ _ ρ1) [(0,.slice A1 l.length c1),(1,J (m:Nat))]) w1
 refine W<|W ?_
 refine Zr ?_
 refine iu Z Z ?_
 refine Jl Z Z Z (fun h6=> ?_) (fun h6=> ?_)
 all_goals refine nk ?_
 ·refine pL Z ?_
  refine Zk ?_
  have hmod:m%128<128:=jA _ (by decide)
  refine Zb<|W ?_
  refine Zr ?_
  refine mh Z Z ?_
  refine iu Z Z ?_
  refine G (NO (b:=127) Z Z I I) ?_
  rw[L0]
  refine G (MK (b:=128) Z Z I I) ?_
  rw[OR _ hmod]
  refine Nl ip ik Z (Ci I) Z ?_
  refine tb (vs:=[.int .u8 _]) H1 d6 zy Z Z Z Z Z Z ?_;intro w2 b12 H2
  refine vc (Y:=dz) oG (K:=(b12,_)::K) (L:=L1) (M:=M) H2 ho1 (news:=[UInt8.ofNat (m%128+128)]) Z Z Z ?_ ?_ Z ?_
  ·have:=wn.row (m:=1) (sz:=1) (H2.ent (i:=0) Z) Z
   have e:dz.all [UInt8.ofNat (m%128+128)]=[.int .u8 ((m%128+128:Nat):Int)]:=by
    show [Value.int .u8 _]=_
    rw[OH _ I]
   rw[e]
   exact this
  ·simp only[bP];omega
  intro A3 c3 w3 L3 _ _ ho3 H3
  refine va Z Z ?_
  refine U ?_
  refine Zr ?_
  refine iu Z Z ?_
  refine G (NC (b:=7) Z Z I) ?_
  refine oY Z Z ?_
  refine U ?_
  refine⟨(A3,c3,l++[UInt8.ofNat (m%128+128)],m/2 ^ 7),⟨by omega,by simp;omega,?_,L3,ho3,H3.forget (by simp) (fun _ h=>h)⟩,kZ Z Z,by repeat (first|exact mN|refine lD Z ?_|refine jF _ Z ?_),by show m/2 ^ 7<m;omega⟩
  rw[<-hl,Dw (n:=m) I];simp
 ·refine oD Z ?_
  refine Zx<|W ?_
  refine Zr ?_
  refine mh Z Z ?_
  refine iu Z Z ?_
  refine Nl ip ik Z (Ci I) Z ?_
  refine tb (vs:=[.int .u8 _]) H1 d6 zy Z Z Z Z Z Z ?_;intro w2 b19 H2
  refine vc (Y:=dz) oG (K:=(b19,_)::K) (L:=L1) (M:=M) H2 ho1 (news:=[UInt8.ofNat m]) Z Z Z ?_ ?_ Z ?_
  ·have:=wn.row (m:=1) (sz:=1) (H2.ent (i:=0) Z) Z
   have e:dz.all [UInt8.ofNat m]=[.int .u8 (m:Int)]:=by
    show [Value.int .u8 _]=_
    rw[OH _ I]
   rw[e]
   exact this
  ·simp only[bP];omega
  intro A3 c3 w3 L3 _ _ ho3 H3
  refine va Z Z ?_
  refine U<|Zt ?_
  rw[uB I]at hl
  rw[hl]at ho3
  refine cy Z (v:=.slice A3 (es++yY n).length c3) (by rw[<-hl];rfl) ⟨A3,c3,L3,rfl,ho3,H3.forget (by simp) (fun _ h=>h)⟩
def iQ (n:Int):Bool:=decide (0<=n)&&decide (n<=1073741824)
theorem uH {n:Int} (h:iQ n=true):0<=n/\n<=1073741824:=by simpa [iQ]using h
theorem M9 {n:Int} (h: ¬ iQ n=true):n<0∨1073741824<n:=by
 simp[iQ]at h;omega
def cO.nums (e:cO):List Int:=[e.epoch,e.pid,e.ver,e.seq]
def cO.noForm (e:cO):Prop:=(e.kind≠1/\(e.pid=0∨e.txn=false∨e.seq≠0∨e.text≠⟨#[]⟩))∨(e.pid=0/\(e.txn=true∨0<e.ver+e.seq))
instance (e:cO):Decidable e.noForm:=by unfold cO.noForm;infer_instance
def eG (e:cO):Int:=
 if e.kind<1∨3<e.kind then 3
 else if¬ e.nums.all iQ=true then 2
 else if 40<e.text.size then 1
 else if e.noForm then 4 else 0
theorem xF (e:cO) (w:World):db aa DF [e.v] w fun v w2=>v=J (eG e)/\Below w.heap.size w w2:=by
 refine aD BP Z Z ?_
 have H:=Hp.start w
 refine W ?_
 refine Zr ?_
 refine fT H Z Z ?_;intro w1 b1 H
 refine oY Z Z ?_
 refine U<|W<|W ?_
 refine Zr ?_
 refine sa eZ Z Z ?_
 refine vV H 0 aj Z Z Z Z ?_
 refine GZ Z Z Z (fun h7=> ?_) (fun h7=> ?_)
 ·have hE:eG e=3:=by unfold eG;rw[if_pos (.inl h7)]
  refine z0 Z Z ?_
  iterate 3 refine rN Z Z Z ?_
  refine wF Z Z Z ?_
  refine U<|ZT Z<|W ?_
  refine Zr ?_
  refine oY Z Z ?_
  refine U<|Zt ?_
  exact cy (v:=J 3) Z Z ⟨by rw[hE],H.below⟩
 refine z0 Z Z ?_
 refine ZG ?_
 refine sa eZ Z Z ?_
 refine ZG ?_
 refine vV H 0 aj Z Z Z Z ?_
 refine ZG ?_
 refine Jl Z Z Z (fun h11=> ?_) (fun h11=> ?_)
 ·have hE:eG e=3:=by unfold eG;rw[if_pos (.inr h11)]
  refine sx Z Z Z ?_
  refine U<|ZT Z<|W ?_
  refine Zr ?_
  refine oY Z Z ?_
  refine U<|Zt ?_
  exact cy (v:=J 3) Z Z ⟨by rw[hE],H.below⟩
 refine sx Z Z Z ?_
 refine U<|ZF Z<|Zk ?_
 have hk0: ¬ (e.kind<1∨3<e.kind):=by omega
 refine W<|W ?_
 refine Zr ?_
 refine sa nE Z Z ?_
 refine vV H 0 aj Z Z Z Z ?_
 refine sa fg Z Z ?_
 refine vV H 0 aj Z Z Z Z ?_
 refine sa eB Z Z ?_
 refine vV H 0 aj Z Z Z Z ?_
 refine sa fa Z Z ?_
 refine vV H 0 aj Z Z Z Z ?_
 refine tb (vs:=[J _,J _,J _,J _]) H ba wu Z Z Z Z Z Z ?_;intro w2 b21 H
 refine uU eF Z Z ?_
 refine iu Z Z ?_
 refine U<|Zb ?_
 have hns: ∀ k,k<4->(qc [J e.epoch,J e.pid,J e.ver,J e.seq]).toArray[0+k*1]? =some (J (e.nums.getD k 0)):=by
  intro k hk
  have:k=0∨k=1∨k=2∨k=3:=by omega
  rcases this with rfl|rfl|rfl|rfl<;>rfl
 have hmem: ∀ k,k<4->e.nums.getD k 0∈e.nums:=by
  intro k hk
  have:k=0∨k=1∨k=2∨k=3:=by omega
  rcases this with rfl|rfl|rfl|rfl<;>simp[cO.nums]
 refine cf (τ:=Nat) [4,23,24,25,26,27,28,29,30,31,32,33,2] (fun k=>[(23,J k)]) (fun k w'=>k<=4/\(∀ j,j<k->(e.nums.getD j 0|>iQ)=true)/\Hp w w' [(b21,_),(b1,_)] []) (fun k=>4-k) 0 ⟨by omega,by simp,H⟩ (dI Z) ?_
 rintro k ρ1 w1 ⟨hk4,hgood,H⟩
 refine W ?_
 refine Zr ?_
 refine GZ Z Z Z (fun h24=> ?_) (fun h24=> ?_)
 all_goals refine nk ?_
 all_goals refine AV ?_
 ·refine pL Z ?_
  refine Zk ?_
  have hk:k<4:=by omega
  have hns:=hns k hk
  have hm:=hmem k hk
  generalize hx:e.nums.getD k 0=x at hns hm
  refine W<|Zb<|W ?_
  refine Zr ?_
  refine OJ ba Z Z I I Z ?_
  refine vV H 0 aj Z Z hns Z ?_
  refine oY Z Z ?_
  refine U<|W ?_
  refine Zr ?_
  refine iu Z Z ?_
  by_cases hin:iQ x=true
  ·obtain⟨h0,h1⟩:=uH hin
   refine Od Z Z I Z ?_
   refine z0 Z Z ?_
   refine ZG ?_
   refine iu Z Z ?_
   refine ZG ?_
   refine Ok Z Z I Z ?_
   refine sx Z Z Z ?_
   refine U<|ZF Z<|Zk ?_
   refine Zr ?_
   refine add Z Z I I Z ?_
   refine iu Z Z ?_
   refine U ?_
   refine⟨k+1,⟨by omega,fun j hj=> ?_,H⟩,dI Z,by repeat (first|exact mN|refine lD Z ?_|refine jF _ Z ?_),by show 4- (k+1)<4-k;omega⟩
   by_cases hjk:j=k
   ·subst hjk;rw[hx];exact hin
   ·exact hgood j I
  ·have hE:eG e=2:=by
    unfold eG
    rw[if_neg hk0,if_pos]
    intro ha
    exact hin (ed.1 ha x hm)
   have hbad:=M9 hin
   by_cases h0:x<0
   ·refine OT Z Z h0 Z ?_
    refine z0 Z Z ?_
    iterate 2 refine rN Z Z Z ?_
    refine wF Z Z Z ?_
    refine U<|ZT Z<|W ?_
    refine Zr ?_
    refine oY Z Z ?_
    refine U<|Zt ?_
    exact cy (v:=J 2) Z Z ⟨by rw[hE],H.below⟩
   ·refine Od Z Z h0 Z ?_
    refine z0 Z Z ?_
    refine ZG ?_
    refine iu Z Z ?_
    refine ZG ?_
    refine Oj Z Z I Z ?_
    refine sx Z Z Z ?_
    refine U<|ZT Z<|W ?_
    refine Zr ?_
    refine oY Z Z ?_
    refine U<|Zt ?_
    exact cy (v:=J 2) Z Z ⟨by rw[hE],H.below⟩
 ·refine oD Z ?_
  refine Zx ?_
  have hk:k=4:=by omega
  subst hk
  have hall:e.nums.all iQ=true:=by
   have g0:=hgood 0 I
   have g1:=hgood 1 I
   have g2:=hgood 2 I
   have g3:=hgood 3 I
   simp only[cO.nums,List.getD_cons_zero,List.getD_cons_succ]at g0 g1 g2 g3
   simp[cO.nums,g0,g1,g2,g3]
  have hv:=uH (ed.1 hall e.ver (by simp[cO.nums]))
  have hs:=uH (ed.1 hall e.seq (by simp[cO.nums]))
  refine W<|W ?_
  refine Zr ?_
  refine sa qe Z Z ?_
  refine vV H 1 aZ Z Z Z Z ?_
  refine Pw jo Z Z ?_
  refine Jl Z Z Z (fun h37=> ?_) (fun h37=> ?_)
  all_goals refine nk ?_
  ·refine pL Z ?_
   refine W ?_
   refine Zr ?_
   refine oY Z Z ?_
   refine U<|Zt ?_
   have hE:eG e=1:=by
    unfold eG
    rw[if_neg hk0,if_neg (by simpa using hall),if_pos I]
   exact cy (v:=J 1) Z Z ⟨by rw[hE],H.below⟩
  refine ZF Z<|Zk ?_
  have hE:eG e=if e.noForm then 4 else 0:=by
   unfold eG
   rw[if_neg hk0,if_neg (by simpa using hall),if_neg I]
  refine W<|W ?_
  refine Zr ?_
  by_cases hx:e.text=⟨#[]⟩
  all_goals cases ht:e.txn
  all_goals (have h5:e.c.toArray[0+5]? =some (.bool e.txn):=rfl;rw[ht]at h5)
  all_goals (refine sa eZ Z Z ?_)
  all_goals (refine vV H 1 aj Z Z Z Z ?_)
  all_goals (refine OS Z Z Z (fun _=> ?_) (fun _=> ?_))
  all_goals (refine z0 Z Z ?_)
  all_goals first|refine rN Z Z Z ?_|(refine tM Z ?_;(refine sa fg Z Z ?_))
  all_goals first|refine rN Z Z Z ?_|(refine tM Z ?_;(refine vV H 1 aj Z Z Z Z ?_))
  all_goals first|refine rN Z Z Z ?_|(refine tM Z ?_;(refine LC Z Z Z (fun _=> ?_) (fun _=> ?_)))
  all_goals first|refine rN Z Z Z ?_|(refine tM Z ?_;(refine z0 Z Z ?_))
  all_goals first|refine rN Z Z Z ?_|(refine tM Z ?_;(refine sa iZ Z Z ?_))
  all_goals first|refine rN Z Z Z ?_|(refine tM Z ?_;(refine vV H 1 dQ Z Z h5 Z ?_))
  all_goals first|refine rN Z Z Z ?_|(refine tM Z ?_;(refine not Z Z ?_))
  all_goals first|refine rN Z Z Z ?_|(refine tM Z ?_;(first|refine wF Z Z Z ?_|refine sx Z Z Z ?_))
  all_goals first|refine rN Z Z Z ?_|(refine tM Z ?_;(refine z0 Z Z ?_))
  all_goals first|refine rN Z Z Z ?_|(refine tM Z ?_;(refine sa fa Z Z ?_))
  all_goals first|refine rN Z Z Z ?_|(refine tM Z ?_;(refine vV H 1 aj Z Z Z Z ?_))
  all_goals first|refine rN Z Z Z ?_|(refine tM Z ?_;(refine OS Z Z Z (fun _=> ?_) (fun _=> ?_)))
  all_goals first|refine rN Z Z Z ?_|(refine tM Z ?_;(first|refine wF Z Z Z ?_|refine sx Z Z Z ?_))
  all_goals first|refine rN Z Z Z ?_|(refine tM Z ?_;(refine z0 Z Z ?_))
  all_goals first|refine rN Z Z Z ?_|(refine tM Z ?_;(refine sa qe Z Z ?_))
  all_goals first|refine rN Z Z Z ?_|(refine tM Z ?_;(refine vV H 1 aZ Z Z Z Z ?_))
  all_goals first|refine rN Z Z Z ?_|(refine tM Z ?_;(first|refine l1 (Ms Z Z hx) Z Z Z ?_|refine l1 (Mt Z Z hx) Z Z Z ?_))
  all_goals first|refine rN Z Z Z ?_|(refine tM Z ?_;(first|refine wF Z Z Z ?_|refine sx Z Z Z ?_))
  all_goals (first|refine wF Z Z Z ?_|refine sx Z Z Z ?_)
  all_goals (refine z0 Z Z ?_)
  all_goals first|refine rN Z Z Z ?_|(refine tM Z ?_;(refine sa fg Z Z ?_))
  all_goals first|refine rN Z Z Z ?_|(refine tM Z ?_;(refine vV H 1 aj Z Z Z Z ?_))
  all_goals first|refine rN Z Z Z ?_|(refine tM Z ?_;(refine LC Z Z Z (fun _=> ?_) (fun _=> ?_)))
  all_goals first|refine rN Z Z Z ?_|(refine tM Z ?_;(refine z0 Z Z ?_))
  all_goals first|refine rN Z Z Z ?_|(refine tM Z ?_;(refine sa iZ Z Z ?_))
  all_goals first|refine rN Z Z Z ?_|(refine tM Z ?_;(refine vV H 1 dQ Z Z h5 Z ?_))
  all_goals first|refine rN Z Z Z ?_|(refine tM Z ?_;(refine z0 Z Z ?_))
  all_goals first|refine rN Z Z Z ?_|(refine tM Z ?_;(refine sa eB Z Z ?_))
  all_goals first|refine rN Z Z Z ?_|(refine tM Z ?_;(refine vV H 1 aj Z Z Z Z ?_))
  all_goals first|refine rN Z Z Z ?_|(refine tM Z ?_;(refine sa fa Z Z ?_))
  all_goals first|refine rN Z Z Z ?_|(refine tM Z ?_;(refine vV H 1 aj Z Z Z Z ?_))
  all_goals first|refine rN Z Z Z ?_|(refine tM Z ?_;(refine add Z Z I I Z ?_))
  all_goals first|refine rN Z Z Z ?_|(refine tM Z ?_;(refine Jl Z Z Z (fun _=> ?_) (fun _=> ?_)))
  all_goals first|refine rN Z Z Z ?_|(refine tM Z ?_;(first|refine wF Z Z Z ?_|refine sx Z Z Z ?_))
  all_goals first|refine rN Z Z Z ?_|(refine tM Z ?_;(first|refine wF Z Z Z ?_|refine sx Z Z Z ?_))
  all_goals (first|refine wF Z Z Z ?_|refine sx Z Z Z ?_)
  all_goals refine nk ?_
  all_goals first
   |(
     refine pL Z ?_
     refine W ?_
     refine Zr ?_
     refine oY Z Z<|U<|Zt ?_
     exact cy (v:=J 4) Z Z ⟨by rw[hE,if_pos (by simp[cO.noForm, *])],H.below⟩)
   |(
     refine oD Z ?_
     refine Zk<|W ?_
     refine Zr ?_
     refine oY Z Z<|U<|Zt ?_
     exact cy (v:=J 0) Z Z ⟨by rw[hE,if_neg (by simp[cO.noForm, *]<;>omega)],H.below⟩)
def od (e:cO):UInt8:=UInt8.ofNat (e.kind.toNat+if e.txn then 16 else 0)
def ob (l:List Int):List UInt8:=l.flatMap fun n=>yY n.toNat
def eM (e:cO):List UInt8:=od e::ob e.nums++e.text.data.toList
def iz (e:cO):List UInt8:=UInt8.ofNat (eM e).length::eM e++[UInt8.ofNat (mp (eM e)/256),UInt8.ofNat (mp (eM e)%256)]
theorem NR (n:Nat):IntKind.u8.wrap (n:Int)=(n%256:Nat):=by
 simp[IntKind.wrap,IntKind.signed,IntKind.bits]
theorem O5 (s:ByteArray):dz.all s.data.toList=Lib.strCells s:=by
 unfold fi.all Lib.strCells
 show List.flatMap (fun n:UInt8=>[Value.int .u8 n.toNat]) _=_
 induction s.data.toList with
 |nil=>rfl
 |cons a l ih=>simp only[gb,eI,ih];rfl
theorem qM {e:cO} (h:eG e=0):1<=e.kind/\e.kind<=3/\(∀ n∈e.nums,0<=n/\n<=1073741824)/\e.text.size<=40/\ ¬ e.noForm:=by
 unfold eG at h
 split at h;· omega
 split at h;· omega
 split at h;· omega
 split at h;· omega
 rename_i h1 h2 h3 h4
 refine⟨by omega,by omega,fun n hn=> ?_,by omega,h4⟩
 have:=ed.1 (Classical.not_not.1 h2) n hn
 exact uH this
theorem xO: ∀ (l:List Int),(∀ n∈l,0<=n/\n<=1073741824)->(ob l).length<=5*l.length
 |[],_=>by simp[ob]
 |n::l,h=>by
  have h1:=xO l fun m hm=>h m (ak _ hm)
  have h2:=h n (az ..)
  have h3:=HS 5 n.toNat I
  simp only[ob,gb,ay,cE]at*
  omega
theorem uO {e:cO} (h:eG e=0):(eM e).length<=61/\0<(eM e).length:=by
 obtain⟨_,_,h3,h4,_⟩:=qM h
 have:=xO _ h3
 have hs:e.text.data.toList.length=e.text.size:=by rw[cj];rfl
 simp only[eM,ay,cE,hs]
 have h4':e.nums.length=4:=rfl
 omega
theorem CV (e:cO) (w:World) (h:eG e=0):db aa BI [e.v] w fun v w2=> ∃ A c,v=.tuple #[.slice A (iz e).length c,J 0]/\Rd dz w.heap.size w2.heap.size A (iz e) w2/\(iz e).length<=c/\Below w.heap.size w w2:=by
 obtain⟨hk1,hk3,hnn,htx,-⟩:=qM h
 obtain⟨hl61,hl0⟩:=uO h
 refine aD AE Z Z ?_
 have H:=Hp.start w
 refine W ?_
 refine Zr ?_
 refine fT H Z Z ?_;intro w1 b1 H
 refine va Z Z ?_
 refine oY Z Z ?_
 refine U<|W<|W ?_
 refine Zr ?_
 refine PN H 0 dG Z Z Z Z ?_
 refine bY rz (xF e _) Z Z ?_;rintro _ w2 ⟨rfl,hb2⟩;replace H:=H.later hb2
 refine oY Z Z ?_
 refine U<|W ?_
 refine Zr ?_
 refine iu Z Z ?_
 refine G (bW Z Z h)<|U<|ZF Z<|Zk<|W ?_
 refine Zr ?_
 refine sa eZ Z Z ?_
 refine vV H 0 aj Z Z Z Z ?_
 refine oY Z Z ?_
 refine U<|W ?_
 obtain⟨k,hk⟩: ∃ k:Nat,e.kind=k:=⟨e.kind.toNat,by omega⟩
 have hkB:od e=UInt8.ofNat (k+if e.txn then 16 else 0):=by unfold od;rw[hk];rfl
 refine eC (τ:=Unit) [17,18,19,20,5] (fun _=>[(5,J (k+if e.txn then 16 else 0:Nat))]) (fun _ w'=>Hp w w' [(b1,.cells e.c.toArray du)] []) ?_ ?_
 ·refine AV ?_
  refine Zr ?_
  refine sa iZ Z Z ?_
  refine vV H 0 dQ Z Z Z Z ?_
  refine U ?_
  refine jl (b:=e.txn) Z (fun ht=> ?_) (fun ht=> ?_)
  ·refine JB ?_
   refine iu Z Z ?_
   have h16:k|||16=k+16:=by
    have:k=1∨k=2∨k=3:=by omega
    rcases this with rfl|rfl|rfl<;>rfl
   rw[hk]
   refine G (MK (a:=k) (b:=16) Z Z I I) ?_
   rw[h16]
   refine oY Z Z ?_
   refine U ?_
   refine⟨(),H,dI (by rw[ht];rfl),by repeat (first|exact Ew.refl _ _|exact mN|refine lD Z ?_|refine jF _ Z ?_)⟩
  ·refine Nj ?_
   rw[hk]
   refine⟨(),H,dI (by rw[ht];rfl),by repeat (first|exact Ew.refl _ _|exact mN|refine lD Z ?_|refine jF _ Z ?_)⟩
 rintro _ ρ1 w3 H
 show CW _ _ _ _ (dA (gC _ _ ρ1) [(5,J (k+if e.txn then 16 else 0:Nat))]) w3
 have hk19:(k+if e.txn then 16 else 0)<256:=by split<;>omega
 refine W ?_
 refine Zr ?_
 refine iu Z Z ?_
 refine Nl ip ik Z (Ci hk19) Z ?_
 refine tb (vs:=[.int .u8 _]) H d6 zy Z Z Z Z Z Z ?_;intro w4 b23 H
 refine va Z Z ?_
 refine U ?_
 replace H:=H.swap
 have ho:fW dz (.slice (Qd b23) 1 1) mP [od e] [(b23,.cells (qc [.int .u8 (k+if e.txn then 16 else 0:Nat)]).toArray mP)]:=by
  have e1:dz.all [od e]=(qc [.int .u8 (k+if e.txn then 16 else 0:Nat)]).toArray.toList:=by
   show [Value.int .u8 _]=_
   rw[hkB,OH _ hk19]
   rfl
  unfold fW
  rw[e1]
  exact rF.lit (n:=1) (by decide) Z
 refine W<|W ?_
 refine Zr ?_
 refine sa nE Z Z ?_
 refine vV H 0 aj Z Z Z Z ?_
 refine sa fg Z Z ?_
 refine vV H 0 aj Z Z Z Z ?_
 refine sa eB Z Z ?_
 refine vV H 0 aj Z Z Z Z ?_
 refine sa fa Z Z ?_
 refine vV H 0 aj Z Z Z Z ?_
 refine tb (vs:=[J _,J _,J _,J _]) H ba wu Z Z Z Z Z Z ?_;intro w5 b32 H
 refine uU eF Z Z ?_
 refine iu Z Z ?_
 refine U<|Zb ?_
 have hns: ∀ k,k<4->(qc [J e.epoch,J e.pid,J e.ver,J e.seq]).toArray[0+k*1]? =some (J (e.nums.getD k 0)):=by
  intro k hk
  have:k=0∨k=1∨k=2∨k=3:=by omega
  rcases this with rfl|rfl|rfl|rfl<;>rfl
 have hmem: ∀ k,k<4->e.nums.getD k 0∈e.nums:=by
  intro k hk
  have:k=0∨k=1∨k=2∨k=3:=by omega
  rcases this with rfl|rfl|rfl|rfl<;>simp[cO.nums]
 have hstep: ∀ k,k<4->e.nums.take (k+1)=e.nums.take k++[e.nums.getD k 0]:=by
  intro k hk
  have:k=0∨k=1∨k=2∨k=3:=by omega
  rcases this with rfl|rfl|rfl|rfl<;>rfl
 have hnlen: ∀ k,k<=4->(ob (e.nums.take k)).length<=20:=by
  intro k hk
  have:=xO (e.nums.take k) fun n hn=>hnn n (yV hn)
  have h2:(e.nums.take k).length<=4:=by simp[cO.nums];omega
  omega
 refine cf (τ:=Nat×Option Addr×Nat) [6,8,34,35,36,37,38,39,40,41] (fun(k,A,c)=>[(6,.slice A (od e::ob (e.nums.take k)).length c),(34,J k)])
  (fun(k,A,c) w'=>k<=4/\ ∃ L',fW dz (.slice A (od e::ob (e.nums.take k)).length c) mP (od e::ob (e.nums.take k)) L'/\Hp w w' ([(b32,.cells (qc [J e.epoch,J e.pid,J e.ver,J e.seq]).toArray cY),(b1,.cells e.c.toArray du)]++L'++[]) []) (fun(k,_,_)=>4-k) (0,_,1) ⟨by omega,_,ho,H⟩ (kZ Z Z) ?_
 rintro⟨j,A1,c1⟩ ρ1 w1 ⟨hj4,L1,ho,H⟩
 show CW _ _ _ _ (dA (gC _ _ ρ1) [(6,.slice A1 (od e::ob (e.nums.take j)).length c1),(34,J j)]) w1
 refine W ?_
 refine Zr ?_
 refine GZ Z Z Z (fun h35=> ?_) (fun h35=> ?_)
 all_goals refine nk ?_
 all_goals refine AV ?_
 ·refine pL Z ?_
  refine Zk ?_
  have hj:j<4:=by omega
  have hns:=hns j hj
  obtain⟨hm0,hm1⟩:=hnn _ (hmem j hj)
  have hstep:=hstep j hj
  have hnl:=hnlen j hj4
  generalize e.nums.getD j 0=x at*
  obtain⟨m,rfl⟩: ∃ m:Nat,x=m:=⟨x.toNat,by omega⟩
  refine W<|Zb<|W ?_
  refine Zr ?_
  refine OJ ba Z Z I I Z ?_
  refine vV H 0 aj Z Z hns Z ?_
  refine oY Z Z ?_
  refine U ?_
  refine Zr ?_
  refine mh Z Z ?_
  refine iu Z Z ?_
  refine bY Ba (I5 m H ho I (by simp only[cE];omega)) Z Z ?_;rintro _ w5 ⟨A2,c2,L2,rfl,ho2,H2⟩
  refine va Z Z ?_
  refine U ?_
  refine Zr ?_
  refine add Z Z I I Z ?_
  refine iu Z Z ?_
  refine U ?_
  have hnx:od e::ob (e.nums.take (j+1))=od e::ob (e.nums.take j)++yY m:=by
   rw[hstep];simp[ob]
  rw[<-hnx]at ho2
  refine⟨(j+1,A2,c2),⟨by omega,L2,ho2,H2⟩,kZ (by rw[hnx];rfl) Z,by repeat (first|exact mN|refine lD Z ?_|refine jF _ Z ?_),by show 4- (j+1)<4-j;omega⟩
 ·refine oD Z ?_
  refine Zx ?_
  have hj:j=4:=by omega
  subst hj
  have h20:=hnlen 4 I
  have e4:e.nums.take 4=e.nums:=rfl
  rw[e4]at*
  have hne:od e::ob e.nums≠[]:=by simp
  refine W ?_
  refine Zr ?_
  refine mh Z Z ?_
  refine sa qe Z Z ?_
  refine vV H 1 aZ Z Z Z Z ?_
  refine Qq (Y:=dz) oG jo Z O5 H ho hne Z Z (by simp only[cE];omega) Z ?_
  intro A2 c2 w2 L2 hc1 hc2 ho H
  refine va Z Z ?_
  refine U ?_
  have eb:od e::ob e.nums++e.text.data.toList=eM e:=rfl
  rw[eb]at*
  refine W ?_
  refine Zr ?_
  refine mh Z Z ?_
  refine bY yO (Kd (eM e) A2 c2 w2 ((ho.rd H).mono (bG _) (ao _)) I) Z Z ?_;rintro _ w6 ⟨rfl,hb6⟩;replace H:=H.later hb6
  refine oY Z Z ?_
  refine U ?_
  have hs:=Dl (eM e)
  refine W ?_
  refine Zr ?_
  refine mh Z Z ?_
  refine uU eL Z Z ?_
  refine Nl ip ik Z (Ci (n:=(eM e).length) I) Z ?_
  refine tb (vs:=[.int .u8 _]) H d6 zy Z Z Z Z Z Z ?_;intro w7 b51 H7
  refine mh Z Z ?_
  have ho5:fW dz (.slice (Qd b51) 1 1) mP [UInt8.ofNat (eM e).length] [(b51,.cells (qc [.int .u8 ((eM e).length:Nat)]).toArray mP)]:=by
   have e1:dz.all [UInt8.ofNat (eM e).length]=(qc [.int .u8 ((eM e).length:Nat)]).toArray.toList:=by
    show [Value.int .u8 _]=_
    rw[OH _ I]
    rfl
   unfold fW
   rw[e1]
   exact rF.lit (n:=1) (by decide) Z
  refine vc (Y:=dz) oG (K:=[]) (M:=_) H7 ho5 (news:=eM e) Z Z Z (ho.rd (K:=(b51,_)::[_,_]) (M:=[]) H7).src (by simp only[cE,xw];omega) Z ?_
  intro A8 c8 w8 L8 _ _ ho8 H8
  refine iu Z Z ?_
  refine G (NC (b:=8) Z Z I) ?_
  refine Nl ip ik Z (Ci (n:=mp (eM e)/2 ^ 8) I) Z ?_
  refine iu Z Z ?_
  refine Nl ip ik Z (NR (mp (eM e))) Z ?_
  refine tb (vs:=[.int .u8 _,.int .u8 _]) H8 d6 zy Z Z Z Z Z Z ?_;intro w9 b59 H9
  refine vc (Y:=dz) oG (K:=[_]) (M:=_) H9 ho8 (news:=[UInt8.ofNat (mp (eM e)/256),UInt8.ofNat (mp (eM e)%256)]) Z Z Z ?_ (by simp only[ay,cE,xw];omega) Z ?_
  ·have:=wn.row (m:=2) (sz:=1) (H9.ent (i:=0) Z) Z
   have e1:dz.all [UInt8.ofNat (mp (eM e)/256),UInt8.ofNat (mp (eM e)%256)]=[.int .u8 (mp (eM e)/256:Nat),.int .u8 (mp (eM e)%256:Nat)]:=by
    show [Value.int .u8 _,Value.int .u8 _]=_
    rw[OH _ I,OH _ I]
   rw[e1]
   exact this
  intro A9 c9 w10 L9 hc9 _ ho9 H10
  refine va Z Z ?_
  refine oY Z Z ?_
  refine U<|Zt ?_
  refine mf Z Z Z ⟨A9,c9,rfl,?_,hc9,H10.below⟩
  exact ho9.rd H10
/-- the number that is next, from its i-th byte on -/
def rn:Nat->Nat->List UInt8->Nat×List UInt8×Bool
 |_,_,[]=>(0,[],true)
 |i,n,c::l=>if i=5 then(0,c::l,true)else if c.toNat<128 then(n+c.toNat%128*2 ^ (7*i),l,decide (c.toNat=0)&&decide (0<i))else rn (i+1) (n+c.toNat%128*2 ^ (7*i)) l
def EX (l:List UInt8) (bad:Bool):Nat×List UInt8×Bool:=if bad then(0,l,true)else rn 0 0 l
theorem N8 {n x i:Nat} (hn:n<2 ^ (7*i)):n|||x*2 ^ (7*i)=n+x*2 ^ (7*i):=by
 have:=sd hn x
 rw[Nat.or_comm,C7,<-this,sf]
theorem sw {w0 w:World} {F:List cr} {M:List (Nat×Obj)} {b:Nat} {l:List UInt8} {A:Option Addr} {c:Nat} {bad:Bool} (H:Hp w0 w ((b,.cells #[.slice A l.length c,.bool bad] um)::M) F) (hr:Rd dz 0 w0.heap.size A l w0) (hc:l.length<=c):
  db aa tT [.pointer (Qd b)] w fun v w2=>v=J ((EX l bad).1:Nat)/\ ∃ A' c',Hp w0 w2 ((b,.cells #[.slice A' (EX l bad).2.1.length c',.bool (EX l bad).2.2] um)::M) F/\Rd dz 0 w0.heap.size A' (EX l bad).2.1 w0/\(EX l bad).2.1.length<=c':=by
 refine aD tp Z Z ?_
 refine W ?_
 refine Zr ?_
 refine oY Z Z ?_
 refine U<|W ?_
 refine Zr ?_
 refine oY Z Z ?_
 refine U<|W ?_
 refine Zr ?_
 refine oY Z Z ?_
 refine U<|Zb ?_
 refine cf (τ:=Nat×Nat×List UInt8×Bool) [2,3,4,5,6,7,8,9,10,11,12,13,14,15,16,17,18,19,20,21,22,23,24,25,26,27,28,29,30,31,32,33,34,35,36,37,38,39,40,41,42,43,44,45,46,47,48,49,50,51,52,53,54,55,56,57,58,59,60]
  (fun(i,n,_,_)=>[(3,J (n:Nat)),(4,J (i:Nat))])
  (fun(i,n,l1,bad1) w'=>i<=5/\n<2 ^ (7*i)/\(if bad1 then(0,l1,true)else rn i n l1)=EX l bad/\ ∃ A c,Hp w0 w' ((b,.cells #[.slice A l1.length c,.bool bad1] um)::M) F/\Rd dz 0 w0.heap.size A l1 w0/\l1.length<=c) (fun(_,_,l1,_)=>l1.length) (0,0,l,bad) ⟨by omega,by decide,rfl,A,c,H,hr,hc⟩ (kZ Z Z) ?_
 rintro⟨i,n,l1,bad1⟩ ρ1 w1 ⟨hi5,hn,hrn,A1,c1,H,hr,hc⟩
 show CW _ _ _ _ (dA (gC _ _ ρ1) [(3,J (n:Nat)),(4,J (i:Nat))]) w1
 refine W<|Zb<|W<|W ?_
 refine Zr ?_
 refine GT Z Z ?_
 refine JV Z Z ?_
 refine sa kh Z Z ?_
 refine vV H 0 dQ Z Z Z Z ?_
 refine z0 Z Z ?_
 by_cases hstop:bad1=true∨l1=[]∨i=5
 ·have hres:EX l bad=(0,l1,true):=by
   rw[<-hrn]
   rcases hstop with h|h|h
   ·rw[if_pos h]
   ·subst h;split<;>rfl
   ·subst h;split
    ·rfl
    ·cases l1<;>simp[rn]
  cases bad1
  ·refine tM Z ?_
   refine GT Z Z ?_
   refine ZG ?_
   refine JV Z Z ?_
   refine ZG ?_
   refine sa lY Z Z ?_
   refine ZG ?_
   refine vV H 0 d5 Z Z Z Z ?_
   refine ZG ?_
   refine uU eL Z Z ?_
   refine ZG ?_
   by_cases hl:l1=[]
   ·refine LB Z Z (by rw[hl];rfl) Z ?_
    refine sx Z Z Z ?_
    refine z0 Z Z ?_
    iterate 2 refine rN Z Z Z ?_
    refine wF Z Z Z ?_
    refine U<|ZT Z<|W ?_
    refine Zr ?_
    refine GT Z Z ?_
    refine JV Z Z ?_
    refine sa kh Z Z ?_
    refine ON H 0 iI Z Z Z (by simp) fun w2 H2=>U<|W ?_
    refine Zr ?_
    refine oY Z Z ?_
    refine U<|Zt ?_
    rw[hres]
    exact cy (v:=J 0) Z Z ⟨rfl,A1,c1,H2,hr,hc⟩
   ·have hi:i=5:=by
     rcases hstop with h|h|h
     ·cases h
     ·exact absurd h hl
     ·exact h
    have hl0:l1.length≠0:=fun h=>hl (bT h)
    refine Hl Z Z I Z ?_
    refine sx Z Z Z ?_
    refine z0 Z Z ?_
    refine ZG ?_
    refine iu Z Z ?_
    refine ZG<|LB Z Z I Z ?_
    refine sx Z Z Z ?_
    refine U<|ZT Z<|W ?_
    refine Zr ?_
    refine GT Z Z ?_
    refine JV Z Z ?_
    refine sa kh Z Z ?_
    refine ON H 0 iI Z Z Z (by simp) fun w2 H2=>U<|W ?_
    refine Zr ?_
    refine oY Z Z ?_
    refine U<|Zt ?_
    rw[hres]
    exact cy (v:=J 0) Z Z ⟨rfl,A1,c1,H2,hr,hc⟩
  ·iterate 6 refine rN Z Z Z ?_
   refine wF Z Z Z ?_
   refine z0 Z Z ?_
   iterate 2 refine rN Z Z Z ?_
   refine wF Z Z Z ?_
   refine U<|ZT Z<|W ?_
   refine Zr ?_
   refine GT Z Z ?_
   refine JV Z Z ?_
   refine sa kh Z Z ?_
   refine ON H 0 iI Z Z Z (by simp) fun w2 H2=>U<|W ?_
   refine Zr ?_
   refine oY Z Z ?_
   refine U<|Zt ?_
   rw[hres]
   exact cy (v:=J 0) Z Z ⟨rfl,A1,c1,H2,hr,hc⟩
 ·have hb1:bad1=false:=by
   cases bad1
   ·rfl
   ·exact absurd (.inl Z) hstop
  subst hb1
  have hi:i<5:=by
   have:i≠5:=fun h=>hstop (.inr (.inr h))
   omega
  obtain⟨x,l2,rfl⟩: ∃ x l2,l1=x::l2:=by
   cases l1 with
   |nil=>exact absurd (.inr (.inl Z)) hstop
   |cons x l2=>exact⟨x,l2,rfl⟩
  have hx:x.toNat<256:=UInt8.toNat_lt _
  obtain⟨bb,o,rfl,-,hbl,hcl⟩:=hr.at_ (k:=0) (by simp)
  rw[if_neg (by decide),rn,if_neg I]at hrn
  have h7:2 ^ (7*i)<=2 ^ 28:=Nat.pow_le_pow_right (by decide) I
  have hmod:x.toNat%128<128:=jA _ (by decide)
  have hmul:x.toNat%128*2 ^ (7*i)<=128*2 ^ 28:=Nat.mul_le_mul I h7
  have h71:2 ^ (7*(i+1))=128*2 ^ (7*i):=by rw[Nat.mul_add,Nat.pow_add];omega
  have hmul2:x.toNat%128*2 ^ (7*i)<=127*2 ^ (7*i):=dh _ I
  refine ZG ?_
  refine GT Z Z ?_
  refine ZG ?_
  refine JV Z Z ?_
  refine ZG ?_
  refine sa lY Z Z ?_
  refine ZG ?_
  refine vV H 0 d5 Z Z Z Z ?_
  refine ZG ?_
  refine uU eL Z Z ?_
  refine ZG<|Hl Z Z (by simp;omega) Z ?_
  refine sx Z Z Z ?_
  refine z0 Z Z ?_
  refine ZG ?_
  refine iu Z Z ?_
  refine ZG<|Hl Z Z I Z ?_
  refine sx Z Z Z ?_
  refine U<|ZF Z<|Zk<|W ?_
  refine Zr ?_
  refine GT Z Z ?_
  refine JV Z Z ?_
  refine sa lY Z Z ?_
  refine vV H 0 d5 Z Z Z Z ?_
  refine OJ d6 Z Z I (by simp) Z ?_
  refine ld mt Z ((H.below.cell (p:=⟨bb,_,none⟩) hbl).trans (hcl 0 _ Z)) Z ?_
  refine Nl ik ip Z (ve (n:=x.toNat) I) Z ?_
  refine oY Z Z ?_
  refine U<|W ?_
  refine Zr ?_
  refine GT Z Z ?_
  refine GT Z Z ?_
  refine JV Z Z ?_
  refine sa lY Z Z ?_
  refine vV H 0 d5 Z Z Z Z ?_
  refine sZ d6 Z Z I (by simp;omega) hc Z ?_;intro A39 hA39
  refine JV Z Z ?_
  refine sa lY Z Z ?_
  refine P7 H 0 Cy Z Z Z (by simp) fun w2 H2=> ?_
  have hr2:Rd dz 0 w0.heap.size A39 l2 w0:=hr.from_ (k:=1) hA39 (fun h=>h)
  have H:Hp w0 w2 ((b,.cells #[.slice A39 l2.length (c1-1),.bool false] um)::M) F:=H2
  have hc2:l2.length<=c1-1:=by simp only[cE]at hc;omega
  refine U<|W ?_
  refine Zr ?_
  refine iu Z Z ?_
  refine iu Z Z ?_
  refine G (NO (a:=x.toNat) (b:=127) Z Z I I) ?_
  rw[L0]
  refine iu Z Z ?_
  refine mul Z Z I I Z ?_
  refine G (ND (a:=x.toNat%128) (b:=7*i) (k:=.i64) Z (by simp;rfl) I I)<|G (MK (a:=n) (b:=x.toNat%128*2 ^ (7*i)) Z Z I I) ?_
  rw[N8 hn]
  refine oY Z Z ?_
  refine U<|W ?_
  refine Zr ?_
  refine iu Z Z ?_
  refine GZ Z Z Z (fun h50=> ?_) (fun h50=> ?_)
  all_goals refine nk ?_
  ·rw[if_pos I]at hrn
   refine ZT Z<|W ?_
   refine Zr ?_
   refine GT Z Z ?_
   refine iu Z Z ?_
   by_cases hx0:x.toNat=0
   ·refine LB Z Z I Z ?_
    refine z0 Z Z ?_
    refine ZG ?_
    refine iu Z Z ?_
    refine ZG<|G (kc (a:=(i:Int)) (b:=0) Z Z) ?_
    refine wF Z Z Z ?_
    refine JV Z Z ?_
    refine sa kh Z Z ?_
    refine ON H 0 iI Z Z Z (by simp) fun w3 H3=>U<|W ?_
    refine Zr ?_
    refine iu Z Z ?_
    refine oY Z Z ?_
    refine U<|Zt ?_
    rw[<-hrn]
    have e:(decide (x.toNat=0)&&decide (0<i))=decide ((0:Int)<i):=by
     rw[decide_eq_true hx0,gU];exact decide_eq_decide.2 I
    rw[e]
    exact cy (v:=J (n+x.toNat%128*2 ^ (7*i):Nat)) Z Z ⟨rfl,A39,c1-1,H3,hr2,hc2⟩
   ·refine Hl Z Z I Z ?_
    refine z0 Z Z ?_
    iterate 2 refine rN Z Z Z ?_
    refine sx Z Z Z ?_
    refine JV Z Z ?_
    refine sa kh Z Z ?_
    refine ON H 0 iI Z Z Z (by simp) fun w3 H3=>U<|W ?_
    refine Zr ?_
    refine iu Z Z ?_
    refine oY Z Z ?_
    refine U<|Zt ?_
    rw[<-hrn]
    have e:(decide (x.toNat=0)&&decide (0<i))=false:=by rw[decide_eq_false hx0];rfl
    rw[e]
    exact cy (v:=J (n+x.toNat%128*2 ^ (7*i):Nat)) Z Z ⟨rfl,A39,c1-1,H3,hr2,hc2⟩
  ·rw[if_neg I]at hrn
   refine ZF Z<|Zk ?_
   refine Zr ?_
   refine iu Z Z ?_
   refine add Z Z I I Z ?_
   refine oY Z Z ?_
   refine U ?_
   refine⟨(i+1,n+x.toNat%128*2 ^ (7*i),l2,false),⟨by omega,by rw[h71];omega,by rw[<-hrn];rfl,A39,c1-1,H,hr2,hc2⟩,kZ Z Z,by repeat (first|exact mN|refine lD Z ?_|refine jF _ Z ?_),by show l2.length<l2.length+1;omega⟩
/-- an entry out of a body -/
def tc (c:UInt8) (l:List UInt8):cO×Bool:=
 let q1:=EX l false
 let q2:=EX q1.2.1 q1.2.2
 let q3:=EX q2.2.1 q2.2.2
 let q4:=EX q3.2.1 q3.2.2
 (⟨(q1.1:Nat),(q2.1:Nat),(q3.1:Nat),(q4.1:Nat),(c.toNat&&&15:Nat),!decide (((c.toNat&&&16:Nat):Int)=0),⟨q4.2.1.toArray⟩⟩,q4.2.2)
def uj (c:UInt8) (l:List UInt8):Bool:=!(tc c l).2&&decide (c.toNat<32)&&decide (eG (tc c l).1=0)
theorem Ns (c0:UInt8) (l:List UInt8) (A:Option Addr) (c:Nat) (w:World) (hr:Rd dz 0 w.heap.size A (c0::l) w) (hc:(c0::l).length<=c):
  db aa Ft [.slice A (c0::l).length c] w fun v w2=>v=.tuple #[(tc c0 l).1.v,.bool (uj c0 l)]/\Below w.heap.size w w2:=by
 obtain⟨bb,o,rfl,-,hbl,hcl⟩:=hr.at_ (k:=0) (by simp)
 have hc0:c0.toNat<256:=UInt8.toNat_lt _
 refine aD DT Z Z ?_
 have H:=Hp.start w
 refine W ?_
 refine Zr ?_
 refine eE H gd Z ?_;intro w1 b2 H
 refine O7 Z Z ?_
 refine U<|W ?_
 refine Zr ?_
 refine mh Z Z ?_
 refine sZ d6 Z Z I (by simp;omega) hc Z ?_;intro A7 hA7
 have hr7:Rd dz 0 w.heap.size A7 l w:=hr.from_ (k:=1) hA7 (fun h=>h)
 have hc7:l.length<=c-1:=by simp only[cE]at hc;omega
 refine G (v:=.agg #[.slice A7 l.length (c-1),.bool false]) (bi ID JZ Z) ?_
 refine fT H Z Z ?_;intro w2 b9 H
 refine Qo Z Z ?_
 refine U<|W ?_
 have hcl2:=fun(w':World) (hw':oN w2 w')=>((H.later hw').below.cell (p:=⟨bb,_,none⟩) hbl).trans (hcl 0 _ Z)
 refine bz bX [0,1,2,3,4,5,6,7,8,9,10,11] [12] [11] [0,1,3,4,5,6,8,9,10] (sp [(11,Sp.blk w2.heap.size (.agg #[J 0,J 0,J 0,J 0,J 0,.bool false,.string ⟨#[]⟩]) du)]) N N N N Nq (cG _) ?_
 refine aw Z Z Z Z Z (fun _ _=>ij Z) ?_
 refine aw Z Z Z Z Z (fun _ _=>s7 d6 Z Z I (by simp)) ?_
 refine aw Z Z Z Z Z (fun w' hw'=>aU mt Z (hcl2 w' hw')) ?_
 refine aw Z Z Z Z Z (fun _ _=>LZ (a:=c0.toNat) (b:=15) Z Z I I) ?_
 refine aw Z Z Z Z Z (fun _ _=>CY ik ip Z (ve (n:=c0.toNat&&&15) (ml (HC I)))) ?_
 refine aw Z Z Z Z Z (fun _ _=>ij Z) ?_
 refine aw Z Z Z Z Z (fun _ _=>s7 d6 Z Z I (by simp)) ?_
 refine aw Z Z Z Z Z (fun w' hw'=>aU mt Z (hcl2 w' hw')) ?_
 refine aw Z Z Z Z Z (fun _ _=>LZ (a:=c0.toNat) (b:=16) Z Z I I) ?_
 refine aw Z Z Z Z Z (fun _ _=>iO (k:=.u8) (a:=((c0.toNat&&&16:Nat):Int)) (b:=0) Z Z) ?_
 refine aw (v:=.agg (cO.c ⟨0,0,0,0,(c0.toNat&&&15:Nat),!decide (((c0.toNat&&&16:Nat):Int)=0),⟨#[]⟩⟩).toArray) Z Z Z Z Z (fun _ _=>bi n6 gd Z)<|NN gd Z Z Z Z (fun w' w2 b hC hb hh=>⟨b,rfl,aT hC.size hb,hh⟩) ?_
 rintro _ ⟨_,_,b5,rfl,_,_⟩
 refine aS ?_
 rintro w3 hw3 ⟨-,b,he,hge,hb5⟩
 cases he
 replace H:=(H.adoptNew hw3 hb5 hge).swap
 refine Kj H 1 eS Z Z Z Z Z Z ?_;intro w4 H
 refine U<|W ?_
 refine Zr ?_
 refine GT Z Z ?_
 refine bY ir (sw (l:=l) (bad:=false) H hr7 hc7) Z Z ?_;rintro _ w5 ⟨rfl,A1,c1,H1,hr1,hc1⟩
 refine GT Z Z ?_
 refine bY ir (sw H1 hr1 hc1) Z Z ?_;rintro _ w6 ⟨rfl,A2,c2,H2,hr2,hc2⟩
 refine GT Z Z ?_
 refine bY ir (sw H2 hr2 hc2) Z Z ?_;rintro _ w7 ⟨rfl,A3,c3,H3,hr3,hc3⟩
 refine GT Z Z ?_
 refine bY ir (sw H3 hr3 hc3) Z Z ?_;rintro _ w8 ⟨rfl,A4,c4,H4,hr4,hc4⟩
 generalize hE:tc c0 l=E
 have hEE:E=_:=hE.symm
 unfold tc at hEE
 simp only at hEE
 generalize hq1:EX l false=q1 at*
 generalize hq2:EX q1.2.1 q1.2.2=q2 at*
 generalize hq3:EX q2.2.1 q2.2.2=q3 at*
 generalize hq4:EX q3.2.1 q3.2.2=q4 at*
 obtain⟨n1,l1,x1⟩:=q1
 obtain⟨n2,l2,x2⟩:=q2
 obtain⟨n3,l3,x3⟩:=q3
 obtain⟨n4,l4,x4⟩:=q4
 dsimp only at*
 clear H H1 H2 H3 hr1 hr2 hr3 hc1 hc2 hc3 hq1 hq2 hq3 hq4
 refine sa nE Z Z ?_
 refine Pe H4 1 bI Z Z Z (fe Z) ?_;intro w9 H
 refine sa fg Z Z ?_
 refine Pe H 1 bI Z Z Z (fe Z) ?_;intro w10 H
 refine sa eB Z Z ?_
 refine Pe H 1 bI Z Z Z (fe Z) ?_;intro w11 H
 refine sa fa Z Z ?_
 refine Pe H 1 bI Z Z Z (fe Z) ?_;intro w12 H
 refine U<|W ?_
 refine Zr ?_
 refine GT Z Z ?_
 refine JV Z Z ?_
 refine sa lY Z Z ?_
 refine vV H 0 d5 Z Z Z Z ?_
 refine Go.Eng.l1 (Ou d6 ik jo Z Z (fun _=>rfl) (hr4.below H.below)) Z Z Z ?_
 refine sa qe Z Z ?_
 refine P6 H 1 zJ Z Z Z (fe Z) ?_;intro w13 H
 refine U ?_
 have H:Hp w w13 [(b9,.cells #[.slice A4 l4.length c4,.bool x4] um),(b5,.cells E.1.c.toArray du),(b2,.cells (cO.c ⟨0,0,0,0,0,false,⟨#[]⟩⟩).toArray du)] []:=by rw[hEE];exact H
 have hx4:E.2=x4:=by rw[hEE]
 have hcl3:=fun(w':World) (hw':oN w13 w')=>((H.later hw').below.cell (p:=⟨bb,_,none⟩) hbl).trans (hcl 0 _ Z)
 obtain⟨E,x5⟩:=E
 dsimp only at*
 subst hx4
 clear hEE
 refine W ?_
 refine bz bX [0,1,2,3,4,5,6,7,8,9,10,11,12,13,14,15,16] [17,18] [14] [1,2,3,5,6,7,8,10,11,12,15,16] (sp [(14,Sp.one (J (eG E)))]) N N N N Nq (cG _) ?_
 refine aw Z Z Z Z Z (fun w' hw'=>je dG Z ((H.later hw').ent (i:=1) Z) Z) ?_
 refine aw Z Z Z Z Z (fun _ _=>ij Z) ?_
 refine aw Z Z Z Z Z (fun _ _=>aI Z) ?_
 refine aw Z Z Z Z Z (fun _ _=>Zf kh Z) ?_
 refine aw Z Z Z Z Z (fun w' hw'=>aU dQ Z (aB ((H.later hw').ent (i:=0) Z) Z)) ?_
 refine aw Z Z Z Z Z (fun _ _=>dF Z) ?_
 refine aw Z Z Z Z Z (fun _ _=>ij Z) ?_
 have hob:uj c0 l=(!x5&&decide (c0.toNat<32)&&decide (eG E=0)):=by unfold uj;rw[hE]
 rw[hob]
 cases x5
 ·refine aw Z Z Z Z Z (fun _ _=>ij Z) ?_
  refine aw Z Z Z Z Z (fun _ _=>s7 d6 Z Z I (by simp)) ?_
  refine aw Z Z Z Z Z (fun w' hw'=>aU mt Z (hcl3 w' hw')) ?_
  refine aw Z Z Z Z Z (fun _ _=>cH (k:=.u8) (a:=(c0.toNat:Int)) (b:=32) Z Z) ?_
  refine aw Z Z Z Z Z (fun _ _=>KA Z Z) ?_
  refine aw Z Z Z Z Z (fun _ _=>ij Z) ?_
  have h32:decide ((c0.toNat:Int)<32)=decide (c0.toNat<32):=decide_eq_decide.2 I
  rw[h32]
  cases h:decide (c0.toNat<32)
  ·iterate 3 refine eQ Z Z Z Z ?_
   refine aw Z Z Z Z Z (fun _ _=>HP Z Z) ?_
   refine aS ?_
   intro w' hw' hF;replace H:=H.later hw';clear hw'
   refine Kj H 2 eS Z Z Z Z Z Z ?_;intro w15 H
   refine O7 Z Z<|U<|Zt ?_
   exact Ll Z dG Z (H.ent (i:=2) Z) Z Z ⟨rfl,H.below⟩
  ·refine aw Z Z Z Z Z (fun w' hw'=>je dG Z ((H.later hw').ent (i:=1) Z) Z) ?_
   refine yQ rz Z Z Z Z (fun w' _=>(xF E w').mono (fun v w2 ⟨h1,h2⟩=>⟨h2,h1⟩)) Z ?_
   rintro _ ⟨_,_,rfl⟩
   refine aw Z Z Z Z Z (fun _ _=>bl Z Z) ?_
   refine aw Z Z Z Z Z (fun _ _=>KA Z Z) ?_
   refine aS ?_
   intro w' hw' hF;replace H:=H.later hw';clear hw'
   refine Kj H 2 eS Z Z Z Z Z Z ?_;intro w15 H
   refine O7 Z Z<|U<|Zt ?_
   exact Ll Z dG Z (H.ent (i:=2) Z) Z Z ⟨rfl,H.below⟩
 ·iterate 4 refine eQ Z Z Z Z ?_
  refine aw Z Z Z Z Z (fun _ _=>HP Z Z) ?_
  refine aw Z Z Z Z Z (fun _ _=>ij Z) ?_
  iterate 3 refine eQ Z Z Z Z ?_
  refine aw Z Z Z Z Z (fun _ _=>HP Z Z) ?_
  refine aS ?_
  intro w' hw' hF;replace H:=H.later hw';clear hw'
  refine Kj H 2 eS Z Z Z Z Z Z ?_;intro w15 H
  refine O7 Z Z<|U<|Zt ?_
  exact Ll Z dG Z (H.ent (i:=2) Z) Z Z ⟨rfl,H.below⟩
/-- the entry that is first, and how many bytes it takes -/
def tD:List UInt8->Option (cO×Nat)
 |[]=>none
 |n::r=>
  if n.toNat=0∨r.length<n.toNat+2 then none
  else if mp (r.take n.toNat)≠(r.getD n.toNat 0).toNat*256+(r.getD (n.toNat+1) 0).toNat then none
  else if uj (r.headD 0) (r.take n.toNat).tail=true then some ((tc (r.headD 0) (r.take n.toNat).tail).1,n.toNat+3)else none
inductive It:List UInt8->List cO->Nat->Prop
 |stop {l:List UInt8} (h:tD l=none):It l [] 0
 |go {l:List UInt8} {e:cO} {k n:Nat} {es:List cO} (h:tD l=some (e,k)) (hd:It (l.drop k) es n):It l (e::es) (k+n)
theorem OQ {a b:Nat} (hb:b<256):a*2 ^ 8|||b=a*256+b:=by
 have:=sd (i:=8) (b:=b) (by simpa using hb) a
 rw[C7,<-this]
theorem Mr {l:List UInt8} {e:cO} {k:Nat} (h:tD l=some (e,k)):4<=k/\k<=l.length:=by
 cases l with
 |nil=>cases h
 |cons n r=>
  simp only[tD]at h
  split at h;· cases h
  split at h;· cases h
  split at h
  injection h with h;injection h with h1 h2
  rename_i h3 _ _
  simp only[cE]
  omega
  cases h
theorem rV (l:List UInt8) (A:Option Addr) (c:Nat) (w:World) (hr:Rd dz 0 w.heap.size A l w) (hc:l.length<=c) (hbd:l.length<=1000000000000):
  db aa BJ [.slice A l.length c] w fun v w2=> ∃ es n A' c',v=.tuple #[.slice A' es.length c',J (n:Nat)]/\It l es n/\Rd gL w.heap.size w2.heap.size A' es w2/\es.length<=c'/\Below w.heap.size w w2:=by
 refine aD AF Z Z ?_
 have H:=Hp.start w
 refine W ?_
 refine Zr ?_
 refine va Z Z ?_
 refine oY Z Z ?_
 refine U<|W ?_
 refine Zr ?_
 refine va Z Z ?_
 refine U<|W ?_
 refine Zr ?_
 refine oY Z Z ?_
 refine U<|W<|Zb ?_
 refine cf (τ:=Nat×List cO×Option Addr×Nat) [4,5,6,7,8,9,10,11,12,13,14,15,16,17,18,19,20,21,22,23,24,25,26,27,28,29,30,31,32,33,34,35,36,37,38,39,40,41,42,43,44,45,46,47,48,49,50,51,52,53,54,55,56,57,58,59,60,61,62,63,64,65,66,67,68,69,70,71,72,73]
  (fun(at_,out,A1,c1)=>[(4,.slice A1 out.length c1),(5,J (at_:Nat))])
  (fun(at_,out,A1,c1) w'=>at_<=l.length/\out.length<=at_/\(∀ es n,It (l.drop at_) es n->It l (out++es) (at_+n))/\ ∃ L',fW gL (.slice A1 out.length c1) du out L'/\Hp w w' ([]++L'++[]) [])
  (fun(at_,_,_,_)=>l.length-at_) (0,[],none,0) ⟨by omega,by simp,fun es n h=>by simpa using h,[],fW.nil,H⟩ (kZ Z Z) ?_
 rintro⟨at_,out,A1,c1⟩ ρ1 w1 ⟨hat,hout,hdec,L1,ho,H⟩
 show CW _ _ _ _ (dA (gC _ _ ρ1) [(4,.slice A1 out.length c1),(5,J (at_:Nat))]) w1
 have hfin: ∀ {w2:World},tD (l.drop at_)=none->Hp w w2 ([]++L1++[]) []-> ∃ es n A' c',(Value.tuple #[.slice A1 out.length c1,J (at_:Nat)])=.tuple #[.slice A' es.length c',J (n:Nat)]/\It l es n/\Rd gL w.heap.size w2.heap.size A' es w2/\es.length<=c'/\Below w.heap.size w w2:=fun hs H=>by
  have hd:=hdec [] 0 (.stop hs)
  rw[aY,se]at hd
  obtain⟨A2,c2,he,hlc,-⟩:=ho.form
  injection he with h1 h2 h3
  subst h3
  exact⟨out,at_,A1,c1,rfl,hd,ho.rd H,hlc,H.below⟩
 refine W<|W ?_
 refine Zr ?_
 refine iu Z Z ?_
 refine mh Z Z ?_
 refine uU eL Z Z ?_
 refine GZ Z Z Z (fun h13=> ?_) (fun h13=> ?_)
 all_goals refine nk ?_
 ·refine pL Z ?_
  refine Zk ?_
  have hlt:at_<l.length:=by omega
  obtain⟨bb,o,hA,-,hbl,hcl0⟩:=hr.at_ hlt
  subst hA
  have hcl: ∀ {k:Nat} (hk:k<l.length) (w':World),Below w.heap.size w w'->w'.cell? ⟨bb,o+k*1,none⟩=some (.int .u8 (l[k].toNat:Nat)):=fun{k} hk w' hb=>by
   obtain⟨bb',o',hA,-,hbl,hcl⟩:=hr.at_ hk
   injection hA with hA
   injection hA with h1 h2
   subst h1;subst h2
   exact(hb.cell (p:=⟨bb,_,none⟩) hbl).trans (hcl 0 _ Z)
  have hd0:l.drop at_=l[at_]::l.drop (at_+1):=mS hlt
  have hx:=hcl hlt
  have h256:l[at_].toNat<256:=UInt8.toNat_lt _
  generalize hn:l[at_].toNat=n at*
  refine Zb<|W ?_
  refine Zr ?_
  refine mh Z Z ?_
  refine iu Z Z ?_
  refine OJ d6 Z Z I I Z ?_
  refine ld mt Z (hx _ H.below) Z ?_
  refine Nl ik ip Z (ve (n:=n) I) Z ?_
  refine oY Z Z ?_
  refine U<|W<|W ?_
  refine Zr ?_
  refine iu Z Z ?_
  by_cases hstop:n=0∨l.length<at_+n+3
  ·have hs:tD (l.drop at_)=none:=by
    rw[hd0,tD,hn,if_pos]
    rw[dH];omega
   by_cases hn0:n=0
   ·refine LB Z Z I Z ?_
    refine z0 Z Z ?_
    iterate 7 refine rN Z Z Z ?_
    refine wF Z Z Z ?_
    refine U<|ZT Z<|Zx<|W ?_
    refine Zr ?_
    refine mh Z Z ?_
    refine iu Z Z ?_
    refine va Z Z ?_
    refine oY Z Z ?_
    refine U<|Zt ?_
    exact mf Z Z Z (hfin hs H)
   ·refine Hl Z Z I Z ?_
    refine z0 Z Z ?_
    refine ZG ?_
    refine iu Z Z ?_
    refine ZG ?_
    refine iu Z Z ?_
    refine ZG ?_
    refine add Z Z I I Z ?_
    refine ZG ?_
    refine add Z Z I I Z ?_
    refine ZG ?_
    refine mh Z Z ?_
    refine ZG ?_
    refine uU eL Z Z ?_
    refine ZG<|Oj Z Z I Z ?_
    refine sx Z Z Z ?_
    refine U<|ZT Z<|Zx<|W ?_
    refine Zr ?_
    refine mh Z Z ?_
    refine iu Z Z ?_
    refine va Z Z ?_
    refine oY Z Z ?_
    refine U<|Zt ?_
    exact mf Z Z Z (hfin hs H)
  have hn0:n≠0:=fun h=>hstop (.inl h)
  have hlen:at_+n+3<=l.length:=by omega
  refine Hl Z Z I Z ?_
  refine z0 Z Z ?_
  refine ZG ?_
  refine iu Z Z ?_
  refine ZG ?_
  refine iu Z Z ?_
  refine ZG ?_
  refine add Z Z I I Z ?_
  refine ZG ?_
  refine add Z Z I I Z ?_
  refine ZG ?_
  refine mh Z Z ?_
  refine ZG ?_
  refine uU eL Z Z ?_
  refine ZG<|Ok Z Z I Z ?_
  refine sx Z Z Z ?_
  refine U<|ZF Z<|Zk<|W ?_
  refine Zr ?_
  refine mh Z Z ?_
  refine iu Z Z ?_
  refine add Z Z I I Z ?_
  refine iu Z Z ?_
  refine add Z Z I I Z ?_
  refine iu Z Z ?_
  refine add Z Z I I Z ?_
  refine NB d6 Z Z Z I I I Z ?_;intro A37 hA37
  have e1:((at_:Int)+1).toNat=at_+1:=by omega
  have e2:((at_:Int)+1+n).toNat- (at_+1)=n:=by omega
  rw[e1]at hA37⊢
  rw[e2]
  have hrx:Rd dz 0 w.heap.size A37 ((l.drop (at_+1)).take n) w:=(hr.from_ hA37 (fun h=>by omega)).take n
  have hxl:((l.drop (at_+1)).take n).length=n:=by rw[aH,dH];omega
  refine va Z Z ?_
  refine U ?_
  have hg1:(l.drop (at_+1)).getD n 0=l[at_+n+1]:=by
   rw[bZ,dL,show at_+1+n=at_+n+1 by omega,ah I];rfl
  have hg2:(l.drop (at_+1)).getD (n+1) 0=l[at_+n+2]:=by
   rw[bZ,dL,show at_+1+(n+1)=at_+n+2 by omega,ah I];rfl
  have hc1:=hcl (k:=at_+n+1) I
  have hc2:=hcl (k:=at_+n+2) I
  have hb1:l[at_+n+1].toNat<256:=UInt8.toNat_lt _
  have hb2:l[at_+n+2].toNat<256:=UInt8.toNat_lt _
  generalize l[at_+n+1]=x1 at*
  generalize l[at_+n+2]=x2 at*
  generalize hX:(l.drop (at_+1)).take n=X at*
  have hstep:tD (l.drop at_)=if mp X≠x1.toNat*256+x2.toNat then none else if uj (X.headD 0) X.tail=true then some ((tc (X.headD 0) X.tail).1,n+3)else none:=by
   rw[hd0,tD,hn,if_neg (by rw[dH];omega),hX,hg1,hg2]
   have:(l.drop (at_+1)).headD 0=X.headD 0:=by
    rw[<-hX]
    cases h:l.drop (at_+1)with
    |nil=>simp
    |cons a r=>
     cases n with
     |zero=>exact absurd Z hn0
     |succ n=>rfl
   rw[this]
  have hcy1:((at_:Int)+n+1).toNat=at_+n+1:=by omega
  have hcy2:((at_:Int)+n+2).toNat=at_+n+2:=by omega
  rw[<-hcy1]at hc1
  rw[<-hcy2]at hc2
  have hor:x1.toNat*2 ^ 8|||x2.toNat=x1.toNat*256+x2.toNat:=OQ hb2
  have hslt:=Dl X
  refine W<|W ?_
  refine bz bX [0,2,3,4,5,6,7,8,9,10,11,12,13,14,15,16,17,18,19,1,20] [] [1] [0,2,3,4,5,6,7,9,10,11,12,13,14,15,16,18,19,20] (sp [(1,Sp.one (J (mp X:Nat)))]) N N N N Nq (cG _) ?_
  refine aw Z Z Z Z Z (fun _ _=>ij Z) ?_
  refine aw Z Z Z Z Z (fun _ _=>ij Z) ?_
  refine aw Z Z Z Z Z (fun _ _=>ij Z) ?_
  refine aw Z Z Z Z Z (fun _ _=>ij Z) ?_
  refine aw Z Z Z Z Z (fun _ _=>br Z Z I I) ?_
  refine aw Z Z Z Z Z (fun _ _=>br Z Z I I) ?_
  refine aw Z Z Z Z Z (fun _ _=>s7 d6 Z Z I I) ?_
  refine aw Z Z Z Z Z (fun w' hw'=>aU mt Z (hc1 w' (H.later hw').below)) ?_
  refine aw Z Z Z Z Z (fun _ _=>CY ik ip Z (ve (n:=x1.toNat) I)) ?_
  refine aw Z Z Z Z Z (fun _ _=>ND (a:=x1.toNat) (b:=8) (k:=.u64) Z Z I I) ?_
  refine aw Z Z Z Z Z (fun _ _=>ij Z) ?_
  refine aw Z Z Z Z Z (fun _ _=>ij Z) ?_
  refine aw Z Z Z Z Z (fun _ _=>ij Z) ?_
  refine aw Z Z Z Z Z (fun _ _=>br Z Z I I) ?_
  refine aw Z Z Z Z Z (fun _ _=>br Z Z I I) ?_
  refine aw Z Z Z Z Z (fun _ _=>s7 d6 Z Z I I) ?_
  refine aw Z Z Z Z Z (fun w' hw'=>aU mt Z (hc2 w' (H.later hw').below)) ?_
  refine aw Z Z Z Z Z (fun _ _=>CY ik ip Z (ve (n:=x2.toNat) I)) ?_
  refine aw Z Z Z Z Z (fun _ _=>MK (a:=x1.toNat*2 ^ 8) (b:=x2.toNat) Z Z I I) ?_
  rw[hor]
  refine yQ yO Z Z Z Z (fun w' hw'=>(Kd X A37 (c- (at_+1)) w' ((hrx.below (H.later hw').below).mono (ao _) (H.later hw').size) I).mono (fun v w2 ⟨h1,h2⟩=>⟨h2,h1⟩)) (by rw[hxl];rfl) ?_
  rintro _ ⟨_,_,rfl⟩
  by_cases hsum:mp X=x1.toNat*256+x2.toNat
  ·refine aw Z Z Z Z Z (fun _ _=>bW Z Z I) ?_
   refine aS ?_
   intro w' hw' hF;replace H:=H.later hw';clear hw' hF
   refine U<|ZF Z<|Zk ?_
   obtain⟨c0,X',rfl⟩: ∃ c0 X',X=c0::X':=by
    cases X with
    |nil=>simp at hxl;omega
    |cons a X=>exact⟨a,X,rfl⟩
   rw[if_neg I]at hstep
   refine W ?_
   refine Zr ?_
   refine mh Z Z ?_
   rw[<-hxl]
   refine bY Ec (Ns c0 X' A37 _ _ ((hrx.below H.below).mono (ao _) H.size) (by rw[hxl];omega)) Z Z ?_;rintro _ w2 ⟨rfl,hb2⟩;replace H:=H.later hb2
   rw[hxl]
   refine Qe Z Z ?_
   refine PP Z Z Z ?_
   refine PP Z Z Z ?_
   refine eE H gd Z ?_;intro w3 b8 H
   refine Kj H 0 eS Z Z Z Z Z Z ?_;intro w4 H
   refine O7 Z Z ?_
   refine U<|W<|W ?_
   refine Zr ?_
   refine z0 Z Z ?_
   refine not Z Z ?_
   refine U ?_
   refine jl (b:=!uj c0 X') Z (fun hb=> ?_) (fun hb=> ?_)
   ·rw[if_neg (by simpa using hb)]at hstep
    refine Zx<|W ?_
    refine Zr ?_
    refine mh Z Z ?_
    refine iu Z Z ?_
    refine va Z Z ?_
    refine oY Z Z ?_
    refine U<|Zt ?_
    exact mf Z Z Z (hfin hstep (H.forget (by simp) (fun _ h=>h)))
   ·rw[if_pos (by simpa using hb)]at hstep
    refine Zk<|W ?_
    refine Zr ?_
    refine mh Z Z ?_
    refine PN H 0 dG Z Z Z Z ?_
    refine tb (vs:=[.agg _]) H dS gd Z Z Z Z Z Z ?_;intro w5 b68 H5
    refine vc (Y:=gL) JM (K:=[_,_]) (L:=L1) (M:=[]) H5 ho (news:=[(tc c0 X').1]) Z Z Z ?_ (by simp only[bP];omega) Z ?_
    ·exact wn.row (m:=1) (sz:=7) (H5.ent (i:=0) Z) Z
    intro A6 c6 w6 L6 _ _ ho6 H6
    refine va Z Z ?_
    refine U ?_
    refine Zr ?_
    refine iu Z Z ?_
    refine iu Z Z ?_
    refine add Z Z I I Z ?_
    refine add Z Z I I Z ?_
    refine oY Z Z ?_
    refine U ?_
    refine⟨(at_+(n+3),out++[(tc c0 X').1],A6,c6),⟨by omega,by simp;omega,fun es m hD=> ?_,L6,ho6,H6.forget (by simp) (fun _ h=>h)⟩,kZ Z ?_,by repeat (first|exact mN|refine lD Z ?_|refine jF _ Z ?_),by show l.length- (at_+(n+3))<l.length-at_;omega⟩
    ·have:=hdec _ _ (.go hstep (by rw[jY];exact hD))
     rw[aE,kX]
     exact this
    ·show Value.int .i64 _=Value.int .i64 _
     congr 1
  ·rw[if_pos hsum]at hstep
   refine aw Z Z Z Z Z (fun _ _=>j8 Z Z I) ?_
   refine aS ?_
   intro w' hw' hF;replace H:=H.later hw';clear hw'
   refine U<|ZT Z<|Zx<|W ?_
   refine Zr ?_
   refine mh Z Z ?_
   refine iu Z Z ?_
   refine va Z Z ?_
   refine oY Z Z ?_
   refine U<|Zt ?_
   exact mf Z Z Z (hfin hstep H)
 ·refine oD Z ?_
  refine Zx ?_
  have hs:tD (l.drop at_)=none:=by rw[eh I];rfl
  refine W ?_
  refine Zr ?_
  refine mh Z Z ?_
  refine iu Z Z ?_
  refine va Z Z ?_
  refine oY Z Z ?_
  refine U<|Zt ?_
  exact mf Z Z Z (hfin hs H)
def rG (e:cO):Prop:=eG e=0
def bh (es:List cO):List UInt8:=es.flatMap iz
theorem zC (n:Nat) (h:n<256):(UInt8.ofNat n).toNat=n:=by simp[gQ h]
theorem Kq: ∀ (k n i m:Nat) (rest:List UInt8),n<128 ^ k->i+k<=5->(0<k)->(n≠0∨i=0)->rn i m (yY n++rest)=(m+n*2 ^ (7*i),rest,false)
 |0,_,_,_,_,_,_,h0,_=>absurd h0 (by decide)
 |k+1,n,i,m,rest,hn,hi,_,hz=>by
  by_cases h:n<=127
  rw[uB h]
  simp only[qr,kP,rn]
  rw[if_neg I,zC n I,if_pos I,gQ I]
  have:(decide (n=0)&&decide (0<i))=false:=by
   rcases hz with h|h
   simp[h]
   simp[h]
  rw[this]
  rw[Dw I]
  simp only[qr,rn]
  have hm:n%128<128:=jA _ (by decide)
  rw[if_neg I,zC _ I,if_neg I]
  have hk:k≠0:=by rintro rfl;simp at hn;omega
  rw[Kq k (n/128) (i+1) _ rest (by rw[Nat.pow_succ]at hn;exact yT I) I I (.inl I)]
  congr 1
  have e1:(n%128+128)%128=n%128:=by omega
  have e2:2 ^ (7*(i+1))=128*2 ^ (7*i):=by rw[Nat.mul_add,Nat.pow_add];omega
  rw[e1,e2]
  have e3:n/128*(128*2 ^ (7*i))=(n/128*128)*2 ^ (7*i):=(Nat.mul_assoc _ _ _).symm
  rw[e3,kX,<-cQ]
  congr 2
  omega
theorem zi {n:Nat} (hn:n<=1073741824) (rest:List UInt8):EX (yY n++rest) false=(n,rest,false):=by
 unfold EX
 rw[if_neg (by decide),Kq 5 n 0 0 rest I I I (.inr Z)]
 simp
theorem Jb: ∀ k:Nat,k<4-> ∀ t:Bool,let c:=k+if t then 16 else 0;c<32/\(c&&&15)=k/\(!decide (((c&&&16:Nat):Int)=0))=t:=by decide
theorem LO {e:cO} (h:rG e): ∃ c x,eM e=c::x/\uj c x=true/\(tc c x).1=e:=by
 obtain⟨h1,h2,h3,h4,-⟩:=qM h
 refine⟨od e,ob e.nums++e.text.data.toList,rfl,?_⟩
 obtain⟨ep,pid,ver,seq,kind,txn,text⟩:=e
 simp only[cO.nums,ax,bO,or_false,forall_eq_or_imp,forall_eq]at h3
 dsimp only at h1 h2
 obtain⟨a1,a2,a3,a4⟩:=h3
 obtain⟨n1,rfl⟩: ∃ n:Nat,ep=n:=⟨ep.toNat,by omega⟩
 obtain⟨n2,rfl⟩: ∃ n:Nat,pid=n:=⟨pid.toNat,by omega⟩
 obtain⟨n3,rfl⟩: ∃ n:Nat,ver=n:=⟨ver.toNat,by omega⟩
 obtain⟨n4,rfl⟩: ∃ n:Nat,seq=n:=⟨seq.toNat,by omega⟩
 obtain⟨k,rfl⟩: ∃ n:Nat,kind=n:=⟨kind.toNat,by omega⟩
 have hb:ob (cO.nums ⟨(n1:Nat),(n2:Nat),(n3:Nat),(n4:Nat),(k:Nat),txn,text⟩)++text.data.toList=yY n1++(yY n2++(yY n3++(yY n4++text.data.toList))):=by
  simp[ob,cO.nums]
 obtain⟨j1,j2,j3⟩:=Jb k I txn
 have hkb:(od ⟨(n1:Nat),(n2:Nat),(n3:Nat),(n4:Nat),(k:Nat),txn,text⟩).toNat=k+if txn then 16 else 0:=by
  unfold od
  exact zC _ (by simp only[uo];exact Nat.lt_trans j1 (by decide))
 have hE:tc (od ⟨(n1:Nat),(n2:Nat),(n3:Nat),(n4:Nat),(k:Nat),txn,text⟩) (yY n1++(yY n2++(yY n3++(yY n4++text.data.toList))))=(⟨(n1:Nat),(n2:Nat),(n3:Nat),(n4:Nat),(k:Nat),txn,text⟩,false):=by
  unfold tc
  simp only[zi (show n1<=1073741824 by omega),zi (show n2<=1073741824 by omega),zi (show n3<=1073741824 by omega),zi (show n4<=1073741824 by omega),hkb,j2,j3]
 dsimp only
 rw[hb]
 refine⟨?_,by rw[hE]⟩
 unfold uj
 rw[hE,hkb]
 simp[j1,show eG _=0 from h]
theorem AT (e:cO):(iz e).length=(eM e).length+3:=by simp[iz]
theorem EO {e:cO} (h:rG e) (rest:List UInt8):tD (iz e++rest)=some (e,(iz e).length):=by
 obtain⟨hl,h0⟩:=uO h
 have hs:=Dl (eM e)
 obtain⟨c,x,h1,h2,h3⟩:=LO h
 have e1:iz e++rest=UInt8.ofNat (eM e).length::(eM e++(UInt8.ofNat (mp (eM e)/256)::UInt8.ofNat (mp (eM e)%256)::rest)):=by simp[iz]
 rw[e1,tD,zC _ I,if_neg (by simp only[ay,cE];omega)]
 have t1:(eM e++(UInt8.ofNat (mp (eM e)/256)::UInt8.ofNat (mp (eM e)%256)::rest)).take (eM e).length=eM e:=i7
 have t2:(eM e++(UInt8.ofNat (mp (eM e)/256)::UInt8.ofNat (mp (eM e)%256)::rest)).getD (eM e).length 0=UInt8.ofNat (mp (eM e)/256):=by
  rw[bZ,cv (ao _),mj];rfl
 have t3:(eM e++(UInt8.ofNat (mp (eM e)/256)::UInt8.ofNat (mp (eM e)%256)::rest)).getD ((eM e).length+1) 0=UInt8.ofNat (mp (eM e)%256):=by
  rw[bZ,cv I,oJ];rfl
 rw[t1,t2,t3,zC _ I,zC _ I,if_neg (fun h=>h (Nat.div_add_mod' _ _).symm)]
 have t4:(eM e++(UInt8.ofNat (mp (eM e)/256)::UInt8.ofNat (mp (eM e)%256)::rest)).headD 0=c:=by rw[h1];rfl
 rw[t4,AT]
 rw[h1]
 simp[h2,h3]
theorem If: ∀ (es:List cO) (rest:List UInt8),(∀ e∈es,rG e)->tD rest=none->It (bh es++rest) es (bh es).length
 |[],rest,_,h=> .stop h
 |e::es,rest,hg,h=>by
  have h1:=EO (hg e (az ..)) (bh es++rest)
  have h2:=If es rest (fun x hx=>hg x (ak _ hx)) h
  have e1:bh (e::es)++rest=iz e++(bh es++rest):=by simp[bh]
  have e2:(bh (e::es)).length=(iz e).length+(bh es).length:=by simp[bh]
  rw[e1,e2]
  exact .go h1 (by rw[List.drop_left];exact h2)
theorem pK {l:List UInt8} {es es':List cO} {n n':Nat} (h:It l es n) (h':It l es' n'):es=es'/\n=n':=by
 induction h generalizing es' n' with
 |stop h=>cases h' with
  |stop=>exact⟨rfl,rfl⟩
  |go h1 _=>rw[h]at h1;cases h1
 |go h hd ih=>cases h' with
  |stop h1=>rw[h]at h1;cases h1
  |go h1 hd1=>
   rw[h]at h1
   injection h1 with h1;injection h1 with h1 h2
   subst h1;subst h2
   obtain⟨a,b⟩:=ih hd1
   exact⟨by rw[a],by rw[b]⟩
theorem Lg (e:cO):bh [e]=iz e:=by simp[bh]
theorem Jn {es:List cO} {k:Nat} (h:k<es.length):bh (es.take (k+1))=bh (es.take k)++iz es[k]:=by
 unfold bh
 rw[C8 h,mU,List.flatMap_singleton]
theorem ff (es:List cO) (k:Nat):(bh (es.take k)).length<=(bh es).length:=by
 have:bh es=bh (es.take k)++bh (es.drop k):=by
  unfold bh;rw[<-mU,gI]
 rw[this,ay];omega
def e0:cO:=⟨0,1,0,0,2,true,⟨#[]⟩⟩
section
open Go.ChangeShapes Go.WideShapes Go.ChangeAt Go.RowKit Go.Eng
/-- the row's end, out of a function's contract -/
theorem IP {f:FuncId} {vs:List Value} {w:World} (h:db aa f vs w fun v w2=>v=.bool true/\Below w.heap.size w w2):Calls aa f vs.toArray w fun e w'=>e=.returned (.bool true)/\Below w.heap.size w w':=
 Calls.mono h fun _ _ ⟨_,he,hv,hb⟩=>⟨by rw[he,hv],hb⟩
end


/-- picked -/
def pk (n:Int) (m:Nat):Nat:=(if n<0 then(-(n+1)).toNat else n.toNat)%m
theorem i6 (n:Int) {m:Nat} (h:0<m):pk n m<m:=jA _ h
theorem di (n:Int) (m:Nat) (w:World) (h1: -9223372036854775808<=n) (h2:n<=9223372036854775807) (hm:0<m) (hm2:m<=1000000000000):
  db aa tk [J n,J (m:Nat)] w fun v w2=>v=J (pk n m:Nat)/\Below w.heap.size w w2:=by
 refine aD sK Z Z ?_
 have H:=Hp.start w
 refine W ?_
 refine Zr ?_
 refine oY Z Z ?_
 refine U<|W ?_
 obtain⟨a,ha⟩: ∃ a:Nat,(if n<0 then(-(n+1)).toNat else n.toNat)=a:=⟨_,rfl⟩
 refine eC (τ:=Unit) [5,6,7,8,9,0] (fun _=>[(0,J (a:Nat))]) (fun _ w'=>Hp w w' [] []) ?_ ?_
 ·refine AV ?_
  refine Zr ?_
  refine iu Z Z ?_
  refine GZ Z Z Z (fun h6=> ?_) (fun h6=> ?_)
  all_goals refine nk ?_
  ·refine pL Z ?_
   refine Zr ?_
   refine iu Z Z ?_
   refine G (OD Z Z I I)<|G (Ob Z I I) ?_
   refine oY Z Z ?_
   refine U ?_
   have e: -(n+1)=(a:Nat):=by rw[if_pos h6]at ha;omega
   rw[e]
   refine⟨(),H,dI Z,by repeat (first|exact Ew.refl _ _|exact mN|refine lD Z ?_|refine jF _ Z ?_)⟩
  ·refine oD Z ?_
   refine Zk ?_
   have e:n=(a:Nat):=by rw[if_neg h6]at ha;omega
   subst e
   refine⟨(),H,dI Z,by repeat (first|exact Ew.refl _ _|exact mN|refine lD Z ?_|refine jF _ Z ?_)⟩
 rintro _ ρ1 w1 H
 show CW _ _ _ _ (dA (gC _ _ ρ1) [(0,J (a:Nat))]) w1
 refine W ?_
 refine Zr ?_
 refine iu Z Z ?_
 refine iu Z Z ?_
 refine rem Z Z I I Z ?_
 refine oY Z Z ?_
 refine U<|Zt ?_
 have e:((a:Int)%(m:Int))=(pk n m:Nat):=by unfold pk;rw[ha];rfl
 rw[e]
 exact cy (v:=J (pk n m:Nat)) Z Z ⟨rfl,H.below⟩
structure Gf where
 kind:Int
 a:Int
 b:Int
 c:Int
def Gf.cs (r:Gf):List Value:=[J r.kind,J r.a,J r.b,J r.c]
def tj:fi Gf:=⟨Gf.cs,4,fun _=>rfl,by decide,fun a u hu=>by
 simp only[Gf.cs,ax,bO,or_false]at hu
 rcases hu with h|h|h|h<;>subst h<;>rfl⟩
def i64 (n:Int):Prop:= -9223372036854775808<=n/\n<=9223372036854775807
def Gf.ok (r:Gf):Prop:=i64 r.kind/\i64 r.a/\i64 r.b/\i64 r.c
def vg (n:Nat):List UInt8:=if h:n=0 then []else UInt8.ofNat (97+n%10)::vg (n/10)
termination_by n
decreasing_by omega
theorem Ck {n:Nat} (h:0<n):vg n=UInt8.ofNat (97+n%10)::vg (n/10):=by rw[vg,dif_neg I]
theorem vK:vg 0=[]:=by rw[vg];simp
theorem xD: ∀ (k n:Nat),n<10 ^ k->(vg n).length<=k
 |0,n,h=>by
  have:n=0:=by simpa using h
  subst this;rw[vK];simp
 |k+1,n,h=>by
  by_cases hn:n=0
  subst hn;rw[vK];simp
  rw[Ck I]
  have:=xD k (n/10) (by rw[Nat.pow_succ]at h;omega)
  simp;omega
def vf (n:Int):ByteArray:=⟨(vg (pk n 10000)).toArray⟩
theorem OA (a b:List UInt8):(⟨a.toArray⟩:ByteArray)++⟨b.toArray⟩=⟨(a++b).toArray⟩:=by
 apply ByteArray.ext
 simp
theorem Iu (n:Int):(vf n).size<=4:=by
 have:=xD 4 (pk n 10000) (i6 n (by decide))
 simpa [vf,ByteArray.size]using this
theorem Mk (n:Int) (w:World) (hn:i64 n):db aa uV [J n] w fun v w2=>v=.string (vf n)/\Below w.heap.size w w2:=by
 refine aD tW Z Z ?_
 have H:=Hp.start w
 obtain⟨hn1,hn2⟩:=hn
 have hpk:=i6 n (show 0<10000 by decide)
 refine W<|Zr<|G (Wt Z)<|U<|W<|Zr<|G (Wt Z)<|U<|W<|W<|Zr<|G (Yi Z)<|bY aJ (di _ 10000 _ I I (by decide) (by decide)) Z Z ?_
 rintro _ w1 ⟨rfl,hb⟩;replace H:=H.later hb;clear hb
 refine G (Wi Z)<|U<|Zb ?_
 refine cf (τ:=Nat×List UInt8) [0,3,6,7,8,9,10,11,12,13,14,15,16] (fun(m,s)=>[(0,J (m:Nat)),(3,.string ⟨s.toArray⟩)]) (fun(m,s) w'=>m<10000/\s++vg m=vg (pk n 10000)/\Hp w w' [] []) (fun(m,_)=>m) (pk n 10000,[]) ⟨hpk,rfl,H⟩ (kZ Z Z) ?_
 rintro⟨m,s⟩ ρ1 w1 ⟨hm,hs,H⟩
 show CW _ _ _ _ (dA (gC _ _ ρ1) [(0,J (m:Nat)),(3,.string ⟨s.toArray⟩)]) w1
 have hsl:(⟨s.toArray⟩:ByteArray).size<=4:=by
  have h4:=xD 4 (pk n 10000) (by simpa using hpk)
  rw[<-hs,ay]at h4
  show s.toArray.size<=4
  simp;omega
 refine W<|W<|Zr<|G (Yi Z) ?_
 refine cU (kc Z Z) Z Z Z (fun h7=> ?_) (fun h7=> ?_)
 ·
  refine U<|ZT Z<|Zk<|W<|Zb<|Zr<|G (Yt Z)<|G (Yi Z)<|G (NE Z Z I I)<|G (br Z Z I I) ?_
  have e13:(97:Int)+(m:Int)%10=(97+m%10:Nat):=by omega
  rw[e13]
  refine G (CY ip CK Z (NS I))<|G (Ot CK jo Z Z I)<|G (N1 Z Z (by simp only[ByteArray.size]at hsl⊢;simp at hsl⊢;omega)) ?_
  rw[show(⟨#[UInt8.ofNat (97+m%10)]⟩:ByteArray)=⟨[UInt8.ofNat (97+m%10)].toArray⟩from rfl,OA]
  refine G (Wt Z)<|U<|Zr<|G (Yi Z)<|G (OP Z Z I I I)<|G (Wi Z)<|U ?_
  refine⟨(m/10,s++[UInt8.ofNat (97+m%10)]),⟨by omega,by rw[<-hs,Ck (n:=m) I];simp,H⟩,kZ Z Z,by repeat (first|exact Ew.refl _ _|exact mN|refine lD Z ?_|refine jF _ Z ?_),by show m/10<m;omega⟩
 ·
  refine U<|ZF Z<|Zx<|W<|Zr<|G (Yt Z)<|G (Wt Z)<|U<|Zt ?_
  have hm0:m=0:=by omega
  subst hm0
  rw[vK,aY]at hs
  subst hs
  exact cy (v:=.string (vf n)) Z Z ⟨rfl,H.below⟩
def Gf.entry (r:Gf):cO:=
 let p:=pk r.b 4
 if p=0 then⟨pk r.a 4,0,0,0,1,false,vf r.c⟩
 else if pk r.kind 6=0∨pk r.kind 6=1 then⟨pk r.a 4,p,pk r.a 3,0,2+pk r.c 2,true,⟨#[]⟩⟩
 else⟨pk r.a 4,p,pk r.a 3,pk r.c 5,1,decide (((pk r.c 2:Nat):Int)=0),vf r.c⟩
section
open Go.ChangeShapes Go.WideShapes Go.ChangeAt Go.RowKit Go.Eng
theorem xE {n:Int} (h:(Lit.int .i64 n).wf=true):i64 n:=by
 have: -9223372036854775808<=n/\n<=9223372036854775807:=by simpa [Lit.wf,IntKind.min,IntKind.max,IntKind.signed,IntKind.bits]using h
 exact this
theorem Mn:aa.underlying vE=some (.struct (aa.fieldsOf vE)):=by kernel_rfl
theorem GF:(aa.fieldsOf vE).toList.map (fun f=>(f.offset,aa.cellsOf f.type))=[(0,1),(1,1),(2,1),(3,1)]:=by kernel_rfl
theorem Kw:((aa.fieldsOf vE).toList.all fun f=>oT aa f.type .i64)=true:=by kernel_rfl
theorem tH:aa.cellsOf vE=4:=by kernel_rfl
theorem wL {P:Program} {t:TypeId} {k:IntKind} (h:oT P t k=true):P.underlying t=some (.int k):=by
 unfold oT at h
 split at h
 rename_i k' hk;rw[hk,of_decide_eq_true h]
 cases h
section
variable {H:Type} {enc:TypeId×Value->H} {w:World} {base:Nat} {sp:Nat->Bool} {held:Bool}
theorem Dt {P:Program} {t:TypeId} {fs:Array Field} (hu:P.underlying t=some (.struct fs)) (hp:fs.toList.map (fun f=>(f.offset,P.cellsOf f.type))=[(0,1),(1,1),(2,1),(3,1)]) (hi:(fs.toList.all fun f=>oT P f.type .i64)=true) (hce:P.cellsOf t=4)
  {n:Nat} {cs:List Value} {x:DataW H×List MemPlace} (h:DataW.trod enc P w base sp held n t cs=some x): ∃ r:Gf,cs=r.cs/\r.ok:=by
 obtain⟨xs,k,_,_,hl,hlen,hf⟩:=DataW.trod_struct hu h
 rw[hce]at hl
 obtain⟨fs⟩:=fs
 have hl4:fs.length=4:=by have:=congrArg cu hp;simpa using this
 obtain⟨f0,f1,f2,f3,rfl⟩: ∃ a b c d,fs=[a,b,c,d]:=by
  match fs,hl4 with
  |[a,b,c,d],_=>exact⟨a,b,c,d,rfl⟩
 simp only[eI,mn,List.cons.injEq,Prod.mk.injEq,and_true]at hp
 obtain⟨⟨o0,c0⟩,⟨o1,c1⟩,⟨o2,c2⟩,o3,c3⟩:=hp
 simp only[List.all_cons,List.all_nil,aR,and_true]at hi
 obtain⟨i0,i1,i2,i3⟩:=hi
 obtain⟨v0,v1,v2,v3,rfl⟩: ∃ a b c d,cs=[a,b,c,d]:=by
  match cs,hl with
  |[a,b,c,d],_=>exact⟨a,b,c,d,rfl⟩
 have g0:=hf 0 f0 rfl
 have g1:=hf 1 f1 rfl
 have g2:=hf 2 f2 rfl
 have g3:=hf 3 f3 rfl
 rw[o0,c0]at g0;rw[o1,c1]at g1;rw[o2,c2]at g2;rw[o3,c3]at g3
 have hx:xs.length=4:=by simpa using hlen
 obtain⟨x0,h0⟩: ∃ y,xs[0]? =some y:=⟨_,ah (by omega)⟩
 obtain⟨x1,h1⟩: ∃ y,xs[1]? =some y:=⟨_,ah (by omega)⟩
 obtain⟨x2,h2⟩: ∃ y,xs[2]? =some y:=⟨_,ah (by omega)⟩
 obtain⟨x3,h3⟩: ∃ y,xs[3]? =some y:=⟨_,ah (by omega)⟩
 rw[h0]at g0;rw[h1]at g1;rw[h2]at g2;rw[h3]at g3
 obtain⟨n0,e0,_,w0⟩:=DataW.trod_int (wL i0) g0
 obtain⟨n1,e1,_,w1⟩:=DataW.trod_int (wL i1) g1
 obtain⟨n2,e2,_,w2⟩:=DataW.trod_int (wL i2) g2
 obtain⟨n3,e3,_,w3⟩:=DataW.trod_int (wL i3) g3
 simp at e0 e1 e2 e3
 subst e0 e1 e2 e3
 exact⟨⟨n0,n1,n2,n3⟩,rfl,xE w0,xE w1,xE w2,xE w3⟩
theorem CB {n:Nat} {cs:List Value} {x:DataW H×List MemPlace} (h:DataW.trod enc aa w base sp held n vE cs=some x): ∃ r:Gf,cs=r.cs/\r.ok:=
 Dt Mn GF Kw tH h
theorem EP {α:Type} {Y:fi α} {T e:TypeId} (hT:aa.underlying T=some (.slice e)) (hce:aa.cellsOf e=Y.sz) (ok:α->Prop) (hel: ∀ n cs x,DataW.trod enc aa w base sp held n e cs=some x-> ∃ r:α,cs=Y.f r/\ok r)
  {A:Option Addr} {l c:Nat} {d:DataW H} {ps:List MemPlace} (h:DataW.Trod enc aa w base sp held T (.slice A l c) d ps):
  ∃ rs:List α,rs.length=l/\l<=c/\c<=maxLen/\Rd Y 0 w.heap.size A rs w/\ ∀ r∈rs,ok r:=by
 obtain⟨fuel,hf⟩:=h
 rcases Go.Deep.open_slice hT hf with⟨hcs,_⟩|⟨a,len,cap,m,n,D,Pl,hcs,_,hl,hm,hmm,_,hx⟩
 simp[Value.cells]at hcs
 obtain⟨rfl,rfl,rfl⟩:=hcs
 exact⟨[],rfl,ao _,bG _,Rd.nil,by simp⟩
 simp[Value.cells]at hcs
 obtain⟨rfl,rfl,rfl⟩:=hcs
 have hlm:l<=m:=by rw[hmm];split<;>omega
 have each: ∀ i,i<l-> ∃ r:α,ok r/\ ∀ j u,(Y.f r)[j]? =some u->w.cell? ((a.add (i*Y.sz)).add j)=some u:=by
  intro i hi
  obtain⟨cs',h1,h2⟩:=hx i (by omega)
  obtain⟨r,hr,hok⟩:=hel _ _ _ h2
  rw[hce]at h1
  obtain⟨_,hlen,hcell⟩:=World.cells?_some h1
  refine⟨r,hok,fun j u hj=> ?_⟩
  have hjl:j<Y.sz:=by
   have:=(aA.1 hj).1
   rwa[Y.len]at this
  rw[hcell j hjl,hr,hj]
 have build: ∀ k,k<=l-> ∃ rs:List α,rs.length=k/\(∀ r∈rs,ok r)/\ ∀ i r,rs[i]? =some r-> ∀ j u,(Y.f r)[j]? =some u->w.cell? ((a.add (i*Y.sz)).add j)=some u:=by
  intro k
  induction k with
  |zero=>intro _;exact⟨[],rfl,by simp,by simp⟩
  |succ k ih=>
   intro hk
   obtain⟨rs,h1,h2,h3⟩:=ih (by omega)
   obtain⟨r,hok,hr⟩:=each k (by omega)
   refine⟨rs++[r],by simp[h1],?_,?_⟩
   intro q hq
   rcases ar.1 hq with hq|hq
   exact h2 q hq
   rw[aq.1 hq];exact hok
   intro i q hq
   by_cases hi:i<rs.length
   rw[bV hi]at hq;exact h3 i q hq
   rw[cv (by omega)]at hq
   have:i=k:=by
    have:=(aA.1 hq).1
    simp at this;omega
   subst this
   rw[<-h1]at hq hr⊢
   simp at hq
   rw[<-hq];exact hr
 obtain⟨rs,h1,h2,h3⟩:=build l (ao _)
 refine⟨rs,h1,hl,hm,fun h0=> ?_,h2⟩
 obtain⟨r0,hr0e⟩: ∃ r,rs[0]? =some r:=⟨_,ah h0⟩
 have hpos:0<(Y.f r0).length:=by rw[Y.len];exact Y.pos
 obtain⟨u0,hu0⟩: ∃ u,(Y.f r0)[0]? =some u:=⟨_,ah hpos⟩
 have hc0:=h3 0 r0 hr0e 0 u0 hu0
 have hz:(a.add (0*Y.sz)).add 0=a:=by simp[Addr.add]
 rw[hz]at hc0
 have hs:=World.cell?_spot hc0
 obtain⟨b,o,s⟩:=a
 simp only at hs
 subst hs
 refine⟨b,o,rfl,bG _,?_,fun j u hj=> ?_⟩
 unfold World.cell? at hc0
 split at hc0
 rename_i hb;exact cd hb
 cases hc0
 have hjl:j<rs.length*Y.sz:=by
  have:=(aA.1 hj).1
  rwa[fi.length]at this
 have hq:j/Y.sz<rs.length:=by rw[Nat.div_lt_iff_lt_mul Y.pos];exact hjl
 have hm2:j%Y.sz<Y.sz:=jA _ Y.pos
 have hdm:j/Y.sz*Y.sz+j%Y.sz=j:=Nat.div_add_mod' j Y.sz
 have hg:=fi.get (Y:=Y) hq hm2
 rw[hdm,hj]at hg
 have:=h3 (j/Y.sz) _ (ah hq) (j%Y.sz) u hg.symm
 rw[Addr.add_lit,Addr.add_lit,kX,hdm]at this
 exact this
end
end
section
open Go.ChangeShapes Go.WideShapes Go.ChangeAt Go.RowKit
theorem J4 (r:List Char):wordsSigns (' '::r)=[]::wordsSigns r:=by rw[wordsSigns]
theorem J5 (c:Char) (hc:c≠' ') (l w:List Char) (ws:List (List Char)) (h:wordsSigns l=w::ws):wordsSigns (c::l)=(c::w)::ws:=by
 rw[wordsSigns,h]
 exact hc
theorem si: ∀ (a r:List Char),(∀ c∈a,c≠' ')->wordsSigns (a++' '::r)=a::wordsSigns r
 |[],r,_=>J4 r
 |c::a,r,h=>J5 c (h c (az ..)) _ _ _ (si a r fun x hx=>h x (ak _ hx))
def wV:List Char:=['a','t',' ','t','a','i','l','r','a','c','e','/','t','a','i','l','r','a','c','e','t','o','p','.','T','o','p','K','e','p','t',' ','t','a','i','l','r','a','c','e','/','t','a','i','l','r','a','c','e','t','o','p','.','T','o','p','T','w','i','c','e',' ','t','a','i','l','r','a','c','e','/','t','a','i','l','r','a','c','e','t','o','p','.','T','o','p','L','a','t','e','r',' ','t','a','i','l','r','a','c','e','/','t','a','i','l','r','a','c','e','k','e','e','p','.','W','o','r','l','d','G','o','o','d',' ','t','a','i','l','r','a','c','e','/','t','a','i','l','r','a','c','e','k','e','e','p','.','L','o','g','s','O','n','c','e',' ','t','a','i','l','r','a','c','e','/','t','a','i','l','r','a','c','e','k','e','e','p','.','A','g','a','i','n','S','a','m','e']
def HZ:List Char:=['e','6','a','a','d','7','b','0','2','3','5','2','c','b','a','b','7','0','5','d','6','f','f','1','1','e','2','f','7','d','a','d','1','1','d','2','8','6','0','3','5','a','9','8','1','d','4','3','d','b','e','b','0','7','6','5','4','2','a','9','c','d','6','c']
theorem Nc:Tryz.checked.prog.initOrder=String.ofList (['h','a','r','n','e','s','s']++' '::(HZ++' '::(['c','u','t']++' '::wV))):=by kernel_rfl
theorem sJ:behindMainWord (wordsSigns Tryz.checked.prog.initOrder.toList)=['c','u','t']::wordsSigns wV:=by
 rw[Nc,String.toList_ofList,si _ _ (by decide),si _ _ (by decide+kernel),si _ _ (by decide)]
 have hs:isSumSigns HZ=true:=by decide+kernel
 simp[behindMainWord,hs]
theorem Po: "gc".toList=['g','c']:=by simp
theorem NU: "spec".toList=['s','p','e','c']:=by simp
theorem NA: "cut".toList=['c','u','t']:=by simp
theorem M0 {P:Program} {c:List Char} {r:List (List Char)} (h:behindMainWord (wordsSigns P.initOrder.toList)=c::r) (hg:(c== "gc".toList||c== "spec".toList)=false) (hc:(c== "cut".toList||(c== "finals".toList&&r.head? ==some "cut".toList))=true):P.make=some .cut:=by
 unfold Program.make
 rw[h]
 simp only[hg,hc]
 rfl
theorem Ow:(['c','u','t']== "gc".toList||['c','u','t']== "spec".toList)=false:=by rw[Po,NU];decide
theorem O2 (r:List (List Char)):(['c','u','t']== "cut".toList||(['c','u','t']== "finals".toList&&r.head? ==some "cut".toList))=true:=by rw[NA];rfl
theorem Cu (ws:List (List Char)):stripLifts liftWords (['c','u','t']::ws)=([],['c','u','t']::ws):=by
 simp[stripLifts,liftWords]
theorem LD {P:Program} {c:List Char} {r:List (List Char)} (h:behindMainWord (wordsSigns P.initOrder.toList)=c::r) (hs:stripLifts liftWords (c::r)=([],c::r)) (hc:(c== "cut".toList)=true) (hl:P.laysLater=false) (hb:P.bearsReflect=false) (hd:P.doorFits []=true):P.mayEnter=true:=by
 have e:((c::r).head? ==some "cut".toList)=true:=by
  rw[eq_of_beq hc];simp
 unfold Program.mayEnter
 rw[h]
 simp only[hs,hl,hb,hd,e]
 simp
theorem Nm:(['c','u','t']== "cut".toList)=true:=by rw[NA];rfl
theorem Hd:Tryz.checked.prog.headLifts=[]:=by
 unfold Program.headLifts
 rw[sJ]
 generalize wordsSigns wV=ws
 simp[Cu]
theorem Fp:Tryz.checked.prog.liftsFinal=false:=by
 unfold Program.liftsFinal
 rw[sJ,Hd]
 generalize wordsSigns wV=ws
 simp
theorem KW:Tryz.checked.prog.make=some .cut:=M0 sJ Ow (O2 _)
theorem G1:Tryz.checked.prog.laysLater=false:=by kernel_rfl
theorem Cf:Tryz.checked.prog.bearsReflect=false:=by kernel_rfl
theorem Jw:Tryz.checked.prog.doorFits []=true:=by kernel_rfl
theorem I6:Tryz.checked.prog.mayEnter=true:=LD sJ (Cu _) Nm G1 Cf Jw
theorem GO:ownKnob aa.godebug=none:=by kernel_rfl
theorem wJ:laidOutB Tryz.checked.prog=true:=by kernel_rfl
theorem GX:mapsRowed Tryz.checked.prog=true:=by kernel_rfl
theorem KO:(Tryz.checked.prog.stops==[])=true:=by kernel_rfl
theorem KP:(Tryz.checked.prog.stopKnobs==[])=true:=by kernel_rfl
theorem GI:Tryz.checked.prog.plainKeys=false:=by kernel_rfl
theorem EN:Tryz.checked.prog.stopsHeard=true:=by kernel_rfl
end
theorem Ie {e:cO} (h:rG e):(iz e).length<=64:=by
 have:=(uO h).1
 rw[AT];omega
theorem D5: ∀ (es:List cO),(∀ e∈es,rG e)->(bh es).length<=64*es.length
 |[],_=>by simp[bh]
 |e::es,h=>by
  have h1:=Ie (h e (az ..))
  have h2:=D5 es fun x hx=>h x (ak _ hx)
  have:bh (e::es)=iz e++bh es:=by simp[bh]
  rw[this];simp;omega
theorem ua (es:List cO) (h: ∀ e∈es,rG e):It (bh es) es (bh es).length:=by
 have:=If es [] h Z
 rwa[aY]at this
theorem cF {α:Type} {l:List α} {k:Nat} {e:α} (h:l[k]? =some e): ∃ hk:k<l.length,l[k]=e:=aA.1 h
theorem t6 {es:List cO} {k:Nat} {e:cO} (h:es[k]? =some e):bh (es.take (k+1))=bh (es.take k)++iz e:=by
 obtain⟨hk,rfl⟩:=cF h
 exact Jn hk
structure Prod where
 ver:Int
 seq:Int
 open_:Int
 mark:Int
def Prod.c (p:Prod):List Value:=[J p.ver,J p.seq,J p.open_,J p.mark]
def p0:Prod:=⟨0,-1,-1,-1⟩
abbrev Ip:TypeId:=188
theorem rM:Fl aa Ip cY Gc=true:=by kernel_rfl
def pv (e:cO) (p:Prod):Prod:=if e.ver≠p.ver then⟨e.ver,-1,p.open_,p.mark⟩else p
def fO (i:Nat) (e:cO) (p:Prod):Prod:=
 if e.kind≠1 then⟨(pv e p).ver,(pv e p).seq,-1,i⟩
 else if e.txn=true/\(pv e p).open_<0 then⟨(pv e p).ver,e.seq,i,(pv e p).mark⟩
 else⟨(pv e p).ver,e.seq,(pv e p).open_,(pv e p).mark⟩
def j5 (es:List cO) (pid:Int):Option Prod:=
 es.zipIdx.foldl (fun a q=>if q.1.pid≠0/\q.1.pid=pid then some (fO q.2 q.1 (a.getD p0))else a) none
theorem IU (pid:Int):j5 [] pid=none:=rfl
theorem zV (es:List cO) (e:cO) (pid:Int):j5 (es++[e]) pid=if e.pid≠0/\e.pid=pid then some (fO es.length e ((j5 es pid).getD p0))else j5 es pid:=by
 unfold j5
 rw[List.zipIdx_append,List.foldl_append]
 simp
theorem eK {α:Type} {l:List α} {k:Nat} {e:α} (h:l[k]? =some e):l.take (k+1)=l.take k++[e]:=by
 obtain⟨hk,rfl⟩:=cF h
 exact C8 hk
theorem zU {es:List cO} {k:Nat} {e:cO} (h:es[k]? =some e) (pid:Int):j5 (es.take (k+1)) pid=if e.pid≠0/\e.pid=pid then some (fO k e ((j5 (es.take k) pid).getD p0))else j5 (es.take k) pid:=by
 obtain⟨hk,-⟩:=cF h
 rw[eK h,zV,aH,bu I]
abbrev PB:=Int×Nat×Prod
abbrev BD (b:Nat):Value:=.pointer (Qd b)
def qX (S:List PB):List (Int×Value):=S.map fun q=>(q.1,BD q.2.1)
def xK (q:PB):Nat×Obj:=(q.2.1,.cells q.2.2.c.toArray lN (0,0))
def jr (bm:Nat) (S:List PB):List (Nat×Obj):=(bm,tK (qX S))::S.map xK
def uT (S:List PB) (pid:Int):Option Prod:=(S.find? (fun q=>decide (q.1=pid))).map (·.2.2)
theorem uA (S:List PB):(qX S).map (·.1)=S.map (·.1):=by simp[qX]
theorem E2 {S:List PB} {j:Nat} {pid:Int} {b:Nat} {p:Prod} (h:S[j]? =some (pid,b,p)):(qX S)[j]? =some (pid,BD b):=by simp[qX,h]
theorem gh {S:List PB} {j:Nat} {pid:Int} {b:Nat} {p p':Prod} (h:S[j]? =some (pid,b,p)):qX (S.set j (pid,b,p'))=qX S:=by
 unfold qX
 apply eJ
 intro i
 rw[aL,aL,lw]
 split
 rename_i hij;subst hij
 obtain⟨hlt,hg⟩:=cF h
 simp[hlt,hg]
 rfl
theorem K7 {S:List PB} {j:Nat} {pid:Int} {b:Nat} {p p':Prod} (h:S[j]? =some (pid,b,p)):(S.set j (pid,b,p')).map (·.1)=S.map (·.1):=by
 rw[<-uA,gh h,uA]
theorem Fd {S:List PB} {j:Nat} {q:PB} (h:S[j]? =some q):(xK q::(S.eraseIdx j).map xK).Perm (S.map xK):=by
 obtain⟨hlt,rfl⟩:=cF h
 have:=Go.ChangeMaps.set_perm S j hlt S[j]
 rw[List.set_getElem_self]at this
 exact(this.map xK).symm
theorem jb {S:List PB} {j:Nat} {q q':PB} (h:S[j]? =some q):((S.set j q').map xK).Perm (xK q'::(S.eraseIdx j).map xK):=by
 obtain⟨hlt,-⟩:=cF h
 exact(Go.ChangeMaps.set_perm S j hlt q').map xK
theorem CJ {S:List PB} {pid:Int} (h: ∀ q∈S,q.1≠pid):uT S pid=none:=by
 unfold uT
 rw[Bx.2 (fun q hq=>by simpa using h q hq)];rfl
theorem uE {S:List PB} (hn:(S.map (·.1)).Nodup) {j:Nat} {pid:Int} {b:Nat} {p:Prod} (h:S[j]? =some (pid,b,p)):uT S pid=some p:=by
 unfold uT
 induction S generalizing j with
 |nil=>simp at h
 |cons q r ih=>
  simp only[eI,kO]at hn
  cases j with
  |zero=>simp at h;subst h;simp
  |succ j=>
   simp only[oK]at h
   have hne: ¬ q.1=pid:=fun e=>hn.1 (bw.2 ⟨_,ae h,e.symm⟩)
   rw[pg (by simpa using hne)]
   exact ih hn.2 h
theorem Ae (S:List PB) (pid:Int):(∀ q∈S,q.1≠pid)∨ ∃ (j b:Nat) (p:Prod),S[j]? =some (pid,b,p):=by
 by_cases h: ∃ q∈S,q.1=pid
 obtain⟨⟨a,b,p⟩,hq,rfl⟩:=h
 obtain⟨j,hj⟩:=aX.1 hq
 exact .inr ⟨j,b,p,hj⟩
 exact .inl fun q hq e=>h ⟨q,hq,e⟩
theorem KZ (S:List PB) (q:PB) {pid:Int} (h:q.1≠pid):uT (S++[q]) pid=uT S pid:=by
 unfold uT
 rw[List.find?_append,pg (by simpa using h)]
 simp
theorem KY {S:List PB} {j:Nat} {k:Int} {b:Nat} {p p':Prod} (h:S[j]? =some (k,b,p)) {pid:Int} (hp:k≠pid):uT (S.set j (k,b,p')) pid=uT S pid:=by
 unfold uT
 induction S generalizing j with
 |nil=>simp at h
 |cons q r ih=>
  cases j with
  |zero=>
   simp at h;subst h
   simp only[Bu]
   rw[pg (by simpa using hp),pg (by simpa using hp)]
  |succ j=>
   simp only[oK]at h
   simp only[List.set_cons_succ,List.find?_cons]
   split
   rfl
   exact ih h
def PS (S:List PB) (es:List cO):Prop:=(S.map (·.1)).Nodup/\ ∀ pid,uT S pid=j5 es pid
theorem MG {S:List PB} {es:List cO} {k:Nat} {e:cO} (h:es[k]? =some e) (h0:e.pid=0) (hs:PS S (es.take k)):PS S (es.take (k+1)):=
 ⟨hs.1,fun pid=>by rw[zU h,if_neg (fun x=>x.1 h0)];exact hs.2 pid⟩
theorem kS {S:List PB} {es:List cO} {k j:Nat} {e:cO} {b:Nat} {p:Prod} (h:es[k]? =some e) (h0:e.pid≠0) (hn:(S.map (·.1)).Nodup) (hj:S[j]? =some (e.pid,b,p)) (hp:p=(j5 (es.take k) e.pid).getD p0) (ho: ∀ pid,pid≠e.pid->uT S pid=j5 (es.take k) pid) {p':Prod} (hp':p'=fO k e p):
  PS (S.set j (e.pid,b,p')) (es.take (k+1)):=by
 have hn':((S.set j (e.pid,b,p')).map (·.1)).Nodup:=by rw[K7 hj];exact hn
 refine⟨hn',fun pid=> ?_⟩
 rw[zU h]
 by_cases hpid:e.pid=pid
 subst hpid
 obtain⟨hlt,-⟩:=cF hj
 rw[if_pos ⟨h0,rfl⟩,uE hn' (am hlt),hp',<-hp]
 rw[if_neg (fun x=>hpid x.2),KY hj hpid]
 exact ho pid (Ne.symm hpid)
theorem CA (es:List cO) (A:Option Addr) (c:Nat) (w:World) (hr:Rd gL 0 w.heap.size A es w) (hb:es.length<=1000000):
  db aa BK [.slice A es.length c] w fun v w2=> ∃ S bm,v=.map (some bm)/\PS S es/\Hp w w2 (jr bm S) []:=by
 refine aD AG Z Z ?_
 have H:=Hp.startRd hr
 refine W<|Zr<|G (LU Z)<|U<|W<|Zr<|Qi H Z fun w1 bm H=>G (LU Z)<|U<|W<|W<|Zr<|G (Ys Z)<|G (bn ez Z)<|G (Yi Z)<|U<|Zb ?_
 refine cf (τ:=Nat×List PB) [4,5,6,10,11,12,13,14,15,16,17,18,19,20,21,22,23,24,25,26,27,28,29,30,31,32,33,34,35,36,37,38,39,40,41,42,43,44,45,46,47,48,49,50,51,52,53,54,55,56,57,58,59,60,61,62,63,64,65,66,67,68,69,70,71,72,73,74] (fun(k,S)=>[(10,J (k:Nat))]) (fun(k,S) w'=>k<=es.length/\PS S (es.take k)/\Hp w w' (jr bm S) [dE gL 0 w.heap.size A es]) (fun(k,_)=>es.length-k) (0,[]) ⟨by omega,⟨List.nodup_nil,fun pid=>rfl⟩,H⟩ (dI Z) ?_
 rintro⟨k,S⟩ ρ1 w2 ⟨hk,hS,H⟩
 show CW _ _ _ _ (dA (gC _ _ ρ1) [(10,J (k:Nat))]) w2
 refine W<|Zr ?_
 refine cU (cH Z Z) Z Z Z (fun h11=> ?_) (fun h11=> ?_)
 ·
  refine U<|W<|ZT Z<|Zk<|W<|Zb<|W<|Zr<|G (Yi Z)<|qu H 0 Z dS Z Z I I Z fun b3 o3 x3 e3=>G (jT (xs:=cO.c x3) dG Z Z e3.cl)<|eE H gd Z fun w4 b5 H=>G (Wi Z)<|Kj H 0 eS Z Z Z Z Z Z fun w5 H=>U<|W<|W<|Zr<|G (Zf fg Z)<|G (Zd aj H 0 Z Z Z) ?_
  refine cU (bl Z Z) Z Z Z (fun h17=> ?_) (fun h17=> ?_)
  ·
   refine U<|ZT Z<|Zx<|Zr<|G (br Z Z I I)<|G (Yi Z)<|U ?_
   refine⟨(k+1,S),⟨by have:=(cF e3.at_).1;omega,MG e3.at_ h17 hS,H.forget (aW _ _) (fun _ h=>h)⟩,dI Z,Qg,by show es.length- (k+1)<es.length-k;omega⟩
  ·
   refine U<|ZF Z<|Zk<|W<|Zr<|G (KU Z)<|G (Zf fg Z)<|G (Zd aj H 0 Z Z Z) ?_
   rcases Ae S x3.pid with hno|⟨j,b,p,hj⟩
   ·
    refine G (NI rM qD Z Z (H.ent (i:=1) Z) (by intro q hq;obtain⟨a,ha,rfl⟩:=bw.1 hq;exact hno a ha))<|G (Wp Z)<|U<|W ?_
    refine eC (τ:=List PB×Nat×Nat×Prod) [6,22,23,24,25,26,27,28,29] (fun(S1,j,b,p)=>[(6,BD b)]) (fun(S1,j,b,p) w'=>(S1.map (·.1)).Nodup/\S1[j]? =some (x3.pid,b,p)/\p=(j5 (es.take k) x3.pid).getD p0/\(∀ pid,pid≠x3.pid->uT S1 pid=j5 (es.take k) pid)/\Hp w w' ((b,.cells p.c.toArray lN (0,0))::(b5,.cells (cO.c x3).toArray du (0,0))::(bm,tK (qX S1))::(S1.eraseIdx j).map xK) [dE gL 0 w.heap.size A es]) ?_ ?_
    ·skip
     refine W<|Zr<|G (Yp Z)<|G (xJ nR Z)<|U<|ZT Z<|W<|Zr<|G (bi (cs:=(Prod.c p0).toArray) yt zx N)<|fT H Z Z fun w6 b25 H=>G (Wp Z)<|U<|Zr<|G (KU Z)<|G (Zf fg Z)<|G (Zd aj H 1 Z Z Z)<|G (Yp Z)<|Qf H 2 rM Z Z Z Z (by intro q hq;obtain⟨a,ha,rfl⟩:=bw.1 hq;exact hno a ha) fun w7 H=>U ?_
     have hj:(S++[(x3.pid,b25,p0)])[S.length]? =some (x3.pid,b25,p0):=by simp
     have hkn:uT S x3.pid=none:=CJ hno
     rw[hS.2]at hkn
     refine⟨(S++[(x3.pid,b25,p0)],S.length,b25,p0),⟨?_,hj,by rw[hkn];rfl,fun pid hpid=>by rw[KZ _ _ (Ne.symm hpid)];exact hS.2 pid,?_⟩,dI Z,Qg⟩
     ·rw[bk];exact pe.2 ⟨hS.1,by simp,by intro a ha c hc;simp at hc;subst hc;obtain⟨q,hq,rfl⟩:=bw.1 ha;exact hno q hq⟩
     ·have hmm:qX (S++[(x3.pid,b25,p0)])=qX S++[(x3.pid,BD b25)]:=by simp[qX]
      have hee:(S++[(x3.pid,b25,p0)]).eraseIdx S.length=S:=by rw[List.eraseIdx_append_of_length_le (ao _)];simp
      rw[hmm,hee];exact H
    rintro⟨S1,j,b,p⟩ ρ2 w8 ⟨hn,hj,hp,ho,H⟩
    show CW _ _ _ _ (dA (gC _ _ ρ2) [(6,BD b)]) w8
    refine W<|W ?_
    refine bz bX [0,1,2,3,4,5,6] [] [] [0,2,3,4,6] (sp []) N N N N Nq (cG _) ?_
    refine aw Z Z Z Z Z (fun w' hw'=>Zf eB Z)<|aw Z Z Z Z Z (fun w' hw'=>aU aj Z (aB ((H.later hw').ent (i:=1) Z) Z))<|aw Z Z Z Z Z (fun w' hw'=>Yp Z)<|aw Z Z Z Z Z (fun w' hw'=>aI Z)<|aw Z Z Z Z Z (fun w' hw'=>Zf jJ Z)<|aw Z Z Z Z Z (fun w' hw'=>aU aj Z (aB ((H.later hw').ent (i:=0) Z) Z)) ?_
    refine Nu Z Z Z Z Z (fun w' hw'=>iO Z Z) (fun h36=> ?_) (fun h36=> ?_)
    ·
     refine aS ?_
     intro w9 hw' hF
     replace H:=H.later hw';clear hw' hF
     refine U<|ZT Z<|Zr<|G (Yp Z)<|G (Yp Z)<|G (Zf eB Z)<|G (Zd aj H 1 Z Z Z)<|G (aI Z)<|G (Zf jJ Z)<|bo H 0 ((Prod.c ⟨x3.ver,p.seq,p.open_,p.mark⟩).toArray) bI Z Z Z Z Z N N fun w10 H=>G (aI Z)<|G (Zf fk Z)<|bo H 0 ((Prod.c ⟨x3.ver,-1,p.open_,p.mark⟩).toArray) bI Z Z Z Z Z N N fun w11 H=>U<|Zb<|W<|Zr<|G (Zf eZ Z)<|G (Zd aj H 1 Z Z Z) ?_
     refine qt (iO Z Z) Z Z Z (fun h66=> ?_) (fun h66=> ?_)
     ·
      refine G (Wb Z)<|U<|ZT Z<|Zr<|G (Yp Z)<|G (Yp Z)<|G (Yi Z)<|G (aI Z)<|G (Zf dZ Z)<|bo H 0 ((Prod.c ⟨x3.ver,-1,-1,p.mark⟩).toArray) bI Z Z Z Z Z N N fun w12 H=>G (aI Z)<|G (Zf hM Z)<|bo H 0 ((Prod.c ⟨x3.ver,-1,-1,k⟩).toArray) bI Z Z Z Z Z N N fun w13 H=>U<|Zr<|G (br Z Z I I)<|G (Yi Z)<|U ?_
      have hst:(⟨x3.ver,-1,-1,k⟩:Prod)=fO k x3 p:=by
       simp[fO,pv,h36,h66]
      have hP:=jb (q':=(x3.pid,b,(⟨x3.ver,-1,-1,k⟩:Prod))) hj
      refine⟨(k+1,S1.set j (x3.pid,b,(⟨x3.ver,-1,-1,k⟩:Prod))),⟨by omega,kS e3.at_ h17 hn hj hp ho hst,(H.perm (L':=(b5,_)::jr bm (S1.set j (x3.pid,b,_))) (by unfold jr;rw[gh hj];exact((hP.cons _).cons _).trans (((al _ _ _).cons _).trans (al _ _ _)))).forget (aW _ _) (fun _ h=>h)⟩,dI Z,Qg,by show es.length- (k+1)<es.length-k;omega⟩
     ·
      refine G (Wb Z)<|U<|ZF Z<|W<|Zr<|G (Yp Z)<|G (Zf fa Z)<|G (Zd aj H 1 Z Z Z)<|G (aI Z)<|G (Zf fk Z)<|bo H 0 ((Prod.c ⟨x3.ver,x3.seq,p.open_,p.mark⟩).toArray) bI Z Z Z Z Z N N fun w14 H=>U<|W<|Zr<|G (Zf iZ Z) ?_
      refine wm (aU dQ Z (aB (H.ent (i:=1) Z) Z)) Z Z Z (fun h51=> ?_) (fun h51=> ?_)
      ·
       refine G (Yb Z)<|ZG<|G (Yp Z)<|ZG<|G (aI Z)<|ZG<|G (Zf dZ Z)<|ZG<|G (Zd aj H 0 Z Z Z)<|ZG ?_
       refine cU (cH Z Z) Z Z Z (fun h57=> ?_) (fun h57=> ?_)
       ·
        refine G (Kt Z Z)<|U<|ZT Z<|Zr<|G (Yp Z)<|G (Yi Z)<|G (aI Z)<|G (Zf dZ Z)<|bo H 0 ((Prod.c ⟨x3.ver,x3.seq,k,p.mark⟩).toArray) bI Z Z Z Z Z N N fun w15 H=>U<|Zr<|G (br Z Z I I)<|G (Yi Z)<|U ?_
        replace h57:p.open_<0:=h57
        have hst:(⟨x3.ver,x3.seq,k,p.mark⟩:Prod)=fO k x3 p:=by
         simp[fO,pv,h36,h66,h51,h57]
        have hP:=jb (q':=(x3.pid,b,(⟨x3.ver,x3.seq,k,p.mark⟩:Prod))) hj
        refine⟨(k+1,S1.set j (x3.pid,b,(⟨x3.ver,x3.seq,k,p.mark⟩:Prod))),⟨by omega,kS e3.at_ h17 hn hj hp ho hst,(H.perm (L':=(b5,_)::jr bm (S1.set j (x3.pid,b,_))) (by unfold jr;rw[gh hj];exact((hP.cons _).cons _).trans (((al _ _ _).cons _).trans (al _ _ _)))).forget (aW _ _) (fun _ h=>h)⟩,dI Z,Qg,by show es.length- (k+1)<es.length-k;omega⟩
       ·
        refine G (Kt Z Z)<|U<|ZF Z<|Zk<|Zr<|G (br Z Z I I)<|G (Yi Z)<|U ?_
        replace h57: ¬ p.open_<0:=h57
        have hst:(⟨x3.ver,x3.seq,p.open_,p.mark⟩:Prod)=fO k x3 p:=by
         simp[fO,pv,h36,h66,h51,h57]
        have hP:=jb (q':=(x3.pid,b,(⟨x3.ver,x3.seq,p.open_,p.mark⟩:Prod))) hj
        refine⟨(k+1,S1.set j (x3.pid,b,(⟨x3.ver,x3.seq,p.open_,p.mark⟩:Prod))),⟨by omega,kS e3.at_ h17 hn hj hp ho hst,(H.perm (L':=(b5,_)::jr bm (S1.set j (x3.pid,b,_))) (by unfold jr;rw[gh hj];exact((hP.cons _).cons _).trans (((al _ _ _).cons _).trans (al _ _ _)))).forget (aW _ _) (fun _ h=>h)⟩,dI Z,Qg,by show es.length- (k+1)<es.length-k;omega⟩
      ·
       refine G (Yb Z)<|ZN<|ZN<|ZN<|ZN<|ZN<|G (N Z Z)<|U<|ZF Z<|Zk<|Zr<|G (br Z Z I I)<|G (Yi Z)<|U ?_
       have hst:(⟨x3.ver,x3.seq,p.open_,p.mark⟩:Prod)=fO k x3 p:=by
        simp[fO,pv,h36,h66,h51]
       have hP:=jb (q':=(x3.pid,b,(⟨x3.ver,x3.seq,p.open_,p.mark⟩:Prod))) hj
       refine⟨(k+1,S1.set j (x3.pid,b,(⟨x3.ver,x3.seq,p.open_,p.mark⟩:Prod))),⟨by omega,kS e3.at_ h17 hn hj hp ho hst,(H.perm (L':=(b5,_)::jr bm (S1.set j (x3.pid,b,_))) (by unfold jr;rw[gh hj];exact((hP.cons _).cons _).trans (((al _ _ _).cons _).trans (al _ _ _)))).forget (aW _ _) (fun _ h=>h)⟩,dI Z,Qg,by show es.length- (k+1)<es.length-k;omega⟩
    ·
     refine aS ?_
     intro w16 hw' hF
     replace H:=H.later hw';clear hw' hF
     refine U<|ZF Z<|Zk<|Zb<|W<|Zr<|G (Zf eZ Z)<|G (Zd aj H 1 Z Z Z) ?_
     refine qt (iO Z Z) Z Z Z (fun h66=> ?_) (fun h66=> ?_)
     ·
      refine G (Wb Z)<|U<|ZT Z<|Zr<|G (Yp Z)<|G (Yp Z)<|G (Yi Z)<|G (aI Z)<|G (Zf dZ Z)<|bo H 0 ((Prod.c ⟨p.ver,p.seq,-1,p.mark⟩).toArray) bI Z Z Z Z Z N N fun w17 H=>G (aI Z)<|G (Zf hM Z)<|bo H 0 ((Prod.c ⟨p.ver,p.seq,-1,k⟩).toArray) bI Z Z Z Z Z N N fun w18 H=>U<|Zr<|G (br Z Z I I)<|G (Yi Z)<|U ?_
      have hst:(⟨p.ver,p.seq,-1,k⟩:Prod)=fO k x3 p:=by
       simp[fO,pv,h36,h66]
      have hP:=jb (q':=(x3.pid,b,(⟨p.ver,p.seq,-1,k⟩:Prod))) hj
      refine⟨(k+1,S1.set j (x3.pid,b,(⟨p.ver,p.seq,-1,k⟩:Prod))),⟨by omega,kS e3.at_ h17 hn hj hp ho hst,(H.perm (L':=(b5,_)::jr bm (S1.set j (x3.pid,b,_))) (by unfold jr;rw[gh hj];exact((hP.cons _).cons _).trans (((al _ _ _).cons _).trans (al _ _ _)))).forget (aW _ _) (fun _ h=>h)⟩,dI Z,Qg,by show es.length- (k+1)<es.length-k;omega⟩
     ·
      refine G (Wb Z)<|U<|ZF Z<|W<|Zr<|G (Yp Z)<|G (Zf fa Z)<|G (Zd aj H 1 Z Z Z)<|G (aI Z)<|G (Zf fk Z)<|bo H 0 ((Prod.c ⟨p.ver,x3.seq,p.open_,p.mark⟩).toArray) bI Z Z Z Z Z N N fun w19 H=>U<|W<|Zr<|G (Zf iZ Z) ?_
      refine wm (aU dQ Z (aB (H.ent (i:=1) Z) Z)) Z Z Z (fun h51=> ?_) (fun h51=> ?_)
      ·
       refine G (Yb Z)<|ZG<|G (Yp Z)<|ZG<|G (aI Z)<|ZG<|G (Zf dZ Z)<|ZG<|G (Zd aj H 0 Z Z Z)<|ZG ?_
       refine cU (cH Z Z) Z Z Z (fun h57=> ?_) (fun h57=> ?_)
       ·
        refine G (Kt Z Z)<|U<|ZT Z<|Zr<|G (Yp Z)<|G (Yi Z)<|G (aI Z)<|G (Zf dZ Z)<|bo H 0 ((Prod.c ⟨p.ver,x3.seq,k,p.mark⟩).toArray) bI Z Z Z Z Z N N fun w20 H=>U<|Zr<|G (br Z Z I I)<|G (Yi Z)<|U ?_
        replace h57:p.open_<0:=h57
        have hst:(⟨p.ver,x3.seq,k,p.mark⟩:Prod)=fO k x3 p:=by
         simp[fO,pv,h36,h66,h51,h57]
        have hP:=jb (q':=(x3.pid,b,(⟨p.ver,x3.seq,k,p.mark⟩:Prod))) hj
        refine⟨(k+1,S1.set j (x3.pid,b,(⟨p.ver,x3.seq,k,p.mark⟩:Prod))),⟨by omega,kS e3.at_ h17 hn hj hp ho hst,(H.perm (L':=(b5,_)::jr bm (S1.set j (x3.pid,b,_))) (by unfold jr;rw[gh hj];exact((hP.cons _).cons _).trans (((al _ _ _).cons _).trans (al _ _ _)))).forget (aW _ _) (fun _ h=>h)⟩,dI Z,Qg,by show es.length- (k+1)<es.length-k;omega⟩
       ·
        refine G (Kt Z Z)<|U<|ZF Z<|Zk<|Zr<|G (br Z Z I I)<|G (Yi Z)<|U ?_
        replace h57: ¬ p.open_<0:=h57
        have hst:(⟨p.ver,x3.seq,p.open_,p.mark⟩:Prod)=fO k x3 p:=by
         simp[fO,pv,h36,h66,h51,h57]
        have hP:=jb (q':=(x3.pid,b,(⟨p.ver,x3.seq,p.open_,p.mark⟩:Prod))) hj
        refine⟨(k+1,S1.set j (x3.pid,b,(⟨p.ver,x3.seq,p.open_,p.mark⟩:Prod))),⟨by omega,kS e3.at_ h17 hn hj hp ho hst,(H.perm (L':=(b5,_)::jr bm (S1.set j (x3.pid,b,_))) (by unfold jr;rw[gh hj];exact((hP.cons _).cons _).trans (((al _ _ _).cons _).trans (al _ _ _)))).forget (aW _ _) (fun _ h=>h)⟩,dI Z,Qg,by show es.length- (k+1)<es.length-k;omega⟩
      ·
       refine G (Yb Z)<|ZN<|ZN<|ZN<|ZN<|ZN<|G (N Z Z)<|U<|ZF Z<|Zk<|Zr<|G (br Z Z I I)<|G (Yi Z)<|U ?_
       have hst:(⟨p.ver,x3.seq,p.open_,p.mark⟩:Prod)=fO k x3 p:=by
        simp[fO,pv,h36,h66,h51]
       have hP:=jb (q':=(x3.pid,b,(⟨p.ver,x3.seq,p.open_,p.mark⟩:Prod))) hj
       refine⟨(k+1,S1.set j (x3.pid,b,(⟨p.ver,x3.seq,p.open_,p.mark⟩:Prod))),⟨by omega,kS e3.at_ h17 hn hj hp ho hst,(H.perm (L':=(b5,_)::jr bm (S1.set j (x3.pid,b,_))) (by unfold jr;rw[gh hj];exact((hP.cons _).cons _).trans (((al _ _ _).cons _).trans (al _ _ _)))).forget (aW _ _) (fun _ h=>h)⟩,dI Z,Qg,by show es.length- (k+1)<es.length-k;omega⟩
   ·
    refine G (NH rM qD Z Z (H.ent (i:=1) Z) (by rw[uA];exact hS.1) (E2 hj))<|G (Wp Z)<|U<|W ?_
    refine eC (τ:=List PB×Nat×Nat×Prod) [6,22,23,24,25,26,27,28,29] (fun(S1,j,b,p)=>[(6,BD b)]) (fun(S1,j,b,p) w'=>(S1.map (·.1)).Nodup/\S1[j]? =some (x3.pid,b,p)/\p=(j5 (es.take k) x3.pid).getD p0/\(∀ pid,pid≠x3.pid->uT S1 pid=j5 (es.take k) pid)/\Hp w w' ((b,.cells p.c.toArray lN (0,0))::(b5,.cells (cO.c x3).toArray du (0,0))::(bm,tK (qX S1))::(S1.eraseIdx j).map xK) [dE gL 0 w.heap.size A es]) ?_ ?_
    ·skip
     refine W<|Zr<|G (Yp Z)<|G (vQ nR Z)<|U<|ZF Z<|Zk ?_
     refine⟨(S,j,b,p),⟨hS.1,hj,by rw[<-hS.2,uE hS.1 hj];rfl,fun pid _=>hS.2 pid,H.perm ?_⟩,dI Z,Qg⟩
     have hP:=Fd hj
     exact((al _ _ _).trans ((al _ _ _).cons _)).trans ((hP.cons _).cons _)
    rintro⟨S1,j,b,p⟩ ρ2 w21 ⟨hn,hj,hp,ho,H⟩
    show CW _ _ _ _ (dA (gC _ _ ρ2) [(6,BD b)]) w21
    refine W<|W ?_
    refine bz bX [0,1,2,3,4,5,6] [] [] [0,2,3,4,6] (sp []) N N N N Nq (cG _) ?_
    refine aw Z Z Z Z Z (fun w' hw'=>Zf eB Z)<|aw Z Z Z Z Z (fun w' hw'=>aU aj Z (aB ((H.later hw').ent (i:=1) Z) Z))<|aw Z Z Z Z Z (fun w' hw'=>Yp Z)<|aw Z Z Z Z Z (fun w' hw'=>aI Z)<|aw Z Z Z Z Z (fun w' hw'=>Zf jJ Z)<|aw Z Z Z Z Z (fun w' hw'=>aU aj Z (aB ((H.later hw').ent (i:=0) Z) Z)) ?_
    refine Nu Z Z Z Z Z (fun w' hw'=>iO Z Z) (fun h36=> ?_) (fun h36=> ?_)
    ·
     refine aS ?_
     intro w22 hw' hF
     replace H:=H.later hw';clear hw' hF
     refine U<|ZT Z<|Zr<|G (Yp Z)<|G (Yp Z)<|G (Zf eB Z)<|G (Zd aj H 1 Z Z Z)<|G (aI Z)<|G (Zf jJ Z)<|bo H 0 ((Prod.c ⟨x3.ver,p.seq,p.open_,p.mark⟩).toArray) bI Z Z Z Z Z N N fun w23 H=>G (aI Z)<|G (Zf fk Z)<|bo H 0 ((Prod.c ⟨x3.ver,-1,p.open_,p.mark⟩).toArray) bI Z Z Z Z Z N N fun w24 H=>U<|Zb<|W<|Zr<|G (Zf eZ Z)<|G (Zd aj H 1 Z Z Z) ?_
     refine qt (iO Z Z) Z Z Z (fun h66=> ?_) (fun h66=> ?_)
     ·
      refine G (Wb Z)<|U<|ZT Z<|Zr<|G (Yp Z)<|G (Yp Z)<|G (Yi Z)<|G (aI Z)<|G (Zf dZ Z)<|bo H 0 ((Prod.c ⟨x3.ver,-1,-1,p.mark⟩).toArray) bI Z Z Z Z Z N N fun w25 H=>G (aI Z)<|G (Zf hM Z)<|bo H 0 ((Prod.c ⟨x3.ver,-1,-1,k⟩).toArray) bI Z Z Z Z Z N N fun w26 H=>U<|Zr<|G (br Z Z I I)<|G (Yi Z)<|U ?_
      have hst:(⟨x3.ver,-1,-1,k⟩:Prod)=fO k x3 p:=by
       simp[fO,pv,h36,h66]
      have hP:=jb (q':=(x3.pid,b,(⟨x3.ver,-1,-1,k⟩:Prod))) hj
      refine⟨(k+1,S1.set j (x3.pid,b,(⟨x3.ver,-1,-1,k⟩:Prod))),⟨by omega,kS e3.at_ h17 hn hj hp ho hst,(H.perm (L':=(b5,_)::jr bm (S1.set j (x3.pid,b,_))) (by unfold jr;rw[gh hj];exact((hP.cons _).cons _).trans (((al _ _ _).cons _).trans (al _ _ _)))).forget (aW _ _) (fun _ h=>h)⟩,dI Z,Qg,by show es.length- (k+1)<es.length-k;omega⟩
     ·
      refine G (Wb Z)<|U<|ZF Z<|W<|Zr<|G (Yp Z)<|G (Zf fa Z)<|G (Zd aj H 1 Z Z Z)<|G (aI Z)<|G (Zf fk Z)<|bo H 0 ((Prod.c ⟨x3.ver,x3.seq,p.open_,p.mark⟩).toArray) bI Z Z Z Z Z N N fun w27 H=>U<|W<|Zr<|G (Zf iZ Z) ?_
      refine wm (aU dQ Z (aB (H.ent (i:=1) Z) Z)) Z Z Z (fun h51=> ?_) (fun h51=> ?_)
      ·
       refine G (Yb Z)<|ZG<|G (Yp Z)<|ZG<|G (aI Z)<|ZG<|G (Zf dZ Z)<|ZG<|G (Zd aj H 0 Z Z Z)<|ZG ?_
       refine cU (cH Z Z) Z Z Z (fun h57=> ?_) (fun h57=> ?_)
       ·
        refine G (Kt Z Z)<|U<|ZT Z<|Zr<|G (Yp Z)<|G (Yi Z)<|G (aI Z)<|G (Zf dZ Z)<|bo H 0 ((Prod.c ⟨x3.ver,x3.seq,k,p.mark⟩).toArray) bI Z Z Z Z Z N N fun w28 H=>U<|Zr<|G (br Z Z I I)<|G (Yi Z)<|U ?_
        replace h57:p.open_<0:=h57
        have hst:(⟨x3.ver,x3.seq,k,p.mark⟩:Prod)=fO k x3 p:=by
         simp[fO,pv,h36,h66,h51,h57]
        have hP:=jb (q':=(x3.pid,b,(⟨x3.ver,x3.seq,k,p.mark⟩:Prod))) hj
        refine⟨(k+1,S1.set j (x3.pid,b,(⟨x3.ver,x3.seq,k,p.mark⟩:Prod))),⟨by omega,kS e3.at_ h17 hn hj hp ho hst,(H.perm (L':=(b5,_)::jr bm (S1.set j (x3.pid,b,_))) (by unfold jr;rw[gh hj];exact((hP.cons _).cons _).trans (((al _ _ _).cons _).trans (al _ _ _)))).forget (aW _ _) (fun _ h=>h)⟩,dI Z,Qg,by show es.length- (k+1)<es.length-k;omega⟩
       ·
        refine G (Kt Z Z)<|U<|ZF Z<|Zk<|Zr<|G (br Z Z I I)<|G (Yi Z)<|U ?_
        replace h57: ¬ p.open_<0:=h57
        have hst:(⟨x3.ver,x3.seq,p.open_,p.mark⟩:Prod)=fO k x3 p:=by
         simp[fO,pv,h36,h66,h51,h57]
        have hP:=jb (q':=(x3.pid,b,(⟨x3.ver,x3.seq,p.open_,p.mark⟩:Prod))) hj
        refine⟨(k+1,S1.set j (x3.pid,b,(⟨x3.ver,x3.seq,p.open_,p.mark⟩:Prod))),⟨by omega,kS e3.at_ h17 hn hj hp ho hst,(H.perm (L':=(b5,_)::jr bm (S1.set j (x3.pid,b,_))) (by unfold jr;rw[gh hj];exact((hP.cons _).cons _).trans (((al _ _ _).cons _).trans (al _ _ _)))).forget (aW _ _) (fun _ h=>h)⟩,dI Z,Qg,by show es.length- (k+1)<es.length-k;omega⟩
      ·
       refine G (Yb Z)<|ZN<|ZN<|ZN<|ZN<|ZN<|G (N Z Z)<|U<|ZF Z<|Zk<|Zr<|G (br Z Z I I)<|G (Yi Z)<|U ?_
       have hst:(⟨x3.ver,x3.seq,p.open_,p.mark⟩:Prod)=fO k x3 p:=by
        simp[fO,pv,h36,h66,h51]
       have hP:=jb (q':=(x3.pid,b,(⟨x3.ver,x3.seq,p.open_,p.mark⟩:Prod))) hj
       refine⟨(k+1,S1.set j (x3.pid,b,(⟨x3.ver,x3.seq,p.open_,p.mark⟩:Prod))),⟨by omega,kS e3.at_ h17 hn hj hp ho hst,(H.perm (L':=(b5,_)::jr bm (S1.set j (x3.pid,b,_))) (by unfold jr;rw[gh hj];exact((hP.cons _).cons _).trans (((al _ _ _).cons _).trans (al _ _ _)))).forget (aW _ _) (fun _ h=>h)⟩,dI Z,Qg,by show es.length- (k+1)<es.length-k;omega⟩
    ·
     refine aS ?_
     intro w29 hw' hF
     replace H:=H.later hw';clear hw' hF
     refine U<|ZF Z<|Zk<|Zb<|W<|Zr<|G (Zf eZ Z)<|G (Zd aj H 1 Z Z Z) ?_
     refine qt (iO Z Z) Z Z Z (fun h66=> ?_) (fun h66=> ?_)
     ·
      refine G (Wb Z)<|U<|ZT Z<|Zr<|G (Yp Z)<|G (Yp Z)<|G (Yi Z)<|G (aI Z)<|G (Zf dZ Z)<|bo H 0 ((Prod.c ⟨p.ver,p.seq,-1,p.mark⟩).toArray) bI Z Z Z Z Z N N fun w30 H=>G (aI Z)<|G (Zf hM Z)<|bo H 0 ((Prod.c ⟨p.ver,p.seq,-1,k⟩).toArray) bI Z Z Z Z Z N N fun w31 H=>U<|Zr<|G (br Z Z I I)<|G (Yi Z)<|U ?_
      have hst:(⟨p.ver,p.seq,-1,k⟩:Prod)=fO k x3 p:=by
       simp[fO,pv,h36,h66]
      have hP:=jb (q':=(x3.pid,b,(⟨p.ver,p.seq,-1,k⟩:Prod))) hj
      refine⟨(k+1,S1.set j (x3.pid,b,(⟨p.ver,p.seq,-1,k⟩:Prod))),⟨by omega,kS e3.at_ h17 hn hj hp ho hst,(H.perm (L':=(b5,_)::jr bm (S1.set j (x3.pid,b,_))) (by unfold jr;rw[gh hj];exact((hP.cons _).cons _).trans (((al _ _ _).cons _).trans (al _ _ _)))).forget (aW _ _) (fun _ h=>h)⟩,dI Z,Qg,by show es.length- (k+1)<es.length-k;omega⟩
     ·
      refine G (Wb Z)<|U<|ZF Z<|W<|Zr<|G (Yp Z)<|G (Zf fa Z)<|G (Zd aj H 1 Z Z Z)<|G (aI Z)<|G (Zf fk Z)<|bo H 0 ((Prod.c ⟨p.ver,x3.seq,p.open_,p.mark⟩).toArray) bI Z Z Z Z Z N N fun w32 H=>U<|W<|Zr<|G (Zf iZ Z) ?_
      refine wm (aU dQ Z (aB (H.ent (i:=1) Z) Z)) Z Z Z (fun h51=> ?_) (fun h51=> ?_)
      ·
       refine G (Yb Z)<|ZG<|G (Yp Z)<|ZG<|G (aI Z)<|ZG<|G (Zf dZ Z)<|ZG<|G (Zd aj H 0 Z Z Z)<|ZG ?_
       refine cU (cH Z Z) Z Z Z (fun h57=> ?_) (fun h57=> ?_)
       ·
        refine G (Kt Z Z)<|U<|ZT Z<|Zr<|G (Yp Z)<|G (Yi Z)<|G (aI Z)<|G (Zf dZ Z)<|bo H 0 ((Prod.c ⟨p.ver,x3.seq,k,p.mark⟩).toArray) bI Z Z Z Z Z N N fun w33 H=>U<|Zr<|G (br Z Z I I)<|G (Yi Z)<|U ?_
        replace h57:p.open_<0:=h57
        have hst:(⟨p.ver,x3.seq,k,p.mark⟩:Prod)=fO k x3 p:=by
         simp[fO,pv,h36,h66,h51,h57]
        have hP:=jb (q':=(x3.pid,b,(⟨p.ver,x3.seq,k,p.mark⟩:Prod))) hj
        refine⟨(k+1,S1.set j (x3.pid,b,(⟨p.ver,x3.seq,k,p.mark⟩:Prod))),⟨by omega,kS e3.at_ h17 hn hj hp ho hst,(H.perm (L':=(b5,_)::jr bm (S1.set j (x3.pid,b,_))) (by unfold jr;rw[gh hj];exact((hP.cons _).cons _).trans (((al _ _ _).cons _).trans (al _ _ _)))).forget (aW _ _) (fun _ h=>h)⟩,dI Z,Qg,by show es.length- (k+1)<es.length-k;omega⟩
       ·
        refine G (Kt Z Z)<|U<|ZF Z<|Zk<|Zr<|G (br Z Z I I)<|G (Yi Z)<|U ?_
        replace h57: ¬ p.open_<0:=h57
        have hst:(⟨p.ver,x3.seq,p.open_,p.mark⟩:Prod)=fO k x3 p:=by
         simp[fO,pv,h36,h66,h51,h57]
        have hP:=jb (q':=(x3.pid,b,(⟨p.ver,x3.seq,p.open_,p.mark⟩:Prod))) hj
        refine⟨(k+1,S1.set j (x3.pid,b,(⟨p.ver,x3.seq,p.open_,p.mark⟩:Prod))),⟨by omega,kS e3.at_ h17 hn hj hp ho hst,(H.perm (L':=(b5,_)::jr bm (S1.set j (x3.pid,b,_))) (by unfold jr;rw[gh hj];exact((hP.cons _).cons _).trans (((al _ _ _).cons _).trans (al _ _ _)))).forget (aW _ _) (fun _ h=>h)⟩,dI Z,Qg,by show es.length- (k+1)<es.length-k;omega⟩
      ·
       refine G (Yb Z)<|ZN<|ZN<|ZN<|ZN<|ZN<|G (N Z Z)<|U<|ZF Z<|Zk<|Zr<|G (br Z Z I I)<|G (Yi Z)<|U ?_
       have hst:(⟨p.ver,x3.seq,p.open_,p.mark⟩:Prod)=fO k x3 p:=by
        simp[fO,pv,h36,h66,h51]
       have hP:=jb (q':=(x3.pid,b,(⟨p.ver,x3.seq,p.open_,p.mark⟩:Prod))) hj
       refine⟨(k+1,S1.set j (x3.pid,b,(⟨p.ver,x3.seq,p.open_,p.mark⟩:Prod))),⟨by omega,kS e3.at_ h17 hn hj hp ho hst,(H.perm (L':=(b5,_)::jr bm (S1.set j (x3.pid,b,_))) (by unfold jr;rw[gh hj];exact((hP.cons _).cons _).trans (((al _ _ _).cons _).trans (al _ _ _)))).forget (aW _ _) (fun _ h=>h)⟩,dI Z,Qg,by show es.length- (k+1)<es.length-k;omega⟩
 ·
  refine U<|W<|ZF Z<|Zx<|W<|Zr<|G (KU Z)<|G (LU Z)<|U<|Zt ?_
  have hke:k=es.length:=by omega
  subst hke
  rw[bJ]at hS
  exact cy (v:=.map (some bm)) Z Z ⟨S,bm,rfl,hS,H.forget (ap _) (by simp)⟩
/-- an entry of a transaction that has no end yet -/
def nf (es:List cO) (k:Nat) (pid:Int):Prop:= ∃ e,es[k]? =some e/\e.kind=1/\e.txn=true/\e.pid=pid/\pid≠0/\ ∀ j f,k<j->es[j]? =some f->f.pid=pid->f.kind=1
theorem lR {es:List cO} {x:cO} {k:Nat} {pid:Int}:nf (es++[x]) k pid↔(k<es.length/\nf es k pid/\(x.pid=pid->x.kind=1))∨(k=es.length/\x.kind=1/\x.txn=true/\x.pid=pid/\pid≠0):=by
 constructor
 rintro⟨e,h1,h2,h3,h4,h5,h6⟩
 have hk:=(aA.1 h1).1
 simp at hk
 by_cases hkl:k<es.length
 left
 rw[bV hkl]at h1
 refine⟨hkl,⟨e,h1,h2,h3,h4,h5,fun j f hj hf hp=>h6 j f hj (by rw[bV (aA.1 hf).1];exact hf) hp⟩,fun hp=>h6 es.length x hkl (by simp) hp⟩
 right
 have:k=es.length:=by omega
 subst this
 simp at h1
 subst h1
 exact⟨rfl,h2,h3,h4,h5⟩
 rintro(⟨hk,⟨e,h1,h2,h3,h4,h5,h6⟩,hx⟩|⟨rfl,h2,h3,h4,h5⟩)
 refine⟨e,by rw[bV hk];exact h1,h2,h3,h4,h5,fun j f hj hf hp=> ?_⟩
 by_cases hjl:j<es.length
 rw[bV hjl]at hf;exact h6 j f hj hf hp
 have hj2:=(aA.1 hf).1
 simp at hj2
 have:j=es.length:=by omega
 subst this
 simp at hf
 subst hf
 exact hx hp
 refine⟨x,by simp,h2,h3,h4,h5,fun j f hj hf _=> ?_⟩
 have hj2:=(aA.1 hf).1
 simp at hj2
 omega
structure JR (es:List cO) (pid:Int) (p:Prod):Prop where
 opn:p.open_= -1∨ ∃ k:Nat,p.open_=k/\nf es k pid
 least: ∀ k,nf es k pid->0<=p.open_/\p.open_<=k
 mark:p.mark= -1∨ ∃ (k:Nat) (e:cO),p.mark=k/\es[k]? =some e/\e.pid=pid/\e.kind≠1
 seq:p.seq= -1∨ ∃ e∈es,e.pid=pid/\e.kind=1/\p.seq=e.seq/\p.ver=e.ver
 ver: ∃ e∈es,e.pid=pid/\p.ver=e.ver
theorem CC {es:List cO} {x:cO} {p:Prod} (h0:x.pid≠0) (h:p=p0/\(∀ k,¬ nf es k x.pid)∨JR es x.pid p):JR (es++[x]) x.pid (fO es.length x p):=by
 have hpv:(pv x p).ver=x.ver/\(pv x p).open_=p.open_/\(pv x p).mark=p.mark/\((pv x p).seq= -1∨((pv x p).seq=p.seq/\p.ver=x.ver)):=by
  unfold pv
  split
  exact⟨rfl,rfl,rfl,.inl Z⟩
  rename_i hv
  have hv':x.ver=p.ver:=Classical.not_not.1 hv
  exact⟨hv'.symm,rfl,rfl,.inr ⟨rfl,hv'.symm⟩⟩
 obtain⟨v1,v2,v3,v4⟩:=hpv
 have hxm:x∈es++[x]:=by simp
 have hmark:p.mark= -1∨ ∃ (k:Nat) (e:cO),p.mark=k/\(es++[x])[k]? =some e/\e.pid=x.pid/\e.kind≠1:=by
  rcases h with⟨rfl,_⟩|h
  exact .inl Z
  rcases h.mark with h|⟨k,e,h1,h2,h3,h4⟩
  exact .inl h
  exact .inr ⟨k,e,h1,by rw[bV (aA.1 h2).1];exact h2,h3,h4⟩
 have hseq:(pv x p).seq= -1∨ ∃ e∈es++[x],e.pid=x.pid/\e.kind=1/\(pv x p).seq=e.seq/\x.ver=e.ver:=by
  rcases v4 with h1|⟨h1,h2⟩
  exact .inl h1
  rcases h with⟨rfl,_⟩|h
  exact .inl h1
  rcases h.seq with h|⟨e,he,a1,a2,a3,a4⟩
  exact .inl (h1.trans h)
  exact .inr ⟨e,ib _ he,a1,a2,h1.trans a3,h2.symm.trans a4⟩
 unfold fO
 split
 rename_i hk
 refine⟨.inl Z,fun k hok=> ?_,.inr ⟨es.length,x,rfl,by simp,rfl,hk⟩,?_,⟨x,hxm,rfl,v1⟩⟩
 rcases lR.1 hok with⟨_,_,h⟩|⟨_,h,_⟩
 exact absurd (h Z) hk
 exact absurd h hk
 rcases hseq with h|⟨e,he,a1,a2,a3,a4⟩
 exact .inl h
 exact .inr ⟨e,he,a1,a2,a3,v1.trans a4⟩
 rename_i hk
 have hk1:x.kind=1:=Classical.not_not.1 hk
 have hold: ∀ k,nf es k x.pid->nf (es++[x]) k x.pid:=fun k hok=>lR.2 (.inl ⟨by obtain⟨e,h,_⟩:=hok;exact(aA.1 h).1,hok,fun _=>hk1⟩)
 split
 rename_i ht
 rw[v2]at ht
 refine⟨.inr ⟨es.length,rfl,lR.2 (.inr ⟨rfl,hk1,ht.1,rfl,h0⟩)⟩,fun k hok=> ?_,by rw[v3];exact hmark,.inr ⟨x,hxm,rfl,hk1,rfl,v1⟩,⟨x,hxm,rfl,v1⟩⟩
 rcases lR.1 hok with⟨_,h1,_⟩|⟨rfl,_⟩
 rcases h with⟨_,hn⟩|h
 exact absurd h1 (hn k)
 have:=h.least k h1;omega
 exact⟨by simp,iV _⟩
 rename_i ht
 rw[v2]at ht
 refine⟨?_,fun k hok=> ?_,by rw[v3];exact hmark,.inr ⟨x,hxm,rfl,hk1,rfl,v1⟩,⟨x,hxm,rfl,v1⟩⟩
 rw[v2]
 rcases h with⟨rfl,_⟩|h
 exact .inl Z
 rcases h.opn with h|⟨k,h1,h2⟩
 exact .inl h
 exact .inr ⟨k,h1,hold k h2⟩
 rw[v2]
 rcases lR.1 hok with⟨_,h1,_⟩|⟨rfl,_,h2,_⟩
 rcases h with⟨_,hn⟩|h
 exact absurd h1 (hn k)
 exact h.least k h1
 rcases h with⟨rfl,_⟩|h
 exact absurd ⟨h2,by decide⟩ ht
 rcases h.opn with h|⟨k,h1,hok2⟩
 exact absurd ⟨h2,by omega⟩ ht
 obtain⟨_,hok3,_⟩:=hok2
 have:=(aA.1 hok3).1
 omega
theorem IX {es:List cO} {x:cO} {pid:Int} {p:Prod} (h0:x.pid≠pid) (h:JR es pid p):JR (es++[x]) pid p:=by
 have hold: ∀ k,nf (es++[x]) k pid↔nf es k pid:=fun k=>by
  rw[lR]
  constructor
  rintro(⟨_,h,_⟩|⟨_,_,_,h,_⟩)
  exact h
  exact absurd h h0
  intro h
  exact .inl ⟨by obtain⟨e,h,_⟩:=h;exact(aA.1 h).1,h,fun h=>absurd h h0⟩
 refine⟨?_,fun k hk=>h.least k ((hold k).1 hk),?_,?_,?_⟩
 rcases h.opn with h|⟨k,h1,h2⟩
 exact .inl h
 exact .inr ⟨k,h1,(hold k).2 h2⟩
 rcases h.mark with h|⟨k,e,h1,h2,h3⟩
 exact .inl h
 exact .inr ⟨k,e,h1,by rw[bV (aA.1 h2).1];exact h2,h3⟩
 rcases h.seq with h|⟨e,he,h⟩
 exact .inl h
 exact .inr ⟨e,ib _ he,h⟩
 obtain⟨e,he,h⟩:=h.ver
 exact⟨e,ib _ he,h⟩
theorem uz (es:List cO) (pid:Int):(∀ p,j5 es pid=some p->JR es pid p)/\(j5 es pid=none-> ∀ e∈es,e.pid=pid->pid=0):=by
 induction es using Kl with
 |h0=>exact⟨fun p h=>by simp[IU]at h,fun _ e he=>by cases he⟩
 |h1 es x ih=>
  obtain⟨ih1,ih2⟩:=ih
  rw[zV]
  by_cases hc:x.pid≠0/\x.pid=pid
  obtain⟨h0,rfl⟩:=hc
  rw[if_pos ⟨h0,rfl⟩]
  refine⟨fun p hp=> ?_,fun h=>by cases h⟩
  injection hp with hp
  subst hp
  cases hq:j5 es x.pid with
  |none=>
   refine CC h0 (.inl ⟨rfl,fun k hok=> ?_⟩)
   obtain⟨e,h1,_,_,h4,h5,_⟩:=hok
   exact h5 (ih2 hq e (ae h1) h4)
  |some q=>exact CC h0 (.inr (ih1 q hq))
  rw[if_neg hc]
  refine⟨fun p hp=> ?_,fun h e he hpe=> ?_⟩
  by_cases hx:x.pid=pid
  have h0:x.pid=0:=Classical.byContradiction fun h=>hc ⟨h,hx⟩
  obtain⟨e,he,h1,h1v⟩:=(ih1 p hp).ver
  have h:=ih1 p hp
  have hz:pid=0:=hx▸h0
  have hnone: ∀ l k,¬ nf l k pid:=fun l k ⟨_,_,_,_,_,h,_⟩=>h hz
  refine⟨?_,fun k hk=>absurd hk (hnone _ k),?_,?_,?_⟩
  rcases h.opn with h|⟨k,_,h2⟩
  exact .inl h
  exact absurd h2 (hnone _ k)
  rcases h.mark with h|⟨k,e,h1,h2,h3⟩
  exact .inl h
  exact .inr ⟨k,e,h1,by rw[bV (aA.1 h2).1];exact h2,h3⟩
  rcases h.seq with h|⟨e,he,h⟩
  exact .inl h
  exact .inr ⟨e,ib _ he,h⟩
  exact⟨e,ib _ he,h1,h1v⟩
  exact IX hx (ih1 p hp)
  rcases ar.1 he with he|he
  exact ih2 h e he hpe
  rw[aq.1 he]at hpe
  exact Classical.byContradiction fun h0=>hc ⟨fun h=>h0 (hpe▸h),hpe⟩
def tR (es:List cO) (n:Nat):Prop:=n<=es.length/\(∀ k pid,nf es k pid->n<=k)/\(n=es.length∨ ∃ pid,nf es n pid)
theorem G4 {es:List cO} {n m:Nat} (h:tR es n) (h':tR es m):n=m:=by
 obtain⟨a1,a2,a3⟩:=h
 obtain⟨b1,b2,b3⟩:=h'
 have h1:n<=m:=by
  rcases b3 with h|⟨pid,h⟩
  omega
  exact a2 _ _ h
 have h2:m<=n:=by
  rcases a3 with h|⟨pid,h⟩
  omega
  exact b2 _ _ h
 omega
theorem Je {es:List cO} {S:List PB} (hS:PS S es) {out:Int} (h1:out<=es.length) (h2: ∀ q∈S,0<=q.2.2.open_->out<=q.2.2.open_) (h3:out=es.length∨ ∃ q∈S,0<=q.2.2.open_/\out=q.2.2.open_): ∃ n:Nat,out=n/\tR es n:=by
 have hq: ∀ q∈S,JR es q.1 q.2.2:=fun q hq=>by
  obtain⟨a,b,p⟩:=q
  obtain⟨j,hj⟩:=aX.1 hq
  have:=uE hS.1 hj
  rw[hS.2]at this
  exact(uz es a).1 p this
 have h4: ∀ k pid,nf es k pid->out<=k:=fun k pid hok=>by
  cases hp:j5 es pid with
  |none=>
   obtain⟨e,e1,_,_,e4,e5,_⟩:=hok
   exact absurd ((uz es pid).2 hp e (ae e1) e4) e5
  |some p=>
   have hl:=(((uz es pid).1 p hp).least k hok)
   have hlk:=hS.2 pid
   rw[hp]at hlk
   unfold uT at hlk
   cases hf:S.find? (fun q=>decide (q.1=pid))with
   |none=>rw[hf]at hlk;cases hlk
   |some q=>
    rw[hf]at hlk
    simp at hlk
    have hm:=List.mem_of_find?_eq_some hf
    have:=h2 q hm (by rw[hlk];exact hl.1)
    rw[hlk]at this
    omega
 rcases h3 with rfl|⟨q,hqm,q0,rfl⟩
 exact⟨es.length,rfl,ao _,fun k pid h=>by have:=h4 k pid h;omega,.inl Z⟩
 rcases(hq q hqm).opn with h|⟨k,hk,hok⟩
 omega
 refine⟨k,hk,by omega,fun j pid h=>by have:=h4 j pid h;omega,.inr ⟨_,hok⟩⟩
def xS (es:List cO) (p:Int):Bool:=
 match es.find? (fun e=>!decide (e.kind=1)&&decide (e.pid=p))with
 |some e=>decide (e.kind=2)
 |none=>false
def yF (es:List cO) (i:Nat) (e:cO):Bool:=!e.txn||xS (es.drop (i+1)) e.pid
theorem tP (e:cO) (es:List cO) (p:Int):xS (e::es) p=if¬ e.kind=1/\e.pid=p then decide (e.kind=2)else xS es p:=by
 unfold xS
 rw[List.find?_cons]
 by_cases h1:e.kind=1<;>by_cases h2:e.pid=p<;>simp[h1,h2]
theorem cN {α:Type} {l:List α} {k:Nat} {e:α} (h:l[k]? =some e):l.drop k=e::l.drop (k+1):=by
 obtain⟨hk,rfl⟩:=cF h
 exact mS hk
theorem M6 (es:List cO) (A:Option Addr) (c i:Nat) (x:cO) (w:World) (hr:Rd gL 0 w.heap.size A es w) (hi:es[i]? =some x) (hc:es.length<=c) (hb:es.length<=1000000):
  db aa Fu [.slice A es.length c,J (i:Nat)] w fun v w2=>v=.bool (yF es i x)/\Below w.heap.size w w2:=by
 refine aD DU Z Z ?_
 have H:=Hp.startRd hr
 have hil:=(cF hi).1
 refine W<|Zr<|G (Wb Z)<|U<|W<|W<|Zr<|G (Ys Z)<|G (Yi Z)<|qu H 0 Z dS Z Z I I Z fun b1 o1 x1 e1=> ?_
 obtain rfl:x=x1:=by have:=e1.at_;rw[hi]at this;injection this
 refine G (Zf iZ Z) ?_
 refine wm (aU dQ Z (e1.cl 5 _ Z)) Z Z Z (fun h11=> ?_) (fun h11=> ?_)
 refine G (dF Z)<|U<|ZF Z<|Zk<|W<|W<|Zr<|G (Ys Z)<|G (Yi Z)<|G (br Z Z I I) ?_
 have h15:(i:Int)+1=((i+1:Nat):Int):=by omega
 rw[h15]
 refine NY (k:=i+1) H 0 Z dS Z Z Z hc I Z fun A16 H=> ?_
 generalize hds:es.drop (i+1)=ds at H
 have hdl:es.length- (i+1)=ds.length:=by rw[<-hds];simp
 rw[hdl]
 refine G (bn ez Z)<|G (Yi Z)<|U<|Zb ?_
 refine cf (τ:=Nat) [4,6,18,19,20,21,22,23,24,25,26,27,28,29,30,31,32,33,34,35,36,37,38] (fun k=>[(18,J (k:Nat))]) (fun k w'=>k<=ds.length/\xS ds x.pid=xS (ds.drop k) x.pid/\Hp w w' [] [dE gL 0 w.heap.size A16 ds,dE gL 0 w.heap.size A es]) (fun k=>ds.length-k) 0 ⟨by omega,rfl,H⟩ (dI Z) ?_
 rintro k ρ1 w2 ⟨hk,hkp,H⟩
 show CW _ _ _ _ (dA (gC _ _ ρ1) [(18,J (k:Nat))]) w2
 refine W<|Zr ?_
 refine cU (cH Z Z) Z Z Z (fun h19=> ?_) (fun h19=> ?_)
 refine U<|W<|ZT Z<|Zk<|W<|Zb<|W<|Zr<|qu H 0 Z dS Z Z I I Z fun b3 o3 x3 e3=>G (jT (xs:=cO.c x3) dG Z Z e3.cl)<|eE H gd Z fun w4 b6 H=>Kj H 0 eS Z Z Z Z Z Z fun w5 H=>U<|W ?_
 refine bz bX [0,1,2,3,4,5,6,7,8,9,10,11,12] [] [] [0,2,3,4,6,7,8,9,11,12] (sp []) N N N N Nq (cG _) ?_
 refine aw Z Z Z Z Z (fun w' hw'=>Zf eZ Z)<|aw Z Z Z Z Z (fun w' hw'=>aU aj Z (aB ((H.later hw').ent (i:=0) Z) Z)) ?_
 refine Nu Z Z Z Z Z (fun w' hw'=>iO Z Z) (fun h24=> ?_) (fun h24=> ?_)
 refine aw Z Z Z Z Z (fun w' hw'=>Yb Z)<|aw Z Z Z Z Z (fun w' hw'=>Zf fg Z)<|aw Z Z Z Z Z (fun w' hw'=>aU aj Z (aB ((H.later hw').ent (i:=0) Z) Z))<|aw Z Z Z Z Z (fun w' hw'=>Ys Z)<|aw Z Z Z Z Z (fun w' hw'=>Yi Z)<|kB H 1 Z Z Z Z Z dS Z Z I I fun b6 o6 x6 e6=> ?_
 obtain rfl:x=x6:=by have:=e6.at_;rw[hi]at this;injection this
 refine aw Z Z Z Z Z (fun w' hw'=>Zf fg Z)<|aw Z Z Z Z Z (fun w' hw'=>aU aj Z (e6.later hw' 1 _ Z)) ?_
 refine Bt Z Z Z Z Z (fun w' hw'=>bl Z Z) (fun h33=> ?_) (fun h33=> ?_)
 refine aw Z Z Z Z Z (fun w' hw'=>Kt Z Z)<|aS ?_
 intro w7 hw' hF
 replace H:=H.later hw';clear hw' hF
 refine U<|ZT Z<|W<|Zr<|G (Zf eZ Z)<|G (Zd aj H 0 Z Z Z)<|G (bl Z Z)<|G (Wb Z)<|U<|Zt ?_
 have hdk:=cN e3.at_
 have hx:yF es i x=decide (x3.kind=2):=by
  unfold yF;rw[h11,hds,hkp,hdk,tP,if_pos ⟨h24,h33⟩];rfl
 exact cy (v:=.bool (decide (x3.kind=2))) Z Z ⟨by rw[hx],H.below⟩
 refine aw Z Z Z Z Z (fun w' hw'=>Kt Z Z)<|aS ?_
 intro w8 hw' hF
 replace H:=H.later hw';clear hw' hF
 refine U<|ZF Z<|Zk<|Zr<|G (br Z Z I I)<|G (Yi Z)<|U ?_
 have hdk:=cN e3.at_
 rw[hdk,tP]at hkp
 rw[if_neg (by rintro⟨a,b⟩;first|exact a h24|exact h33 b)]at hkp
 refine⟨k+1,⟨by omega,hkp,H.forget (by simp) (fun _ h=>h)⟩,dI Z,Qg,by show ds.length- (k+1)<ds.length-k;omega⟩
 refine aw Z Z Z Z Z (fun w' hw'=>Yb Z)<|eQ Z Z Z Z<|eQ Z Z Z Z<|eQ Z Z Z Z<|eQ Z Z Z Z<|eQ Z Z Z Z<|eQ Z Z Z Z<|eQ Z Z Z Z<|eQ Z Z Z Z<|aw Z Z Z Z Z (fun w' hw'=>N Z Z)<|aS ?_
 intro w9 hw' hF
 replace H:=H.later hw';clear hw' hF
 refine U<|ZF Z<|Zk<|Zr<|G (br Z Z I I)<|G (Yi Z)<|U ?_
 have hdk:=cN e3.at_
 rw[hdk,tP]at hkp
 rw[if_neg (by rintro⟨a,b⟩;first|exact a h24|exact h33 b)]at hkp
 refine⟨k+1,⟨by omega,hkp,H.forget (by simp) (fun _ h=>h)⟩,dI Z,Qg,by show ds.length- (k+1)<ds.length-k;omega⟩
 refine U<|W<|ZF Z<|Zx<|W<|Zr<|G (Wb Z)<|U<|Zt ?_
 have hx:yF es i x=false:=by
  unfold yF;rw[h11,hds,hkp,eh I];rfl
 exact cy (v:=.bool false) Z Z ⟨by rw[hx],H.below⟩
 refine G (dF Z)<|U<|ZT Z<|W<|Zr<|G (Wb Z)<|U<|Zt ?_
 have hx:yF es i x=true:=by simp[yF,h11]
 exact cy (v:=.bool true) Z Z ⟨by rw[hx],H.below⟩
theorem Kz {S:List PB} {m:Nat} {k:Int} {v:Value} (h:(qX S)[m]? =some (k,v)): ∃ (b:Nat) (p:Prod),S[m]? =some (k,b,p)/\v=BD b:=by
 unfold qX at h
 rw[aL]at h
 cases hs:S[m]? with
 |none=>rw[hs]at h;cases h
 |some q=>
  rw[hs]at h
  obtain⟨a,b,p⟩:=q
  simp at h
  exact⟨b,p,by rw[h.1],h.2.symm⟩
def Dj (n:Nat) (seen:Array Nat):Nat:=((Bv n).filter fun m=>!seen.contains m).length
theorem Cn {n m:Nat} {seen:Array Nat} (hm:m<n) (hs:seen.contains m=false):Dj n (seen.push m)<Dj n seen:=by
 unfold Dj
 refine filter_lt _ _ (fun x hx=> ?_) m (by rw[hs];rfl) (by simp) _ (List.mem_range.2 hm)
 simp at hx⊢
 exact hx.1
theorem Cv (es:List cO) (A:Option Addr) (c n:Nat) (w:World) (hr:Rd gL 0 w.heap.size A es w) (hc:es.length<=c) (hb:es.length<=1000000) (hn:n<=es.length):
  db aa BL [.slice A es.length c,J (n:Nat)] w fun v w2=> ∃ m:Nat,tR (es.take n) m/\v=.tuple #[J (m:Nat),J 0]/\Below w.heap.size w w2:=by
 refine aD AH Z Z ?_
 have H:=Hp.startRd hr
 refine W<|Zr<|G (Wi Z)<|G (Wi Z)<|U<|W<|W<|Zr<|G (Yi Z)<|G (cZ Z Z I)<|G (Yb Z)<|ZG<|G (Yi Z)<|ZG<|G (Ys Z)<|ZG<|G (bn ez Z)<|ZG<|G (er Z Z I)<|G (N Z Z)<|U<|ZF Z<|Zk<|W<|Zr<|G (Yi Z)<|G (Wi Z)<|U<|W<|W<|Zr<|G (Ys Z)<|G (Yi Z)<|sr (k:=n) H 0 Z dS Z Z hc I Z fun A20 H=> ?_
 obtain⟨ds,hds⟩: ∃ ds,es.take n=ds:=⟨_,rfl⟩
 have hdl:n=ds.length:=by rw[<-hds];simp;omega
 rw[hds]at H⊢
 subst hdl
 refine bY uc (CA ds _ _ _ (H.rd0 0 Z) I) Z Z ?_
 rintro _ w1 ⟨S,bm,rfl,hS,hj⟩;replace H:=H.join hj;clear hj
 refine P9 H 0 rM Z Z Z fun w2 it H=>U<|Zb ?_
 refine cf (τ:=Array Nat×Int) [6,8,23,24,25,26,27,28,29,30,31,32,33,34,35,36,37] (fun(seen,out)=>[(6,J out)]) (fun(seen,out) w'=>out<=ds.length/\(∀ m q,S[m]? =some q->seen.contains m=true->0<=q.2.2.open_->out<=q.2.2.open_)/\(out=ds.length∨ ∃ q∈S,0<=q.2.2.open_/\out=q.2.2.open_)/\Hp w w' ((it,.mapIter (some bm) (qX S).length seen (qX S).length)::(jr bm S++[])) [dE gL 0 w.heap.size A20 ds,dE gL 0 w.heap.size A es]) (fun(seen,_)=>Dj S.length seen) (#[],(ds.length:Int)) ⟨by omega,by simp,.inl Z,H⟩ (dI Z) ?_
 rintro⟨seen,out⟩ ρ1 w3 ⟨ho1,ho2,ho3,H⟩
 show CW _ _ _ _ (dA (gC _ _ ρ1) [(6,J out)]) w3
 refine W<|Zr ?_
 refine Qc H 0 1 Z Z Z Z ?_ ?_
 intro hall
 refine G (Xb Z Z)<|U<|W<|ZF Z<|Zx<|W<|Zr<|G (Yi Z)<|G (Wi Z)<|G (Wi Z)<|U<|Zt ?_
 have hpl:(qX S).length=S.length:=by simp[qX]
 obtain⟨m,rfl,hst⟩:=Je hS ho1 (fun q hq h0=>by obtain⟨m,hm⟩:=aX.1 hq;exact ho2 m q hm (hall m (by rw[hpl];exact(cF hm).1)) h0) ho3
 exact mf Z Z Z ⟨m,by first|exact hst|(rw[hds];exact hst),rfl,H.below⟩
 intro m k v w4 hm hsn H
 obtain⟨b,p,hmS,rfl⟩:=Kz hm
 have hbk:=H.ent (i:=m+2) (b:=b) (o:=.cells p.c.toArray lN (0,0)) (by simp[jr,xK,hmS])
 have hml:=(cF hmS).1
 refine G (Xb Z Z)<|U<|W<|ZT Z<|Zk<|Zb<|W<|Zr<|G (OZ Z (H.ent (i:=0) Z) (H.ent (i:=1) Z) hm)<|G (OY Z Z)<|G (Wp Z)<|U<|W<|Zr<|G (Yp Z)<|G (aI Z)<|G (Zf dZ Z)<|G (aU aj Z (aB hbk Z)) ?_
 refine cU (ke Z Z) Z Z Z (fun h31=> ?_) (fun h31=> ?_)
 refine U<|ZT Z<|Zr<|G (Yi Z)<|G (Yp Z)<|G (aI Z)<|G (Zf dZ Z)<|G (aU aj Z (aB hbk Z))<|G (tJ Z Z)<|G (Wi Z)<|U ?_
 refine⟨(seen.push m,min out p.open_),⟨by omega,fun m2 q hq hs h0=> ?_,?_,H⟩,dI Z,Qg,Cn hml hsn⟩
 rw[Array.contains_push]at hs
 rcases Bool.or_eq_true_iff.1 hs with hs|hs
 have:=ho2 m2 q hq hs h0;omega
 have hmm:m2=m:=by simpa using hs
 subst hmm;rw[hmS]at hq;injection hq with hq;subst hq;try dsimp only at h0⊢
 omega
 by_cases hmin:out<=p.open_
 rw[Int.min_eq_left hmin];exact ho3
 exact .inr ⟨_,ae hmS,h31,by dsimp only;omega⟩
 refine U<|ZF Z<|Zk ?_
 refine⟨(seen.push m,out),⟨by omega,fun m2 q hq hs h0=> ?_,?_,H⟩,dI Z,Qg,Cn hml hsn⟩
 rw[Array.contains_push]at hs
 rcases Bool.or_eq_true_iff.1 hs with hs|hs
 have:=ho2 m2 q hq hs h0;omega
 have hmm:m2=m:=by simpa using hs
 subst hmm;rw[hmS]at hq;injection hq with hq;subst hq;try dsimp only at h0⊢
 exfalso;exact h31 h0
 exact ho3
def vT (es:List cO) (m:Int) (x:cO):Bool:=match es[m.toNat]? with
 |some e=>decide (e.kind=x.kind)&&decide (e.ver=x.ver)
 |none=>false
def m5 (x e:cO):Bool:=decide (e.kind=1)&&decide (e.pid=x.pid)&&decide (e.ver=x.ver)&&decide (e.seq=x.seq)
def pR (es:List cO) (x:cO) (p:Prod):Int×Int:=
 if x.ver<p.ver then(0,10)
 else if¬ x.kind=1 then(if p.open_<0/\0<=p.mark/\vT es p.mark x=true then(p.mark,0)else(-1,0))
 else if(if p.ver<x.ver then-1 else p.seq)+1<x.seq then(0,11)
 else if x.seq=(if p.ver<x.ver then-1 else p.seq)+1 then(-1,0)
 else match es.findIdx? (m5 x)with
  |some i=>((i:Int),0)
  |none=>(0,11)
def ic (es:List cO) (x:cO):Int×Int:=if x.pid=0 then(-1,0)else pR es x ((j5 es x.pid).getD ⟨x.ver,-1,-1,-1⟩)
def O9 (w:World) (es:List cO):Sp:=⟨fun v w2=> ∃ S bm,v=.map (some bm)/\PS S es/\Hp w w2 (jr bm S) [],fun _ _ _ hb ⟨S,bm,h1,h2,h3⟩=>⟨S,bm,h1,h2,h3.later hb⟩⟩
def seqB (es:List cO):Prop:= ∀ e∈es,-1000000000000000<=e.seq/\e.seq<=1000000000000000
theorem E0 {es:List cO} {x:cO} (hq:seqB es) {p:Prod} (hp:p=(j5 es x.pid).getD ⟨x.ver,-1,-1,-1⟩):(p.mark= -1∨ ∃ (k:Nat) (y:cO),p.mark=k/\es[k]? =some y)/\ -1000000000000000<=p.seq/\p.seq<=1000000000000000:=by
 cases h:j5 es x.pid with
 |none=>rw[h]at hp;subst hp;exact⟨.inl Z,by simp⟩
 |some q=>
  rw[h]at hp
  simp at hp
  subst hp
  have hi:=(uz es x.pid).1 p h
  refine⟨?_,?_⟩
  rcases hi.mark with h|⟨k,e,h1,h2,_⟩
  exact .inl h
  exact .inr ⟨k,e,h1,h2⟩
  rcases hi.seq with h|⟨e,he,_,_,h,_⟩
  omega
  have:=hq e he;omega
theorem FV {es:List cO} {x:cO} (h: ∀ j e,j<es.length->es[j]? =some e->m5 x e=false):es.findIdx? (m5 x)=none:=by
 rw[dn]
 intro e he
 obtain⟨j,hj⟩:=aX.1 he
 exact h j e (cF hj).1 hj
theorem FU {es:List cO} {x y:cO} {k:Nat} (hk:es[k]? =some y) (hy:m5 x y=true) (h: ∀ j e,j<k->es[j]? =some e->m5 x e=false):es.findIdx? (m5 x)=some k:=by
 rw[bg]
 obtain⟨hl,rfl⟩:=cF hk
 exact⟨hl,hy,fun j hj=>by rw[h j _ hj (ah I)];simp⟩
theorem Qj (S:List PB) (pid:Int) {w:World} {b:Nat} (hn:(S.map (·.1)).Nodup) (hb:w.heap[b]? =some (tK (qX S))): ∃ q:Option Addr,((q=none/\ ∀ r∈S,r.1≠pid)∨ ∃ (j c:Nat) (p:Prod),S[j]? =some (pid,c,p)/\q=some ⟨c,0,none⟩)/\ ∀ {ρ:gO} {dst:Option Nat} {x y:Operand} {t:TypeId} {p:String} {af:Array Edge} {g:Option (Nat×Bool)},ev ρ x=.map (some b)->ev ρ y=J pid->(execOp (ev ρ) (Og dst (.lookup Ip x y false) t p af g)).run aa w=.ok (.value (.pointer q)) w:=by
 rcases Ae S pid with h|⟨j,c,p,h⟩
 exact⟨none,.inl ⟨rfl,h⟩,fun hx hy=>NI rM qD hx hy hb (by intro q hq;obtain⟨a,ha,rfl⟩:=bw.1 hq;exact h a ha)⟩
 exact⟨some ⟨c,0,none⟩,.inr ⟨j,c,p,h,rfl⟩,fun hx hy=>NH rM qD hx hy hb (by rw[uA];exact hn) (E2 h)⟩
theorem Iy (es:List cO) (A:Option Addr) (c:Nat) (x:cO) (w:World) (hr:Rd gL 0 w.heap.size A es w) (hb:es.length<=1000000) (hq:seqB es):
  db aa DG [.slice A es.length c,x.v] w fun v w2=>v=.tuple #[J (ic es x).1,J (ic es x).2]/\Below w.heap.size w w2:=by
 refine aD BQ Z Z ?_
 have H:=Hp.startRd hr
 refine W<|Zr<|fT H Z Z fun w1 b3 H=>G (Wi Z)<|G (Wi Z)<|U<|W<|W<|Zr<|G (Zf fg Z)<|G (Zd aj H 0 Z Z Z) ?_
 refine cU (bl Z Z) Z Z Z (fun h11=> ?_) (fun h11=> ?_)
 refine U<|ZT Z<|W<|Zr<|G (Wi Z)<|G (Wi Z)<|U<|Zt ?_
 have hv:ic es x=(-1,0):=by unfold ic;rw[if_pos h11]
 exact mf (v:=J (-1)) (v2:=J 0) Z Z Z ⟨by rw[hv],H.below⟩
 refine U<|ZF Z<|Zk<|W ?_
 refine bz bX [0,2,3,1] [4,5] [1] [0,2] (sp [(1,O9 w1 es)]) N N N N Nq (cG _) ?_
 refine aw Z Z Z Z Z (fun w' hw'=>Ys Z)<|aw Z Z Z Z Z (fun w' hw'=>Zf fg Z)<|aw Z Z Z Z Z (fun w' hw'=>aU aj Z (aB ((H.later hw').ent (i:=0) Z) Z)) ?_
 refine yQ uc Z Z Z Z (fun w' hw'=>(CA es _ _ w' ((H.later hw').rd0 0 Z) hb).mono (fun v w2 ⟨S,bm,h1,h2,h3⟩=>⟨h3.below,S,bm,h1,h2,Hp.base hw' h3⟩)) Z ?_;rintro v13-
 refine aS ?_
 intro w2 hw' hF
 obtain⟨-,S,bm,rfl,hS,hj⟩:=hF
 replace H:=H.join hj;clear hj hw'
 have hb3:=H.ent (i:=S.length+1) (b:=b3) (o:=.cells (cO.c x).toArray du (0,0)) (by simp[jr])
 obtain⟨P16,hP16,hx16⟩:=Qj S x.pid hS.1 (H.ent (i:=0) Z)
 refine G (hx16 Z Z)<|G (Wp Z)<|U<|W ?_
 refine eC (τ:=Nat×Int×Int×Int×Int×List (Nat×Obj)) [6,17,18,19,20,21,22] (fun(b,_,_,_,_,_)=>[(6,BD b)]) (fun(b,pv_,ps,po,pm,K) w'=>(⟨pv_,ps,po,pm⟩:Prod)=(j5 es x.pid).getD ⟨x.ver,-1,-1,-1⟩/\Hp w w' ((b,.cells #[J pv_,J ps,J po,J pm] lN (0,0))::(b3,.cells (cO.c x).toArray du (0,0))::K) [dE gL 0 w.heap.size A es]) ?_ ?_
 refine W<|Zr ?_
 rcases hP16 with⟨rfl,hno⟩|⟨j,b,p,hj,rfl⟩
 refine G (Yp Z)<|G (xJ nR Z)<|U<|ZT Z<|Zr<|G (Zf eB Z)<|G (aU aj Z (aB hb3 Z))<|G (bi (cs:= #[J x.ver,J (-1),J (-1),J (-1)]) yt zx N)<|fT H Z Z fun w3 b22 H=>G (Wp Z)<|U ?_
 refine⟨(b22,x.ver,-1,-1,-1,jr bm S),⟨by rw[<-hS.2,CJ hno];rfl,H.perm ((tf _ _).symm.cons _)⟩,dI Z,Qg⟩
 refine G (Yp Z)<|G (vQ nR Z)<|U<|ZF Z<|Zk ?_
 have hP:=Fd hj
 refine⟨(b,p.ver,p.seq,p.open_,p.mark,(bm,tK (qX S))::(S.eraseIdx j).map xK),⟨by rw[<-hS.2,uE hS.1 hj];rfl,H.perm ?_⟩,dI Z,Qg⟩
 exact(qq (l₁:=[_,_])).symm.trans (((hP.cons _).cons _).trans (tf _ _).symm)
 rintro⟨b,pv_,ps,po,pm,K⟩ ρ2 w4 ⟨hp,H⟩
 show CW _ _ _ _ (dA (gC _ _ ρ2) [(6,BD b)]) w4
 obtain⟨hmark,hsq1,hsq2⟩:=E0 hq hp
 dsimp only at hsq1 hsq2
 refine W<|Zb<|W ?_
 refine bz bX [0,1,2,3,4,5,6,7] [] [] [0,2,3,4,6,7] (sp []) N N N N Nq (cG _) ?_
 refine aw Z Z Z Z Z (fun w' hw'=>Zf eB Z)<|aw Z Z Z Z Z (fun w' hw'=>aU aj Z (aB ((H.later hw').ent (i:=1) Z) Z))<|aw Z Z Z Z Z (fun w' hw'=>Yp Z)<|aw Z Z Z Z Z (fun w' hw'=>aI Z)<|aw Z Z Z Z Z (fun w' hw'=>Zf jJ Z)<|aw Z Z Z Z Z (fun w' hw'=>aU aj Z (aB ((H.later hw').ent (i:=0) Z) Z)) ?_
 refine Bt Z Z Z Z Z (fun w' hw'=>cH Z Z) (fun h30=> ?_) (fun h30=> ?_)
 refine aw Z Z Z Z Z (fun w' hw'=>Wb Z)<|aS ?_
 intro w5 hw' hF
 replace H:=H.later hw';clear hw' hF
 refine U<|ZT Z<|W<|Zr<|G (Wi Z)<|G (Wi Z)<|U<|Zt ?_
 have hv:ic es x=(0,10):=by
  unfold ic;rw[if_neg h11,<-hp];unfold pR;simp[h30]
 exact mf (v:=J (0)) (v2:=J 10) Z Z Z ⟨by rw[hv],H.below⟩
 refine aw Z Z Z Z Z (fun w' hw'=>Wb Z)<|aS ?_
 intro w6 hw' hF
 replace H:=H.later hw';clear hw' hF
 refine U<|ZF Z<|W<|Zr<|G (Zf eZ Z)<|G (Zd aj H 1 Z Z Z) ?_
 refine qt (iO Z Z) Z Z Z (fun h34=> ?_) (fun h34=> ?_)
 refine G (Wb Z)<|U<|ZT Z<|W<|W ?_
 refine bz bX [0,1,2,3,4,5,6,7,8,9,10,11,12,13,14,15,16,17,18,19,20,21,22,23,24,25,26,27,28,29,30,31,32,33,34,35,36,37] [] [] [0,1,2,4,5,6,7,8,10,11,12,13,14,15,16,18,19,21,23,24,25,26,27,28,29,31,32,34,36,37] (sp []) N N N N Nq (cG _) ?_
 refine aw Z Z Z Z Z (fun w' hw'=>Yp Z)<|aw Z Z Z Z Z (fun w' hw'=>aI Z)<|aw Z Z Z Z Z (fun w' hw'=>Zf dZ Z)<|aw Z Z Z Z Z (fun w' hw'=>aU aj Z (aB ((H.later hw').ent (i:=0) Z) Z)) ?_
 refine Bt Z Z Z Z Z (fun w' hw'=>cH Z Z) (fun h39=> ?_) (fun h39=> ?_)
 refine aw Z Z Z Z Z (fun w' hw'=>Yb Z)<|aw Z Z Z Z Z (fun w' hw'=>Yp Z)<|aw Z Z Z Z Z (fun w' hw'=>aI Z)<|aw Z Z Z Z Z (fun w' hw'=>Zf hM Z)<|aw Z Z Z Z Z (fun w' hw'=>aU aj Z (aB ((H.later hw').ent (i:=0) Z) Z)) ?_
 refine Bt Z Z Z Z Z (fun w' hw'=>ke Z Z) (fun h45=> ?_) (fun h45=> ?_)
 rcases hmark with hm1|⟨k,y,hmk,hyk⟩
 exfalso;dsimp only at hm1 h45;omega
 dsimp only at hmk
 subst hmk
 have hkl:=(cF hyk).1
 refine aw Z Z Z Z Z (fun w' hw'=>Kt Z Z)<|aw Z Z Z Z Z (fun w' hw'=>Yb Z)<|aw Z Z Z Z Z (fun w' hw'=>Ys Z)<|aw Z Z Z Z Z (fun w' hw'=>Yp Z)<|aw Z Z Z Z Z (fun w' hw'=>aI Z)<|aw Z Z Z Z Z (fun w' hw'=>Zf hM Z)<|aw Z Z Z Z Z (fun w' hw'=>aU aj Z (aB ((H.later hw').ent (i:=0) Z) Z))<|kB H 0 Z Z Z Z Z dS Z Z I I fun b7 o7 x7 e7=> ?_
 obtain rfl:y=x7:=by have:=e7.at_;rw[hyk]at this;injection this
 refine aw Z Z Z Z Z (fun w' hw'=>Zf eZ Z)<|aw Z Z Z Z Z (fun w' hw'=>aU aj Z (e7.later hw' 4 _ Z))<|aw Z Z Z Z Z (fun w' hw'=>Zf eZ Z)<|aw Z Z Z Z Z (fun w' hw'=>aU aj Z (aB ((H.later hw').ent (i:=1) Z) Z)) ?_
 refine Bt Z Z Z Z Z (fun w' hw'=>bl Z Z) (fun h58=> ?_) (fun h58=> ?_)
 refine aw Z Z Z Z Z (fun w' hw'=>Kt Z Z)<|aw Z Z Z Z Z (fun w' hw'=>Yb Z)<|aw Z Z Z Z Z (fun w' hw'=>Ys Z)<|aw Z Z Z Z Z (fun w' hw'=>Yp Z)<|aw Z Z Z Z Z (fun w' hw'=>aI Z)<|aw Z Z Z Z Z (fun w' hw'=>Zf hM Z)<|aw Z Z Z Z Z (fun w' hw'=>aU aj Z (aB ((H.later hw').ent (i:=0) Z) Z))<|kB H 0 Z Z Z Z Z dS Z Z I I fun b8 o8 x8 e8=> ?_
 obtain rfl:y=x8:=by have:=e8.at_;rw[hyk]at this;injection this
 refine aw Z Z Z Z Z (fun w' hw'=>Zf eB Z)<|aw Z Z Z Z Z (fun w' hw'=>aU aj Z (e8.later hw' 2 _ Z))<|aw Z Z Z Z Z (fun w' hw'=>Zf eB Z)<|aw Z Z Z Z Z (fun w' hw'=>aU aj Z (aB ((H.later hw').ent (i:=1) Z) Z)) ?_
 refine Bt Z Z Z Z Z (fun w' hw'=>bl Z Z) (fun h71=> ?_) (fun h71=> ?_)
 refine aw Z Z Z Z Z (fun w' hw'=>Kt Z Z)<|aS ?_
 intro w9 hw' hF
 replace H:=H.later hw';clear hw' hF
 refine U<|ZT Z<|W<|Zr<|G (Yp Z)<|G (aI Z)<|G (Zf hM Z)<|G (Zd aj H 0 Z Z Z)<|G (Wi Z)<|G (Wi Z)<|U<|Zt ?_
 have hmk:vT es (k:Nat) x=true:=by
  unfold vT;rw[show((k:Nat):Int).toNat=k from rfl,hyk];simp[h58,h71]
 have hv:ic es x=((k:Int),0):=by
  unfold ic;rw[if_neg h11,<-hp];unfold pR;simp[h30,h34,h39,h45,h58,h71,hmk]
 exact mf (v:=J ((k:Int))) (v2:=J 0) Z Z Z ⟨by rw[hv],H.below⟩
 refine aw Z Z Z Z Z (fun w' hw'=>Kt Z Z)<|aS ?_
 intro w10 hw' hF
 replace H:=H.later hw';clear hw' hF
 refine U<|ZF Z<|Zk<|W<|Zr<|G (Wi Z)<|G (Wi Z)<|U<|Zt ?_
 have hmk:vT es (k:Nat) x=false:=by
  unfold vT;rw[show((k:Nat):Int).toNat=k from rfl,hyk];simp[h58,h71]
 have hv:ic es x=(-1,0):=by
  unfold ic;rw[if_neg h11,<-hp];unfold pR;simp[h30,h34,h39,h45,h58,h71,hmk]
 exact mf (v:=J (-1)) (v2:=J 0) Z Z Z ⟨by rw[hv],H.below⟩
 refine aw Z Z Z Z Z (fun w' hw'=>Kt Z Z)<|aw Z Z Z Z Z (fun w' hw'=>Yb Z)<|eQ Z Z Z Z<|eQ Z Z Z Z<|eQ Z Z Z Z<|eQ Z Z Z Z<|eQ Z Z Z Z<|eQ Z Z Z Z<|eQ Z Z Z Z<|eQ Z Z Z Z<|eQ Z Z Z Z<|eQ Z Z Z Z<|eQ Z Z Z Z<|aw Z Z Z Z Z (fun w' hw'=>N Z Z)<|aS ?_
 intro w11 hw' hF
 replace H:=H.later hw';clear hw' hF
 refine U<|ZF Z<|Zk<|W<|Zr<|G (Wi Z)<|G (Wi Z)<|U<|Zt ?_
 have hmk:vT es (k:Nat) x=false:=by
  unfold vT;rw[show((k:Nat):Int).toNat=k from rfl,hyk];simp[h58]
 have hv:ic es x=(-1,0):=by
  unfold ic;rw[if_neg h11,<-hp];unfold pR;simp[h30,h34,h39,h45,h58,hmk]
 exact mf (v:=J (-1)) (v2:=J 0) Z Z Z ⟨by rw[hv],H.below⟩
 refine aw Z Z Z Z Z (fun w' hw'=>Kt Z Z)<|aw Z Z Z Z Z (fun w' hw'=>Yb Z)<|eQ Z Z Z Z<|eQ Z Z Z Z<|eQ Z Z Z Z<|eQ Z Z Z Z<|eQ Z Z Z Z<|eQ Z Z Z Z<|eQ Z Z Z Z<|eQ Z Z Z Z<|eQ Z Z Z Z<|eQ Z Z Z Z<|eQ Z Z Z Z<|aw Z Z Z Z Z (fun w' hw'=>N Z Z)<|aw Z Z Z Z Z (fun w' hw'=>Yb Z)<|eQ Z Z Z Z<|eQ Z Z Z Z<|eQ Z Z Z Z<|eQ Z Z Z Z<|eQ Z Z Z Z<|eQ Z Z Z Z<|eQ Z Z Z Z<|eQ Z Z Z Z<|eQ Z Z Z Z<|eQ Z Z Z Z<|eQ Z Z Z Z<|aw Z Z Z Z Z (fun w' hw'=>N Z Z)<|aS ?_
 intro w12 hw' hF
 replace H:=H.later hw';clear hw' hF
 refine U<|ZF Z<|Zk<|W<|Zr<|G (Wi Z)<|G (Wi Z)<|U<|Zt ?_
 have hv:ic es x=(-1,0):=by
  unfold ic;rw[if_neg h11,<-hp];unfold pR;simp[h30,h34,h39,h45]
 exact mf (v:=J (-1)) (v2:=J 0) Z Z Z ⟨by rw[hv],H.below⟩
 refine aw Z Z Z Z Z (fun w' hw'=>Yb Z)<|eQ Z Z Z Z<|eQ Z Z Z Z<|eQ Z Z Z Z<|eQ Z Z Z Z<|eQ Z Z Z Z<|aw Z Z Z Z Z (fun w' hw'=>N Z Z)<|aw Z Z Z Z Z (fun w' hw'=>Yb Z)<|eQ Z Z Z Z<|eQ Z Z Z Z<|eQ Z Z Z Z<|eQ Z Z Z Z<|eQ Z Z Z Z<|eQ Z Z Z Z<|eQ Z Z Z Z<|eQ Z Z Z Z<|eQ Z Z Z Z<|eQ Z Z Z Z<|eQ Z Z Z Z<|aw Z Z Z Z Z (fun w' hw'=>N Z Z)<|aw Z Z Z Z Z (fun w' hw'=>Yb Z)<|eQ Z Z Z Z<|eQ Z Z Z Z<|eQ Z Z Z Z<|eQ Z Z Z Z<|eQ Z Z Z Z<|eQ Z Z Z Z<|eQ Z Z Z Z<|eQ Z Z Z Z<|eQ Z Z Z Z<|eQ Z Z Z Z<|eQ Z Z Z Z<|aw Z Z Z Z Z (fun w' hw'=>N Z Z)<|aS ?_
 intro w13 hw' hF
 replace H:=H.later hw';clear hw' hF
 refine U<|ZF Z<|Zk<|W<|Zr<|G (Wi Z)<|G (Wi Z)<|U<|Zt ?_
 have hv:ic es x=(-1,0):=by
  unfold ic;rw[if_neg h11,<-hp];unfold pR;simp[h30,h34,h39]
 exact mf (v:=J (-1)) (v2:=J 0) Z Z Z ⟨by rw[hv],H.below⟩
 refine G (Wb Z)<|U<|ZF Z<|W ?_
 refine bz bX [0,1,2,3,4,5,6,7] [] [] [0,2,3,4,6,7] (sp []) N N N N Nq (cG _) ?_
 refine aw Z Z Z Z Z (fun w' hw'=>Zf eB Z)<|aw Z Z Z Z Z (fun w' hw'=>aU aj Z (aB ((H.later hw').ent (i:=1) Z) Z))<|aw Z Z Z Z Z (fun w' hw'=>Yp Z)<|aw Z Z Z Z Z (fun w' hw'=>aI Z)<|aw Z Z Z Z Z (fun w' hw'=>Zf jJ Z)<|aw Z Z Z Z Z (fun w' hw'=>aU aj Z (aB ((H.later hw').ent (i:=0) Z) Z)) ?_
 refine Bt Z Z Z Z Z (fun w' hw'=>kc Z Z) (fun h84=> ?_) (fun h84=> ?_)
 refine aw Z Z Z Z Z (fun w' hw'=>Wb Z)<|aS ?_
 intro w14 hw' hF
 replace H:=H.later hw';clear hw' hF
 refine U<|ZT Z<|Zr<|G (Yp Z)<|G (aI Z)<|G (Zf fk Z)<|bo H 0 (#[J pv_,J (-1),J po,J pm]) bI Z Z Z Z Z N N fun w15 H=>U<|W<|W ?_
 refine bz bX [0,1,2,3,4,5,6,7] [] [] [0,2,3,4,6,7] (sp []) N N N N Nq (cG _) ?_
 refine aw Z Z Z Z Z (fun w' hw'=>Zf fa Z)<|aw Z Z Z Z Z (fun w' hw'=>aU aj Z (aB ((H.later hw').ent (i:=1) Z) Z))<|aw Z Z Z Z Z (fun w' hw'=>Yp Z)<|aw Z Z Z Z Z (fun w' hw'=>aI Z)<|aw Z Z Z Z Z (fun w' hw'=>Zf fk Z)<|aw Z Z Z Z Z (fun w' hw'=>aU aj Z (aB ((H.later hw').ent (i:=0) Z) Z))<|aw Z Z Z Z Z (fun w' hw'=>br Z Z I I) ?_
 refine Bt Z Z Z Z Z (fun w' hw'=>kc Z Z) (fun h95=> ?_) (fun h95=> ?_)
 refine aS ?_
 intro w16 hw' hF
 replace H:=H.later hw';clear hw' hF
 refine U<|ZT Z<|W<|Zr<|G (Wi Z)<|G (Wi Z)<|U<|Zt ?_
 replace h95:0<x.seq:=by omega
 have hv:ic es x=(0,11):=by
  unfold ic;rw[if_neg h11,<-hp];unfold pR;simp[h30,h34,h84,h95]
 exact mf (v:=J (0)) (v2:=J 11) Z Z Z ⟨by rw[hv],H.below⟩
 refine aS ?_
 intro w17 hw' hF
 replace H:=H.later hw';clear hw' hF
 refine U<|ZF Z<|Zk<|W<|W ?_
 refine bz bX [0,1,2,3,4,5,6,7] [] [] [0,2,3,4,6,7] (sp []) N N N N Nq (cG _) ?_
 refine aw Z Z Z Z Z (fun w' hw'=>Zf fa Z)<|aw Z Z Z Z Z (fun w' hw'=>aU aj Z (aB ((H.later hw').ent (i:=1) Z) Z))<|aw Z Z Z Z Z (fun w' hw'=>Yp Z)<|aw Z Z Z Z Z (fun w' hw'=>aI Z)<|aw Z Z Z Z Z (fun w' hw'=>Zf fk Z)<|aw Z Z Z Z Z (fun w' hw'=>aU aj Z (aB ((H.later hw').ent (i:=0) Z) Z))<|aw Z Z Z Z Z (fun w' hw'=>br Z Z I I) ?_
 refine Bt Z Z Z Z Z (fun w' hw'=>bl Z Z) (fun h103=> ?_) (fun h103=> ?_)
 refine aS ?_
 intro w18 hw' hF
 replace H:=H.later hw';clear hw' hF
 refine U<|ZT Z<|W<|Zr<|G (Wi Z)<|G (Wi Z)<|U<|Zt ?_
 replace h95: ¬ 0<x.seq:=by omega
 replace h103:x.seq=0:=by omega
 have hv:ic es x=(-1,0):=by
  unfold ic;rw[if_neg h11,<-hp];unfold pR;simp[h30,h34,h84,h95,h103]
 exact mf (v:=J (-1)) (v2:=J 0) Z Z Z ⟨by rw[hv],H.below⟩
 refine aS ?_
 intro w19 hw' hF
 replace H:=H.later hw';clear hw' hF
 refine U<|ZF Z<|Zk<|W<|W<|Zr<|G (Ys Z)<|G (bn ez Z)<|G (Yi Z)<|U<|Zb ?_
 refine cf (τ:=Nat) [4,5,7,8,106,107,108,109,110,111,112,113,114,115,116,117,118,119,120,121,122,123,124,125,126,127,128,129,130,131,132,133,134,135,136] (fun i=>[(106,J (i:Nat))]) (fun i w'=>i<=es.length/\(∀ j e,j<i->es[j]? =some e->m5 x e=false)/\Hp w w' ((b,.cells #[J pv_,J (-1),J po,J pm] lN (0,0))::(b3,.cells (cO.c x).toArray du (0,0))::K) [dE gL 0 w.heap.size A es]) (fun i=>es.length-i) 0 ⟨by omega,by intro j e hj;omega,H⟩ (dI Z) ?_
 rintro i ρ3 w20 ⟨hi,hno,H⟩
 show CW _ _ _ _ (dA (gC _ _ ρ3) [(106,J (i:Nat))]) w20
 refine W<|Zr ?_
 refine cU (cH Z Z) Z Z Z (fun h107=> ?_) (fun h107=> ?_)
 refine U<|W<|ZT Z<|Zk<|W<|Zb<|W<|Zr<|G (Yi Z)<|qu H 0 Z dS Z Z I I Z fun b21 o21 x21 e21=>G (jT (xs:=cO.c x21) dG Z Z e21.cl)<|eE H gd Z fun w22 b8 H=>G (Wi Z)<|Kj H 0 eS Z Z Z Z Z Z fun w23 H=>U<|W<|Zr<|G (Zf eZ Z)<|G (Zd aj H 0 Z Z Z) ?_
 refine cU (bl Z Z) Z Z Z (fun h113=> ?_) (fun h113=> ?_)
 refine G (Yb Z)<|ZG<|G (Zf fg Z)<|ZG<|G (Zd aj H 0 Z Z Z)<|ZG<|G (Zf fg Z)<|ZG<|G (Zd aj H 2 Z Z Z)<|ZG ?_
 refine cU (bl Z Z) Z Z Z (fun h119=> ?_) (fun h119=> ?_)
 refine G (Kt Z Z)<|G (Yb Z)<|ZG<|G (Zf eB Z)<|ZG<|G (Zd aj H 0 Z Z Z)<|ZG<|G (Zf eB Z)<|ZG<|G (Zd aj H 2 Z Z Z)<|ZG ?_
 refine cU (bl Z Z) Z Z Z (fun h126=> ?_) (fun h126=> ?_)
 refine G (Kt Z Z)<|G (Yb Z)<|ZG<|G (Zf fa Z)<|ZG<|G (Zd aj H 0 Z Z Z)<|ZG<|G (Zf fa Z)<|ZG<|G (Zd aj H 2 Z Z Z)<|ZG ?_
 refine cU (bl Z Z) Z Z Z (fun h133=> ?_) (fun h133=> ?_)
 refine G (Kt Z Z)<|U<|ZT Z<|W<|Zr<|G (Yi Z)<|G (Wi Z)<|G (Wi Z)<|U<|Zt ?_
 replace h95: ¬ 0<x.seq:=by omega
 replace h103: ¬ x.seq=0:=by omega
 have hdup:=FU e21.at_ (by simp[m5,h113,h119,h126,h133]) hno
 have hv:ic es x=((i:Int),0):=by
  unfold ic;rw[if_neg h11,<-hp];unfold pR;simp[h30,h34,h84,h95,h103,hdup]
 exact mf (v:=J ((i:Int))) (v2:=J 0) Z Z Z ⟨by rw[hv],H.below⟩
 refine G (Kt Z Z)<|U<|ZF Z<|Zk<|Zr<|G (br Z Z I I)<|G (Yi Z)<|U ?_
 refine⟨i+1,⟨by omega,fun j e hj he=> ?_,H.forget (aW _ _) (fun _ h=>h)⟩,dI Z,Qg,by show es.length- (i+1)<es.length-i;omega⟩
 by_cases hji:j<i
 exact hno j e hji he
 have:j=i:=by omega
 subst this;have he2:=e21.at_;rw[he]at he2;injection he2 with he2;subst he2
 simp[m5,h113,h119,h126,h133]
 refine G (Kt Z Z)<|G (Yb Z)<|ZN<|ZN<|ZN<|ZN<|ZN<|G (N Z Z)<|U<|ZF Z<|Zk<|Zr<|G (br Z Z I I)<|G (Yi Z)<|U ?_
 refine⟨i+1,⟨by omega,fun j e hj he=> ?_,H.forget (aW _ _) (fun _ h=>h)⟩,dI Z,Qg,by show es.length- (i+1)<es.length-i;omega⟩
 by_cases hji:j<i
 exact hno j e hji he
 have:j=i:=by omega
 subst this;have he2:=e21.at_;rw[he]at he2;injection he2 with he2;subst he2
 simp[m5,h113,h119,h126]
 refine G (Kt Z Z)<|G (Yb Z)<|ZN<|ZN<|ZN<|ZN<|ZN<|G (N Z Z)<|G (Yb Z)<|ZN<|ZN<|ZN<|ZN<|ZN<|G (N Z Z)<|U<|ZF Z<|Zk<|Zr<|G (br Z Z I I)<|G (Yi Z)<|U ?_
 refine⟨i+1,⟨by omega,fun j e hj he=> ?_,H.forget (aW _ _) (fun _ h=>h)⟩,dI Z,Qg,by show es.length- (i+1)<es.length-i;omega⟩
 by_cases hji:j<i
 exact hno j e hji he
 have:j=i:=by omega
 subst this;have he2:=e21.at_;rw[he]at he2;injection he2 with he2;subst he2
 simp[m5,h113,h119]
 refine G (Yb Z)<|ZN<|ZN<|ZN<|ZN<|ZN<|G (N Z Z)<|G (Yb Z)<|ZN<|ZN<|ZN<|ZN<|ZN<|G (N Z Z)<|G (Yb Z)<|ZN<|ZN<|ZN<|ZN<|ZN<|G (N Z Z)<|U<|ZF Z<|Zk<|Zr<|G (br Z Z I I)<|G (Yi Z)<|U ?_
 refine⟨i+1,⟨by omega,fun j e hj he=> ?_,H.forget (aW _ _) (fun _ h=>h)⟩,dI Z,Qg,by show es.length- (i+1)<es.length-i;omega⟩
 by_cases hji:j<i
 exact hno j e hji he
 have:j=i:=by omega
 subst this;have he2:=e21.at_;rw[he]at he2;injection he2 with he2;subst he2
 simp[m5,h113]
 refine U<|W<|ZF Z<|Zx<|W<|Zr<|G (Wi Z)<|G (Wi Z)<|U<|Zt ?_
 replace h95: ¬ 0<x.seq:=by omega
 replace h103: ¬ x.seq=0:=by omega
 have hdup:=FV (x:=x) (es:=es) (fun j e hj he=>hno j e I he)
 have hv:ic es x=(0,11):=by
  unfold ic;rw[if_neg h11,<-hp];unfold pR;simp[h30,h34,h84,h95,h103,hdup]
 exact mf (v:=J (0)) (v2:=J 11) Z Z Z ⟨by rw[hv],H.below⟩
 refine aw Z Z Z Z Z (fun w' hw'=>Wb Z)<|aS ?_
 intro w24 hw' hF
 replace H:=H.later hw';clear hw' hF
 refine U<|ZF Z<|Zk<|W<|W ?_
 refine bz bX [0,1,2,3,4,5,6,7] [] [] [0,2,3,4,6,7] (sp []) N N N N Nq (cG _) ?_
 refine aw Z Z Z Z Z (fun w' hw'=>Zf fa Z)<|aw Z Z Z Z Z (fun w' hw'=>aU aj Z (aB ((H.later hw').ent (i:=1) Z) Z))<|aw Z Z Z Z Z (fun w' hw'=>Yp Z)<|aw Z Z Z Z Z (fun w' hw'=>aI Z)<|aw Z Z Z Z Z (fun w' hw'=>Zf fk Z)<|aw Z Z Z Z Z (fun w' hw'=>aU aj Z (aB ((H.later hw').ent (i:=0) Z) Z))<|aw Z Z Z Z Z (fun w' hw'=>br Z Z I I) ?_
 refine Bt Z Z Z Z Z (fun w' hw'=>kc Z Z) (fun h95=> ?_) (fun h95=> ?_)
 refine aS ?_
 intro w25 hw' hF
 replace H:=H.later hw';clear hw' hF
 refine U<|ZT Z<|W<|Zr<|G (Wi Z)<|G (Wi Z)<|U<|Zt ?_
 have hv:ic es x=(0,11):=by
  unfold ic;rw[if_neg h11,<-hp];unfold pR;simp[h30,h34,h84,h95]
 exact mf (v:=J (0)) (v2:=J 11) Z Z Z ⟨by rw[hv],H.below⟩
 refine aS ?_
 intro w26 hw' hF
 replace H:=H.later hw';clear hw' hF
 refine U<|ZF Z<|Zk<|W<|W ?_
 refine bz bX [0,1,2,3,4,5,6,7] [] [] [0,2,3,4,6,7] (sp []) N N N N Nq (cG _) ?_
 refine aw Z Z Z Z Z (fun w' hw'=>Zf fa Z)<|aw Z Z Z Z Z (fun w' hw'=>aU aj Z (aB ((H.later hw').ent (i:=1) Z) Z))<|aw Z Z Z Z Z (fun w' hw'=>Yp Z)<|aw Z Z Z Z Z (fun w' hw'=>aI Z)<|aw Z Z Z Z Z (fun w' hw'=>Zf fk Z)<|aw Z Z Z Z Z (fun w' hw'=>aU aj Z (aB ((H.later hw').ent (i:=0) Z) Z))<|aw Z Z Z Z Z (fun w' hw'=>br Z Z I I) ?_
 refine Bt Z Z Z Z Z (fun w' hw'=>bl Z Z) (fun h103=> ?_) (fun h103=> ?_)
 refine aS ?_
 intro w27 hw' hF
 replace H:=H.later hw';clear hw' hF
 refine U<|ZT Z<|W<|Zr<|G (Wi Z)<|G (Wi Z)<|U<|Zt ?_
 have hv:ic es x=(-1,0):=by
  unfold ic;rw[if_neg h11,<-hp];unfold pR;simp[h30,h34,h84,h95,h103]
 exact mf (v:=J (-1)) (v2:=J 0) Z Z Z ⟨by rw[hv],H.below⟩
 refine aS ?_
 intro w28 hw' hF
 replace H:=H.later hw';clear hw' hF
 refine U<|ZF Z<|Zk<|W<|W<|Zr<|G (Ys Z)<|G (bn ez Z)<|G (Yi Z)<|U<|Zb ?_
 refine cf (τ:=Nat) [4,5,7,8,106,107,108,109,110,111,112,113,114,115,116,117,118,119,120,121,122,123,124,125,126,127,128,129,130,131,132,133,134,135,136] (fun i=>[(106,J (i:Nat))]) (fun i w'=>i<=es.length/\(∀ j e,j<i->es[j]? =some e->m5 x e=false)/\Hp w w' ((b,.cells #[J pv_,J ps,J po,J pm] lN (0,0))::(b3,.cells (cO.c x).toArray du (0,0))::K) [dE gL 0 w.heap.size A es]) (fun i=>es.length-i) 0 ⟨by omega,by intro j e hj;omega,H⟩ (dI Z) ?_
 rintro i ρ3 w29 ⟨hi,hno,H⟩
 show CW _ _ _ _ (dA (gC _ _ ρ3) [(106,J (i:Nat))]) w29
 refine W<|Zr ?_
 refine cU (cH Z Z) Z Z Z (fun h107=> ?_) (fun h107=> ?_)
 refine U<|W<|ZT Z<|Zk<|W<|Zb<|W<|Zr<|G (Yi Z)<|qu H 0 Z dS Z Z I I Z fun b30 o30 x30 e30=>G (jT (xs:=cO.c x30) dG Z Z e30.cl)<|eE H gd Z fun w31 b8 H=>G (Wi Z)<|Kj H 0 eS Z Z Z Z Z Z fun w32 H=>U<|W<|Zr<|G (Zf eZ Z)<|G (Zd aj H 0 Z Z Z) ?_
 refine cU (bl Z Z) Z Z Z (fun h113=> ?_) (fun h113=> ?_)
 refine G (Yb Z)<|ZG<|G (Zf fg Z)<|ZG<|G (Zd aj H 0 Z Z Z)<|ZG<|G (Zf fg Z)<|ZG<|G (Zd aj H 2 Z Z Z)<|ZG ?_
 refine cU (bl Z Z) Z Z Z (fun h119=> ?_) (fun h119=> ?_)
 refine G (Kt Z Z)<|G (Yb Z)<|ZG<|G (Zf eB Z)<|ZG<|G (Zd aj H 0 Z Z Z)<|ZG<|G (Zf eB Z)<|ZG<|G (Zd aj H 2 Z Z Z)<|ZG ?_
 refine cU (bl Z Z) Z Z Z (fun h126=> ?_) (fun h126=> ?_)
 refine G (Kt Z Z)<|G (Yb Z)<|ZG<|G (Zf fa Z)<|ZG<|G (Zd aj H 0 Z Z Z)<|ZG<|G (Zf fa Z)<|ZG<|G (Zd aj H 2 Z Z Z)<|ZG ?_
 refine cU (bl Z Z) Z Z Z (fun h133=> ?_) (fun h133=> ?_)
 refine G (Kt Z Z)<|U<|ZT Z<|W<|Zr<|G (Yi Z)<|G (Wi Z)<|G (Wi Z)<|U<|Zt ?_
 have hdup:=FU e30.at_ (by simp[m5,h113,h119,h126,h133]) hno
 have hv:ic es x=((i:Int),0):=by
  unfold ic;rw[if_neg h11,<-hp];unfold pR;simp[h30,h34,h84,h95,h103,hdup]
 exact mf (v:=J ((i:Int))) (v2:=J 0) Z Z Z ⟨by rw[hv],H.below⟩
 refine G (Kt Z Z)<|U<|ZF Z<|Zk<|Zr<|G (br Z Z I I)<|G (Yi Z)<|U ?_
 refine⟨i+1,⟨by omega,fun j e hj he=> ?_,H.forget (aW _ _) (fun _ h=>h)⟩,dI Z,Qg,by show es.length- (i+1)<es.length-i;omega⟩
 by_cases hji:j<i
 exact hno j e hji he
 have:j=i:=by omega
 subst this;have he2:=e30.at_;rw[he]at he2;injection he2 with he2;subst he2
 simp[m5,h113,h119,h126,h133]
 refine G (Kt Z Z)<|G (Yb Z)<|ZN<|ZN<|ZN<|ZN<|ZN<|G (N Z Z)<|U<|ZF Z<|Zk<|Zr<|G (br Z Z I I)<|G (Yi Z)<|U ?_
 refine⟨i+1,⟨by omega,fun j e hj he=> ?_,H.forget (aW _ _) (fun _ h=>h)⟩,dI Z,Qg,by show es.length- (i+1)<es.length-i;omega⟩
 by_cases hji:j<i
 exact hno j e hji he
 have:j=i:=by omega
 subst this;have he2:=e30.at_;rw[he]at he2;injection he2 with he2;subst he2
 simp[m5,h113,h119,h126]
 refine G (Kt Z Z)<|G (Yb Z)<|ZN<|ZN<|ZN<|ZN<|ZN<|G (N Z Z)<|G (Yb Z)<|ZN<|ZN<|ZN<|ZN<|ZN<|G (N Z Z)<|U<|ZF Z<|Zk<|Zr<|G (br Z Z I I)<|G (Yi Z)<|U ?_
 refine⟨i+1,⟨by omega,fun j e hj he=> ?_,H.forget (aW _ _) (fun _ h=>h)⟩,dI Z,Qg,by show es.length- (i+1)<es.length-i;omega⟩
 by_cases hji:j<i
 exact hno j e hji he
 have:j=i:=by omega
 subst this;have he2:=e30.at_;rw[he]at he2;injection he2 with he2;subst he2
 simp[m5,h113,h119]
 refine G (Yb Z)<|ZN<|ZN<|ZN<|ZN<|ZN<|G (N Z Z)<|G (Yb Z)<|ZN<|ZN<|ZN<|ZN<|ZN<|G (N Z Z)<|G (Yb Z)<|ZN<|ZN<|ZN<|ZN<|ZN<|G (N Z Z)<|U<|ZF Z<|Zk<|Zr<|G (br Z Z I I)<|G (Yi Z)<|U ?_
 refine⟨i+1,⟨by omega,fun j e hj he=> ?_,H.forget (aW _ _) (fun _ h=>h)⟩,dI Z,Qg,by show es.length- (i+1)<es.length-i;omega⟩
 by_cases hji:j<i
 exact hno j e hji he
 have:j=i:=by omega
 subst this;have he2:=e30.at_;rw[he]at he2;injection he2 with he2;subst he2
 simp[m5,h113]
 refine U<|W<|ZF Z<|Zx<|W<|Zr<|G (Wi Z)<|G (Wi Z)<|U<|Zt ?_
 have hdup:=FV (x:=x) (es:=es) (fun j e hj he=>hno j e I he)
 have hv:ic es x=(0,11):=by
  unfold ic;rw[if_neg h11,<-hp];unfold pR;simp[h30,h34,h84,h95,h103,hdup]
 exact mf (v:=J (0)) (v2:=J 11) Z Z Z ⟨by rw[hv],H.below⟩
def EC (es:List cO) (n i:Nat):List ByteArray:=match es[i]? with
 |some e=>if e.kind=1/\yF (es.take n) i e=true then [e.text]else []
 |none=>[]
def texts (es:List cO) (n a b:Nat):List ByteArray:=(List.range' a (b-a)).flatMap (EC es n)
theorem Gq (es:List cO) (n a:Nat):texts es n a a=[]:=by simp[texts]
theorem vN {es:List cO} {n a b:Nat} (h:a<=b):texts es n a (b+1)=texts es n a b++EC es n b:=by
 unfold texts
 have e:b+1-a=(b-a)+1:=by omega
 rw[e,List.range'_1_concat,mU]
 have e2:a+(b-a)=b:=by omega
 simp[e2]
def Bp (es:List cO) (n st a most:Nat) (out:List ByteArray) (b:Nat):Prop:=a<=b/\(b=a∨b<=st)/\out=texts es n a b/\out.length<=most/\(st<=b∨out.length=most)/\ ∀ bq_,a<=bq_->bq_<b->(texts es n a bq_).length<most
theorem ME (es:List cO) (A:Option Addr) (c n a most:Nat) (w:World) (hr:Rd gL 0 w.heap.size A es w) (hc:es.length<=c) (hb:es.length<=1000000) (hn:n<=es.length) (ha:a<=es.length) (hm1:1<=most) (hm2:most<=20):
  db aa yH [.slice A es.length c,J (n:Nat),J (a:Nat),J (most:Nat)] w fun v w2=> ∃ (st:Nat) (out:List ByteArray) (b:Nat) (A':Option Addr) (c':Nat),tR (es.take n) st/\Bp es n st a most out b/\v=.tuple #[.slice A' out.length c',J (b:Nat),J 0]/\Rd lf w.heap.size w2.heap.size A' out w2/\out.length<=c'/\Below w.heap.size w w2:=by
 refine aD wY Z Z ?_
 have H:=Hp.startRd hr
 refine W<|Zr<|G (Ws Z)<|G (Wi Z)<|G (Wi Z)<|U<|W<|Zr<|G (Ys Z)<|G (Yi Z)<|bY ud (Cv es _ _ n _ (H.rd0 0 Z) hc hb hn) Z Z ?_
 rintro _ w1 ⟨st,hst,rfl,hb2⟩;replace H:=H.later hb2;clear hb2
 have hstl:st<=n:=by have:=hst.1;simp at this;omega
 refine G (Yu Z)<|G (Xi Z Z)<|G (Xi Z Z)<|G (Wi Z)<|G (Wi Z)<|U<|W<|W<|Zr<|G (Yi Z)<|G (bW Z Z Z)<|U<|ZF Z<|Zk<|W<|W<|Zr<|G (Yi Z)<|G (cZ Z Z I)<|G (Yb Z)<|ZG<|G (Yi Z)<|ZG<|G (Ys Z)<|ZG<|G (bn ez Z)<|ZG<|G (er Z Z I)<|G (N Z Z)<|G (Yb Z)<|ZG<|G (Yi Z)<|ZG<|G (cZ Z Z I)<|G (N Z Z)<|G (Yb Z)<|ZG<|G (Yi Z)<|ZG<|G (er Z Z I) ?_
 refine G (N Z Z)<|U<|ZF Z<|Zk<|W<|Zr<|G (Ws Z)<|U<|W<|Zr<|G (Yi Z)<|G (Wi Z)<|U<|W<|Zb ?_
 refine cf (τ:=Nat×List ByteArray×Option Addr×Nat) [13,14,41,42,43,44,45,46,47,48,49,50,51,52,53,54,55,56,57,58,59,60,61,62,63,64,65,66,67,68,69,70,71,72] (fun(at_,out,A1,c1)=>[(13,.slice A1 out.length c1),(14,J (at_:Nat))]) (fun(at_,out,A1,c1) w'=>a<=at_/\(at_=a∨at_<=st)/\out=texts es n a at_/\out.length<=most/\(∀ bq_,a<=bq_->bq_<at_->(texts es n a bq_).length<most)/\ ∃ L',fW lf (.slice A1 out.length c1) kE out L'/\Hp w w' ([]++L'++[]) [dE gL 0 w.heap.size A es]) (fun(at_,_,_,_)=>st-at_) (a,[],none,0) ⟨by omega,.inl Z,(Gq _ _ _).symm,by simp,(fun _ _ _=>by omega),[],fW.nil,H⟩ (kZ Z Z) ?_
 rintro⟨at_,out,A1,c1⟩ ρ1 w2 ⟨hat1,hat2,hout,hol,hmin,L1,ho,H⟩
 show CW _ _ _ _ (dA (gC _ _ ρ1) [(13,.slice A1 out.length c1),(14,J (at_:Nat))]) w2
 refine W<|W<|Zr<|G (Yi Z)<|G (Yi Z) ?_
 refine cU (cH Z Z) Z Z Z (fun h43=> ?_) (fun h43=> ?_)
 refine G (Yb Z)<|ZG<|G (Ys Z)<|ZG<|G (bn iP Z)<|ZG<|G (Yi Z)<|ZG ?_
 refine cU (cH Z Z) Z Z Z (fun h48=> ?_) (fun h48=> ?_)
 refine G (Kt Z Z)<|U<|ZT Z<|Zk<|W<|Zb<|W<|Zr<|G (Ys Z)<|G (Yi Z)<|qu H 0 Z dS Z Z I I Z fun b3 o3 x3 e3=> ?_
 have hxt:(es.take n)[at_]? =some x3:=by rw[fA I];exact e3.at_
 refine G (Zf eZ Z)<|G (aU aj Z (e3.cl 4 _ Z)) ?_
 refine cU (bl Z Z) Z Z Z (fun h57=> ?_) (fun h57=> ?_)
 refine G (Yb Z)<|ZG<|G (Ys Z)<|ZG<|G (Yi Z)<|ZG<|sr (k:=n) H 0 Z dS Z Z hc I Z fun A61 H=>ZG ?_
 have hK:=M6 (es.take n) A61 c at_ x3 _ (H.rd0 0 Z) hxt (by simp;omega) (by simp;omega)
 rw[show(es.take n).length=n by simp;omega]at hK
 refine G (Yi Z)<|ZG<|bY Ed (hK) Z Z ?_
 rintro _ w4 ⟨rfl,hb2⟩;replace H:=H.later hb2;clear hb2
 refine G (Kt Z Z)<|U ?_
 refine jl Z (fun hc64=> ?_) (fun hc64=> ?_)
 refine Zr<|G (Ys Z)<|G (Ys Z)<|G (Yi Z)<|qu H 1 Z dS Z Z I I Z fun b5 o5 x5 e5=>G (Zf qe Z)<|G (aU aZ Z (e5.cl 6 _ Z))<|tb (vs:=[.string x5.text]) H fX wr Z Z Z Z Z Z fun w6 b71 H=> ?_
 have hxx:x5=x3:=by have h1:=e3.at_;rw[e5.at_]at h1;injection h1
 refine vc (Y:=lf) wd (K:=[(b71,_)]) (L:=L1) (M:=[]) H ho (news:=[x5.text]) Z Z Z (wn.row (m:=1) (sz:=1) (H.ent (i:=0) Z) Z) (by simp only[bP];omega) Z ?_
 intro A3 c3 w7 L3 h3a _ ho3 H
 refine G (Ws Z)<|U<|Zr<|G (Yi Z)<|G (br Z Z I I)<|G (Wi Z)<|U ?_
 have hvis:EC es n at_=[x5.text]:=by unfold EC;rw[e3.at_];simp only;rw[if_pos ⟨h57,hc64⟩,hxx]
 refine⟨(at_+1,out++[x5.text],A3,c3),⟨by omega,.inr I,by rw[vN hat1,hvis,hout],by simp;omega,(fun bq_ h1 h2=>by rcases iH bq_ at_ with h3|h3;exact hmin bq_ h1 h3;rw[show bq_=at_ by omega,<-hout];omega),L3,ho3,H.forget (by simp) (by simp)⟩,kZ Z Z,Qg,by show st- (at_+1)<st-at_;omega⟩
 refine Zk<|Zr<|G (Yi Z)<|G (br Z Z I I)<|G (Wi Z)<|U ?_
 have hvis:EC es n at_=[]:=by unfold EC;rw[e3.at_];simp only;rw[if_neg (by rintro⟨p,q⟩;first|exact h57 p|(rw[hc64]at q;cases q))]
 refine⟨(at_+1,out,A1,c1),⟨by omega,.inr I,by rw[vN hat1,hvis,hout,aY],hol,(fun bq_ h1 h2=>by rcases iH bq_ at_ with h3|h3;exact hmin bq_ h1 h3;rw[show bq_=at_ by omega,<-hout];omega),L1,ho,H.forget (by simp) (by simp)⟩,kZ Z Z,Qg,by show st- (at_+1)<st-at_;omega⟩
 refine G (Yb Z)<|ZN<|ZN<|ZN<|ZN<|ZN<|G (N Z Z)<|U<|ZF Z<|Zk<|Zr<|G (Yi Z)<|G (br Z Z I I)<|G (Wi Z)<|U ?_
 have hvis:EC es n at_=[]:=by unfold EC;rw[e3.at_];simp only;rw[if_neg (by rintro⟨p,q⟩;first|exact h57 p|(rw[hc64]at q;cases q))]
 refine⟨(at_+1,out,A1,c1),⟨by omega,.inr I,by rw[vN hat1,hvis,hout,aY],hol,(fun bq_ h1 h2=>by rcases iH bq_ at_ with h3|h3;exact hmin bq_ h1 h3;rw[show bq_=at_ by omega,<-hout];omega),L1,ho,H.forget (by simp) (by simp)⟩,kZ Z Z,Qg,by show st- (at_+1)<st-at_;omega⟩
 refine G (Kt Z Z)<|U<|ZF Z<|Zx<|W<|Zr<|G (Ys Z)<|G (Yi Z)<|G (Ws Z)<|G (Wi Z)<|G (Wi Z)<|U<|Zt ?_
 obtain⟨A2,c2,he,hlc,-⟩:=ho.form
 injection he with h1 h2 h3
 subst h3
 exact Hi Z Z Z Z ⟨st,out,at_,A1,c1,hst,⟨hat1,hat2,hout,hol,by omega,hmin⟩,rfl,ho.rd H,hlc,H.below⟩
 refine G (Yb Z)<|ZN<|ZN<|ZN<|ZN<|G (N Z Z)<|U<|ZF Z<|Zx<|W<|Zr<|G (Ys Z)<|G (Yi Z)<|G (Ws Z)<|G (Wi Z)<|G (Wi Z)<|U<|Zt ?_
 obtain⟨A2,c2,he,hlc,-⟩:=ho.form
 injection he with h1 h2 h3
 subst h3
 exact Hi Z Z Z Z ⟨st,out,at_,A1,c1,hst,⟨hat1,hat2,hout,hol,by omega,hmin⟩,rfl,ho.rd H,hlc,H.below⟩
/-- what IndexFunc answers -/
def lG:Option Nat->Int
 |some i=>i
 |none=> -1
theorem Rd.blk {α:Type} {Y:fi α} {w:World} {b:Nat} {cs:Array Value} {T:TypeId} {fr:Nat×Nat} {es:List α} (h:w.heap[b]? =some (.cells cs T fr)) (hc:cs.toList=Y.all es):Rd Y 0 w.heap.size (Qd b) es w:=
 fun _=>⟨b,0,rfl,bG _,cd h,fun j u hj=>by rw[cI];exact aB h (by rw[<-hc]at hj;simpa using hj)⟩
def Oq:cO:=⟨0,0,0,0,1,false,⟨#[97]⟩⟩
inductive Ge:List cO->Prop
 |nil:Ge []
 |snoc {es:List cO} {x:cO}:Ge es->(ic es x).2=0->(ic es x).1<0->Ge (es++[x])
theorem Ge.take {es:List cO} (h:Ge es): ∀ k,Ge (es.take k):=by
 induction h with
 |nil=>intro k;simp;exact .nil
 |@snoc es x h h1 h2 ih=>
  intro k
  by_cases hk:k<=es.length
  rw[ia hk];exact ih k
  rw[f8 (by simp;omega)];exact .snoc h h1 h2
theorem IJ {es:List cO} (h: ∀ e∈es,rG e):seqB es:=fun e he=>by
 obtain⟨_,_,h3,_⟩:=qM (h e he)
 have:=h3 e.seq (by simp[cO.nums])
 omega
def later (es:List cO) (k:Nat) (x:cO):Bool:=(es.drop k).any fun y=>decide (y.pid=x.pid)&&decide (x.ver<y.ver)
theorem B4 (es:List UInt8) (A:Option Addr) (c:Nat) (w:World) (hr:Rd dz 0 w.heap.size A es w) (hb:es.length*1<=140737488355328):
  db aa kM [.slice A es.length c] w fun v w2=> ∃ A' c' L',v=.slice A' es.length c'/\es.length<=c'/\c'<=maxLen/\fW dz (.slice A' es.length c') mP es L'/\Hp w w2 L' []:=by
 refine aD p8 Z Z ?_
 have H:=Hp.startRd hr
 refine W<|Zr<|G (Ws Z)<|U<|W<|W<|Zr<|G (Ys Z) ?_
 refine wm (pq eL Z) Z Z Z (fun h4=> ?_) (fun h4=> ?_)
 refine U<|ZT Z<|W<|Zr<|G (Ws Z)<|U<|Zt ?_
 have he:es=[]:=by
  cases es with
  |nil=>rfl
  |cons e es=>obtain⟨b,o,hA,_⟩:=hr (by simp);subst hA;cases h4
 subst he
 exact cy Z Z ⟨none,0,[],rfl,by simp,by decide,fW.nil,H.forget (by simp) (by simp)⟩
 refine U<|ZF Z<|Zk<|W<|Zr<|Nr H d6 Z fun w1 b5 H=>G (Ys Z)<|vc (Y:=dz) oG (K:=[]) (L:=[(b5,_)]) (M:=[]) H (rF.lit (by decide) (by rfl)) (es:=[]) (news:=es) Z Z Z (Rd.src (H.fact (i:=0) Z)) (by simpa using hb) Z ?_
 intro A3 c3 w3 L3 h3a h3b ho3 H
 refine G (Ws Z)<|U<|Zt ?_
 exact cy Z Z ⟨A3,c3,L3,rfl,h3a,h3b,ho3,H.forget (by simp) (by simp)⟩
theorem sT (es:List Int) (A:Option Addr) (c:Nat) (w:World) (hr:Rd bR 0 w.heap.size A es w) (hb:es.length*8<=140737488355328):
  db aa lT [.slice A es.length c] w fun v w2=> ∃ A' c' L',v=.slice A' es.length c'/\es.length<=c'/\c'<=maxLen/\fW bR (.slice A' es.length c') cY es L'/\Hp w w2 L' []:=by
 refine aD ro Z Z ?_
 have H:=Hp.startRd hr
 refine W<|Zr<|G (Ws Z)<|U<|W<|W<|Zr<|G (Ys Z) ?_
 refine wm (pq eF Z) Z Z Z (fun h4=> ?_) (fun h4=> ?_)
 refine U<|ZT Z<|W<|Zr<|G (Ws Z)<|U<|Zt ?_
 have he:es=[]:=by
  cases es with
  |nil=>rfl
  |cons e es=>obtain⟨b,o,hA,_⟩:=hr (by simp);subst hA;cases h4
 subst he
 exact cy Z Z ⟨none,0,[],rfl,by simp,by decide,fW.nil,H.forget (by simp) (by simp)⟩
 refine U<|ZF Z<|Zk<|W<|Zr<|Nr H ba Z fun w1 b5 H=>G (Ys Z)<|vc (Y:=bR) zq (K:=[]) (L:=[(b5,_)]) (M:=[]) H (rF.lit (by decide) (by rfl)) (es:=[]) (news:=es) Z Z Z (Rd.src (H.fact (i:=0) Z)) (by simpa using hb) Z ?_
 intro A3 c3 w3 L3 h3a h3b ho3 H
 refine G (Ws Z)<|U<|Zt ?_
 exact cy Z Z ⟨A3,c3,L3,rfl,h3a,h3b,ho3,H.forget (by simp) (by simp)⟩

/-- a row of rows of bytes -/
abbrev RB:=Option Addr×List UInt8×Nat
def Kp:fi RB:=⟨fun p=>[.slice p.1 p.2.1.length p.2.2],1,fun _=>rfl,by decide,fun a u hu=>by
 simp only[ax,bO,or_false]at hu
 subst hu;rfl⟩
def xA (ps:List RB):List UInt8:=ps.flatMap fun p=>p.2.1
theorem ui {ps:List RB} {k:Nat} {p:RB} (h:ps[k]? =some p):xA (ps.take (k+1))=xA (ps.take k)++p.2.1:=by
 rw[eK h];simp[xA]
theorem Em (ps:List RB) (k:Nat):(xA (ps.take k)).length<=(xA ps).length:=by
 have:xA ps=xA (ps.take k)++xA (ps.drop k):=by unfold xA;rw[<-mU,gI]
 rw[this];simp
theorem I2 {g cp:Nat} {cur:Array Value} (h:cur.size=cp*1) (hm:cp<=maxLen):fW dz (.slice (Qd g) 0 cp) mP [] [(g,.cells cur mP (0,0))]:=
 ⟨by simp[fi.all],.inr ⟨g,cp,cur,rfl,rfl,bG _,hm,h,by simp[fi.all]⟩⟩
theorem Nd (n:Nat) (w:World) (hn:n<=1000000):db aa rc [.slice none 0 0,J (n:Nat)] w fun v w2=> ∃ A' c' L',v=.slice A' 0 c'/\fW dz (.slice A' 0 c') mP [] L'/\Hp w w2 L' []:=by
 refine aD qy Z Z ?_
 have H:=Hp.start w
 refine W<|Zr<|G (Ws Z)<|U<|W<|W<|Zr<|G (Yi Z)<|G (cZ Z Z I)<|U<|ZF Z<|Zk<|W<|W<|Zr<|G (Yi Z)<|G (Ys Z)<|G (En eL Z)<|G (Ys Z)<|G (bn eL Z)<|G (m3 Z Z I I)<|G (m3 Z Z I I)<|G (Wi Z)<|U<|W<|Zr<|G (Yi Z) ?_
 refine cU (kc Z Z) Z Z Z (fun h16=> ?_) (fun h16=> ?_)
 refine U<|ZT Z<|Zr<|G (Ys Z)<|G (Ys Z)<|G (En eL Z)<|G (Dp (i:=0) d6 Z Z I I)<|G (Yi Z)<|Qp (m:=n) oG ip H Z (by show Value.int .i64 _=_;congr 1) I I Z fun w1 g cp cur hcs hncp hcpm H=>G (Ys Z)<|G (bn eL Z)<|zI d6 Z Z I I Z fun A25 hA25=> ?_
 obtain rfl:=hA25 I
 refine G (Ws Z)<|U<|W<|Zr<|G (Ys Z)<|G (Ws Z)<|U<|Zt ?_
 exact cy Z Z ⟨_,_,_,rfl,I2 hcs hcpm,H⟩
 refine U<|ZF Z<|Zk<|W<|Zr<|G (Ys Z)<|G (Ws Z)<|U<|Zt ?_
 exact cy Z Z ⟨none,0,[],rfl,fW.nil,H⟩
theorem uN (ps:List RB) (A:Option Addr) (c:Nat) (w:World) (hr:Rd Kp 0 w.heap.size A ps w) (hp: ∀ p∈ps,Rd dz 0 w.heap.size p.1 p.2.1 w) (hb:(xA ps).length<=1000000) (hl:ps.length<=1000):
  db aa p5 [.slice A ps.length c] w fun v w2=> ∃ A' c' L',v=.slice A' (xA ps).length c'/\(xA ps).length<=c'/\c'<=maxLen/\fW dz (.slice A' (xA ps).length c') mP (xA ps) L'/\Hp w w2 L' []:=by
 refine aD pH Z Z ?_
 have H:=Hp.startRd hr
 refine W<|Zr<|G (Ws Z)<|U<|W<|Zr<|G (Wi Z)<|U<|W<|W<|Zr<|G (Ys Z)<|G (bn Af Z)<|G (Yi Z)<|U<|Zb ?_
 refine cf (τ:=Nat) [3,5,11,12,13,14,15,16,17,18,19,20,21,22] (fun k=>[(3,J ((xA (ps.take k)).length:Nat)),(11,J (k:Nat))]) (fun k w'=>k<=ps.length/\Hp w w' [] [dE Kp 0 w.heap.size A ps]) (fun k=>ps.length-k) 0 ⟨by omega,H⟩ (kZ Z Z) ?_
 rintro k ρ1 w1 ⟨hk,H⟩
 show CW _ _ _ _ (dA (gC _ _ ρ1) [(3,J ((xA (ps.take k)).length:Nat)),(11,J (k:Nat))]) w1
 have hle:=Em ps k
 refine W<|Zr ?_
 refine cU (cH Z Z) Z Z Z (fun h12=> ?_) (fun h12=> ?_)
 refine U<|W<|ZT Z<|Zk<|W<|Zb<|W<|Zr<|qu H 0 Z rK Z Z I I Z fun b2 o2 x2 e2=> ?_
 have hle2:=Em ps (k+1)
 rw[ui e2.at_,ay]at hle2
 refine G (aU d5 Z (e2.cl 0 _ Z))<|G (Ws Z)<|U<|W<|Zr<|G (Yi Z)<|G (Ys Z)<|G (bn eL Z)<|G (br Z Z I I)<|G (Wi Z)<|U<|W<|Zr<|G (Yi Z)<|G (cZ Z Z I)<|U<|ZF Z<|Zk<|Zr<|G (br Z Z I I)<|G (Yi Z)<|U ?_
 refine⟨k+1,⟨by omega,H⟩,kZ (by rw[ui e2.at_,ay];rfl) Z,Qg,by show ps.length- (k+1)<ps.length-k;omega⟩
 refine U<|W<|ZF Z<|Zx<|W<|Zr<|G (Yi Z)<|bY qB (Nd (xA (ps.take k)).length _ I) Z Z ?_
 rintro _ w3 ⟨A24,c24,L24,rfl,ho24,hj24⟩;replace H:=H.join hj24;clear hj24
 refine G (Ws Z)<|U<|W<|W<|Zr<|G (Ys Z)<|G (bn Af Z)<|G (Yi Z)<|U<|Zb ?_
 refine cf (τ:=Nat×Option Addr×Nat) [6,8,27,28,29,30,31,32,33,34] (fun(j,Ag,cg)=>[(6,.slice Ag (xA (ps.take j)).length cg),(27,J (j:Nat))]) (fun(j,Ag,cg) w'=>j<=ps.length/\ ∃ L',fW dz (.slice Ag (xA (ps.take j)).length cg) mP (xA (ps.take j)) L'/\Hp w w' ([]++L'++[]) [dE Kp 0 w.heap.size A ps]) (fun(j,_,_)=>ps.length-j) (0,A24,c24) ⟨by omega,L24,ho24,by simpa using H⟩ (kZ Z Z) ?_
 rintro⟨j,Ag,cg⟩ ρ2 w4 ⟨hj,L1,ho,H⟩
 show CW _ _ _ _ (dA (gC _ _ ρ2) [(6,.slice Ag (xA (ps.take j)).length cg),(27,J (j:Nat))]) w4
 have hle:=Em ps j
 refine W<|Zr ?_
 refine cU (cH Z Z) Z Z Z (fun h28=> ?_) (fun h28=> ?_)
 refine U<|W<|ZT Z<|Zk<|W<|Zb<|W<|Zr<|qu H 0 Z rK Z Z I I Z fun b5 o5 x5 e5=> ?_
 have hle2:=Em ps (j+1)
 rw[ui e5.at_,ay]at hle2
 have hpx:=(hp _ (ae e5.at_)).below H.below
 refine G (aU d5 Z (e5.cl 0 _ Z))<|G (Ws Z)<|U<|Zr<|G (Ys Z)<|G (Ys Z)<|vc (Y:=dz) oG (K:=[]) (L:=L1) (M:=[]) H ho (news:=x5.2.1) Z Z Z (Rd.src hpx) I Z ?_
 intro A3 c3 w6 L3 h3a _ ho3 H
 refine G (Ws Z)<|U<|Zr<|G (br Z Z I I)<|G (Yi Z)<|U ?_
 refine⟨(j+1,A3,c3),⟨by omega,L3,by rw[ui e5.at_];exact ho3,H⟩,kZ (by rw[ui e5.at_];rfl) Z,Qg,by show ps.length- (j+1)<ps.length-j;omega⟩
 refine U<|W<|ZF Z<|Zx<|W<|Zr<|G (Ys Z)<|G (Ws Z)<|U<|Zt ?_
 have hjp:j=ps.length:=by omega
 subst hjp
 rw[bJ]at ho
 obtain⟨A2,c2,he,hlc,hmx⟩:=ho.form
 injection he with h1 h2 h3
 subst h3
 exact cy (v:=.slice Ag (xA (ps.take ps.length)).length cg) Z Z ⟨Ag,cg,L1,by rw[bJ],hlc,hmx,ho,H.forget (by simp) (by simp)⟩
theorem IC {n:UInt8} {r:List UInt8} {e:cO} {k:Nat} (h:tD (n::r)=some (e,k)):k=n.toNat+3:=by
 simp only[tD]at h
 split at h;· cases h
 split at h;· cases h
 split at h
 injection h with h;injection h with h1 h2;exact h2.symm
 cases h
theorem Jv {e:cO} (hg:rG e): ∃ n r,iz e=n::r/\n.toNat+3=(iz e).length:=by
 obtain⟨hl,_⟩:=uO hg
 refine⟨UInt8.ofNat (eM e).length,_,rfl,?_⟩
 rw[AT,zC _ I]
theorem Kg {e:cO} (hg:rG e) {k:Nat} (hk:k<(iz e).length) (rest:List UInt8):tD ((iz e++rest).take k)=none:=by
 obtain⟨n,r,he,hn⟩:=Jv hg
 rw[ia I,he]
 cases k with
 |zero=>rfl
 |succ k=>
  rw[mT]
  cases hs:tD (n::r.take k)with
  |none=>rfl
  |some p=>
   obtain⟨e',j⟩:=p
   have h1:=IC hs
   have h2:=(Mr hs).2
   simp at h2
   omega
def tB:List cO->Nat->Nat
 |[],_=>0
 |e::es,k=>if(iz e).length<=k then 1+tB es (k- (iz e).length)else 0
theorem uI (e:cO) (es:List cO):bh (e::es)=iz e++bh es:=by simp[bh]
theorem FX: ∀ (es:List cO) (k:Nat),(∀ e∈es,rG e)->It ((bh es).take k) (es.take (tB es k)) (bh (es.take (tB es k))).length
 |[],k,_=>by
  have:(bh []).take k=[]:=by simp[bh]
  rw[this]
  exact .stop Z
 |e::es,k,hg=>by
  have hge:=hg e (az ..)
  rw[uI]
  unfold tB
  by_cases h:(iz e).length<=k
  rw[if_pos h,sf,mT,uI,ay]
  have hd:=FX es (k- (iz e).length) fun x hx=>hg x (ak _ hx)
  have e1:(iz e++bh es).take k=iz e++(bh es).take (k- (iz e).length):=by
   rw[List.take_append,f8 h]
  rw[e1]
  exact .go (EO hge _) (by rw[List.drop_left];exact hd)
  rw[if_neg h]
  exact .stop (Kg hge I _)
theorem Ez: ∀ (es:List cO) (k:Nat),tB es k<=es.length
 |[],_=>ao _
 |e::es,k=>by
  unfold tB
  split
  have:=Ez es (k- (iz e).length);simp;omega
  exact bG _
theorem vh: ∀ (es:List cO) (k:Nat),(bh (es.take (tB es k))).length<=k
 |[],k=>by simp[bh]
 |e::es,k=>by
  unfold tB
  split
  rename_i h
  rw[sf,mT,uI,ay]
  have:=vh es (k- (iz e).length)
  omega
  simp[bh]
theorem EA: ∀ (es:List cO) (k s:Nat),s<=es.length->(bh (es.take s)).length<=k->s<=tB es k
 |_,_,0,_,_=>bG _
 |[],_,s+1,h,_=>by simp at h
 |e::es,k,s+1,h,hk=>by
  rw[mT,uI,ay]at hk
  unfold tB
  rw[if_pos I]
  have:=EA es (k- (iz e).length) s (by simpa using h) I
  omega
theorem Hh (es:List cO) (s:Nat):bh es=bh (es.take s)++bh (es.drop s):=by
 unfold bh;rw[<-mU,gI]
theorem uu (es:List cO) (s:Nat):(bh es).take (bh (es.take s)).length=bh (es.take s):=by
 rw[Hh es s]
 exact List.take_left' Z
theorem Lh (a b:List cO):bh (a++b)=bh a++bh b:=by simp[bh]
structure mQ where
 A:Option Addr
 cap:Nat
 es:List cO
 s:Nat
abbrev fJ (es:List cO) (s:Nat):Nat:=(bh (es.take s)).length
def mQ.c (l:mQ):List Value:=[.slice l.A (bh l.es).length l.cap,J (fJ l.es l.s:Nat)]
structure GL (es:List cO) (s:Nat):Prop where
 good: ∀ e∈es,rG e
 len:es.length<=400
 sz:(bh es).length<=40000
 sle:s<=es.length
structure mQ.ok (l:mQ) (w:World):Prop where
 gl:GL l.es l.s
 cap:(bh l.es).length<=l.cap
 rd:Rd dz 0 w.heap.size l.A (bh l.es) w
theorem xg {es:List cO} {s:Nat} (h:GL es s):It (bh (es.take s)) (es.take s) (fJ es s):=ua _ fun e he=>h.good e (qp _ _ he)
theorem yv (l:mQ) (w:World) (h:l.ok w):db aa yI [.agg l.c.toArray] w fun v w2=>v=J 0/\Below w.heap.size w w2:=by
 refine aD DW Z Z ?_
 have hgl:=h.gl
 have hcap:=h.cap
 have hsz:=hgl.sz
 have hln:=hgl.len
 have hsle:=hgl.sle
 have hss:fJ l.es l.s<=(bh l.es).length:=ff l.es l.s
 have H:=Hp.startRd h.rd
 obtain⟨lA,lc,es,s⟩:=l
 dsimp only at hgl hcap hsz hln hsle hss H
 have hss2:(bh (es.take s)).length<=(bh es).length:=hss
 show CW _ _ _ _ (args [.agg #[.slice lA (bh es).length lc,J (fJ es s:Nat)]]) w
 refine W<|Zr<|fT H Z Z fun w1 b1 H=>G (Wi Z)<|U<|W<|W<|Zr<|G (Zf gu Z)<|G (Zd d5 H 0 Z Z Z)<|G (bn eL Z)<|G (er Z Z I)<|U<|ZF Z<|Zk<|W<|Zr<|G (Zf gu Z)<|G (Zd d5 H 0 Z Z Z)<|bY kr (rV (bh es) _ _ _ (H.rd0 0 Z) hcap I) Z Z ?_
 have hlo14:=H.size
 rintro _ w2 ⟨ds,nd,A14,c14,rfl,hd,hr14,hc14,hb14⟩;replace H:=H.learnRd hb14 hr14;clear hr14 hb14
 have hde:=(pK hd (ua es hgl.good)).1.symm
 have hdn:=(pK hd (ua es hgl.good)).2.symm
 subst hde;subst hdn;clear hd
 refine G (Yu Z)<|G (Xs Z Z)<|G (Xi Z Z)<|G (Ws Z)<|G (Wi Z)<|U<|W<|W<|Zr<|G (Yi Z)<|G (Zf gu Z)<|G (Zd d5 H 0 Z Z Z)<|G (bn eL Z)<|G (bW Z Z Z)<|G (Yb Z)<|ZG<|G (Ys Z)<|ZG<|G (bn ez Z)<|ZG<|G (er Z Z I)<|G (N Z Z)<|U<|ZF Z<|Zk<|W<|W<|Zr<|G (Zf lk Z)<|G (Zd aj H 0 Z Z Z)<|G (cZ Z Z I)<|G (Yb Z)<|ZG<|G (Zf lk Z)<|ZG<|G (Zd aj H 0 Z Z Z)<|ZG<|G (Yi Z)<|ZG<|G (er Z Z I) ?_
 refine G (N Z Z)<|U<|ZF Z<|Zk<|W<|W<|Zr<|G (Zf gu Z)<|G (Zd d5 H 0 Z Z Z)<|G (Zf lk Z)<|G (Zd aj H 0 Z Z Z)<|sr (k:=fJ es s) H 1 Z d6 Z Z hcap I Z fun A41 H=> ?_
 rw[uu]at H
 refine bY kr (rV (bh (es.take s)) _ _ _ (H.rd0 0 Z) I I) Z Z ?_
 have hlo42:=H.size
 rintro _ w3 ⟨ds,nd,A42,c42,rfl,hd,hr42,hc42,hb42⟩;replace H:=H.learnRd hb42 hr42;clear hr42 hb42
 have hde:=(pK hd (xg hgl)).1.symm
 have hdn:=(pK hd (xg hgl)).2.symm
 subst hde;subst hdn;clear hd
 refine G (Yu Z)<|G (Xs Z Z)<|G (Xi Z Z)<|G (Ws Z)<|G (Wi Z)<|U<|W<|Zr<|G (Yi Z)<|G (Zf lk Z)<|G (Zd aj H 0 Z Z Z)<|G (bW Z Z Z)<|U<|ZF Z<|Zk<|W<|Zr<|G (Wi Z)<|U<|Zt ?_
 exact cy Z Z ⟨rfl,H.below⟩
theorem BB (l:mQ) (w:World) (h:l.ok w):db aa vo [.agg l.c.toArray] w fun v w2=> ∃ A' c',v=.tuple #[.slice A' l.es.length c',J (l.s:Nat),J 0]/\Rd gL w.heap.size w2.heap.size A' l.es w2/\l.es.length<=c'/\Below w.heap.size w w2:=by
 refine aD AI Z Z ?_
 have hgl:=h.gl
 have hcap:=h.cap
 have hsz:=hgl.sz
 have hln:=hgl.len
 have hsle:=hgl.sle
 have hss:fJ l.es l.s<=(bh l.es).length:=ff l.es l.s
 have H:=Hp.startRd h.rd
 obtain⟨lA,lc,es,s⟩:=l
 dsimp only at hgl hcap hsz hln hsle hss H
 have hss2:(bh (es.take s)).length<=(bh es).length:=hss
 show CW _ _ _ _ (args [.agg #[.slice lA (bh es).length lc,J (fJ es s:Nat)]]) w
 refine W<|Zr<|fT H Z Z fun w1 b1 H=>G (Ws Z)<|G (Wi Z)<|G (Wi Z)<|U<|W<|W<|Zr<|G (Zw eR H 0 Z Z Z)<|bY mK (yv ⟨lA,lc,es,s⟩ _ ⟨hgl,hcap,H.rd0 0 Z⟩) Z Z ?_
 rintro _ w2 ⟨rfl,hb⟩;replace H:=H.later hb;clear hb
 refine G (Wi Z)<|U<|W<|Zr<|G (Yi Z)<|G (bW Z Z Z)<|U<|ZF Z<|Zk<|W<|Zr<|G (Zf gu Z)<|G (Zd d5 H 0 Z Z Z)<|bY kr (rV (bh es) _ _ _ (H.rd0 0 Z) hcap I) Z Z ?_
 have hlo18:=H.size
 rintro _ w3 ⟨ds,nd,A18,c18,rfl,hd,hr18,hc18,hb18⟩;replace H:=H.learnRd hb18 hr18;clear hr18 hb18
 have hde:=(pK hd (ua es hgl.good)).1.symm
 have hdn:=(pK hd (ua es hgl.good)).2.symm
 subst hde;subst hdn;clear hd
 refine G (Yu Z)<|G (Xs Z Z)<|G (Xi Z Z)<|G (Ws Z)<|G (Wi Z)<|U<|W<|Zr<|G (Zf gu Z)<|G (Zd d5 H 0 Z Z Z)<|G (Zf lk Z)<|G (Zd aj H 0 Z Z Z)<|sr (k:=fJ es s) H 1 Z d6 Z Z hcap I Z fun A26 H=> ?_
 rw[uu]at H
 refine bY kr (rV (bh (es.take s)) _ _ _ (H.rd0 0 Z) I I) Z Z ?_
 have hlo27:=H.size
 rintro _ w4 ⟨ds,nd,A27,c27,rfl,hd,hr27,hc27,hb27⟩;replace H:=H.learnRd hb27 hr27;clear hr27 hb27
 have hde:=(pK hd (xg hgl)).1.symm
 have hdn:=(pK hd (xg hgl)).2.symm
 subst hde;subst hdn;clear hd
 refine G (Yu Z)<|G (Xs Z Z)<|G (Xi Z Z)<|G (Ws Z)<|G (Wi Z)<|U<|W<|Zr<|G (Ys Z)<|G (Ys Z)<|G (bn ez Z)<|G (Ws Z)<|G (Wi Z)<|G (Wi Z)<|U<|Zt ?_
 have hls:(es.take s).length=s:=by simp;omega
 have hrd:=Rd.mono (H.fact (i:=2) Z) hlo18 (H.facts _ (ae (i:=2) Z)).2.1
 exact Hi (v:=.slice A18 es.length c18) (v2:=J ((es.take s).length:Nat)) (v3:=J 0) Z Z Z Z ⟨A18,c18,by rw[hls],hrd,hc18,H.below⟩
theorem g7 (A:Option Addr) (c:Nat) (es:List cO) (s:Nat) (w:World) (h:(⟨A,c,es,s⟩:mQ).ok w):db aa vo [.agg #[.slice A (bh es).length c,J (fJ es s:Nat)]] w fun v w2=> ∃ A' c',v=.tuple #[.slice A' es.length c',J (s:Nat),J 0]/\Rd gL w.heap.size w2.heap.size A' es w2/\es.length<=c'/\Below w.heap.size w w2:=BB ⟨A,c,es,s⟩ w h
theorem qG (A:Option Addr) (c:Nat) (es:List cO) (s:Nat) (w:World) (h:(⟨A,c,es,s⟩:mQ).ok w):db aa yI [.agg #[.slice A (bh es).length c,J (fJ es s:Nat)]] w fun v w2=>v=J 0/\Below w.heap.size w w2:=yv ⟨A,c,es,s⟩ w h
theorem ln (es:List UInt8) (A:Option Addr) (c:Nat) (w:World) (hr:Rd dz 0 w.heap.size A es w) (hb:es.length*1<=140737488355328):
  db aa kM [.slice A es.length c] w fun v w2=> ∃ A' c',v=.slice A' es.length c'/\es.length<=c'/\Rd dz w.heap.size w2.heap.size A' es w2/\Below w.heap.size w w2:=
 (B4 es A c w hr hb).mono fun v w2 ⟨A',c',L',h1,h2,_,h4,h5⟩=>⟨A',c',h1,h2,h4.rd (K:=[]) (M:=[]) (by simpa using h5),h5.below⟩
theorem xh (es:List Int) (A:Option Addr) (c:Nat) (w:World) (hr:Rd bR 0 w.heap.size A es w) (hb:es.length*8<=140737488355328):
  db aa lT [.slice A es.length c] w fun v w2=> ∃ A' c',v=.slice A' es.length c'/\es.length<=c'/\Rd bR w.heap.size w2.heap.size A' es w2/\Below w.heap.size w w2:=
 (sT es A c w hr hb).mono fun v w2 ⟨A',c',L',h1,h2,_,h4,h5⟩=>⟨A',c',h1,h2,h4.rd (K:=[]) (M:=[]) (by simpa using h5),h5.below⟩
def yp (w w2:World) (A:Option Addr) (c:Nat) (es:List cO) (s:Nat):Prop:=GL es s/\(bh es).length<=c/\Rd dz w.heap.size w2.heap.size A (bh es) w2
theorem yp.ok {w w2:World} {A:Option Addr} {c:Nat} {es:List cO} {s:Nat} (h:yp w w2 A c es s):(⟨A,c,es,s⟩:mQ).ok w2:=⟨h.1,h.2.1,h.2.2.mono (bG _) (ao _)⟩
theorem kJ (es:List cO) (x:cO):bh (es++[x])=bh es++iz x:=by rw[Lh,Lg]
theorem wH {es:List cO} {s:Nat} (x:cO) (h:s<=es.length):fJ (es++[x]) s=fJ es s:=by unfold fJ;rw[ia h]
def BO (es:List cO) (x:cO):Prop:=es.length=400∨40000<(bh es).length+(iz x).length
theorem GL.snoc {es:List cO} {s:Nat} {x:cO} (h:GL es s) (hx:rG x) (hf: ¬ BO es x):GL (es++[x]) s:=by
 unfold BO at hf
 refine⟨fun e he=> ?_,by simp;have:=h.len;omega,by rw[kJ,ay];omega,by simp;have:=h.sle;omega⟩
 rcases ar.1 he with he|he
 exact h.good e he
 rw[aq.1 he];exact hx
theorem GL.all {es:List cO} {s:Nat} (h:GL es s):GL es es.length:=⟨h.good,h.len,h.sz,ao _⟩
theorem GL.take {es:List cO} {s:Nat} (h:GL es s) (n:Nat) {t:Nat} (ht:t<=(es.take n).length):GL (es.take n) t:=⟨fun e he=>h.good e (qp _ _ he),by simp;have:=h.len;omega,by have:=ff es n;have:=h.sz;omega,ht⟩
theorem Ds (l:mQ) (x:cO) (w:World) (h:l.ok w) (hx:rG x) (hf: ¬ BO l.es x):db aa wP [.agg l.c.toArray,x.v] w fun v w2=> ∃ A' c',v=.tuple #[.agg (mQ.c ⟨A',c',l.es++[x],l.s⟩).toArray,J 0]/\yp w w2 A' c' (l.es++[x]) l.s/\Below w.heap.size w w2:=by
 refine aD BR Z Z ?_
 have hgl:=h.gl
 have hcap:=h.cap
 have hsz:=hgl.sz
 have hln:=hgl.len
 have hsle:=hgl.sle
 have hss:fJ l.es l.s<=(bh l.es).length:=ff l.es l.s
 have H:=Hp.startRd h.rd
 obtain⟨lA,lc,es,s⟩:=l
 dsimp only at hgl hcap hsz hln hsle hss H
 have hss2:(bh (es.take s)).length<=(bh es).length:=hss
 show CW _ _ _ _ (args [.agg #[.slice lA (bh es).length lc,J (fJ es s:Nat)],x.v]) w
 unfold BO at hf
 dsimp only at hf
 have hel:=Ie hx
 refine W<|Zr<|fT H Z Z fun w1 b2 H=>fT H Z Z fun w2 b3 H=>eE H pQ Z fun w3 b4 H=>G (Wi Z)<|U<|W<|Zr<|G (Zw eR H 2 Z Z Z)<|bY gx (g7 lA lc es s _ ⟨hgl,hcap,H.rd0 0 Z⟩) Z Z ?_
 rintro _ w4 ⟨A12,c12,rfl,hr12,hc12,hb12⟩;replace H:=H.learnRd hb12 hr12;clear hr12 hb12
 refine G (Yu Z)<|G (Xs Z Z)<|G (Xi Z Z)<|G (Xi Z Z)<|G (Ws Z)<|G (Wi Z)<|G (Wi Z)<|U<|W<|W<|Zr<|G (Yi Z)<|G (bW Z Z Z)<|U<|ZF Z<|Zk<|W<|Zr<|G (Zw dG H 1 Z Z Z)<|bY ub (CV x _ hx) Z Z ?_
 rintro _ w6 ⟨A5,c5,rfl,hr5,hc5,hb5⟩;replace H:=H.learnRd hb5 hr5;clear hr5 hb5
 refine G (Yu Z)<|G (Xs Z Z)<|G (Xi Z Z)<|G (Ws Z)<|G (Wi Z)<|U<|W<|W<|Zr<|G (Yi Z)<|G (bW Z Z Z)<|U<|ZF Z<|Zk<|W<|W<|Zr<|G (Ys Z)<|G (bn ez Z)<|G (nF Z Z I)<|G (Yb Z)<|ZG<|G (Zf gu Z)<|ZG<|G (Zd d5 H 2 Z Z Z)<|ZG<|G (bn eL Z)<|ZG<|G (Ys Z)<|ZG<|G (bn eL Z)<|ZG<|G (br Z Z I I)<|ZG<|G (er Z Z I)<|G (N Z Z)<|U<|ZF Z<|Zk<|W ?_
 refine qO bX [0,2,5] [1,3,4,6,7,8,9] [0,2,5] 7 N N N Nq ?_
 refine aw Z Z Z Z Z (fun w' hw'=>Zf gu Z)<|aw Z Z Z Z Z (fun w' hw'=>Ys Z)<|aw Z Z Z Z Z (fun w' hw'=>Zf lk Z)<|aS ?_
 intro w7 hw';replace H:=H.later hw';clear hw'
 refine tw 1 6 N Z Z ?_ ?_
 refine G (Zd d5 H 2 Z Z Z)<|U ?_
 refine tw 3 6 N Z Z ?_ ?_
 refine tb (vs:=[.slice lA (bh es).length lc,.slice A5 (iz x).length c5]) H rK De Z Z Z Z Z Z fun w8 b45 H=> ?_
 have hcat:xA [(lA,bh es,lc),(A5,iz x,c5)]=bh (es++[x]):=by rw[kJ];simp[xA]
 refine U ?_
 refine tw 4 6 N Z Z ?_ ?_
 have hC:=uN [(lA,bh es,lc),(A5,iz x,c5)] (Qd b45) 2 _ (Rd.blk (H.ent (i:=0) Z) Z) (by intro p hp;simp at hp;rcases hp with rfl|rfl;exact H.rd0 2 Z;exact H.rd0 0 Z) (by rw[hcat,kJ,ay];omega) (by simp)
 rw[hcat]at hC
 have hloX:=H.size
 refine bY fz hC Z Z ?_;rintro _ w9 ⟨AX,cX,LX,rfl,hcX,-,hoX,hjX⟩;replace H:=H.learnOwn hjX hoX
 refine U<|dd 6 N Z<|G (Zd aj H 3 Z Z Z)<|U<|dd 7 N Z<|G (bi (cs:= #[.slice AX (bh (es++[x])).length cX,J (fJ es s:Nat)]) tE pQ N)<|U<|dd 8 N Z<|bo H 1 (#[.slice AX (bh (es++[x])).length cX,J (fJ es s:Nat)]) i9 Z Z Z Z Z N N fun w10 H=>U<|dd 9 N Z<|G (Wi Z)<|U<|cB N<|Zt ?_
 exact bD (cs0:= #[.slice AX (bh (es++[x])).length cX,J (fJ es s:Nat)]) (v1:=J 0) Z eR Z (H.ent (i:=1) Z) Z Z ⟨AX,cX,by unfold mQ.c;rw[wH _ hsle],⟨hgl.snoc hx (by unfold BO;omega),hcX,Rd.mono (H.fact (i:=0) Z) hloX (H.facts _ (ae (i:=0) Z)).2.1⟩,H.below⟩
 refine G (Zd aj H 3 Z Z Z)<|U<|dd 4 N Z ?_
 have hC:=uN [(lA,bh es,lc),(A5,iz x,c5)] (Qd b45) 2 _ (Rd.blk (H.ent (i:=0) Z) Z) (by intro p hp;simp at hp;rcases hp with rfl|rfl;exact H.rd0 2 Z;exact H.rd0 0 Z) (by rw[hcat,kJ,ay];omega) (by simp)
 rw[hcat]at hC
 have hloX:=H.size
 refine bY fz hC Z Z ?_;rintro _ w11 ⟨AX,cX,LX,rfl,hcX,-,hoX,hjX⟩;replace H:=H.learnOwn hjX hoX
 refine U<|dd 7 N Z<|G (bi (cs:= #[.slice AX (bh (es++[x])).length cX,J (fJ es s:Nat)]) tE pQ N)<|U<|dd 8 N Z<|bo H 1 (#[.slice AX (bh (es++[x])).length cX,J (fJ es s:Nat)]) i9 Z Z Z Z Z N N fun w12 H=>U<|dd 9 N Z<|G (Wi Z)<|U<|cB N<|Zt ?_
 exact bD (cs0:= #[.slice AX (bh (es++[x])).length cX,J (fJ es s:Nat)]) (v1:=J 0) Z eR Z (H.ent (i:=1) Z) Z Z ⟨AX,cX,by unfold mQ.c;rw[wH _ hsle],⟨hgl.snoc hx (by unfold BO;omega),hcX,Rd.mono (H.fact (i:=0) Z) hloX (H.facts _ (ae (i:=0) Z)).2.1⟩,H.below⟩
 refine G (Zd aj H 2 Z Z Z)<|U<|dd 3 N Z<|tb (vs:=[.slice lA (bh es).length lc,.slice A5 (iz x).length c5]) H rK De Z Z Z Z Z Z fun w13 b45 H=> ?_
 have hcat:xA [(lA,bh es,lc),(A5,iz x,c5)]=bh (es++[x]):=by rw[kJ];simp[xA]
 refine U<|dd 4 N Z ?_
 have hC:=uN [(lA,bh es,lc),(A5,iz x,c5)] (Qd b45) 2 _ (Rd.blk (H.ent (i:=0) Z) Z) (by intro p hp;simp at hp;rcases hp with rfl|rfl;exact H.rd0 2 Z;exact H.rd0 0 Z) (by rw[hcat,kJ,ay];omega) (by simp)
 rw[hcat]at hC
 have hloX:=H.size
 refine bY fz hC Z Z ?_;rintro _ w14 ⟨AX,cX,LX,rfl,hcX,-,hoX,hjX⟩;replace H:=H.learnOwn hjX hoX
 refine U<|dd 7 N Z<|G (bi (cs:= #[.slice AX (bh (es++[x])).length cX,J (fJ es s:Nat)]) tE pQ N)<|U<|dd 8 N Z<|bo H 1 (#[.slice AX (bh (es++[x])).length cX,J (fJ es s:Nat)]) i9 Z Z Z Z Z N N fun w15 H=>U<|dd 9 N Z<|G (Wi Z)<|U<|cB N<|Zt ?_
 exact bD (cs0:= #[.slice AX (bh (es++[x])).length cX,J (fJ es s:Nat)]) (v1:=J 0) Z eR Z (H.ent (i:=1) Z) Z Z ⟨AX,cX,by unfold mQ.c;rw[wH _ hsle],⟨hgl.snoc hx (by unfold BO;omega),hcX,Rd.mono (H.fact (i:=0) Z) hloX (H.facts _ (ae (i:=0) Z)).2.1⟩,H.below⟩
 refine G (Zd aj H 2 Z Z Z)<|U<|dd 1 N Z<|G (Zd d5 H 2 Z Z Z)<|U<|dd 3 N Z<|tb (vs:=[.slice lA (bh es).length lc,.slice A5 (iz x).length c5]) H rK De Z Z Z Z Z Z fun w16 b45 H=> ?_
 have hcat:xA [(lA,bh es,lc),(A5,iz x,c5)]=bh (es++[x]):=by rw[kJ];simp[xA]
 refine U<|dd 4 N Z ?_
 have hC:=uN [(lA,bh es,lc),(A5,iz x,c5)] (Qd b45) 2 _ (Rd.blk (H.ent (i:=0) Z) Z) (by intro p hp;simp at hp;rcases hp with rfl|rfl;exact H.rd0 2 Z;exact H.rd0 0 Z) (by rw[hcat,kJ,ay];omega) (by simp)
 rw[hcat]at hC
 have hloX:=H.size
 refine bY fz hC Z Z ?_;rintro _ w17 ⟨AX,cX,LX,rfl,hcX,-,hoX,hjX⟩;replace H:=H.learnOwn hjX hoX
 refine U<|dd 7 N Z<|G (bi (cs:= #[.slice AX (bh (es++[x])).length cX,J (fJ es s:Nat)]) tE pQ N)<|U<|dd 8 N Z<|bo H 1 (#[.slice AX (bh (es++[x])).length cX,J (fJ es s:Nat)]) i9 Z Z Z Z Z N N fun w18 H=>U<|dd 9 N Z<|G (Wi Z)<|U<|cB N<|Zt ?_
 exact bD (cs0:= #[.slice AX (bh (es++[x])).length cX,J (fJ es s:Nat)]) (v1:=J 0) Z eR Z (H.ent (i:=1) Z) Z Z ⟨AX,cX,by unfold mQ.c;rw[wH _ hsle],⟨hgl.snoc hx (by unfold BO;omega),hcX,Rd.mono (H.fact (i:=0) Z) hloX (H.facts _ (ae (i:=0) Z)).2.1⟩,H.below⟩
theorem M2 (es:List cO):fJ es es.length=(bh es).length:=by unfold fJ;rw[bJ]
theorem Fo {es:List cO} {a b:Nat} (h:a<=b):fJ es a<=fJ es b:=by
 have:=ff (es.take b) a
 unfold fJ
 rwa[dp,bu h]at this
theorem M1 (es:List cO) (s n:Nat):min ((fJ es s:Nat):Int) ((fJ es n:Nat):Int)=(fJ (es.take n) (min s n):Nat):=by
 have e:fJ (es.take n) (min s n)=fJ es (min s n):=by
  unfold fJ;rw[dp,bu (Nat.min_le_right _ _)]
 rw[e]
 by_cases h:s<=n
 have:=Fo (es:=es) h
 rw[bu h];omega
 have:=Fo (es:=es) (show n<=s by omega)
 rw[Nat.min_eq_right I];omega
theorem Rd.cut0 {α:Type} {Y:fi α} {lo hi cap sz:Nat} {A:Option Addr} {es:List α} {w:World} (h:Rd Y lo hi A es w) (k:Nat):Rd Y lo hi (cut A cap 0 sz) (es.take k) w:=by
 have e:cut A cap 0 sz=A:=by
  unfold cut
  split
  rfl
  cases A<;>simp[Addr.add]
 rw[e]
 exact h.take k
def jP (es:List cO) (s keep:Nat):Nat:=tB es (fJ es s+min keep ((bh es).length-fJ es s))
theorem JC {es:List cO} {s keep:Nat} (h:s<=es.length):s<=jP es s keep:=EA es _ s h (by unfold fJ;omega)
theorem C0 (es:List cO) (s keep:Nat):jP es s keep<=es.length:=Ez _ _
theorem GB (l:mQ) (w:World) (h:l.ok w):db aa As [.agg l.c.toArray] w fun v w2=> ∃ A' c',v=.tuple #[.agg (mQ.c ⟨A',c',l.es,l.es.length⟩).toArray,J 0]/\yp w w2 A' c' l.es l.es.length/\Below w.heap.size w w2:=by
 refine aD FJ Z Z ?_
 have hgl:=h.gl
 have hcap:=h.cap
 have hsz:=hgl.sz
 have hln:=hgl.len
 have hsle:=hgl.sle
 have hss:fJ l.es l.s<=(bh l.es).length:=ff l.es l.s
 have H:=Hp.startRd h.rd
 obtain⟨lA,lc,es,s⟩:=l
 dsimp only at hgl hcap hsz hln hsle hss H
 have hss2:(bh (es.take s)).length<=(bh es).length:=hss
 show CW _ _ _ _ (args [.agg #[.slice lA (bh es).length lc,J (fJ es s:Nat)]]) w
 refine W<|Zr<|fT H Z Z fun w1 b1 H=>eE H pQ Z fun w2 b2 H=>G (Wi Z)<|U<|W<|W<|Zr<|G (Zw eR H 1 Z Z Z)<|bY mK (qG lA lc es s _ ⟨hgl,hcap,H.rd0 0 Z⟩) Z Z ?_
 rintro _ w3 ⟨rfl,hb⟩;replace H:=H.later hb;clear hb
 refine G (Wi Z)<|U<|W<|Zr<|G (Yi Z)<|G (bW Z Z Z)<|U<|ZF Z<|Zk<|W ?_
 have hlo:=H.size
 refine bz bX [0,1,3,4,5,2,6] [7,8] [2] [0,3,5,6] (sp [(2,Sp.row w3.heap.size dz (bh es))]) N N N N Nq (cG _) ?_
 refine aw Z Z Z Z Z (fun w' hw'=>Zf gu Z)<|aw Z Z Z Z Z (fun w' hw'=>aU d5 Z (aB ((H.later hw').ent (i:=1) Z) Z))<|aw Z Z Z Z Z (fun w' hw'=>Zf gu Z)<|aw Z Z Z Z Z (fun w' hw'=>aU d5 Z (aB ((H.later hw').ent (i:=1) Z) Z))<|aw Z Z Z Z Z (fun w' hw'=>bn eL Z)<|C3 fc Z Z Z Z Z (fun w' hw'=>hw'.size) (fun w' hw'=>ln (bh es) _ _ w' ((H.later hw').rd0 0 Z) I) Z fun A13 c13 hc13=>aw Z Z Z Z Z (fun w' hw'=>bi (cs:= #[.slice A13 (bh es).length c13,J ((bh es).length:Nat)]) tE pQ N)<|aS ?_
 intro w4 hw' hF
 obtain⟨hF,Aq,cq,eq,hcq,hrw13⟩:=hF;cases eq;clear hcq
 replace H:=H.learnRd hw' hrw13
 clear hw' hF
 refine bo H 0 (#[.slice A13 (bh es).length c13,J ((bh es).length:Nat)]) i9 Z Z Z Z Z N N fun w5 H=>G (Wi Z)<|U<|Zt ?_
 exact bD (cs0:= #[.slice A13 (bh es).length c13,J ((bh es).length:Nat)]) (v1:=J 0) Z eR Z (H.ent (i:=0) Z) Z Z ⟨A13,c13,by unfold mQ.c;rw[M2],⟨hgl.all,hc13,Rd.mono (H.fact (i:=0) Z) hlo (H.facts _ (ae (i:=0) Z)).2.1⟩,H.below⟩
theorem IM (l:mQ) (n:Nat) (w:World) (h:l.ok w) (hn:n<=l.es.length):db aa CN [.agg l.c.toArray,J (n:Nat)] w fun v w2=> ∃ A' c',v=.tuple #[.agg (mQ.c ⟨A',c',l.es.take n,min l.s n⟩).toArray,J 0]/\yp w w2 A' c' (l.es.take n) (min l.s n)/\Below w.heap.size w w2:=by
 refine aD Hf Z Z ?_
 have hgl:=h.gl
 have hcap:=h.cap
 have hsz:=hgl.sz
 have hln:=hgl.len
 have hsle:=hgl.sle
 have hss:fJ l.es l.s<=(bh l.es).length:=ff l.es l.s
 have H:=Hp.startRd h.rd
 obtain⟨lA,lc,es,s⟩:=l
 dsimp only at hgl hcap hsz hln hsle hss H
 have hss2:(bh (es.take s)).length<=(bh es).length:=hss
 show CW _ _ _ _ (args [.agg #[.slice lA (bh es).length lc,J (fJ es s:Nat)],J (n:Nat)]) w
 dsimp only at hn
 refine W<|Zr<|fT H Z Z fun w1 b2 H=>eE H pQ Z fun w2 b4 H=>G (Wi Z)<|U<|W<|Zr<|G (Zw eR H 1 Z Z Z)<|bY gx (g7 lA lc es s _ ⟨hgl,hcap,H.rd0 0 Z⟩) Z Z ?_
 rintro _ w3 ⟨A16,c16,rfl,hr16,hc16,hb16⟩;replace H:=H.learnRd hb16 hr16;clear hr16 hb16
 refine G (Yu Z)<|G (Xs Z Z)<|G (Xi Z Z)<|G (Xi Z Z)<|G (Ws Z)<|G (Wi Z)<|G (Wi Z)<|U<|W<|W<|Zr<|G (Yi Z)<|G (bW Z Z Z)<|U<|ZF Z<|Zk<|W<|W<|Zr<|G (Yi Z)<|G (cZ Z Z I)<|G (Yb Z)<|ZG<|G (Yi Z)<|ZG<|G (Ys Z)<|ZG<|G (bn ez Z)<|ZG<|G (er Z Z I)<|G (N Z Z)<|U<|ZF Z<|Zk<|W<|W<|Zr<|G (Yi Z)<|G (Ys Z)<|G (bn ez Z) ?_
 refine cU (bl Z Z) Z Z Z (fun h36=> ?_) (fun h36=> ?_)
 refine U<|ZT Z<|W ?_
 have hlo:=H.size
 refine bz bX [0,1,3,4,2,5] [6,7] [2] [0,3,5] (sp [(2,Sp.row w3.heap.size dz (bh es))]) N N N N Nq (cG _) ?_
 refine aw Z Z Z Z Z (fun w' hw'=>Zf gu Z)<|aw Z Z Z Z Z (fun w' hw'=>aU d5 Z (aB ((H.later hw').ent (i:=1) Z) Z))<|aw Z Z Z Z Z (fun w' hw'=>Zf lk Z)<|aw Z Z Z Z Z (fun w' hw'=>aU aj Z (aB ((H.later hw').ent (i:=1) Z) Z))<|C3 fc Z Z Z Z Z (fun w' hw'=>hw'.size) (fun w' hw'=>ln (bh es) _ _ w' ((H.later hw').rd0 1 Z) I) Z fun A39 c39 hc39=>aw Z Z Z Z Z (fun w' hw'=>bi (cs:= #[.slice A39 (bh es).length c39,J (fJ es s:Nat)]) tE pQ N)<|aS ?_
 intro w4 hw' hF
 obtain⟨hF,Aq,cq,eq,hcq,hrw39⟩:=hF;cases eq;clear hcq
 replace H:=H.learnRd hw' hrw39
 clear hw' hF
 refine bo H 0 (#[.slice A39 (bh es).length c39,J (fJ es s:Nat)]) i9 Z Z Z Z Z N N fun w5 H=>G (Wi Z)<|U<|Zt ?_
 have hnl:n=es.length:=by omega
 subst hnl
 exact bD (cs0:= #[.slice A39 (bh es).length c39,J (fJ es s:Nat)]) (v1:=J 0) Z eR Z (H.ent (i:=0) Z) Z Z ⟨A39,c39,by unfold mQ.c;rw[bu hsle,bJ],⟨by rw[bu hsle,bJ];exact hgl,by rw[bJ];exact hc39,by rw[bJ];exact Rd.mono (H.fact (i:=0) Z) hlo (H.facts _ (ae (i:=0) Z)).2.1⟩,H.below⟩
 refine U<|ZF Z<|Zk<|W<|Zr<|G (Wi Z)<|U<|W<|W<|Zr<|G (Ys Z)<|G (Yi Z)<|sr (k:=n) H 0 Z dS Z Z hc16 I Z fun A45 H=>G (bn ez Z)<|G (Yi Z)<|U<|Zb ?_
 refine cf (τ:=Nat) [9,11,12,13,47,48,49,50,51,52,53,54,55,56,57,58,59,60] (fun k=>[(9,J (fJ es k:Nat)),(47,J (k:Nat))]) (fun k w'=>k<=n/\Hp w w' [(b4,.cells #[.slice none 0 0,J 0] Bo (0,0)),(b2,.cells #[.slice lA (bh es).length lc,J (fJ es s:Nat)] Bo (0,0))] [dE gL w2.heap.size w3.heap.size A45 (es.take n),dE gL w2.heap.size w3.heap.size A16 es,dE dz 0 w.heap.size lA (bh es)]) (fun k=>n-k) 0 ⟨by omega,H⟩ (kZ Z Z) ?_
 rintro k ρ1 w6 ⟨hk,H⟩
 show CW _ _ _ _ (dA (gC _ _ ρ1) [(9,J (fJ es k:Nat)),(47,J (k:Nat))]) w6
 have hsk0:fJ es k<=(bh es).length:=ff es k
 refine W<|Zr ?_
 refine cU (cH Z Z) Z Z Z (fun h48=> ?_) (fun h48=> ?_)
 refine U<|W<|ZT Z<|Zk<|W<|Zb<|W<|Zr ?_
 have htl:(es.take n).length=n:=by simp;omega
 refine qu H 0 Z dS Z Z I I Z fun b7 o7 x7 e7=> ?_
 have hxk:es[k]? =some x7:=by have:=e7.at_;rwa[fA I]at this
 have hg:=hgl.good _ (ae hxk)
 have hsk:=ff es (k+1)
 rw[t6 hxk,ay]at hsk
 have hsk2:fJ es k+(iz x7).length<=(bh es).length:=hsk
 refine G (jT (xs:=cO.c x7) dG Z Z e7.cl)<|eE H gd Z fun w8 b11 H=>Kj H 0 eS Z Z Z Z Z Z fun w9 H=>U<|W<|Zr<|G (Zw dG H 0 Z Z Z)<|bY ub (CV x7 _ hg) Z Z ?_
 rintro _ w11 ⟨A10,c10,rfl,hr10,hc10,hb10⟩;replace H:=H.learnRd hb10 hr10;clear hr10 hb10
 refine G (Yu Z)<|G (Xs Z Z)<|G (Xi Z Z)<|G (Ws Z)<|G (Wi Z)<|U<|Zr<|G (Yi Z)<|G (Ys Z)<|G (bn eL Z)<|G (br Z Z I I)<|G (Wi Z)<|U<|Zr<|G (br Z Z I I)<|G (Yi Z)<|U ?_
 refine⟨k+1,⟨by omega,H.forget (aW _ _) (fun _ h=>ak _ h)⟩,kZ (by show _=Value.int .i64 ((fJ es (k+1):Nat):Int);unfold fJ;rw[t6 hxk,ay];rfl) Z,Qg,by show n- (k+1)<n-k;omega⟩
 have hkn:n=k:=by omega
 subst hkn
 refine U<|W<|ZF Z<|Zx<|W ?_
 have hlo:=H.size
 refine bz bX [0,1,2,3,5,6,7,8,4,9] [10,11] [4] [0,2,3,5,7,8,9] (sp [(4,Sp.row w6.heap.size dz (bh (es.take n)))]) N N N N Nq (cG _) ?_
 refine aw Z Z Z Z Z (fun w' hw'=>Zf gu Z)<|aw Z Z Z Z Z (fun w' hw'=>aU d5 Z (aB ((H.later hw').ent (i:=1) Z) Z))<|aw Z Z Z Z Z (fun w' hw'=>Yi Z)<|aw Z Z Z Z Z (fun w' hw'=>Dp (i:=((fJ es n:Nat):Int)) d6 Z Z I (by have:=ff es n;show((fJ es n:Nat):Int)<=_;unfold fJ;omega))<|aw Z Z Z Z Z (fun w' hw'=>Zf lk Z)<|aw Z Z Z Z Z (fun w' hw'=>aU aj Z (aB ((H.later hw').ent (i:=1) Z) Z))<|aw Z Z Z Z Z (fun w' hw'=>Yi Z)<|aw Z Z Z Z Z (fun w' hw'=>tJ Z Z)<|C3 fc Z Z Z Z Z (fun w' hw'=>hw'.size) (fun w' hw'=>ln (bh (es.take n)) _ _ w' (by have:=Rd.cut0 (cap:=lc) (sz:=1) ((H.later hw').rd0 2 Z) (fJ es n);rwa[uu]at this) (by have:=ff es n;omega)) Z fun A65 c65 hc65=>aw Z Z Z Z Z (fun w' hw'=>bi (cs:= #[.slice A65 (bh (es.take n)).length c65,J (min ((fJ es s:Nat):Int) ((fJ es n:Nat):Int))]) tE pQ N)<|aS ?_
 intro w12 hw' hF
 obtain⟨hF,Aq,cq,eq,hcq,hrw65⟩:=hF;cases eq;clear hcq
 replace H:=H.learnRd hw' hrw65
 clear hw' hF
 refine bo H 0 (#[.slice A65 (bh (es.take n)).length c65,J (min ((fJ es s:Nat):Int) ((fJ es n:Nat):Int))]) i9 Z Z Z Z Z N N fun w13 H=>G (Wi Z)<|U<|Zt ?_
 exact bD (cs0:= #[.slice A65 (bh (es.take n)).length c65,J (min ((fJ es s:Nat):Int) ((fJ es n:Nat):Int))]) (v1:=J 0) Z eR Z (H.ent (i:=0) Z) Z Z ⟨A65,c65,by unfold mQ.c;rw[M1],⟨hgl.take n (by simp;omega),hc65,Rd.mono (H.fact (i:=0) Z) hlo (H.facts _ (ae (i:=0) Z)).2.1⟩,H.below⟩
theorem EW (l:mQ) (keep:Nat) (w:World) (h:l.ok w) (hkb:keep<=1000000000000):db aa Fv [.agg l.c.toArray,J (keep:Nat)] w fun v w2=> ∃ A' c',v=.tuple #[.agg (mQ.c ⟨A',c',l.es.take (jP l.es l.s keep),jP l.es l.s keep⟩).toArray,J 0]/\yp w w2 A' c' (l.es.take (jP l.es l.s keep)) (jP l.es l.s keep)/\Below w.heap.size w w2:=by
 refine aD DV Z Z ?_
 have hgl:=h.gl
 have hcap:=h.cap
 have hsz:=hgl.sz
 have hln:=hgl.len
 have hsle:=hgl.sle
 have hss:fJ l.es l.s<=(bh l.es).length:=ff l.es l.s
 have H:=Hp.startRd h.rd
 obtain⟨lA,lc,es,s⟩:=l
 dsimp only at hgl hcap hsz hln hsle hss H
 have hss2:(bh (es.take s)).length<=(bh es).length:=hss
 show CW _ _ _ _ (args [.agg #[.slice lA (bh es).length lc,J (fJ es s:Nat)],J (keep:Nat)]) w
 dsimp only
 have hmle:=C0 es s keep
 have hfl:=vh es (fJ es s+min keep ((bh es).length-fJ es s))
 have hdt:=FX es (fJ es s+min keep ((bh es).length-fJ es s)) hgl.good
 change It _ (es.take (jP es s keep)) (bh (es.take (jP es s keep))).length at hdt
 change (bh (es.take (jP es s keep))).length<=_ at hfl
 generalize jP es s keep=m at*
 have hfm:=ff es m
 have hlk:((bh es).take (fJ es s+min keep ((bh es).length-fJ es s))).length=(fJ es s+min keep ((bh es).length-fJ es s)):=by rw[aH];omega
 refine W<|Zr<|fT H Z Z fun w1 b2 H=>eE H pQ Z fun w2 b4 H=>G (Wi Z)<|U<|W<|W<|Zr<|G (Zw eR H 1 Z Z Z)<|bY mK (qG lA lc es s _ ⟨hgl,hcap,H.rd0 0 Z⟩) Z Z ?_
 rintro _ w3 ⟨rfl,hb⟩;replace H:=H.later hb;clear hb
 refine G (Wi Z)<|U<|W<|Zr<|G (Yi Z)<|G (bW Z Z Z)<|U<|ZF Z<|Zk<|W<|W<|Zr<|G (Yi Z)<|G (cZ Z Z I)<|U<|ZF Z<|Zk<|W<|Zr<|G (Zf gu Z)<|G (Zd d5 H 1 Z Z Z)<|G (bn eL Z)<|G (Zf lk Z)<|G (Zd aj H 1 Z Z Z)<|G (m3 Z Z I I)<|G (Wi Z)<|U<|W<|Zr<|G (Zf gu Z)<|G (Zd d5 H 1 Z Z Z)<|G (Zf lk Z)<|G (Zd aj H 1 Z Z Z)<|G (Yi Z)<|G (Yi Z)<|G (tJ Z Z)<|G (br Z Z I I)<|sr (k:=(fJ es s+min keep ((bh es).length-fJ es s))) H 0 Z d6 Z (show Value.int .i64 (((fJ es s:Nat):Int)+min ((keep:Nat):Int) ((((bh es).length:Nat):Int)- ((fJ es s:Nat):Int)))=J ((fJ es s+min keep ((bh es).length-fJ es s)):Nat) by congr 1;omega) hcap I Z fun A34 H=> ?_
 have hD:=rV ((bh es).take (fJ es s+min keep ((bh es).length-fJ es s))) A34 lc _ (H.rd0 0 Z) I I
 rw[hlk]at hD
 refine bY kr hD Z Z ?_;rintro _ w4 ⟨fs,n,A35,c35,rfl,hd35,hr35,hc35,hb35⟩;replace H:=H.learnRd hb35 hr35;clear hr35 hb35
 obtain⟨rfl,rfl⟩:=pK hdt hd35
 refine G (Yu Z)<|G (Xs Z Z)<|G (Xi Z Z)<|G (Ws Z)<|G (Wi Z)<|U<|W<|Zr<|G (Zf gu Z)<|G (Zd d5 H 1 Z Z Z)<|G (Yi Z)<|sr (k:=(bh (es.take m)).length) H 2 Z d6 Z Z hcap I Z fun A41 H=> ?_
 rw[uu]at H
 have hlo:=H.size
 refine bY fc (ln (bh (es.take m)) A41 lc _ (H.rd0 0 Z) I) Z Z ?_;rintro _ w5 ⟨A42,c42,rfl,hc42,hr42,hb42⟩;replace H:=H.learnRd hb42 hr42;clear hr42 hb42
 refine G (Yi Z)<|G (bi (cs:= #[.slice A42 (bh (es.take m)).length c42,J ((bh (es.take m)).length:Nat)]) tE pQ N)<|bo H 0 (#[.slice A42 (bh (es.take m)).length c42,J ((bh (es.take m)).length:Nat)]) i9 Z Z Z Z Z N N fun w6 H=>G (Wi Z)<|U<|Zt ?_
 exact bD (cs0:= #[.slice A42 (bh (es.take m)).length c42,J ((bh (es.take m)).length:Nat)]) (v1:=J 0) Z eR Z (H.ent (i:=0) Z) Z Z ⟨A42,c42,by unfold mQ.c;rw[show fJ (es.take m) m=(bh (es.take m)).length from by unfold fJ;rw[f8 (by rw[aH];omega)]],⟨hgl.take m (by simp;omega),hc42,Rd.mono (H.fact (i:=0) Z) hlo (H.facts _ (ae (i:=0) Z)).2.1⟩,H.below⟩
/-- a replica, and where its log's bytes lie -/
structure fd where
 up:Bool
 A:Option Addr
 cap:Nat
 es:List cO
 s:Nat
 high:Int
 lo:Nat
 hi:Nat
def fd.c (r:fd):List Value:=[.bool r.up,.slice r.A (bh r.es).length r.cap,J (fJ r.es r.s:Nat),J r.high]
def gR:fi fd:=⟨fd.c,4,fun _=>rfl,by decide,fun a u hu=>by
 simp only[fd.c,ax,bO,or_false]at hu
 rcases hu with h|h|h|h<;>subst h<;>rfl⟩
def eT:fi Bool:=⟨fun n=>[.bool n],1,fun _=>rfl,by decide,fun a u hu=>by
 simp only[aq]at hu;subst hu;rfl⟩
abbrev fd.log (r:fd):mQ:=⟨r.A,r.cap,r.es,r.s⟩
abbrev BC (r:fd):cr:=dE dz r.lo r.hi r.A (bh r.es)
abbrev s0 (rs:List fd):List cr:=rs.map BC
structure RA where
 up:Bool
 es:List cO
 s:Nat
 high:Int
def fd.a (r:fd):RA:=⟨r.up,r.es,r.s,r.high⟩
structure gz where
 epoch:Int
 leader:Int
 isr:List Bool
 known:List Int
 reps:List RA
 few:Int
 base:Int
structure Pa where
 epoch:Int
 leader:Int
 isr:List Bool
 iA:Option Addr
 iC:Nat
 known:List Int
 kA:Option Addr
 kC:Nat
 reps:List fd
 rA:Option Addr
 rC:Nat
 few:Int
 base:Int
def Pa.c (p:Pa):List Value:=[J p.epoch,J p.leader,.slice p.iA p.isr.length p.iC,.slice p.kA p.known.length p.kC,.slice p.rA p.reps.length p.rC,J p.few,J p.base]
abbrev Pa.v (p:Pa):Value:=.agg p.c.toArray
def Pa.a (p:Pa):gz:=⟨p.epoch,p.leader,p.isr,p.known,p.reps.map fd.a,p.few,p.base⟩
structure Pa.rd (p:Pa) (lo hi:Nat) (w:World):Prop where
 isr:Rd eT lo hi p.iA p.isr w
 known:Rd bR lo hi p.kA p.known w
 reps:Rd gR lo hi p.rA p.reps w
 logs: ∀ r∈p.reps,Rd dz lo hi r.A (bh r.es) w
 iC:p.isr.length<=p.iC
 kC:p.known.length<=p.kC
 rC:p.reps.length<=p.rC
 cap: ∀ r∈p.reps,(bh r.es).length<=r.cap
 few:p.isr.length<=1000000/\p.known.length<=1000000/\p.reps.length<=1000000
theorem Pa.rd.st {p:Pa} {lo hi:Nat} {w w':World} (hk: ∀ k,lo<=k->k<hi->w'.heap[k]? =w.heap[k]?) (h:p.rd lo hi w):p.rd lo hi w':=
 ⟨h.isr.st hk,h.known.st hk,h.reps.st hk,fun r hr=>(h.logs r hr).st hk,h.iC,h.kC,h.rC,h.cap,h.few⟩
theorem Pa.rd.mono {p:Pa} {lo hi lo' hi':Nat} {w:World} (h:p.rd lo hi w) (hl:lo'<=lo) (hh:hi<=hi'):p.rd lo' hi' w:=
 ⟨h.isr.mono hl hh,h.known.mono hl hh,h.reps.mono hl hh,fun r hr=>(h.logs r hr).mono hl hh,h.iC,h.kC,h.rC,h.cap,h.few⟩
def Dc (lo hi:Nat) (p:Pa):cr:=⟨lo,hi,p.rd lo hi,fun _ _ hk h=>h.st hk⟩
structure RA.ok (r:RA):Prop where
 gl:GL r.es r.s
 high0:0<=r.high
 high1:r.high<=r.es.length
structure gz.ok (p:gz):Prop where
 n1:1<=p.reps.length
 n2:p.reps.length<=5
 isrl:p.isr.length=p.reps.length
 knownl:p.known.length=p.reps.length
 few1:1<=p.few
 few2:p.few<=p.reps.length
 ep0:0<=p.epoch
 ep1:p.epoch<=1073741824
 ld0: -1<=p.leader
 ld1:p.leader<p.reps.length
 base0:0<=p.base
 base1:p.base<=400
 some_:true∈p.isr
 lead: ∀ (l:Nat) (r:RA),p.leader=l->p.reps[l]? =some r->p.isr[l]? =some true/\r.up=true
 reps: ∀ r∈p.reps,r.ok
 known: ∀ n∈p.known,0<=n/\n<=400
theorem Hp.startPa {p:Pa} {w:World} (h:p.rd 0 w.heap.size w):Hp w w [] [Dc 0 w.heap.size p,dE eT 0 w.heap.size p.iA p.isr,dE bR 0 w.heap.size p.kA p.known,dE gR 0 w.heap.size p.rA p.reps]:=
 ((((Hp.start w).learnOld (dE gR 0 w.heap.size p.rA p.reps) h.reps (ao _)).learnOld (dE bR 0 w.heap.size p.kA p.known) h.known (ao _)).learnOld (dE eT 0 w.heap.size p.iA p.isr) h.isr (ao _)).learnOld (Dc 0 w.heap.size p) h (ao _)
theorem Hp.pa {w0 w:World} {L:List (Nat×Obj)} {F:List cr} {lo hi:Nat} {p:Pa} (H:Hp w0 w L F) (i:Nat) (hF:F[i]? =some (Dc lo hi p)):p.rd 0 w.heap.size w:=
 Pa.rd.mono (H.fact hF) (bG _) (H.facts _ (ae hF)).2.1
theorem Pa.rd.nil (lo hi:Nat) (w:World):Pa.rd ⟨0,0,[],none,0,[],none,0,[],none,0,0,0⟩ lo hi w:=
 ⟨Rd.nil,Rd.nil,Rd.nil,fun r hr=>by simp at hr,by simp,by simp,by simp,fun r hr=>by simp at hr,by simp⟩
def zz:Pa:=⟨0,0,[],none,0,[],none,0,[],none,0,0,0⟩
def gB:gz:=⟨0,0,[],[],[],0,0⟩
def eo (w w2:World) (p:Pa):Prop:=p.rd w.heap.size w2.heap.size w2/\Below w.heap.size w w2
theorem eo.zero {w w2:World} (h:Below w.heap.size w w2):eo w w2 zz:=⟨Pa.rd.nil _ _ _,h⟩
structure Gg (w w2:World) (p:Pa) (g1 g2 g3:Nat) (c1 c2 c3:Array Value):Prop where
 i:p.iA=some ⟨g1,0,none⟩
 k:p.kA=some ⟨g2,0,none⟩
 r:p.rA=some ⟨g3,0,none⟩
 ri:dU eT p.isr p.iC c1
 rk:dU bR p.known p.kC c2
 rr:dU gR p.reps p.rC c3
 cap: ∀ r∈p.reps,(bh r.es).length<=r.cap
 los: ∀ r∈p.reps,w.heap.size<=r.lo
 few:p.isr.length<=1000000/\p.known.length<=1000000/\p.reps.length<=1000000
 hp:Hp w w2 [(g1,.cells c1 ji (0,0)),(g2,.cells c2 cY (0,0)),(g3,.cells c3 fM (0,0))] (s0 p.reps)
theorem Gg.new {w w2:World} {p:Pa} {g1 g2 g3:Nat} {c1 c2 c3:Array Value} (h:Gg w w2 p g1 g2 g3 c1 c2 c3):eo w w2 p:=by
 have H:=h.hp
 have e1:=H.ents _ (fC _)
 have e2:=H.ents _ (qC _ (fC _))
 have e3:=H.ents _ (qC _ (qC _ (fC _)))
 refine⟨⟨?_,?_,?_,fun r hr=> ?_,h.ri.le,h.rk.le,h.rr.le,h.cap,h.few⟩,H.below⟩
 rw[h.i];exact(h.ri.rd e1.1).mono e1.2 (cd e1.1)
 rw[h.k];exact(h.rk.rd e2.1).mono e2.2 (cd e2.1)
 rw[h.r];exact(h.rr.rd e3.1).mono e3.2 (cd e3.1)
 obtain⟨f1,f2,-⟩:=H.facts (BC r) (bL hr)
 exact Rd.mono f1 (h.los r hr) f2
theorem B5 (es:List Bool) (A:Option Addr) (c:Nat) (w:World) (hr:Rd eT 0 w.heap.size A es w) (hb:es.length*1<=140737488355328):
  db aa qw [.slice A es.length c] w fun v w2=> ∃ A' c' L',v=.slice A' es.length c'/\es.length<=c'/\c'<=maxLen/\fW eT (.slice A' es.length c') ji es L'/\Hp w w2 L' []:=by
 refine aD p9 Z Z ?_
 have H:=Hp.startRd hr
 refine W<|Zr<|G (Ws Z)<|U<|W<|W<|Zr<|G (Ys Z) ?_
 refine wm (pq xR Z) Z Z Z (fun h4=> ?_) (fun h4=> ?_)
 refine U<|ZT Z<|W<|Zr<|G (Ws Z)<|U<|Zt ?_
 have he:es=[]:=by
  cases es with
  |nil=>rfl
  |cons e es=>obtain⟨b,o,hA,_⟩:=hr (by simp);subst hA;cases h4
 subst he
 exact cy Z Z ⟨none,0,[],rfl,by simp,by decide,fW.nil,H.forget (by simp) (by simp)⟩
 refine U<|ZF Z<|Zk<|W<|Zr<|Nr H d7 Z fun w1 b5 H=>G (Ys Z)<|vc (Y:=eT) LY (K:=[]) (L:=[(b5,_)]) (M:=[]) H (rF.lit (by decide) (by rfl)) (es:=[]) (news:=es) Z Z Z (Rd.src (H.fact (i:=0) Z)) (by simpa using hb) Z ?_
 intro A3 c3 w3 L3 h3a h3b ho3 H
 refine G (Ws Z)<|U<|Zt ?_
 exact cy Z Z ⟨A3,c3,L3,rfl,h3a,h3b,ho3,H.forget (by simp) (by simp)⟩
theorem ye (es:List fd) (A:Option Addr) (c:Nat) (w:World) (hr:Rd gR 0 w.heap.size A es w) (hb:es.length*48<=140737488355328):
  db aa mW [.slice A es.length c] w fun v w2=> ∃ A' c' L',v=.slice A' es.length c'/\es.length<=c'/\c'<=maxLen/\fW gR (.slice A' es.length c') fM es L'/\Hp w w2 L' []:=by
 refine aD mE Z Z ?_
 have H:=Hp.startRd hr
 refine W<|Zr<|G (Ws Z)<|U<|W<|W<|Zr<|G (Ys Z) ?_
 refine wm (pq gY Z) Z Z Z (fun h4=> ?_) (fun h4=> ?_)
 refine U<|ZT Z<|W<|Zr<|G (Ws Z)<|U<|Zt ?_
 have he:es=[]:=by
  cases es with
  |nil=>rfl
  |cons e es=>obtain⟨b,o,hA,_⟩:=hr (by simp);subst hA;cases h4
 subst he
 exact cy Z Z ⟨none,0,[],rfl,by simp,by decide,fW.nil,H.forget (by simp) (by simp)⟩
 refine U<|ZF Z<|Zk<|W<|Zr<|Nr H bv Z fun w1 b5 H=>G (Ys Z)<|vc (Y:=gR) F8 (K:=[]) (L:=[(b5,_)]) (M:=[]) H (rF.lit (by decide) (by rfl)) (es:=[]) (news:=es) Z Z Z (Rd.src (H.fact (i:=0) Z)) (by simpa using hb) Z ?_
 intro A3 c3 w3 L3 h3a h3b ho3 H
 refine G (Ws Z)<|U<|Zt ?_
 exact cy Z Z ⟨A3,c3,L3,rfl,h3a,h3b,ho3,H.forget (by simp) (by simp)⟩
theorem BG (es:List Bool) (A:Option Addr) (c:Nat) (w:World) (hr:Rd eT 0 w.heap.size A es w) (hb:es.length<=1000000):
  db aa qv [.slice A es.length c,.bool true] w fun v w2=>(∃ n:Int,v=J n/\(0<=n↔true∈es))/\Below w.heap.size w w2:=by
 refine aD p7 Z Z ?_
 have H:=Hp.startRd hr
 refine W<|Zr<|G (Wi Z)<|U<|W<|W<|Zr<|G (Ys Z)<|G (bn xR Z)<|G (Yi Z)<|U<|Zb ?_
 refine cf (τ:=Nat) [4,5,8,9,10,11,12,13,14,15,16,17,18] (fun k=>[(8,J (k:Nat))]) (fun k w'=>k<=es.length/\(∀ j,j<k->es[j]? =some false)/\Hp w w' [] [dE eT 0 w.heap.size A es]) (fun k=>es.length-k) 0 ⟨by omega,by intro j hj;omega,H⟩ (dI Z) ?_
 rintro k ρ1 w1 ⟨hk,hno,H⟩
 show CW _ _ _ _ (dA (gC _ _ ρ1) [(8,J (k:Nat))]) w1
 refine W<|Zr ?_
 refine cU (cH Z Z) Z Z Z (fun h9=> ?_) (fun h9=> ?_)
 refine U<|W<|ZT Z<|Zk<|W<|Zb<|W<|Zr<|G (Yi Z)<|G (Wi Z)<|U<|W<|Zr<|G (Yb Z)<|G (Ys Z)<|G (Yi Z)<|qu H 0 Z d7 Z Z I I Z fun b2 o2 x2 e2=>G (aU dQ Z (e2.cl 0 _ Z))<|G (Eo wy Z Z) ?_
 refine mw 16 Z (fun h16=> ?_) (fun h16=> ?_)
 refine U<|ZT Z<|W<|Zr<|G (Yi Z)<|G (Wi Z)<|U<|Zt ?_
 exact cy Z Z ⟨⟨_,rfl,⟨fun _=>by have:=ae e2.at_;simp at h16;rwa[h16]at this,fun _=>by omega⟩⟩,H.below⟩
 refine U<|ZF Z<|Zk<|Zr<|G (br Z Z I I)<|G (Yi Z)<|U ?_
 refine⟨k+1,⟨by omega,fun j hj=> ?_,H⟩,dI Z,Qg,by show es.length- (k+1)<es.length-k;omega⟩
 by_cases hji:j<k
 exact hno j hji
 have:j=k:=by omega
 subst this;rw[e2.at_];simpa using h16
 refine U<|W<|ZF Z<|Zx<|W<|Zr<|G (Wi Z)<|U<|Zt ?_
 exact cy Z Z ⟨⟨-1,rfl,⟨fun h=>by omega,fun h=>by obtain⟨j,hj⟩:=aX.1 h;have:=hno j (by have:=(cF hj).1;omega);rw[hj]at this;cases this⟩⟩,H.below⟩
theorem rX (es:List Bool) (A:Option Addr) (c:Nat) (w:World) (hr:Rd eT 0 w.heap.size A es w) (hb:es.length<=1000000):
  db aa oV [.slice A es.length c,.bool true] w fun v w2=>v=.bool (decide (true∈es))/\Below w.heap.size w w2:=by
 refine aD ou Z Z ?_
 have H:=Hp.start w
 refine W<|Zr<|G (Wb Z)<|U<|W<|Zr<|G (Ys Z)<|G (Yb Z)<|bY qi (BG es _ _ _ hr hb) Z Z ?_
 rintro _ w1 ⟨⟨n,rfl,hn⟩,hb⟩;replace H:=H.later hb;clear hb
 refine G (ke Z Z)<|G (Wb Z)<|U<|Zt ?_
 exact cy (v:=.bool (decide (0<=n))) Z Z ⟨by rw[decide_eq_decide.2 hn],H.below⟩
theorem pU (p:Pa) (i:Nat) (r:fd) (w:World) (hR:Rd gR 0 w.heap.size p.rA p.reps w) (hr:p.reps[i]? =some r) (hl:r.log.ok w):db aa Fw [p.v,J (i:Nat)] w fun v w2=>v=.tuple #[J (r.es.length:Nat),J (r.s:Nat)]/\Below w.heap.size w w2:=by
 refine aD DX Z Z ?_
 obtain⟨ep,ld,isr,iA,iC,kn,kA,kC,reps,rA,rC,fw,bs⟩:=p
 dsimp only at hR hr
 have H:=Hp.startRd hR
 have hil:=(cF hr).1
 show CW _ _ _ _ (args [.agg #[J (ep),J (ld),.slice iA isr.length iC,.slice kA kn.length kC,.slice rA reps.length rC,J (fw),J (bs)],J (((i:Nat):Int))]) w
 refine W<|Zr<|fT H Z Z fun w1 b2 H=>G (Wi Z)<|G (Wi Z)<|U<|W<|Zr<|G (Zf cT Z)<|G (Zd bU H 0 Z Z Z)<|G (Yi Z)<|qu H 0 Z bv Z Z I I Z fun b2 o2 x2 e2=> ?_
 obtain rfl:x2=r:=by have:=e2.at_;rw[hr]at this;exact(bj this).symm
 refine G (Zf dx Z)<|G (jT (xs:=[.slice x2.A ((bh x2.es).length) x2.cap,J (((fJ x2.es x2.s:Nat):Int))]) eR Z Z (Hr e2.cl 1 Z))<|bY gx (g7 x2.A x2.cap x2.es x2.s _ ⟨hl.gl,hl.cap,hl.rd.below H.below|>.mono (ao _) H.size⟩) Z Z ?_
 rintro _ w3 ⟨Aen,cen,rfl,hren,hcen,hben⟩;replace H:=H.learnRd hben hren;clear hren hben
 refine G (Yu Z)<|G (Xs Z Z)<|G (Xi Z Z)<|G (Xi Z Z)<|G (Ws Z)<|G (Wi Z)<|G (Wi Z)<|U<|W<|Zr<|G (Ys Z)<|G (bn ez Z)<|G (Yi Z)<|G (Wi Z)<|G (Wi Z)<|U<|Zt ?_
 exact mf Z Z Z ⟨rfl,H.below⟩
theorem Pa.facts {p:Pa} (h:p.a.ok):1<=p.reps.length/\p.reps.length<=5/\p.isr.length=p.reps.length/\p.known.length=p.reps.length/\1<=p.few/\p.few<=p.reps.length/\0<=p.epoch/\p.epoch<=1073741824/\ -1<=p.leader/\p.leader<p.reps.length/\0<=p.base/\p.base<=400/\true∈p.isr:=by
 have h1:=h.n1;have h2:=h.n2;have h3:=h.isrl;have h4:=h.knownl;have h6:=h.few2;have h7:=h.ld1
 simp only[Pa.a,bA]at h1 h2 h3 h4 h6 h7
 exact⟨h1,h2,h3,h4,h.few1,h6,h.ep0,h.ep1,h.ld0,h7,h.base0,h.base1,h.some_⟩
theorem Pa.repOk {p:Pa} (h:p.a.ok) {i:Nat} {r:fd} (hr:p.reps[i]? =some r):GL r.es r.s/\0<=r.high/\r.high<=r.es.length:=by
 have h1:=h.reps r.a (bL (ae hr))
 exact⟨h1.gl,h1.high0,h1.high1⟩
theorem Pa.leads {p:Pa} (h:p.a.ok) {l:Nat} {r:fd} (hl:p.leader=l) (hr:p.reps[l]? =some r):p.isr[l]? =some true/\r.up=true:=
 h.lead l r.a hl (by simp[Pa.a,hr])
theorem Pa.log {p:Pa} {w:World} (hd:p.rd 0 w.heap.size w) (h:p.a.ok) {i:Nat} {r:fd} (hr:p.reps[i]? =some r):r.log.ok w:=
 ⟨(Pa.repOk h hr).1,hd.cap r (ae hr),hd.logs r (ae hr)⟩
theorem rL (p:Pa) (w:World) (h:p.rd 0 w.heap.size w) (hok:p.a.ok):db aa DK [p.v] w fun v w2=>v=J 0/\Below w.heap.size w w2:=by
 refine aD BV Z Z ?_
 obtain⟨hn1,hn2,hil,hkl,hf1,hf2,he0,he1,hl0,hl1,hb0,hb1,hsm⟩:=Pa.facts hok
 have hkn:=hok.known
 have hiC:=h.iC
 have hkC:=h.kC
 have hrC:=h.rC
 have hfew:=h.few
 have H:=Hp.startPa h
 obtain⟨ep,ld,isr,iA,iC,kn,kA,kC,reps,rA,rC,fw,bs⟩:=p
 simp only[Pa.a]at hkn
 dsimp only at H hn1 hn2 hil hkl hf1 hf2 he0 he1 hl0 hl1 hb0 hb1 hsm hiC hkC hrC hfew
 show CW _ _ _ _ (args [.agg #[J (ep),J (ld),.slice iA isr.length iC,.slice kA kn.length kC,.slice rA reps.length rC,J (fw),J (bs)]]) w
 refine W<|Zr<|fT H Z Z fun w1 b1 H=>G (Wi Z)<|U<|W<|Zr<|G (Zf cT Z)<|G (Zd bU H 0 Z Z Z)<|G (bn gY Z)<|G (Wi Z)<|U<|W<|W<|Zr<|G (Yi Z)<|G (cZ Z Z I)<|G (Yb Z)<|ZG<|G (Yi Z)<|ZG<|G (er Z Z I)<|G (N Z Z)<|G (Yb Z)<|ZG<|G (Zf f6 Z)<|ZG<|G (Zd gF H 0 Z Z Z)<|ZG<|G (bn xR Z)<|ZG<|G (Yi Z)<|ZG<|G (bW Z Z I)<|G (N Z Z)<|G (Yb Z)<|ZG<|G (Zf f4 Z)<|ZG<|G (Zd cn H 0 Z Z Z) ?_
 refine ZG<|G (bn eF Z)<|ZG<|G (Yi Z)<|ZG<|G (bW Z Z I)<|G (N Z Z)<|G (Yb Z)<|ZG<|G (Zf yc Z)<|ZG<|G (Zd aj H 0 Z Z Z)<|ZG<|G (cZ Z Z I)<|G (N Z Z)<|G (Yb Z)<|ZG<|G (Zf yc Z)<|ZG<|G (Zd aj H 0 Z Z Z)<|ZG<|G (Yi Z)<|ZG<|G (er Z Z I)<|G (N Z Z)<|G (Yb Z)<|ZG<|G (Zf pP Z)<|ZG<|G (Zd aj H 0 Z Z Z)<|ZG<|G (cZ Z Z I)<|G (N Z Z)<|G (Yb Z)<|ZG<|G (Zf pP Z)<|ZG<|G (Zd aj H 0 Z Z Z)<|ZG<|G (er Z Z I) ?_
 refine G (N Z Z)<|G (Yb Z)<|ZG<|G (Zf dq Z)<|ZG<|G (Zd aj H 0 Z Z Z)<|ZG<|G (cZ Z Z I)<|G (N Z Z)<|G (Yb Z)<|ZG<|G (Zf dq Z)<|ZG<|G (Zd aj H 0 Z Z Z)<|ZG<|G (Yi Z)<|ZG<|G (rj Z Z I)<|G (N Z Z)<|G (Yb Z)<|ZG<|G (Zf uL Z)<|ZG<|G (Zd aj H 0 Z Z Z)<|ZG<|G (cZ Z Z I)<|G (N Z Z)<|G (Yb Z)<|ZG<|G (Zf uL Z)<|ZG<|G (Zd aj H 0 Z Z Z)<|ZG<|G (er Z Z I)<|G (N Z Z)<|U<|ZF Z<|Zk<|W<|W ?_
 refine Zr<|G (Zf f6 Z)<|G (Zd gF H 0 Z Z Z)<|bY jm (rX isr iA iC _ (H.rd0 1 Z) I) Z Z ?_
 rintro _ w2 ⟨rfl,hb⟩;replace H:=H.later hb;clear hb
 rw[decide_eq_true hsm]
 refine G (dF Z)<|G (Yb Z)<|ZG<|G (Zf dq Z)<|ZG<|G (Zd aj H 0 Z Z Z)<|ZG ?_
 refine cU (ke Z Z) Z Z Z (fun h80=> ?_) (fun h80=> ?_)
 obtain⟨l,hld⟩: ∃ l:Nat,ld=l:=⟨ld.toNat,by omega⟩
 refine ZG<|G (Yb Z)<|ZG<|G (Zf f6 Z)<|ZG<|G (Zd gF H 0 Z Z Z)<|ZG<|G (Zf dq Z)<|ZG<|G (Zd aj H 0 Z Z Z)<|ZG<|qu (k:=l) H 1 Z d7 Z (congrArg (Value.int .i64) hld) I I Z fun b3 o3 x3 e3=>ZG ?_
 obtain⟨hI,-⟩:=Pa.leads hok (l:=l) hld (show(Pa.reps ⟨ep,ld,isr,iA,iC,kn,kA,kC,reps,rA,rC,fw,bs⟩)[l]? =_ from ah (by show l<reps.length;omega))
 obtain rfl:x3=true:=by have:=e3.at_;rw[show isr[l]? =_ from hI]at this;exact(bj this).symm
 refine G (aU (v:=.bool true) dQ Z (e3.cl 0 _ Z))<|ZG<|G (dF Z)<|ZG<|G (Yb Z)<|ZG<|G (Zf cT Z)<|ZG<|G (Zd bU H 0 Z Z Z)<|ZG<|G (Zf dq Z)<|ZG<|G (Zd aj H 0 Z Z Z)<|ZG<|qu (k:=l) H 3 Z bv Z (congrArg (Value.int .i64) hld) I I Z fun b4 o4 x4 e4=>ZG<|G (Zf fq Z)<|ZG ?_
 obtain⟨-,hU⟩:=Pa.leads hok (l:=l) hld (show(Pa.reps ⟨ep,ld,isr,iA,iC,kn,kA,kC,reps,rA,rC,fw,bs⟩)[l]? =_ from e4.at_)
 refine G (aU (v:=.bool true) dQ Z (e4.cl 0 _ (by rw[<-hU];rfl)))<|ZG<|G (dF Z)<|ZG<|G (N Z Z)<|ZG<|G (Kt Z Z)<|G (N Z Z)<|U<|ZF Z<|Zk<|W<|W<|Zr<|G (Zf cT Z)<|G (Zd bU H 0 Z Z Z)<|G (bn gY Z)<|G (Yi Z)<|U<|Zb ?_
 refine cf (τ:=Nat) [2,4,5,6,7,104,105,106,107,108,109,110,111,112,113,114,115,116,117,118,119,120,121,122,123,124,125,126,127,128,129,130,131,132,133,134,135,136,137,138,139,140,141,142,143,144,145,146] (fun k=>[(104,J (k:Nat))]) (fun k w'=>k<=reps.length/\Hp w w' [(b1,.cells #[J (ep),J (ld),.slice iA isr.length iC,.slice kA kn.length kC,.slice rA reps.length rC,J (fw),J (bs)] bE (0,0))] [Dc 0 w.heap.size ⟨ep,ld,isr,iA,iC,kn,kA,kC,reps,rA,rC,fw,bs⟩,dE eT 0 w.heap.size iA isr,dE bR 0 w.heap.size kA kn,dE gR 0 w.heap.size rA reps]) (fun k=>reps.length-k) 0 ⟨by omega,H⟩ (dI Z) ?_
 rintro k ρ1 w5 ⟨hk,H⟩
 show CW _ _ _ _ (dA (gC _ _ ρ1) [(104,J (k:Nat))]) w5
 refine W<|Zr ?_
 refine cU (cH Z Z) Z Z Z (fun h105=> ?_) (fun h105=> ?_)
 refine U<|W<|ZT Z<|Zk<|W<|Zb<|W<|Zr<|G (Yi Z)<|qu H 3 Z bv Z Z I I Z fun b6 o6 x6 e6=>G (jT (xs:=fd.c x6) oH Z Z e6.cl)<|eE H pO Z fun w7 b5 H=>G (Wi Z)<|bo H 0 (#[.bool (x6.up),.slice x6.A ((bh x6.es).length) x6.cap,J (((fJ x6.es x6.s:Nat):Int)),J (x6.high)]) lO Z Z Z Z Z N N fun w8 H=>U<|W<|Zr<|G (Zw aG H 1 Z Z Z)<|G (Yi Z)<|bY jy (pU ⟨ep,ld,isr,iA,iC,kn,kA,kC,reps,rA,rC,fw,bs⟩ k x6 _ (H.rd0 3 Z) e6.at_ (Pa.log (Hp.pa H 0 Z) hok (i:=k) e6.at_)) Z Z ?_
 rintro _ w9 ⟨rfl,hb⟩;replace H:=H.later hb;clear hb
 refine G (Yu Z)<|G (Xi Z Z)<|G (Xi Z Z)<|G (Wi Z)<|G (Wi Z)<|U<|W<|Zr<|G (Zf dx Z)<|G (jS 1 [.slice x6.A ((bh x6.es).length) x6.cap,J (((fJ x6.es x6.s:Nat):Int))] eR Z Z (H.ent (i:=0) Z) Z)<|bY mK (qG x6.A x6.cap x6.es x6.s _ (Pa.log (Hp.pa H 0 Z) hok (i:=k) e6.at_)) Z Z ?_
 rintro _ w10 ⟨rfl,hb⟩;replace H:=H.later hb;clear hb
 refine G (bW Z Z Z)<|G (Yb Z)<|ZG<|G (Zf dV Z)<|ZG<|G (Zd aj H 0 Z Z Z)<|ZG<|G (cZ Z Z (by have:=(Pa.repOk hok (show(Pa.reps ⟨ep,ld,isr,iA,iC,kn,kA,kC,reps,rA,rC,fw,bs⟩)[k]? =_ from e6.at_)).2.1;omega))<|G (N Z Z)<|G (Yb Z)<|ZG<|G (Zf dV Z)<|ZG<|G (Zd aj H 0 Z Z Z)<|ZG<|G (Yi Z)<|ZG<|G (er Z Z (by have:=(Pa.repOk hok (show(Pa.reps ⟨ep,ld,isr,iA,iC,kn,kA,kC,reps,rA,rC,fw,bs⟩)[k]? =_ from e6.at_)).2.2;omega))<|G (N Z Z)<|G (Yb Z)<|ZG<|G (Zf f4 Z)<|ZG<|G (Zd cn H 1 Z Z Z)<|ZG<|G (Yi Z)<|ZG<|qu H 2 Z ba Z Z I I Z fun b11 o11 x11 e11=>ZG<|G (aU aj Z (e11.cl 0 _ Z))<|ZG<|G (cZ Z Z (by have:=(hkn _ (ae e11.at_)).1;omega))<|G (N Z Z)<|G (Yb Z)<|ZG<|G (Zf f4 Z)<|ZG<|G (Zd cn H 1 Z Z Z)<|ZG<|G (Yi Z) ?_
 refine ZG<|qu H 2 Z ba Z Z I I Z fun b12 o12 x12 e12=>ZG<|G (aU aj Z (e12.cl 0 _ Z))<|ZG<|G (er Z Z (by have:=(hkn _ (ae e12.at_)).2;omega))<|G (N Z Z)<|U<|ZF Z<|Zk<|Zr<|G (br Z Z I I)<|G (Yi Z)<|U ?_
 refine⟨k+1,⟨by omega,H.forget (.cons _ (ap _)) (fun _ h=>h)⟩,dI Z,Qg,by show reps.length- (k+1)<reps.length-k;omega⟩
 refine U<|W<|ZF Z<|Zx<|W<|Zr<|G (Wi Z)<|U<|Zt ?_
 exact cy Z Z ⟨rfl,H.below⟩
 refine ZG<|G (Yb Z)<|ZN<|ZN<|ZN<|ZN<|ZN<|ZN<|ZN<|ZN<|ZN<|ZN<|ZN<|ZN<|ZN<|ZN<|ZN<|ZN<|ZN<|ZG<|G (N Z Z)<|G (N Z Z)<|U<|ZF Z<|Zk<|W<|W<|Zr<|G (Zf cT Z)<|G (Zd bU H 0 Z Z Z)<|G (bn gY Z)<|G (Yi Z)<|U<|Zb ?_
 refine cf (τ:=Nat) [2,4,5,6,7,104,105,106,107,108,109,110,111,112,113,114,115,116,117,118,119,120,121,122,123,124,125,126,127,128,129,130,131,132,133,134,135,136,137,138,139,140,141,142,143,144,145,146] (fun k=>[(104,J (k:Nat))]) (fun k w'=>k<=reps.length/\Hp w w' [(b1,.cells #[J (ep),J (ld),.slice iA isr.length iC,.slice kA kn.length kC,.slice rA reps.length rC,J (fw),J (bs)] bE (0,0))] [Dc 0 w.heap.size ⟨ep,ld,isr,iA,iC,kn,kA,kC,reps,rA,rC,fw,bs⟩,dE eT 0 w.heap.size iA isr,dE bR 0 w.heap.size kA kn,dE gR 0 w.heap.size rA reps]) (fun k=>reps.length-k) 0 ⟨by omega,H⟩ (dI Z) ?_
 rintro k ρ1 w13 ⟨hk,H⟩
 show CW _ _ _ _ (dA (gC _ _ ρ1) [(104,J (k:Nat))]) w13
 refine W<|Zr ?_
 refine cU (cH Z Z) Z Z Z (fun h105=> ?_) (fun h105=> ?_)
 refine U<|W<|ZT Z<|Zk<|W<|Zb<|W<|Zr<|G (Yi Z)<|qu H 3 Z bv Z Z I I Z fun b14 o14 x14 e14=>G (jT (xs:=fd.c x14) oH Z Z e14.cl)<|eE H pO Z fun w15 b5 H=>G (Wi Z)<|bo H 0 (#[.bool (x14.up),.slice x14.A ((bh x14.es).length) x14.cap,J (((fJ x14.es x14.s:Nat):Int)),J (x14.high)]) lO Z Z Z Z Z N N fun w16 H=>U<|W<|Zr<|G (Zw aG H 1 Z Z Z)<|G (Yi Z)<|bY jy (pU ⟨ep,ld,isr,iA,iC,kn,kA,kC,reps,rA,rC,fw,bs⟩ k x14 _ (H.rd0 3 Z) e14.at_ (Pa.log (Hp.pa H 0 Z) hok (i:=k) e14.at_)) Z Z ?_
 rintro _ w17 ⟨rfl,hb⟩;replace H:=H.later hb;clear hb
 refine G (Yu Z)<|G (Xi Z Z)<|G (Xi Z Z)<|G (Wi Z)<|G (Wi Z)<|U<|W<|Zr<|G (Zf dx Z)<|G (jS 1 [.slice x14.A ((bh x14.es).length) x14.cap,J (((fJ x14.es x14.s:Nat):Int))] eR Z Z (H.ent (i:=0) Z) Z)<|bY mK (qG x14.A x14.cap x14.es x14.s _ (Pa.log (Hp.pa H 0 Z) hok (i:=k) e14.at_)) Z Z ?_
 rintro _ w18 ⟨rfl,hb⟩;replace H:=H.later hb;clear hb
 refine G (bW Z Z Z)<|G (Yb Z)<|ZG<|G (Zf dV Z)<|ZG<|G (Zd aj H 0 Z Z Z)<|ZG<|G (cZ Z Z (by have:=(Pa.repOk hok (show(Pa.reps ⟨ep,ld,isr,iA,iC,kn,kA,kC,reps,rA,rC,fw,bs⟩)[k]? =_ from e14.at_)).2.1;omega))<|G (N Z Z)<|G (Yb Z)<|ZG<|G (Zf dV Z)<|ZG<|G (Zd aj H 0 Z Z Z)<|ZG<|G (Yi Z)<|ZG<|G (er Z Z (by have:=(Pa.repOk hok (show(Pa.reps ⟨ep,ld,isr,iA,iC,kn,kA,kC,reps,rA,rC,fw,bs⟩)[k]? =_ from e14.at_)).2.2;omega))<|G (N Z Z)<|G (Yb Z)<|ZG<|G (Zf f4 Z)<|ZG<|G (Zd cn H 1 Z Z Z)<|ZG<|G (Yi Z)<|ZG<|qu H 2 Z ba Z Z I I Z fun b19 o19 x19 e19=>ZG<|G (aU aj Z (e19.cl 0 _ Z))<|ZG<|G (cZ Z Z (by have:=(hkn _ (ae e19.at_)).1;omega))<|G (N Z Z)<|G (Yb Z)<|ZG<|G (Zf f4 Z)<|ZG<|G (Zd cn H 1 Z Z Z)<|ZG<|G (Yi Z) ?_
 refine ZG<|qu H 2 Z ba Z Z I I Z fun b20 o20 x20 e20=>ZG<|G (aU aj Z (e20.cl 0 _ Z))<|ZG<|G (er Z Z (by have:=(hkn _ (ae e20.at_)).2;omega))<|G (N Z Z)<|U<|ZF Z<|Zk<|Zr<|G (br Z Z I I)<|G (Yi Z)<|U ?_
 refine⟨k+1,⟨by omega,H.forget (.cons _ (ap _)) (fun _ h=>h)⟩,dI Z,Qg,by show reps.length- (k+1)<reps.length-k;omega⟩
 refine U<|W<|ZF Z<|Zx<|W<|Zr<|G (Wi Z)<|U<|Zt ?_
 exact cy Z Z ⟨rfl,H.below⟩
theorem z7 {f:cr} {l:List fd} {x:fd} {F:List cr} (h:f∈F++s0 (l++[x])):f∈BC x::(F++s0 l):=by
 simp only[s0,bk,eI,mn,ar,aq]at h
 simp only[ax,ar,s0]
 rcases h with h|h|h
 exact .inr (.inl h)
 exact .inr (.inr h)
 exact .inl h
theorem zX (p:Pa) (w:World) (h:p.rd 0 w.heap.size w) (hok:p.a.ok):db aa yJ [p.v] w fun v w2=> ∃ (p':Pa) (g1 g2 g3:Nat) (c1 c2 c3:Array Value),v=p'.v/\p'.a=p.a/\Gg w w2 p' g1 g2 g3 c1 c2 c3:=by
 refine aD D1 Z Z ?_
 obtain⟨hn1,hn2,hil,hkl,hf1,hf2,he0,he1,hl0,hl1,hb0,hb1,hsm⟩:=Pa.facts hok
 have hkn:=hok.known
 have hiC:=h.iC
 have hkC:=h.kC
 have hrC:=h.rC
 have hfew:=h.few
 have H:=Hp.startPa h
 obtain⟨ep,ld,isr,iA,iC,kn,kA,kC,reps,rA,rC,fw,bs⟩:=p
 simp only[Pa.a]at hkn
 dsimp only at H hn1 hn2 hil hkl hf1 hf2 he0 he1 hl0 hl1 hb0 hb1 hsm hiC hkC hrC hfew
 show CW _ _ _ _ (args [.agg #[J (ep),J (ld),.slice iA isr.length iC,.slice kA kn.length kC,.slice rA reps.length rC,J (fw),J (bs)]]) w
 refine W<|Zr<|fT H Z Z fun w1 b1 H=>eE H bp Z fun w2 b2 H=>U<|W ?_
 refine bz bX [0,1,3,4,6,7,2,9,5,8] [10,11,12,13,14] [2,5,8] [0,3,6,9] (sp [(2,Sp.orow w2.heap.size eT ji isr),(5,Sp.orow w2.heap.size bR cY kn),(8,Sp.orow w2.heap.size gR fM reps)]) N N N N Nq (cG _) ?_
 refine aw Z Z Z Z Z (fun w' hw'=>Zf f6 Z)<|aw Z Z Z Z Z (fun w' hw'=>aU gF Z (aB ((H.later hw').ent (i:=1) Z) Z))<|aw Z Z Z Z Z (fun w' hw'=>Zf f4 Z)<|aw Z Z Z Z Z (fun w' hw'=>aU cn Z (aB ((H.later hw').ent (i:=1) Z) Z))<|aw Z Z Z Z Z (fun w' hw'=>Zf cT Z)<|aw Z Z Z Z Z (fun w' hw'=>aU bU Z (aB ((H.later hw').ent (i:=1) Z) Z))<|yj qj Z Z Z Z Z (fun w' hw'=>hw'.size) (fun w' hw'=>B5 isr _ _ w' ((H.later hw').rd0 1 Z) I) Z fun A6 c6 hc6=>aw Z Z Z Z Z (fun w' hw'=>Zf f6 Z)<|yj gf Z Z Z Z Z (fun w' hw'=>hw'.size) (fun w' hw'=>sT kn _ _ w' ((H.later hw').rd0 2 Z) I) Z fun A9 c9 hc9=>yj mJ Z Z Z Z Z (fun w' hw'=>hw'.size) (fun w' hw'=>ye reps _ _ w' ((H.later hw').rd0 3 Z) I) Z fun A12 c12 hc12=>aS ?_
 intro w3 hw' hF
 obtain⟨hF,Aq,cq,L12,eq,hcq,hm12,ho12,he12,hn12⟩:=hF;cases eq;clear hcq
 obtain⟨hF,Aq,cq,L9,eq,hcq,hm9,ho9,he9,hn9⟩:=hF;cases eq;clear hcq
 obtain⟨hF,Aq,cq,L6,eq,hcq,hm6,ho6,he6,hn6⟩:=hF;cases eq;clear hcq
 obtain⟨g1,cur1,rfl,rfl,row1⟩:=ho6.row I
 obtain⟨g2,cur2,rfl,rfl,row2⟩:=ho9.row I
 obtain⟨g3,cur3,rfl,rfl,row3⟩:=ho12.row I
 have e6:=he6 _ (dX _)
 have e9:=he9 _ (dX _)
 have e12:=he12 _ (dX _)
 replace H:=H.adopt3 hw' e6 e9 e12 (rY e6.1 e9.1 Z) (rY e6.1 e12.1 Z) (rY e9.1 e12.1 Z)
 clear hw' hF
 refine bo H 4 (#[J (ep),J (ld),.slice (Qd g1) isr.length c6,.slice kA kn.length kC,.slice rA reps.length rC,J (fw),J (bs)]) IG Z Z Z Z Z N N fun w4 H=>G (Zf f4 Z)<|bo H 4 (#[J (ep),J (ld),.slice (Qd g1) isr.length c6,.slice (Qd g2) kn.length c9,.slice rA reps.length rC,J (fw),J (bs)]) jC Z Z Z Z Z N N fun w5 H=>G (Zf cT Z)<|bo H 4 (#[J (ep),J (ld),.slice (Qd g1) isr.length c6,.slice (Qd g2) kn.length c9,.slice (Qd g3) reps.length c12,J (fw),J (bs)]) Dq Z Z Z Z Z N N fun w6 H=>U<|W<|W<|Zr<|G (Zf cT Z)<|G (Zd bU H 4 Z Z Z)<|G (bn gY Z)<|G (Yi Z)<|U<|Zb ?_
 refine cf (τ:=Nat×List fd×Array Value) [3,19,20,21,22,23,24,25,26,27,28,29,30,31,32,33,34,35,36] (fun(k,_)=>[(19,J (k:Nat))]) (fun(k,rs,c3) w'=>k<=rs.length/\rs.length=reps.length/\rs.map fd.a=reps.map fd.a/\rs.drop k=reps.drop k/\(∀ r∈rs.take k,(bh r.es).length<=r.cap/\w.heap.size<=r.lo)/\dU gR rs c12 c3/\Hp w w' [(g1,.cells cur1 ji (0,0)),(g2,.cells cur2 cY (0,0)),(g3,.cells c3 fM (0,0)),(b2,.cells #[J 0,J 0,.slice none 0 0,.slice none 0 0,.slice none 0 0,J 0,J 0] bE (0,0)),(b1,.cells #[J ep,J ld,.slice (Qd g1) isr.length c6,.slice (Qd g2) kn.length c9,.slice (Qd g3) reps.length c12,J fw,J bs] bE (0,0))] ([Dc 0 w.heap.size ⟨ep,ld,isr,iA,iC,kn,kA,kC,reps,rA,rC,fw,bs⟩,dE eT 0 w.heap.size iA isr,dE bR 0 w.heap.size kA kn,dE gR 0 w.heap.size rA reps]++s0 (rs.take k))) (fun(k,rs,_)=>rs.length-k) (0,reps,cur3) ⟨by omega,rfl,rfl,rfl,by simp,row3,H⟩ (dI Z) ?_
 rintro⟨k,rs,c3⟩ ρ1 w7 ⟨hk,hrl,hma,hdr,hcp,row,H⟩
 show CW _ _ _ _ (dA (gC _ _ ρ1) [(19,J (k:Nat))]) w7
 refine W<|Zr ?_
 refine cU (cH Z Z) Z Z Z (fun h20=> ?_) (fun h20=> ?_)
 refine U<|W<|ZT Z<|Zk<|W<|Zb<|W ?_
 obtain⟨x,hx⟩: ∃ x,rs[k]? =some x:=⟨_,ah I⟩
 have hxt:=zp hdr hx
 have hsz:=(Pa.repOk hok (show(Pa.reps ⟨ep,ld,isr,iA,iC,kn,kA,kC,reps,rA,rC,fw,bs⟩)[k]? =_ from hxt)).1.sz
 refine Zr<|G (Yi Z)<|G (Wi Z)<|U ?_
 have hlo:=H.size
 refine bz bX [0,1,2,3,4,5,6,7,8,9,10,11,12,13] [14] [10] [0,2,3,5,6,7,8,11,12,13] (sp [(10,Sp.row w7.heap.size dz (bh x.es))]) N N N N Nq (cG _) ?_
 refine aw Z Z Z Z Z (fun w' hw'=>Zf cT Z)<|aw Z Z Z Z Z (fun w' hw'=>aU bU Z (aB ((H.later hw').ent (i:=4) Z) Z))<|aw Z Z Z Z Z (fun w' hw'=>Yi Z)<|aw Z Z Z Z Z (fun w' hw'=>Zf cT Z)<|aw Z Z Z Z Z (fun w' hw'=>aU bU Z (aB ((H.later hw').ent (i:=4) Z) Z))<|aw Z Z Z Z Z (fun w' hw'=>Yi Z)<|aw Z Z Z Z Z (fun w' hw'=>cD bv Z Z (by first|omega|(simp only[ab];omega)))<|aw Z Z Z Z Z (fun w' hw'=>Zf dx Z)<|aw Z Z Z Z Z (fun w' hw'=>Zf gu Z)<|aw Z Z Z Z Z (fun w' hw'=>bQ d5 row hx 1 Z ((H.later hw').ent (i:=2) Z) Z)<|C3 fc Z Z Z Z Z (fun w' hw'=>hw'.size) (fun w' hw'=>ln (bh x.es) _ _ w' ((Hp.pa (H.later hw') 0 Z).logs x (ae hxt)) I) Z fun A32 c32 hc32=>aw Z Z Z Z Z (fun w' hw'=>cD bv Z Z (by first|omega|(simp only[ab];omega)))<|aw Z Z Z Z Z (fun w' hw'=>Zf dx Z)<|aw Z Z Z Z Z (fun w' hw'=>Zf gu Z)<|aS ?_
 intro w8 hw' hF
 obtain⟨hF,Aq,cq,eq,hcq,hrw32⟩:=hF;cases eq;clear hcq
 replace H:=H.learnRd hw' hrw32
 clear hw' hF
 refine kR H 2 ({x with A:=A32,cap:=c32,lo:=w7.heap.size,hi:=w8.heap.size}) Cy row hx 1 Z Z Z Z Z Z N fun w10 cur9 row9 H=>U<|Zr<|G (br Z Z I I)<|G (Yi Z)<|U ?_
 obtain⟨z1,z2,z3⟩:=NM (x':={x with A:=A32,cap:=c32,lo:=w7.heap.size,hi:=w8.heap.size}) hx hma hdr Z
 refine⟨(k+1,rs.set k {x with A:=A32,cap:=c32,lo:=w7.heap.size,hi:=w8.heap.size},cur9),⟨by rw[ab];omega,by rw[ab];exact hrl,z1,z2,?_,row9,H.forget (ap _) (fun f hf=>by rw[z3]at hf;exact z7 hf)⟩,dI Z,Qg,by show(rs.set k _).length- (k+1)<rs.length-k;rw[ab];omega⟩
 rw[z3];intro t ht;rcases ar.1 ht with ht|ht;exact hcp t ht;rw[aq.1 ht];exact⟨hc32,hlo⟩
 refine U<|W<|ZF Z<|Zx<|W<|Zr<|G (Zw aG H 4 Z Z Z)<|bo H 3 (#[J (ep),J (ld),.slice (Qd g1) isr.length c6,.slice (Qd g2) kn.length c9,.slice (Qd g3) reps.length c12,J (fw),J (bs)]) aK Z Z Z Z Z N N fun w11 H=>U<|Zt ?_
 have hke:k=rs.length:=by omega
 rw[hke,bJ]at H hcp
 exact eO (cs0:= #[J ep,J ld,.slice (Qd g1) isr.length c6,.slice (Qd g2) kn.length c9,.slice (Qd g3) reps.length c12,J fw,J bs]) Z aG Z (H.ent (i:=3) Z) Z ⟨⟨ep,ld,isr,some ⟨g1,0,none⟩,c6,kn,some ⟨g2,0,none⟩,c9,rs,some ⟨g3,0,none⟩,c12,fw,bs⟩,g1,g2,g3,cur1,cur2,c3,by unfold Pa.v Pa.c;dsimp only;rw[hrl],by unfold Pa.a;dsimp only;rw[hma],⟨rfl,rfl,rfl,row1,row2,row,fun r hr=>(hcp r hr).1,fun r hr=>(hcp r hr).2,by dsimp only;omega,H.forget (.cons_cons _ (.cons_cons _ (.cons_cons _ (vG _)))) (fun f hf=>ci _ hf)⟩⟩
/-- the least of what is known of those that keep up -/
def dt:List Bool->List Int->Int->Int
 |b::bs,n::ns,m=>dt bs ns (if b then min m n else m)
 |_,_,m=>m
theorem Ah {isr:List Bool} {kn:List Int} {k:Nat} {b:Bool} {n m:Int} (hb:isr[k]? =some b) (hn:kn[k]? =some n):dt (isr.drop k) (kn.drop k) m=dt (isr.drop (k+1)) (kn.drop (k+1)) (if b then min m n else m):=by
 rw[cN hb,cN hn]
 rfl
theorem Fb {w0 w:World} {L:List (Nat×Obj)} {F:List cr} {r:fd} (H:Hp w0 w L F) (hF:BC r∈F) (hg:GL r.es r.s) (hc:(bh r.es).length<=r.cap):r.log.ok w:=by
 obtain⟨h1,h2,-⟩:=H.facts (BC r) hF
 exact⟨hg,hc,Rd.mono h1 (bG _) h2⟩
theorem tI (p:Pa) (r:Nat) (w:World) (h:p.rd 0 w.heap.size w) (hok:p.a.ok) (hr:r<p.reps.length):db aa Jk [p.v,J (r:Nat)] w fun v w2=> ∃ (p':Pa) (g1 g2 g3:Nat) (c1 c2 c3:Array Value),v=.tuple #[p'.v,J 0]/\p'.a=p.a/\Gg w w2 p' g1 g2 g3 c1 c2 c3:=by
 refine aD Hg Z Z ?_
 obtain⟨hn1,hn2,hil,hkl,hf1,hf2,he0,he1,hl0,hl1,hb0,hb1,hsm⟩:=Pa.facts hok
 have hkn:=hok.known
 have hiC:=h.iC
 have hkC:=h.kC
 have hrC:=h.rC
 have hfew:=h.few
 have H:=Hp.startPa h
 obtain⟨ep,ld,isr,iA,iC,kn,kA,kC,reps,rA,rC,fw,bs⟩:=p
 simp only[Pa.a]at hkn
 dsimp only at H hn1 hn2 hil hkl hf1 hf2 he0 he1 hl0 hl1 hb0 hb1 hsm hiC hkC hrC hfew
 dsimp only at hr
 show CW _ _ _ _ (args [.agg #[J (ep),J (ld),.slice iA isr.length iC,.slice kA kn.length kC,.slice rA reps.length rC,J (fw),J (bs)],J (((r:Nat):Int))]) w
 refine W<|Zr<|fT H Z Z fun w1 b2 H=>eE H bp Z fun w2 b4 H=>G (Wi Z)<|U<|W<|W<|Zr<|G (Zw aG H 1 Z Z Z)<|bY lr (rL ⟨ep,ld,isr,iA,iC,kn,kA,kC,reps,rA,rC,fw,bs⟩ _ (Hp.pa H 0 Z) hok) Z Z ?_
 rintro _ w3 ⟨rfl,hb⟩;replace H:=H.later hb;clear hb
 refine G (Wi Z)<|U<|W<|Zr<|G (Yi Z)<|G (bW Z Z Z)<|U<|ZF Z<|Zk<|W<|W<|Zr<|G (Yi Z)<|G (cZ Z Z I)<|G (Yb Z)<|ZG<|G (Yi Z)<|ZG<|G (Zf cT Z)<|ZG<|G (Zd bU H 1 Z Z Z)<|ZG<|G (bn gY Z)<|ZG<|G (rj Z Z I)<|G (N Z Z)<|U<|ZF Z<|Zk<|W<|Zr<|G (Zw aG H 1 Z Z Z)<|bY mL (zX ⟨ep,ld,isr,iA,iC,kn,kA,kC,reps,rA,rC,fw,bs⟩ _ (Hp.pa H 0 Z) hok) Z Z ?_
 rintro _ w4 ⟨⟨ep2,ld2,is2,iA2,c1,kn2,kA2,c2,rs,rA2,c3,fw2,bs2⟩,g1,g2,g3,u1,u2,u3,rfl,ha2,ho⟩
 simp only[Pa.a,gz.mk.injEq]at ha2
 obtain⟨e1,e2,e3,e4,hma,e6,e7⟩:=ha2
 obtain rfl:ep=ep2:=e1.symm
 obtain rfl:ld=ld2:=e2.symm
 obtain rfl:isr=is2:=e3.symm
 obtain rfl:kn=kn2:=e4.symm
 obtain rfl:fw=fw2:=e6.symm
 obtain rfl:bs=bs2:=e7.symm
 have hrl:rs.length=reps.length:=by have:=congrArg cu hma;simpa using this
 obtain⟨i1,i2,i3,row1,row2,row3,hcp,hlos,-,hjn⟩:=ho
 dsimp only at i1 i2 i3 row1 row2 row3 hcp hlos hjn
 subst i1;subst i2;subst i3
 have hlo0:=H.size
 replace H:=H.joinF hjn (by intro f hf;obtain⟨r,hr,rfl⟩:=bw.1 hf;exact hlos r hr)
 replace hlos: ∀ r∈rs,w.heap.size<=r.lo:=fun r hr=>aT hlo0 (hlos r hr)
 clear hjn
 refine bo H 3 (#[J (ep),J (ld),.slice (Qd g1) isr.length c1,.slice (Qd g2) kn.length c2,.slice (Qd g3) rs.length c3,J (fw),J (bs)]) aK Z Z Z Z Z N N fun w5 H=>G (Wi Z)<|U<|Zt ?_
 exact bD (cs0:= #[J (ep),J (ld),.slice (Qd g1) isr.length c1,.slice (Qd g2) kn.length c2,.slice (Qd g3) rs.length c3,J (fw),J (bs)]) (v1:=J 0) Z aG Z (H.ent (i:=3) Z) Z Z ⟨⟨ep,ld,isr,_,c1,kn,_,c2,rs,_,c3,fw,bs⟩,g1,g2,g3,u1,u2,u3,rfl,by simp only[Pa.a,hma],⟨rfl,rfl,rfl,row1,row2,row3,hcp,hlos,by dsimp only;omega,H.forget (.cons_cons _ (.cons_cons _ (.cons_cons _ (vG _)))) (fun f hf=>ci _ hf)⟩⟩
theorem HQ (p:Pa) (r:Nat) (w:World) (h:p.rd 0 w.heap.size w) (hok:p.a.ok) (hr:r<p.reps.length) (hl:0<=p.leader) (hne:p.leader≠r):db aa Au [p.v,J (r:Nat)] w fun v w2=> ∃ (p':Pa) (g1 g2 g3:Nat) (c1 c2 c3:Array Value),v=.tuple #[p'.v,J 0]/\p'.a=p.a/\Gg w w2 p' g1 g2 g3 c1 c2 c3:=by
 refine aD yK Z Z ?_
 obtain⟨hn1,hn2,hil,hkl,hf1,hf2,he0,he1,hl0,hl1,hb0,hb1,hsm⟩:=Pa.facts hok
 have hkn:=hok.known
 have hiC:=h.iC
 have hkC:=h.kC
 have hrC:=h.rC
 have hfew:=h.few
 have H:=Hp.startPa h
 obtain⟨ep,ld,isr,iA,iC,kn,kA,kC,reps,rA,rC,fw,bs⟩:=p
 simp only[Pa.a]at hkn
 dsimp only at H hn1 hn2 hil hkl hf1 hf2 he0 he1 hl0 hl1 hb0 hb1 hsm hiC hkC hrC hfew
 dsimp only at hr hl hne
 show CW _ _ _ _ (args [.agg #[J (ep),J (ld),.slice iA isr.length iC,.slice kA kn.length kC,.slice rA reps.length rC,J (fw),J (bs)],J (((r:Nat):Int))]) w
 refine W<|Zr<|fT H Z Z fun w1 b2 H=>eE H bp Z fun w2 b4 H=>G (Wi Z)<|U<|W<|Zr<|G (Zw aG H 1 Z Z Z)<|G (Yi Z)<|bY ku (tI ⟨ep,ld,isr,iA,iC,kn,kA,kC,reps,rA,rC,fw,bs⟩ r _ (Hp.pa H 0 Z) hok hr) Z Z ?_
 rintro _ w3 ⟨⟨ep2,ld2,is2,iA2,c1,kn2,kA2,c2,rs,rA2,c3,fw2,bs2⟩,g1,g2,g3,u1,u2,u3,rfl,ha2,ho⟩
 simp only[Pa.a,gz.mk.injEq]at ha2
 obtain⟨e1,e2,e3,e4,hma,e6,e7⟩:=ha2
 obtain rfl:ep=ep2:=e1.symm
 obtain rfl:ld=ld2:=e2.symm
 obtain rfl:isr=is2:=e3.symm
 obtain rfl:kn=kn2:=e4.symm
 obtain rfl:fw=fw2:=e6.symm
 obtain rfl:bs=bs2:=e7.symm
 have hrl:rs.length=reps.length:=by have:=congrArg cu hma;simpa using this
 obtain⟨i1,i2,i3,row1,row2,row3,hcp,hlos,-,hjn⟩:=ho
 dsimp only at i1 i2 i3 row1 row2 row3 hcp hlos hjn
 subst i1;subst i2;subst i3
 have hlo0:=H.size
 replace H:=H.joinF hjn (by intro f hf;obtain⟨r,hr,rfl⟩:=bw.1 hf;exact hlos r hr)
 replace hlos: ∀ r∈rs,w.heap.size<=r.lo:=fun r hr=>aT hlo0 (hlos r hr)
 clear hjn
 refine G (Yu Z)<|G (Xa Z Z)<|G (Xi Z Z)<|bo H 4 (#[J (ep),J (ld),.slice (Qd g1) isr.length c1,.slice (Qd g2) kn.length c2,.slice (Qd g3) rs.length c3,J (fw),J (bs)]) aK Z Z Z Z Z N N fun w4 H=>G (Wi Z)<|U<|W<|W<|Zr<|G (Yi Z)<|G (bW Z Z Z)<|U<|ZF Z<|Zk<|W<|W<|Zr<|G (Zf dq Z)<|G (Zd aj H 4 Z Z Z)<|G (cZ Z Z I)<|G (Yb Z)<|ZG<|G (Zf dq Z)<|ZG<|G (Zd aj H 4 Z Z Z)<|ZG<|G (Yi Z)<|ZG<|G (nF Z Z hne)<|G (N Z Z)<|U<|ZF Z<|Zk<|W<|Zr<|G (Zw aG H 4 Z Z Z)<|bo H 3 (#[J (ep),J (ld),.slice (Qd g1) isr.length c1,.slice (Qd g2) kn.length c2,.slice (Qd g3) rs.length c3,J (fw),J (bs)]) aK Z Z Z Z Z N N fun w5 H=>G (Wi Z)<|U<|Zt ?_
 exact bD (cs0:= #[J (ep),J (ld),.slice (Qd g1) isr.length c1,.slice (Qd g2) kn.length c2,.slice (Qd g3) rs.length c3,J (fw),J (bs)]) (v1:=J 0) Z aG Z (H.ent (i:=3) Z) Z Z ⟨⟨ep,ld,isr,_,c1,kn,_,c2,rs,_,c3,fw,bs⟩,g1,g2,g3,u1,u2,u3,rfl,by simp only[Pa.a,hma],⟨rfl,rfl,rfl,row1,row2,row3,hcp,hlos,by dsimp only;omega,H.forget (.cons_cons _ (.cons_cons _ (.cons_cons _ (vG _)))) (fun f hf=>ci _ hf)⟩⟩
theorem E7 (p:Pa) (r:Nat) (w:World) (h:p.rd 0 w.heap.size w) (hok:p.a.ok) (hr:r<p.reps.length) (hl:p.leader<0∨p.leader=r):db aa Au [p.v,J (r:Nat)] w fun v w2=>v=.tuple #[.agg #[J 0,J 0,.slice none 0 0,.slice none 0 0,.slice none 0 0,J 0,J 0],J 8]/\Below w.heap.size w w2:=by
 refine aD yK Z Z ?_
 obtain⟨hn1,hn2,hil,hkl,hf1,hf2,he0,he1,hl0,hl1,hb0,hb1,hsm⟩:=Pa.facts hok
 have hkn:=hok.known
 have hiC:=h.iC
 have hkC:=h.kC
 have hrC:=h.rC
 have hfew:=h.few
 have H:=Hp.startPa h
 obtain⟨ep,ld,isr,iA,iC,kn,kA,kC,reps,rA,rC,fw,bs⟩:=p
 simp only[Pa.a]at hkn
 dsimp only at H hn1 hn2 hil hkl hf1 hf2 he0 he1 hl0 hl1 hb0 hb1 hsm hiC hkC hrC hfew
 dsimp only at hr hl
 show CW _ _ _ _ (args [.agg #[J (ep),J (ld),.slice iA isr.length iC,.slice kA kn.length kC,.slice rA reps.length rC,J (fw),J (bs)],J (((r:Nat):Int))]) w
 refine W<|Zr<|fT H Z Z fun w1 b2 H=>eE H bp Z fun w2 b4 H=>G (Wi Z)<|U<|W<|Zr<|G (Zw aG H 1 Z Z Z)<|G (Yi Z)<|bY ku (tI ⟨ep,ld,isr,iA,iC,kn,kA,kC,reps,rA,rC,fw,bs⟩ r _ (Hp.pa H 0 Z) hok hr) Z Z ?_
 rintro _ w3 ⟨⟨ep2,ld2,is2,iA2,c1,kn2,kA2,c2,rs,rA2,c3,fw2,bs2⟩,g1,g2,g3,u1,u2,u3,rfl,ha2,ho⟩
 simp only[Pa.a,gz.mk.injEq]at ha2
 obtain⟨e1,e2,e3,e4,hma,e6,e7⟩:=ha2
 obtain rfl:ep=ep2:=e1.symm
 obtain rfl:ld=ld2:=e2.symm
 obtain rfl:isr=is2:=e3.symm
 obtain rfl:kn=kn2:=e4.symm
 obtain rfl:fw=fw2:=e6.symm
 obtain rfl:bs=bs2:=e7.symm
 have hrl:rs.length=reps.length:=by have:=congrArg cu hma;simpa using this
 obtain⟨i1,i2,i3,row1,row2,row3,hcp,hlos,-,hjn⟩:=ho
 dsimp only at i1 i2 i3 row1 row2 row3 hcp hlos hjn
 subst i1;subst i2;subst i3
 have hlo0:=H.size
 replace H:=H.joinF hjn (by intro f hf;obtain⟨r,hr,rfl⟩:=bw.1 hf;exact hlos r hr)
 replace hlos: ∀ r∈rs,w.heap.size<=r.lo:=fun r hr=>aT hlo0 (hlos r hr)
 clear hjn
 refine G (Yu Z)<|G (Xa Z Z)<|G (Xi Z Z)<|bo H 4 (#[J (ep),J (ld),.slice (Qd g1) isr.length c1,.slice (Qd g2) kn.length c2,.slice (Qd g3) rs.length c3,J (fw),J (bs)]) aK Z Z Z Z Z N N fun w4 H=>G (Wi Z)<|U<|W<|W<|Zr<|G (Yi Z)<|G (bW Z Z Z)<|U<|ZF Z<|Zk<|W<|W<|Zr<|G (Zf dq Z)<|G (Zd aj H 4 Z Z Z) ?_
 refine cU (cH Z Z) Z Z Z (fun h19=> ?_) (fun h19=> ?_)
 refine G (Yb Z)<|ZN<|ZN<|ZN<|ZN<|G (Kt Z Z)<|U<|ZT Z<|W<|Zr<|G (bi (cs:= #[J (0),J (0),.slice none 0 0,.slice none 0 0,.slice none 0 0,J (0),J (0)]) cL bp N)<|bo H 3 (#[J (0),J (0),.slice none 0 0,.slice none 0 0,.slice none 0 0,J (0),J (0)]) aK Z Z Z Z Z N N fun w5 H=>G (Wi Z)<|U<|Zt ?_
 exact bD (cs0:= #[J 0,J 0,.slice none 0 0,.slice none 0 0,.slice none 0 0,J 0,J 0]) (v1:=J 8) Z aG Z (H.ent (i:=3) Z) Z Z ⟨rfl,H.below⟩
 refine G (Yb Z)<|ZG<|G (Zf dq Z)<|ZG<|G (Zd aj H 4 Z Z Z)<|ZG<|G (Yi Z)<|ZG ?_
 refine cU (bl Z Z) Z Z Z (fun h24=> ?_) (fun h24=> ?_)
 refine G (N Z Z)<|U<|ZT Z<|W<|Zr<|G (bi (cs:= #[J (0),J (0),.slice none 0 0,.slice none 0 0,.slice none 0 0,J (0),J (0)]) cL bp N)<|bo H 3 (#[J (0),J (0),.slice none 0 0,.slice none 0 0,.slice none 0 0,J (0),J (0)]) aK Z Z Z Z Z N N fun w6 H=>G (Wi Z)<|U<|Zt ?_
 exact bD (cs0:= #[J 0,J 0,.slice none 0 0,.slice none 0 0,.slice none 0 0,J 0,J 0]) (v1:=J 8) Z aG Z (H.ent (i:=3) Z) Z Z ⟨rfl,H.below⟩
 exfalso;omega
theorem zk {w0 w:World} {M:List (Nat×Obj)} {F:List cr} {g1 g2 g3:Nat} {u1 u2 u3:Array Value} (ep ld:Int) (isr:List Bool) (iC:Nat) (kn:List Int) (kC:Nat) (reps:List fd) (rC:Nat) (fw bs:Int) (l:Nat) (r:fd)
  (H:Hp w0 w ((g1,.cells u1 ji (0,0))::(g2,.cells u2 cY (0,0))::(g3,.cells u3 fM (0,0))::M) F) (row1:dU eT isr iC u1) (row2:dU bR kn kC u2) (row3:dU gR reps rC u3) (hil:isr.length=reps.length) (hkl:kn.length=reps.length) (hn:reps.length<=5) (hld:ld=l) (hr:reps[l]? =some r) (hF:BC r∈F) (hg:GL r.es r.s) (hc:(bh r.es).length<=r.cap):
  db aa Av [.agg #[J (ep),J (ld),.slice (Qd g1) isr.length iC,.slice (Qd g2) kn.length kC,.slice (Qd g3) reps.length rC,J (fw),J (bs)]] w fun v w2=> ∃ u4,v=.agg #[J (ep),J (ld),.slice (Qd g1) isr.length iC,.slice (Qd g2) kn.length kC,.slice (Qd g3) reps.length rC,J (fw),J (bs)]/\dU gR (reps.set l {r with high:=max r.high (min (dt isr kn 400) (r.es.length:Nat))}) rC u4/\Hp w0 w2 ((g1,.cells u1 ji (0,0))::(g2,.cells u2 cY (0,0))::(g3,.cells u4 fM (0,0))::M) F:=by
 refine aD y2 Z Z ?_
 have hll:=(cF hr).1
 refine W<|Zr<|fT H Z Z fun w1 b1 H=>eE H bp Z fun w2 b2 H=>U<|W<|W<|Zr<|G (Zf dq Z)<|G (Zd aj H 1 Z Z Z)<|G (cZ Z Z I)<|U<|ZF Z<|Zk<|W<|Zr<|G (Wi Z)<|U<|W<|W<|Zr<|G (Zf f4 Z)<|G (Zd cn H 1 Z Z Z)<|G (bn eF Z)<|G (Yi Z)<|U<|Zb ?_
 refine cf (τ:=Nat×Int) [3,4,5,16,17,18,19,20,21,22,23,24,25,26,27,28,29] (fun(k,m)=>[(16,J (k:Nat)),(3,J m)]) (fun(k,m) w'=>k<=kn.length/\dt (isr.drop k) (kn.drop k) m=dt isr kn 400/\Hp w0 w' ((b2,.cells #[J 0,J 0,.slice none 0 0,.slice none 0 0,.slice none 0 0,J 0,J 0] bE (0,0))::(b1,.cells #[J (ep),J (ld),.slice (Qd g1) isr.length iC,.slice (Qd g2) kn.length kC,.slice (Qd g3) reps.length rC,J (fw),J (bs)] bE (0,0))::(g1,.cells u1 ji (0,0))::(g2,.cells u2 cY (0,0))::(g3,.cells u3 fM (0,0))::M) F) (fun(k,_)=>kn.length-k) (0,400) ⟨by omega,rfl,H⟩ (kZ Z Z) ?_
 rintro⟨k,m⟩ ρ1 w3 ⟨hk,hm,H⟩
 show CW _ _ _ _ (dA (gC _ _ ρ1) [(16,J (k:Nat)),(3,J m)]) w3
 refine W<|Zr ?_
 refine cU (cH Z Z) Z Z Z (fun h17=> ?_) (fun h17=> ?_)
 refine U<|W<|ZT Z<|Zk<|W<|Zb<|W ?_
 obtain⟨n,hn_⟩: ∃ n,kn[k]? =some n:=⟨_,ah I⟩
 obtain⟨b,hb_⟩: ∃ b,isr[k]? =some b:=⟨_,ah I⟩
 refine Zr<|G (Yi Z)<|G (cD ba Z Z (by first|omega|(simp only[ab];omega)))<|G (bQ aj row2 hn_ 0 Z (H.ent (i:=3) Z) Z)<|G (Wi Z)<|G (Wi Z)<|U<|W<|Zr<|G (Zf f6 Z)<|G (Zd gF H 1 Z Z Z)<|G (Yi Z)<|G (cD d7 Z Z (by first|omega|(simp only[ab];omega))) ?_
 refine wm (bQ dQ row1 hb_ 0 Z (H.ent (i:=2) Z) Z) Z Z Z (fun h25=> ?_) (fun h25=> ?_)
 refine U<|ZT Z<|Zr<|G (Yi Z)<|G (Yi Z)<|G (tJ Z Z)<|G (Wi Z)<|U<|Zr<|G (br Z Z I I)<|G (Yi Z)<|U ?_
 refine⟨(k+1,min m n),⟨by omega,by rw[<-hm,Ah hb_ hn_];rw[if_pos h25],H⟩,kZ Z Z,Qg,by show kn.length- (k+1)<kn.length-k;omega⟩
 refine U<|ZF Z<|Zk<|Zr<|G (br Z Z I I)<|G (Yi Z)<|U ?_
 refine⟨(k+1,m),⟨by omega,by rw[<-hm,Ah hb_ hn_];rw[if_neg (by simp[h25])],H⟩,kZ Z Z,Qg,by show kn.length- (k+1)<kn.length-k;omega⟩
 have hke:k=kn.length:=by omega
 have hm2:m=dt isr kn 400:=by rw[<-hm,hke,fp];cases(isr.drop kn.length)<;>rfl
 refine U<|W<|ZF Z<|Zx<|W<|Zr<|G (Zw aG H 1 Z Z Z)<|G (Zf dq Z)<|G (Zd aj H 1 Z Z Z)<|bY jy (by have hE:=pU ⟨ep,ld,isr,some ⟨g1,0,none⟩,iC,kn,some ⟨g2,0,none⟩,kC,reps,some ⟨g3,0,none⟩,rC,fw,bs⟩ l r _ (row3.rd0 (H.ent (i:=4) Z)) hr (Fb H hF hg hc);rw[<-hld]at hE;exact hE) Z Z ?_
 rintro _ w4 ⟨rfl,hb⟩;replace H:=H.later hb;clear hb
 refine G (Yu Z)<|G (Xi Z Z)<|G (Xi Z Z)<|G (Wi Z)<|G (Wi Z)<|U<|W<|Zr<|G (Zf cT Z)<|G (Zd bU H 1 Z Z Z)<|G (Zf dq Z)<|G (Zd aj H 1 Z Z Z)<|G (cD (k:=l) bv Z (congrArg (Value.int .i64) hld) (by first|omega|(simp only[ab];omega)))<|G (Wp Z)<|U<|W<|Zr<|G (Yp Z)<|G (Yp Z)<|G (aI Z)<|G (Zf dV Z)<|G (bQ aj row3 hr 3 Z (H.ent (i:=4) Z) Z)<|G (Yi Z)<|G (Yi Z)<|G (tJ Z Z)<|G (Ab Z Z)<|G (aI Z)<|G (Zf dV Z)<|kR H 4 ({r with high:=max r.high (min m (r.es.length:Nat))}) bI row3 hr 3 Z Z Z Z Z Z N fun w6 cur5 row5 H=> ?_
 have hs7:(reps.set l ({r with high:=max r.high (min m (r.es.length:Nat))}))[l]? =some ({r with high:=max r.high (min m (r.es.length:Nat))}):=am (cF hr).1
 refine U<|W<|Zr<|G (Zw aG H 1 Z Z Z)<|bo H 0 (#[J (ep),J (ld),.slice (Qd g1) isr.length iC,.slice (Qd g2) kn.length kC,.slice (Qd g3) reps.length rC,J (fw),J (bs)]) aK Z Z Z Z Z N N fun w8 H=>U<|Zt ?_
 exact eO (cs0:= #[J (ep),J (ld),.slice (Qd g1) isr.length iC,.slice (Qd g2) kn.length kC,.slice (Qd g3) reps.length rC,J (fw),J (bs)]) Z aG Z (H.ent (i:=0) Z) Z ⟨_,rfl,hm2▸row5,H.forget (.cons _ (.cons _ (ap _))) (fun _ h=>h)⟩
/-- the logs of replicas that a call has made -/
def qn (w:World) (F:List cr) (rs:List fd):Prop:= ∀ r∈rs,(bh r.es).length<=r.cap/\w.heap.size<=r.lo/\BC r∈F
theorem qn.of {w:World} {F:List cr} {rs:List fd} (h1: ∀ r∈rs,(bh r.es).length<=r.cap) (h2: ∀ r∈rs,w.heap.size<=r.lo):qn w (F++s0 rs) rs:=fun r hr=>⟨h1 r hr,h2 r hr,ci _ (bL hr)⟩
theorem qn.cons {w:World} {F:List cr} {f:cr} {rs:List fd} (h:qn w F rs):qn w (f::F) rs:=fun r hr=>⟨(h r hr).1,(h r hr).2.1,ak _ (h r hr).2.2⟩
theorem qn.set {w:World} {F:List cr} {rs:List fd} (h:qn w F rs) (i:Nat) {x:fd} (hx:(bh x.es).length<=x.cap/\w.heap.size<=x.lo/\BC x∈F):qn w F (rs.set i x):=fun r hr=>by
 rcases bF hr with hr|rfl
 exact h r hr
 exact hx
theorem qn.same {w:World} {F:List cr} {rs:List fd} (h:qn w F rs) (i:Nat) {x x':fd} (hx:rs[i]? =some x) (h1:x'.A=x.A) (h2:x'.cap=x.cap) (h3:x'.es=x.es) (h4:x'.lo=x.lo) (h5:x'.hi=x.hi):qn w F (rs.set i x'):=h.set i (by
 have:=h x (ae hx)
 unfold BC at this⊢
 rw[h1,h2,h3,h4,h5];exact this)
theorem qn.log {w w0 w':World} {L:List (Nat×Obj)} {F:List cr} {rs:List fd} (h:qn w F rs) (H:Hp w0 w' L F) {i:Nat} {x:fd} (hx:rs[i]? =some x) (hg:GL x.es x.s):x.log.ok w':=by
 have h1:=h x (ae hx)
 exact Fb H h1.2.2 hg h1.1
theorem eo.mk_ {w w2:World} {L:List (Nat×Obj)} {F:List cr} {p:Pa} {g1 g2 g3:Nat} {u1 u2 u3:Array Value} (i:p.iA=some ⟨g1,0,none⟩) (k:p.kA=some ⟨g2,0,none⟩) (r:p.rA=some ⟨g3,0,none⟩) (ri:dU eT p.isr p.iC u1) (rk:dU bR p.known p.kC u2) (rr:dU gR p.reps p.rC u3) (hl:qn w F p.reps)
  (few:p.isr.length<=1000000/\p.known.length<=1000000/\p.reps.length<=1000000) (H:Hp w w2 L F) (hL:(g1,Obj.cells u1 ji (0,0))∈L/\(g2,Obj.cells u2 cY (0,0))∈L/\(g3,Obj.cells u3 fM (0,0))∈L):eo w w2 p:=by
 have e1:=H.ents _ hL.1
 have e2:=H.ents _ hL.2.1
 have e3:=H.ents _ hL.2.2
 refine⟨⟨?_,?_,?_,fun r hr=> ?_,ri.le,rk.le,rr.le,fun r hr=>(hl r hr).1,few⟩,H.below⟩
 rw[i];exact(ri.rd e1.1).mono e1.2 (cd e1.1)
 rw[k];exact(rk.rd e2.1).mono e2.2 (cd e2.1)
 rw[r];exact(rr.rd e3.1).mono e3.2 (cd e3.1)
 obtain⟨h1,h2,h3⟩:=hl r hr
 obtain⟨f1,f2,-⟩:=H.facts (BC r) h3
 exact Rd.mono f1 h2 f2
theorem vU {rs reps:List fd} (hma:rs.map fd.a=reps.map fd.a) {i:Nat} {x:fd} (hx:rs[i]? =some x):(reps.map fd.a)[i]? =some x.a:=by
 rw[<-hma,aL,hx];rfl
theorem wG {rs reps:List fd} {ep ld:Int} {isr:List Bool} {iA kA rA:Option Addr} {iC kC rC:Nat} {kn:List Int} {fw bs:Int} (hma:rs.map fd.a=reps.map fd.a) (hok:(Pa.a ⟨ep,ld,isr,iA,iC,kn,kA,kC,reps,rA,rC,fw,bs⟩).ok) {i:Nat} {x:fd} (hx:rs[i]? =some x):GL x.es x.s/\0<=x.high/\x.high<=x.es.length:=by
 have h1:=hok.reps x.a (ae (show(reps.map fd.a)[i]? =_ from vU hma hx))
 exact⟨h1.gl,h1.high0,h1.high1⟩
def nP (p:gz):gz:=match p.reps[p.leader.toNat]? with
 |some r=>if p.leader<0 then p else{p with reps:=p.reps.set p.leader.toNat {r with high:=max r.high (min (dt p.isr p.known 400) r.es.length)}}
 |none=>p
theorem xu {p:gz} {l:Nat} {r:RA} (hl:p.leader=l) (hr:p.reps[l]? =some r):nP p={p with reps:=p.reps.set l {r with high:=max r.high (min (dt p.isr p.known 400) r.es.length)}}:=by
 have h1:p.leader.toNat=l:=by omega
 unfold nP
 rw[h1,hr];dsimp only;rw[if_neg I]
def nZ (p:gz) (r:Nat):gz×Int:=match p.reps[r]? with
 |none=>(gB,5)
 |some x=>if x.up=false then(gB,7)else
  if p.leader=r then(nP {p with reps:=p.reps.set r {x with s:=x.es.length},known:=p.known.set r x.es.length},0)else({p with reps:=p.reps.set r {x with s:=x.es.length}},0)
def pT (p:gz) (r:Nat):gz×Int:=match p.reps[r]? with
 |none=>(gB,5)
 |some x=>if x.up=true then(gB,6)else({p with reps:=p.reps.set r {x with up:=true}},0)
theorem EV (l:mQ) (w:World) (h:l.ok w):db aa As [.agg l.c.toArray] w fun v w2=> ∃ A' c',v=.tuple #[.agg #[.slice A' (bh l.es).length c',J (fJ l.es l.es.length:Nat)],J 0]/\(bh l.es).length<=c'/\Rd dz w.heap.size w2.heap.size A' (bh l.es) w2/\Below w.heap.size w w2:=
 (GB l w h).mono fun _ _ ⟨A',c',h1,h2,h3⟩=>⟨A',c',h1,h2.2.1,h2.2.2,h3⟩
theorem KD (p:Pa) (r:Nat) (w:World) (h:p.rd 0 w.heap.size w) (hok:p.a.ok) (hr:r<p.reps.length):db aa Fz [p.v,J (r:Nat)] w fun v w2=> ∃ p':Pa,v=.tuple #[p'.v,J (pT p.a r).2]/\p'.a=(pT p.a r).1/\eo w w2 p':=by
 refine aD D0 Z Z ?_
 obtain⟨hn1,hn2,hil,hkl,hf1,hf2,he0,he1,hl0,hl1,hb0,hb1,hsm⟩:=Pa.facts hok
 have hkn:=hok.known
 have hiC:=h.iC
 have hkC:=h.kC
 have hrC:=h.rC
 have hfew:=h.few
 have H:=Hp.startPa h
 obtain⟨ep,ld,isr,iA,iC,kn,kA,kC,reps,rA,rC,fw,bs⟩:=p
 simp only[Pa.a]at hkn
 dsimp only at H hn1 hn2 hil hkl hf1 hf2 he0 he1 hl0 hl1 hb0 hb1 hsm hiC hkC hrC hfew
 dsimp only at hr
 show CW _ _ _ _ (args [.agg #[J (ep),J (ld),.slice iA isr.length iC,.slice kA kn.length kC,.slice rA reps.length rC,J (fw),J (bs)],J (((r:Nat):Int))]) w
 refine W<|Zr<|fT H Z Z fun w1 b2 H=>eE H bp Z fun w2 b4 H=>G (Wi Z)<|U<|W<|Zr<|G (Zw aG H 1 Z Z Z)<|G (Yi Z)<|bY ku (tI ⟨ep,ld,isr,iA,iC,kn,kA,kC,reps,rA,rC,fw,bs⟩ r _ (Hp.pa H 0 Z) hok hr) Z Z ?_
 rintro _ w3 ⟨⟨ep2,ld2,is2,iA2,c1,kn2,kA2,c2,rs,rA2,c3,fw2,bs2⟩,g1,g2,g3,u1,u2,u3,rfl,ha2,ho⟩
 simp only[Pa.a,gz.mk.injEq]at ha2
 obtain⟨e1,e2,e3,e4,hma,e6,e7⟩:=ha2
 obtain rfl:ep=ep2:=e1.symm
 obtain rfl:ld=ld2:=e2.symm
 obtain rfl:isr=is2:=e3.symm
 obtain rfl:kn=kn2:=e4.symm
 obtain rfl:fw=fw2:=e6.symm
 obtain rfl:bs=bs2:=e7.symm
 have hrl:rs.length=reps.length:=by have:=congrArg cu hma;simpa using this
 obtain⟨i1,i2,i3,row1,row2,row3,hcp,hlos,-,hjn⟩:=ho
 dsimp only at i1 i2 i3 row1 row2 row3 hcp hlos hjn
 subst i1;subst i2;subst i3
 have hlo0:=H.size
 replace H:=H.joinF hjn (by intro f hf;obtain⟨r,hr,rfl⟩:=bw.1 hf;exact hlos r hr)
 replace hlos: ∀ r∈rs,w.heap.size<=r.lo:=fun r hr=>aT hlo0 (hlos r hr)
 clear hjn
 have hlg:=qn.of (F:=[Dc 0 w.heap.size ⟨ep,ld,isr,iA,iC,kn,kA,kC,reps,rA,rC,fw,bs⟩,dE eT 0 w.heap.size iA isr,dE bR 0 w.heap.size kA kn,dE gR 0 w.heap.size rA reps]) hcp hlos
 have hok2: ∀ {i:Nat} {x:fd},rs[i]? =some x->GL x.es x.s/\0<=x.high/\x.high<=x.es.length:=fun hx=>wG hma hok hx
 obtain⟨x,hx⟩: ∃ x,rs[r]? =some x:=⟨_,ah I⟩
 have hxa:=vU hma hx
 refine G (Yu Z)<|G (Xa Z Z)<|G (Xi Z Z)<|bo H 4 (#[J (ep),J (ld),.slice (Qd g1) isr.length c1,.slice (Qd g2) kn.length c2,.slice (Qd g3) rs.length c3,J (fw),J (bs)]) aK Z Z Z Z Z N N fun w4 H=>G (Wi Z)<|U<|W<|W<|Zr<|G (Yi Z)<|G (bW Z Z Z)<|U<|ZF Z<|Zk<|W<|W<|Zr<|G (Zf cT Z)<|G (Zd bU H 4 Z Z Z)<|G (Yi Z)<|G (cD bv Z Z (by first|omega|(simp only[ab];omega)))<|G (Zf fq Z) ?_
 refine wm (bQ dQ row3 hx 0 Z (H.ent (i:=2) Z) Z) Z Z Z (fun h22=> ?_) (fun h22=> ?_)
 have hS:pT (Pa.a ⟨ep,ld,isr,iA,iC,kn,kA,kC,reps,rA,rC,fw,bs⟩) r=(gB,6):=by simp[pT,Pa.a,hxa,fd.a,h22]
 rw[hS]
 refine U<|ZT Z<|W<|Zr<|G (bi (cs:= #[J (0),J (0),.slice none 0 0,.slice none 0 0,.slice none 0 0,J (0),J (0)]) cL bp N)<|bo H 3 (#[J (0),J (0),.slice none 0 0,.slice none 0 0,.slice none 0 0,J (0),J (0)]) aK Z Z Z Z Z N N fun w5 H=>G (Wi Z)<|U<|Zt ?_
 exact bD (cs0:= #[J 0,J 0,.slice none 0 0,.slice none 0 0,.slice none 0 0,J 0,J 0]) (v1:=J 6) Z aG Z (H.ent (i:=3) Z) Z Z ⟨zz,rfl,rfl,eo.zero H.below⟩
 have hS:pT (Pa.a ⟨ep,ld,isr,iA,iC,kn,kA,kC,reps,rA,rC,fw,bs⟩) r=({Pa.a ⟨ep,ld,isr,iA,iC,kn,kA,kC,reps,rA,rC,fw,bs⟩with reps:=(reps.map fd.a).set r {x.a with up:=true}},0):=by simp[pT,Pa.a,hxa,fd.a,h22]
 rw[hS]
 refine U<|ZF Z<|Zk<|W<|Zr<|G (Zf cT Z)<|G (Zd bU H 4 Z Z Z)<|G (Yi Z)<|G (cD bv Z Z (by first|omega|(simp only[ab];omega)))<|G (Zf fq Z)<|kR H 2 ({x with up:=true}) iI row3 hx 0 Z Z Z Z Z Z N fun w7 cur6 row6 H=> ?_
 have hs8:(rs.set r ({x with up:=true}))[r]? =some ({x with up:=true}):=am (cF hx).1
 refine U<|W<|Zr<|G (Zw aG H 4 Z Z Z)<|bo H 3 (#[J (ep),J (ld),.slice (Qd g1) isr.length c1,.slice (Qd g2) kn.length c2,.slice (Qd g3) rs.length c3,J (fw),J (bs)]) aK Z Z Z Z Z N N fun w9 H=>G (Wi Z)<|U<|Zt ?_
 have hlg2:=hlg.same r (x':={x with up:=true}) hx Z Z Z Z Z
 exact bD (cs0:= #[J (ep),J (ld),.slice (Qd g1) isr.length c1,.slice (Qd g2) kn.length c2,.slice (Qd g3) rs.length c3,J (fw),J (bs)]) (v1:=J 0) Z aG Z (H.ent (i:=3) Z) Z Z ⟨_,by simp[Pa.c],by simp[Pa.a,cz,hma,fd.a],(eo.mk_ (p:=⟨ep,ld,isr,some ⟨g1,0,none⟩,c1,kn,some ⟨g2,0,none⟩,c2,rs.set r {x with up:=true},some ⟨g3,0,none⟩,c3,fw,bs⟩) Z Z Z row1 row2 row6 hlg2 (by dsimp only;try simp only[ab];omega) H ⟨by simp,by simp,by simp⟩)⟩
theorem KC (p:Pa) (r:Nat) (w:World) (h:p.rd 0 w.heap.size w) (hok:p.a.ok) (hr:r<p.reps.length):db aa Fy [p.v,J (r:Nat)] w fun v w2=> ∃ p':Pa,v=.tuple #[p'.v,J (nZ p.a r).2]/\p'.a=(nZ p.a r).1/\eo w w2 p':=by
 refine aD DZ Z Z ?_
 obtain⟨hn1,hn2,hil,hkl,hf1,hf2,he0,he1,hl0,hl1,hb0,hb1,hsm⟩:=Pa.facts hok
 have hkn:=hok.known
 have hiC:=h.iC
 have hkC:=h.kC
 have hrC:=h.rC
 have hfew:=h.few
 have H:=Hp.startPa h
 obtain⟨ep,ld,isr,iA,iC,kn,kA,kC,reps,rA,rC,fw,bs⟩:=p
 simp only[Pa.a]at hkn
 dsimp only at H hn1 hn2 hil hkl hf1 hf2 he0 he1 hl0 hl1 hb0 hb1 hsm hiC hkC hrC hfew
 dsimp only at hr
 show CW _ _ _ _ (args [.agg #[J (ep),J (ld),.slice iA isr.length iC,.slice kA kn.length kC,.slice rA reps.length rC,J (fw),J (bs)],J (((r:Nat):Int))]) w
 refine W<|Zr<|fT H Z Z fun w1 b2 H=>eE H bp Z fun w2 b4 H=>G (Wi Z)<|U<|W<|Zr<|G (Zw aG H 1 Z Z Z)<|G (Yi Z)<|bY ku (tI ⟨ep,ld,isr,iA,iC,kn,kA,kC,reps,rA,rC,fw,bs⟩ r _ (Hp.pa H 0 Z) hok hr) Z Z ?_
 rintro _ w3 ⟨⟨ep2,ld2,is2,iA2,c1,kn2,kA2,c2,rs,rA2,c3,fw2,bs2⟩,g1,g2,g3,u1,u2,u3,rfl,ha2,ho⟩
 simp only[Pa.a,gz.mk.injEq]at ha2
 obtain⟨e1,e2,e3,e4,hma,e6,e7⟩:=ha2
 obtain rfl:ep=ep2:=e1.symm
 obtain rfl:ld=ld2:=e2.symm
 obtain rfl:isr=is2:=e3.symm
 obtain rfl:kn=kn2:=e4.symm
 obtain rfl:fw=fw2:=e6.symm
 obtain rfl:bs=bs2:=e7.symm
 have hrl:rs.length=reps.length:=by have:=congrArg cu hma;simpa using this
 obtain⟨i1,i2,i3,row1,row2,row3,hcp,hlos,-,hjn⟩:=ho
 dsimp only at i1 i2 i3 row1 row2 row3 hcp hlos hjn
 subst i1;subst i2;subst i3
 have hlo0:=H.size
 replace H:=H.joinF hjn (by intro f hf;obtain⟨r,hr,rfl⟩:=bw.1 hf;exact hlos r hr)
 replace hlos: ∀ r∈rs,w.heap.size<=r.lo:=fun r hr=>aT hlo0 (hlos r hr)
 clear hjn
 have hlg:=qn.of (F:=[Dc 0 w.heap.size ⟨ep,ld,isr,iA,iC,kn,kA,kC,reps,rA,rC,fw,bs⟩,dE eT 0 w.heap.size iA isr,dE bR 0 w.heap.size kA kn,dE gR 0 w.heap.size rA reps]) hcp hlos
 have hok2: ∀ {i:Nat} {x:fd},rs[i]? =some x->GL x.es x.s/\0<=x.high/\x.high<=x.es.length:=fun hx=>wG hma hok hx
 obtain⟨x,hx⟩: ∃ x,rs[r]? =some x:=⟨_,ah I⟩
 have hxa:=vU hma hx
 refine G (Yu Z)<|G (Xa Z Z)<|G (Xi Z Z)<|bo H 4 (#[J (ep),J (ld),.slice (Qd g1) isr.length c1,.slice (Qd g2) kn.length c2,.slice (Qd g3) rs.length c3,J (fw),J (bs)]) aK Z Z Z Z Z N N fun w4 H=>G (Wi Z)<|U<|W<|W<|Zr<|G (Yi Z)<|G (bW Z Z Z)<|U<|ZF Z<|Zk<|W<|W<|Zr<|G (Zf cT Z)<|G (Zd bU H 4 Z Z Z)<|G (Yi Z)<|G (cD bv Z Z (by first|omega|(simp only[ab];omega)))<|G (Zf fq Z) ?_
 refine wm (bQ dQ row3 hx 0 Z (H.ent (i:=2) Z) Z) Z Z Z (fun h22=> ?_) (fun h22=> ?_)
 refine G (dF Z)<|U<|ZF Z<|Zk<|W ?_
 have hlo:=H.size
 refine bz bX [0,1,2,3,4,5,6,7,8,9,10,11,12,13,14] [15] [9] [0,2,3,5,6,7,10,11,12,13,14] (sp [(9,Sp.nrow w4.heap.size dz (bh x.es) (fun A c=> .tuple #[.agg #[.slice A (bh x.es).length c,J (fJ x.es x.es.length:Nat)],J 0]))]) N N N N Nq (cG _) ?_
 refine aw Z Z Z Z Z (fun w' hw'=>Zf cT Z)<|aw Z Z Z Z Z (fun w' hw'=>aU bU Z (aB ((H.later hw').ent (i:=4) Z) Z))<|aw Z Z Z Z Z (fun w' hw'=>Yi Z)<|aw Z Z Z Z Z (fun w' hw'=>Zf cT Z)<|aw Z Z Z Z Z (fun w' hw'=>aU bU Z (aB ((H.later hw').ent (i:=4) Z) Z))<|aw Z Z Z Z Z (fun w' hw'=>Yi Z)<|aw Z Z Z Z Z (fun w' hw'=>cD bv Z Z (by first|omega|(simp only[ab];omega)))<|aw Z Z Z Z Z (fun w' hw'=>Zf dx Z)<|aw Z Z Z Z Z (fun w' hw'=>tO 1 [.slice x.A ((bh x.es).length) x.cap,J (((fJ x.es x.s:Nat):Int))] eR row3 hx Z Z ((H.later hw').ent (i:=2) Z) Z)<|Hw (gv:=(fun A c=> .tuple #[.agg #[.slice A (bh x.es).length c,J (fJ x.es x.es.length:Nat)],J 0])) F5 Z Z Z Z Z (fun w' hw'=>hw'.size) (fun w' hw'=>EV (fd.log x) w' (hlg.log (H.later hw') hx (hok2 hx).1)) Z fun A35 c35 hc35=>aw Z Z Z Z Z (fun w' hw'=>Yu Z)<|aw Z Z Z Z Z (fun w' hw'=>Xa Z Z)<|aw Z Z Z Z Z (fun w' hw'=>Xi Z Z)<|aw Z Z Z Z Z (fun w' hw'=>cD bv Z Z (by first|omega|(simp only[ab];omega)))<|aw Z Z Z Z Z (fun w' hw'=>Zf dx Z)<|aS ?_
 intro w5 hw' hF
 obtain⟨hF,Aq,cq,eq,hcq,hrw35⟩:=hF;cases eq;clear hcq
 replace H:=H.learnRd hw' hrw35
 clear hw' hF
 refine kR H 2 ({x with A:=A35,cap:=c35,s:=x.es.length,lo:=w4.heap.size,hi:=w5.heap.size}) i9 row3 hx 1 Z Z Z Z Z Z N fun w7 cur6 row6 H=> ?_
 have hs8:(rs.set r ({x with A:=A35,cap:=c35,s:=x.es.length,lo:=w4.heap.size,hi:=w5.heap.size}))[r]? =some ({x with A:=A35,cap:=c35,s:=x.es.length,lo:=w4.heap.size,hi:=w5.heap.size}):=am (cF hx).1
 refine U<|W<|W ?_
 have hlg1:=(hlg.cons (f:=dE dz w4.heap.size w5.heap.size A35 (bh x.es))).set r (x:={x with A:=A35,cap:=c35,s:=x.es.length,lo:=w4.heap.size,hi:=w5.heap.size}) ⟨hc35,hlo,fC _⟩
 have hs9:(rs.set r {x with A:=A35,cap:=c35,s:=x.es.length,lo:=w4.heap.size,hi:=w5.heap.size})[r]? =some {x with A:=A35,cap:=c35,s:=x.es.length,lo:=w4.heap.size,hi:=w5.heap.size}:=am I
 have hF9:=(hlg1 _ (ae hs9)).2.2
 have hc9:=(hlg1 _ (ae hs9)).1
 refine Zr<|G (Yi Z)<|G (Zf dq Z)<|G (Zd aj H 4 Z Z Z) ?_
 refine cU (bl Z Z) Z Z Z (fun h43=> ?_) (fun h43=> ?_)
 refine U<|ZT Z<|W ?_
 obtain⟨kx,hkx⟩: ∃ kx,kn[r]? =some kx:=⟨_,ah I⟩
 refine bz bX [0,1,2,3,4,5,6,7,8,9] [10] [5] [0,2,4,6,7,8,9] (sp [(5,Sp.one (.tuple #[J ((x.es.length:Nat):Int),J ((x.es.length:Nat):Int)]))]) N N N N Nq (cG _) ?_
 refine aw Z Z Z Z Z (fun w' hw'=>Zf f4 Z)<|aw Z Z Z Z Z (fun w' hw'=>aU cn Z (aB ((H.later hw').ent (i:=4) Z) Z))<|aw Z Z Z Z Z (fun w' hw'=>Yi Z)<|aw Z Z Z Z Z (fun w' hw'=>je aG Z ((H.later hw').ent (i:=4) Z) Z)<|aw Z Z Z Z Z (fun w' hw'=>Yi Z)<|gN jy Z Z Z Z Z (fun w' hw'=>(by have hA:=pU ⟨ep,ld,isr,some ⟨g1,0,none⟩,c1,kn,some ⟨g2,0,none⟩,c2,rs.set r {x with A:=A35,cap:=c35,s:=x.es.length,lo:=w4.heap.size,hi:=w5.heap.size},some ⟨g3,0,none⟩,c3,fw,bs⟩ r {x with A:=A35,cap:=c35,s:=x.es.length,lo:=w4.heap.size,hi:=w5.heap.size} w' (row6.rd0 ((H.later hw').ent (i:=2) Z)) hs9 (hlg1.log (H.later hw') hs9 (hok2 hx).1.all);simp only[Pa.v,Pa.c,ab]at hA;exact hA)) Z<|aw Z Z Z Z Z (fun w' hw'=>Yu Z)<|aw Z Z Z Z Z (fun w' hw'=>Xi Z Z)<|aw Z Z Z Z Z (fun w' hw'=>Xi Z Z)<|aw Z Z Z Z Z (fun w' hw'=>cD ba Z Z (by first|omega|(simp only[ab];omega)))<|aS ?_
 intro w9 hw' hF
 replace H:=H.later hw';clear hw' hF
 refine kR H 1 ((((x.es.length:Nat):Int))) bI row2 hkx 0 Z Z Z Z Z Z N fun w11 cur10 row10 H=> ?_
 have hs12:(kn.set r ((((x.es.length:Nat):Int))))[r]? =some ((((x.es.length:Nat):Int))):=am (cF hkx).1
 refine U<|Zr<|G (Zw aG H 4 Z Z Z)<|bY lB ((by have hA:=zk ep ld isr c1 (kn.set r ((x.es.length:Nat):Int)) c2 (rs.set r {x with A:=A35,cap:=c35,s:=x.es.length,lo:=w4.heap.size,hi:=w5.heap.size}) c3 fw bs r ({x with A:=A35,cap:=c35,s:=x.es.length,lo:=w4.heap.size,hi:=w5.heap.size}) H row1 row10 row6 (by simp only[ab];omega) (by simp only[ab,bH];omega) (by simp only[ab];omega) h43.symm hs9 hF9 (hok2 hx).1.all hc9;simp only[Pa.v,Pa.c,ab]at hA;exact hA)) Z Z ?_
 rintro _ w13 ⟨u9,rfl,row9,H⟩
 refine bo H 4 (#[J (ep),J (ld),.slice (Qd g1) isr.length c1,.slice (Qd g2) kn.length c2,.slice (Qd g3) rs.length c3,J (fw),J (bs)]) aK Z Z Z Z Z N N fun w14 H=>U<|W<|Zr<|G (Zw aG H 4 Z Z Z)<|bo H 3 (#[J (ep),J (ld),.slice (Qd g1) isr.length c1,.slice (Qd g2) kn.length c2,.slice (Qd g3) rs.length c3,J (fw),J (bs)]) aK Z Z Z Z Z N N fun w15 H=>G (Wi Z)<|U<|Zt ?_
 have hS:nZ (Pa.a ⟨ep,ld,isr,iA,iC,kn,kA,kC,reps,rA,rC,fw,bs⟩) r=(nP {Pa.a ⟨ep,ld,isr,iA,iC,kn,kA,kC,reps,rA,rC,fw,bs⟩with reps:=(reps.map fd.a).set r {x.a with s:=x.es.length},known:=kn.set r ((x.es.length:Nat):Int)},0):=by simp[nZ,Pa.a,hxa,fd.a,h22,<-h43]
 rw[hS]
 rw[xu (l:=r) (r:={x.a with s:=x.es.length}) h43.symm (am (by simp;omega))]
 have hlg2:=hlg1.same r (x':={x with A:=A35,cap:=c35,s:=x.es.length,lo:=w4.heap.size,hi:=w5.heap.size,high:=max x.high (min (dt isr (kn.set r ((x.es.length:Nat):Int)) 400) (x.es.length:Nat))}) hs9 Z Z Z Z Z
 exact bD (cs0:= #[J (ep),J (ld),.slice (Qd g1) isr.length c1,.slice (Qd g2) kn.length c2,.slice (Qd g3) rs.length c3,J (fw),J (bs)]) (v1:=J 0) Z aG Z (H.ent (i:=3) Z) Z Z ⟨_,by simp[Pa.c],by simp[Pa.a,cz,hma,fd.a],(eo.mk_ (p:=⟨ep,ld,isr,some ⟨g1,0,none⟩,c1,kn.set r ((x.es.length:Nat):Int),some ⟨g2,0,none⟩,c2,_,some ⟨g3,0,none⟩,c3,fw,bs⟩) Z Z Z row1 row10 row9 hlg2 (by dsimp only;try simp only[ab];omega) H ⟨by simp,by simp,by simp⟩)⟩
 refine U<|ZF Z<|Zk<|W<|Zr<|G (Zw aG H 4 Z Z Z)<|bo H 3 (#[J (ep),J (ld),.slice (Qd g1) isr.length c1,.slice (Qd g2) kn.length c2,.slice (Qd g3) rs.length c3,J (fw),J (bs)]) aK Z Z Z Z Z N N fun w16 H=>G (Wi Z)<|U<|Zt ?_
 have hS:nZ (Pa.a ⟨ep,ld,isr,iA,iC,kn,kA,kC,reps,rA,rC,fw,bs⟩) r=({Pa.a ⟨ep,ld,isr,iA,iC,kn,kA,kC,reps,rA,rC,fw,bs⟩with reps:=(reps.map fd.a).set r {x.a with s:=x.es.length}},0):=by simp[nZ,Pa.a,hxa,fd.a,h22,show¬ ld=(r:Int)from fun h=>h43 h.symm]
 rw[hS]
 exact bD (cs0:= #[J (ep),J (ld),.slice (Qd g1) isr.length c1,.slice (Qd g2) kn.length c2,.slice (Qd g3) rs.length c3,J (fw),J (bs)]) (v1:=J 0) Z aG Z (H.ent (i:=3) Z) Z Z ⟨_,by simp[Pa.c],by simp[Pa.a,cz,hma,fd.a],(eo.mk_ (p:=⟨ep,ld,isr,some ⟨g1,0,none⟩,c1,kn,some ⟨g2,0,none⟩,c2,rs.set r {x with A:=A35,cap:=c35,s:=x.es.length,lo:=w4.heap.size,hi:=w5.heap.size},some ⟨g3,0,none⟩,c3,fw,bs⟩) Z Z Z row1 row2 row6 hlg1 (by dsimp only;try simp only[ab];omega) H ⟨by simp,by simp,by simp⟩)⟩
 refine G (dF Z)<|U<|ZT Z<|W<|Zr<|G (bi (cs:= #[J (0),J (0),.slice none 0 0,.slice none 0 0,.slice none 0 0,J (0),J (0)]) cL bp N)<|bo H 3 (#[J (0),J (0),.slice none 0 0,.slice none 0 0,.slice none 0 0,J (0),J (0)]) aK Z Z Z Z Z N N fun w17 H=>G (Wi Z)<|U<|Zt ?_
 have hS:nZ (Pa.a ⟨ep,ld,isr,iA,iC,kn,kA,kC,reps,rA,rC,fw,bs⟩) r=(gB,7):=by simp[nZ,Pa.a,hxa,fd.a,h22]
 rw[hS]
 exact bD (cs0:= #[J 0,J 0,.slice none 0 0,.slice none 0 0,.slice none 0 0,J 0,J 0]) (v1:=J 7) Z aG Z (H.ent (i:=3) Z) Z Z ⟨zz,rfl,rfl,eo.zero H.below⟩
end Go.Proofs.YtclibalpdhhhfaaGreat
