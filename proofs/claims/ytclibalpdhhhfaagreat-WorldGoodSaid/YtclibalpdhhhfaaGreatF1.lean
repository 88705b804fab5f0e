/- Part 1 of the proofs over this seat: what its theorems say holds for every input that they name. -/
import Derived.Test.YtclibalpdhhhfaaGreatE0
namespace Go.Proofs.YtclibalpdhhhfaaGreat
open Go Go.Eng Go.RowKit
open Go.Eng renaming nf→U, AD→W, Je→Zr, MU→Zk, Pc→Zt, OD→Zb, OU→Zx, Pk→Yi, Pm→Yb, Pi→Ys, Pj→Yp, Ph→Yt, Pg→Yu, PA→Wi, PC→Wb, Py→Ws, Pz→Wp, Px→Wt, Pp→Zf, Pt→Xi, Pv→Xa, Pu→Xb, Ps→Xs, O2→Kt, O3→N, pE→ZT, ov→ZF
open _root_.List renaming length_set→aa,getElem?_set_self→ae,mem_of_getElem?→ah,getElem?_eq_getElem→ai,mem_cons_of_mem→al,mem_singleton→au,mem_append→ax,mem_cons→ay,length_append→az,getElem?_eq_some_iff→aB,mem_cons_self→aC,append_assoc→aE,length_take→aI,getElem?_map→aL,mem_iff_getElem?→aU,sublist_cons_self→aW,append_nil→aY,findIdx?_eq_some_iff_getElem→bh,map_append→bo,mem_map→bB,mem_or_eq_of_mem_set→bH,length_map→bI,mem_map_of_mem→bP,length_cons→bS,length_singleton→bU,eq_nil_of_length_eq_zero→bY,take_length→bZ,mem_nil_iff→cd,getD_eq_getElem?_getD→cf,mem_append_right→cm,length_replicate→cn,getElem?_append_left→cv,length→cB,getElem?_append_right→cC,map_set→cD,findIdx?_eq_none_iff→dq,take_take→dt,length_drop→dL,getElem?_drop→dO,mem_singleton_self→d6,all_eq_true→eh,drop_of_length_le→en,map_cons→eM,ext_getElem?→eN,drop_length→fv,getElem?_take_of_lt→fE,take_of_length_le→gf,flatMap_cons→gg,take_append_drop→gM,take_append_of_le_length→ig,mem_append_left→ij,take_left→jb,length_nil→jj,drop_drop→j0,nodup_cons→kQ,nil_append→kR,getElem?_set→lw,map_nil→mh,drop_eq_getElem_cons→mN,take_succ_cons→mO,flatMap_append→mP,getElem?_cons_succ→oF,nodup_append→oW,find?_cons_of_neg→oY,take_subset→qm,perm_middle→qn,cons_append→qo,perm_append_singleton→s0,nil_sublist→vn,mem_of_mem_take→yz,set_cons_zero→AZ,range→Ba,find?_eq_none→Bb,take_succ_eq_append_getElem→CM
open Go.Proofs.Tryz renaming prog→ab
open _root_.List.Perm renaming swap→am
open _root_.Nat renaming le_refl→ao,le_trans→aS,min_eq_left→bA,zero_le→bK,zero_add→cG,add_mul→cS,mul_le_mul_right→dk,le_of_ble_eq_true→fh,mod_eq_of_lt→gU,lt_or_ge→iL,mod_lt→jC,add_assoc→kZ,sub_self→mf,le_of_lt→mg,add_sub_cancel_left→oE,two_pow_add_eq_or_of_lt→rZ,add_zero→r3,add_comm→r4,div_lt_of_lt_mul→yx,mul_comm→CL
open _root_.List.Sublist renaming refl→ar
open _root_.Bool renaming and_eq_true→aR,true_and→gY
open _root_.Option.some renaming inj→bN
open _root_.Array renaming length_toList→cr
open _root_.List.Mem renaming head→fG,tail→qy
open _root_.Int renaming le_refl→iX,toNat_natCast→t8
set_option maxHeartbeats 4000000
set_option maxRecDepth 20000
set_option linter.unusedSimpArgs false
set_option linter.unusedVariables false
set_option linter.unusedSectionVars false
section
open Go Go.Eng
theorem ci:ab.follows .mixedOrders=true:=by kernel_rfl
abbrev db:TypeId:=3
theorem ak:pQ ab 3=true:=by kernel_rfl
theorem bw:(ab.info? 3).map (·.size)=some 1:=by kernel_rfl
theorem iv:oO ab 3 .i64=true:=by kernel_rfl
theorem vX:(ab.info? 3).bind (·.zero)=some (.int .i64 0):=by kernel_rfl
abbrev ji:TypeId:=4
theorem dV:pQ ab 4=true:=by kernel_rfl
theorem eo:(ab.info? 4).map (·.size)=some 1:=by kernel_rfl
theorem v6:ab.underlying 4=some .bool:=by kernel_rfl
abbrev mJ:TypeId:=5
theorem mo:pQ ab 5=true:=by kernel_rfl
theorem ir:oO ab 5 .u8=true:=by kernel_rfl
theorem ze:(ab.info? 5).bind (·.zero)=some (.int .u8 0):=by kernel_rfl
abbrev kD:TypeId:=9
theorem bc:pQ ab 9=true:=by kernel_rfl
theorem zp:(ab.info? 9).map (·.size)=some 1:=by kernel_rfl
theorem jr:v7 ab 9=true:=by kernel_rfl
theorem vW:(ab.info? 9).bind (·.zero)=some (.string ⟨#[]⟩):=by kernel_rfl
theorem Cn:oO ab 21 .i32=true:=by kernel_rfl
theorem L0:d7 ab 22 76 4=true:=by kernel_rfl
theorem KG:pn ab 22=true:=by kernel_rfl
abbrev jB:TypeId:=24
theorem rR:lu ab 24 4=true:=by kernel_rfl
theorem Cc:(ab.info? 24).map (·.size)=some 4:=by kernel_rfl
theorem JT:gZ ab 24 [(0,1),(1,1),(2,1),(3,1)]=true:=by kernel_rfl
theorem ny:cw ab 24 0 0=true:=by kernel_rfl
theorem lH:cw ab 24 1 1=true:=by kernel_rfl
theorem GU:cw ab 24 2 2=true:=by kernel_rfl
theorem Ax:cw ab 24 3 3=true:=by kernel_rfl
theorem CR:(ab.info? 24).bind (·.zero)=some (.agg #[.int .i64 0,.int .i64 0,.int .i64 0,.int .i64 0]):=by kernel_rfl
theorem wc:d7 ab 26 72 7=true:=by kernel_rfl
theorem zU:pn ab 26=true:=by kernel_rfl
theorem y7:D4 ab 26 72 7 72=true:=by kernel_rfl
theorem F4:d7 ab 28 63 3=true:=by kernel_rfl
theorem E0:pn ab 28=true:=by kernel_rfl
theorem G9:D4 ab 28 63 3 40=true:=by kernel_rfl
theorem d3:pQ ab 29=true:=by kernel_rfl
theorem ue:(ab.info? 29).map (·.size)=some 1:=by kernel_rfl
theorem gV:d7 ab 29 47 7=true:=by kernel_rfl
theorem jK:pn ab 29=true:=by kernel_rfl
theorem wX:D4 ab 29 47 7 104=true:=by kernel_rfl
theorem dP:pQ ab 30=true:=by kernel_rfl
theorem zt:(ab.info? 30).map (·.size)=some 1:=by kernel_rfl
theorem gH:d7 ab 30 89 7=true:=by kernel_rfl
theorem lh:pn ab 30=true:=by kernel_rfl
theorem HM:D4 ab 30 89 7 80=true:=by kernel_rfl
abbrev bk:TypeId:=32
theorem aq:lu ab 32 4=true:=by kernel_rfl
theorem aA:(ab.info? 32).map (·.size)=some 4:=by kernel_rfl
theorem fz:gZ ab 32 [(0,1),(1,1),(2,1),(3,1)]=true:=by kernel_rfl
theorem ko:cw ab 32 0 0=true:=by kernel_rfl
theorem km:cw ab 32 1 1=true:=by kernel_rfl
theorem vK:cw ab 32 2 2=true:=by kernel_rfl
theorem cR:cw ab 32 3 3=true:=by kernel_rfl
theorem cM:(ab.info? 32).bind (·.zero)=some (.agg #[.int .i64 0,.int .i64 0,.int .i64 0,.slice none 0 0]):=by kernel_rfl
theorem dv:pQ ab 33=true:=by kernel_rfl
theorem tp:(ab.info? 33).map (·.size)=some 1:=by kernel_rfl
theorem eD:d7 ab 33 94 3=true:=by kernel_rfl
theorem gu:pn ab 33=true:=by kernel_rfl
theorem AO:D4 ab 33 94 3 48=true:=by kernel_rfl
abbrev xT:TypeId:=34
theorem eB:pQ ab 34=true:=by kernel_rfl
theorem nW:(ab.info? 34).map (·.size)=some 1:=by kernel_rfl
theorem cZ:d7 ab 34 99 2=true:=by kernel_rfl
theorem hZ:pn ab 34=true:=by kernel_rfl
theorem vP:D4 ab 34 99 2 16=true:=by kernel_rfl
abbrev cO:TypeId:=36
theorem aN:lu ab 36 5=true:=by kernel_rfl
theorem bF:(ab.info? 36).map (·.size)=some 5:=by kernel_rfl
theorem j4:gZ ab 36 [(0,1),(1,1),(2,1),(3,1),(4,1)]=true:=by kernel_rfl
theorem jy:cw ab 36 0 0=true:=by kernel_rfl
theorem vJ:cw ab 36 1 1=true:=by kernel_rfl
theorem kk:cw ab 36 2 2=true:=by kernel_rfl
theorem dN:cw ab 36 3 3=true:=by kernel_rfl
theorem dZ:cw ab 36 4 4=true:=by kernel_rfl
theorem d9:(ab.info? 36).bind (·.zero)=some (.agg #[.int .i64 0,.int .i64 0,.int .i64 0,.slice none 0 0,.slice none 0 0]):=by kernel_rfl
theorem j8:pQ ab 37=true:=by kernel_rfl
theorem Et:(ab.info? 37).map (·.size)=some 1:=by kernel_rfl
theorem se:d7 ab 37 140 6=true:=by kernel_rfl
theorem tA:pn ab 37=true:=by kernel_rfl
theorem G8:D4 ab 37 140 6 88=true:=by kernel_rfl
abbrev mK:TypeId:=39
theorem nH:lu ab 39 11=true:=by kernel_rfl
theorem kH:(ab.info? 39).map (·.size)=some 11:=by kernel_rfl
theorem JS:gZ ab 39 [(0,1),(1,4),(5,5),(10,1)]=true:=by kernel_rfl
theorem dx:cw ab 39 0 0=true:=by kernel_rfl
theorem er:cw ab 39 1 1=true:=by kernel_rfl
theorem i5:cw ab 39 2 5=true:=by kernel_rfl
theorem kj:cw ab 39 3 10=true:=by kernel_rfl
theorem nM:(ab.info? 39).bind (·.zero)=some (.agg #[.slice none 0 0,.int .i64 0,.int .i64 0,.int .i64 0,.slice none 0 0,.int .i64 0,.int .i64 0,.int .i64 0,.slice none 0 0,.slice none 0 0,.slice none 0 0]):=by kernel_rfl
theorem fZ:pQ ab 43=true:=by kernel_rfl
theorem Ig:(ab.info? 43).map (·.size)=some 1:=by kernel_rfl
theorem dY:d7 ab 43 4 1=true:=by kernel_rfl
theorem xw:pn ab 43=true:=by kernel_rfl
theorem Lz:D4 ab 43 4 1 1=true:=by kernel_rfl
abbrev xS:TypeId:=44
theorem bL:pQ ab 44=true:=by kernel_rfl
theorem jE:(ab.info? 44).map (·.size)=some 1:=by kernel_rfl
theorem aT:d7 ab 44 3 1=true:=by kernel_rfl
theorem eJ:pn ab 44=true:=by kernel_rfl
theorem y6:D4 ab 44 3 1 8=true:=by kernel_rfl
theorem bJ:pQ ab 45=true:=by kernel_rfl
theorem C5:(ab.info? 45).map (·.size)=some 1:=by kernel_rfl
theorem bj:d7 ab 45 56 4=true:=by kernel_rfl
theorem g9:pn ab 45=true:=by kernel_rfl
theorem FH:D4 ab 45 56 4 48=true:=by kernel_rfl
abbrev bM:TypeId:=47
theorem aH:lu ab 47 7=true:=by kernel_rfl
theorem aK:(ab.info? 47).map (·.size)=some 7:=by kernel_rfl
theorem cN:gZ ab 47 [(0,1),(1,1),(2,1),(3,1),(4,1),(5,1),(6,1)]=true:=by kernel_rfl
theorem pJ:cw ab 47 0 0=true:=by kernel_rfl
theorem du:cw ab 47 1 1=true:=by kernel_rfl
theorem f8:cw ab 47 2 2=true:=by kernel_rfl
theorem f7:cw ab 47 3 3=true:=by kernel_rfl
theorem cV:cw ab 47 4 4=true:=by kernel_rfl
theorem xI:cw ab 47 5 5=true:=by kernel_rfl
theorem uw:cw ab 47 6 6=true:=by kernel_rfl
theorem bv:(ab.info? 47).bind (·.zero)=some (.agg #[.int .i64 0,.int .i64 0,.slice none 0 0,.slice none 0 0,.slice none 0 0,.int .i64 0,.int .i64 0]):=by kernel_rfl
theorem m9:pQ ab 48=true:=by kernel_rfl
theorem dX:d7 ab 48 59 7=true:=by kernel_rfl
theorem eE:pn ab 48=true:=by kernel_rfl
theorem Jp:D4 ab 48 59 7 64=true:=by kernel_rfl
theorem ec:pQ ab 52=true:=by kernel_rfl
theorem Cd:(ab.info? 52).map (·.size)=some 1:=by kernel_rfl
theorem ed:d7 ab 52 5 1=true:=by kernel_rfl
theorem eP:pn ab 52=true:=by kernel_rfl
theorem oz:D4 ab 52 5 1 1=true:=by kernel_rfl
theorem CS:(ab.info? 52).bind (·.zero)=some (.slice none 0 0):=by kernel_rfl
abbrev CJ:TypeId:=54
theorem eO:lu ab 54 2=true:=by kernel_rfl
theorem gI:(ab.info? 54).map (·.size)=some 2:=by kernel_rfl
theorem tm:gZ ab 54 [(0,1),(1,1)]=true:=by kernel_rfl
theorem gA:cw ab 54 0 0=true:=by kernel_rfl
theorem ln:cw ab 54 1 1=true:=by kernel_rfl
theorem pK:(ab.info? 54).bind (·.zero)=some (.agg #[.slice none 0 0,.int .i64 0]):=by kernel_rfl
abbrev fP:TypeId:=56
theorem oB:lu ab 56 4=true:=by kernel_rfl
theorem iM:(ab.info? 56).map (·.size)=some 4:=by kernel_rfl
theorem FY:gZ ab 56 [(0,1),(1,2),(3,1)]=true:=by kernel_rfl
theorem dr:cw ab 56 0 0=true:=by kernel_rfl
theorem da:cw ab 56 1 1=true:=by kernel_rfl
theorem d4:cw ab 56 2 3=true:=by kernel_rfl
theorem pH:(ab.info? 56).bind (·.zero)=some (.agg #[.bool false,.slice none 0 0,.int .i64 0,.int .i64 0]):=by kernel_rfl
abbrev dy:TypeId:=59
theorem dI:lu ab 59 7=true:=by kernel_rfl
theorem eV:(ab.info? 59).map (·.size)=some 7:=by kernel_rfl
theorem nV:gZ ab 59 [(0,1),(1,1),(2,1),(3,1),(4,1),(5,1),(6,1)]=true:=by kernel_rfl
theorem nz:cw ab 59 0 0=true:=by kernel_rfl
theorem fk:cw ab 59 1 1=true:=by kernel_rfl
theorem eF:cw ab 59 2 2=true:=by kernel_rfl
theorem fd:cw ab 59 3 3=true:=by kernel_rfl
theorem fc:cw ab 59 4 4=true:=by kernel_rfl
theorem i6:cw ab 59 5 5=true:=by kernel_rfl
theorem p9:cw ab 59 6 6=true:=by kernel_rfl
theorem gh:(ab.info? 59).bind (·.zero)=some (.agg #[.int .i64 0,.int .i64 0,.int .i64 0,.int .i64 0,.int .i64 0,.bool false,.string ⟨#[]⟩]):=by kernel_rfl
abbrev lX:TypeId:=61
theorem jk:pQ ab 61=true:=by kernel_rfl
theorem Es:(ab.info? 61).map (·.size)=some 1:=by kernel_rfl
theorem ip:d7 ab 61 9 1=true:=by kernel_rfl
theorem lO:pn ab 61=true:=by kernel_rfl
theorem vO:D4 ab 61 9 1 16=true:=by kernel_rfl
abbrev eg:TypeId:=63
theorem aM:lu ab 63 3=true:=by kernel_rfl
theorem aP:(ab.info? 63).map (·.size)=some 3:=by kernel_rfl
theorem iI:gZ ab 63 [(0,1),(1,1),(2,1)]=true:=by kernel_rfl
theorem yq:cw ab 63 2 2=true:=by kernel_rfl
theorem dp:(ab.info? 63).bind (·.zero)=some (.agg #[.int .i64 0,.int .i64 0,.slice none 0 0]):=by kernel_rfl
abbrev gd:TypeId:=72
theorem dS:lu ab 72 7=true:=by kernel_rfl
theorem iN:(ab.info? 72).map (·.size)=some 7:=by kernel_rfl
theorem js:gZ ab 72 [(0,1),(1,1),(2,1),(3,1),(4,1),(5,1),(6,1)]=true:=by kernel_rfl
theorem mD:cw ab 72 0 0=true:=by kernel_rfl
theorem fe:cw ab 72 1 1=true:=by kernel_rfl
theorem dW:cw ab 72 2 2=true:=by kernel_rfl
theorem eT:cw ab 72 3 3=true:=by kernel_rfl
theorem Ft:cw ab 72 4 4=true:=by kernel_rfl
theorem Ay:cw ab 72 5 5=true:=by kernel_rfl
theorem jH:cw ab 72 6 6=true:=by kernel_rfl
theorem jD:(ab.info? 72).bind (·.zero)=some (.agg #[.int .i64 0,.string ⟨#[]⟩,.int .i64 0,.int .i64 0,.int .i64 0,.string ⟨#[]⟩,.int .i64 0]):=by kernel_rfl
abbrev vk:TypeId:=76
theorem M3:lu ab 76 4=true:=by kernel_rfl
theorem L7:(ab.info? 76).map (·.size)=some 4:=by kernel_rfl
theorem KZ:cw ab 76 0 0=true:=by kernel_rfl
theorem mB:cw ab 76 1 1=true:=by kernel_rfl
theorem KY:cw ab 76 2 2=true:=by kernel_rfl
theorem lk:cw ab 76 3 3=true:=by kernel_rfl
theorem Ok:(ab.info? 76).bind (·.zero)=some (.agg #[.int .i64 0,.int .i64 0,.int .i64 0,.int .i64 0]):=by kernel_rfl
abbrev cI:TypeId:=89
theorem y8:lu ab 89 7=true:=by kernel_rfl
theorem Hj:(ab.info? 89).map (·.size)=some 7:=by kernel_rfl
theorem Nz:gZ ab 89 [(0,1),(1,1),(2,1),(3,1),(4,1),(5,1),(6,1)]=true:=by kernel_rfl
theorem ol:cw ab 89 0 0=true:=by kernel_rfl
theorem lj:cw ab 89 1 1=true:=by kernel_rfl
theorem gz:cw ab 89 2 2=true:=by kernel_rfl
theorem cT:cw ab 89 3 3=true:=by kernel_rfl
theorem dB:cw ab 89 4 4=true:=by kernel_rfl
theorem tQ:cw ab 89 5 5=true:=by kernel_rfl
theorem jg:cw ab 89 6 6=true:=by kernel_rfl
theorem Hf:(ab.info? 89).bind (·.zero)=some (.agg #[.string ⟨#[]⟩,.int .i64 0,.int .i64 0,.int .i64 0,.slice none 0 0,.int .i64 0,.int .i64 0]):=by kernel_rfl
abbrev df:TypeId:=94
theorem nI:lu ab 94 3=true:=by kernel_rfl
theorem sf:(ab.info? 94).map (·.size)=some 3:=by kernel_rfl
theorem If:gZ ab 94 [(0,1),(1,1),(2,1)]=true:=by kernel_rfl
theorem ot:cw ab 94 0 0=true:=by kernel_rfl
theorem qH:cw ab 94 1 1=true:=by kernel_rfl
theorem iU:cw ab 94 2 2=true:=by kernel_rfl
theorem tg:(ab.info? 94).bind (·.zero)=some (.agg #[.string ⟨#[]⟩,.int .i64 0,.slice none 0 0]):=by kernel_rfl
abbrev ef:TypeId:=99
theorem AQ:lu ab 99 2=true:=by kernel_rfl
theorem zr:(ab.info? 99).map (·.size)=some 2:=by kernel_rfl
theorem ud:gZ ab 99 [(0,1),(1,1)]=true:=by kernel_rfl
theorem jn:cw ab 99 0 0=true:=by kernel_rfl
theorem oq:cw ab 99 1 1=true:=by kernel_rfl
theorem lf:(ab.info? 99).bind (·.zero)=some (.agg #[.int .i64 0,.int .i64 0]):=by kernel_rfl
abbrev bO:TypeId:=104
theorem Ie:gZ ab 104 [(0,11)]=true:=by kernel_rfl
theorem aV:cw ab 104 0 0=true:=by kernel_rfl
theorem JC:(ab.info? 104).bind (·.zero)=some (.agg #[.slice none 0 0,.int .i64 0,.int .i64 0,.int .i64 0,.slice none 0 0,.int .i64 0,.int .i64 0,.int .i64 0,.slice none 0 0,.slice none 0 0,.slice none 0 0]):=by kernel_rfl
theorem E2:oO ab 108 .u64=true:=by kernel_rfl
abbrev t6:TypeId:=127
theorem Id:gZ ab 127 [(0,1),(1,1)]=true:=by kernel_rfl
theorem lU:cw ab 127 0 0=true:=by kernel_rfl
theorem ki:cw ab 127 1 1=true:=by kernel_rfl
theorem JB:(ab.info? 127).bind (·.zero)=some (.agg #[.slice none 0 0,.bool false]):=by kernel_rfl
theorem iQ:Ge ab 137=true:=by kernel_rfl
abbrev fA:TypeId:=140
theorem zq:(ab.info? 140).map (·.size)=some 6:=by kernel_rfl
theorem xm:gZ ab 140 [(0,1),(1,1),(2,1),(3,1),(4,1),(5,1)]=true:=by kernel_rfl
theorem oo:cw ab 140 0 0=true:=by kernel_rfl
theorem Fs:cw ab 140 1 1=true:=by kernel_rfl
theorem tR:cw ab 140 2 2=true:=by kernel_rfl
theorem om:cw ab 140 3 3=true:=by kernel_rfl
theorem yp:cw ab 140 4 4=true:=by kernel_rfl
theorem lV:cw ab 140 5 5=true:=by kernel_rfl
theorem vY:(ab.info? 140).bind (·.zero)=some (.agg #[.string ⟨#[]⟩,.int .i64 0,.int .i64 0,.bool false,.slice none 0 0,.slice none 0 0]):=by kernel_rfl
abbrev FK:TypeId:=187
theorem nN:Ge ab 187=true:=by kernel_rfl
theorem qz:(ab.info? 187).bind (·.zero)=some (.pointer none):=by kernel_rfl
abbrev lK:TypeId:=191
theorem xX:gZ ab 191 [(0,1),(1,1),(2,1),(3,1)]=true:=by kernel_rfl
theorem jN:cw ab 191 0 0=true:=by kernel_rfl
theorem fq:cw ab 191 1 1=true:=by kernel_rfl
theorem d8:cw ab 191 2 2=true:=by kernel_rfl
theorem ib:cw ab 191 3 3=true:=by kernel_rfl
theorem zd:(ab.info? 191).bind (·.zero)=some (.agg #[.int .i64 0,.int .i64 0,.int .i64 0,.int .i64 0]):=by kernel_rfl
theorem v9:d7 ab 199 44 1=true:=by kernel_rfl
theorem IM:pn ab 199=true:=by kernel_rfl
theorem rF:d7 ab 209 52 1=true:=by kernel_rfl
theorem zS:pn ab 209=true:=by kernel_rfl
abbrev qX:FuncId:=6
theorem qr:ab.funcs[(6:Nat)]? =some Tryz.f6:=Tryz.func6
abbrev n9:FuncId:=9
theorem ta:ab.funcs[(9:Nat)]? =some Tryz.f9:=Tryz.func9
theorem tc:bl ab 9=true:=by kernel_rfl
abbrev uF:FuncId:=10
theorem tL:ab.funcs[(10:Nat)]? =some Tryz.f10:=Tryz.func10
theorem ox:bl ab 10=true:=by kernel_rfl
abbrev uY:FuncId:=13
theorem Ao:ab.funcs[(13:Nat)]? =some Tryz.f13:=Tryz.func13
theorem gC:bl ab 13=true:=by kernel_rfl
abbrev vF:FuncId:=16
theorem uH:ab.funcs[(16:Nat)]? =some Tryz.f16:=Tryz.func16
theorem kX:bl ab 16=true:=by kernel_rfl
abbrev Dr:FuncId:=17
theorem BB:ab.funcs[(17:Nat)]? =some Tryz.f17:=Tryz.func17
theorem jO:bl ab 17=true:=by kernel_rfl
abbrev Bs:FuncId:=18
theorem Ar:ab.funcs[(18:Nat)]? =some Tryz.f18:=Tryz.func18
theorem jh:bl ab 18=true:=by kernel_rfl
abbrev Br:FuncId:=19
theorem Ap:ab.funcs[(19:Nat)]? =some Tryz.f19:=Tryz.func19
theorem qe:bl ab 19=true:=by kernel_rfl
abbrev s6:FuncId:=20
theorem sx:ab.funcs[(20:Nat)]? =some Tryz.f20:=Tryz.func20
theorem aJ:bl ab 20=true:=by kernel_rfl
abbrev uE:FuncId:=21
theorem tK:ab.funcs[(21:Nat)]? =some Tryz.f21:=Tryz.func21
theorem tX:bl ab 21=true:=by kernel_rfl
abbrev uD:FuncId:=22
theorem tJ:ab.funcs[(22:Nat)]? =some Tryz.f22:=Tryz.func22
theorem tW:bl ab 22=true:=by kernel_rfl
abbrev Dx:FuncId:=23
theorem BJ:ab.funcs[(23:Nat)]? =some Tryz.f23:=Tryz.func23
theorem BT:bl ab 23=true:=by kernel_rfl
abbrev ym:FuncId:=25
theorem DC:ab.funcs[(25:Nat)]? =some Tryz.f25:=Tryz.func25
theorem mF:bl ab 25=true:=by kernel_rfl
abbrev Bo:FuncId:=26
theorem Ak:ab.funcs[(26:Nat)]? =some Tryz.f26:=Tryz.func26
theorem ku:bl ab 26=true:=by kernel_rfl
abbrev oQ:FuncId:=27
theorem oh:ab.funcs[(27:Nat)]? =some Tryz.f27:=Tryz.func27
theorem jp:bl ab 27=true:=by kernel_rfl
abbrev E6:FuncId:=28
theorem DD:ab.funcs[(28:Nat)]? =some Tryz.f28:=Tryz.func28
theorem jA:bl ab 28=true:=by kernel_rfl
abbrev Ab:FuncId:=29
theorem yJ:ab.funcs[(29:Nat)]? =some Tryz.f29:=Tryz.func29
theorem sV:bl ab 29=true:=by kernel_rfl
abbrev Fb:FuncId:=30
theorem DJ:ab.funcs[(30:Nat)]? =some Tryz.f30:=Tryz.func30
theorem DY:bl ab 30=true:=by kernel_rfl
abbrev nh:FuncId:=31
theorem mT:ab.funcs[(31:Nat)]? =some Tryz.f31:=Tryz.func31
theorem mV:bl ab 31=true:=by kernel_rfl
abbrev rL:FuncId:=32
theorem wF:ab.funcs[(32:Nat)]? =some Tryz.f32:=Tryz.func32
theorem wR:bl ab 32=true:=by kernel_rfl
abbrev Ds:FuncId:=33
theorem BC:ab.funcs[(33:Nat)]? =some Tryz.f33:=Tryz.func33
theorem vf:bl ab 33=true:=by kernel_rfl
abbrev kU:FuncId:=34
theorem kJ:ab.funcs[(34:Nat)]? =some Tryz.f34:=Tryz.func34
theorem kM:bl ab 34=true:=by kernel_rfl
abbrev rK:FuncId:=35
theorem wE:ab.funcs[(35:Nat)]? =some Tryz.f35:=Tryz.func35
theorem wP:bl ab 35=true:=by kernel_rfl
abbrev Ad:FuncId:=36
theorem yL:ab.funcs[(36:Nat)]? =some Tryz.f36:=Tryz.func36
theorem yT:bl ab 36=true:=by kernel_rfl
abbrev uG:FuncId:=37
theorem tO:ab.funcs[(37:Nat)]? =some Tryz.f37:=Tryz.func37
theorem tY:bl ab 37=true:=by kernel_rfl
abbrev jm:FuncId:=38
theorem nk:ab.funcs[(38:Nat)]? =some Tryz.f38:=Tryz.func38
theorem nD:bl ab 38=true:=by kernel_rfl
abbrev GJ:FuncId:=39
theorem Fj:ab.funcs[(39:Nat)]? =some Tryz.f39:=Tryz.func39
theorem yr:bl ab 39=true:=by kernel_rfl
abbrev E3:FuncId:=40
theorem Dz:ab.funcs[(40:Nat)]? =some Tryz.f40:=Tryz.func40
theorem DR:bl ab 40=true:=by kernel_rfl
abbrev qp:FuncId:=41
theorem pY:ab.funcs[(41:Nat)]? =some Tryz.f41:=Tryz.func41
theorem qc:bl ab 41=true:=by kernel_rfl
abbrev Dw:FuncId:=42
theorem BG:ab.funcs[(42:Nat)]? =some Tryz.f42:=Tryz.func42
theorem ry:bl ab 42=true:=by kernel_rfl
abbrev pp:FuncId:=43
theorem oR:ab.funcs[(43:Nat)]? =some Tryz.f43:=Tryz.func43
theorem dG:bl ab 43=true:=by kernel_rfl
abbrev mt:FuncId:=44
theorem l9:ab.funcs[(44:Nat)]? =some Tryz.f44:=Tryz.func44
theorem iD:bl ab 44=true:=by kernel_rfl
abbrev sT:FuncId:=45
theorem xB:ab.funcs[(45:Nat)]? =some Tryz.f45:=Tryz.func45
theorem xL:bl ab 45=true:=by kernel_rfl
abbrev l7:FuncId:=46
theorem lG:ab.funcs[(46:Nat)]? =some Tryz.f46:=Tryz.func46
theorem dn:bl ab 46=true:=by kernel_rfl
abbrev GM:FuncId:=47
theorem Fm:ab.funcs[(47:Nat)]? =some Tryz.f47:=Tryz.func47
theorem FF:bl ab 47=true:=by kernel_rfl
abbrev Fd:FuncId:=48
theorem DK:ab.funcs[(48:Nat)]? =some Tryz.f48:=Tryz.func48
theorem DZ:bl ab 48=true:=by kernel_rfl
abbrev Fa:FuncId:=49
theorem DI:ab.funcs[(49:Nat)]? =some Tryz.f49:=Tryz.func49
theorem DX:bl ab 49=true:=by kernel_rfl
abbrev yn:FuncId:=50
theorem DH:ab.funcs[(50:Nat)]? =some Tryz.f50:=Tryz.func50
theorem mG:bl ab 50=true:=by kernel_rfl
abbrev kc:FuncId:=51
theorem m0:ab.funcs[(51:Nat)]? =some Tryz.f51:=Tryz.func51
theorem td:bl ab 51=true:=by kernel_rfl
abbrev jR:FuncId:=52
theorem mz:ab.funcs[(52:Nat)]? =some Tryz.f52:=Tryz.func52
theorem sK:bl ab 52=true:=by kernel_rfl
abbrev iT:FuncId:=53
theorem jS:ab.funcs[(53:Nat)]? =some Tryz.f53:=Tryz.func53
theorem m3:bl ab 53=true:=by kernel_rfl
abbrev jx:FuncId:=54
theorem lT:ab.funcs[(54:Nat)]? =some Tryz.f54:=Tryz.func54
theorem lW:bl ab 54=true:=by kernel_rfl
abbrev kb:FuncId:=55
theorem mZ:ab.funcs[(55:Nat)]? =some Tryz.f55:=Tryz.func55
theorem m4:bl ab 55=true:=by kernel_rfl
abbrev oe:FuncId:=56
theorem tb:ab.funcs[(56:Nat)]? =some Tryz.f56:=Tryz.func56
theorem m1:bl ab 56=true:=by kernel_rfl
abbrev li:FuncId:=57
theorem qw:ab.funcs[(57:Nat)]? =some Tryz.f57:=Tryz.func57
theorem fY:bl ab 57=true:=by kernel_rfl
abbrev lR:FuncId:=58
theorem rq:ab.funcs[(58:Nat)]? =some Tryz.f58:=Tryz.func58
theorem dQ:bl ab 58=true:=by kernel_rfl
abbrev gx:FuncId:=59
theorem iw:ab.funcs[(59:Nat)]? =some Tryz.f59:=Tryz.func59
theorem ej:bl ab 59=true:=by kernel_rfl
abbrev xz:FuncId:=60
theorem wG:ab.funcs[(60:Nat)]? =some Tryz.f60:=Tryz.func60
theorem bR:bl ab 60=true:=by kernel_rfl
abbrev tG:FuncId:=61
theorem s9:ab.funcs[(61:Nat)]? =some Tryz.f61:=Tryz.func61
theorem iy:bl ab 61=true:=by kernel_rfl
abbrev Dm:FuncId:=62
theorem Bu:ab.funcs[(62:Nat)]? =some Tryz.f62:=Tryz.func62
theorem rv:bl ab 62=true:=by kernel_rfl
abbrev sU:FuncId:=63
theorem xF:ab.funcs[(63:Nat)]? =some Tryz.f63:=Tryz.func63
theorem xN:bl ab 63=true:=by kernel_rfl
abbrev oa:FuncId:=64
theorem nj:ab.funcs[(64:Nat)]? =some Tryz.f64:=Tryz.func64
theorem nC:bl ab 64=true:=by kernel_rfl
abbrev qq:FuncId:=65
theorem p5:ab.funcs[(65:Nat)]? =some Tryz.f65:=Tryz.func65
theorem qd:bl ab 65=true:=by kernel_rfl
abbrev lP:FuncId:=66
theorem rh:ab.funcs[(66:Nat)]? =some Tryz.f66:=Tryz.func66
theorem gj:bl ab 66=true:=by kernel_rfl
abbrev mR:FuncId:=67
theorem my:ab.funcs[(67:Nat)]? =some Tryz.f67:=Tryz.func67
theorem mE:bl ab 67=true:=by kernel_rfl
abbrev kO:FuncId:=68
theorem pZ:ab.funcs[(68:Nat)]? =some Tryz.f68:=Tryz.func68
theorem ff:bl ab 68=true:=by kernel_rfl
abbrev mu:FuncId:=69
theorem nP:ab.funcs[(69:Nat)]? =some Tryz.f69:=Tryz.func69
theorem nR:bl ab 69=true:=by kernel_rfl
abbrev jw:FuncId:=70
theorem lS:ab.funcs[(70:Nat)]? =some Tryz.f70:=Tryz.func70
theorem dC:bl ab 70=true:=by kernel_rfl
abbrev s8:FuncId:=71
theorem sD:ab.funcs[(71:Nat)]? =some Tryz.f71:=Tryz.func71
theorem d5:bl ab 71=true:=by kernel_rfl
abbrev uZ:FuncId:=72
theorem As:ab.funcs[(72:Nat)]? =some Tryz.f72:=Tryz.func72
theorem kz:bl ab 72=true:=by kernel_rfl
abbrev rM:FuncId:=73
theorem rt:ab.funcs[(73:Nat)]? =some Tryz.f73:=Tryz.func73
theorem ls:bl ab 73=true:=by kernel_rfl
abbrev lQ:FuncId:=74
theorem pz:ab.funcs[(74:Nat)]? =some Tryz.f74:=Tryz.func74
theorem wQ:bl ab 74=true:=by kernel_rfl
abbrev wx:FuncId:=75
theorem BH:ab.funcs[(75:Nat)]? =some Tryz.f75:=Tryz.func75
theorem vi:bl ab 75=true:=by kernel_rfl
abbrev GK:FuncId:=76
theorem Fl:ab.funcs[(76:Nat)]? =some Tryz.f76:=Tryz.func76
theorem qL:bl ab 76=true:=by kernel_rfl
abbrev wy:FuncId:=77
theorem BI:ab.funcs[(77:Nat)]? =some Tryz.f77:=Tryz.func77
theorem BS:bl ab 77=true:=by kernel_rfl
abbrev su:FuncId:=78
theorem u7:ab.funcs[(78:Nat)]? =some Tryz.f78:=Tryz.func78
theorem vh:bl ab 78=true:=by kernel_rfl
abbrev Du:FuncId:=79
theorem BE:ab.funcs[(79:Nat)]? =some Tryz.f79:=Tryz.func79
theorem vg:bl ab 79=true:=by kernel_rfl
abbrev Do:FuncId:=80
theorem By:ab.funcs[(80:Nat)]? =some Tryz.f80:=Tryz.func80
theorem BN:bl ab 80=true:=by kernel_rfl
abbrev E8:FuncId:=81
theorem DF:ab.funcs[(81:Nat)]? =some Tryz.f81:=Tryz.func81
theorem DV:bl ab 81=true:=by kernel_rfl
abbrev Dq:FuncId:=82
theorem BA:ab.funcs[(82:Nat)]? =some Tryz.f82:=Tryz.func82
theorem BP:bl ab 82=true:=by kernel_rfl
abbrev E9:FuncId:=83
theorem DG:ab.funcs[(83:Nat)]? =some Tryz.f83:=Tryz.func83
theorem DW:bl ab 83=true:=by kernel_rfl
abbrev E7:FuncId:=84
theorem DE:ab.funcs[(84:Nat)]? =some Tryz.f84:=Tryz.func84
theorem DU:bl ab 84=true:=by kernel_rfl
abbrev Dp:FuncId:=85
theorem Bz:ab.funcs[(85:Nat)]? =some Tryz.f85:=Tryz.func85
theorem BO:bl ab 85=true:=by kernel_rfl
abbrev rb:FuncId:=86
theorem tM:ab.funcs[(86:Nat)]? =some Tryz.f86:=Tryz.func86
theorem AH:bl ab 86=true:=by kernel_rfl
abbrev rc:FuncId:=87
theorem tN:ab.funcs[(87:Nat)]? =some Tryz.f87:=Tryz.func87
theorem AI:bl ab 87=true:=by kernel_rfl
abbrev pq:FuncId:=88
theorem ro:ab.funcs[(88:Nat)]? =some Tryz.f88:=Tryz.func88
theorem BQ:bl ab 88=true:=by kernel_rfl
abbrev pr:FuncId:=90
theorem rp:ab.funcs[(90:Nat)]? =some Tryz.f90:=Tryz.func90
theorem BR:bl ab 90=true:=by kernel_rfl
abbrev jM:FuncId:=91
theorem kg:ab.funcs[(91:Nat)]? =some Tryz.f91:=Tryz.func91
theorem AJ:bl ab 91=true:=by kernel_rfl
abbrev nO:FuncId:=92
theorem p6:ab.funcs[(92:Nat)]? =some Tryz.f92:=Tryz.func92
theorem mH:bl ab 92=true:=by kernel_rfl
abbrev tH:FuncId:=93
theorem sB:ab.funcs[(93:Nat)]? =some Tryz.f93:=Tryz.func93
theorem sJ:bl ab 93=true:=by kernel_rfl
abbrev ww:FuncId:=94
theorem u6:ab.funcs[(94:Nat)]? =some Tryz.f94:=Tryz.func94
theorem ie:bl ab 94=true:=by kernel_rfl
abbrev od:FuncId:=95
theorem pB:ab.funcs[(95:Nat)]? =some Tryz.f95:=Tryz.func95
theorem wS:bl ab 95=true:=by kernel_rfl
abbrev re:FuncId:=96
theorem p7:ab.funcs[(96:Nat)]? =some Tryz.f96:=Tryz.func96
theorem gD:bl ab 96=true:=by kernel_rfl
abbrev Dn:FuncId:=97
theorem Bv:ab.funcs[(97:Nat)]? =some Tryz.f97:=Tryz.func97
theorem BM:bl ab 97=true:=by kernel_rfl
abbrev wu:FuncId:=98
theorem Bx:ab.funcs[(98:Nat)]? =some Tryz.f98:=Tryz.func98
theorem ve:bl ab 98=true:=by kernel_rfl
abbrev ni:FuncId:=99
theorem mU:ab.funcs[(99:Nat)]? =some Tryz.f99:=Tryz.func99
theorem ee:bl ab 99=true:=by kernel_rfl
abbrev ra:FuncId:=100
theorem qv:ab.funcs[(100:Nat)]? =some Tryz.f100:=Tryz.func100
theorem kP:bl ab 100=true:=by kernel_rfl
abbrev wz:FuncId:=101
theorem va:ab.funcs[(101:Nat)]? =some Tryz.f101:=Tryz.func101
theorem i8:bl ab 101=true:=by kernel_rfl
abbrev yE:FuncId:=102
theorem xD:ab.funcs[(102:Nat)]? =some Tryz.f102:=Tryz.func102
theorem kN:bl ab 102=true:=by kernel_rfl
abbrev Dv:FuncId:=103
theorem BF:ab.funcs[(103:Nat)]? =some Tryz.f103:=Tryz.func103
theorem nQ:bl ab 103=true:=by kernel_rfl
abbrev fy:FuncId:=104
theorem ia:ab.funcs[(104:Nat)]? =some Tryz.f104:=Tryz.func104
theorem lq:bl ab 104=true:=by kernel_rfl
abbrev yF:FuncId:=105
theorem xE:ab.funcs[(105:Nat)]? =some Tryz.f105:=Tryz.func105
theorem xM:bl ab 105=true:=by kernel_rfl
abbrev xy:FuncId:=106
theorem wD:ab.funcs[(106:Nat)]? =some Tryz.f106:=Tryz.func106
theorem qM:bl ab 106=true:=by kernel_rfl
abbrev IX:FuncId:=107
theorem GQ:ab.funcs[(107:Nat)]? =some Tryz.f107:=Tryz.func107
theorem kw:bl ab 107=true:=by kernel_rfl
abbrev Cr:FuncId:=108
theorem GP:ab.funcs[(108:Nat)]? =some Tryz.f108:=Tryz.func108
theorem G0:bl ab 108=true:=by kernel_rfl
abbrev z9:FuncId:=109
theorem yH:ab.funcs[(109:Nat)]? =some Tryz.f109:=Tryz.func109
theorem lz:bl ab 109=true:=by kernel_rfl
abbrev z7:FuncId:=110
theorem Fk:ab.funcs[(110:Nat)]? =some Tryz.f110:=Tryz.func110
theorem FE:bl ab 110=true:=by kernel_rfl
abbrev E5:FuncId:=111
theorem DB:ab.funcs[(111:Nat)]? =some Tryz.f111:=Tryz.func111
theorem DT:bl ab 111=true:=by kernel_rfl
abbrev z8:FuncId:=112
theorem yo:ab.funcs[(112:Nat)]? =some Tryz.f112:=Tryz.func112
theorem qK:bl ab 112=true:=by kernel_rfl
abbrev Dt:FuncId:=113
theorem BD:ab.funcs[(113:Nat)]? =some Tryz.f113:=Tryz.func113
theorem gk:bl ab 113=true:=by kernel_rfl
abbrev ss:FuncId:=115
theorem rm:ab.funcs[(115:Nat)]? =some Tryz.f115:=Tryz.func115
theorem ic:bl ab 115=true:=by kernel_rfl
abbrev pV:FuncId:=116
theorem px:ab.funcs[(116:Nat)]? =some Tryz.f116:=Tryz.func116
theorem fB:bl ab 116=true:=by kernel_rfl
abbrev ng:FuncId:=117
theorem mS:ab.funcs[(117:Nat)]? =some Tryz.f117:=Tryz.func117
theorem eZ:bl ab 117=true:=by kernel_rfl
abbrev yl:FuncId:=118
theorem wC:ab.funcs[(118:Nat)]? =some Tryz.f118:=Tryz.func118
theorem wO:bl ab 118=true:=by kernel_rfl
abbrev gO:FuncId:=119
theorem xG:ab.funcs[(119:Nat)]? =some Tryz.f119:=Tryz.func119
theorem io:bl ab 119=true:=by kernel_rfl
abbrev qY:FuncId:=120
theorem qt:ab.funcs[(120:Nat)]? =some Tryz.f120:=Tryz.func120
theorem iG:bl ab 120=true:=by kernel_rfl
abbrev Bp:FuncId:=121
theorem Al:ab.funcs[(121:Nat)]? =some Tryz.f121:=Tryz.func121
theorem tU:bl ab 121=true:=by kernel_rfl
abbrev Bn:FuncId:=122
theorem Aj:ab.funcs[(122:Nat)]? =some Tryz.f122:=Tryz.func122
theorem tT:bl ab 122=true:=by kernel_rfl
abbrev pW:FuncId:=123
theorem py:ab.funcs[(123:Nat)]? =some Tryz.f123:=Tryz.func123
theorem fC:bl ab 123=true:=by kernel_rfl
abbrev Ac:FuncId:=124
theorem yK:ab.funcs[(124:Nat)]? =some Tryz.f124:=Tryz.func124
theorem yS:bl ab 124=true:=by kernel_rfl
abbrev vG:FuncId:=125
theorem uI:ab.funcs[(125:Nat)]? =some Tryz.f125:=Tryz.func125
theorem uK:bl ab 125=true:=by kernel_rfl
abbrev rJ:FuncId:=126
theorem rj:ab.funcs[(126:Nat)]? =some Tryz.f126:=Tryz.func126
theorem lr:bl ab 126=true:=by kernel_rfl
abbrev oc:FuncId:=127
theorem nt:ab.funcs[(127:Nat)]? =some Tryz.f127:=Tryz.func127
theorem nF:bl ab 127=true:=by kernel_rfl
abbrev ob:FuncId:=128
theorem nn:ab.funcs[(128:Nat)]? =some Tryz.f128:=Tryz.func128
theorem nE:bl ab 128=true:=by kernel_rfl
abbrev Aa:FuncId:=129
theorem yI:ab.funcs[(129:Nat)]? =some Tryz.f129:=Tryz.func129
theorem yR:bl ab 129=true:=by kernel_rfl
abbrev lx:FuncId:=130
theorem xC:ab.funcs[(130:Nat)]? =some Tryz.f130:=Tryz.func130
theorem nG:bl ab 130=true:=by kernel_rfl
abbrev rI:FuncId:=131
theorem rg:ab.funcs[(131:Nat)]? =some Tryz.f131:=Tryz.func131
theorem rx:bl ab 131=true:=by kernel_rfl
abbrev oP:FuncId:=132
abbrev Bq:FuncId:=134
theorem Am:ab.funcs[(134:Nat)]? =some Tryz.f134:=Tryz.func134
theorem tV:bl ab 134=true:=by kernel_rfl
abbrev E4:FuncId:=135
theorem DA:ab.funcs[(135:Nat)]? =some Tryz.f135:=Tryz.func135
theorem DS:bl ab 135=true:=by kernel_rfl
abbrev s7:FuncId:=136
abbrev Bm:FuncId:=138
theorem Ai:ab.funcs[(138:Nat)]? =some Tryz.f138:=Tryz.func138
theorem AG:bl ab 138=true:=by kernel_rfl
abbrev qZ:FuncId:=139
theorem qu:ab.funcs[(139:Nat)]? =some Tryz.f139:=Tryz.func139
theorem qx:bl ab 139=true:=by kernel_rfl
abbrev yG:FuncId:=140
theorem xH:ab.funcs[(140:Nat)]? =some Tryz.f140:=Tryz.func140
theorem xO:bl ab 140=true:=by kernel_rfl
abbrev mr:FuncId:=141
theorem l8:ab.funcs[(141:Nat)]? =some Tryz.f141:=Tryz.func141
theorem mb:bl ab 141=true:=by kernel_rfl
abbrev wv:FuncId:=142
theorem vH:ab.funcs[(142:Nat)]? =some Tryz.f142:=Tryz.func142
theorem vN:bl ab 142=true:=by kernel_rfl
abbrev pU:FuncId:=145
theorem pw:ab.funcs[(145:Nat)]? =some Tryz.f145:=Tryz.func145
theorem pF:bl ab 145=true:=by kernel_rfl
abbrev l6:FuncId:=148
theorem lF:ab.funcs[(148:Nat)]? =some Tryz.f148:=Tryz.func148
theorem lJ:bl ab 148=true:=by kernel_rfl
end
structure cQ where
 epoch:Int
 pid:Int
 ver:Int
 seq:Int
 kind:Int
 txn:Bool
 text:ByteArray
 deriving DecidableEq
def cQ.c (e:cQ):List Value:=[.int .i64 e.epoch,.int .i64 e.pid,.int .i64 e.ver,.int .i64 e.seq,.int .i64 e.kind,.bool e.txn,.string e.text]
abbrev cQ.v (e:cQ):Value:=.agg e.c.toArray
def gQ:fo cQ:=⟨cQ.c,7,fun _=>rfl,by decide,fun a u hu=>by
 simp only[cQ.c,ay,cd,or_false]at hu
 rcases hu with h|h|h|h|h|h|h<;>subst h<;>rfl⟩
def bW:fo Int:=⟨fun n=>[.int .i64 n],1,fun _=>rfl,by decide,fun a u hu=>by
 simp only[ay,cd,or_false]at hu
 subst hu;rfl⟩
def dE:fo UInt8:=⟨fun n=>[.int .u8 n.toNat],1,fun _=>rfl,by decide,fun a u hu=>by
 simp only[ay,cd,or_false]at hu
 subst hu;rfl⟩
def m6:fo ByteArray:=⟨fun s=>[.string s],1,fun _=>rfl,by decide,fun a u hu=>by
 simp only[ay,cd,or_false]at hu
 subst hu;rfl⟩
def B7:Nat->Nat->List UInt8->Nat
 |_,n,[]=>n
 |i,n,c::l=>B7 (i+1) ((n+(i+1)*c.toNat)%65521) l
def mj (l:List UInt8):Nat:=B7 0 0 l
theorem Ek: ∀ (l:List UInt8) (i n:Nat),n<65521->B7 i n l<65521
 |[],_,_,h=>h
 |_::l,i,_,_=>Ek l (i+1) _ (jC _ (by decide))
theorem C0 (l:List UInt8):mj l<65521:=Ek l 0 0 (by decide)
theorem JP (l:List UInt8) (A:Option Addr) (c:Nat) (w:World) (hr:Rd dE 0 w.heap.size A l w) (hb:l.length<=1000000000000000):
  dg ab GJ [.slice A l.length c] w fun v w2=>v=J (mj l:Nat)/\Below w.heap.size w w2:=by
 refine aF Fj Z Z ?_
 have H:=Hp.start w
 refine W ?_
 refine Zr ?_
 refine oT Z Z ?_
 refine U<|W ?_
 refine Zr ?_
 refine oT Z Z ?_
 refine U<|W<|W ?_
 refine Zr ?_
 refine mc Z Z ?_
 refine uC eP Z Z ?_
 refine iz Z Z ?_
 refine U<|Zb ?_
 refine cy (τ:=Nat×Nat) [3,4,5,8,9,10,11,12,13,14,15,16,17,18,19,20,21] (fun x=>[(3,J x.1),(8,J x.2)]) (fun x w'=>x.1<65521/\x.2<=l.length/\Hp w w' [] []/\B7 x.2 x.1 (l.drop x.2)=mj l) (fun x=>l.length-x.2) (0,0) ⟨by decide,by simp,H,rfl⟩ (la Z Z) ?_
 rintro⟨m,k⟩ ρ1 w1 ⟨hm,hk,H,hs⟩
 show CW _ _ _ _ (dH (gJ _ _ ρ1) [(3,J (m:Nat)),(8,J (k:Nat))]) w1
 refine W ?_
 refine Zr ?_
 refine Gz Z Z Z (fun h9=> ?_) (fun h9=> ?_)
 all_goals refine nf ?_
 all_goals refine AD ?_
 ·refine pE Z ?_
  refine Zk ?_
  have hkl:k<l.length:=by omega
  obtain⟨b,o,rfl,-,hbl,hcl⟩:=hr.at_ hkl
  have hd:l.drop k=l[k]::l.drop (k+1):=mN hkl
  have h256:l[k].toNat<256:=UInt8.toNat_lt _
  generalize hc:l[k]=x at*
  have hmul:(k+1)*x.toNat<=(k+1)*256:=Nat.mul_le_mul_left _ I
  have hmul2:((k:Int)+1)*(x.toNat:Int)=(((k+1)*x.toNat:Nat):Int):=by simp
  refine W<|Zb<|W ?_
  refine Zr ?_
  refine iz Z Z ?_
  refine Oi ed Z Z I I Z ?_
  refine ld mo Z ((H.below.cell (p:=⟨b,_,none⟩) hbl).trans (hcl 0 _ Z)) Z ?_
  refine oT Z Z ?_
  refine oT Z Z ?_
  refine U ?_
  refine Zr ?_
  refine iz Z Z ?_
  refine iz Z Z ?_
  refine add Z Z I I Z ?_
  refine iz Z Z ?_
  refine MW ir iv Z (uN I) Z ?_
  refine mul Z Z I I Z ?_
  refine add Z Z I I Z ?_
  refine rem Z Z I I Z ?_
  refine oT Z Z ?_
  refine U ?_
  refine Zr ?_
  refine add Z Z I I Z ?_
  refine iz Z Z ?_
  refine U ?_
  refine⟨((m+(k+1)*x.toNat)%65521,k+1),⟨jC _ (by decide),by omega,H,?_⟩,?_,by repeat (first|exact mI|refine lB Z ?_|refine jI _ Z ?_),by show l.length- (k+1)<l.length-k;omega⟩
  ·rw[<-hs,hd,B7]
  ·intro p hp
   simp only[ay,cd,or_false]at hp
   rcases hp with rfl|rfl
   ·show Value.int .i64 _=Value.int .i64 _
    congr 1
   ·rfl
 ·refine ov Z ?_
  refine Zx ?_
  have hkl:k=l.length:=by omega
  subst hkl
  simp only[fv,B7]at hs
  subst hs
  refine W ?_
  refine Zr ?_
  refine iz Z Z ?_
  refine oT Z Z ?_
  refine U<|Zt ?_
  exact cH Z Z ⟨rfl,H.below⟩
/-- a number in as few bytes as may be -/
def yD (n:Nat):List UInt8:=if h:n<=127 then [UInt8.ofNat n]else UInt8.ofNat (n%128+128)::yD (n/128)
termination_by n
decreasing_by omega
theorem ui {n:Nat} (h:n<=127):yD n=[UInt8.ofNat n]:=by rw[yD,dif_pos h]
theorem Dc {n:Nat} (h:127<n):yD n=UInt8.ofNat (n%128+128)::yD (n/128):=by rw[yD,dif_neg I]
theorem LB (n:Nat):n&&&127=n%128:=Nat.and_two_pow_sub_one_eq_mod n 7
theorem Ou (n:Nat) (h:n<128):n|||128=n+128:=by
 have:=rZ (i:=7) (b:=n) (by simpa using h) 1
 rw[Nat.or_comm];simp at this;omega
theorem Of (n:Nat) (h:n<256):((UInt8.ofNat n).toNat:Int)=n:=by
 simp[gU h]
theorem Hs: ∀ (k n:Nat),n<128 ^ k->(yD n).length<=max k 1
 |0,n,h=>by
  have:n=0:=by simpa using h
  subst this;rw[ui I];simp
 |k+1,n,h=>by
  by_cases hn:n<=127
  rw[ui hn];simp
  have:=Hs k (n/128) (by rw[Nat.pow_succ]at h;exact yx I)
  rw[Dc I]
  simp only[bS]
  have hk:k≠0:=by
   rintro rfl
   simp at h;omega
  omega
theorem IH {w0 w:World} {F:List cz} {K M L:List (Nat×Obj)} {es:List UInt8} {A:Option Addr} {c:Nat} (n:Nat) (H:Hp w0 w (K++L++M) F) (ho:gm dE (.slice A es.length c) mJ es L) (hn:n<4611686018427387904) (hb:es.length+n<140737488355328):
  dg ab Bm [.slice A es.length c,J n] w fun v w2=> ∃ A' c' L',v=.slice A' (es++yD n).length c'/\gm dE (.slice A' (es++yD n).length c') mJ (es++yD n) L'/\Hp w0 w2 (K++L'++M) F:=by
 refine aF Ai Z Z ?_
 refine W ?_
 refine Zr ?_
 refine uL Z Z ?_
 refine U<|W<|Zb ?_
 refine cy (τ:=Option Addr×Nat×List UInt8×Nat) [0,1,5,6,7,8,9,10,11,12,13,15,14] (fun(A,c,l,m)=>[(0,.slice A l.length c),(1,J m)])
  (fun(A,c,l,m) w'=>m<4611686018427387904/\l.length+m<140737488355328/\l++yD m=es++yD n/\ ∃ L',gm dE (.slice A l.length c) mJ l L'/\Hp w0 w' (K++L'++M) F) (fun(_,_,_,m)=>m) (A,c,es,n) ⟨hn,hb,rfl,L,ho,H⟩ (la Z Z) ?_
 rintro⟨A1,c1,l,m⟩ ρ1 w1 ⟨hm,hb1,hl,L1,ho1,H1⟩
 show CW _ _ _ _ (dH (gJ _ _ ρ1) [(0,.slice A1 l.length c1),(1,J (m:Nat))]) w1
 refine W<|W ?_
 refine Zr ?_
 refine iz Z Z ?_
 refine IY Z Z Z (fun h6=> ?_) (fun h6=> ?_)
 all_goals refine nf ?_
 ·refine pE Z ?_
  refine Zk ?_
  have hmod:m%128<128:=jC _ (by decide)
  refine Zb<|W ?_
  refine Zr ?_
  refine mc Z Z ?_
  refine iz Z Z ?_
  refine G (Ns (b:=127) Z Z I I) ?_
  rw[LB]
  refine G (Mn (b:=128) Z Z I I) ?_
  rw[Ou _ hmod]
  refine MW iv ir Z (BX I) Z ?_
  refine sW (vs:=[.int .u8 _]) H1 ed ze Z Z Z Z Z Z ?_;intro w2 b12 H2
  refine vQ (Y:=dE) oz (K:=(b12,_)::K) (L:=L1) (M:=M) H2 ho1 (news:=[UInt8.ofNat (m%128+128)]) Z Z Z ?_ ?_ Z ?_
  ·have:=vT.row (m:=1) (sz:=1) (H2.ent (i:=0) Z) Z
   have e:dE.all [UInt8.ofNat (m%128+128)]=[.int .u8 ((m%128+128:Nat):Int)]:=by
    show [Value.int .u8 _]=_
    rw[Of _ I]
   rw[e]
   exact this
  ·simp only[bU];omega
  intro A3 c3 w3 L3 _ _ ho3 H3
  refine uL Z Z ?_
  refine U ?_
  refine Zr ?_
  refine iz Z Z ?_
  refine G (Nc (b:=7) Z Z I) ?_
  refine oT Z Z ?_
  refine U ?_
  refine⟨(A3,c3,l++[UInt8.ofNat (m%128+128)],m/2 ^ 7),⟨by omega,by simp;omega,?_,L3,ho3,H3.forget (by simp) (fun _ h=>h)⟩,la Z Z,by repeat (first|exact mI|refine lB Z ?_|refine jI _ Z ?_),by show m/2 ^ 7<m;omega⟩
  rw[<-hl,Dc (n:=m) I];simp
 ·refine ov Z ?_
  refine Zx<|W ?_
  refine Zr ?_
  refine mc Z Z ?_
  refine iz Z Z ?_
  refine MW iv ir Z (BX I) Z ?_
  refine sW (vs:=[.int .u8 _]) H1 ed ze Z Z Z Z Z Z ?_;intro w2 b19 H2
  refine vQ (Y:=dE) oz (K:=(b19,_)::K) (L:=L1) (M:=M) H2 ho1 (news:=[UInt8.ofNat m]) Z Z Z ?_ ?_ Z ?_
  ·have:=vT.row (m:=1) (sz:=1) (H2.ent (i:=0) Z) Z
   have e:dE.all [UInt8.ofNat m]=[.int .u8 (m:Int)]:=by
    show [Value.int .u8 _]=_
    rw[Of _ I]
   rw[e]
   exact this
  ·simp only[bU];omega
  intro A3 c3 w3 L3 _ _ ho3 H3
  refine uL Z Z ?_
  refine U<|Zt ?_
  rw[ui I]at hl
  rw[hl]at ho3
  refine cH Z (v:=.slice A3 (es++yD n).length c3) (by rw[<-hl];rfl) ⟨A3,c3,L3,rfl,ho3,H3.forget (by simp) (fun _ h=>h)⟩
def iS (n:Int):Bool:=decide (0<=n)&&decide (n<=1073741824)
theorem ur {n:Int} (h:iS n=true):0<=n/\n<=1073741824:=by simpa [iS]using h
theorem ML {n:Int} (h: ¬ iS n=true):n<0∨1073741824<n:=by
 simp[iS]at h;omega
def cQ.nums (e:cQ):List Int:=[e.epoch,e.pid,e.ver,e.seq]
def cQ.noForm (e:cQ):Prop:=(e.kind≠1/\(e.pid=0∨e.txn=false∨e.seq≠0∨e.text≠⟨#[]⟩))∨(e.pid=0/\(e.txn=true∨0<e.ver+e.seq))
instance (e:cQ):Decidable e.noForm:=by unfold cQ.noForm;infer_instance
def eK (e:cQ):Int:=
 if e.kind<1∨3<e.kind then 3
 else if¬ e.nums.all iS=true then 2
 else if 40<e.text.size then 1
 else if e.noForm then 4 else 0
theorem xj (e:cQ) (w:World):dg ab Dm [e.v] w fun v w2=>v=J (eK e)/\Below w.heap.size w w2:=by
 refine aF Bu Z Z ?_
 have H:=Hp.start w
 refine W ?_
 refine Zr ?_
 refine fW H Z Z ?_;intro w1 b1 H
 refine oT Z Z ?_
 refine U<|W<|W ?_
 refine Zr ?_
 refine rY fc Z Z ?_
 refine vE H 0 ak Z Z Z Z ?_
 refine Gz Z Z Z (fun h7=> ?_) (fun h7=> ?_)
 ·have hE:eK e=3:=by unfold eK;rw[if_pos (.inl h7)]
  refine zG Z Z ?_
  iterate 3 refine rH Z Z Z ?_
  refine wh Z Z Z ?_
  refine U<|ZT Z<|W ?_
  refine Zr ?_
  refine oT Z Z ?_
  refine U<|Zt ?_
  exact cH (v:=J 3) Z Z ⟨by rw[hE],H.below⟩
 refine zG Z Z ?_
 refine ZG ?_
 refine rY fc Z Z ?_
 refine ZG ?_
 refine vE H 0 ak Z Z Z Z ?_
 refine ZG ?_
 refine IY Z Z Z (fun h11=> ?_) (fun h11=> ?_)
 ·have hE:eK e=3:=by unfold eK;rw[if_pos (.inr h11)]
  refine si Z Z Z ?_
  refine U<|ZT Z<|W ?_
  refine Zr ?_
  refine oT Z Z ?_
  refine U<|Zt ?_
  exact cH (v:=J 3) Z Z ⟨by rw[hE],H.below⟩
 refine si Z Z Z ?_
 refine U<|ZF Z<|Zk ?_
 have hk0: ¬ (e.kind<1∨3<e.kind):=by omega
 refine W<|W ?_
 refine Zr ?_
 refine rY nz Z Z ?_
 refine vE H 0 ak Z Z Z Z ?_
 refine rY fk Z Z ?_
 refine vE H 0 ak Z Z Z Z ?_
 refine rY eF Z Z ?_
 refine vE H 0 ak Z Z Z Z ?_
 refine rY fd Z Z ?_
 refine vE H 0 ak Z Z Z Z ?_
 refine sW (vs:=[J _,J _,J _,J _]) H aT vX Z Z Z Z Z Z ?_;intro w2 b21 H
 refine uC eJ Z Z ?_
 refine iz Z Z ?_
 refine U<|Zb ?_
 have hns: ∀ k,k<4->(p8 [J e.epoch,J e.pid,J e.ver,J e.seq]).toArray[0+k*1]? =some (J (e.nums.getD k 0)):=by
  intro k hk
  have:k=0∨k=1∨k=2∨k=3:=by omega
  rcases this with rfl|rfl|rfl|rfl<;>rfl
 have hmem: ∀ k,k<4->e.nums.getD k 0∈e.nums:=by
  intro k hk
  have:k=0∨k=1∨k=2∨k=3:=by omega
  rcases this with rfl|rfl|rfl|rfl<;>simp[cQ.nums]
 refine cy (τ:=Nat) [4,23,24,25,26,27,28,29,30,31,32,33,2] (fun k=>[(23,J k)]) (fun k w'=>k<=4/\(∀ j,j<k->(e.nums.getD j 0|>iS)=true)/\Hp w w' [(b21,_),(b1,_)] []) (fun k=>4-k) 0 ⟨by omega,by simp,H⟩ (dJ Z) ?_
 rintro k ρ1 w1 ⟨hk4,hgood,H⟩
 refine W ?_
 refine Zr ?_
 refine Gz Z Z Z (fun h24=> ?_) (fun h24=> ?_)
 all_goals refine nf ?_
 all_goals refine AD ?_
 ·refine pE Z ?_
  refine Zk ?_
  have hk:k<4:=by omega
  have hns:=hns k hk
  have hm:=hmem k hk
  generalize hx:e.nums.getD k 0=x at hns hm
  refine W<|Zb<|W ?_
  refine Zr ?_
  refine Oi aT Z Z I I Z ?_
  refine vE H 0 ak Z Z hns Z ?_
  refine oT Z Z ?_
  refine U<|W ?_
  refine Zr ?_
  refine iz Z Z ?_
  by_cases hin:iS x=true
  ·obtain⟨h0,h1⟩:=ur hin
   refine NP Z Z I Z ?_
   refine zG Z Z ?_
   refine ZG ?_
   refine iz Z Z ?_
   refine ZG ?_
   refine NV Z Z I Z ?_
   refine si Z Z Z ?_
   refine U<|ZF Z<|Zk ?_
   refine Zr ?_
   refine add Z Z I I Z ?_
   refine iz Z Z ?_
   refine U ?_
   refine⟨k+1,⟨by omega,fun j hj=> ?_,H⟩,dJ Z,by repeat (first|exact mI|refine lB Z ?_|refine jI _ Z ?_),by show 4- (k+1)<4-k;omega⟩
   by_cases hjk:j=k
   ·subst hjk;rw[hx];exact hin
   ·exact hgood j I
  ·have hE:eK e=2:=by
    unfold eK
    rw[if_neg hk0,if_pos]
    intro ha
    exact hin (eh.1 ha x hm)
   have hbad:=ML hin
   by_cases h0:x<0
   ·refine Ow Z Z h0 Z ?_
    refine zG Z Z ?_
    iterate 2 refine rH Z Z Z ?_
    refine wh Z Z Z ?_
    refine U<|ZT Z<|W ?_
    refine Zr ?_
    refine oT Z Z ?_
    refine U<|Zt ?_
    exact cH (v:=J 2) Z Z ⟨by rw[hE],H.below⟩
   ·refine NP Z Z h0 Z ?_
    refine zG Z Z ?_
    refine ZG ?_
    refine iz Z Z ?_
    refine ZG ?_
    refine NU Z Z I Z ?_
    refine si Z Z Z ?_
    refine U<|ZT Z<|W ?_
    refine Zr ?_
    refine oT Z Z ?_
    refine U<|Zt ?_
    exact cH (v:=J 2) Z Z ⟨by rw[hE],H.below⟩
 ·refine ov Z ?_
  refine Zx ?_
  have hk:k=4:=by omega
  subst hk
  have hall:e.nums.all iS=true:=by
   have g0:=hgood 0 I
   have g1:=hgood 1 I
   have g2:=hgood 2 I
   have g3:=hgood 3 I
   simp only[cQ.nums,List.getD_cons_zero,List.getD_cons_succ]at g0 g1 g2 g3
   simp[cQ.nums,g0,g1,g2,g3]
  have hv:=ur (eh.1 hall e.ver (by simp[cQ.nums]))
  have hs:=ur (eh.1 hall e.seq (by simp[cQ.nums]))
  refine W<|W ?_
  refine Zr ?_
  refine rY p9 Z Z ?_
  refine vE H 1 bc Z Z Z Z ?_
  refine O6 jr Z Z ?_
  refine IY Z Z Z (fun h37=> ?_) (fun h37=> ?_)
  all_goals refine nf ?_
  ·refine pE Z ?_
   refine W ?_
   refine Zr ?_
   refine oT Z Z ?_
   refine U<|Zt ?_
   have hE:eK e=1:=by
    unfold eK
    rw[if_neg hk0,if_neg (by simpa using hall),if_pos I]
   exact cH (v:=J 1) Z Z ⟨by rw[hE],H.below⟩
  refine ZF Z<|Zk ?_
  have hE:eK e=if e.noForm then 4 else 0:=by
   unfold eK
   rw[if_neg hk0,if_neg (by simpa using hall),if_neg I]
  refine W<|W ?_
  refine Zr ?_
  by_cases hx:e.text=⟨#[]⟩
  all_goals cases ht:e.txn
  all_goals (have h5:e.c.toArray[0+5]? =some (.bool e.txn):=rfl;rw[ht]at h5)
  all_goals (refine rY fc Z Z ?_)
  all_goals (refine vE H 1 ak Z Z Z Z ?_)
  all_goals (refine Ov Z Z Z (fun _=> ?_) (fun _=> ?_))
  all_goals (refine zG Z Z ?_)
  all_goals first|refine rH Z Z Z ?_|(refine tz Z ?_;(refine rY fk Z Z ?_))
  all_goals first|refine rH Z Z Z ?_|(refine tz Z ?_;(refine vE H 1 ak Z Z Z Z ?_))
  all_goals first|refine rH Z Z Z ?_|(refine tz Z ?_;(refine K5 Z Z Z (fun _=> ?_) (fun _=> ?_)))
  all_goals first|refine rH Z Z Z ?_|(refine tz Z ?_;(refine zG Z Z ?_))
  all_goals first|refine rH Z Z Z ?_|(refine tz Z ?_;(refine rY i6 Z Z ?_))
  all_goals first|refine rH Z Z Z ?_|(refine tz Z ?_;(refine vE H 1 dV Z Z h5 Z ?_))
  all_goals first|refine rH Z Z Z ?_|(refine tz Z ?_;(refine not Z Z ?_))
  all_goals first|refine rH Z Z Z ?_|(refine tz Z ?_;(first|refine wh Z Z Z ?_|refine si Z Z Z ?_))
  all_goals first|refine rH Z Z Z ?_|(refine tz Z ?_;(refine zG Z Z ?_))
  all_goals first|refine rH Z Z Z ?_|(refine tz Z ?_;(refine rY fd Z Z ?_))
  all_goals first|refine rH Z Z Z ?_|(refine tz Z ?_;(refine vE H 1 ak Z Z Z Z ?_))
  all_goals first|refine rH Z Z Z ?_|(refine tz Z ?_;(refine Ov Z Z Z (fun _=> ?_) (fun _=> ?_)))
  all_goals first|refine rH Z Z Z ?_|(refine tz Z ?_;(first|refine wh Z Z Z ?_|refine si Z Z Z ?_))
  all_goals first|refine rH Z Z Z ?_|(refine tz Z ?_;(refine zG Z Z ?_))
  all_goals first|refine rH Z Z Z ?_|(refine tz Z ?_;(refine rY p9 Z Z ?_))
  all_goals first|refine rH Z Z Z ?_|(refine tz Z ?_;(refine vE H 1 bc Z Z Z Z ?_))
  all_goals first|refine rH Z Z Z ?_|(refine tz Z ?_;(first|refine l1 (LY Z Z hx) Z Z Z ?_|refine l1 (LZ Z Z hx) Z Z Z ?_))
  all_goals first|refine rH Z Z Z ?_|(refine tz Z ?_;(first|refine wh Z Z Z ?_|refine si Z Z Z ?_))
  all_goals (first|refine wh Z Z Z ?_|refine si Z Z Z ?_)
  all_goals (refine zG Z Z ?_)
  all_goals first|refine rH Z Z Z ?_|(refine tz Z ?_;(refine rY fk Z Z ?_))
  all_goals first|refine rH Z Z Z ?_|(refine tz Z ?_;(refine vE H 1 ak Z Z Z Z ?_))
  all_goals first|refine rH Z Z Z ?_|(refine tz Z ?_;(refine K5 Z Z Z (fun _=> ?_) (fun _=> ?_)))
  all_goals first|refine rH Z Z Z ?_|(refine tz Z ?_;(refine zG Z Z ?_))
  all_goals first|refine rH Z Z Z ?_|(refine tz Z ?_;(refine rY i6 Z Z ?_))
  all_goals first|refine rH Z Z Z ?_|(refine tz Z ?_;(refine vE H 1 dV Z Z h5 Z ?_))
  all_goals first|refine rH Z Z Z ?_|(refine tz Z ?_;(refine zG Z Z ?_))
  all_goals first|refine rH Z Z Z ?_|(refine tz Z ?_;(refine rY eF Z Z ?_))
  all_goals first|refine rH Z Z Z ?_|(refine tz Z ?_;(refine vE H 1 ak Z Z Z Z ?_))
  all_goals first|refine rH Z Z Z ?_|(refine tz Z ?_;(refine rY fd Z Z ?_))
  all_goals first|refine rH Z Z Z ?_|(refine tz Z ?_;(refine vE H 1 ak Z Z Z Z ?_))
  all_goals first|refine rH Z Z Z ?_|(refine tz Z ?_;(refine add Z Z I I Z ?_))
  all_goals first|refine rH Z Z Z ?_|(refine tz Z ?_;(refine IY Z Z Z (fun _=> ?_) (fun _=> ?_)))
  all_goals first|refine rH Z Z Z ?_|(refine tz Z ?_;(first|refine wh Z Z Z ?_|refine si Z Z Z ?_))
  all_goals first|refine rH Z Z Z ?_|(refine tz Z ?_;(first|refine wh Z Z Z ?_|refine si Z Z Z ?_))
  all_goals (first|refine wh Z Z Z ?_|refine si Z Z Z ?_)
  all_goals refine nf ?_
  all_goals first
   |(
     refine pE Z ?_
     refine W ?_
     refine Zr ?_
     refine oT Z Z<|U<|Zt ?_
     exact cH (v:=J 4) Z Z ⟨by rw[hE,if_pos (by simp[cQ.noForm, *])],H.below⟩)
   |(
     refine ov Z ?_
     refine Zk<|W ?_
     refine Zr ?_
     refine oT Z Z<|U<|Zt ?_
     exact cH (v:=J 0) Z Z ⟨by rw[hE,if_neg (by simp[cQ.noForm, *]<;>omega)],H.below⟩)
def n8 (e:cQ):UInt8:=UInt8.ofNat (e.kind.toNat+if e.txn then 16 else 0)
def n6 (l:List Int):List UInt8:=l.flatMap fun n=>yD n.toNat
def eQ (e:cQ):List UInt8:=n8 e::n6 e.nums++e.text.data.toList
def iF (e:cQ):List UInt8:=UInt8.ofNat (eQ e).length::eQ e++[UInt8.ofNat (mj (eQ e)/256),UInt8.ofNat (mj (eQ e)%256)]
theorem Nu (n:Nat):IntKind.u8.wrap (n:Int)=(n%256:Nat):=by
 simp[IntKind.wrap,IntKind.signed,IntKind.bits]
theorem OI (s:ByteArray):dE.all s.data.toList=Lib.strCells s:=by
 unfold fo.all Lib.strCells
 show List.flatMap (fun n:UInt8=>[Value.int .u8 n.toNat]) _=_
 induction s.data.toList with
 |nil=>rfl
 |cons a l ih=>simp only[gg,eM,ih];rfl
theorem qI {e:cQ} (h:eK e=0):1<=e.kind/\e.kind<=3/\(∀ n∈e.nums,0<=n/\n<=1073741824)/\e.text.size<=40/\ ¬ e.noForm:=by
 unfold eK at h
 split at h;· omega
 split at h;· omega
 split at h;· omega
 split at h;· omega
 rename_i h1 h2 h3 h4
 refine⟨by omega,by omega,fun n hn=> ?_,by omega,h4⟩
 have:=eh.1 (Classical.not_not.1 h2) n hn
 exact ur this
theorem xt: ∀ (l:List Int),(∀ n∈l,0<=n/\n<=1073741824)->(n6 l).length<=5*l.length
 |[],_=>by simp[n6]
 |n::l,h=>by
  have h1:=xt l fun m hm=>h m (al _ hm)
  have h2:=h n (aC ..)
  have h3:=Hs 5 n.toNat I
  simp only[n6,gg,az,bS]at*
  omega
theorem uz {e:cQ} (h:eK e=0):(eQ e).length<=61/\0<(eQ e).length:=by
 obtain⟨_,_,h3,h4,_⟩:=qI h
 have:=xt _ h3
 have hs:e.text.data.toList.length=e.text.size:=by rw[cr];rfl
 simp only[eQ,az,bS,hs]
 have h4':e.nums.length=4:=rfl
 omega
theorem Cy (e:cQ) (w:World) (h:eK e=0):dg ab Bn [e.v] w fun v w2=> ∃ A c,v=.tuple #[.slice A (iF e).length c,J 0]/\Rd dE w.heap.size w2.heap.size A (iF e) w2/\(iF e).length<=c/\Below w.heap.size w w2:=by
 obtain⟨hk1,hk3,hnn,htx,-⟩:=qI h
 obtain⟨hl61,hl0⟩:=uz h
 refine aF Aj Z Z ?_
 have H:=Hp.start w
 refine W ?_
 refine Zr ?_
 refine fW H Z Z ?_;intro w1 b1 H
 refine uL Z Z ?_
 refine oT Z Z ?_
 refine U<|W<|W ?_
 refine Zr ?_
 refine Po H 0 dI Z Z Z Z ?_
 refine ch rv (xj e _) Z Z ?_;rintro _ w2 ⟨rfl,hb2⟩;replace H:=H.later hb2
 refine oT Z Z ?_
 refine U<|W ?_
 refine Zr ?_
 refine iz Z Z ?_
 refine G (ce Z Z h)<|U<|ZF Z<|Zk<|W ?_
 refine Zr ?_
 refine rY fc Z Z ?_
 refine vE H 0 ak Z Z Z Z ?_
 refine oT Z Z ?_
 refine U<|W ?_
 obtain⟨k,hk⟩: ∃ k:Nat,e.kind=k:=⟨e.kind.toNat,by omega⟩
 have hkB:n8 e=UInt8.ofNat (k+if e.txn then 16 else 0):=by unfold n8;rw[hk];rfl
 refine eG (τ:=Unit) [17,18,19,20,5] (fun _=>[(5,J (k+if e.txn then 16 else 0:Nat))]) (fun _ w'=>Hp w w' [(b1,.cells e.c.toArray dy)] []) ?_ ?_
 ·refine AD ?_
  refine Zr ?_
  refine rY i6 Z Z ?_
  refine vE H 0 dV Z Z Z Z ?_
  refine U ?_
  refine jo (b:=e.txn) Z (fun ht=> ?_) (fun ht=> ?_)
  ·refine Je ?_
   refine iz Z Z ?_
   have h16:k|||16=k+16:=by
    have:k=1∨k=2∨k=3:=by omega
    rcases this with rfl|rfl|rfl<;>rfl
   rw[hk]
   refine G (Mn (a:=k) (b:=16) Z Z I I) ?_
   rw[h16]
   refine oT Z Z ?_
   refine U ?_
   refine⟨(),H,dJ (by rw[ht];rfl),by repeat (first|exact D8.refl _ _|exact mI|refine lB Z ?_|refine jI _ Z ?_)⟩
  ·refine MU ?_
   rw[hk]
   refine⟨(),H,dJ (by rw[ht];rfl),by repeat (first|exact D8.refl _ _|exact mI|refine lB Z ?_|refine jI _ Z ?_)⟩
 rintro _ ρ1 w3 H
 show CW _ _ _ _ (dH (gJ _ _ ρ1) [(5,J (k+if e.txn then 16 else 0:Nat))]) w3
 have hk19:(k+if e.txn then 16 else 0)<256:=by split<;>omega
 refine W ?_
 refine Zr ?_
 refine iz Z Z ?_
 refine MW iv ir Z (BX hk19) Z ?_
 refine sW (vs:=[.int .u8 _]) H ed ze Z Z Z Z Z Z ?_;intro w4 b23 H
 refine uL Z Z ?_
 refine U ?_
 replace H:=H.swap
 have ho:gm dE (.slice (Qd b23) 1 1) mJ [n8 e] [(b23,.cells (p8 [.int .u8 (k+if e.txn then 16 else 0:Nat)]).toArray mJ)]:=by
  have e1:dE.all [n8 e]=(p8 [.int .u8 (k+if e.txn then 16 else 0:Nat)]).toArray.toList:=by
   show [Value.int .u8 _]=_
   rw[hkB,Of _ hk19]
   rfl
  unfold gm
  rw[e1]
  exact rU.lit (n:=1) (by decide) Z
 refine W<|W ?_
 refine Zr ?_
 refine rY nz Z Z ?_
 refine vE H 0 ak Z Z Z Z ?_
 refine rY fk Z Z ?_
 refine vE H 0 ak Z Z Z Z ?_
 refine rY eF Z Z ?_
 refine vE H 0 ak Z Z Z Z ?_
 refine rY fd Z Z ?_
 refine vE H 0 ak Z Z Z Z ?_
 refine sW (vs:=[J _,J _,J _,J _]) H aT vX Z Z Z Z Z Z ?_;intro w5 b32 H
 refine uC eJ Z Z ?_
 refine iz Z Z ?_
 refine U<|Zb ?_
 have hns: ∀ k,k<4->(p8 [J e.epoch,J e.pid,J e.ver,J e.seq]).toArray[0+k*1]? =some (J (e.nums.getD k 0)):=by
  intro k hk
  have:k=0∨k=1∨k=2∨k=3:=by omega
  rcases this with rfl|rfl|rfl|rfl<;>rfl
 have hmem: ∀ k,k<4->e.nums.getD k 0∈e.nums:=by
  intro k hk
  have:k=0∨k=1∨k=2∨k=3:=by omega
  rcases this with rfl|rfl|rfl|rfl<;>simp[cQ.nums]
 have hstep: ∀ k,k<4->e.nums.take (k+1)=e.nums.take k++[e.nums.getD k 0]:=by
  intro k hk
  have:k=0∨k=1∨k=2∨k=3:=by omega
  rcases this with rfl|rfl|rfl|rfl<;>rfl
 have hnlen: ∀ k,k<=4->(n6 (e.nums.take k)).length<=20:=by
  intro k hk
  have:=xt (e.nums.take k) fun n hn=>hnn n (yz hn)
  have h2:(e.nums.take k).length<=4:=by simp[cQ.nums];omega
  omega
 refine cy (τ:=Nat×Option Addr×Nat) [6,8,34,35,36,37,38,39,40,41] (fun(k,A,c)=>[(6,.slice A (n8 e::n6 (e.nums.take k)).length c),(34,J k)])
  (fun(k,A,c) w'=>k<=4/\ ∃ L',gm dE (.slice A (n8 e::n6 (e.nums.take k)).length c) mJ (n8 e::n6 (e.nums.take k)) L'/\Hp w w' ([(b32,.cells (p8 [J e.epoch,J e.pid,J e.ver,J e.seq]).toArray db),(b1,.cells e.c.toArray dy)]++L'++[]) []) (fun(k,_,_)=>4-k) (0,_,1) ⟨by omega,_,ho,H⟩ (la Z Z) ?_
 rintro⟨j,A1,c1⟩ ρ1 w1 ⟨hj4,L1,ho,H⟩
 show CW _ _ _ _ (dH (gJ _ _ ρ1) [(6,.slice A1 (n8 e::n6 (e.nums.take j)).length c1),(34,J j)]) w1
 refine W ?_
 refine Zr ?_
 refine Gz Z Z Z (fun h35=> ?_) (fun h35=> ?_)
 all_goals refine nf ?_
 all_goals refine AD ?_
 ·refine pE Z ?_
  refine Zk ?_
  have hj:j<4:=by omega
  have hns:=hns j hj
  obtain⟨hm0,hm1⟩:=hnn _ (hmem j hj)
  have hstep:=hstep j hj
  have hnl:=hnlen j hj4
  generalize e.nums.getD j 0=x at*
  obtain⟨m,rfl⟩: ∃ m:Nat,x=m:=⟨x.toNat,by omega⟩
  refine W<|Zb<|W ?_
  refine Zr ?_
  refine Oi aT Z Z I I Z ?_
  refine vE H 0 ak Z Z hns Z ?_
  refine oT Z Z ?_
  refine U ?_
  refine Zr ?_
  refine mc Z Z ?_
  refine iz Z Z ?_
  refine ch AG (IH m H ho I (by simp only[bS];omega)) Z Z ?_;rintro _ w5 ⟨A2,c2,L2,rfl,ho2,H2⟩
  refine uL Z Z ?_
  refine U ?_
  refine Zr ?_
  refine add Z Z I I Z ?_
  refine iz Z Z ?_
  refine U ?_
  have hnx:n8 e::n6 (e.nums.take (j+1))=n8 e::n6 (e.nums.take j)++yD m:=by
   rw[hstep];simp[n6]
  rw[<-hnx]at ho2
  refine⟨(j+1,A2,c2),⟨by omega,L2,ho2,H2⟩,la (by rw[hnx];rfl) Z,by repeat (first|exact mI|refine lB Z ?_|refine jI _ Z ?_),by show 4- (j+1)<4-j;omega⟩
 ·refine ov Z ?_
  refine Zx ?_
  have hj:j=4:=by omega
  subst hj
  have h20:=hnlen 4 I
  have e4:e.nums.take 4=e.nums:=rfl
  rw[e4]at*
  have hne:n8 e::n6 e.nums≠[]:=by simp
  refine W ?_
  refine Zr ?_
  refine mc Z Z ?_
  refine rY p9 Z Z ?_
  refine vE H 1 bc Z Z Z Z ?_
  refine PZ (Y:=dE) oz jr Z OI H ho hne Z Z (by simp only[bS];omega) Z ?_
  intro A2 c2 w2 L2 hc1 hc2 ho H
  refine uL Z Z ?_
  refine U ?_
  have eb:n8 e::n6 e.nums++e.text.data.toList=eQ e:=rfl
  rw[eb]at*
  refine W ?_
  refine Zr ?_
  refine mc Z Z ?_
  refine ch yr (JP (eQ e) A2 c2 w2 ((ho.rd H).mono (bK _) (ao _)) I) Z Z ?_;rintro _ w6 ⟨rfl,hb6⟩;replace H:=H.later hb6
  refine oT Z Z ?_
  refine U ?_
  have hs:=C0 (eQ e)
  refine W ?_
  refine Zr ?_
  refine mc Z Z ?_
  refine uC eP Z Z ?_
  refine MW iv ir Z (BX (n:=(eQ e).length) I) Z ?_
  refine sW (vs:=[.int .u8 _]) H ed ze Z Z Z Z Z Z ?_;intro w7 b51 H7
  refine mc Z Z ?_
  have ho5:gm dE (.slice (Qd b51) 1 1) mJ [UInt8.ofNat (eQ e).length] [(b51,.cells (p8 [.int .u8 ((eQ e).length:Nat)]).toArray mJ)]:=by
   have e1:dE.all [UInt8.ofNat (eQ e).length]=(p8 [.int .u8 ((eQ e).length:Nat)]).toArray.toList:=by
    show [Value.int .u8 _]=_
    rw[Of _ I]
    rfl
   unfold gm
   rw[e1]
   exact rU.lit (n:=1) (by decide) Z
  refine vQ (Y:=dE) oz (K:=[]) (M:=_) H7 ho5 (news:=eQ e) Z Z Z (ho.rd (K:=(b51,_)::[_,_]) (M:=[]) H7).src (by simp only[bS,jj];omega) Z ?_
  intro A8 c8 w8 L8 _ _ ho8 H8
  refine iz Z Z ?_
  refine G (Nc (b:=8) Z Z I) ?_
  refine MW iv ir Z (BX (n:=mj (eQ e)/2 ^ 8) I) Z ?_
  refine iz Z Z ?_
  refine MW iv ir Z (Nu (mj (eQ e))) Z ?_
  refine sW (vs:=[.int .u8 _,.int .u8 _]) H8 ed ze Z Z Z Z Z Z ?_;intro w9 b59 H9
  refine vQ (Y:=dE) oz (K:=[_]) (M:=_) H9 ho8 (news:=[UInt8.ofNat (mj (eQ e)/256),UInt8.ofNat (mj (eQ e)%256)]) Z Z Z ?_ (by simp only[az,bS,jj];omega) Z ?_
  ·have:=vT.row (m:=2) (sz:=1) (H9.ent (i:=0) Z) Z
   have e1:dE.all [UInt8.ofNat (mj (eQ e)/256),UInt8.ofNat (mj (eQ e)%256)]=[.int .u8 (mj (eQ e)/256:Nat),.int .u8 (mj (eQ e)%256:Nat)]:=by
    show [Value.int .u8 _,Value.int .u8 _]=_
    rw[Of _ I,Of _ I]
   rw[e1]
   exact this
  intro A9 c9 w10 L9 hc9 _ ho9 H10
  refine uL Z Z ?_
  refine oT Z Z ?_
  refine U<|Zt ?_
  refine ma Z Z Z ⟨A9,c9,rfl,?_,hc9,H10.below⟩
  exact ho9.rd H10
/-- the number that is next, from its i-th byte on -/
def rn:Nat->Nat->List UInt8->Nat×List UInt8×Bool
 |_,_,[]=>(0,[],true)
 |i,n,c::l=>if i=5 then(0,c::l,true)else if c.toNat<128 then(n+c.toNat%128*2 ^ (7*i),l,decide (c.toNat=0)&&decide (0<i))else rn (i+1) (n+c.toNat%128*2 ^ (7*i)) l
def Ez (l:List UInt8) (bad:Bool):Nat×List UInt8×Bool:=if bad then(0,l,true)else rn 0 0 l
theorem NK {n x i:Nat} (hn:n<2 ^ (7*i)):n|||x*2 ^ (7*i)=n+x*2 ^ (7*i):=by
 have:=rZ hn x
 rw[Nat.or_comm,CL,<-this,r4]
theorem sh {w0 w:World} {F:List cz} {M:List (Nat×Obj)} {b:Nat} {l:List UInt8} {A:Option Addr} {c:Nat} {bad:Bool} (H:Hp w0 w ((b,.cells #[.slice A l.length c,.bool bad] t6)::M) F) (hr:Rd dE 0 w0.heap.size A l w0) (hc:l.length<=c):
  dg ab tG [.pointer (Qd b)] w fun v w2=>v=J ((Ez l bad).1:Nat)/\ ∃ A' c',Hp w0 w2 ((b,.cells #[.slice A' (Ez l bad).2.1.length c',.bool (Ez l bad).2.2] t6)::M) F/\Rd dE 0 w0.heap.size A' (Ez l bad).2.1 w0/\(Ez l bad).2.1.length<=c':=by
 refine aF s9 Z Z ?_
 refine W ?_
 refine Zr ?_
 refine oT Z Z ?_
 refine U<|W ?_
 refine Zr ?_
 refine oT Z Z ?_
 refine U<|W ?_
 refine Zr ?_
 refine oT Z Z ?_
 refine U<|Zb ?_
 refine cy (τ:=Nat×Nat×List UInt8×Bool) [2,3,4,5,6,7,8,9,10,11,12,13,14,15,16,17,18,19,20,21,22,23,24,25,26,27,28,29,30,31,32,33,34,35,36,37,38,39,40,41,42,43,44,45,46,47,48,49,50,51,52,53,54,55,56,57,58,59,60]
  (fun(i,n,_,_)=>[(3,J (n:Nat)),(4,J (i:Nat))])
  (fun(i,n,l1,bad1) w'=>i<=5/\n<2 ^ (7*i)/\(if bad1 then(0,l1,true)else rn i n l1)=Ez l bad/\ ∃ A c,Hp w0 w' ((b,.cells #[.slice A l1.length c,.bool bad1] t6)::M) F/\Rd dE 0 w0.heap.size A l1 w0/\l1.length<=c) (fun(_,_,l1,_)=>l1.length) (0,0,l,bad) ⟨by omega,by decide,rfl,A,c,H,hr,hc⟩ (la Z Z) ?_
 rintro⟨i,n,l1,bad1⟩ ρ1 w1 ⟨hi5,hn,hrn,A1,c1,H,hr,hc⟩
 show CW _ _ _ _ (dH (gJ _ _ ρ1) [(3,J (n:Nat)),(4,J (i:Nat))]) w1
 refine W<|Zb<|W<|W ?_
 refine Zr ?_
 refine Gs Z Z ?_
 refine Jx Z Z ?_
 refine rY ki Z Z ?_
 refine vE H 0 dV Z Z Z Z ?_
 refine zG Z Z ?_
 by_cases hstop:bad1=true∨l1=[]∨i=5
 ·have hres:Ez l bad=(0,l1,true):=by
   rw[<-hrn]
   rcases hstop with h|h|h
   ·rw[if_pos h]
   ·subst h;split<;>rfl
   ·subst h;split
    ·rfl
    ·cases l1<;>simp[rn]
  cases bad1
  ·refine tz Z ?_
   refine Gs Z Z ?_
   refine ZG ?_
   refine Jx Z Z ?_
   refine ZG ?_
   refine rY lU Z Z ?_
   refine ZG ?_
   refine vE H 0 ec Z Z Z Z ?_
   refine ZG ?_
   refine uC eP Z Z ?_
   refine ZG ?_
   by_cases hl:l1=[]
   ·refine K4 Z Z (by rw[hl];rfl) Z ?_
    refine si Z Z Z ?_
    refine zG Z Z ?_
    iterate 2 refine rH Z Z Z ?_
    refine wh Z Z Z ?_
    refine U<|ZT Z<|W ?_
    refine Zr ?_
    refine Gs Z Z ?_
    refine Jx Z Z ?_
    refine rY ki Z Z ?_
    refine On H 0 eo Z Z Z (by simp) fun w2 H2=>U<|W ?_
    refine Zr ?_
    refine oT Z Z ?_
    refine U<|Zt ?_
    rw[hres]
    exact cH (v:=J 0) Z Z ⟨rfl,A1,c1,H2,hr,hc⟩
   ·have hi:i=5:=by
     rcases hstop with h|h|h
     ·cases h
     ·exact absurd h hl
     ·exact h
    have hl0:l1.length≠0:=fun h=>hl (bY h)
    refine GV Z Z I Z ?_
    refine si Z Z Z ?_
    refine zG Z Z ?_
    refine ZG ?_
    refine iz Z Z ?_
    refine ZG<|K4 Z Z I Z ?_
    refine si Z Z Z ?_
    refine U<|ZT Z<|W ?_
    refine Zr ?_
    refine Gs Z Z ?_
    refine Jx Z Z ?_
    refine rY ki Z Z ?_
    refine On H 0 eo Z Z Z (by simp) fun w2 H2=>U<|W ?_
    refine Zr ?_
    refine oT Z Z ?_
    refine U<|Zt ?_
    rw[hres]
    exact cH (v:=J 0) Z Z ⟨rfl,A1,c1,H2,hr,hc⟩
  ·iterate 6 refine rH Z Z Z ?_
   refine wh Z Z Z ?_
   refine zG Z Z ?_
   iterate 2 refine rH Z Z Z ?_
   refine wh Z Z Z ?_
   refine U<|ZT Z<|W ?_
   refine Zr ?_
   refine Gs Z Z ?_
   refine Jx Z Z ?_
   refine rY ki Z Z ?_
   refine On H 0 eo Z Z Z (by simp) fun w2 H2=>U<|W ?_
   refine Zr ?_
   refine oT Z Z ?_
   refine U<|Zt ?_
   rw[hres]
   exact cH (v:=J 0) Z Z ⟨rfl,A1,c1,H2,hr,hc⟩
 ·have hb1:bad1=false:=by
   cases bad1
   ·rfl
   ·exact absurd (.inl Z) hstop
  subst hb1
  have hi:i<5:=by
   have:i≠5:=fun h=>hstop (.inr (.inr h))
   omega
  obtain⟨x,l2,rfl⟩: ∃ x l2,l1=x::l2:=by
   cases l1 with
   |nil=>exact absurd (.inr (.inl Z)) hstop
   |cons x l2=>exact⟨x,l2,rfl⟩
  have hx:x.toNat<256:=UInt8.toNat_lt _
  obtain⟨bb,o,rfl,-,hbl,hcl⟩:=hr.at_ (k:=0) (by simp)
  rw[if_neg (by decide),rn,if_neg I]at hrn
  have h7:2 ^ (7*i)<=2 ^ 28:=Nat.pow_le_pow_right (by decide) I
  have hmod:x.toNat%128<128:=jC _ (by decide)
  have hmul:x.toNat%128*2 ^ (7*i)<=128*2 ^ 28:=Nat.mul_le_mul I h7
  have h71:2 ^ (7*(i+1))=128*2 ^ (7*i):=by rw[Nat.mul_add,Nat.pow_add];omega
  have hmul2:x.toNat%128*2 ^ (7*i)<=127*2 ^ (7*i):=dk _ I
  refine ZG ?_
  refine Gs Z Z ?_
  refine ZG ?_
  refine Jx Z Z ?_
  refine ZG ?_
  refine rY lU Z Z ?_
  refine ZG ?_
  refine vE H 0 ec Z Z Z Z ?_
  refine ZG ?_
  refine uC eP Z Z ?_
  refine ZG<|GV Z Z (by simp;omega) Z ?_
  refine si Z Z Z ?_
  refine zG Z Z ?_
  refine ZG ?_
  refine iz Z Z ?_
  refine ZG<|GV Z Z I Z ?_
  refine si Z Z Z ?_
  refine U<|ZF Z<|Zk<|W ?_
  refine Zr ?_
  refine Gs Z Z ?_
  refine Jx Z Z ?_
  refine rY lU Z Z ?_
  refine vE H 0 ec Z Z Z Z ?_
  refine Oi ed Z Z I (by simp) Z ?_
  refine ld mo Z ((H.below.cell (p:=⟨bb,_,none⟩) hbl).trans (hcl 0 _ Z)) Z ?_
  refine MW ir iv Z (uN (n:=x.toNat) I) Z ?_
  refine oT Z Z ?_
  refine U<|W ?_
  refine Zr ?_
  refine Gs Z Z ?_
  refine Gs Z Z ?_
  refine Jx Z Z ?_
  refine rY lU Z Z ?_
  refine vE H 0 ec Z Z Z Z ?_
  refine sO ed Z Z I (by simp;omega) hc Z ?_;intro A39 hA39
  refine Jx Z Z ?_
  refine rY lU Z Z ?_
  refine PH H 0 Cd Z Z Z (by simp) fun w2 H2=> ?_
  have hr2:Rd dE 0 w0.heap.size A39 l2 w0:=hr.from_ (k:=1) hA39 (fun h=>h)
  have H:Hp w0 w2 ((b,.cells #[.slice A39 l2.length (c1-1),.bool false] t6)::M) F:=H2
  have hc2:l2.length<=c1-1:=by simp only[bS]at hc;omega
  refine U<|W ?_
  refine Zr ?_
  refine iz Z Z ?_
  refine iz Z Z ?_
  refine G (Ns (a:=x.toNat) (b:=127) Z Z I I) ?_
  rw[LB]
  refine iz Z Z ?_
  refine mul Z Z I I Z ?_
  refine G (Nd (a:=x.toNat%128) (b:=7*i) (k:=.i64) Z (by simp;rfl) I I)<|G (Mn (a:=n) (b:=x.toNat%128*2 ^ (7*i)) Z Z I I) ?_
  rw[NK hn]
  refine oT Z Z ?_
  refine U<|W ?_
  refine Zr ?_
  refine iz Z Z ?_
  refine Gz Z Z Z (fun h50=> ?_) (fun h50=> ?_)
  all_goals refine nf ?_
  ·rw[if_pos I]at hrn
   refine ZT Z<|W ?_
   refine Zr ?_
   refine Gs Z Z ?_
   refine iz Z Z ?_
   by_cases hx0:x.toNat=0
   ·refine K4 Z Z I Z ?_
    refine zG Z Z ?_
    refine ZG ?_
    refine iz Z Z ?_
    refine ZG<|G (ke (a:=(i:Int)) (b:=0) Z Z) ?_
    refine wh Z Z Z ?_
    refine Jx Z Z ?_
    refine rY ki Z Z ?_
    refine On H 0 eo Z Z Z (by simp) fun w3 H3=>U<|W ?_
    refine Zr ?_
    refine iz Z Z ?_
    refine oT Z Z ?_
    refine U<|Zt ?_
    rw[<-hrn]
    have e:(decide (x.toNat=0)&&decide (0<i))=decide ((0:Int)<i):=by
     rw[decide_eq_true hx0,gY];exact decide_eq_decide.2 I
    rw[e]
    exact cH (v:=J (n+x.toNat%128*2 ^ (7*i):Nat)) Z Z ⟨rfl,A39,c1-1,H3,hr2,hc2⟩
   ·refine GV Z Z I Z ?_
    refine zG Z Z ?_
    iterate 2 refine rH Z Z Z ?_
    refine si Z Z Z ?_
    refine Jx Z Z ?_
    refine rY ki Z Z ?_
    refine On H 0 eo Z Z Z (by simp) fun w3 H3=>U<|W ?_
    refine Zr ?_
    refine iz Z Z ?_
    refine oT Z Z ?_
    refine U<|Zt ?_
    rw[<-hrn]
    have e:(decide (x.toNat=0)&&decide (0<i))=false:=by rw[decide_eq_false hx0];rfl
    rw[e]
    exact cH (v:=J (n+x.toNat%128*2 ^ (7*i):Nat)) Z Z ⟨rfl,A39,c1-1,H3,hr2,hc2⟩
  ·rw[if_neg I]at hrn
   refine ZF Z<|Zk ?_
   refine Zr ?_
   refine iz Z Z ?_
   refine add Z Z I I Z ?_
   refine oT Z Z ?_
   refine U ?_
   refine⟨(i+1,n+x.toNat%128*2 ^ (7*i),l2,false),⟨by omega,by rw[h71];omega,by rw[<-hrn];rfl,A39,c1-1,H,hr2,hc2⟩,la Z Z,by repeat (first|exact mI|refine lB Z ?_|refine jI _ Z ?_),by show l2.length<l2.length+1;omega⟩
/-- an entry out of a body -/
def sX (c:UInt8) (l:List UInt8):cQ×Bool:=
 let q1:=Ez l false
 let q2:=Ez q1.2.1 q1.2.2
 let q3:=Ez q2.2.1 q2.2.2
 let q4:=Ez q3.2.1 q3.2.2
 (⟨(q1.1:Nat),(q2.1:Nat),(q3.1:Nat),(q4.1:Nat),(c.toNat&&&15:Nat),!decide (((c.toNat&&&16:Nat):Int)=0),⟨q4.2.1.toArray⟩⟩,q4.2.2)
def t0 (c:UInt8) (l:List UInt8):Bool:=!(sX c l).2&&decide (c.toNat<32)&&decide (eK (sX c l).1=0)
theorem M0 (c0:UInt8) (l:List UInt8) (A:Option Addr) (c:Nat) (w:World) (hr:Rd dE 0 w.heap.size A (c0::l) w) (hc:(c0::l).length<=c):
  dg ab E3 [.slice A (c0::l).length c] w fun v w2=>v=.tuple #[(sX c0 l).1.v,.bool (t0 c0 l)]/\Below w.heap.size w w2:=by
 obtain⟨bb,o,rfl,-,hbl,hcl⟩:=hr.at_ (k:=0) (by simp)
 have hc0:c0.toNat<256:=UInt8.toNat_lt _
 refine aF Dz Z Z ?_
 have H:=Hp.start w
 refine W ?_
 refine Zr ?_
 refine eI H gh Z ?_;intro w1 b2 H
 refine OK Z Z ?_
 refine U<|W ?_
 refine Zr ?_
 refine mc Z Z ?_
 refine sO ed Z Z I (by simp;omega) hc Z ?_;intro A7 hA7
 have hr7:Rd dE 0 w.heap.size A7 l w:=hr.from_ (k:=1) hA7 (fun h=>h)
 have hc7:l.length<=c-1:=by simp only[bS]at hc;omega
 refine G (v:=.agg #[.slice A7 l.length (c-1),.bool false]) (bn Id JB Z) ?_
 refine fW H Z Z ?_;intro w2 b9 H
 refine PX Z Z ?_
 refine U<|W ?_
 have hcl2:=fun(w':World) (hw':oH w2 w')=>((H.later hw').below.cell (p:=⟨bb,_,none⟩) hbl).trans (hcl 0 _ Z)
 refine bD ci [0,1,2,3,4,5,6,7,8,9,10,11] [12] [11] [0,1,3,4,5,6,8,9,10] (sp [(11,Sp.blk w2.heap.size (.agg #[J 0,J 0,J 0,J 0,J 0,.bool false,.string ⟨#[]⟩]) dy)]) N N N N Nq (cJ _) ?_
 refine aw Z Z Z Z Z (fun _ _=>iq Z) ?_
 refine aw Z Z Z Z Z (fun _ _=>sS ed Z Z I (by simp)) ?_
 refine aw Z Z Z Z Z (fun w' hw'=>aX mo Z (hcl2 w' hw')) ?_
 refine aw Z Z Z Z Z (fun _ _=>LA (a:=c0.toNat) (b:=15) Z Z I I) ?_
 refine aw Z Z Z Z Z (fun _ _=>CA ir iv Z (uN (n:=c0.toNat&&&15) (mg (Ha I)))) ?_
 refine aw Z Z Z Z Z (fun _ _=>iq Z) ?_
 refine aw Z Z Z Z Z (fun _ _=>sS ed Z Z I (by simp)) ?_
 refine aw Z Z Z Z Z (fun w' hw'=>aX mo Z (hcl2 w' hw')) ?_
 refine aw Z Z Z Z Z (fun _ _=>LA (a:=c0.toNat) (b:=16) Z Z I I) ?_
 refine aw Z Z Z Z Z (fun _ _=>ja (k:=.u8) (a:=((c0.toNat&&&16:Nat):Int)) (b:=0) Z Z) ?_
 refine aw (v:=.agg (cQ.c ⟨0,0,0,0,(c0.toNat&&&15:Nat),!decide (((c0.toNat&&&16:Nat):Int)=0),⟨#[]⟩⟩).toArray) Z Z Z Z Z (fun _ _=>bn nV gh Z)<|Nr gh Z Z Z Z (fun w' w2 b hC hb hh=>⟨b,rfl,aS hC.size hb,hh⟩) ?_
 rintro _ ⟨_,_,b5,rfl,_,_⟩
 refine aQ ?_
 rintro w3 hw3 ⟨-,b,he,hge,hb5⟩
 cases he
 replace H:=(H.adoptNew hw3 hb5 hge).swap
 refine JU H 1 eV Z Z Z Z Z Z ?_;intro w4 H
 refine U<|W ?_
 refine Zr ?_
 refine Gs Z Z ?_
 refine ch iy (sh (l:=l) (bad:=false) H hr7 hc7) Z Z ?_;rintro _ w5 ⟨rfl,A1,c1,H1,hr1,hc1⟩
 refine Gs Z Z ?_
 refine ch iy (sh H1 hr1 hc1) Z Z ?_;rintro _ w6 ⟨rfl,A2,c2,H2,hr2,hc2⟩
 refine Gs Z Z ?_
 refine ch iy (sh H2 hr2 hc2) Z Z ?_;rintro _ w7 ⟨rfl,A3,c3,H3,hr3,hc3⟩
 refine Gs Z Z ?_
 refine ch iy (sh H3 hr3 hc3) Z Z ?_;rintro _ w8 ⟨rfl,A4,c4,H4,hr4,hc4⟩
 generalize hE:sX c0 l=E
 have hEE:E=_:=hE.symm
 unfold sX at hEE
 simp only at hEE
 generalize hq1:Ez l false=q1 at*
 generalize hq2:Ez q1.2.1 q1.2.2=q2 at*
 generalize hq3:Ez q2.2.1 q2.2.2=q3 at*
 generalize hq4:Ez q3.2.1 q3.2.2=q4 at*
 obtain⟨n1,l1,x1⟩:=q1
 obtain⟨n2,l2,x2⟩:=q2
 obtain⟨n3,l3,x3⟩:=q3
 obtain⟨n4,l4,x4⟩:=q4
 dsimp only at*
 clear H H1 H2 H3 hr1 hr2 hr3 hc1 hc2 hc3 hq1 hq2 hq3 hq4
 refine rY nz Z Z ?_
 refine OP H4 1 bw Z Z Z (fh Z) ?_;intro w9 H
 refine rY fk Z Z ?_
 refine OP H 1 bw Z Z Z (fh Z) ?_;intro w10 H
 refine rY eF Z Z ?_
 refine OP H 1 bw Z Z Z (fh Z) ?_;intro w11 H
 refine rY fd Z Z ?_
 refine OP H 1 bw Z Z Z (fh Z) ?_;intro w12 H
 refine U<|W ?_
 refine Zr ?_
 refine Gs Z Z ?_
 refine Jx Z Z ?_
 refine rY lU Z Z ?_
 refine vE H 0 ec Z Z Z Z ?_
 refine Go.Eng.l1 (N1 ed ir jr Z Z (fun _=>rfl) (hr4.below H.below)) Z Z Z ?_
 refine rY p9 Z Z ?_
 refine PG H 1 zp Z Z Z (fh Z) ?_;intro w13 H
 refine U ?_
 have H:Hp w w13 [(b9,.cells #[.slice A4 l4.length c4,.bool x4] t6),(b5,.cells E.1.c.toArray dy),(b2,.cells (cQ.c ⟨0,0,0,0,0,false,⟨#[]⟩⟩).toArray dy)] []:=by rw[hEE];exact H
 have hx4:E.2=x4:=by rw[hEE]
 have hcl3:=fun(w':World) (hw':oH w13 w')=>((H.later hw').below.cell (p:=⟨bb,_,none⟩) hbl).trans (hcl 0 _ Z)
 obtain⟨E,x5⟩:=E
 dsimp only at*
 subst hx4
 clear hEE
 refine W ?_
 refine bD ci [0,1,2,3,4,5,6,7,8,9,10,11,12,13,14,15,16] [17,18] [14] [1,2,3,5,6,7,8,10,11,12,15,16] (sp [(14,Sp.one (J (eK E)))]) N N N N Nq (cJ _) ?_
 refine aw Z Z Z Z Z (fun w' hw'=>jW dI Z ((H.later hw').ent (i:=1) Z) Z) ?_
 refine aw Z Z Z Z Z (fun _ _=>iq Z) ?_
 refine aw Z Z Z Z Z (fun _ _=>aG Z) ?_
 refine aw Z Z Z Z Z (fun _ _=>Zf ki Z) ?_
 refine aw Z Z Z Z Z (fun w' hw'=>aX dV Z (aD ((H.later hw').ent (i:=0) Z) Z)) ?_
 refine aw Z Z Z Z Z (fun _ _=>dR Z) ?_
 refine aw Z Z Z Z Z (fun _ _=>iq Z) ?_
 have hob:t0 c0 l=(!x5&&decide (c0.toNat<32)&&decide (eK E=0)):=by unfold t0;rw[hE]
 rw[hob]
 cases x5
 ·refine aw Z Z Z Z Z (fun _ _=>iq Z) ?_
  refine aw Z Z Z Z Z (fun _ _=>sS ed Z Z I (by simp)) ?_
  refine aw Z Z Z Z Z (fun w' hw'=>aX mo Z (hcl3 w' hw')) ?_
  refine aw Z Z Z Z Z (fun _ _=>cK (k:=.u8) (a:=(c0.toNat:Int)) (b:=32) Z Z) ?_
  refine aw Z Z Z Z Z (fun _ _=>Kd Z Z) ?_
  refine aw Z Z Z Z Z (fun _ _=>iq Z) ?_
  have h32:decide ((c0.toNat:Int)<32)=decide (c0.toNat<32):=decide_eq_decide.2 I
  rw[h32]
  cases h:decide (c0.toNat<32)
  ·iterate 3 refine eU Z Z Z Z ?_
   refine aw Z Z Z Z Z (fun _ _=>Ho Z Z) ?_
   refine aQ ?_
   intro w' hw' hF;replace H:=H.later hw';clear hw'
   refine JU H 2 eV Z Z Z Z Z Z ?_;intro w15 H
   refine OK Z Z<|U<|Zt ?_
   exact KU Z dI Z (H.ent (i:=2) Z) Z Z ⟨rfl,H.below⟩
  ·refine aw Z Z Z Z Z (fun w' hw'=>jW dI Z ((H.later hw').ent (i:=1) Z) Z) ?_
   refine yu rv Z Z Z Z (fun w' _=>(xj E w').mono (fun v w2 ⟨h1,h2⟩=>⟨h2,h1⟩)) Z ?_
   rintro _ ⟨_,_,rfl⟩
   refine aw Z Z Z Z Z (fun _ _=>bp Z Z) ?_
   refine aw Z Z Z Z Z (fun _ _=>Kd Z Z) ?_
   refine aQ ?_
   intro w' hw' hF;replace H:=H.later hw';clear hw'
   refine JU H 2 eV Z Z Z Z Z Z ?_;intro w15 H
   refine OK Z Z<|U<|Zt ?_
   exact KU Z dI Z (H.ent (i:=2) Z) Z Z ⟨rfl,H.below⟩
 ·iterate 4 refine eU Z Z Z Z ?_
  refine aw Z Z Z Z Z (fun _ _=>Ho Z Z) ?_
  refine aw Z Z Z Z Z (fun _ _=>iq Z) ?_
  iterate 3 refine eU Z Z Z Z ?_
  refine aw Z Z Z Z Z (fun _ _=>Ho Z Z) ?_
  refine aQ ?_
  intro w' hw' hF;replace H:=H.later hw';clear hw'
  refine JU H 2 eV Z Z Z Z Z Z ?_;intro w15 H
  refine OK Z Z<|U<|Zt ?_
  exact KU Z dI Z (H.ent (i:=2) Z) Z Z ⟨rfl,H.below⟩
/-- the entry that is first, and how many bytes it takes -/
def tl:List UInt8->Option (cQ×Nat)
 |[]=>none
 |n::r=>
  if n.toNat=0∨r.length<n.toNat+2 then none
  else if mj (r.take n.toNat)≠(r.getD n.toNat 0).toNat*256+(r.getD (n.toNat+1) 0).toNat then none
  else if t0 (r.headD 0) (r.take n.toNat).tail=true then some ((sX (r.headD 0) (r.take n.toNat).tail).1,n.toNat+3)else none
inductive HU:List UInt8->List cQ->Nat->Prop
 |stop {l:List UInt8} (h:tl l=none):HU l [] 0
 |go {l:List UInt8} {e:cQ} {k n:Nat} {es:List cQ} (h:tl l=some (e,k)) (hd:HU (l.drop k) es n):HU l (e::es) (k+n)
theorem Ot {a b:Nat} (hb:b<256):a*2 ^ 8|||b=a*256+b:=by
 have:=rZ (i:=8) (b:=b) (by simpa using hb) a
 rw[CL,<-this]
theorem LV {l:List UInt8} {e:cQ} {k:Nat} (h:tl l=some (e,k)):4<=k/\k<=l.length:=by
 cases l with
 |nil=>cases h
 |cons n r=>
  simp only[tl]at h
  split at h;· cases h
  split at h;· cases h
  split at h
  injection h with h;injection h with h1 h2
  rename_i h3 _ _
  simp only[bS]
  omega
  cases h
theorem rN (l:List UInt8) (A:Option Addr) (c:Nat) (w:World) (hr:Rd dE 0 w.heap.size A l w) (hc:l.length<=c) (hbd:l.length<=1000000000000):
  dg ab Bo [.slice A l.length c] w fun v w2=> ∃ es n A' c',v=.tuple #[.slice A' es.length c',J (n:Nat)]/\HU l es n/\Rd gQ w.heap.size w2.heap.size A' es w2/\es.length<=c'/\Below w.heap.size w w2:=by
 refine aF Ak Z Z ?_
 have H:=Hp.start w
 refine W ?_
 refine Zr ?_
 refine uL Z Z ?_
 refine oT Z Z ?_
 refine U<|W ?_
 refine Zr ?_
 refine uL Z Z ?_
 refine U<|W ?_
 refine Zr ?_
 refine oT Z Z ?_
 refine U<|W<|Zb ?_
 refine cy (τ:=Nat×List cQ×Option Addr×Nat) [4,5,6,7,8,9,10,11,12,13,14,15,16,17,18,19,20,21,22,23,24,25,26,27,28,29,30,31,32,33,34,35,36,37,38,39,40,41,42,43,44,45,46,47,48,49,50,51,52,53,54,55,56,57,58,59,60,61,62,63,64,65,66,67,68,69,70,71,72,73]
  (fun(at_,out,A1,c1)=>[(4,.slice A1 out.length c1),(5,J (at_:Nat))])
  (fun(at_,out,A1,c1) w'=>at_<=l.length/\out.length<=at_/\(∀ es n,HU (l.drop at_) es n->HU l (out++es) (at_+n))/\ ∃ L',gm gQ (.slice A1 out.length c1) dy out L'/\Hp w w' ([]++L'++[]) [])
  (fun(at_,_,_,_)=>l.length-at_) (0,[],none,0) ⟨by omega,by simp,fun es n h=>by simpa using h,[],gm.nil,H⟩ (la Z Z) ?_
 rintro⟨at_,out,A1,c1⟩ ρ1 w1 ⟨hat,hout,hdec,L1,ho,H⟩
 show CW _ _ _ _ (dH (gJ _ _ ρ1) [(4,.slice A1 out.length c1),(5,J (at_:Nat))]) w1
 have hfin: ∀ {w2:World},tl (l.drop at_)=none->Hp w w2 ([]++L1++[]) []-> ∃ es n A' c',(Value.tuple #[.slice A1 out.length c1,J (at_:Nat)])=.tuple #[.slice A' es.length c',J (n:Nat)]/\HU l es n/\Rd gQ w.heap.size w2.heap.size A' es w2/\es.length<=c'/\Below w.heap.size w w2:=fun hs H=>by
  have hd:=hdec [] 0 (.stop hs)
  rw[aY,r3]at hd
  obtain⟨A2,c2,he,hlc,-⟩:=ho.form
  injection he with h1 h2 h3
  subst h3
  exact⟨out,at_,A1,c1,rfl,hd,ho.rd H,hlc,H.below⟩
 refine W<|W ?_
 refine Zr ?_
 refine iz Z Z ?_
 refine mc Z Z ?_
 refine uC eP Z Z ?_
 refine Gz Z Z Z (fun h13=> ?_) (fun h13=> ?_)
 all_goals refine nf ?_
 ·refine pE Z ?_
  refine Zk ?_
  have hlt:at_<l.length:=by omega
  obtain⟨bb,o,hA,-,hbl,hcl0⟩:=hr.at_ hlt
  subst hA
  have hcl: ∀ {k:Nat} (hk:k<l.length) (w':World),Below w.heap.size w w'->w'.cell? ⟨bb,o+k*1,none⟩=some (.int .u8 (l[k].toNat:Nat)):=fun{k} hk w' hb=>by
   obtain⟨bb',o',hA,-,hbl,hcl⟩:=hr.at_ hk
   injection hA with hA
   injection hA with h1 h2
   subst h1;subst h2
   exact(hb.cell (p:=⟨bb,_,none⟩) hbl).trans (hcl 0 _ Z)
  have hd0:l.drop at_=l[at_]::l.drop (at_+1):=mN hlt
  have hx:=hcl hlt
  have h256:l[at_].toNat<256:=UInt8.toNat_lt _
  generalize hn:l[at_].toNat=n at*
  refine Zb<|W ?_
  refine Zr ?_
  refine mc Z Z ?_
  refine iz Z Z ?_
  refine Oi ed Z Z I I Z ?_
  refine ld mo Z (hx _ H.below) Z ?_
  refine MW ir iv Z (uN (n:=n) I) Z ?_
  refine oT Z Z ?_
  refine U<|W<|W ?_
  refine Zr ?_
  refine iz Z Z ?_
  by_cases hstop:n=0∨l.length<at_+n+3
  ·have hs:tl (l.drop at_)=none:=by
    rw[hd0,tl,hn,if_pos]
    rw[dL];omega
   by_cases hn0:n=0
   ·refine K4 Z Z I Z ?_
    refine zG Z Z ?_
    iterate 7 refine rH Z Z Z ?_
    refine wh Z Z Z ?_
    refine U<|ZT Z<|Zx<|W ?_
    refine Zr ?_
    refine mc Z Z ?_
    refine iz Z Z ?_
    refine uL Z Z ?_
    refine oT Z Z ?_
    refine U<|Zt ?_
    exact ma Z Z Z (hfin hs H)
   ·refine GV Z Z I Z ?_
    refine zG Z Z ?_
    refine ZG ?_
    refine iz Z Z ?_
    refine ZG ?_
    refine iz Z Z ?_
    refine ZG ?_
    refine add Z Z I I Z ?_
    refine ZG ?_
    refine add Z Z I I Z ?_
    refine ZG ?_
    refine mc Z Z ?_
    refine ZG ?_
    refine uC eP Z Z ?_
    refine ZG<|NU Z Z I Z ?_
    refine si Z Z Z ?_
    refine U<|ZT Z<|Zx<|W ?_
    refine Zr ?_
    refine mc Z Z ?_
    refine iz Z Z ?_
    refine uL Z Z ?_
    refine oT Z Z ?_
    refine U<|Zt ?_
    exact ma Z Z Z (hfin hs H)
  have hn0:n≠0:=fun h=>hstop (.inl h)
  have hlen:at_+n+3<=l.length:=by omega
  refine GV Z Z I Z ?_
  refine zG Z Z ?_
  refine ZG ?_
  refine iz Z Z ?_
  refine ZG ?_
  refine iz Z Z ?_
  refine ZG ?_
  refine add Z Z I I Z ?_
  refine ZG ?_
  refine add Z Z I I Z ?_
  refine ZG ?_
  refine mc Z Z ?_
  refine ZG ?_
  refine uC eP Z Z ?_
  refine ZG<|NV Z Z I Z ?_
  refine si Z Z Z ?_
  refine U<|ZF Z<|Zk<|W ?_
  refine Zr ?_
  refine mc Z Z ?_
  refine iz Z Z ?_
  refine add Z Z I I Z ?_
  refine iz Z Z ?_
  refine add Z Z I I Z ?_
  refine iz Z Z ?_
  refine add Z Z I I Z ?_
  refine Na ed Z Z Z I I I Z ?_;intro A37 hA37
  have e1:((at_:Int)+1).toNat=at_+1:=by omega
  have e2:((at_:Int)+1+n).toNat- (at_+1)=n:=by omega
  rw[e1]at hA37⊢
  rw[e2]
  have hrx:Rd dE 0 w.heap.size A37 ((l.drop (at_+1)).take n) w:=(hr.from_ hA37 (fun h=>by omega)).take n
  have hxl:((l.drop (at_+1)).take n).length=n:=by rw[aI,dL];omega
  refine uL Z Z ?_
  refine U ?_
  have hg1:(l.drop (at_+1)).getD n 0=l[at_+n+1]:=by
   rw[cf,dO,show at_+1+n=at_+n+1 by omega,ai I];rfl
  have hg2:(l.drop (at_+1)).getD (n+1) 0=l[at_+n+2]:=by
   rw[cf,dO,show at_+1+(n+1)=at_+n+2 by omega,ai I];rfl
  have hc1:=hcl (k:=at_+n+1) I
  have hc2:=hcl (k:=at_+n+2) I
  have hb1:l[at_+n+1].toNat<256:=UInt8.toNat_lt _
  have hb2:l[at_+n+2].toNat<256:=UInt8.toNat_lt _
  generalize l[at_+n+1]=x1 at*
  generalize l[at_+n+2]=x2 at*
  generalize hX:(l.drop (at_+1)).take n=X at*
  have hstep:tl (l.drop at_)=if mj X≠x1.toNat*256+x2.toNat then none else if t0 (X.headD 0) X.tail=true then some ((sX (X.headD 0) X.tail).1,n+3)else none:=by
   rw[hd0,tl,hn,if_neg (by rw[dL];omega),hX,hg1,hg2]
   have:(l.drop (at_+1)).headD 0=X.headD 0:=by
    rw[<-hX]
    cases h:l.drop (at_+1)with
    |nil=>simp
    |cons a r=>
     cases n with
     |zero=>exact absurd Z hn0
     |succ n=>rfl
   rw[this]
  have hcy1:((at_:Int)+n+1).toNat=at_+n+1:=by omega
  have hcy2:((at_:Int)+n+2).toNat=at_+n+2:=by omega
  rw[<-hcy1]at hc1
  rw[<-hcy2]at hc2
  have hor:x1.toNat*2 ^ 8|||x2.toNat=x1.toNat*256+x2.toNat:=Ot hb2
  have hslt:=C0 X
  refine W<|W ?_
  refine bD ci [0,2,3,4,5,6,7,8,9,10,11,12,13,14,15,16,17,18,19,1,20] [] [1] [0,2,3,4,5,6,7,9,10,11,12,13,14,15,16,18,19,20] (sp [(1,Sp.one (J (mj X:Nat)))]) N N N N Nq (cJ _) ?_
  refine aw Z Z Z Z Z (fun _ _=>iq Z) ?_
  refine aw Z Z Z Z Z (fun _ _=>iq Z) ?_
  refine aw Z Z Z Z Z (fun _ _=>iq Z) ?_
  refine aw Z Z Z Z Z (fun _ _=>iq Z) ?_
  refine aw Z Z Z Z Z (fun _ _=>bz Z Z I I) ?_
  refine aw Z Z Z Z Z (fun _ _=>bz Z Z I I) ?_
  refine aw Z Z Z Z Z (fun _ _=>sS ed Z Z I I) ?_
  refine aw Z Z Z Z Z (fun w' hw'=>aX mo Z (hc1 w' (H.later hw').below)) ?_
  refine aw Z Z Z Z Z (fun _ _=>CA ir iv Z (uN (n:=x1.toNat) I)) ?_
  refine aw Z Z Z Z Z (fun _ _=>Nd (a:=x1.toNat) (b:=8) (k:=.u64) Z Z I I) ?_
  refine aw Z Z Z Z Z (fun _ _=>iq Z) ?_
  refine aw Z Z Z Z Z (fun _ _=>iq Z) ?_
  refine aw Z Z Z Z Z (fun _ _=>iq Z) ?_
  refine aw Z Z Z Z Z (fun _ _=>bz Z Z I I) ?_
  refine aw Z Z Z Z Z (fun _ _=>bz Z Z I I) ?_
  refine aw Z Z Z Z Z (fun _ _=>sS ed Z Z I I) ?_
  refine aw Z Z Z Z Z (fun w' hw'=>aX mo Z (hc2 w' (H.later hw').below)) ?_
  refine aw Z Z Z Z Z (fun _ _=>CA ir iv Z (uN (n:=x2.toNat) I)) ?_
  refine aw Z Z Z Z Z (fun _ _=>Mn (a:=x1.toNat*2 ^ 8) (b:=x2.toNat) Z Z I I) ?_
  rw[hor]
  refine yu yr Z Z Z Z (fun w' hw'=>(JP X A37 (c- (at_+1)) w' ((hrx.below (H.later hw').below).mono (ao _) (H.later hw').size) I).mono (fun v w2 ⟨h1,h2⟩=>⟨h2,h1⟩)) (by rw[hxl];rfl) ?_
  rintro _ ⟨_,_,rfl⟩
  by_cases hsum:mj X=x1.toNat*256+x2.toNat
  ·refine aw Z Z Z Z Z (fun _ _=>ce Z Z I) ?_
   refine aQ ?_
   intro w' hw' hF;replace H:=H.later hw';clear hw' hF
   refine U<|ZF Z<|Zk ?_
   obtain⟨c0,X',rfl⟩: ∃ c0 X',X=c0::X':=by
    cases X with
    |nil=>simp at hxl;omega
    |cons a X=>exact⟨a,X,rfl⟩
   rw[if_neg I]at hstep
   refine W ?_
   refine Zr ?_
   refine mc Z Z ?_
   rw[<-hxl]
   refine ch DR (M0 c0 X' A37 _ _ ((hrx.below H.below).mono (ao _) H.size) (by rw[hxl];omega)) Z Z ?_;rintro _ w2 ⟨rfl,hb2⟩;replace H:=H.later hb2
   rw[hxl]
   refine PN Z Z ?_
   refine Pr Z Z Z ?_
   refine Pr Z Z Z ?_
   refine eI H gh Z ?_;intro w3 b8 H
   refine JU H 0 eV Z Z Z Z Z Z ?_;intro w4 H
   refine OK Z Z ?_
   refine U<|W<|W ?_
   refine Zr ?_
   refine zG Z Z ?_
   refine not Z Z ?_
   refine U ?_
   refine jo (b:=!t0 c0 X') Z (fun hb=> ?_) (fun hb=> ?_)
   ·rw[if_neg (by simpa using hb)]at hstep
    refine Zx<|W ?_
    refine Zr ?_
    refine mc Z Z ?_
    refine iz Z Z ?_
    refine uL Z Z ?_
    refine oT Z Z ?_
    refine U<|Zt ?_
    exact ma Z Z Z (hfin hstep (H.forget (by simp) (fun _ h=>h)))
   ·rw[if_pos (by simpa using hb)]at hstep
    refine Zk<|W ?_
    refine Zr ?_
    refine mc Z Z ?_
    refine Po H 0 dI Z Z Z Z ?_
    refine sW (vs:=[.agg _]) H dX gh Z Z Z Z Z Z ?_;intro w5 b68 H5
    refine vQ (Y:=gQ) Jp (K:=[_,_]) (L:=L1) (M:=[]) H5 ho (news:=[(sX c0 X').1]) Z Z Z ?_ (by simp only[bU];omega) Z ?_
    ·exact vT.row (m:=1) (sz:=7) (H5.ent (i:=0) Z) Z
    intro A6 c6 w6 L6 _ _ ho6 H6
    refine uL Z Z ?_
    refine U ?_
    refine Zr ?_
    refine iz Z Z ?_
    refine iz Z Z ?_
    refine add Z Z I I Z ?_
    refine add Z Z I I Z ?_
    refine oT Z Z ?_
    refine U ?_
    refine⟨(at_+(n+3),out++[(sX c0 X').1],A6,c6),⟨by omega,by simp;omega,fun es m hD=> ?_,L6,ho6,H6.forget (by simp) (fun _ h=>h)⟩,la Z ?_,by repeat (first|exact mI|refine lB Z ?_|refine jI _ Z ?_),by show l.length- (at_+(n+3))<l.length-at_;omega⟩
    ·have:=hdec _ _ (.go hstep (by rw[j0];exact hD))
     rw[aE,kZ]
     exact this
    ·show Value.int .i64 _=Value.int .i64 _
     congr 1
  ·rw[if_pos hsum]at hstep
   refine aw Z Z Z Z Z (fun _ _=>j9 Z Z I) ?_
   refine aQ ?_
   intro w' hw' hF;replace H:=H.later hw';clear hw'
   refine U<|ZT Z<|Zx<|W ?_
   refine Zr ?_
   refine mc Z Z ?_
   refine iz Z Z ?_
   refine uL Z Z ?_
   refine oT Z Z ?_
   refine U<|Zt ?_
   exact ma Z Z Z (hfin hstep H)
 ·refine ov Z ?_
  refine Zx ?_
  have hs:tl (l.drop at_)=none:=by rw[en I];rfl
  refine W ?_
  refine Zr ?_
  refine mc Z Z ?_
  refine iz Z Z ?_
  refine uL Z Z ?_
  refine oT Z Z ?_
  refine U<|Zt ?_
  exact ma Z Z Z (hfin hs H)
def rz (e:cQ):Prop:=eK e=0
def bi (es:List cQ):List UInt8:=es.flatMap iF
theorem zi (n:Nat) (h:n<256):(UInt8.ofNat n).toNat=n:=by simp[gU h]
theorem J4: ∀ (k n i m:Nat) (rest:List UInt8),n<128 ^ k->i+k<=5->(0<k)->(n≠0∨i=0)->rn i m (yD n++rest)=(m+n*2 ^ (7*i),rest,false)
 |0,_,_,_,_,_,_,h0,_=>absurd h0 (by decide)
 |k+1,n,i,m,rest,hn,hi,_,hz=>by
  by_cases h:n<=127
  rw[ui h]
  simp only[qo,kR,rn]
  rw[if_neg I,zi n I,if_pos I,gU I]
  have:(decide (n=0)&&decide (0<i))=false:=by
   rcases hz with h|h
   simp[h]
   simp[h]
  rw[this]
  rw[Dc I]
  simp only[qo,rn]
  have hm:n%128<128:=jC _ (by decide)
  rw[if_neg I,zi _ I,if_neg I]
  have hk:k≠0:=by rintro rfl;simp at hn;omega
  rw[J4 k (n/128) (i+1) _ rest (by rw[Nat.pow_succ]at hn;exact yx I) I I (.inl I)]
  congr 1
  have e1:(n%128+128)%128=n%128:=by omega
  have e2:2 ^ (7*(i+1))=128*2 ^ (7*i):=by rw[Nat.mul_add,Nat.pow_add];omega
  rw[e1,e2]
  have e3:n/128*(128*2 ^ (7*i))=(n/128*128)*2 ^ (7*i):=(Nat.mul_assoc _ _ _).symm
  rw[e3,kZ,<-cS]
  congr 2
  omega
theorem yX {n:Nat} (hn:n<=1073741824) (rest:List UInt8):Ez (yD n++rest) false=(n,rest,false):=by
 unfold Ez
 rw[if_neg (by decide),J4 5 n 0 0 rest I I I (.inr Z)]
 simp
theorem IN: ∀ k:Nat,k<4-> ∀ t:Bool,let c:=k+if t then 16 else 0;c<32/\(c&&&15)=k/\(!decide (((c&&&16:Nat):Int)=0))=t:=by decide
theorem Lj {e:cQ} (h:rz e): ∃ c x,eQ e=c::x/\t0 c x=true/\(sX c x).1=e:=by
 obtain⟨h1,h2,h3,h4,-⟩:=qI h
 refine⟨n8 e,n6 e.nums++e.text.data.toList,rfl,?_⟩
 obtain⟨ep,pid,ver,seq,kind,txn,text⟩:=e
 simp only[cQ.nums,ay,cd,or_false,forall_eq_or_imp,forall_eq]at h3
 dsimp only at h1 h2
 obtain⟨a1,a2,a3,a4⟩:=h3
 obtain⟨n1,rfl⟩: ∃ n:Nat,ep=n:=⟨ep.toNat,by omega⟩
 obtain⟨n2,rfl⟩: ∃ n:Nat,pid=n:=⟨pid.toNat,by omega⟩
 obtain⟨n3,rfl⟩: ∃ n:Nat,ver=n:=⟨ver.toNat,by omega⟩
 obtain⟨n4,rfl⟩: ∃ n:Nat,seq=n:=⟨seq.toNat,by omega⟩
 obtain⟨k,rfl⟩: ∃ n:Nat,kind=n:=⟨kind.toNat,by omega⟩
 have hb:n6 (cQ.nums ⟨(n1:Nat),(n2:Nat),(n3:Nat),(n4:Nat),(k:Nat),txn,text⟩)++text.data.toList=yD n1++(yD n2++(yD n3++(yD n4++text.data.toList))):=by
  simp[n6,cQ.nums]
 obtain⟨j1,j2,j3⟩:=IN k I txn
 have hkb:(n8 ⟨(n1:Nat),(n2:Nat),(n3:Nat),(n4:Nat),(k:Nat),txn,text⟩).toNat=k+if txn then 16 else 0:=by
  unfold n8
  exact zi _ (by simp only[t8];exact Nat.lt_trans j1 (by decide))
 have hE:sX (n8 ⟨(n1:Nat),(n2:Nat),(n3:Nat),(n4:Nat),(k:Nat),txn,text⟩) (yD n1++(yD n2++(yD n3++(yD n4++text.data.toList))))=(⟨(n1:Nat),(n2:Nat),(n3:Nat),(n4:Nat),(k:Nat),txn,text⟩,false):=by
  unfold sX
  simp only[yX (show n1<=1073741824 by omega),yX (show n2<=1073741824 by omega),yX (show n3<=1073741824 by omega),yX (show n4<=1073741824 by omega),hkb,j2,j3]
 dsimp only
 rw[hb]
 refine⟨?_,by rw[hE]⟩
 unfold t0
 rw[hE,hkb]
 simp[j1,show eK _=0 from h]
theorem AB (e:cQ):(iF e).length=(eQ e).length+3:=by simp[iF]
theorem Er {e:cQ} (h:rz e) (rest:List UInt8):tl (iF e++rest)=some (e,(iF e).length):=by
 obtain⟨hl,h0⟩:=uz h
 have hs:=C0 (eQ e)
 obtain⟨c,x,h1,h2,h3⟩:=Lj h
 have e1:iF e++rest=UInt8.ofNat (eQ e).length::(eQ e++(UInt8.ofNat (mj (eQ e)/256)::UInt8.ofNat (mj (eQ e)%256)::rest)):=by simp[iF]
 rw[e1,tl,zi _ I,if_neg (by simp only[az,bS];omega)]
 have t1:(eQ e++(UInt8.ofNat (mj (eQ e)/256)::UInt8.ofNat (mj (eQ e)%256)::rest)).take (eQ e).length=eQ e:=jb
 have t2:(eQ e++(UInt8.ofNat (mj (eQ e)/256)::UInt8.ofNat (mj (eQ e)%256)::rest)).getD (eQ e).length 0=UInt8.ofNat (mj (eQ e)/256):=by
  rw[cf,cC (ao _),mf];rfl
 have t3:(eQ e++(UInt8.ofNat (mj (eQ e)/256)::UInt8.ofNat (mj (eQ e)%256)::rest)).getD ((eQ e).length+1) 0=UInt8.ofNat (mj (eQ e)%256):=by
  rw[cf,cC I,oE];rfl
 rw[t1,t2,t3,zi _ I,zi _ I,if_neg (fun h=>h (Nat.div_add_mod' _ _).symm)]
 have t4:(eQ e++(UInt8.ofNat (mj (eQ e)/256)::UInt8.ofNat (mj (eQ e)%256)::rest)).headD 0=c:=by rw[h1];rfl
 rw[t4,AB]
 rw[h1]
 simp[h2,h3]
theorem HG: ∀ (es:List cQ) (rest:List UInt8),(∀ e∈es,rz e)->tl rest=none->HU (bi es++rest) es (bi es).length
 |[],rest,_,h=> .stop h
 |e::es,rest,hg,h=>by
  have h1:=Er (hg e (aC ..)) (bi es++rest)
  have h2:=HG es rest (fun x hx=>hg x (al _ hx)) h
  have e1:bi (e::es)++rest=iF e++(bi es++rest):=by simp[bi]
  have e2:(bi (e::es)).length=(iF e).length+(bi es).length:=by simp[bi]
  rw[e1,e2]
  exact .go h1 (by rw[List.drop_left];exact h2)
theorem pD {l:List UInt8} {es es':List cQ} {n n':Nat} (h:HU l es n) (h':HU l es' n'):es=es'/\n=n':=by
 induction h generalizing es' n' with
 |stop h=>cases h' with
  |stop=>exact⟨rfl,rfl⟩
  |go h1 _=>rw[h]at h1;cases h1
 |go h hd ih=>cases h' with
  |stop h1=>rw[h]at h1;cases h1
  |go h1 hd1=>
   rw[h]at h1
   injection h1 with h1;injection h1 with h1 h2
   subst h1;subst h2
   obtain⟨a,b⟩:=ih hd1
   exact⟨by rw[a],by rw[b]⟩
theorem KP (e:cQ):bi [e]=iF e:=by simp[bi]
theorem I0 {es:List cQ} {k:Nat} (h:k<es.length):bi (es.take (k+1))=bi (es.take k)++iF es[k]:=by
 unfold bi
 rw[CM h,mP,List.flatMap_singleton]
theorem fj (es:List cQ) (k:Nat):(bi (es.take k)).length<=(bi es).length:=by
 have:bi es=bi (es.take k)++bi (es.drop k):=by
  unfold bi;rw[<-mP,gM]
 rw[this,az];omega
def e0:cQ:=⟨0,1,0,0,2,true,⟨#[]⟩⟩
section
open Go.ChangeShapes Go.WideShapes Go.ChangeAt Go.RowKit Go.Eng
/-- the row's end, out of a function's contract -/
theorem Ip {f:FuncId} {vs:List Value} {w:World} (h:dg ab f vs w fun v w2=>v=.bool true/\Below w.heap.size w w2):Calls ab f vs.toArray w fun e w'=>e=.returned (.bool true)/\Below w.heap.size w w':=
 Calls.mono h fun _ _ ⟨_,he,hv,hb⟩=>⟨by rw[he,hv],hb⟩
end


/-- picked -/
def pk (n:Int) (m:Nat):Nat:=(if n<0 then(-(n+1)).toNat else n.toNat)%m
theorem i9 (n:Int) {m:Nat} (h:0<m):pk n m<m:=jC _ h
theorem dm (n:Int) (m:Nat) (w:World) (h1: -9223372036854775808<=n) (h2:n<=9223372036854775807) (hm:0<m) (hm2:m<=1000000000000):
  dg ab s6 [J n,J (m:Nat)] w fun v w2=>v=J (pk n m:Nat)/\Below w.heap.size w w2:=by
 refine aF sx Z Z ?_
 have H:=Hp.start w
 refine W ?_
 refine Zr ?_
 refine oT Z Z ?_
 refine U<|W ?_
 obtain⟨a,ha⟩: ∃ a:Nat,(if n<0 then(-(n+1)).toNat else n.toNat)=a:=⟨_,rfl⟩
 refine eG (τ:=Unit) [5,6,7,8,9,0] (fun _=>[(0,J (a:Nat))]) (fun _ w'=>Hp w w' [] []) ?_ ?_
 ·refine AD ?_
  refine Zr ?_
  refine iz Z Z ?_
  refine Gz Z Z Z (fun h6=> ?_) (fun h6=> ?_)
  all_goals refine nf ?_
  ·refine pE Z ?_
   refine Zr ?_
   refine iz Z Z ?_
   refine G (Oa Z Z I I)<|G (NN Z I I) ?_
   refine oT Z Z ?_
   refine U ?_
   have e: -(n+1)=(a:Nat):=by rw[if_pos h6]at ha;omega
   rw[e]
   refine⟨(),H,dJ Z,by repeat (first|exact D8.refl _ _|exact mI|refine lB Z ?_|refine jI _ Z ?_)⟩
  ·refine ov Z ?_
   refine Zk ?_
   have e:n=(a:Nat):=by rw[if_neg h6]at ha;omega
   subst e
   refine⟨(),H,dJ Z,by repeat (first|exact D8.refl _ _|exact mI|refine lB Z ?_|refine jI _ Z ?_)⟩
 rintro _ ρ1 w1 H
 show CW _ _ _ _ (dH (gJ _ _ ρ1) [(0,J (a:Nat))]) w1
 refine W ?_
 refine Zr ?_
 refine iz Z Z ?_
 refine iz Z Z ?_
 refine rem Z Z I I Z ?_
 refine oT Z Z ?_
 refine U<|Zt ?_
 have e:((a:Int)%(m:Int))=(pk n m:Nat):=by unfold pk;rw[ha];rfl
 rw[e]
 exact cH (v:=J (pk n m:Nat)) Z Z ⟨rfl,H.below⟩
structure He where
 kind:Int
 a:Int
 b:Int
 c:Int
def He.cs (r:He):List Value:=[J r.kind,J r.a,J r.b,J r.c]
def yC:fo He:=⟨He.cs,4,fun _=>rfl,by decide,fun a u hu=>by
 simp only[He.cs,ay,cd,or_false]at hu
 rcases hu with h|h|h|h<;>subst h<;>rfl⟩
def i64 (n:Int):Prop:= -9223372036854775808<=n/\n<=9223372036854775807
def He.ok (r:He):Prop:=i64 r.kind/\i64 r.a/\i64 r.b/\i64 r.c
def uQ (n:Nat):List UInt8:=if h:n=0 then []else UInt8.ofNat (97+n%10)::uQ (n/10)
termination_by n
decreasing_by omega
theorem BZ {n:Nat} (h:0<n):uQ n=UInt8.ofNat (97+n%10)::uQ (n/10):=by rw[uQ,dif_neg I]
theorem vt:uQ 0=[]:=by rw[uQ];simp
theorem xh: ∀ (k n:Nat),n<10 ^ k->(uQ n).length<=k
 |0,n,h=>by
  have:n=0:=by simpa using h
  subst this;rw[vt];simp
 |k+1,n,h=>by
  by_cases hn:n=0
  subst hn;rw[vt];simp
  rw[BZ I]
  have:=xh k (n/10) (by rw[Nat.pow_succ]at h;omega)
  simp;omega
def uO (n:Int):ByteArray:=⟨(uQ (pk n 10000)).toArray⟩
theorem N7 (a b:List UInt8):(⟨a.toArray⟩:ByteArray)++⟨b.toArray⟩=⟨(a++b).toArray⟩:=by
 apply ByteArray.ext
 simp
theorem HV (n:Int):(uO n).size<=4:=by
 have:=xh 4 (pk n 10000) (i9 n (by decide))
 simpa [uO,ByteArray.size]using this
theorem LN (n:Int) (w:World) (hn:i64 n):dg ab uD [J n] w fun v w2=>v=.string (uO n)/\Below w.heap.size w w2:=by
 refine aF tJ Z Z ?_
 have H:=Hp.start w
 obtain⟨hn1,hn2⟩:=hn
 have hpk:=i9 n (show 0<10000 by decide)
 refine W<|Zr<|G (Wt Z)<|U<|W<|Zr<|G (Wt Z)<|U<|W<|W<|Zr<|G (Yi Z)<|ch aJ (dm _ 10000 _ I I (by decide) (by decide)) Z Z ?_
 rintro _ w1 ⟨rfl,hb⟩;replace H:=H.later hb;clear hb
 refine G (Wi Z)<|U<|Zb ?_
 refine cy (τ:=Nat×List UInt8) [0,3,6,7,8,9,10,11,12,13,14,15,16] (fun(m,s)=>[(0,J (m:Nat)),(3,.string ⟨s.toArray⟩)]) (fun(m,s) w'=>m<10000/\s++uQ m=uQ (pk n 10000)/\Hp w w' [] []) (fun(m,_)=>m) (pk n 10000,[]) ⟨hpk,rfl,H⟩ (la Z Z) ?_
 rintro⟨m,s⟩ ρ1 w1 ⟨hm,hs,H⟩
 show CW _ _ _ _ (dH (gJ _ _ ρ1) [(0,J (m:Nat)),(3,.string ⟨s.toArray⟩)]) w1
 have hsl:(⟨s.toArray⟩:ByteArray).size<=4:=by
  have h4:=xh 4 (pk n 10000) (by simpa using hpk)
  rw[<-hs,az]at h4
  show s.toArray.size<=4
  simp;omega
 refine W<|W<|Zr<|G (Yi Z) ?_
 refine cW (ke Z Z) Z Z Z (fun h7=> ?_) (fun h7=> ?_)
 ·
  refine U<|ZT Z<|Zk<|W<|Zb<|Zr<|G (Yt Z)<|G (Yi Z)<|G (Nf Z Z I I)<|G (bz Z Z I I) ?_
  have e13:(97:Int)+(m:Int)%10=(97+m%10:Nat):=by omega
  rw[e13]
  refine G (CA iv Cn Z (Nv I))<|G (N0 Cn jr Z Z I)<|G (NE Z Z (by simp only[ByteArray.size]at hsl⊢;simp at hsl⊢;omega)) ?_
  rw[show(⟨#[UInt8.ofNat (97+m%10)]⟩:ByteArray)=⟨[UInt8.ofNat (97+m%10)].toArray⟩from rfl,N7]
  refine G (Wt Z)<|U<|Zr<|G (Yi Z)<|G (Oq Z Z I I I)<|G (Wi Z)<|U ?_
  refine⟨(m/10,s++[UInt8.ofNat (97+m%10)]),⟨by omega,by rw[<-hs,BZ (n:=m) I];simp,H⟩,la Z Z,by repeat (first|exact D8.refl _ _|exact mI|refine lB Z ?_|refine jI _ Z ?_),by show m/10<m;omega⟩
 ·
  refine U<|ZF Z<|Zx<|W<|Zr<|G (Yt Z)<|G (Wt Z)<|U<|Zt ?_
  have hm0:m=0:=by omega
  subst hm0
  rw[vt,aY]at hs
  subst hs
  exact cH (v:=.string (uO n)) Z Z ⟨rfl,H.below⟩
def He.entry (r:He):cQ:=
 let p:=pk r.b 4
 if p=0 then⟨pk r.a 4,0,0,0,1,false,uO r.c⟩
 else if pk r.kind 6=0∨pk r.kind 6=1 then⟨pk r.a 4,p,pk r.a 3,0,2+pk r.c 2,true,⟨#[]⟩⟩
 else⟨pk r.a 4,p,pk r.a 3,pk r.c 5,1,decide (((pk r.c 2:Nat):Int)=0),uO r.c⟩
section
open Go.ChangeShapes Go.WideShapes Go.ChangeAt Go.RowKit Go.Eng
theorem xi {n:Int} (h:(Lit.int .i64 n).wf=true):i64 n:=by
 have: -9223372036854775808<=n/\n<=9223372036854775807:=by simpa [Lit.wf,IntKind.min,IntKind.max,IntKind.signed,IntKind.bits]using h
 exact this
theorem LR:ab.underlying vk=some (.struct (ab.fieldsOf vk)):=by kernel_rfl
theorem Gc:(ab.fieldsOf vk).toList.map (fun f=>(f.offset,ab.cellsOf f.type))=[(0,1),(1,1),(2,1),(3,1)]:=by kernel_rfl
theorem J9:((ab.fieldsOf vk).toList.all fun f=>oO ab f.type .i64)=true:=by kernel_rfl
theorem yc:ab.cellsOf vk=4:=by kernel_rfl
theorem wo {P:Program} {t:TypeId} {k:IntKind} (h:oO P t k=true):P.underlying t=some (.int k):=by
 unfold oO at h
 split at h
 rename_i k' hk;rw[hk,of_decide_eq_true h]
 cases h
section
variable {H:Type} {enc:TypeId×Value->H} {w:World} {base:Nat} {sp:Nat->Bool} {held:Bool}
theorem C8 {P:Program} {t:TypeId} {fs:Array Field} (hu:P.underlying t=some (.struct fs)) (hp:fs.toList.map (fun f=>(f.offset,P.cellsOf f.type))=[(0,1),(1,1),(2,1),(3,1)]) (hi:(fs.toList.all fun f=>oO P f.type .i64)=true) (hce:P.cellsOf t=4)
  {n:Nat} {cs:List Value} {x:DataW H×List MemPlace} (h:DataW.trod enc P w base sp held n t cs=some x): ∃ r:He,cs=r.cs/\r.ok:=by
 obtain⟨xs,k,_,_,hl,hlen,hf⟩:=DataW.trod_struct hu h
 rw[hce]at hl
 obtain⟨fs⟩:=fs
 have hl4:fs.length=4:=by have:=congrArg cB hp;simpa using this
 obtain⟨f0,f1,f2,f3,rfl⟩: ∃ a b c d,fs=[a,b,c,d]:=by
  match fs,hl4 with
  |[a,b,c,d],_=>exact⟨a,b,c,d,rfl⟩
 simp only[eM,mh,List.cons.injEq,Prod.mk.injEq,and_true]at hp
 obtain⟨⟨o0,c0⟩,⟨o1,c1⟩,⟨o2,c2⟩,o3,c3⟩:=hp
 simp only[List.all_cons,List.all_nil,aR,and_true]at hi
 obtain⟨i0,i1,i2,i3⟩:=hi
 obtain⟨v0,v1,v2,v3,rfl⟩: ∃ a b c d,cs=[a,b,c,d]:=by
  match cs,hl with
  |[a,b,c,d],_=>exact⟨a,b,c,d,rfl⟩
 have g0:=hf 0 f0 rfl
 have g1:=hf 1 f1 rfl
 have g2:=hf 2 f2 rfl
 have g3:=hf 3 f3 rfl
 rw[o0,c0]at g0;rw[o1,c1]at g1;rw[o2,c2]at g2;rw[o3,c3]at g3
 have hx:xs.length=4:=by simpa using hlen
 obtain⟨x0,h0⟩: ∃ y,xs[0]? =some y:=⟨_,ai (by omega)⟩
 obtain⟨x1,h1⟩: ∃ y,xs[1]? =some y:=⟨_,ai (by omega)⟩
 obtain⟨x2,h2⟩: ∃ y,xs[2]? =some y:=⟨_,ai (by omega)⟩
 obtain⟨x3,h3⟩: ∃ y,xs[3]? =some y:=⟨_,ai (by omega)⟩
 rw[h0]at g0;rw[h1]at g1;rw[h2]at g2;rw[h3]at g3
 obtain⟨n0,e0,_,w0⟩:=DataW.trod_int (wo i0) g0
 obtain⟨n1,e1,_,w1⟩:=DataW.trod_int (wo i1) g1
 obtain⟨n2,e2,_,w2⟩:=DataW.trod_int (wo i2) g2
 obtain⟨n3,e3,_,w3⟩:=DataW.trod_int (wo i3) g3
 simp at e0 e1 e2 e3
 subst e0 e1 e2 e3
 exact⟨⟨n0,n1,n2,n3⟩,rfl,xi w0,xi w1,xi w2,xi w3⟩
theorem It {n:Nat} {cs:List Value} {x:DataW H×List MemPlace} (h:DataW.trod enc ab w base sp held n vk cs=some x): ∃ r:He,cs=r.cs/\r.ok:=
 C8 LR Gc J9 yc h
theorem JZ {α:Type} {Y:fo α} {T e:TypeId} (hT:ab.underlying T=some (.slice e)) (hce:ab.cellsOf e=Y.sz) (ok:α->Prop) (hel: ∀ n cs x,DataW.trod enc ab w base sp held n e cs=some x-> ∃ r:α,cs=Y.f r/\ok r)
  {A:Option Addr} {l c:Nat} {d:DataW H} {ps:List MemPlace} (h:DataW.Trod enc ab w base sp held T (.slice A l c) d ps):
  ∃ rs:List α,rs.length=l/\l<=c/\c<=maxLen/\Rd Y 0 w.heap.size A rs w/\ ∀ r∈rs,ok r:=by
 obtain⟨fuel,hf⟩:=h
 rcases Go.Deep.open_slice hT hf with⟨hcs,_⟩|⟨a,len,cap,m,n,D,Pl,hcs,_,hl,hm,hmm,_,hx⟩
 simp[Value.cells]at hcs
 obtain⟨rfl,rfl,rfl⟩:=hcs
 exact⟨[],rfl,ao _,bK _,Rd.nil,by simp⟩
 simp[Value.cells]at hcs
 obtain⟨rfl,rfl,rfl⟩:=hcs
 have hlm:l<=m:=by rw[hmm];split<;>omega
 have each: ∀ i,i<l-> ∃ r:α,ok r/\ ∀ j u,(Y.f r)[j]? =some u->w.cell? ((a.add (i*Y.sz)).add j)=some u:=by
  intro i hi
  obtain⟨cs',h1,h2⟩:=hx i (by omega)
  obtain⟨r,hr,hok⟩:=hel _ _ _ h2
  rw[hce]at h1
  obtain⟨_,hlen,hcell⟩:=World.cells?_some h1
  refine⟨r,hok,fun j u hj=> ?_⟩
  have hjl:j<Y.sz:=by
   have:=(aB.1 hj).1
   rwa[Y.len]at this
  rw[hcell j hjl,hr,hj]
 have build: ∀ k,k<=l-> ∃ rs:List α,rs.length=k/\(∀ r∈rs,ok r)/\ ∀ i r,rs[i]? =some r-> ∀ j u,(Y.f r)[j]? =some u->w.cell? ((a.add (i*Y.sz)).add j)=some u:=by
  intro k
  induction k with
  |zero=>intro _;exact⟨[],rfl,by simp,by simp⟩
  |succ k ih=>
   intro hk
   obtain⟨rs,h1,h2,h3⟩:=ih (by omega)
   obtain⟨r,hok,hr⟩:=each k (by omega)
   refine⟨rs++[r],by simp[h1],?_,?_⟩
   intro q hq
   rcases ax.1 hq with hq|hq
   exact h2 q hq
   rw[au.1 hq];exact hok
   intro i q hq
   by_cases hi:i<rs.length
   rw[cv hi]at hq;exact h3 i q hq
   rw[cC (by omega)]at hq
   have:i=k:=by
    have:=(aB.1 hq).1
    simp at this;omega
   subst this
   rw[<-h1]at hq hr⊢
   simp at hq
   rw[<-hq];exact hr
 obtain⟨rs,h1,h2,h3⟩:=build l (ao _)
 refine⟨rs,h1,hl,hm,fun h0=> ?_,h2⟩
 obtain⟨r0,hr0e⟩: ∃ r,rs[0]? =some r:=⟨_,ai h0⟩
 have hpos:0<(Y.f r0).length:=by rw[Y.len];exact Y.pos
 obtain⟨u0,hu0⟩: ∃ u,(Y.f r0)[0]? =some u:=⟨_,ai hpos⟩
 have hc0:=h3 0 r0 hr0e 0 u0 hu0
 have hz:(a.add (0*Y.sz)).add 0=a:=by simp[Addr.add]
 rw[hz]at hc0
 have hs:=World.cell?_spot hc0
 obtain⟨b,o,s⟩:=a
 simp only at hs
 subst hs
 refine⟨b,o,rfl,bK _,?_,fun j u hj=> ?_⟩
 unfold World.cell? at hc0
 split at hc0
 rename_i hb;exact cj hb
 cases hc0
 have hjl:j<rs.length*Y.sz:=by
  have:=(aB.1 hj).1
  rwa[fo.length]at this
 have hq:j/Y.sz<rs.length:=by rw[Nat.div_lt_iff_lt_mul Y.pos];exact hjl
 have hm2:j%Y.sz<Y.sz:=jC _ Y.pos
 have hdm:j/Y.sz*Y.sz+j%Y.sz=j:=Nat.div_add_mod' j Y.sz
 have hg:=fo.get (Y:=Y) hq hm2
 rw[hdm,hj]at hg
 have:=h3 (j/Y.sz) _ (ai hq) (j%Y.sz) u hg.symm
 rw[Addr.add_lit,Addr.add_lit,kZ,hdm]at this
 exact this
end
end
section
open Go.ChangeShapes Go.WideShapes Go.ChangeAt Go.RowKit
theorem JG (r:List Char):wordsSigns (' '::r)=[]::wordsSigns r:=by rw[wordsSigns]
theorem JH (c:Char) (hc:c≠' ') (l w:List Char) (ws:List (List Char)) (h:wordsSigns l=w::ws):wordsSigns (c::l)=(c::w)::ws:=by
 rw[wordsSigns,h]
 exact hc
theorem r7: ∀ (a r:List Char),(∀ c∈a,c≠' ')->wordsSigns (a++' '::r)=a::wordsSigns r
 |[],r,_=>JG r
 |c::a,r,h=>JH c (h c (aC ..)) _ _ _ (r7 a r fun x hx=>h x (al _ hx))
def wA:List Char:=['a','t',' ','t','a','i','l','r','a','c','e','/','t','a','i','l','r','a','c','e','t','o','p','.','T','o','p','K','e','p','t',' ','t','a','i','l','r','a','c','e','/','t','a','i','l','r','a','c','e','t','o','p','.','T','o','p','T','w','i','c','e',' ','t','a','i','l','r','a','c','e','/','t','a','i','l','r','a','c','e','t','o','p','.','T','o','p','L','a','t','e','r',' ','t','a','i','l','r','a','c','e','/','t','a','i','l','r','a','c','e','k','e','e','p','.','W','o','r','l','d','G','o','o','d',' ','t','a','i','l','r','a','c','e','/','t','a','i','l','r','a','c','e','k','e','e','p','.','L','o','g','s','O','n','c','e',' ','t','a','i','l','r','a','c','e','/','t','a','i','l','r','a','c','e','k','e','e','p','.','A','g','a','i','n','S','a','m','e']
def HA:List Char:=['e','6','a','a','d','7','b','0','2','3','5','2','c','b','a','b','7','0','5','d','6','f','f','1','1','e','2','f','7','d','a','d','1','1','d','2','8','6','0','3','5','a','9','8','1','d','4','3','d','b','e','b','0','7','6','5','4','2','a','9','c','d','6','c']
theorem MO:Tryz.checked.prog.initOrder=String.ofList (['h','a','r','n','e','s','s']++' '::(HA++' '::(['c','u','t']++' '::wA))):=by kernel_rfl
theorem sw:behindMainWord (wordsSigns Tryz.checked.prog.initOrder.toList)=['c','u','t']::wordsSigns wA:=by
 rw[MO,String.toList_ofList,r7 _ _ (by decide),r7 _ _ (by decide+kernel),r7 _ _ (by decide)]
 have hs:isSumSigns HA=true:=by decide+kernel
 simp[behindMainWord,hs]
theorem OZ: "gc".toList=['g','c']:=by simp
theorem Nx: "spec".toList=['s','p','e','c']:=by simp
theorem M9: "cut".toList=['c','u','t']:=by simp
theorem MC {P:Program} {c:List Char} {r:List (List Char)} (h:behindMainWord (wordsSigns P.initOrder.toList)=c::r) (hg:(c== "gc".toList||c== "spec".toList)=false) (hc:(c== "cut".toList||(c== "finals".toList&&r.head? ==some "cut".toList))=true):P.make=some .cut:=by
 unfold Program.make
 rw[h]
 simp only[hg,hc]
 rfl
theorem N3:(['c','u','t']== "gc".toList||['c','u','t']== "spec".toList)=false:=by rw[OZ,Nx];decide
theorem OF (r:List (List Char)):(['c','u','t']== "cut".toList||(['c','u','t']== "finals".toList&&r.head? ==some "cut".toList))=true:=by rw[M9];rfl
theorem B8 (ws:List (List Char)):stripLifts liftWords (['c','u','t']::ws)=([],['c','u','t']::ws):=by
 simp[stripLifts,liftWords]
theorem K6 {P:Program} {c:List Char} {r:List (List Char)} (h:behindMainWord (wordsSigns P.initOrder.toList)=c::r) (hs:stripLifts liftWords (c::r)=([],c::r)) (hc:(c== "cut".toList)=true) (hl:P.laysLater=false) (hb:P.bearsReflect=false) (hd:P.doorFits []=true):P.mayEnter=true:=by
 have e:((c::r).head? ==some "cut".toList)=true:=by
  rw[eq_of_beq hc];simp
 unfold Program.mayEnter
 rw[h]
 simp only[hs,hl,hb,hd,e]
 simp
theorem MX:(['c','u','t']== "cut".toList)=true:=by rw[M9];rfl
theorem GN:Tryz.checked.prog.headLifts=[]:=by
 unfold Program.headLifts
 rw[sw]
 generalize wordsSigns wA=ws
 simp[B8]
theorem EY:Tryz.checked.prog.liftsFinal=false:=by
 unfold Program.liftsFinal
 rw[sw,GN]
 generalize wordsSigns wA=ws
 simp
theorem KB:Tryz.checked.prog.make=some .cut:=MC sw N3 (OF _)
theorem GB:Tryz.checked.prog.laysLater=false:=by kernel_rfl
theorem BU:Tryz.checked.prog.bearsReflect=false:=by kernel_rfl
theorem I9:Tryz.checked.prog.doorFits []=true:=by kernel_rfl
theorem II:Tryz.checked.prog.mayEnter=true:=K6 sw (B8 _) MX GB BU I9
theorem Gl:ownKnob ab.godebug=none:=by kernel_rfl
theorem y2:laidOutB Tryz.checked.prog=true:=by kernel_rfl
theorem Gx:mapsRowed Tryz.checked.prog=true:=by kernel_rfl
theorem Ks:(Tryz.checked.prog.stops==[])=true:=by kernel_rfl
theorem Ku:(Tryz.checked.prog.stopKnobs==[])=true:=by kernel_rfl
theorem Gg:Tryz.checked.prog.plainKeys=false:=by kernel_rfl
theorem Ep:Tryz.checked.prog.stopsHeard=true:=by kernel_rfl
end
theorem HF {e:cQ} (h:rz e):(iF e).length<=64:=by
 have:=(uz h).1
 rw[AB];omega
theorem DL: ∀ (es:List cQ),(∀ e∈es,rz e)->(bi es).length<=64*es.length
 |[],_=>by simp[bi]
 |e::es,h=>by
  have h1:=HF (h e (aC ..))
  have h2:=DL es fun x hx=>h x (al _ hx)
  have:bi (e::es)=iF e++bi es:=by simp[bi]
  rw[this];simp;omega
theorem tS (es:List cQ) (h: ∀ e∈es,rz e):HU (bi es) es (bi es).length:=by
 have:=HG es [] h Z
 rwa[aY]at this
theorem bT {α:Type} {l:List α} {k:Nat} {e:α} (h:l[k]? =some e): ∃ hk:k<l.length,l[k]=e:=aB.1 h
theorem tP {es:List cQ} {k:Nat} {e:cQ} (h:es[k]? =some e):bi (es.take (k+1))=bi (es.take k)++iF e:=by
 obtain⟨hk,rfl⟩:=bT h
 exact I0 hk
structure Prod where
 ver:Int
 seq:Int
 open_:Int
 mark:Int
def Prod.c (p:Prod):List Value:=[J p.ver,J p.seq,J p.open_,J p.mark]
def p0:Prod:=⟨0,-1,-1,-1⟩
abbrev HR:TypeId:=188
theorem rG:EV ab HR db FK=true:=by kernel_rfl
def pv (e:cQ) (p:Prod):Prod:=if e.ver≠p.ver then⟨e.ver,-1,p.open_,p.mark⟩else p
def fS (i:Nat) (e:cQ) (p:Prod):Prod:=
 if e.kind≠1 then⟨(pv e p).ver,(pv e p).seq,-1,i⟩
 else if e.txn=true/\(pv e p).open_<0 then⟨(pv e p).ver,e.seq,i,(pv e p).mark⟩
 else⟨(pv e p).ver,e.seq,(pv e p).open_,(pv e p).mark⟩
def j6 (es:List cQ) (pid:Int):Option Prod:=
 es.zipIdx.foldl (fun a q=>if q.1.pid≠0/\q.1.pid=pid then some (fS q.2 q.1 (a.getD p0))else a) none
theorem Iw (pid:Int):j6 [] pid=none:=rfl
theorem zB (es:List cQ) (e:cQ) (pid:Int):j6 (es++[e]) pid=if e.pid≠0/\e.pid=pid then some (fS es.length e ((j6 es pid).getD p0))else j6 es pid:=by
 unfold j6
 rw[List.zipIdx_append,List.foldl_append]
 simp
theorem fi {α:Type} {l:List α} {k:Nat} {e:α} (h:l[k]? =some e):l.take (k+1)=l.take k++[e]:=by
 obtain⟨hk,rfl⟩:=bT h
 exact CM hk
theorem zA {es:List cQ} {k:Nat} {e:cQ} (h:es[k]? =some e) (pid:Int):j6 (es.take (k+1)) pid=if e.pid≠0/\e.pid=pid then some (fS k e ((j6 (es.take k) pid).getD p0))else j6 (es.take k) pid:=by
 obtain⟨hk,-⟩:=bT h
 rw[fi h,zB,aI,bA I]
abbrev PB:=Int×Nat×Prod
abbrev Bh (b:Nat):Value:=.pointer (Qd b)
def qS (S:List PB):List (Int×Value):=S.map fun q=>(q.1,Bh q.2.1)
def xo (q:PB):Nat×Obj:=(q.2.1,.cells q.2.2.c.toArray lK (0,0))
def ju (bm:Nat) (S:List PB):List (Nat×Obj):=(bm,tv (qS S))::S.map xo
def uB (S:List PB) (pid:Int):Option Prod:=(S.find? (fun q=>decide (q.1=pid))).map (·.2.2)
theorem uh (S:List PB):(qS S).map (·.1)=S.map (·.1):=by simp[qS]
theorem ED {S:List PB} {j:Nat} {pid:Int} {b:Nat} {p:Prod} (h:S[j]? =some (pid,b,p)):(qS S)[j]? =some (pid,Bh b):=by simp[qS,h]
theorem gp {S:List PB} {j:Nat} {pid:Int} {b:Nat} {p p':Prod} (h:S[j]? =some (pid,b,p)):qS (S.set j (pid,b,p'))=qS S:=by
 unfold qS
 apply eN
 intro i
 rw[aL,aL,lw]
 split
 rename_i hij;subst hij
 obtain⟨hlt,hg⟩:=bT h
 simp[hlt,hg]
 rfl
theorem KJ {S:List PB} {j:Nat} {pid:Int} {b:Nat} {p p':Prod} (h:S[j]? =some (pid,b,p)):(S.set j (pid,b,p')).map (·.1)=S.map (·.1):=by
 rw[<-uh,gp h,uh]
theorem EN {S:List PB} {j:Nat} {q:PB} (h:S[j]? =some q):(xo q::(S.eraseIdx j).map xo).Perm (S.map xo):=by
 obtain⟨hlt,rfl⟩:=bT h
 have:=Go.ChangeMaps.set_perm S j hlt S[j]
 rw[List.set_getElem_self]at this
 exact(this.map xo).symm
theorem jd {S:List PB} {j:Nat} {q q':PB} (h:S[j]? =some q):((S.set j q').map xo).Perm (xo q'::(S.eraseIdx j).map xo):=by
 obtain⟨hlt,-⟩:=bT h
 exact(Go.ChangeMaps.set_perm S j hlt q').map xo
theorem Cm {S:List PB} {pid:Int} (h: ∀ q∈S,q.1≠pid):uB S pid=none:=by
 unfold uB
 rw[Bb.2 (fun q hq=>by simpa using h q hq)];rfl
theorem um {S:List PB} (hn:(S.map (·.1)).Nodup) {j:Nat} {pid:Int} {b:Nat} {p:Prod} (h:S[j]? =some (pid,b,p)):uB S pid=some p:=by
 unfold uB
 induction S generalizing j with
 |nil=>simp at h
 |cons q r ih=>
  simp only[eM,kQ]at hn
  cases j with
  |zero=>simp at h;subst h;simp
  |succ j=>
   simp only[oF]at h
   have hne: ¬ q.1=pid:=fun e=>hn.1 (bB.2 ⟨_,ah h,e.symm⟩)
   rw[oY (by simpa using hne)]
   exact ih hn.2 h
theorem zR (S:List PB) (pid:Int):(∀ q∈S,q.1≠pid)∨ ∃ (j b:Nat) (p:Prod),S[j]? =some (pid,b,p):=by
 by_cases h: ∃ q∈S,q.1=pid
 obtain⟨⟨a,b,p⟩,hq,rfl⟩:=h
 obtain⟨j,hj⟩:=aU.1 hq
 exact .inr ⟨j,b,p,hj⟩
 exact .inl fun q hq e=>h ⟨q,hq,e⟩
theorem KE (S:List PB) (q:PB) {pid:Int} (h:q.1≠pid):uB (S++[q]) pid=uB S pid:=by
 unfold uB
 rw[List.find?_append,oY (by simpa using h)]
 simp
theorem KD {S:List PB} {j:Nat} {k:Int} {b:Nat} {p p':Prod} (h:S[j]? =some (k,b,p)) {pid:Int} (hp:k≠pid):uB (S.set j (k,b,p')) pid=uB S pid:=by
 unfold uB
 induction S generalizing j with
 |nil=>simp at h
 |cons q r ih=>
  cases j with
  |zero=>
   simp at h;subst h
   simp only[AZ]
   rw[oY (by simpa using hp),oY (by simpa using hp)]
  |succ j=>
   simp only[oF]at h
   simp only[List.set_cons_succ,List.find?_cons]
   split
   rfl
   exact ih h
def PS (S:List PB) (es:List cQ):Prop:=(S.map (·.1)).Nodup/\ ∀ pid,uB S pid=j6 es pid
theorem Mj {S:List PB} {es:List cQ} {k:Nat} {e:cQ} (h:es[k]? =some e) (h0:e.pid=0) (hs:PS S (es.take k)):PS S (es.take (k+1)):=
 ⟨hs.1,fun pid=>by rw[zA h,if_neg (fun x=>x.1 h0)];exact hs.2 pid⟩
theorem kT {S:List PB} {es:List cQ} {k j:Nat} {e:cQ} {b:Nat} {p:Prod} (h:es[k]? =some e) (h0:e.pid≠0) (hn:(S.map (·.1)).Nodup) (hj:S[j]? =some (e.pid,b,p)) (hp:p=(j6 (es.take k) e.pid).getD p0) (ho: ∀ pid,pid≠e.pid->uB S pid=j6 (es.take k) pid) {p':Prod} (hp':p'=fS k e p):
  PS (S.set j (e.pid,b,p')) (es.take (k+1)):=by
 have hn':((S.set j (e.pid,b,p')).map (·.1)).Nodup:=by rw[KJ hj];exact hn
 refine⟨hn',fun pid=> ?_⟩
 rw[zA h]
 by_cases hpid:e.pid=pid
 subst hpid
 obtain⟨hlt,-⟩:=bT hj
 rw[if_pos ⟨h0,rfl⟩,um hn' (ae hlt),hp',<-hp]
 rw[if_neg (fun x=>hpid x.2),KD hj hpid]
 exact ho pid (Ne.symm hpid)
theorem Cf (es:List cQ) (A:Option Addr) (c:Nat) (w:World) (hr:Rd gQ 0 w.heap.size A es w) (hb:es.length<=1000000):
  dg ab Bp [.slice A es.length c] w fun v w2=> ∃ S bm,v=.map (some bm)/\PS S es/\Hp w w2 (ju bm S) []:=by
 refine aF Al Z Z ?_
 have H:=Hp.startRd hr
 refine W<|Zr<|G (Lx Z)<|U<|W<|Zr<|PQ H Z fun w1 bm H=>G (Lx Z)<|U<|W<|W<|Zr<|G (Ys Z)<|G (br eE Z)<|G (Yi Z)<|U<|Zb ?_
 refine cy (τ:=Nat×List PB) [4,5,6,10,11,12,13,14,15,16,17,18,19,20,21,22,23,24,25,26,27,28,29,30,31,32,33,34,35,36,37,38,39,40,41,42,43,44,45,46,47,48,49,50,51,52,53,54,55,56,57,58,59,60,61,62,63,64,65,66,67,68,69,70,71,72,73,74] (fun(k,S)=>[(10,J (k:Nat))]) (fun(k,S) w'=>k<=es.length/\PS S (es.take k)/\Hp w w' (ju bm S) [dT gQ 0 w.heap.size A es]) (fun(k,_)=>es.length-k) (0,[]) ⟨by omega,⟨List.nodup_nil,fun pid=>rfl⟩,H⟩ (dJ Z) ?_
 rintro⟨k,S⟩ ρ1 w2 ⟨hk,hS,H⟩
 show CW _ _ _ _ (dH (gJ _ _ ρ1) [(10,J (k:Nat))]) w2
 refine W<|Zr ?_
 refine cW (cK Z Z) Z Z Z (fun h11=> ?_) (fun h11=> ?_)
 ·
  refine U<|W<|ZT Z<|Zk<|W<|Zb<|W<|Zr<|G (Yi Z)<|ql H 0 Z dX Z Z I I Z fun b3 o3 x3 e3=>G (jF (xs:=cQ.c x3) dI Z Z e3.cl)<|eI H gh Z fun w4 b5 H=>G (Wi Z)<|JU H 0 eV Z Z Z Z Z Z fun w5 H=>U<|W<|W<|Zr<|G (Zf fk Z)<|G (Zd ak H 0 Z Z Z) ?_
  refine cW (bp Z Z) Z Z Z (fun h17=> ?_) (fun h17=> ?_)
  ·
   refine U<|ZT Z<|Zx<|Zr<|G (bz Z Z I I)<|G (Yi Z)<|U ?_
   refine⟨(k+1,S),⟨by have:=(bT e3.at_).1;omega,Mj e3.at_ h17 hS,H.forget (aW _ _) (fun _ h=>h)⟩,dJ Z,Qg,by show es.length- (k+1)<es.length-k;omega⟩
  ·
   refine U<|ZF Z<|Zk<|W<|Zr<|G (Kz Z)<|G (Zf fk Z)<|G (Zd ak H 0 Z Z Z) ?_
   rcases zR S x3.pid with hno|⟨j,b,p,hj⟩
   ·
    refine G (Nj rG qz Z Z (H.ent (i:=1) Z) (by intro q hq;obtain⟨a,ha,rfl⟩:=bB.1 hq;exact hno a ha))<|G (Wp Z)<|U<|W ?_
    refine eG (τ:=List PB×Nat×Nat×Prod) [6,22,23,24,25,26,27,28,29] (fun(S1,j,b,p)=>[(6,Bh b)]) (fun(S1,j,b,p) w'=>(S1.map (·.1)).Nodup/\S1[j]? =some (x3.pid,b,p)/\p=(j6 (es.take k) x3.pid).getD p0/\(∀ pid,pid≠x3.pid->uB S1 pid=j6 (es.take k) pid)/\Hp w w' ((b,.cells p.c.toArray lK (0,0))::(b5,.cells (cQ.c x3).toArray dy (0,0))::(bm,tv (qS S1))::(S1.eraseIdx j).map xo) [dT gQ 0 w.heap.size A es]) ?_ ?_
    ·skip
     refine W<|Zr<|G (Yp Z)<|G (xn nN Z)<|U<|ZT Z<|W<|Zr<|G (bn (cs:=(Prod.c p0).toArray) xX zd N)<|fW H Z Z fun w6 b25 H=>G (Wp Z)<|U<|Zr<|G (Kz Z)<|G (Zf fk Z)<|G (Zd ak H 1 Z Z Z)<|G (Yp Z)<|PO H 2 rG Z Z Z Z (by intro q hq;obtain⟨a,ha,rfl⟩:=bB.1 hq;exact hno a ha) fun w7 H=>U ?_
     have hj:(S++[(x3.pid,b25,p0)])[S.length]? =some (x3.pid,b25,p0):=by simp
     have hkn:uB S x3.pid=none:=Cm hno
     rw[hS.2]at hkn
     refine⟨(S++[(x3.pid,b25,p0)],S.length,b25,p0),⟨?_,hj,by rw[hkn];rfl,fun pid hpid=>by rw[KE _ _ (Ne.symm hpid)];exact hS.2 pid,?_⟩,dJ Z,Qg⟩
     ·rw[bo];exact oW.2 ⟨hS.1,by simp,by intro a ha c hc;simp at hc;subst hc;obtain⟨q,hq,rfl⟩:=bB.1 ha;exact hno q hq⟩
     ·have hmm:qS (S++[(x3.pid,b25,p0)])=qS S++[(x3.pid,Bh b25)]:=by simp[qS]
      have hee:(S++[(x3.pid,b25,p0)]).eraseIdx S.length=S:=by rw[List.eraseIdx_append_of_length_le (ao _)];simp
      rw[hmm,hee];exact H
    rintro⟨S1,j,b,p⟩ ρ2 w8 ⟨hn,hj,hp,ho,H⟩
    show CW _ _ _ _ (dH (gJ _ _ ρ2) [(6,Bh b)]) w8
    refine W<|W ?_
    refine bD ci [0,1,2,3,4,5,6] [] [] [0,2,3,4,6] (sp []) N N N N Nq (cJ _) ?_
    refine aw Z Z Z Z Z (fun w' hw'=>Zf eF Z)<|aw Z Z Z Z Z (fun w' hw'=>aX ak Z (aD ((H.later hw').ent (i:=1) Z) Z))<|aw Z Z Z Z Z (fun w' hw'=>Yp Z)<|aw Z Z Z Z Z (fun w' hw'=>aG Z)<|aw Z Z Z Z Z (fun w' hw'=>Zf jN Z)<|aw Z Z Z Z Z (fun w' hw'=>aX ak Z (aD ((H.later hw').ent (i:=0) Z) Z)) ?_
    refine N8 Z Z Z Z Z (fun w' hw'=>ja Z Z) (fun h36=> ?_) (fun h36=> ?_)
    ·
     refine aQ ?_
     intro w9 hw' hF
     replace H:=H.later hw';clear hw' hF
     refine U<|ZT Z<|Zr<|G (Yp Z)<|G (Yp Z)<|G (Zf eF Z)<|G (Zd ak H 1 Z Z Z)<|G (aG Z)<|G (Zf jN Z)<|bg H 0 ((Prod.c ⟨x3.ver,p.seq,p.open_,p.mark⟩).toArray) bw Z Z Z Z Z N N fun w10 H=>G (aG Z)<|G (Zf fq Z)<|bg H 0 ((Prod.c ⟨x3.ver,-1,p.open_,p.mark⟩).toArray) bw Z Z Z Z Z N N fun w11 H=>U<|Zb<|W<|Zr<|G (Zf fc Z)<|G (Zd ak H 1 Z Z Z) ?_
     refine qV (ja Z Z) Z Z Z (fun h66=> ?_) (fun h66=> ?_)
     ·
      refine G (Wb Z)<|U<|ZT Z<|Zr<|G (Yp Z)<|G (Yp Z)<|G (Yi Z)<|G (aG Z)<|G (Zf d8 Z)<|bg H 0 ((Prod.c ⟨x3.ver,-1,-1,p.mark⟩).toArray) bw Z Z Z Z Z N N fun w12 H=>G (aG Z)<|G (Zf ib Z)<|bg H 0 ((Prod.c ⟨x3.ver,-1,-1,k⟩).toArray) bw Z Z Z Z Z N N fun w13 H=>U<|Zr<|G (bz Z Z I I)<|G (Yi Z)<|U ?_
      have hst:(⟨x3.ver,-1,-1,k⟩:Prod)=fS k x3 p:=by
       simp[fS,pv,h36,h66]
      have hP:=jd (q':=(x3.pid,b,(⟨x3.ver,-1,-1,k⟩:Prod))) hj
      refine⟨(k+1,S1.set j (x3.pid,b,(⟨x3.ver,-1,-1,k⟩:Prod))),⟨by omega,kT e3.at_ h17 hn hj hp ho hst,(H.perm (L':=(b5,_)::ju bm (S1.set j (x3.pid,b,_))) (by unfold ju;rw[gp hj];exact((hP.cons _).cons _).trans (((am _ _ _).cons _).trans (am _ _ _)))).forget (aW _ _) (fun _ h=>h)⟩,dJ Z,Qg,by show es.length- (k+1)<es.length-k;omega⟩
     ·
      refine G (Wb Z)<|U<|ZF Z<|W<|Zr<|G (Yp Z)<|G (Zf fd Z)<|G (Zd ak H 1 Z Z Z)<|G (aG Z)<|G (Zf fq Z)<|bg H 0 ((Prod.c ⟨x3.ver,x3.seq,p.open_,p.mark⟩).toArray) bw Z Z Z Z Z N N fun w14 H=>U<|W<|Zr<|G (Zf i6 Z) ?_
      refine wl (aX dV Z (aD (H.ent (i:=1) Z) Z)) Z Z Z (fun h51=> ?_) (fun h51=> ?_)
      ·
       refine G (Yb Z)<|ZG<|G (Yp Z)<|ZG<|G (aG Z)<|ZG<|G (Zf d8 Z)<|ZG<|G (Zd ak H 0 Z Z Z)<|ZG ?_
       refine cW (cK Z Z) Z Z Z (fun h57=> ?_) (fun h57=> ?_)
       ·
        refine G (Kt Z Z)<|U<|ZT Z<|Zr<|G (Yp Z)<|G (Yi Z)<|G (aG Z)<|G (Zf d8 Z)<|bg H 0 ((Prod.c ⟨x3.ver,x3.seq,k,p.mark⟩).toArray) bw Z Z Z Z Z N N fun w15 H=>U<|Zr<|G (bz Z Z I I)<|G (Yi Z)<|U ?_
        replace h57:p.open_<0:=h57
        have hst:(⟨x3.ver,x3.seq,k,p.mark⟩:Prod)=fS k x3 p:=by
         simp[fS,pv,h36,h66,h51,h57]
        have hP:=jd (q':=(x3.pid,b,(⟨x3.ver,x3.seq,k,p.mark⟩:Prod))) hj
        refine⟨(k+1,S1.set j (x3.pid,b,(⟨x3.ver,x3.seq,k,p.mark⟩:Prod))),⟨by omega,kT e3.at_ h17 hn hj hp ho hst,(H.perm (L':=(b5,_)::ju bm (S1.set j (x3.pid,b,_))) (by unfold ju;rw[gp hj];exact((hP.cons _).cons _).trans (((am _ _ _).cons _).trans (am _ _ _)))).forget (aW _ _) (fun _ h=>h)⟩,dJ Z,Qg,by show es.length- (k+1)<es.length-k;omega⟩
       ·
        refine G (Kt Z Z)<|U<|ZF Z<|Zk<|Zr<|G (bz Z Z I I)<|G (Yi Z)<|U ?_
        replace h57: ¬ p.open_<0:=h57
        have hst:(⟨x3.ver,x3.seq,p.open_,p.mark⟩:Prod)=fS k x3 p:=by
         simp[fS,pv,h36,h66,h51,h57]
        have hP:=jd (q':=(x3.pid,b,(⟨x3.ver,x3.seq,p.open_,p.mark⟩:Prod))) hj
        refine⟨(k+1,S1.set j (x3.pid,b,(⟨x3.ver,x3.seq,p.open_,p.mark⟩:Prod))),⟨by omega,kT e3.at_ h17 hn hj hp ho hst,(H.perm (L':=(b5,_)::ju bm (S1.set j (x3.pid,b,_))) (by unfold ju;rw[gp hj];exact((hP.cons _).cons _).trans (((am _ _ _).cons _).trans (am _ _ _)))).forget (aW _ _) (fun _ h=>h)⟩,dJ Z,Qg,by show es.length- (k+1)<es.length-k;omega⟩
      ·
       refine G (Yb Z)<|ZN<|ZN<|ZN<|ZN<|ZN<|G (N Z Z)<|U<|ZF Z<|Zk<|Zr<|G (bz Z Z I I)<|G (Yi Z)<|U ?_
       have hst:(⟨x3.ver,x3.seq,p.open_,p.mark⟩:Prod)=fS k x3 p:=by
        simp[fS,pv,h36,h66,h51]
       have hP:=jd (q':=(x3.pid,b,(⟨x3.ver,x3.seq,p.open_,p.mark⟩:Prod))) hj
       refine⟨(k+1,S1.set j (x3.pid,b,(⟨x3.ver,x3.seq,p.open_,p.mark⟩:Prod))),⟨by omega,kT e3.at_ h17 hn hj hp ho hst,(H.perm (L':=(b5,_)::ju bm (S1.set j (x3.pid,b,_))) (by unfold ju;rw[gp hj];exact((hP.cons _).cons _).trans (((am _ _ _).cons _).trans (am _ _ _)))).forget (aW _ _) (fun _ h=>h)⟩,dJ Z,Qg,by show es.length- (k+1)<es.length-k;omega⟩
    ·
     refine aQ ?_
     intro w16 hw' hF
     replace H:=H.later hw';clear hw' hF
     refine U<|ZF Z<|Zk<|Zb<|W<|Zr<|G (Zf fc Z)<|G (Zd ak H 1 Z Z Z) ?_
     refine qV (ja Z Z) Z Z Z (fun h66=> ?_) (fun h66=> ?_)
     ·
      refine G (Wb Z)<|U<|ZT Z<|Zr<|G (Yp Z)<|G (Yp Z)<|G (Yi Z)<|G (aG Z)<|G (Zf d8 Z)<|bg H 0 ((Prod.c ⟨p.ver,p.seq,-1,p.mark⟩).toArray) bw Z Z Z Z Z N N fun w17 H=>G (aG Z)<|G (Zf ib Z)<|bg H 0 ((Prod.c ⟨p.ver,p.seq,-1,k⟩).toArray) bw Z Z Z Z Z N N fun w18 H=>U<|Zr<|G (bz Z Z I I)<|G (Yi Z)<|U ?_
      have hst:(⟨p.ver,p.seq,-1,k⟩:Prod)=fS k x3 p:=by
       simp[fS,pv,h36,h66]
      have hP:=jd (q':=(x3.pid,b,(⟨p.ver,p.seq,-1,k⟩:Prod))) hj
      refine⟨(k+1,S1.set j (x3.pid,b,(⟨p.ver,p.seq,-1,k⟩:Prod))),⟨by omega,kT e3.at_ h17 hn hj hp ho hst,(H.perm (L':=(b5,_)::ju bm (S1.set j (x3.pid,b,_))) (by unfold ju;rw[gp hj];exact((hP.cons _).cons _).trans (((am _ _ _).cons _).trans (am _ _ _)))).forget (aW _ _) (fun _ h=>h)⟩,dJ Z,Qg,by show es.length- (k+1)<es.length-k;omega⟩
     ·
      refine G (Wb Z)<|U<|ZF Z<|W<|Zr<|G (Yp Z)<|G (Zf fd Z)<|G (Zd ak H 1 Z Z Z)<|G (aG Z)<|G (Zf fq Z)<|bg H 0 ((Prod.c ⟨p.ver,x3.seq,p.open_,p.mark⟩).toArray) bw Z Z Z Z Z N N fun w19 H=>U<|W<|Zr<|G (Zf i6 Z) ?_
      refine wl (aX dV Z (aD (H.ent (i:=1) Z) Z)) Z Z Z (fun h51=> ?_) (fun h51=> ?_)
      ·
       refine G (Yb Z)<|ZG<|G (Yp Z)<|ZG<|G (aG Z)<|ZG<|G (Zf d8 Z)<|ZG<|G (Zd ak H 0 Z Z Z)<|ZG ?_
       refine cW (cK Z Z) Z Z Z (fun h57=> ?_) (fun h57=> ?_)
       ·
        refine G (Kt Z Z)<|U<|ZT Z<|Zr<|G (Yp Z)<|G (Yi Z)<|G (aG Z)<|G (Zf d8 Z)<|bg H 0 ((Prod.c ⟨p.ver,x3.seq,k,p.mark⟩).toArray) bw Z Z Z Z Z N N fun w20 H=>U<|Zr<|G (bz Z Z I I)<|G (Yi Z)<|U ?_
        replace h57:p.open_<0:=h57
        have hst:(⟨p.ver,x3.seq,k,p.mark⟩:Prod)=fS k x3 p:=by
         simp[fS,pv,h36,h66,h51,h57]
        have hP:=jd (q':=(x3.pid,b,(⟨p.ver,x3.seq,k,p.mark⟩:Prod))) hj
        refine⟨(k+1,S1.set j (x3.pid,b,(⟨p.ver,x3.seq,k,p.mark⟩:Prod))),⟨by omega,kT e3.at_ h17 hn hj hp ho hst,(H.perm (L':=(b5,_)::ju bm (S1.set j (x3.pid,b,_))) (by unfold ju;rw[gp hj];exact((hP.cons _).cons _).trans (((am _ _ _).cons _).trans (am _ _ _)))).forget (aW _ _) (fun _ h=>h)⟩,dJ Z,Qg,by show es.length- (k+1)<es.length-k;omega⟩
       ·
        refine G (Kt Z Z)<|U<|ZF Z<|Zk<|Zr<|G (bz Z Z I I)<|G (Yi Z)<|U ?_
        replace h57: ¬ p.open_<0:=h57
        have hst:(⟨p.ver,x3.seq,p.open_,p.mark⟩:Prod)=fS k x3 p:=by
         simp[fS,pv,h36,h66,h51,h57]
        have hP:=jd (q':=(x3.pid,b,(⟨p.ver,x3.seq,p.open_,p.mark⟩:Prod))) hj
        refine⟨(k+1,S1.set j (x3.pid,b,(⟨p.ver,x3.seq,p.open_,p.mark⟩:Prod))),⟨by omega,kT e3.at_ h17 hn hj hp ho hst,(H.perm (L':=(b5,_)::ju bm (S1.set j (x3.pid,b,_))) (by unfold ju;rw[gp hj];exact((hP.cons _).cons _).trans (((am _ _ _).cons _).trans (am _ _ _)))).forget (aW _ _) (fun _ h=>h)⟩,dJ Z,Qg,by show es.length- (k+1)<es.length-k;omega⟩
      ·
       refine G (Yb Z)<|ZN<|ZN<|ZN<|ZN<|ZN<|G (N Z Z)<|U<|ZF Z<|Zk<|Zr<|G (bz Z Z I I)<|G (Yi Z)<|U ?_
       have hst:(⟨p.ver,x3.seq,p.open_,p.mark⟩:Prod)=fS k x3 p:=by
        simp[fS,pv,h36,h66,h51]
       have hP:=jd (q':=(x3.pid,b,(⟨p.ver,x3.seq,p.open_,p.mark⟩:Prod))) hj
       refine⟨(k+1,S1.set j (x3.pid,b,(⟨p.ver,x3.seq,p.open_,p.mark⟩:Prod))),⟨by omega,kT e3.at_ h17 hn hj hp ho hst,(H.perm (L':=(b5,_)::ju bm (S1.set j (x3.pid,b,_))) (by unfold ju;rw[gp hj];exact((hP.cons _).cons _).trans (((am _ _ _).cons _).trans (am _ _ _)))).forget (aW _ _) (fun _ h=>h)⟩,dJ Z,Qg,by show es.length- (k+1)<es.length-k;omega⟩
   ·
    refine G (Ni rG qz Z Z (H.ent (i:=1) Z) (by rw[uh];exact hS.1) (ED hj))<|G (Wp Z)<|U<|W ?_
    refine eG (τ:=List PB×Nat×Nat×Prod) [6,22,23,24,25,26,27,28,29] (fun(S1,j,b,p)=>[(6,Bh b)]) (fun(S1,j,b,p) w'=>(S1.map (·.1)).Nodup/\S1[j]? =some (x3.pid,b,p)/\p=(j6 (es.take k) x3.pid).getD p0/\(∀ pid,pid≠x3.pid->uB S1 pid=j6 (es.take k) pid)/\Hp w w' ((b,.cells p.c.toArray lK (0,0))::(b5,.cells (cQ.c x3).toArray dy (0,0))::(bm,tv (qS S1))::(S1.eraseIdx j).map xo) [dT gQ 0 w.heap.size A es]) ?_ ?_
    ·skip
     refine W<|Zr<|G (Yp Z)<|G (vz nN Z)<|U<|ZF Z<|Zk ?_
     refine⟨(S,j,b,p),⟨hS.1,hj,by rw[<-hS.2,um hS.1 hj];rfl,fun pid _=>hS.2 pid,H.perm ?_⟩,dJ Z,Qg⟩
     have hP:=EN hj
     exact((am _ _ _).trans ((am _ _ _).cons _)).trans ((hP.cons _).cons _)
    rintro⟨S1,j,b,p⟩ ρ2 w21 ⟨hn,hj,hp,ho,H⟩
    show CW _ _ _ _ (dH (gJ _ _ ρ2) [(6,Bh b)]) w21
    refine W<|W ?_
    refine bD ci [0,1,2,3,4,5,6] [] [] [0,2,3,4,6] (sp []) N N N N Nq (cJ _) ?_
    refine aw Z Z Z Z Z (fun w' hw'=>Zf eF Z)<|aw Z Z Z Z Z (fun w' hw'=>aX ak Z (aD ((H.later hw').ent (i:=1) Z) Z))<|aw Z Z Z Z Z (fun w' hw'=>Yp Z)<|aw Z Z Z Z Z (fun w' hw'=>aG Z)<|aw Z Z Z Z Z (fun w' hw'=>Zf jN Z)<|aw Z Z Z Z Z (fun w' hw'=>aX ak Z (aD ((H.later hw').ent (i:=0) Z) Z)) ?_
    refine N8 Z Z Z Z Z (fun w' hw'=>ja Z Z) (fun h36=> ?_) (fun h36=> ?_)
    ·
     refine aQ ?_
     intro w22 hw' hF
     replace H:=H.later hw';clear hw' hF
     refine U<|ZT Z<|Zr<|G (Yp Z)<|G (Yp Z)<|G (Zf eF Z)<|G (Zd ak H 1 Z Z Z)<|G (aG Z)<|G (Zf jN Z)<|bg H 0 ((Prod.c ⟨x3.ver,p.seq,p.open_,p.mark⟩).toArray) bw Z Z Z Z Z N N fun w23 H=>G (aG Z)<|G (Zf fq Z)<|bg H 0 ((Prod.c ⟨x3.ver,-1,p.open_,p.mark⟩).toArray) bw Z Z Z Z Z N N fun w24 H=>U<|Zb<|W<|Zr<|G (Zf fc Z)<|G (Zd ak H 1 Z Z Z) ?_
     refine qV (ja Z Z) Z Z Z (fun h66=> ?_) (fun h66=> ?_)
     ·
      refine G (Wb Z)<|U<|ZT Z<|Zr<|G (Yp Z)<|G (Yp Z)<|G (Yi Z)<|G (aG Z)<|G (Zf d8 Z)<|bg H 0 ((Prod.c ⟨x3.ver,-1,-1,p.mark⟩).toArray) bw Z Z Z Z Z N N fun w25 H=>G (aG Z)<|G (Zf ib Z)<|bg H 0 ((Prod.c ⟨x3.ver,-1,-1,k⟩).toArray) bw Z Z Z Z Z N N fun w26 H=>U<|Zr<|G (bz Z Z I I)<|G (Yi Z)<|U ?_
      have hst:(⟨x3.ver,-1,-1,k⟩:Prod)=fS k x3 p:=by
       simp[fS,pv,h36,h66]
      have hP:=jd (q':=(x3.pid,b,(⟨x3.ver,-1,-1,k⟩:Prod))) hj
      refine⟨(k+1,S1.set j (x3.pid,b,(⟨x3.ver,-1,-1,k⟩:Prod))),⟨by omega,kT e3.at_ h17 hn hj hp ho hst,(H.perm (L':=(b5,_)::ju bm (S1.set j (x3.pid,b,_))) (by unfold ju;rw[gp hj];exact((hP.cons _).cons _).trans (((am _ _ _).cons _).trans (am _ _ _)))).forget (aW _ _) (fun _ h=>h)⟩,dJ Z,Qg,by show es.length- (k+1)<es.length-k;omega⟩
     ·
      refine G (Wb Z)<|U<|ZF Z<|W<|Zr<|G (Yp Z)<|G (Zf fd Z)<|G (Zd ak H 1 Z Z Z)<|G (aG Z)<|G (Zf fq Z)<|bg H 0 ((Prod.c ⟨x3.ver,x3.seq,p.open_,p.mark⟩).toArray) bw Z Z Z Z Z N N fun w27 H=>U<|W<|Zr<|G (Zf i6 Z) ?_
      refine wl (aX dV Z (aD (H.ent (i:=1) Z) Z)) Z Z Z (fun h51=> ?_) (fun h51=> ?_)
      ·
       refine G (Yb Z)<|ZG<|G (Yp Z)<|ZG<|G (aG Z)<|ZG<|G (Zf d8 Z)<|ZG<|G (Zd ak H 0 Z Z Z)<|ZG ?_
       refine cW (cK Z Z) Z Z Z (fun h57=> ?_) (fun h57=> ?_)
       ·
        refine G (Kt Z Z)<|U<|ZT Z<|Zr<|G (Yp Z)<|G (Yi Z)<|G (aG Z)<|G (Zf d8 Z)<|bg H 0 ((Prod.c ⟨x3.ver,x3.seq,k,p.mark⟩).toArray) bw Z Z Z Z Z N N fun w28 H=>U<|Zr<|G (bz Z Z I I)<|G (Yi Z)<|U ?_
        replace h57:p.open_<0:=h57
        have hst:(⟨x3.ver,x3.seq,k,p.mark⟩:Prod)=fS k x3 p:=by
         simp[fS,pv,h36,h66,h51,h57]
        have hP:=jd (q':=(x3.pid,b,(⟨x3.ver,x3.seq,k,p.mark⟩:Prod))) hj
        refine⟨(k+1,S1.set j (x3.pid,b,(⟨x3.ver,x3.seq,k,p.mark⟩:Prod))),⟨by omega,kT e3.at_ h17 hn hj hp ho hst,(H.perm (L':=(b5,_)::ju bm (S1.set j (x3.pid,b,_))) (by unfold ju;rw[gp hj];exact((hP.cons _).cons _).trans (((am _ _ _).cons _).trans (am _ _ _)))).forget (aW _ _) (fun _ h=>h)⟩,dJ Z,Qg,by show es.length- (k+1)<es.length-k;omega⟩
       ·
        refine G (Kt Z Z)<|U<|ZF Z<|Zk<|Zr<|G (bz Z Z I I)<|G (Yi Z)<|U ?_
        replace h57: ¬ p.open_<0:=h57
        have hst:(⟨x3.ver,x3.seq,p.open_,p.mark⟩:Prod)=fS k x3 p:=by
         simp[fS,pv,h36,h66,h51,h57]
        have hP:=jd (q':=(x3.pid,b,(⟨x3.ver,x3.seq,p.open_,p.mark⟩:Prod))) hj
        refine⟨(k+1,S1.set j (x3.pid,b,(⟨x3.ver,x3.seq,p.open_,p.mark⟩:Prod))),⟨by omega,kT e3.at_ h17 hn hj hp ho hst,(H.perm (L':=(b5,_)::ju bm (S1.set j (x3.pid,b,_))) (by unfold ju;rw[gp hj];exact((hP.cons _).cons _).trans (((am _ _ _).cons _).trans (am _ _ _)))).forget (aW _ _) (fun _ h=>h)⟩,dJ Z,Qg,by show es.length- (k+1)<es.length-k;omega⟩
      ·
       refine G (Yb Z)<|ZN<|ZN<|ZN<|ZN<|ZN<|G (N Z Z)<|U<|ZF Z<|Zk<|Zr<|G (bz Z Z I I)<|G (Yi Z)<|U ?_
       have hst:(⟨x3.ver,x3.seq,p.open_,p.mark⟩:Prod)=fS k x3 p:=by
        simp[fS,pv,h36,h66,h51]
       have hP:=jd (q':=(x3.pid,b,(⟨x3.ver,x3.seq,p.open_,p.mark⟩:Prod))) hj
       refine⟨(k+1,S1.set j (x3.pid,b,(⟨x3.ver,x3.seq,p.open_,p.mark⟩:Prod))),⟨by omega,kT e3.at_ h17 hn hj hp ho hst,(H.perm (L':=(b5,_)::ju bm (S1.set j (x3.pid,b,_))) (by unfold ju;rw[gp hj];exact((hP.cons _).cons _).trans (((am _ _ _).cons _).trans (am _ _ _)))).forget (aW _ _) (fun _ h=>h)⟩,dJ Z,Qg,by show es.length- (k+1)<es.length-k;omega⟩
    ·
     refine aQ ?_
     intro w29 hw' hF
     replace H:=H.later hw';clear hw' hF
     refine U<|ZF Z<|Zk<|Zb<|W<|Zr<|G (Zf fc Z)<|G (Zd ak H 1 Z Z Z) ?_
     refine qV (ja Z Z) Z Z Z (fun h66=> ?_) (fun h66=> ?_)
     ·
      refine G (Wb Z)<|U<|ZT Z<|Zr<|G (Yp Z)<|G (Yp Z)<|G (Yi Z)<|G (aG Z)<|G (Zf d8 Z)<|bg H 0 ((Prod.c ⟨p.ver,p.seq,-1,p.mark⟩).toArray) bw Z Z Z Z Z N N fun w30 H=>G (aG Z)<|G (Zf ib Z)<|bg H 0 ((Prod.c ⟨p.ver,p.seq,-1,k⟩).toArray) bw Z Z Z Z Z N N fun w31 H=>U<|Zr<|G (bz Z Z I I)<|G (Yi Z)<|U ?_
      have hst:(⟨p.ver,p.seq,-1,k⟩:Prod)=fS k x3 p:=by
       simp[fS,pv,h36,h66]
      have hP:=jd (q':=(x3.pid,b,(⟨p.ver,p.seq,-1,k⟩:Prod))) hj
      refine⟨(k+1,S1.set j (x3.pid,b,(⟨p.ver,p.seq,-1,k⟩:Prod))),⟨by omega,kT e3.at_ h17 hn hj hp ho hst,(H.perm (L':=(b5,_)::ju bm (S1.set j (x3.pid,b,_))) (by unfold ju;rw[gp hj];exact((hP.cons _).cons _).trans (((am _ _ _).cons _).trans (am _ _ _)))).forget (aW _ _) (fun _ h=>h)⟩,dJ Z,Qg,by show es.length- (k+1)<es.length-k;omega⟩
     ·
      refine G (Wb Z)<|U<|ZF Z<|W<|Zr<|G (Yp Z)<|G (Zf fd Z)<|G (Zd ak H 1 Z Z Z)<|G (aG Z)<|G (Zf fq Z)<|bg H 0 ((Prod.c ⟨p.ver,x3.seq,p.open_,p.mark⟩).toArray) bw Z Z Z Z Z N N fun w32 H=>U<|W<|Zr<|G (Zf i6 Z) ?_
      refine wl (aX dV Z (aD (H.ent (i:=1) Z) Z)) Z Z Z (fun h51=> ?_) (fun h51=> ?_)
      ·
       refine G (Yb Z)<|ZG<|G (Yp Z)<|ZG<|G (aG Z)<|ZG<|G (Zf d8 Z)<|ZG<|G (Zd ak H 0 Z Z Z)<|ZG ?_
       refine cW (cK Z Z) Z Z Z (fun h57=> ?_) (fun h57=> ?_)
       ·
        refine G (Kt Z Z)<|U<|ZT Z<|Zr<|G (Yp Z)<|G (Yi Z)<|G (aG Z)<|G (Zf d8 Z)<|bg H 0 ((Prod.c ⟨p.ver,x3.seq,k,p.mark⟩).toArray) bw Z Z Z Z Z N N fun w33 H=>U<|Zr<|G (bz Z Z I I)<|G (Yi Z)<|U ?_
        replace h57:p.open_<0:=h57
        have hst:(⟨p.ver,x3.seq,k,p.mark⟩:Prod)=fS k x3 p:=by
         simp[fS,pv,h36,h66,h51,h57]
        have hP:=jd (q':=(x3.pid,b,(⟨p.ver,x3.seq,k,p.mark⟩:Prod))) hj
        refine⟨(k+1,S1.set j (x3.pid,b,(⟨p.ver,x3.seq,k,p.mark⟩:Prod))),⟨by omega,kT e3.at_ h17 hn hj hp ho hst,(H.perm (L':=(b5,_)::ju bm (S1.set j (x3.pid,b,_))) (by unfold ju;rw[gp hj];exact((hP.cons _).cons _).trans (((am _ _ _).cons _).trans (am _ _ _)))).forget (aW _ _) (fun _ h=>h)⟩,dJ Z,Qg,by show es.length- (k+1)<es.length-k;omega⟩
       ·
        refine G (Kt Z Z)<|U<|ZF Z<|Zk<|Zr<|G (bz Z Z I I)<|G (Yi Z)<|U ?_
        replace h57: ¬ p.open_<0:=h57
        have hst:(⟨p.ver,x3.seq,p.open_,p.mark⟩:Prod)=fS k x3 p:=by
         simp[fS,pv,h36,h66,h51,h57]
        have hP:=jd (q':=(x3.pid,b,(⟨p.ver,x3.seq,p.open_,p.mark⟩:Prod))) hj
        refine⟨(k+1,S1.set j (x3.pid,b,(⟨p.ver,x3.seq,p.open_,p.mark⟩:Prod))),⟨by omega,kT e3.at_ h17 hn hj hp ho hst,(H.perm (L':=(b5,_)::ju bm (S1.set j (x3.pid,b,_))) (by unfold ju;rw[gp hj];exact((hP.cons _).cons _).trans (((am _ _ _).cons _).trans (am _ _ _)))).forget (aW _ _) (fun _ h=>h)⟩,dJ Z,Qg,by show es.length- (k+1)<es.length-k;omega⟩
      ·
       refine G (Yb Z)<|ZN<|ZN<|ZN<|ZN<|ZN<|G (N Z Z)<|U<|ZF Z<|Zk<|Zr<|G (bz Z Z I I)<|G (Yi Z)<|U ?_
       have hst:(⟨p.ver,x3.seq,p.open_,p.mark⟩:Prod)=fS k x3 p:=by
        simp[fS,pv,h36,h66,h51]
       have hP:=jd (q':=(x3.pid,b,(⟨p.ver,x3.seq,p.open_,p.mark⟩:Prod))) hj
       refine⟨(k+1,S1.set j (x3.pid,b,(⟨p.ver,x3.seq,p.open_,p.mark⟩:Prod))),⟨by omega,kT e3.at_ h17 hn hj hp ho hst,(H.perm (L':=(b5,_)::ju bm (S1.set j (x3.pid,b,_))) (by unfold ju;rw[gp hj];exact((hP.cons _).cons _).trans (((am _ _ _).cons _).trans (am _ _ _)))).forget (aW _ _) (fun _ h=>h)⟩,dJ Z,Qg,by show es.length- (k+1)<es.length-k;omega⟩
 ·
  refine U<|W<|ZF Z<|Zx<|W<|Zr<|G (Kz Z)<|G (Lx Z)<|U<|Zt ?_
  have hke:k=es.length:=by omega
  subst hke
  rw[bZ]at hS
  exact cH (v:=.map (some bm)) Z Z ⟨S,bm,rfl,hS,H.forget (ar _) (by simp)⟩
/-- an entry of a transaction that has no end yet -/
def m8 (es:List cQ) (k:Nat) (pid:Int):Prop:= ∃ e,es[k]? =some e/\e.kind=1/\e.txn=true/\e.pid=pid/\pid≠0/\ ∀ j f,k<j->es[j]? =some f->f.pid=pid->f.kind=1
theorem lN {es:List cQ} {x:cQ} {k:Nat} {pid:Int}:m8 (es++[x]) k pid↔(k<es.length/\m8 es k pid/\(x.pid=pid->x.kind=1))∨(k=es.length/\x.kind=1/\x.txn=true/\x.pid=pid/\pid≠0):=by
 constructor
 rintro⟨e,h1,h2,h3,h4,h5,h6⟩
 have hk:=(aB.1 h1).1
 simp at hk
 by_cases hkl:k<es.length
 left
 rw[cv hkl]at h1
 refine⟨hkl,⟨e,h1,h2,h3,h4,h5,fun j f hj hf hp=>h6 j f hj (by rw[cv (aB.1 hf).1];exact hf) hp⟩,fun hp=>h6 es.length x hkl (by simp) hp⟩
 right
 have:k=es.length:=by omega
 subst this
 simp at h1
 subst h1
 exact⟨rfl,h2,h3,h4,h5⟩
 rintro(⟨hk,⟨e,h1,h2,h3,h4,h5,h6⟩,hx⟩|⟨rfl,h2,h3,h4,h5⟩)
 refine⟨e,by rw[cv hk];exact h1,h2,h3,h4,h5,fun j f hj hf hp=> ?_⟩
 by_cases hjl:j<es.length
 rw[cv hjl]at hf;exact h6 j f hj hf hp
 have hj2:=(aB.1 hf).1
 simp at hj2
 have:j=es.length:=by omega
 subst this
 simp at hf
 subst hf
 exact hx hp
 refine⟨x,by simp,h2,h3,h4,h5,fun j f hj hf _=> ?_⟩
 have hj2:=(aB.1 hf).1
 simp at hj2
 omega
structure Jt (es:List cQ) (pid:Int) (p:Prod):Prop where
 opn:p.open_= -1∨ ∃ k:Nat,p.open_=k/\m8 es k pid
 least: ∀ k,m8 es k pid->0<=p.open_/\p.open_<=k
 mark:p.mark= -1∨ ∃ (k:Nat) (e:cQ),p.mark=k/\es[k]? =some e/\e.pid=pid/\e.kind≠1
 seq:p.seq= -1∨ ∃ e∈es,e.pid=pid/\e.kind=1/\p.seq=e.seq/\p.ver=e.ver
 ver: ∃ e∈es,e.pid=pid/\p.ver=e.ver
theorem Cg {es:List cQ} {x:cQ} {p:Prod} (h0:x.pid≠0) (h:p=p0/\(∀ k,¬ m8 es k x.pid)∨Jt es x.pid p):Jt (es++[x]) x.pid (fS es.length x p):=by
 have hpv:(pv x p).ver=x.ver/\(pv x p).open_=p.open_/\(pv x p).mark=p.mark/\((pv x p).seq= -1∨((pv x p).seq=p.seq/\p.ver=x.ver)):=by
  unfold pv
  split
  exact⟨rfl,rfl,rfl,.inl Z⟩
  rename_i hv
  have hv':x.ver=p.ver:=Classical.not_not.1 hv
  exact⟨hv'.symm,rfl,rfl,.inr ⟨rfl,hv'.symm⟩⟩
 obtain⟨v1,v2,v3,v4⟩:=hpv
 have hxm:x∈es++[x]:=by simp
 have hmark:p.mark= -1∨ ∃ (k:Nat) (e:cQ),p.mark=k/\(es++[x])[k]? =some e/\e.pid=x.pid/\e.kind≠1:=by
  rcases h with⟨rfl,_⟩|h
  exact .inl Z
  rcases h.mark with h|⟨k,e,h1,h2,h3,h4⟩
  exact .inl h
  exact .inr ⟨k,e,h1,by rw[cv (aB.1 h2).1];exact h2,h3,h4⟩
 have hseq:(pv x p).seq= -1∨ ∃ e∈es++[x],e.pid=x.pid/\e.kind=1/\(pv x p).seq=e.seq/\x.ver=e.ver:=by
  rcases v4 with h1|⟨h1,h2⟩
  exact .inl h1
  rcases h with⟨rfl,_⟩|h
  exact .inl h1
  rcases h.seq with h|⟨e,he,a1,a2,a3,a4⟩
  exact .inl (h1.trans h)
  exact .inr ⟨e,ij _ he,a1,a2,h1.trans a3,h2.symm.trans a4⟩
 unfold fS
 split
 rename_i hk
 refine⟨.inl Z,fun k hok=> ?_,.inr ⟨es.length,x,rfl,by simp,rfl,hk⟩,?_,⟨x,hxm,rfl,v1⟩⟩
 rcases lN.1 hok with⟨_,_,h⟩|⟨_,h,_⟩
 exact absurd (h Z) hk
 exact absurd h hk
 rcases hseq with h|⟨e,he,a1,a2,a3,a4⟩
 exact .inl h
 exact .inr ⟨e,he,a1,a2,a3,v1.trans a4⟩
 rename_i hk
 have hk1:x.kind=1:=Classical.not_not.1 hk
 have hold: ∀ k,m8 es k x.pid->m8 (es++[x]) k x.pid:=fun k hok=>lN.2 (.inl ⟨by obtain⟨e,h,_⟩:=hok;exact(aB.1 h).1,hok,fun _=>hk1⟩)
 split
 rename_i ht
 rw[v2]at ht
 refine⟨.inr ⟨es.length,rfl,lN.2 (.inr ⟨rfl,hk1,ht.1,rfl,h0⟩)⟩,fun k hok=> ?_,by rw[v3];exact hmark,.inr ⟨x,hxm,rfl,hk1,rfl,v1⟩,⟨x,hxm,rfl,v1⟩⟩
 rcases lN.1 hok with⟨_,h1,_⟩|⟨rfl,_⟩
 rcases h with⟨_,hn⟩|h
 exact absurd h1 (hn k)
 have:=h.least k h1;omega
 exact⟨by simp,iX _⟩
 rename_i ht
 rw[v2]at ht
 refine⟨?_,fun k hok=> ?_,by rw[v3];exact hmark,.inr ⟨x,hxm,rfl,hk1,rfl,v1⟩,⟨x,hxm,rfl,v1⟩⟩
 rw[v2]
 rcases h with⟨rfl,_⟩|h
 exact .inl Z
 rcases h.opn with h|⟨k,h1,h2⟩
 exact .inl h
 exact .inr ⟨k,h1,hold k h2⟩
 rw[v2]
 rcases lN.1 hok with⟨_,h1,_⟩|⟨rfl,_,h2,_⟩
 rcases h with⟨_,hn⟩|h
 exact absurd h1 (hn k)
 exact h.least k h1
 rcases h with⟨rfl,_⟩|h
 exact absurd ⟨h2,by decide⟩ ht
 rcases h.opn with h|⟨k,h1,hok2⟩
 exact absurd ⟨h2,by omega⟩ ht
 obtain⟨_,hok3,_⟩:=hok2
 have:=(aB.1 hok3).1
 omega
theorem Iz {es:List cQ} {x:cQ} {pid:Int} {p:Prod} (h0:x.pid≠pid) (h:Jt es pid p):Jt (es++[x]) pid p:=by
 have hold: ∀ k,m8 (es++[x]) k pid↔m8 es k pid:=fun k=>by
  rw[lN]
  constructor
  rintro(⟨_,h,_⟩|⟨_,_,_,h,_⟩)
  exact h
  exact absurd h h0
  intro h
  exact .inl ⟨by obtain⟨e,h,_⟩:=h;exact(aB.1 h).1,h,fun h=>absurd h h0⟩
 refine⟨?_,fun k hk=>h.least k ((hold k).1 hk),?_,?_,?_⟩
 rcases h.opn with h|⟨k,h1,h2⟩
 exact .inl h
 exact .inr ⟨k,h1,(hold k).2 h2⟩
 rcases h.mark with h|⟨k,e,h1,h2,h3⟩
 exact .inl h
 exact .inr ⟨k,e,h1,by rw[cv (aB.1 h2).1];exact h2,h3⟩
 rcases h.seq with h|⟨e,he,h⟩
 exact .inl h
 exact .inr ⟨e,ij _ he,h⟩
 obtain⟨e,he,h⟩:=h.ver
 exact⟨e,ij _ he,h⟩
theorem ug (es:List cQ) (pid:Int):(∀ p,j6 es pid=some p->Jt es pid p)/\(j6 es pid=none-> ∀ e∈es,e.pid=pid->pid=0):=by
 induction es using JW with
 |h0=>exact⟨fun p h=>by simp[Iw]at h,fun _ e he=>by cases he⟩
 |h1 es x ih=>
  obtain⟨ih1,ih2⟩:=ih
  rw[zB]
  by_cases hc:x.pid≠0/\x.pid=pid
  obtain⟨h0,rfl⟩:=hc
  rw[if_pos ⟨h0,rfl⟩]
  refine⟨fun p hp=> ?_,fun h=>by cases h⟩
  injection hp with hp
  subst hp
  cases hq:j6 es x.pid with
  |none=>
   refine Cg h0 (.inl ⟨rfl,fun k hok=> ?_⟩)
   obtain⟨e,h1,_,_,h4,h5,_⟩:=hok
   exact h5 (ih2 hq e (ah h1) h4)
  |some q=>exact Cg h0 (.inr (ih1 q hq))
  rw[if_neg hc]
  refine⟨fun p hp=> ?_,fun h e he hpe=> ?_⟩
  by_cases hx:x.pid=pid
  have h0:x.pid=0:=Classical.byContradiction fun h=>hc ⟨h,hx⟩
  obtain⟨e,he,h1,h1v⟩:=(ih1 p hp).ver
  have h:=ih1 p hp
  have hz:pid=0:=hx▸h0
  have hnone: ∀ l k,¬ m8 l k pid:=fun l k ⟨_,_,_,_,_,h,_⟩=>h hz
  refine⟨?_,fun k hk=>absurd hk (hnone _ k),?_,?_,?_⟩
  rcases h.opn with h|⟨k,_,h2⟩
  exact .inl h
  exact absurd h2 (hnone _ k)
  rcases h.mark with h|⟨k,e,h1,h2,h3⟩
  exact .inl h
  exact .inr ⟨k,e,h1,by rw[cv (aB.1 h2).1];exact h2,h3⟩
  rcases h.seq with h|⟨e,he,h⟩
  exact .inl h
  exact .inr ⟨e,ij _ he,h⟩
  exact⟨e,ij _ he,h1,h1v⟩
  exact Iz hx (ih1 p hp)
  rcases ax.1 he with he|he
  exact ih2 h e he hpe
  rw[au.1 he]at hpe
  exact Classical.byContradiction fun h0=>hc ⟨fun h=>h0 (hpe▸h),hpe⟩
def tE (es:List cQ) (n:Nat):Prop:=n<=es.length/\(∀ k pid,m8 es k pid->n<=k)/\(n=es.length∨ ∃ pid,m8 es n pid)
theorem GE {es:List cQ} {n m:Nat} (h:tE es n) (h':tE es m):n=m:=by
 obtain⟨a1,a2,a3⟩:=h
 obtain⟨b1,b2,b3⟩:=h'
 have h1:n<=m:=by
  rcases b3 with h|⟨pid,h⟩
  omega
  exact a2 _ _ h
 have h2:m<=n:=by
  rcases a3 with h|⟨pid,h⟩
  omega
  exact b2 _ _ h
 omega
theorem IR {es:List cQ} {S:List PB} (hS:PS S es) {out:Int} (h1:out<=es.length) (h2: ∀ q∈S,0<=q.2.2.open_->out<=q.2.2.open_) (h3:out=es.length∨ ∃ q∈S,0<=q.2.2.open_/\out=q.2.2.open_): ∃ n:Nat,out=n/\tE es n:=by
 have hq: ∀ q∈S,Jt es q.1 q.2.2:=fun q hq=>by
  obtain⟨a,b,p⟩:=q
  obtain⟨j,hj⟩:=aU.1 hq
  have:=um hS.1 hj
  rw[hS.2]at this
  exact(ug es a).1 p this
 have h4: ∀ k pid,m8 es k pid->out<=k:=fun k pid hok=>by
  cases hp:j6 es pid with
  |none=>
   obtain⟨e,e1,_,_,e4,e5,_⟩:=hok
   exact absurd ((ug es pid).2 hp e (ah e1) e4) e5
  |some p=>
   have hl:=(((ug es pid).1 p hp).least k hok)
   have hlk:=hS.2 pid
   rw[hp]at hlk
   unfold uB at hlk
   cases hf:S.find? (fun q=>decide (q.1=pid))with
   |none=>rw[hf]at hlk;cases hlk
   |some q=>
    rw[hf]at hlk
    simp at hlk
    have hm:=List.mem_of_find?_eq_some hf
    have:=h2 q hm (by rw[hlk];exact hl.1)
    rw[hlk]at this
    omega
 rcases h3 with rfl|⟨q,hqm,q0,rfl⟩
 exact⟨es.length,rfl,ao _,fun k pid h=>by have:=h4 k pid h;omega,.inl Z⟩
 rcases(hq q hqm).opn with h|⟨k,hk,hok⟩
 omega
 refine⟨k,hk,by omega,fun j pid h=>by have:=h4 j pid h;omega,.inr ⟨_,hok⟩⟩
def xx (es:List cQ) (p:Int):Bool:=
 match es.find? (fun e=>!decide (e.kind=1)&&decide (e.pid=p))with
 |some e=>decide (e.kind=2)
 |none=>false
def yj (es:List cQ) (i:Nat) (e:cQ):Bool:=!e.txn||xx (es.drop (i+1)) e.pid
theorem tC (e:cQ) (es:List cQ) (p:Int):xx (e::es) p=if¬ e.kind=1/\e.pid=p then decide (e.kind=2)else xx es p:=by
 unfold xx
 rw[List.find?_cons]
 by_cases h1:e.kind=1<;>by_cases h2:e.pid=p<;>simp[h1,h2]
theorem cP {α:Type} {l:List α} {k:Nat} {e:α} (h:l[k]? =some e):l.drop k=e::l.drop (k+1):=by
 obtain⟨hk,rfl⟩:=bT h
 exact mN hk
theorem MI (es:List cQ) (A:Option Addr) (c i:Nat) (x:cQ) (w:World) (hr:Rd gQ 0 w.heap.size A es w) (hi:es[i]? =some x) (hc:es.length<=c) (hb:es.length<=1000000):
  dg ab E4 [.slice A es.length c,J (i:Nat)] w fun v w2=>v=.bool (yj es i x)/\Below w.heap.size w w2:=by
 refine aF DA Z Z ?_
 have H:=Hp.startRd hr
 have hil:=(bT hi).1
 refine W<|Zr<|G (Wb Z)<|U<|W<|W<|Zr<|G (Ys Z)<|G (Yi Z)<|ql H 0 Z dX Z Z I I Z fun b1 o1 x1 e1=> ?_
 obtain rfl:x=x1:=by have:=e1.at_;rw[hi]at this;injection this
 refine G (Zf i6 Z) ?_
 refine wl (aX dV Z (e1.cl 5 _ Z)) Z Z Z (fun h11=> ?_) (fun h11=> ?_)
 refine G (dR Z)<|U<|ZF Z<|Zk<|W<|W<|Zr<|G (Ys Z)<|G (Yi Z)<|G (bz Z Z I I) ?_
 have h15:(i:Int)+1=((i+1:Nat):Int):=by omega
 rw[h15]
 refine NB (k:=i+1) H 0 Z dX Z Z Z hc I Z fun A16 H=> ?_
 generalize hds:es.drop (i+1)=ds at H
 have hdl:es.length- (i+1)=ds.length:=by rw[<-hds];simp
 rw[hdl]
 refine G (br eE Z)<|G (Yi Z)<|U<|Zb ?_
 refine cy (τ:=Nat) [4,6,18,19,20,21,22,23,24,25,26,27,28,29,30,31,32,33,34,35,36,37,38] (fun k=>[(18,J (k:Nat))]) (fun k w'=>k<=ds.length/\xx ds x.pid=xx (ds.drop k) x.pid/\Hp w w' [] [dT gQ 0 w.heap.size A16 ds,dT gQ 0 w.heap.size A es]) (fun k=>ds.length-k) 0 ⟨by omega,rfl,H⟩ (dJ Z) ?_
 rintro k ρ1 w2 ⟨hk,hkp,H⟩
 show CW _ _ _ _ (dH (gJ _ _ ρ1) [(18,J (k:Nat))]) w2
 refine W<|Zr ?_
 refine cW (cK Z Z) Z Z Z (fun h19=> ?_) (fun h19=> ?_)
 refine U<|W<|ZT Z<|Zk<|W<|Zb<|W<|Zr<|ql H 0 Z dX Z Z I I Z fun b3 o3 x3 e3=>G (jF (xs:=cQ.c x3) dI Z Z e3.cl)<|eI H gh Z fun w4 b6 H=>JU H 0 eV Z Z Z Z Z Z fun w5 H=>U<|W ?_
 refine bD ci [0,1,2,3,4,5,6,7,8,9,10,11,12] [] [] [0,2,3,4,6,7,8,9,11,12] (sp []) N N N N Nq (cJ _) ?_
 refine aw Z Z Z Z Z (fun w' hw'=>Zf fc Z)<|aw Z Z Z Z Z (fun w' hw'=>aX ak Z (aD ((H.later hw').ent (i:=0) Z) Z)) ?_
 refine N8 Z Z Z Z Z (fun w' hw'=>ja Z Z) (fun h24=> ?_) (fun h24=> ?_)
 refine aw Z Z Z Z Z (fun w' hw'=>Yb Z)<|aw Z Z Z Z Z (fun w' hw'=>Zf fk Z)<|aw Z Z Z Z Z (fun w' hw'=>aX ak Z (aD ((H.later hw').ent (i:=0) Z) Z))<|aw Z Z Z Z Z (fun w' hw'=>Ys Z)<|aw Z Z Z Z Z (fun w' hw'=>Yi Z)<|qg H 1 Z Z Z Z Z dX Z Z I I fun b6 o6 x6 e6=> ?_
 obtain rfl:x=x6:=by have:=e6.at_;rw[hi]at this;injection this
 refine aw Z Z Z Z Z (fun w' hw'=>Zf fk Z)<|aw Z Z Z Z Z (fun w' hw'=>aX ak Z (e6.later hw' 1 _ Z)) ?_
 refine AY Z Z Z Z Z (fun w' hw'=>bp Z Z) (fun h33=> ?_) (fun h33=> ?_)
 refine aw Z Z Z Z Z (fun w' hw'=>Kt Z Z)<|aQ ?_
 intro w7 hw' hF
 replace H:=H.later hw';clear hw' hF
 refine U<|ZT Z<|W<|Zr<|G (Zf fc Z)<|G (Zd ak H 0 Z Z Z)<|G (bp Z Z)<|G (Wb Z)<|U<|Zt ?_
 have hdk:=cP e3.at_
 have hx:yj es i x=decide (x3.kind=2):=by
  unfold yj;rw[h11,hds,hkp,hdk,tC,if_pos ⟨h24,h33⟩];rfl
 exact cH (v:=.bool (decide (x3.kind=2))) Z Z ⟨by rw[hx],H.below⟩
 refine aw Z Z Z Z Z (fun w' hw'=>Kt Z Z)<|aQ ?_
 intro w8 hw' hF
 replace H:=H.later hw';clear hw' hF
 refine U<|ZF Z<|Zk<|Zr<|G (bz Z Z I I)<|G (Yi Z)<|U ?_
 have hdk:=cP e3.at_
 rw[hdk,tC]at hkp
 rw[if_neg (by rintro⟨a,b⟩;first|exact a h24|exact h33 b)]at hkp
 refine⟨k+1,⟨by omega,hkp,H.forget (by simp) (fun _ h=>h)⟩,dJ Z,Qg,by show ds.length- (k+1)<ds.length-k;omega⟩
 refine aw Z Z Z Z Z (fun w' hw'=>Yb Z)<|eU Z Z Z Z<|eU Z Z Z Z<|eU Z Z Z Z<|eU Z Z Z Z<|eU Z Z Z Z<|eU Z Z Z Z<|eU Z Z Z Z<|eU Z Z Z Z<|aw Z Z Z Z Z (fun w' hw'=>N Z Z)<|aQ ?_
 intro w9 hw' hF
 replace H:=H.later hw';clear hw' hF
 refine U<|ZF Z<|Zk<|Zr<|G (bz Z Z I I)<|G (Yi Z)<|U ?_
 have hdk:=cP e3.at_
 rw[hdk,tC]at hkp
 rw[if_neg (by rintro⟨a,b⟩;first|exact a h24|exact h33 b)]at hkp
 refine⟨k+1,⟨by omega,hkp,H.forget (by simp) (fun _ h=>h)⟩,dJ Z,Qg,by show ds.length- (k+1)<ds.length-k;omega⟩
 refine U<|W<|ZF Z<|Zx<|W<|Zr<|G (Wb Z)<|U<|Zt ?_
 have hx:yj es i x=false:=by
  unfold yj;rw[h11,hds,hkp,en I];rfl
 exact cH (v:=.bool false) Z Z ⟨by rw[hx],H.below⟩
 refine G (dR Z)<|U<|ZT Z<|W<|Zr<|G (Wb Z)<|U<|Zt ?_
 have hx:yj es i x=true:=by simp[yj,h11]
 exact cH (v:=.bool true) Z Z ⟨by rw[hx],H.below⟩
theorem Kc {S:List PB} {m:Nat} {k:Int} {v:Value} (h:(qS S)[m]? =some (k,v)): ∃ (b:Nat) (p:Prod),S[m]? =some (k,b,p)/\v=Bh b:=by
 unfold qS at h
 rw[aL]at h
 cases hs:S[m]? with
 |none=>rw[hs]at h;cases h
 |some q=>
  rw[hs]at h
  obtain⟨a,b,p⟩:=q
  simp at h
  exact⟨b,p,by rw[h.1],h.2.symm⟩
def CY (n:Nat) (seen:Array Nat):Nat:=((Ba n).filter fun m=>!seen.contains m).length
theorem B2 {n m:Nat} {seen:Array Nat} (hm:m<n) (hs:seen.contains m=false):CY n (seen.push m)<CY n seen:=by
 unfold CY
 refine filter_lt _ _ (fun x hx=> ?_) m (by rw[hs];rfl) (by simp) _ (List.mem_range.2 hm)
 simp at hx⊢
 exact hx.1
theorem Ca (es:List cQ) (A:Option Addr) (c n:Nat) (w:World) (hr:Rd gQ 0 w.heap.size A es w) (hc:es.length<=c) (hb:es.length<=1000000) (hn:n<=es.length):
  dg ab Bq [.slice A es.length c,J (n:Nat)] w fun v w2=> ∃ m:Nat,tE (es.take n) m/\v=.tuple #[J (m:Nat),J 0]/\Below w.heap.size w w2:=by
 refine aF Am Z Z ?_
 have H:=Hp.startRd hr
 refine W<|Zr<|G (Wi Z)<|G (Wi Z)<|U<|W<|W<|Zr<|G (Yi Z)<|G (dd Z Z I)<|G (Yb Z)<|ZG<|G (Yi Z)<|ZG<|G (Ys Z)<|ZG<|G (br eE Z)<|ZG<|G (eA Z Z I)<|G (N Z Z)<|U<|ZF Z<|Zk<|W<|Zr<|G (Yi Z)<|G (Wi Z)<|U<|W<|W<|Zr<|G (Ys Z)<|G (Yi Z)<|sd (k:=n) H 0 Z dX Z Z hc I Z fun A20 H=> ?_
 obtain⟨ds,hds⟩: ∃ ds,es.take n=ds:=⟨_,rfl⟩
 have hdl:n=ds.length:=by rw[<-hds];simp;omega
 rw[hds]at H⊢
 subst hdl
 refine ch tU (Cf ds _ _ _ (H.rd0 0 Z) I) Z Z ?_
 rintro _ w1 ⟨S,bm,rfl,hS,hj⟩;replace H:=H.join hj;clear hj
 refine PJ H 0 rG Z Z Z fun w2 it H=>U<|Zb ?_
 refine cy (τ:=Array Nat×Int) [6,8,23,24,25,26,27,28,29,30,31,32,33,34,35,36,37] (fun(seen,out)=>[(6,J out)]) (fun(seen,out) w'=>out<=ds.length/\(∀ m q,S[m]? =some q->seen.contains m=true->0<=q.2.2.open_->out<=q.2.2.open_)/\(out=ds.length∨ ∃ q∈S,0<=q.2.2.open_/\out=q.2.2.open_)/\Hp w w' ((it,.mapIter (some bm) (qS S).length seen (qS S).length)::(ju bm S++[])) [dT gQ 0 w.heap.size A20 ds,dT gQ 0 w.heap.size A es]) (fun(seen,_)=>CY S.length seen) (#[],(ds.length:Int)) ⟨by omega,by simp,.inl Z,H⟩ (dJ Z) ?_
 rintro⟨seen,out⟩ ρ1 w3 ⟨ho1,ho2,ho3,H⟩
 show CW _ _ _ _ (dH (gJ _ _ ρ1) [(6,J out)]) w3
 refine W<|Zr ?_
 refine PM H 0 1 Z Z Z Z ?_ ?_
 intro hall
 refine G (Xb Z Z)<|U<|W<|ZF Z<|Zx<|W<|Zr<|G (Yi Z)<|G (Wi Z)<|G (Wi Z)<|U<|Zt ?_
 have hpl:(qS S).length=S.length:=by simp[qS]
 obtain⟨m,rfl,hst⟩:=IR hS ho1 (fun q hq h0=>by obtain⟨m,hm⟩:=aU.1 hq;exact ho2 m q hm (hall m (by rw[hpl];exact(bT hm).1)) h0) ho3
 exact ma Z Z Z ⟨m,by first|exact hst|(rw[hds];exact hst),rfl,H.below⟩
 intro m k v w4 hm hsn H
 obtain⟨b,p,hmS,rfl⟩:=Kc hm
 have hbk:=H.ent (i:=m+2) (b:=b) (o:=.cells p.c.toArray lK (0,0)) (by simp[ju,xo,hmS])
 have hml:=(bT hmS).1
 refine G (Xb Z Z)<|U<|W<|ZT Z<|Zk<|Zb<|W<|Zr<|G (OC Z (H.ent (i:=0) Z) (H.ent (i:=1) Z) hm)<|G (OB Z Z)<|G (Wp Z)<|U<|W<|Zr<|G (Yp Z)<|G (aG Z)<|G (Zf d8 Z)<|G (aX ak Z (aD hbk Z)) ?_
 refine cW (kf Z Z) Z Z Z (fun h31=> ?_) (fun h31=> ?_)
 refine U<|ZT Z<|Zr<|G (Yi Z)<|G (Yp Z)<|G (aG Z)<|G (Zf d8 Z)<|G (aX ak Z (aD hbk Z))<|G (tu Z Z)<|G (Wi Z)<|U ?_
 refine⟨(seen.push m,min out p.open_),⟨by omega,fun m2 q hq hs h0=> ?_,?_,H⟩,dJ Z,Qg,B2 hml hsn⟩
 rw[Array.contains_push]at hs
 rcases Bool.or_eq_true_iff.1 hs with hs|hs
 have:=ho2 m2 q hq hs h0;omega
 have hmm:m2=m:=by simpa using hs
 subst hmm;rw[hmS]at hq;injection hq with hq;subst hq;try dsimp only at h0⊢
 omega
 by_cases hmin:out<=p.open_
 rw[Int.min_eq_left hmin];exact ho3
 exact .inr ⟨_,ah hmS,h31,by dsimp only;omega⟩
 refine U<|ZF Z<|Zk ?_
 refine⟨(seen.push m,out),⟨by omega,fun m2 q hq hs h0=> ?_,?_,H⟩,dJ Z,Qg,B2 hml hsn⟩
 rw[Array.contains_push]at hs
 rcases Bool.or_eq_true_iff.1 hs with hs|hs
 have:=ho2 m2 q hq hs h0;omega
 have hmm:m2=m:=by simpa using hs
 subst hmm;rw[hmS]at hq;injection hq with hq;subst hq;try dsimp only at h0⊢
 exfalso;exact h31 h0
 exact ho3
def vC (es:List cQ) (m:Int) (x:cQ):Bool:=match es[m.toNat]? with
 |some e=>decide (e.kind=x.kind)&&decide (e.ver=x.ver)
 |none=>false
def mY (x e:cQ):Bool:=decide (e.kind=1)&&decide (e.pid=x.pid)&&decide (e.ver=x.ver)&&decide (e.seq=x.seq)
def pM (es:List cQ) (x:cQ) (p:Prod):Int×Int:=
 if x.ver<p.ver then(0,10)
 else if¬ x.kind=1 then(if p.open_<0/\0<=p.mark/\vC es p.mark x=true then(p.mark,0)else(-1,0))
 else if(if p.ver<x.ver then-1 else p.seq)+1<x.seq then(0,11)
 else if x.seq=(if p.ver<x.ver then-1 else p.seq)+1 then(-1,0)
 else match es.findIdx? (mY x)with
  |some i=>((i:Int),0)
  |none=>(0,11)
def ik (es:List cQ) (x:cQ):Int×Int:=if x.pid=0 then(-1,0)else pM es x ((j6 es x.pid).getD ⟨x.ver,-1,-1,-1⟩)
def OM (w:World) (es:List cQ):Sp:=⟨fun v w2=> ∃ S bm,v=.map (some bm)/\PS S es/\Hp w w2 (ju bm S) [],fun _ _ _ hb ⟨S,bm,h1,h2,h3⟩=>⟨S,bm,h1,h2,h3.later hb⟩⟩
def seqB (es:List cQ):Prop:= ∀ e∈es,-1000000000000000<=e.seq/\e.seq<=1000000000000000
theorem EC {es:List cQ} {x:cQ} (hq:seqB es) {p:Prod} (hp:p=(j6 es x.pid).getD ⟨x.ver,-1,-1,-1⟩):(p.mark= -1∨ ∃ (k:Nat) (y:cQ),p.mark=k/\es[k]? =some y)/\ -1000000000000000<=p.seq/\p.seq<=1000000000000000:=by
 cases h:j6 es x.pid with
 |none=>rw[h]at hp;subst hp;exact⟨.inl Z,by simp⟩
 |some q=>
  rw[h]at hp
  simp at hp
  subst hp
  have hi:=(ug es x.pid).1 p h
  refine⟨?_,?_⟩
  rcases hi.mark with h|⟨k,e,h1,h2,_⟩
  exact .inl h
  exact .inr ⟨k,e,h1,h2⟩
  rcases hi.seq with h|⟨e,he,_,_,h,_⟩
  omega
  have:=hq e he;omega
theorem Fx {es:List cQ} {x:cQ} (h: ∀ j e,j<es.length->es[j]? =some e->mY x e=false):es.findIdx? (mY x)=none:=by
 rw[dq]
 intro e he
 obtain⟨j,hj⟩:=aU.1 he
 exact h j e (bT hj).1 hj
theorem Fw {es:List cQ} {x y:cQ} {k:Nat} (hk:es[k]? =some y) (hy:mY x y=true) (h: ∀ j e,j<k->es[j]? =some e->mY x e=false):es.findIdx? (mY x)=some k:=by
 rw[bh]
 obtain⟨hl,rfl⟩:=bT hk
 exact⟨hl,hy,fun j hj=>by rw[h j _ hj (ai I)];simp⟩
theorem PR (S:List PB) (pid:Int) {w:World} {b:Nat} (hn:(S.map (·.1)).Nodup) (hb:w.heap[b]? =some (tv (qS S))): ∃ q:Option Addr,((q=none/\ ∀ r∈S,r.1≠pid)∨ ∃ (j c:Nat) (p:Prod),S[j]? =some (pid,c,p)/\q=some ⟨c,0,none⟩)/\ ∀ {ρ:gT} {dst:Option Nat} {x y:Operand} {t:TypeId} {p:String} {af:Array Edge} {g:Option (Nat×Bool)},ev ρ x=.map (some b)->ev ρ y=J pid->(execOp (ev ρ) (Og dst (.lookup HR x y false) t p af g)).run ab w=.ok (.value (.pointer q)) w:=by
 rcases zR S pid with h|⟨j,c,p,h⟩
 exact⟨none,.inl ⟨rfl,h⟩,fun hx hy=>Nj rG qz hx hy hb (by intro q hq;obtain⟨a,ha,rfl⟩:=bB.1 hq;exact h a ha)⟩
 exact⟨some ⟨c,0,none⟩,.inr ⟨j,c,p,h,rfl⟩,fun hx hy=>Ni rG qz hx hy hb (by rw[uh];exact hn) (ED h)⟩
theorem HY (es:List cQ) (A:Option Addr) (c:Nat) (x:cQ) (w:World) (hr:Rd gQ 0 w.heap.size A es w) (hb:es.length<=1000000) (hq:seqB es):
  dg ab Dn [.slice A es.length c,x.v] w fun v w2=>v=.tuple #[J (ik es x).1,J (ik es x).2]/\Below w.heap.size w w2:=by
 refine aF Bv Z Z ?_
 have H:=Hp.startRd hr
 refine W<|Zr<|fW H Z Z fun w1 b3 H=>G (Wi Z)<|G (Wi Z)<|U<|W<|W<|Zr<|G (Zf fk Z)<|G (Zd ak H 0 Z Z Z) ?_
 refine cW (bp Z Z) Z Z Z (fun h11=> ?_) (fun h11=> ?_)
 refine U<|ZT Z<|W<|Zr<|G (Wi Z)<|G (Wi Z)<|U<|Zt ?_
 have hv:ik es x=(-1,0):=by unfold ik;rw[if_pos h11]
 exact ma (v:=J (-1)) (v2:=J 0) Z Z Z ⟨by rw[hv],H.below⟩
 refine U<|ZF Z<|Zk<|W ?_
 refine bD ci [0,2,3,1] [4,5] [1] [0,2] (sp [(1,OM w1 es)]) N N N N Nq (cJ _) ?_
 refine aw Z Z Z Z Z (fun w' hw'=>Ys Z)<|aw Z Z Z Z Z (fun w' hw'=>Zf fk Z)<|aw Z Z Z Z Z (fun w' hw'=>aX ak Z (aD ((H.later hw').ent (i:=0) Z) Z)) ?_
 refine yu tU Z Z Z Z (fun w' hw'=>(Cf es _ _ w' ((H.later hw').rd0 0 Z) hb).mono (fun v w2 ⟨S,bm,h1,h2,h3⟩=>⟨h3.below,S,bm,h1,h2,Hp.base hw' h3⟩)) Z ?_;rintro v13-
 refine aQ ?_
 intro w2 hw' hF
 obtain⟨-,S,bm,rfl,hS,hj⟩:=hF
 replace H:=H.join hj;clear hj hw'
 have hb3:=H.ent (i:=S.length+1) (b:=b3) (o:=.cells (cQ.c x).toArray dy (0,0)) (by simp[ju])
 obtain⟨P16,hP16,hx16⟩:=PR S x.pid hS.1 (H.ent (i:=0) Z)
 refine G (hx16 Z Z)<|G (Wp Z)<|U<|W ?_
 refine eG (τ:=Nat×Int×Int×Int×Int×List (Nat×Obj)) [6,17,18,19,20,21,22] (fun(b,_,_,_,_,_)=>[(6,Bh b)]) (fun(b,pv_,ps,po,pm,K) w'=>(⟨pv_,ps,po,pm⟩:Prod)=(j6 es x.pid).getD ⟨x.ver,-1,-1,-1⟩/\Hp w w' ((b,.cells #[J pv_,J ps,J po,J pm] lK (0,0))::(b3,.cells (cQ.c x).toArray dy (0,0))::K) [dT gQ 0 w.heap.size A es]) ?_ ?_
 refine W<|Zr ?_
 rcases hP16 with⟨rfl,hno⟩|⟨j,b,p,hj,rfl⟩
 refine G (Yp Z)<|G (xn nN Z)<|U<|ZT Z<|Zr<|G (Zf eF Z)<|G (aX ak Z (aD hb3 Z))<|G (bn (cs:= #[J x.ver,J (-1),J (-1),J (-1)]) xX zd N)<|fW H Z Z fun w3 b22 H=>G (Wp Z)<|U ?_
 refine⟨(b22,x.ver,-1,-1,-1,ju bm S),⟨by rw[<-hS.2,Cm hno];rfl,H.perm ((s0 _ _).symm.cons _)⟩,dJ Z,Qg⟩
 refine G (Yp Z)<|G (vz nN Z)<|U<|ZF Z<|Zk ?_
 have hP:=EN hj
 refine⟨(b,p.ver,p.seq,p.open_,p.mark,(bm,tv (qS S))::(S.eraseIdx j).map xo),⟨by rw[<-hS.2,um hS.1 hj];rfl,H.perm ?_⟩,dJ Z,Qg⟩
 exact(qn (l₁:=[_,_])).symm.trans (((hP.cons _).cons _).trans (s0 _ _).symm)
 rintro⟨b,pv_,ps,po,pm,K⟩ ρ2 w4 ⟨hp,H⟩
 show CW _ _ _ _ (dH (gJ _ _ ρ2) [(6,Bh b)]) w4
 obtain⟨hmark,hsq1,hsq2⟩:=EC hq hp
 dsimp only at hsq1 hsq2
 refine W<|Zb<|W ?_
 refine bD ci [0,1,2,3,4,5,6,7] [] [] [0,2,3,4,6,7] (sp []) N N N N Nq (cJ _) ?_
 refine aw Z Z Z Z Z (fun w' hw'=>Zf eF Z)<|aw Z Z Z Z Z (fun w' hw'=>aX ak Z (aD ((H.later hw').ent (i:=1) Z) Z))<|aw Z Z Z Z Z (fun w' hw'=>Yp Z)<|aw Z Z Z Z Z (fun w' hw'=>aG Z)<|aw Z Z Z Z Z (fun w' hw'=>Zf jN Z)<|aw Z Z Z Z Z (fun w' hw'=>aX ak Z (aD ((H.later hw').ent (i:=0) Z) Z)) ?_
 refine AY Z Z Z Z Z (fun w' hw'=>cK Z Z) (fun h30=> ?_) (fun h30=> ?_)
 refine aw Z Z Z Z Z (fun w' hw'=>Wb Z)<|aQ ?_
 intro w5 hw' hF
 replace H:=H.later hw';clear hw' hF
 refine U<|ZT Z<|W<|Zr<|G (Wi Z)<|G (Wi Z)<|U<|Zt ?_
 have hv:ik es x=(0,10):=by
  unfold ik;rw[if_neg h11,<-hp];unfold pM;simp[h30]
 exact ma (v:=J (0)) (v2:=J 10) Z Z Z ⟨by rw[hv],H.below⟩
 refine aw Z Z Z Z Z (fun w' hw'=>Wb Z)<|aQ ?_
 intro w6 hw' hF
 replace H:=H.later hw';clear hw' hF
 refine U<|ZF Z<|W<|Zr<|G (Zf fc Z)<|G (Zd ak H 1 Z Z Z) ?_
 refine qV (ja Z Z) Z Z Z (fun h34=> ?_) (fun h34=> ?_)
 refine G (Wb Z)<|U<|ZT Z<|W<|W ?_
 refine bD ci [0,1,2,3,4,5,6,7,8,9,10,11,12,13,14,15,16,17,18,19,20,21,22,23,24,25,26,27,28,29,30,31,32,33,34,35,36,37] [] [] [0,1,2,4,5,6,7,8,10,11,12,13,14,15,16,18,19,21,23,24,25,26,27,28,29,31,32,34,36,37] (sp []) N N N N Nq (cJ _) ?_
 refine aw Z Z Z Z Z (fun w' hw'=>Yp Z)<|aw Z Z Z Z Z (fun w' hw'=>aG Z)<|aw Z Z Z Z Z (fun w' hw'=>Zf d8 Z)<|aw Z Z Z Z Z (fun w' hw'=>aX ak Z (aD ((H.later hw').ent (i:=0) Z) Z)) ?_
 refine AY Z Z Z Z Z (fun w' hw'=>cK Z Z) (fun h39=> ?_) (fun h39=> ?_)
 refine aw Z Z Z Z Z (fun w' hw'=>Yb Z)<|aw Z Z Z Z Z (fun w' hw'=>Yp Z)<|aw Z Z Z Z Z (fun w' hw'=>aG Z)<|aw Z Z Z Z Z (fun w' hw'=>Zf ib Z)<|aw Z Z Z Z Z (fun w' hw'=>aX ak Z (aD ((H.later hw').ent (i:=0) Z) Z)) ?_
 refine AY Z Z Z Z Z (fun w' hw'=>kf Z Z) (fun h45=> ?_) (fun h45=> ?_)
 rcases hmark with hm1|⟨k,y,hmk,hyk⟩
 exfalso;dsimp only at hm1 h45;omega
 dsimp only at hmk
 subst hmk
 have hkl:=(bT hyk).1
 refine aw Z Z Z Z Z (fun w' hw'=>Kt Z Z)<|aw Z Z Z Z Z (fun w' hw'=>Yb Z)<|aw Z Z Z Z Z (fun w' hw'=>Ys Z)<|aw Z Z Z Z Z (fun w' hw'=>Yp Z)<|aw Z Z Z Z Z (fun w' hw'=>aG Z)<|aw Z Z Z Z Z (fun w' hw'=>Zf ib Z)<|aw Z Z Z Z Z (fun w' hw'=>aX ak Z (aD ((H.later hw').ent (i:=0) Z) Z))<|qg H 0 Z Z Z Z Z dX Z Z I I fun b7 o7 x7 e7=> ?_
 obtain rfl:y=x7:=by have:=e7.at_;rw[hyk]at this;injection this
 refine aw Z Z Z Z Z (fun w' hw'=>Zf fc Z)<|aw Z Z Z Z Z (fun w' hw'=>aX ak Z (e7.later hw' 4 _ Z))<|aw Z Z Z Z Z (fun w' hw'=>Zf fc Z)<|aw Z Z Z Z Z (fun w' hw'=>aX ak Z (aD ((H.later hw').ent (i:=1) Z) Z)) ?_
 refine AY Z Z Z Z Z (fun w' hw'=>bp Z Z) (fun h58=> ?_) (fun h58=> ?_)
 refine aw Z Z Z Z Z (fun w' hw'=>Kt Z Z)<|aw Z Z Z Z Z (fun w' hw'=>Yb Z)<|aw Z Z Z Z Z (fun w' hw'=>Ys Z)<|aw Z Z Z Z Z (fun w' hw'=>Yp Z)<|aw Z Z Z Z Z (fun w' hw'=>aG Z)<|aw Z Z Z Z Z (fun w' hw'=>Zf ib Z)<|aw Z Z Z Z Z (fun w' hw'=>aX ak Z (aD ((H.later hw').ent (i:=0) Z) Z))<|qg H 0 Z Z Z Z Z dX Z Z I I fun b8 o8 x8 e8=> ?_
 obtain rfl:y=x8:=by have:=e8.at_;rw[hyk]at this;injection this
 refine aw Z Z Z Z Z (fun w' hw'=>Zf eF Z)<|aw Z Z Z Z Z (fun w' hw'=>aX ak Z (e8.later hw' 2 _ Z))<|aw Z Z Z Z Z (fun w' hw'=>Zf eF Z)<|aw Z Z Z Z Z (fun w' hw'=>aX ak Z (aD ((H.later hw').ent (i:=1) Z) Z)) ?_
 refine AY Z Z Z Z Z (fun w' hw'=>bp Z Z) (fun h71=> ?_) (fun h71=> ?_)
 refine aw Z Z Z Z Z (fun w' hw'=>Kt Z Z)<|aQ ?_
 intro w9 hw' hF
 replace H:=H.later hw';clear hw' hF
 refine U<|ZT Z<|W<|Zr<|G (Yp Z)<|G (aG Z)<|G (Zf ib Z)<|G (Zd ak H 0 Z Z Z)<|G (Wi Z)<|G (Wi Z)<|U<|Zt ?_
 have hmk:vC es (k:Nat) x=true:=by
  unfold vC;rw[show((k:Nat):Int).toNat=k from rfl,hyk];simp[h58,h71]
 have hv:ik es x=((k:Int),0):=by
  unfold ik;rw[if_neg h11,<-hp];unfold pM;simp[h30,h34,h39,h45,h58,h71,hmk]
 exact ma (v:=J ((k:Int))) (v2:=J 0) Z Z Z ⟨by rw[hv],H.below⟩
 refine aw Z Z Z Z Z (fun w' hw'=>Kt Z Z)<|aQ ?_
 intro w10 hw' hF
 replace H:=H.later hw';clear hw' hF
 refine U<|ZF Z<|Zk<|W<|Zr<|G (Wi Z)<|G (Wi Z)<|U<|Zt ?_
 have hmk:vC es (k:Nat) x=false:=by
  unfold vC;rw[show((k:Nat):Int).toNat=k from rfl,hyk];simp[h58,h71]
 have hv:ik es x=(-1,0):=by
  unfold ik;rw[if_neg h11,<-hp];unfold pM;simp[h30,h34,h39,h45,h58,h71,hmk]
 exact ma (v:=J (-1)) (v2:=J 0) Z Z Z ⟨by rw[hv],H.below⟩
 refine aw Z Z Z Z Z (fun w' hw'=>Kt Z Z)<|aw Z Z Z Z Z (fun w' hw'=>Yb Z)<|eU Z Z Z Z<|eU Z Z Z Z<|eU Z Z Z Z<|eU Z Z Z Z<|eU Z Z Z Z<|eU Z Z Z Z<|eU Z Z Z Z<|eU Z Z Z Z<|eU Z Z Z Z<|eU Z Z Z Z<|eU Z Z Z Z<|aw Z Z Z Z Z (fun w' hw'=>N Z Z)<|aQ ?_
 intro w11 hw' hF
 replace H:=H.later hw';clear hw' hF
 refine U<|ZF Z<|Zk<|W<|Zr<|G (Wi Z)<|G (Wi Z)<|U<|Zt ?_
 have hmk:vC es (k:Nat) x=false:=by
  unfold vC;rw[show((k:Nat):Int).toNat=k from rfl,hyk];simp[h58]
 have hv:ik es x=(-1,0):=by
  unfold ik;rw[if_neg h11,<-hp];unfold pM;simp[h30,h34,h39,h45,h58,hmk]
 exact ma (v:=J (-1)) (v2:=J 0) Z Z Z ⟨by rw[hv],H.below⟩
 refine aw Z Z Z Z Z (fun w' hw'=>Kt Z Z)<|aw Z Z Z Z Z (fun w' hw'=>Yb Z)<|eU Z Z Z Z<|eU Z Z Z Z<|eU Z Z Z Z<|eU Z Z Z Z<|eU Z Z Z Z<|eU Z Z Z Z<|eU Z Z Z Z<|eU Z Z Z Z<|eU Z Z Z Z<|eU Z Z Z Z<|eU Z Z Z Z<|aw Z Z Z Z Z (fun w' hw'=>N Z Z)<|aw Z Z Z Z Z (fun w' hw'=>Yb Z)<|eU Z Z Z Z<|eU Z Z Z Z<|eU Z Z Z Z<|eU Z Z Z Z<|eU Z Z Z Z<|eU Z Z Z Z<|eU Z Z Z Z<|eU Z Z Z Z<|eU Z Z Z Z<|eU Z Z Z Z<|eU Z Z Z Z<|aw Z Z Z Z Z (fun w' hw'=>N Z Z)<|aQ ?_
 intro w12 hw' hF
 replace H:=H.later hw';clear hw' hF
 refine U<|ZF Z<|Zk<|W<|Zr<|G (Wi Z)<|G (Wi Z)<|U<|Zt ?_
 have hv:ik es x=(-1,0):=by
  unfold ik;rw[if_neg h11,<-hp];unfold pM;simp[h30,h34,h39,h45]
 exact ma (v:=J (-1)) (v2:=J 0) Z Z Z ⟨by rw[hv],H.below⟩
 refine aw Z Z Z Z Z (fun w' hw'=>Yb Z)<|eU Z Z Z Z<|eU Z Z Z Z<|eU Z Z Z Z<|eU Z Z Z Z<|eU Z Z Z Z<|aw Z Z Z Z Z (fun w' hw'=>N Z Z)<|aw Z Z Z Z Z (fun w' hw'=>Yb Z)<|eU Z Z Z Z<|eU Z Z Z Z<|eU Z Z Z Z<|eU Z Z Z Z<|eU Z Z Z Z<|eU Z Z Z Z<|eU Z Z Z Z<|eU Z Z Z Z<|eU Z Z Z Z<|eU Z Z Z Z<|eU Z Z Z Z<|aw Z Z Z Z Z (fun w' hw'=>N Z Z)<|aw Z Z Z Z Z (fun w' hw'=>Yb Z)<|eU Z Z Z Z<|eU Z Z Z Z<|eU Z Z Z Z<|eU Z Z Z Z<|eU Z Z Z Z<|eU Z Z Z Z<|eU Z Z Z Z<|eU Z Z Z Z<|eU Z Z Z Z<|eU Z Z Z Z<|eU Z Z Z Z<|aw Z Z Z Z Z (fun w' hw'=>N Z Z)<|aQ ?_
 intro w13 hw' hF
 replace H:=H.later hw';clear hw' hF
 refine U<|ZF Z<|Zk<|W<|Zr<|G (Wi Z)<|G (Wi Z)<|U<|Zt ?_
 have hv:ik es x=(-1,0):=by
  unfold ik;rw[if_neg h11,<-hp];unfold pM;simp[h30,h34,h39]
 exact ma (v:=J (-1)) (v2:=J 0) Z Z Z ⟨by rw[hv],H.below⟩
 refine G (Wb Z)<|U<|ZF Z<|W ?_
 refine bD ci [0,1,2,3,4,5,6,7] [] [] [0,2,3,4,6,7] (sp []) N N N N Nq (cJ _) ?_
 refine aw Z Z Z Z Z (fun w' hw'=>Zf eF Z)<|aw Z Z Z Z Z (fun w' hw'=>aX ak Z (aD ((H.later hw').ent (i:=1) Z) Z))<|aw Z Z Z Z Z (fun w' hw'=>Yp Z)<|aw Z Z Z Z Z (fun w' hw'=>aG Z)<|aw Z Z Z Z Z (fun w' hw'=>Zf jN Z)<|aw Z Z Z Z Z (fun w' hw'=>aX ak Z (aD ((H.later hw').ent (i:=0) Z) Z)) ?_
 refine AY Z Z Z Z Z (fun w' hw'=>ke Z Z) (fun h84=> ?_) (fun h84=> ?_)
 refine aw Z Z Z Z Z (fun w' hw'=>Wb Z)<|aQ ?_
 intro w14 hw' hF
 replace H:=H.later hw';clear hw' hF
 refine U<|ZT Z<|Zr<|G (Yp Z)<|G (aG Z)<|G (Zf fq Z)<|bg H 0 (#[J pv_,J (-1),J po,J pm]) bw Z Z Z Z Z N N fun w15 H=>U<|W<|W ?_
 refine bD ci [0,1,2,3,4,5,6,7] [] [] [0,2,3,4,6,7] (sp []) N N N N Nq (cJ _) ?_
 refine aw Z Z Z Z Z (fun w' hw'=>Zf fd Z)<|aw Z Z Z Z Z (fun w' hw'=>aX ak Z (aD ((H.later hw').ent (i:=1) Z) Z))<|aw Z Z Z Z Z (fun w' hw'=>Yp Z)<|aw Z Z Z Z Z (fun w' hw'=>aG Z)<|aw Z Z Z Z Z (fun w' hw'=>Zf fq Z)<|aw Z Z Z Z Z (fun w' hw'=>aX ak Z (aD ((H.later hw').ent (i:=0) Z) Z))<|aw Z Z Z Z Z (fun w' hw'=>bz Z Z I I) ?_
 refine AY Z Z Z Z Z (fun w' hw'=>ke Z Z) (fun h95=> ?_) (fun h95=> ?_)
 refine aQ ?_
 intro w16 hw' hF
 replace H:=H.later hw';clear hw' hF
 refine U<|ZT Z<|W<|Zr<|G (Wi Z)<|G (Wi Z)<|U<|Zt ?_
 replace h95:0<x.seq:=by omega
 have hv:ik es x=(0,11):=by
  unfold ik;rw[if_neg h11,<-hp];unfold pM;simp[h30,h34,h84,h95]
 exact ma (v:=J (0)) (v2:=J 11) Z Z Z ⟨by rw[hv],H.below⟩
 refine aQ ?_
 intro w17 hw' hF
 replace H:=H.later hw';clear hw' hF
 refine U<|ZF Z<|Zk<|W<|W ?_
 refine bD ci [0,1,2,3,4,5,6,7] [] [] [0,2,3,4,6,7] (sp []) N N N N Nq (cJ _) ?_
 refine aw Z Z Z Z Z (fun w' hw'=>Zf fd Z)<|aw Z Z Z Z Z (fun w' hw'=>aX ak Z (aD ((H.later hw').ent (i:=1) Z) Z))<|aw Z Z Z Z Z (fun w' hw'=>Yp Z)<|aw Z Z Z Z Z (fun w' hw'=>aG Z)<|aw Z Z Z Z Z (fun w' hw'=>Zf fq Z)<|aw Z Z Z Z Z (fun w' hw'=>aX ak Z (aD ((H.later hw').ent (i:=0) Z) Z))<|aw Z Z Z Z Z (fun w' hw'=>bz Z Z I I) ?_
 refine AY Z Z Z Z Z (fun w' hw'=>bp Z Z) (fun h103=> ?_) (fun h103=> ?_)
 refine aQ ?_
 intro w18 hw' hF
 replace H:=H.later hw';clear hw' hF
 refine U<|ZT Z<|W<|Zr<|G (Wi Z)<|G (Wi Z)<|U<|Zt ?_
 replace h95: ¬ 0<x.seq:=by omega
 replace h103:x.seq=0:=by omega
 have hv:ik es x=(-1,0):=by
  unfold ik;rw[if_neg h11,<-hp];unfold pM;simp[h30,h34,h84,h95,h103]
 exact ma (v:=J (-1)) (v2:=J 0) Z Z Z ⟨by rw[hv],H.below⟩
 refine aQ ?_
 intro w19 hw' hF
 replace H:=H.later hw';clear hw' hF
 refine U<|ZF Z<|Zk<|W<|W<|Zr<|G (Ys Z)<|G (br eE Z)<|G (Yi Z)<|U<|Zb ?_
 refine cy (τ:=Nat) [4,5,7,8,106,107,108,109,110,111,112,113,114,115,116,117,118,119,120,121,122,123,124,125,126,127,128,129,130,131,132,133,134,135,136] (fun i=>[(106,J (i:Nat))]) (fun i w'=>i<=es.length/\(∀ j e,j<i->es[j]? =some e->mY x e=false)/\Hp w w' ((b,.cells #[J pv_,J (-1),J po,J pm] lK (0,0))::(b3,.cells (cQ.c x).toArray dy (0,0))::K) [dT gQ 0 w.heap.size A es]) (fun i=>es.length-i) 0 ⟨by omega,by intro j e hj;omega,H⟩ (dJ Z) ?_
 rintro i ρ3 w20 ⟨hi,hno,H⟩
 show CW _ _ _ _ (dH (gJ _ _ ρ3) [(106,J (i:Nat))]) w20
 refine W<|Zr ?_
 refine cW (cK Z Z) Z Z Z (fun h107=> ?_) (fun h107=> ?_)
 refine U<|W<|ZT Z<|Zk<|W<|Zb<|W<|Zr<|G (Yi Z)<|ql H 0 Z dX Z Z I I Z fun b21 o21 x21 e21=>G (jF (xs:=cQ.c x21) dI Z Z e21.cl)<|eI H gh Z fun w22 b8 H=>G (Wi Z)<|JU H 0 eV Z Z Z Z Z Z fun w23 H=>U<|W<|Zr<|G (Zf fc Z)<|G (Zd ak H 0 Z Z Z) ?_
 refine cW (bp Z Z) Z Z Z (fun h113=> ?_) (fun h113=> ?_)
 refine G (Yb Z)<|ZG<|G (Zf fk Z)<|ZG<|G (Zd ak H 0 Z Z Z)<|ZG<|G (Zf fk Z)<|ZG<|G (Zd ak H 2 Z Z Z)<|ZG ?_
 refine cW (bp Z Z) Z Z Z (fun h119=> ?_) (fun h119=> ?_)
 refine G (Kt Z Z)<|G (Yb Z)<|ZG<|G (Zf eF Z)<|ZG<|G (Zd ak H 0 Z Z Z)<|ZG<|G (Zf eF Z)<|ZG<|G (Zd ak H 2 Z Z Z)<|ZG ?_
 refine cW (bp Z Z) Z Z Z (fun h126=> ?_) (fun h126=> ?_)
 refine G (Kt Z Z)<|G (Yb Z)<|ZG<|G (Zf fd Z)<|ZG<|G (Zd ak H 0 Z Z Z)<|ZG<|G (Zf fd Z)<|ZG<|G (Zd ak H 2 Z Z Z)<|ZG ?_
 refine cW (bp Z Z) Z Z Z (fun h133=> ?_) (fun h133=> ?_)
 refine G (Kt Z Z)<|U<|ZT Z<|W<|Zr<|G (Yi Z)<|G (Wi Z)<|G (Wi Z)<|U<|Zt ?_
 replace h95: ¬ 0<x.seq:=by omega
 replace h103: ¬ x.seq=0:=by omega
 have hdup:=Fw e21.at_ (by simp[mY,h113,h119,h126,h133]) hno
 have hv:ik es x=((i:Int),0):=by
  unfold ik;rw[if_neg h11,<-hp];unfold pM;simp[h30,h34,h84,h95,h103,hdup]
 exact ma (v:=J ((i:Int))) (v2:=J 0) Z Z Z ⟨by rw[hv],H.below⟩
 refine G (Kt Z Z)<|U<|ZF Z<|Zk<|Zr<|G (bz Z Z I I)<|G (Yi Z)<|U ?_
 refine⟨i+1,⟨by omega,fun j e hj he=> ?_,H.forget (aW _ _) (fun _ h=>h)⟩,dJ Z,Qg,by show es.length- (i+1)<es.length-i;omega⟩
 by_cases hji:j<i
 exact hno j e hji he
 have:j=i:=by omega
 subst this;have he2:=e21.at_;rw[he]at he2;injection he2 with he2;subst he2
 simp[mY,h113,h119,h126,h133]
 refine G (Kt Z Z)<|G (Yb Z)<|ZN<|ZN<|ZN<|ZN<|ZN<|G (N Z Z)<|U<|ZF Z<|Zk<|Zr<|G (bz Z Z I I)<|G (Yi Z)<|U ?_
 refine⟨i+1,⟨by omega,fun j e hj he=> ?_,H.forget (aW _ _) (fun _ h=>h)⟩,dJ Z,Qg,by show es.length- (i+1)<es.length-i;omega⟩
 by_cases hji:j<i
 exact hno j e hji he
 have:j=i:=by omega
 subst this;have he2:=e21.at_;rw[he]at he2;injection he2 with he2;subst he2
 simp[mY,h113,h119,h126]
 refine G (Kt Z Z)<|G (Yb Z)<|ZN<|ZN<|ZN<|ZN<|ZN<|G (N Z Z)<|G (Yb Z)<|ZN<|ZN<|ZN<|ZN<|ZN<|G (N Z Z)<|U<|ZF Z<|Zk<|Zr<|G (bz Z Z I I)<|G (Yi Z)<|U ?_
 refine⟨i+1,⟨by omega,fun j e hj he=> ?_,H.forget (aW _ _) (fun _ h=>h)⟩,dJ Z,Qg,by show es.length- (i+1)<es.length-i;omega⟩
 by_cases hji:j<i
 exact hno j e hji he
 have:j=i:=by omega
 subst this;have he2:=e21.at_;rw[he]at he2;injection he2 with he2;subst he2
 simp[mY,h113,h119]
 refine G (Yb Z)<|ZN<|ZN<|ZN<|ZN<|ZN<|G (N Z Z)<|G (Yb Z)<|ZN<|ZN<|ZN<|ZN<|ZN<|G (N Z Z)<|G (Yb Z)<|ZN<|ZN<|ZN<|ZN<|ZN<|G (N Z Z)<|U<|ZF Z<|Zk<|Zr<|G (bz Z Z I I)<|G (Yi Z)<|U ?_
 refine⟨i+1,⟨by omega,fun j e hj he=> ?_,H.forget (aW _ _) (fun _ h=>h)⟩,dJ Z,Qg,by show es.length- (i+1)<es.length-i;omega⟩
 by_cases hji:j<i
 exact hno j e hji he
 have:j=i:=by omega
 subst this;have he2:=e21.at_;rw[he]at he2;injection he2 with he2;subst he2
 simp[mY,h113]
 refine U<|W<|ZF Z<|Zx<|W<|Zr<|G (Wi Z)<|G (Wi Z)<|U<|Zt ?_
 replace h95: ¬ 0<x.seq:=by omega
 replace h103: ¬ x.seq=0:=by omega
 have hdup:=Fx (x:=x) (es:=es) (fun j e hj he=>hno j e I he)
 have hv:ik es x=(0,11):=by
  unfold ik;rw[if_neg h11,<-hp];unfold pM;simp[h30,h34,h84,h95,h103,hdup]
 exact ma (v:=J (0)) (v2:=J 11) Z Z Z ⟨by rw[hv],H.below⟩
 refine aw Z Z Z Z Z (fun w' hw'=>Wb Z)<|aQ ?_
 intro w24 hw' hF
 replace H:=H.later hw';clear hw' hF
 refine U<|ZF Z<|Zk<|W<|W ?_
 refine bD ci [0,1,2,3,4,5,6,7] [] [] [0,2,3,4,6,7] (sp []) N N N N Nq (cJ _) ?_
 refine aw Z Z Z Z Z (fun w' hw'=>Zf fd Z)<|aw Z Z Z Z Z (fun w' hw'=>aX ak Z (aD ((H.later hw').ent (i:=1) Z) Z))<|aw Z Z Z Z Z (fun w' hw'=>Yp Z)<|aw Z Z Z Z Z (fun w' hw'=>aG Z)<|aw Z Z Z Z Z (fun w' hw'=>Zf fq Z)<|aw Z Z Z Z Z (fun w' hw'=>aX ak Z (aD ((H.later hw').ent (i:=0) Z) Z))<|aw Z Z Z Z Z (fun w' hw'=>bz Z Z I I) ?_
 refine AY Z Z Z Z Z (fun w' hw'=>ke Z Z) (fun h95=> ?_) (fun h95=> ?_)
 refine aQ ?_
 intro w25 hw' hF
 replace H:=H.later hw';clear hw' hF
 refine U<|ZT Z<|W<|Zr<|G (Wi Z)<|G (Wi Z)<|U<|Zt ?_
 have hv:ik es x=(0,11):=by
  unfold ik;rw[if_neg h11,<-hp];unfold pM;simp[h30,h34,h84,h95]
 exact ma (v:=J (0)) (v2:=J 11) Z Z Z ⟨by rw[hv],H.below⟩
 refine aQ ?_
 intro w26 hw' hF
 replace H:=H.later hw';clear hw' hF
 refine U<|ZF Z<|Zk<|W<|W ?_
 refine bD ci [0,1,2,3,4,5,6,7] [] [] [0,2,3,4,6,7] (sp []) N N N N Nq (cJ _) ?_
 refine aw Z Z Z Z Z (fun w' hw'=>Zf fd Z)<|aw Z Z Z Z Z (fun w' hw'=>aX ak Z (aD ((H.later hw').ent (i:=1) Z) Z))<|aw Z Z Z Z Z (fun w' hw'=>Yp Z)<|aw Z Z Z Z Z (fun w' hw'=>aG Z)<|aw Z Z Z Z Z (fun w' hw'=>Zf fq Z)<|aw Z Z Z Z Z (fun w' hw'=>aX ak Z (aD ((H.later hw').ent (i:=0) Z) Z))<|aw Z Z Z Z Z (fun w' hw'=>bz Z Z I I) ?_
 refine AY Z Z Z Z Z (fun w' hw'=>bp Z Z) (fun h103=> ?_) (fun h103=> ?_)
 refine aQ ?_
 intro w27 hw' hF
 replace H:=H.later hw';clear hw' hF
 refine U<|ZT Z<|W<|Zr<|G (Wi Z)<|G (Wi Z)<|U<|Zt ?_
 have hv:ik es x=(-1,0):=by
  unfold ik;rw[if_neg h11,<-hp];unfold pM;simp[h30,h34,h84,h95,h103]
 exact ma (v:=J (-1)) (v2:=J 0) Z Z Z ⟨by rw[hv],H.below⟩
 refine aQ ?_
 intro w28 hw' hF
 replace H:=H.later hw';clear hw' hF
 refine U<|ZF Z<|Zk<|W<|W<|Zr<|G (Ys Z)<|G (br eE Z)<|G (Yi Z)<|U<|Zb ?_
 refine cy (τ:=Nat) [4,5,7,8,106,107,108,109,110,111,112,113,114,115,116,117,118,119,120,121,122,123,124,125,126,127,128,129,130,131,132,133,134,135,136] (fun i=>[(106,J (i:Nat))]) (fun i w'=>i<=es.length/\(∀ j e,j<i->es[j]? =some e->mY x e=false)/\Hp w w' ((b,.cells #[J pv_,J ps,J po,J pm] lK (0,0))::(b3,.cells (cQ.c x).toArray dy (0,0))::K) [dT gQ 0 w.heap.size A es]) (fun i=>es.length-i) 0 ⟨by omega,by intro j e hj;omega,H⟩ (dJ Z) ?_
 rintro i ρ3 w29 ⟨hi,hno,H⟩
 show CW _ _ _ _ (dH (gJ _ _ ρ3) [(106,J (i:Nat))]) w29
 refine W<|Zr ?_
 refine cW (cK Z Z) Z Z Z (fun h107=> ?_) (fun h107=> ?_)
 refine U<|W<|ZT Z<|Zk<|W<|Zb<|W<|Zr<|G (Yi Z)<|ql H 0 Z dX Z Z I I Z fun b30 o30 x30 e30=>G (jF (xs:=cQ.c x30) dI Z Z e30.cl)<|eI H gh Z fun w31 b8 H=>G (Wi Z)<|JU H 0 eV Z Z Z Z Z Z fun w32 H=>U<|W<|Zr<|G (Zf fc Z)<|G (Zd ak H 0 Z Z Z) ?_
 refine cW (bp Z Z) Z Z Z (fun h113=> ?_) (fun h113=> ?_)
 refine G (Yb Z)<|ZG<|G (Zf fk Z)<|ZG<|G (Zd ak H 0 Z Z Z)<|ZG<|G (Zf fk Z)<|ZG<|G (Zd ak H 2 Z Z Z)<|ZG ?_
 refine cW (bp Z Z) Z Z Z (fun h119=> ?_) (fun h119=> ?_)
 refine G (Kt Z Z)<|G (Yb Z)<|ZG<|G (Zf eF Z)<|ZG<|G (Zd ak H 0 Z Z Z)<|ZG<|G (Zf eF Z)<|ZG<|G (Zd ak H 2 Z Z Z)<|ZG ?_
 refine cW (bp Z Z) Z Z Z (fun h126=> ?_) (fun h126=> ?_)
 refine G (Kt Z Z)<|G (Yb Z)<|ZG<|G (Zf fd Z)<|ZG<|G (Zd ak H 0 Z Z Z)<|ZG<|G (Zf fd Z)<|ZG<|G (Zd ak H 2 Z Z Z)<|ZG ?_
 refine cW (bp Z Z) Z Z Z (fun h133=> ?_) (fun h133=> ?_)
 refine G (Kt Z Z)<|U<|ZT Z<|W<|Zr<|G (Yi Z)<|G (Wi Z)<|G (Wi Z)<|U<|Zt ?_
 have hdup:=Fw e30.at_ (by simp[mY,h113,h119,h126,h133]) hno
 have hv:ik es x=((i:Int),0):=by
  unfold ik;rw[if_neg h11,<-hp];unfold pM;simp[h30,h34,h84,h95,h103,hdup]
 exact ma (v:=J ((i:Int))) (v2:=J 0) Z Z Z ⟨by rw[hv],H.below⟩
 refine G (Kt Z Z)<|U<|ZF Z<|Zk<|Zr<|G (bz Z Z I I)<|G (Yi Z)<|U ?_
 refine⟨i+1,⟨by omega,fun j e hj he=> ?_,H.forget (aW _ _) (fun _ h=>h)⟩,dJ Z,Qg,by show es.length- (i+1)<es.length-i;omega⟩
 by_cases hji:j<i
 exact hno j e hji he
 have:j=i:=by omega
 subst this;have he2:=e30.at_;rw[he]at he2;injection he2 with he2;subst he2
 simp[mY,h113,h119,h126,h133]
 refine G (Kt Z Z)<|G (Yb Z)<|ZN<|ZN<|ZN<|ZN<|ZN<|G (N Z Z)<|U<|ZF Z<|Zk<|Zr<|G (bz Z Z I I)<|G (Yi Z)<|U ?_
 refine⟨i+1,⟨by omega,fun j e hj he=> ?_,H.forget (aW _ _) (fun _ h=>h)⟩,dJ Z,Qg,by show es.length- (i+1)<es.length-i;omega⟩
 by_cases hji:j<i
 exact hno j e hji he
 have:j=i:=by omega
 subst this;have he2:=e30.at_;rw[he]at he2;injection he2 with he2;subst he2
 simp[mY,h113,h119,h126]
 refine G (Kt Z Z)<|G (Yb Z)<|ZN<|ZN<|ZN<|ZN<|ZN<|G (N Z Z)<|G (Yb Z)<|ZN<|ZN<|ZN<|ZN<|ZN<|G (N Z Z)<|U<|ZF Z<|Zk<|Zr<|G (bz Z Z I I)<|G (Yi Z)<|U ?_
 refine⟨i+1,⟨by omega,fun j e hj he=> ?_,H.forget (aW _ _) (fun _ h=>h)⟩,dJ Z,Qg,by show es.length- (i+1)<es.length-i;omega⟩
 by_cases hji:j<i
 exact hno j e hji he
 have:j=i:=by omega
 subst this;have he2:=e30.at_;rw[he]at he2;injection he2 with he2;subst he2
 simp[mY,h113,h119]
 refine G (Yb Z)<|ZN<|ZN<|ZN<|ZN<|ZN<|G (N Z Z)<|G (Yb Z)<|ZN<|ZN<|ZN<|ZN<|ZN<|G (N Z Z)<|G (Yb Z)<|ZN<|ZN<|ZN<|ZN<|ZN<|G (N Z Z)<|U<|ZF Z<|Zk<|Zr<|G (bz Z Z I I)<|G (Yi Z)<|U ?_
 refine⟨i+1,⟨by omega,fun j e hj he=> ?_,H.forget (aW _ _) (fun _ h=>h)⟩,dJ Z,Qg,by show es.length- (i+1)<es.length-i;omega⟩
 by_cases hji:j<i
 exact hno j e hji he
 have:j=i:=by omega
 subst this;have he2:=e30.at_;rw[he]at he2;injection he2 with he2;subst he2
 simp[mY,h113]
 refine U<|W<|ZF Z<|Zx<|W<|Zr<|G (Wi Z)<|G (Wi Z)<|U<|Zt ?_
 have hdup:=Fx (x:=x) (es:=es) (fun j e hj he=>hno j e I he)
 have hv:ik es x=(0,11):=by
  unfold ik;rw[if_neg h11,<-hp];unfold pM;simp[h30,h34,h84,h95,h103,hdup]
 exact ma (v:=J (0)) (v2:=J 11) Z Z Z ⟨by rw[hv],H.below⟩
def Ee (es:List cQ) (n i:Nat):List ByteArray:=match es[i]? with
 |some e=>if e.kind=1/\yj (es.take n) i e=true then [e.text]else []
 |none=>[]
def texts (es:List cQ) (n a b:Nat):List ByteArray:=(List.range' a (b-a)).flatMap (Ee es n)
theorem FV (es:List cQ) (n a:Nat):texts es n a a=[]:=by simp[texts]
theorem vw {es:List cQ} {n a b:Nat} (h:a<=b):texts es n a (b+1)=texts es n a b++Ee es n b:=by
 unfold texts
 have e:b+1-a=(b-a)+1:=by omega
 rw[e,List.range'_1_concat,mP]
 have e2:a+(b-a)=b:=by omega
 simp[e2]
def AS (es:List cQ) (n st a most:Nat) (out:List ByteArray) (b:Nat):Prop:=a<=b/\(b=a∨b<=st)/\out=texts es n a b/\out.length<=most/\(st<=b∨out.length=most)/\ ∀ bq_,a<=bq_->bq_<b->(texts es n a bq_).length<most
theorem Mh (es:List cQ) (A:Option Addr) (c n a most:Nat) (w:World) (hr:Rd gQ 0 w.heap.size A es w) (hc:es.length<=c) (hb:es.length<=1000000) (hn:n<=es.length) (ha:a<=es.length) (hm1:1<=most) (hm2:most<=20):
  dg ab yl [.slice A es.length c,J (n:Nat),J (a:Nat),J (most:Nat)] w fun v w2=> ∃ (st:Nat) (out:List ByteArray) (b:Nat) (A':Option Addr) (c':Nat),tE (es.take n) st/\AS es n st a most out b/\v=.tuple #[.slice A' out.length c',J (b:Nat),J 0]/\Rd m6 w.heap.size w2.heap.size A' out w2/\out.length<=c'/\Below w.heap.size w w2:=by
 refine aF wC Z Z ?_
 have H:=Hp.startRd hr
 refine W<|Zr<|G (Ws Z)<|G (Wi Z)<|G (Wi Z)<|U<|W<|Zr<|G (Ys Z)<|G (Yi Z)<|ch tV (Ca es _ _ n _ (H.rd0 0 Z) hc hb hn) Z Z ?_
 rintro _ w1 ⟨st,hst,rfl,hb2⟩;replace H:=H.later hb2;clear hb2
 have hstl:st<=n:=by have:=hst.1;simp at this;omega
 refine G (Yu Z)<|G (Xi Z Z)<|G (Xi Z Z)<|G (Wi Z)<|G (Wi Z)<|U<|W<|W<|Zr<|G (Yi Z)<|G (ce Z Z Z)<|U<|ZF Z<|Zk<|W<|W<|Zr<|G (Yi Z)<|G (dd Z Z I)<|G (Yb Z)<|ZG<|G (Yi Z)<|ZG<|G (Ys Z)<|ZG<|G (br eE Z)<|ZG<|G (eA Z Z I)<|G (N Z Z)<|G (Yb Z)<|ZG<|G (Yi Z)<|ZG<|G (dd Z Z I)<|G (N Z Z)<|G (Yb Z)<|ZG<|G (Yi Z)<|ZG<|G (eA Z Z I) ?_
 refine G (N Z Z)<|U<|ZF Z<|Zk<|W<|Zr<|G (Ws Z)<|U<|W<|Zr<|G (Yi Z)<|G (Wi Z)<|U<|W<|Zb ?_
 refine cy (τ:=Nat×List ByteArray×Option Addr×Nat) [13,14,41,42,43,44,45,46,47,48,49,50,51,52,53,54,55,56,57,58,59,60,61,62,63,64,65,66,67,68,69,70,71,72] (fun(at_,out,A1,c1)=>[(13,.slice A1 out.length c1),(14,J (at_:Nat))]) (fun(at_,out,A1,c1) w'=>a<=at_/\(at_=a∨at_<=st)/\out=texts es n a at_/\out.length<=most/\(∀ bq_,a<=bq_->bq_<at_->(texts es n a bq_).length<most)/\ ∃ L',gm m6 (.slice A1 out.length c1) kD out L'/\Hp w w' ([]++L'++[]) [dT gQ 0 w.heap.size A es]) (fun(at_,_,_,_)=>st-at_) (a,[],none,0) ⟨by omega,.inl Z,(FV _ _ _).symm,by simp,(fun _ _ _=>by omega),[],gm.nil,H⟩ (la Z Z) ?_
 rintro⟨at_,out,A1,c1⟩ ρ1 w2 ⟨hat1,hat2,hout,hol,hmin,L1,ho,H⟩
 show CW _ _ _ _ (dH (gJ _ _ ρ1) [(13,.slice A1 out.length c1),(14,J (at_:Nat))]) w2
 refine W<|W<|Zr<|G (Yi Z)<|G (Yi Z) ?_
 refine cW (cK Z Z) Z Z Z (fun h43=> ?_) (fun h43=> ?_)
 refine G (Yb Z)<|ZG<|G (Ys Z)<|ZG<|G (br lO Z)<|ZG<|G (Yi Z)<|ZG ?_
 refine cW (cK Z Z) Z Z Z (fun h48=> ?_) (fun h48=> ?_)
 refine G (Kt Z Z)<|U<|ZT Z<|Zk<|W<|Zb<|W<|Zr<|G (Ys Z)<|G (Yi Z)<|ql H 0 Z dX Z Z I I Z fun b3 o3 x3 e3=> ?_
 have hxt:(es.take n)[at_]? =some x3:=by rw[fE I];exact e3.at_
 refine G (Zf fc Z)<|G (aX ak Z (e3.cl 4 _ Z)) ?_
 refine cW (bp Z Z) Z Z Z (fun h57=> ?_) (fun h57=> ?_)
 refine G (Yb Z)<|ZG<|G (Ys Z)<|ZG<|G (Yi Z)<|ZG<|sd (k:=n) H 0 Z dX Z Z hc I Z fun A61 H=>ZG ?_
 have hK:=MI (es.take n) A61 c at_ x3 _ (H.rd0 0 Z) hxt (by simp;omega) (by simp;omega)
 rw[show(es.take n).length=n by simp;omega]at hK
 refine G (Yi Z)<|ZG<|ch DS (hK) Z Z ?_
 rintro _ w4 ⟨rfl,hb2⟩;replace H:=H.later hb2;clear hb2
 refine G (Kt Z Z)<|U ?_
 refine jo Z (fun hc64=> ?_) (fun hc64=> ?_)
 refine Zr<|G (Ys Z)<|G (Ys Z)<|G (Yi Z)<|ql H 1 Z dX Z Z I I Z fun b5 o5 x5 e5=>G (Zf p9 Z)<|G (aX bc Z (e5.cl 6 _ Z))<|sW (vs:=[.string x5.text]) H ip vW Z Z Z Z Z Z fun w6 b71 H=> ?_
 have hxx:x5=x3:=by have h1:=e3.at_;rw[e5.at_]at h1;injection h1
 refine vQ (Y:=m6) vO (K:=[(b71,_)]) (L:=L1) (M:=[]) H ho (news:=[x5.text]) Z Z Z (vT.row (m:=1) (sz:=1) (H.ent (i:=0) Z) Z) (by simp only[bU];omega) Z ?_
 intro A3 c3 w7 L3 h3a _ ho3 H
 refine G (Ws Z)<|U<|Zr<|G (Yi Z)<|G (bz Z Z I I)<|G (Wi Z)<|U ?_
 have hvis:Ee es n at_=[x5.text]:=by unfold Ee;rw[e3.at_];simp only;rw[if_pos ⟨h57,hc64⟩,hxx]
 refine⟨(at_+1,out++[x5.text],A3,c3),⟨by omega,.inr I,by rw[vw hat1,hvis,hout],by simp;omega,(fun bq_ h1 h2=>by rcases iL bq_ at_ with h3|h3;exact hmin bq_ h1 h3;rw[show bq_=at_ by omega,<-hout];omega),L3,ho3,H.forget (by simp) (by simp)⟩,la Z Z,Qg,by show st- (at_+1)<st-at_;omega⟩
 refine Zk<|Zr<|G (Yi Z)<|G (bz Z Z I I)<|G (Wi Z)<|U ?_
 have hvis:Ee es n at_=[]:=by unfold Ee;rw[e3.at_];simp only;rw[if_neg (by rintro⟨p,q⟩;first|exact h57 p|(rw[hc64]at q;cases q))]
 refine⟨(at_+1,out,A1,c1),⟨by omega,.inr I,by rw[vw hat1,hvis,hout,aY],hol,(fun bq_ h1 h2=>by rcases iL bq_ at_ with h3|h3;exact hmin bq_ h1 h3;rw[show bq_=at_ by omega,<-hout];omega),L1,ho,H.forget (by simp) (by simp)⟩,la Z Z,Qg,by show st- (at_+1)<st-at_;omega⟩
 refine G (Yb Z)<|ZN<|ZN<|ZN<|ZN<|ZN<|G (N Z Z)<|U<|ZF Z<|Zk<|Zr<|G (Yi Z)<|G (bz Z Z I I)<|G (Wi Z)<|U ?_
 have hvis:Ee es n at_=[]:=by unfold Ee;rw[e3.at_];simp only;rw[if_neg (by rintro⟨p,q⟩;first|exact h57 p|(rw[hc64]at q;cases q))]
 refine⟨(at_+1,out,A1,c1),⟨by omega,.inr I,by rw[vw hat1,hvis,hout,aY],hol,(fun bq_ h1 h2=>by rcases iL bq_ at_ with h3|h3;exact hmin bq_ h1 h3;rw[show bq_=at_ by omega,<-hout];omega),L1,ho,H.forget (by simp) (by simp)⟩,la Z Z,Qg,by show st- (at_+1)<st-at_;omega⟩
 refine G (Kt Z Z)<|U<|ZF Z<|Zx<|W<|Zr<|G (Ys Z)<|G (Yi Z)<|G (Ws Z)<|G (Wi Z)<|G (Wi Z)<|U<|Zt ?_
 obtain⟨A2,c2,he,hlc,-⟩:=ho.form
 injection he with h1 h2 h3
 subst h3
 exact GS Z Z Z Z ⟨st,out,at_,A1,c1,hst,⟨hat1,hat2,hout,hol,by omega,hmin⟩,rfl,ho.rd H,hlc,H.below⟩
 refine G (Yb Z)<|ZN<|ZN<|ZN<|ZN<|G (N Z Z)<|U<|ZF Z<|Zx<|W<|Zr<|G (Ys Z)<|G (Yi Z)<|G (Ws Z)<|G (Wi Z)<|G (Wi Z)<|U<|Zt ?_
 obtain⟨A2,c2,he,hlc,-⟩:=ho.form
 injection he with h1 h2 h3
 subst h3
 exact GS Z Z Z Z ⟨st,out,at_,A1,c1,hst,⟨hat1,hat2,hout,hol,by omega,hmin⟩,rfl,ho.rd H,hlc,H.below⟩
/-- what IndexFunc answers -/
def lE:Option Nat->Int
 |some i=>i
 |none=> -1
theorem Rd.blk {α:Type} {Y:fo α} {w:World} {b:Nat} {cs:Array Value} {T:TypeId} {fr:Nat×Nat} {es:List α} (h:w.heap[b]? =some (.cells cs T fr)) (hc:cs.toList=Y.all es):Rd Y 0 w.heap.size (Qd b) es w:=
 fun _=>⟨b,0,rfl,bK _,cj h,fun j u hj=>by rw[cG];exact aD h (by rw[<-hc]at hj;simpa using hj)⟩
def NZ:cQ:=⟨0,0,0,0,1,false,⟨#[97]⟩⟩
inductive FL:List cQ->Prop
 |nil:FL []
 |snoc {es:List cQ} {x:cQ}:FL es->(ik es x).2=0->(ik es x).1<0->FL (es++[x])
theorem FL.take {es:List cQ} (h:FL es): ∀ k,FL (es.take k):=by
 induction h with
 |nil=>intro k;simp;exact .nil
 |@snoc es x h h1 h2 ih=>
  intro k
  by_cases hk:k<=es.length
  rw[ig hk];exact ih k
  rw[gf (by simp;omega)];exact .snoc h h1 h2
theorem Ik {es:List cQ} (h: ∀ e∈es,rz e):seqB es:=fun e he=>by
 obtain⟨_,_,h3,_⟩:=qI (h e he)
 have:=h3 e.seq (by simp[cQ.nums])
 omega
def later (es:List cQ) (k:Nat) (x:cQ):Bool:=(es.drop k).any fun y=>decide (y.pid=x.pid)&&decide (x.ver<y.ver)
theorem BK (es:List UInt8) (A:Option Addr) (c:Nat) (w:World) (hr:Rd dE 0 w.heap.size A es w) (hb:es.length*1<=140737488355328):
  dg ab kO [.slice A es.length c] w fun v w2=> ∃ A' c' L',v=.slice A' es.length c'/\es.length<=c'/\c'<=maxLen/\gm dE (.slice A' es.length c') mJ es L'/\Hp w w2 L' []:=by
 refine aF pZ Z Z ?_
 have H:=Hp.startRd hr
 refine W<|Zr<|G (Ws Z)<|U<|W<|W<|Zr<|G (Ys Z) ?_
 refine wl (qB eP Z) Z Z Z (fun h4=> ?_) (fun h4=> ?_)
 refine U<|ZT Z<|W<|Zr<|G (Ws Z)<|U<|Zt ?_
 have he:es=[]:=by
  cases es with
  |nil=>rfl
  |cons e es=>obtain⟨b,o,hA,_⟩:=hr (by simp);subst hA;cases h4
 subst he
 exact cH Z Z ⟨none,0,[],rfl,by simp,by decide,gm.nil,H.forget (by simp) (by simp)⟩
 refine U<|ZF Z<|Zk<|W<|Zr<|Np H ed Z fun w1 b5 H=>G (Ys Z)<|vQ (Y:=dE) oz (K:=[]) (L:=[(b5,_)]) (M:=[]) H (rU.lit (by decide) (by rfl)) (es:=[]) (news:=es) Z Z Z (Rd.src (H.fact (i:=0) Z)) (by simpa using hb) Z ?_
 intro A3 c3 w3 L3 h3a h3b ho3 H
 refine G (Ws Z)<|U<|Zt ?_
 exact cH Z Z ⟨A3,c3,L3,rfl,h3a,h3b,ho3,H.forget (by simp) (by simp)⟩
theorem sI (es:List Int) (A:Option Addr) (c:Nat) (w:World) (hr:Rd bW 0 w.heap.size A es w) (hb:es.length*8<=140737488355328):
  dg ab lP [.slice A es.length c] w fun v w2=> ∃ A' c' L',v=.slice A' es.length c'/\es.length<=c'/\c'<=maxLen/\gm bW (.slice A' es.length c') db es L'/\Hp w w2 L' []:=by
 refine aF rh Z Z ?_
 have H:=Hp.startRd hr
 refine W<|Zr<|G (Ws Z)<|U<|W<|W<|Zr<|G (Ys Z) ?_
 refine wl (qB eJ Z) Z Z Z (fun h4=> ?_) (fun h4=> ?_)
 refine U<|ZT Z<|W<|Zr<|G (Ws Z)<|U<|Zt ?_
 have he:es=[]:=by
  cases es with
  |nil=>rfl
  |cons e es=>obtain⟨b,o,hA,_⟩:=hr (by simp);subst hA;cases h4
 subst he
 exact cH Z Z ⟨none,0,[],rfl,by simp,by decide,gm.nil,H.forget (by simp) (by simp)⟩
 refine U<|ZF Z<|Zk<|W<|Zr<|Np H aT Z fun w1 b5 H=>G (Ys Z)<|vQ (Y:=bW) y6 (K:=[]) (L:=[(b5,_)]) (M:=[]) H (rU.lit (by decide) (by rfl)) (es:=[]) (news:=es) Z Z Z (Rd.src (H.fact (i:=0) Z)) (by simpa using hb) Z ?_
 intro A3 c3 w3 L3 h3a h3b ho3 H
 refine G (Ws Z)<|U<|Zt ?_
 exact cH Z Z ⟨A3,c3,L3,rfl,h3a,h3b,ho3,H.forget (by simp) (by simp)⟩

/-- a row of rows of bytes -/
abbrev RB:=Option Addr×List UInt8×Nat
def J3:fo RB:=⟨fun p=>[.slice p.1 p.2.1.length p.2.2],1,fun _=>rfl,by decide,fun a u hu=>by
 simp only[ay,cd,or_false]at hu
 subst hu;rfl⟩
def xd (ps:List RB):List UInt8:=ps.flatMap fun p=>p.2.1
theorem tZ {ps:List RB} {k:Nat} {p:RB} (h:ps[k]? =some p):xd (ps.take (k+1))=xd (ps.take k)++p.2.1:=by
 rw[fi h];simp[xd]
theorem D0 (ps:List RB) (k:Nat):(xd (ps.take k)).length<=(xd ps).length:=by
 have:xd ps=xd (ps.take k)++xd (ps.drop k):=by unfold xd;rw[<-mP,gM]
 rw[this];simp
theorem IE {g cp:Nat} {cur:Array Value} (h:cur.size=cp*1) (hm:cp<=maxLen):gm dE (.slice (Qd g) 0 cp) mJ [] [(g,.cells cur mJ (0,0))]:=
 ⟨by simp[fo.all],.inr ⟨g,cp,cur,rfl,rfl,bK _,hm,h,by simp[fo.all]⟩⟩
theorem MP (n:Nat) (w:World) (hn:n<=1000000):dg ab qZ [.slice none 0 0,J (n:Nat)] w fun v w2=> ∃ A' c' L',v=.slice A' 0 c'/\gm dE (.slice A' 0 c') mJ [] L'/\Hp w w2 L' []:=by
 refine aF qu Z Z ?_
 have H:=Hp.start w
 refine W<|Zr<|G (Ws Z)<|U<|W<|W<|Zr<|G (Yi Z)<|G (dd Z Z I)<|U<|ZF Z<|Zk<|W<|W<|Zr<|G (Yi Z)<|G (Ys Z)<|G (D1 eP Z)<|G (Ys Z)<|G (br eP Z)<|G (mW Z Z I I)<|G (mW Z Z I I)<|G (Wi Z)<|U<|W<|Zr<|G (Yi Z) ?_
 refine cW (ke Z Z) Z Z Z (fun h16=> ?_) (fun h16=> ?_)
 refine U<|ZT Z<|Zr<|G (Ys Z)<|G (Ys Z)<|G (D1 eP Z)<|G (C4 (i:=0) ed Z Z I I)<|G (Yi Z)<|PY (m:=n) oz iv H Z (by show Value.int .i64 _=_;congr 1) I I Z fun w1 g cp cur hcs hncp hcpm H=>G (Ys Z)<|G (br eP Z)<|zo ed Z Z I I Z fun A25 hA25=> ?_
 obtain rfl:=hA25 I
 refine G (Ws Z)<|U<|W<|Zr<|G (Ys Z)<|G (Ws Z)<|U<|Zt ?_
 exact cH Z Z ⟨_,_,_,rfl,IE hcs hcpm,H⟩
 refine U<|ZF Z<|Zk<|W<|Zr<|G (Ys Z)<|G (Ws Z)<|U<|Zt ?_
 exact cH Z Z ⟨none,0,[],rfl,gm.nil,H⟩
theorem uy (ps:List RB) (A:Option Addr) (c:Nat) (w:World) (hr:Rd J3 0 w.heap.size A ps w) (hp: ∀ p∈ps,Rd dE 0 w.heap.size p.1 p.2.1 w) (hb:(xd ps).length<=1000000) (hl:ps.length<=1000):
  dg ab pW [.slice A ps.length c] w fun v w2=> ∃ A' c' L',v=.slice A' (xd ps).length c'/\(xd ps).length<=c'/\c'<=maxLen/\gm dE (.slice A' (xd ps).length c') mJ (xd ps) L'/\Hp w w2 L' []:=by
 refine aF py Z Z ?_
 have H:=Hp.startRd hr
 refine W<|Zr<|G (Ws Z)<|U<|W<|Zr<|G (Wi Z)<|U<|W<|W<|Zr<|G (Ys Z)<|G (br zS Z)<|G (Yi Z)<|U<|Zb ?_
 refine cy (τ:=Nat) [3,5,11,12,13,14,15,16,17,18,19,20,21,22] (fun k=>[(3,J ((xd (ps.take k)).length:Nat)),(11,J (k:Nat))]) (fun k w'=>k<=ps.length/\Hp w w' [] [dT J3 0 w.heap.size A ps]) (fun k=>ps.length-k) 0 ⟨by omega,H⟩ (la Z Z) ?_
 rintro k ρ1 w1 ⟨hk,H⟩
 show CW _ _ _ _ (dH (gJ _ _ ρ1) [(3,J ((xd (ps.take k)).length:Nat)),(11,J (k:Nat))]) w1
 have hle:=D0 ps k
 refine W<|Zr ?_
 refine cW (cK Z Z) Z Z Z (fun h12=> ?_) (fun h12=> ?_)
 refine U<|W<|ZT Z<|Zk<|W<|Zb<|W<|Zr<|ql H 0 Z rF Z Z I I Z fun b2 o2 x2 e2=> ?_
 have hle2:=D0 ps (k+1)
 rw[tZ e2.at_,az]at hle2
 refine G (aX ec Z (e2.cl 0 _ Z))<|G (Ws Z)<|U<|W<|Zr<|G (Yi Z)<|G (Ys Z)<|G (br eP Z)<|G (bz Z Z I I)<|G (Wi Z)<|U<|W<|Zr<|G (Yi Z)<|G (dd Z Z I)<|U<|ZF Z<|Zk<|Zr<|G (bz Z Z I I)<|G (Yi Z)<|U ?_
 refine⟨k+1,⟨by omega,H⟩,la (by rw[tZ e2.at_,az];rfl) Z,Qg,by show ps.length- (k+1)<ps.length-k;omega⟩
 refine U<|W<|ZF Z<|Zx<|W<|Zr<|G (Yi Z)<|ch qx (MP (xd (ps.take k)).length _ I) Z Z ?_
 rintro _ w3 ⟨A24,c24,L24,rfl,ho24,hj24⟩;replace H:=H.join hj24;clear hj24
 refine G (Ws Z)<|U<|W<|W<|Zr<|G (Ys Z)<|G (br zS Z)<|G (Yi Z)<|U<|Zb ?_
 refine cy (τ:=Nat×Option Addr×Nat) [6,8,27,28,29,30,31,32,33,34] (fun(j,Ag,cg)=>[(6,.slice Ag (xd (ps.take j)).length cg),(27,J (j:Nat))]) (fun(j,Ag,cg) w'=>j<=ps.length/\ ∃ L',gm dE (.slice Ag (xd (ps.take j)).length cg) mJ (xd (ps.take j)) L'/\Hp w w' ([]++L'++[]) [dT J3 0 w.heap.size A ps]) (fun(j,_,_)=>ps.length-j) (0,A24,c24) ⟨by omega,L24,ho24,by simpa using H⟩ (la Z Z) ?_
 rintro⟨j,Ag,cg⟩ ρ2 w4 ⟨hj,L1,ho,H⟩
 show CW _ _ _ _ (dH (gJ _ _ ρ2) [(6,.slice Ag (xd (ps.take j)).length cg),(27,J (j:Nat))]) w4
 have hle:=D0 ps j
 refine W<|Zr ?_
 refine cW (cK Z Z) Z Z Z (fun h28=> ?_) (fun h28=> ?_)
 refine U<|W<|ZT Z<|Zk<|W<|Zb<|W<|Zr<|ql H 0 Z rF Z Z I I Z fun b5 o5 x5 e5=> ?_
 have hle2:=D0 ps (j+1)
 rw[tZ e5.at_,az]at hle2
 have hpx:=(hp _ (ah e5.at_)).below H.below
 refine G (aX ec Z (e5.cl 0 _ Z))<|G (Ws Z)<|U<|Zr<|G (Ys Z)<|G (Ys Z)<|vQ (Y:=dE) oz (K:=[]) (L:=L1) (M:=[]) H ho (news:=x5.2.1) Z Z Z (Rd.src hpx) I Z ?_
 intro A3 c3 w6 L3 h3a _ ho3 H
 refine G (Ws Z)<|U<|Zr<|G (bz Z Z I I)<|G (Yi Z)<|U ?_
 refine⟨(j+1,A3,c3),⟨by omega,L3,by rw[tZ e5.at_];exact ho3,H⟩,la (by rw[tZ e5.at_];rfl) Z,Qg,by show ps.length- (j+1)<ps.length-j;omega⟩
 refine U<|W<|ZF Z<|Zx<|W<|Zr<|G (Ys Z)<|G (Ws Z)<|U<|Zt ?_
 have hjp:j=ps.length:=by omega
 subst hjp
 rw[bZ]at ho
 obtain⟨A2,c2,he,hlc,hmx⟩:=ho.form
 injection he with h1 h2 h3
 subst h3
 exact cH (v:=.slice Ag (xd (ps.take ps.length)).length cg) Z Z ⟨Ag,cg,L1,by rw[bZ],hlc,hmx,ho,H.forget (by simp) (by simp)⟩
theorem Ic {n:UInt8} {r:List UInt8} {e:cQ} {k:Nat} (h:tl (n::r)=some (e,k)):k=n.toNat+3:=by
 simp only[tl]at h
 split at h;· cases h
 split at h;· cases h
 split at h
 injection h with h;injection h with h1 h2;exact h2.symm
 cases h
theorem I8 {e:cQ} (hg:rz e): ∃ n r,iF e=n::r/\n.toNat+3=(iF e).length:=by
 obtain⟨hl,_⟩:=uz hg
 refine⟨UInt8.ofNat (eQ e).length,_,rfl,?_⟩
 rw[AB,zi _ I]
theorem JR {e:cQ} (hg:rz e) {k:Nat} (hk:k<(iF e).length) (rest:List UInt8):tl ((iF e++rest).take k)=none:=by
 obtain⟨n,r,he,hn⟩:=I8 hg
 rw[ig I,he]
 cases k with
 |zero=>rfl
 |succ k=>
  rw[mO]
  cases hs:tl (n::r.take k)with
  |none=>rfl
  |some p=>
   obtain⟨e',j⟩:=p
   have h1:=Ic hs
   have h2:=(LV hs).2
   simp at h2
   omega
def tj:List cQ->Nat->Nat
 |[],_=>0
 |e::es,k=>if(iF e).length<=k then 1+tj es (k- (iF e).length)else 0
theorem ut (e:cQ) (es:List cQ):bi (e::es)=iF e++bi es:=by simp[bi]
theorem Fz: ∀ (es:List cQ) (k:Nat),(∀ e∈es,rz e)->HU ((bi es).take k) (es.take (tj es k)) (bi (es.take (tj es k))).length
 |[],k,_=>by
  have:(bi []).take k=[]:=by simp[bi]
  rw[this]
  exact .stop Z
 |e::es,k,hg=>by
  have hge:=hg e (aC ..)
  rw[ut]
  unfold tj
  by_cases h:(iF e).length<=k
  rw[if_pos h,r4,mO,ut,az]
  have hd:=Fz es (k- (iF e).length) fun x hx=>hg x (al _ hx)
  have e1:(iF e++bi es).take k=iF e++(bi es).take (k- (iF e).length):=by
   rw[List.take_append,gf h]
  rw[e1]
  exact .go (Er hge _) (by rw[List.drop_left];exact hd)
  rw[if_neg h]
  exact .stop (JR hge I _)
theorem Eb: ∀ (es:List cQ) (k:Nat),tj es k<=es.length
 |[],_=>ao _
 |e::es,k=>by
  unfold tj
  split
  have:=Eb es (k- (iF e).length);simp;omega
  exact bK _
theorem uR: ∀ (es:List cQ) (k:Nat),(bi (es.take (tj es k))).length<=k
 |[],k=>by simp[bi]
 |e::es,k=>by
  unfold tj
  split
  rename_i h
  rw[r4,mO,ut,az]
  have:=uR es (k- (iF e).length)
  omega
  simp[bi]
theorem Ec: ∀ (es:List cQ) (k s:Nat),s<=es.length->(bi (es.take s)).length<=k->s<=tj es k
 |_,_,0,_,_=>bK _
 |[],_,s+1,h,_=>by simp at h
 |e::es,k,s+1,h,hk=>by
  rw[mO,ut,az]at hk
  unfold tj
  rw[if_pos I]
  have:=Ec es (k- (iF e).length) s (by simpa using h) I
  omega
theorem GR (es:List cQ) (s:Nat):bi es=bi (es.take s)++bi (es.drop s):=by
 unfold bi;rw[<-mP,gM]
theorem uc (es:List cQ) (s:Nat):(bi es).take (bi (es.take s)).length=bi (es.take s):=by
 rw[GR es s]
 exact List.take_left' Z
theorem KQ (a b:List cQ):bi (a++b)=bi a++bi b:=by simp[bi]
structure mL where
 A:Option Addr
 cap:Nat
 es:List cQ
 s:Nat
abbrev fR (es:List cQ) (s:Nat):Nat:=(bi (es.take s)).length
def mL.c (l:mL):List Value:=[.slice l.A (bi l.es).length l.cap,J (fR l.es l.s:Nat)]
structure GL (es:List cQ) (s:Nat):Prop where
 good: ∀ e∈es,rz e
 len:es.length<=400
 sz:(bi es).length<=40000
 sle:s<=es.length
structure mL.ok (l:mL) (w:World):Prop where
 gl:GL l.es l.s
 cap:(bi l.es).length<=l.cap
 rd:Rd dE 0 w.heap.size l.A (bi l.es) w
theorem wK {es:List cQ} {s:Nat} (h:GL es s):HU (bi (es.take s)) (es.take s) (fR es s):=tS _ fun e he=>h.good e (qm _ _ he)
theorem xZ (l:mL) (w:World) (h:l.ok w):dg ab ym [.agg l.c.toArray] w fun v w2=>v=J 0/\Below w.heap.size w w2:=by
 refine aF DC Z Z ?_
 have hgl:=h.gl
 have hcap:=h.cap
 have hsz:=hgl.sz
 have hln:=hgl.len
 have hsle:=hgl.sle
 have hss:fR l.es l.s<=(bi l.es).length:=fj l.es l.s
 have H:=Hp.startRd h.rd
 obtain⟨lA,lc,es,s⟩:=l
 dsimp only at hgl hcap hsz hln hsle hss H
 have hss2:(bi (es.take s)).length<=(bi es).length:=hss
 show CW _ _ _ _ (args [.agg #[.slice lA (bi es).length lc,J (fR es s:Nat)]]) w
 refine W<|Zr<|fW H Z Z fun w1 b1 H=>G (Wi Z)<|U<|W<|W<|Zr<|G (Zf gA Z)<|G (Zd ec H 0 Z Z Z)<|G (br eP Z)<|G (eA Z Z I)<|U<|ZF Z<|Zk<|W<|Zr<|G (Zf gA Z)<|G (Zd ec H 0 Z Z Z)<|ch ku (rN (bi es) _ _ _ (H.rd0 0 Z) hcap I) Z Z ?_
 have hlo14:=H.size
 rintro _ w2 ⟨ds,nd,A14,c14,rfl,hd,hr14,hc14,hb14⟩;replace H:=H.learnRd hb14 hr14;clear hr14 hb14
 have hde:=(pD hd (tS es hgl.good)).1.symm
 have hdn:=(pD hd (tS es hgl.good)).2.symm
 subst hde;subst hdn;clear hd
 refine G (Yu Z)<|G (Xs Z Z)<|G (Xi Z Z)<|G (Ws Z)<|G (Wi Z)<|U<|W<|W<|Zr<|G (Yi Z)<|G (Zf gA Z)<|G (Zd ec H 0 Z Z Z)<|G (br eP Z)<|G (ce Z Z Z)<|G (Yb Z)<|ZG<|G (Ys Z)<|ZG<|G (br eE Z)<|ZG<|G (eA Z Z I)<|G (N Z Z)<|U<|ZF Z<|Zk<|W<|W<|Zr<|G (Zf ln Z)<|G (Zd ak H 0 Z Z Z)<|G (dd Z Z I)<|G (Yb Z)<|ZG<|G (Zf ln Z)<|ZG<|G (Zd ak H 0 Z Z Z)<|ZG<|G (Yi Z)<|ZG<|G (eA Z Z I) ?_
 refine G (N Z Z)<|U<|ZF Z<|Zk<|W<|W<|Zr<|G (Zf gA Z)<|G (Zd ec H 0 Z Z Z)<|G (Zf ln Z)<|G (Zd ak H 0 Z Z Z)<|sd (k:=fR es s) H 1 Z ed Z Z hcap I Z fun A41 H=> ?_
 rw[uc]at H
 refine ch ku (rN (bi (es.take s)) _ _ _ (H.rd0 0 Z) I I) Z Z ?_
 have hlo42:=H.size
 rintro _ w3 ⟨ds,nd,A42,c42,rfl,hd,hr42,hc42,hb42⟩;replace H:=H.learnRd hb42 hr42;clear hr42 hb42
 have hde:=(pD hd (wK hgl)).1.symm
 have hdn:=(pD hd (wK hgl)).2.symm
 subst hde;subst hdn;clear hd
 refine G (Yu Z)<|G (Xs Z Z)<|G (Xi Z Z)<|G (Ws Z)<|G (Wi Z)<|U<|W<|Zr<|G (Yi Z)<|G (Zf ln Z)<|G (Zd ak H 0 Z Z Z)<|G (ce Z Z Z)<|U<|ZF Z<|Zk<|W<|Zr<|G (Wi Z)<|U<|Zt ?_
 exact cH Z Z ⟨rfl,H.below⟩
theorem Bf (l:mL) (w:World) (h:l.ok w):dg ab uY [.agg l.c.toArray] w fun v w2=> ∃ A' c',v=.tuple #[.slice A' l.es.length c',J (l.s:Nat),J 0]/\Rd gQ w.heap.size w2.heap.size A' l.es w2/\l.es.length<=c'/\Below w.heap.size w w2:=by
 refine aF Ao Z Z ?_
 have hgl:=h.gl
 have hcap:=h.cap
 have hsz:=hgl.sz
 have hln:=hgl.len
 have hsle:=hgl.sle
 have hss:fR l.es l.s<=(bi l.es).length:=fj l.es l.s
 have H:=Hp.startRd h.rd
 obtain⟨lA,lc,es,s⟩:=l
 dsimp only at hgl hcap hsz hln hsle hss H
 have hss2:(bi (es.take s)).length<=(bi es).length:=hss
 show CW _ _ _ _ (args [.agg #[.slice lA (bi es).length lc,J (fR es s:Nat)]]) w
 refine W<|Zr<|fW H Z Z fun w1 b1 H=>G (Ws Z)<|G (Wi Z)<|G (Wi Z)<|U<|W<|W<|Zr<|G (Zw eO H 0 Z Z Z)<|ch mF (xZ ⟨lA,lc,es,s⟩ _ ⟨hgl,hcap,H.rd0 0 Z⟩) Z Z ?_
 rintro _ w2 ⟨rfl,hb⟩;replace H:=H.later hb;clear hb
 refine G (Wi Z)<|U<|W<|Zr<|G (Yi Z)<|G (ce Z Z Z)<|U<|ZF Z<|Zk<|W<|Zr<|G (Zf gA Z)<|G (Zd ec H 0 Z Z Z)<|ch ku (rN (bi es) _ _ _ (H.rd0 0 Z) hcap I) Z Z ?_
 have hlo18:=H.size
 rintro _ w3 ⟨ds,nd,A18,c18,rfl,hd,hr18,hc18,hb18⟩;replace H:=H.learnRd hb18 hr18;clear hr18 hb18
 have hde:=(pD hd (tS es hgl.good)).1.symm
 have hdn:=(pD hd (tS es hgl.good)).2.symm
 subst hde;subst hdn;clear hd
 refine G (Yu Z)<|G (Xs Z Z)<|G (Xi Z Z)<|G (Ws Z)<|G (Wi Z)<|U<|W<|Zr<|G (Zf gA Z)<|G (Zd ec H 0 Z Z Z)<|G (Zf ln Z)<|G (Zd ak H 0 Z Z Z)<|sd (k:=fR es s) H 1 Z ed Z Z hcap I Z fun A26 H=> ?_
 rw[uc]at H
 refine ch ku (rN (bi (es.take s)) _ _ _ (H.rd0 0 Z) I I) Z Z ?_
 have hlo27:=H.size
 rintro _ w4 ⟨ds,nd,A27,c27,rfl,hd,hr27,hc27,hb27⟩;replace H:=H.learnRd hb27 hr27;clear hr27 hb27
 have hde:=(pD hd (wK hgl)).1.symm
 have hdn:=(pD hd (wK hgl)).2.symm
 subst hde;subst hdn;clear hd
 refine G (Yu Z)<|G (Xs Z Z)<|G (Xi Z Z)<|G (Ws Z)<|G (Wi Z)<|U<|W<|Zr<|G (Ys Z)<|G (Ys Z)<|G (br eE Z)<|G (Ws Z)<|G (Wi Z)<|G (Wi Z)<|U<|Zt ?_
 have hls:(es.take s).length=s:=by simp;omega
 have hrd:=Rd.mono (H.fact (i:=2) Z) hlo18 (H.facts _ (ah (i:=2) Z)).2.1
 exact GS (v:=.slice A18 es.length c18) (v2:=J ((es.take s).length:Nat)) (v3:=J 0) Z Z Z Z ⟨A18,c18,by rw[hls],hrd,hc18,H.below⟩
theorem hN (A:Option Addr) (c:Nat) (es:List cQ) (s:Nat) (w:World) (h:(⟨A,c,es,s⟩:mL).ok w):dg ab uY [.agg #[.slice A (bi es).length c,J (fR es s:Nat)]] w fun v w2=> ∃ A' c',v=.tuple #[.slice A' es.length c',J (s:Nat),J 0]/\Rd gQ w.heap.size w2.heap.size A' es w2/\es.length<=c'/\Below w.heap.size w w2:=Bf ⟨A,c,es,s⟩ w h
theorem qD (A:Option Addr) (c:Nat) (es:List cQ) (s:Nat) (w:World) (h:(⟨A,c,es,s⟩:mL).ok w):dg ab ym [.agg #[.slice A (bi es).length c,J (fR es s:Nat)]] w fun v w2=>v=J 0/\Below w.heap.size w w2:=xZ ⟨A,c,es,s⟩ w h
theorem lp (es:List UInt8) (A:Option Addr) (c:Nat) (w:World) (hr:Rd dE 0 w.heap.size A es w) (hb:es.length*1<=140737488355328):
  dg ab kO [.slice A es.length c] w fun v w2=> ∃ A' c',v=.slice A' es.length c'/\es.length<=c'/\Rd dE w.heap.size w2.heap.size A' es w2/\Below w.heap.size w w2:=
 (BK es A c w hr hb).mono fun v w2 ⟨A',c',L',h1,h2,_,h4,h5⟩=>⟨A',c',h1,h2,h4.rd (K:=[]) (M:=[]) (by simpa using h5),h5.below⟩
theorem wM (es:List Int) (A:Option Addr) (c:Nat) (w:World) (hr:Rd bW 0 w.heap.size A es w) (hb:es.length*8<=140737488355328):
  dg ab lP [.slice A es.length c] w fun v w2=> ∃ A' c',v=.slice A' es.length c'/\es.length<=c'/\Rd bW w.heap.size w2.heap.size A' es w2/\Below w.heap.size w w2:=
 (sI es A c w hr hb).mono fun v w2 ⟨A',c',L',h1,h2,_,h4,h5⟩=>⟨A',c',h1,h2,h4.rd (K:=[]) (M:=[]) (by simpa using h5),h5.below⟩
def xU (w w2:World) (A:Option Addr) (c:Nat) (es:List cQ) (s:Nat):Prop:=GL es s/\(bi es).length<=c/\Rd dE w.heap.size w2.heap.size A (bi es) w2
theorem xU.ok {w w2:World} {A:Option Addr} {c:Nat} {es:List cQ} {s:Nat} (h:xU w w2 A c es s):(⟨A,c,es,s⟩:mL).ok w2:=⟨h.1,h.2.1,h.2.2.mono (bK _) (ao _)⟩
theorem kK (es:List cQ) (x:cQ):bi (es++[x])=bi es++iF x:=by rw[KQ,KP]
theorem wm {es:List cQ} {s:Nat} (x:cQ) (h:s<=es.length):fR (es++[x]) s=fR es s:=by unfold fR;rw[ig h]
def Bt (es:List cQ) (x:cQ):Prop:=es.length=400∨40000<(bi es).length+(iF x).length
theorem GL.snoc {es:List cQ} {s:Nat} {x:cQ} (h:GL es s) (hx:rz x) (hf: ¬ Bt es x):GL (es++[x]) s:=by
 unfold Bt at hf
 refine⟨fun e he=> ?_,by simp;have:=h.len;omega,by rw[kK,az];omega,by simp;have:=h.sle;omega⟩
 rcases ax.1 he with he|he
 exact h.good e he
 rw[au.1 he];exact hx
theorem GL.all {es:List cQ} {s:Nat} (h:GL es s):GL es es.length:=⟨h.good,h.len,h.sz,ao _⟩
theorem GL.take {es:List cQ} {s:Nat} (h:GL es s) (n:Nat) {t:Nat} (ht:t<=(es.take n).length):GL (es.take n) t:=⟨fun e he=>h.good e (qm _ _ he),by simp;have:=h.len;omega,by have:=fj es n;have:=h.sz;omega,ht⟩
theorem C7 (l:mL) (x:cQ) (w:World) (h:l.ok w) (hx:rz x) (hf: ¬ Bt l.es x):dg ab wu [.agg l.c.toArray,x.v] w fun v w2=> ∃ A' c',v=.tuple #[.agg (mL.c ⟨A',c',l.es++[x],l.s⟩).toArray,J 0]/\xU w w2 A' c' (l.es++[x]) l.s/\Below w.heap.size w w2:=by
 refine aF Bx Z Z ?_
 have hgl:=h.gl
 have hcap:=h.cap
 have hsz:=hgl.sz
 have hln:=hgl.len
 have hsle:=hgl.sle
 have hss:fR l.es l.s<=(bi l.es).length:=fj l.es l.s
 have H:=Hp.startRd h.rd
 obtain⟨lA,lc,es,s⟩:=l
 dsimp only at hgl hcap hsz hln hsle hss H
 have hss2:(bi (es.take s)).length<=(bi es).length:=hss
 show CW _ _ _ _ (args [.agg #[.slice lA (bi es).length lc,J (fR es s:Nat)],x.v]) w
 unfold Bt at hf
 dsimp only at hf
 have hel:=HF hx
 refine W<|Zr<|fW H Z Z fun w1 b2 H=>fW H Z Z fun w2 b3 H=>eI H pK Z fun w3 b4 H=>G (Wi Z)<|U<|W<|Zr<|G (Zw eO H 2 Z Z Z)<|ch gC (hN lA lc es s _ ⟨hgl,hcap,H.rd0 0 Z⟩) Z Z ?_
 rintro _ w4 ⟨A12,c12,rfl,hr12,hc12,hb12⟩;replace H:=H.learnRd hb12 hr12;clear hr12 hb12
 refine G (Yu Z)<|G (Xs Z Z)<|G (Xi Z Z)<|G (Xi Z Z)<|G (Ws Z)<|G (Wi Z)<|G (Wi Z)<|U<|W<|W<|Zr<|G (Yi Z)<|G (ce Z Z Z)<|U<|ZF Z<|Zk<|W<|Zr<|G (Zw dI H 1 Z Z Z)<|ch tT (Cy x _ hx) Z Z ?_
 rintro _ w6 ⟨A5,c5,rfl,hr5,hc5,hb5⟩;replace H:=H.learnRd hb5 hr5;clear hr5 hb5
 refine G (Yu Z)<|G (Xs Z Z)<|G (Xi Z Z)<|G (Ws Z)<|G (Wi Z)<|U<|W<|W<|Zr<|G (Yi Z)<|G (ce Z Z Z)<|U<|ZF Z<|Zk<|W<|W<|Zr<|G (Ys Z)<|G (br eE Z)<|G (nA Z Z I)<|G (Yb Z)<|ZG<|G (Zf gA Z)<|ZG<|G (Zd ec H 2 Z Z Z)<|ZG<|G (br eP Z)<|ZG<|G (Ys Z)<|ZG<|G (br eP Z)<|ZG<|G (bz Z Z I I)<|ZG<|G (eA Z Z I)<|G (N Z Z)<|U<|ZF Z<|Zk<|W ?_
 refine kL ci [0,2,5] [1,3,4,6,7,8,9] [0,2,5] 7 N N N Nq ?_
 refine aw Z Z Z Z Z (fun w' hw'=>Zf gA Z)<|aw Z Z Z Z Z (fun w' hw'=>Ys Z)<|aw Z Z Z Z Z (fun w' hw'=>Zf ln Z)<|aQ ?_
 intro w7 hw';replace H:=H.later hw';clear hw'
 refine kF 1 6 N Z Z ?_ ?_
 refine G (Zd ec H 2 Z Z Z)<|U ?_
 refine kF 3 6 N Z Z ?_ ?_
 refine sW (vs:=[.slice lA (bi es).length lc,.slice A5 (iF x).length c5]) H rF CS Z Z Z Z Z Z fun w8 b45 H=> ?_
 have hcat:xd [(lA,bi es,lc),(A5,iF x,c5)]=bi (es++[x]):=by rw[kK];simp[xd]
 refine U ?_
 refine kF 4 6 N Z Z ?_ ?_
 have hC:=uy [(lA,bi es,lc),(A5,iF x,c5)] (Qd b45) 2 _ (Rd.blk (H.ent (i:=0) Z) Z) (by intro p hp;simp at hp;rcases hp with rfl|rfl;exact H.rd0 2 Z;exact H.rd0 0 Z) (by rw[hcat,kK,az];omega) (by simp)
 rw[hcat]at hC
 have hloX:=H.size
 refine ch fC hC Z Z ?_;rintro _ w9 ⟨AX,cX,LX,rfl,hcX,-,hoX,hjX⟩;replace H:=H.learnOwn hjX hoX
 refine U<|bu 6 N Z<|G (Zd ak H 3 Z Z Z)<|U<|bu 7 N Z<|G (bn (cs:= #[.slice AX (bi (es++[x])).length cX,J (fR es s:Nat)]) tm pK N)<|U<|bu 8 N Z<|bg H 1 (#[.slice AX (bi (es++[x])).length cX,J (fR es s:Nat)]) gI Z Z Z Z Z N N fun w10 H=>U<|bu 9 N Z<|G (Wi Z)<|U<|aZ N<|Zt ?_
 exact bG (cs0:= #[.slice AX (bi (es++[x])).length cX,J (fR es s:Nat)]) (v1:=J 0) Z eO Z (H.ent (i:=1) Z) Z Z ⟨AX,cX,by unfold mL.c;rw[wm _ hsle],⟨hgl.snoc hx (by unfold Bt;omega),hcX,Rd.mono (H.fact (i:=0) Z) hloX (H.facts _ (ah (i:=0) Z)).2.1⟩,H.below⟩
 refine G (Zd ak H 3 Z Z Z)<|U<|bu 4 N Z ?_
 have hC:=uy [(lA,bi es,lc),(A5,iF x,c5)] (Qd b45) 2 _ (Rd.blk (H.ent (i:=0) Z) Z) (by intro p hp;simp at hp;rcases hp with rfl|rfl;exact H.rd0 2 Z;exact H.rd0 0 Z) (by rw[hcat,kK,az];omega) (by simp)
 rw[hcat]at hC
 have hloX:=H.size
 refine ch fC hC Z Z ?_;rintro _ w11 ⟨AX,cX,LX,rfl,hcX,-,hoX,hjX⟩;replace H:=H.learnOwn hjX hoX
 refine U<|bu 7 N Z<|G (bn (cs:= #[.slice AX (bi (es++[x])).length cX,J (fR es s:Nat)]) tm pK N)<|U<|bu 8 N Z<|bg H 1 (#[.slice AX (bi (es++[x])).length cX,J (fR es s:Nat)]) gI Z Z Z Z Z N N fun w12 H=>U<|bu 9 N Z<|G (Wi Z)<|U<|aZ N<|Zt ?_
 exact bG (cs0:= #[.slice AX (bi (es++[x])).length cX,J (fR es s:Nat)]) (v1:=J 0) Z eO Z (H.ent (i:=1) Z) Z Z ⟨AX,cX,by unfold mL.c;rw[wm _ hsle],⟨hgl.snoc hx (by unfold Bt;omega),hcX,Rd.mono (H.fact (i:=0) Z) hloX (H.facts _ (ah (i:=0) Z)).2.1⟩,H.below⟩
 refine G (Zd ak H 2 Z Z Z)<|U<|bu 3 N Z<|sW (vs:=[.slice lA (bi es).length lc,.slice A5 (iF x).length c5]) H rF CS Z Z Z Z Z Z fun w13 b45 H=> ?_
 have hcat:xd [(lA,bi es,lc),(A5,iF x,c5)]=bi (es++[x]):=by rw[kK];simp[xd]
 refine U<|bu 4 N Z ?_
 have hC:=uy [(lA,bi es,lc),(A5,iF x,c5)] (Qd b45) 2 _ (Rd.blk (H.ent (i:=0) Z) Z) (by intro p hp;simp at hp;rcases hp with rfl|rfl;exact H.rd0 2 Z;exact H.rd0 0 Z) (by rw[hcat,kK,az];omega) (by simp)
 rw[hcat]at hC
 have hloX:=H.size
 refine ch fC hC Z Z ?_;rintro _ w14 ⟨AX,cX,LX,rfl,hcX,-,hoX,hjX⟩;replace H:=H.learnOwn hjX hoX
 refine U<|bu 7 N Z<|G (bn (cs:= #[.slice AX (bi (es++[x])).length cX,J (fR es s:Nat)]) tm pK N)<|U<|bu 8 N Z<|bg H 1 (#[.slice AX (bi (es++[x])).length cX,J (fR es s:Nat)]) gI Z Z Z Z Z N N fun w15 H=>U<|bu 9 N Z<|G (Wi Z)<|U<|aZ N<|Zt ?_
 exact bG (cs0:= #[.slice AX (bi (es++[x])).length cX,J (fR es s:Nat)]) (v1:=J 0) Z eO Z (H.ent (i:=1) Z) Z Z ⟨AX,cX,by unfold mL.c;rw[wm _ hsle],⟨hgl.snoc hx (by unfold Bt;omega),hcX,Rd.mono (H.fact (i:=0) Z) hloX (H.facts _ (ah (i:=0) Z)).2.1⟩,H.below⟩
 refine G (Zd ak H 2 Z Z Z)<|U<|bu 1 N Z<|G (Zd ec H 2 Z Z Z)<|U<|bu 3 N Z<|sW (vs:=[.slice lA (bi es).length lc,.slice A5 (iF x).length c5]) H rF CS Z Z Z Z Z Z fun w16 b45 H=> ?_
 have hcat:xd [(lA,bi es,lc),(A5,iF x,c5)]=bi (es++[x]):=by rw[kK];simp[xd]
 refine U<|bu 4 N Z ?_
 have hC:=uy [(lA,bi es,lc),(A5,iF x,c5)] (Qd b45) 2 _ (Rd.blk (H.ent (i:=0) Z) Z) (by intro p hp;simp at hp;rcases hp with rfl|rfl;exact H.rd0 2 Z;exact H.rd0 0 Z) (by rw[hcat,kK,az];omega) (by simp)
 rw[hcat]at hC
 have hloX:=H.size
 refine ch fC hC Z Z ?_;rintro _ w17 ⟨AX,cX,LX,rfl,hcX,-,hoX,hjX⟩;replace H:=H.learnOwn hjX hoX
 refine U<|bu 7 N Z<|G (bn (cs:= #[.slice AX (bi (es++[x])).length cX,J (fR es s:Nat)]) tm pK N)<|U<|bu 8 N Z<|bg H 1 (#[.slice AX (bi (es++[x])).length cX,J (fR es s:Nat)]) gI Z Z Z Z Z N N fun w18 H=>U<|bu 9 N Z<|G (Wi Z)<|U<|aZ N<|Zt ?_
 exact bG (cs0:= #[.slice AX (bi (es++[x])).length cX,J (fR es s:Nat)]) (v1:=J 0) Z eO Z (H.ent (i:=1) Z) Z Z ⟨AX,cX,by unfold mL.c;rw[wm _ hsle],⟨hgl.snoc hx (by unfold Bt;omega),hcX,Rd.mono (H.fact (i:=0) Z) hloX (H.facts _ (ah (i:=0) Z)).2.1⟩,H.below⟩
theorem ME (es:List cQ):fR es es.length=(bi es).length:=by unfold fR;rw[bZ]
theorem EX {es:List cQ} {a b:Nat} (h:a<=b):fR es a<=fR es b:=by
 have:=fj (es.take b) a
 unfold fR
 rwa[dt,bA h]at this
theorem MD (es:List cQ) (s n:Nat):min ((fR es s:Nat):Int) ((fR es n:Nat):Int)=(fR (es.take n) (min s n):Nat):=by
 have e:fR (es.take n) (min s n)=fR es (min s n):=by
  unfold fR;rw[dt,bA (Nat.min_le_right _ _)]
 rw[e]
 by_cases h:s<=n
 have:=EX (es:=es) h
 rw[bA h];omega
 have:=EX (es:=es) (show n<=s by omega)
 rw[Nat.min_eq_right I];omega
theorem Rd.cut0 {α:Type} {Y:fo α} {lo hi cap sz:Nat} {A:Option Addr} {es:List α} {w:World} (h:Rd Y lo hi A es w) (k:Nat):Rd Y lo hi (cut A cap 0 sz) (es.take k) w:=by
 have e:cut A cap 0 sz=A:=by
  unfold cut
  split
  rfl
  cases A<;>simp[Addr.add]
 rw[e]
 exact h.take k
def jT (es:List cQ) (s keep:Nat):Nat:=tj es (fR es s+min keep ((bi es).length-fR es s))
theorem Jf {es:List cQ} {s keep:Nat} (h:s<=es.length):s<=jT es s keep:=Ec es _ s h (by unfold fR;omega)
theorem CC (es:List cQ) (s keep:Nat):jT es s keep<=es.length:=Eb _ _
theorem F7 (l:mL) (w:World) (h:l.ok w):dg ab z7 [.agg l.c.toArray] w fun v w2=> ∃ A' c',v=.tuple #[.agg (mL.c ⟨A',c',l.es,l.es.length⟩).toArray,J 0]/\xU w w2 A' c' l.es l.es.length/\Below w.heap.size w w2:=by
 refine aF Fk Z Z ?_
 have hgl:=h.gl
 have hcap:=h.cap
 have hsz:=hgl.sz
 have hln:=hgl.len
 have hsle:=hgl.sle
 have hss:fR l.es l.s<=(bi l.es).length:=fj l.es l.s
 have H:=Hp.startRd h.rd
 obtain⟨lA,lc,es,s⟩:=l
 dsimp only at hgl hcap hsz hln hsle hss H
 have hss2:(bi (es.take s)).length<=(bi es).length:=hss
 show CW _ _ _ _ (args [.agg #[.slice lA (bi es).length lc,J (fR es s:Nat)]]) w
 refine W<|Zr<|fW H Z Z fun w1 b1 H=>eI H pK Z fun w2 b2 H=>G (Wi Z)<|U<|W<|W<|Zr<|G (Zw eO H 1 Z Z Z)<|ch mF (qD lA lc es s _ ⟨hgl,hcap,H.rd0 0 Z⟩) Z Z ?_
 rintro _ w3 ⟨rfl,hb⟩;replace H:=H.later hb;clear hb
 refine G (Wi Z)<|U<|W<|Zr<|G (Yi Z)<|G (ce Z Z Z)<|U<|ZF Z<|Zk<|W ?_
 have hlo:=H.size
 refine bD ci [0,1,3,4,5,2,6] [7,8] [2] [0,3,5,6] (sp [(2,Sp.row w3.heap.size dE (bi es))]) N N N N Nq (cJ _) ?_
 refine aw Z Z Z Z Z (fun w' hw'=>Zf gA Z)<|aw Z Z Z Z Z (fun w' hw'=>aX ec Z (aD ((H.later hw').ent (i:=1) Z) Z))<|aw Z Z Z Z Z (fun w' hw'=>Zf gA Z)<|aw Z Z Z Z Z (fun w' hw'=>aX ec Z (aD ((H.later hw').ent (i:=1) Z) Z))<|aw Z Z Z Z Z (fun w' hw'=>br eP Z)<|CF ff Z Z Z Z Z (fun w' hw'=>hw'.size) (fun w' hw'=>lp (bi es) _ _ w' ((H.later hw').rd0 0 Z) I) Z fun A13 c13 hc13=>aw Z Z Z Z Z (fun w' hw'=>bn (cs:= #[.slice A13 (bi es).length c13,J ((bi es).length:Nat)]) tm pK N)<|aQ ?_
 intro w4 hw' hF
 obtain⟨hF,Aq,cq,eq,hcq,hrw13⟩:=hF;cases eq;clear hcq
 replace H:=H.learnRd hw' hrw13
 clear hw' hF
 refine bg H 0 (#[.slice A13 (bi es).length c13,J ((bi es).length:Nat)]) gI Z Z Z Z Z N N fun w5 H=>G (Wi Z)<|U<|Zt ?_
 exact bG (cs0:= #[.slice A13 (bi es).length c13,J ((bi es).length:Nat)]) (v1:=J 0) Z eO Z (H.ent (i:=0) Z) Z Z ⟨A13,c13,by unfold mL.c;rw[ME],⟨hgl.all,hc13,Rd.mono (H.fact (i:=0) Z) hlo (H.facts _ (ah (i:=0) Z)).2.1⟩,H.below⟩
theorem Io (l:mL) (n:Nat) (w:World) (h:l.ok w) (hn:n<=l.es.length):dg ab Cr [.agg l.c.toArray,J (n:Nat)] w fun v w2=> ∃ A' c',v=.tuple #[.agg (mL.c ⟨A',c',l.es.take n,min l.s n⟩).toArray,J 0]/\xU w w2 A' c' (l.es.take n) (min l.s n)/\Below w.heap.size w w2:=by
 refine aF GP Z Z ?_
 have hgl:=h.gl
 have hcap:=h.cap
 have hsz:=hgl.sz
 have hln:=hgl.len
 have hsle:=hgl.sle
 have hss:fR l.es l.s<=(bi l.es).length:=fj l.es l.s
 have H:=Hp.startRd h.rd
 obtain⟨lA,lc,es,s⟩:=l
 dsimp only at hgl hcap hsz hln hsle hss H
 have hss2:(bi (es.take s)).length<=(bi es).length:=hss
 show CW _ _ _ _ (args [.agg #[.slice lA (bi es).length lc,J (fR es s:Nat)],J (n:Nat)]) w
 dsimp only at hn
 refine W<|Zr<|fW H Z Z fun w1 b2 H=>eI H pK Z fun w2 b4 H=>G (Wi Z)<|U<|W<|Zr<|G (Zw eO H 1 Z Z Z)<|ch gC (hN lA lc es s _ ⟨hgl,hcap,H.rd0 0 Z⟩) Z Z ?_
 rintro _ w3 ⟨A16,c16,rfl,hr16,hc16,hb16⟩;replace H:=H.learnRd hb16 hr16;clear hr16 hb16
 refine G (Yu Z)<|G (Xs Z Z)<|G (Xi Z Z)<|G (Xi Z Z)<|G (Ws Z)<|G (Wi Z)<|G (Wi Z)<|U<|W<|W<|Zr<|G (Yi Z)<|G (ce Z Z Z)<|U<|ZF Z<|Zk<|W<|W<|Zr<|G (Yi Z)<|G (dd Z Z I)<|G (Yb Z)<|ZG<|G (Yi Z)<|ZG<|G (Ys Z)<|ZG<|G (br eE Z)<|ZG<|G (eA Z Z I)<|G (N Z Z)<|U<|ZF Z<|Zk<|W<|W<|Zr<|G (Yi Z)<|G (Ys Z)<|G (br eE Z) ?_
 refine cW (bp Z Z) Z Z Z (fun h36=> ?_) (fun h36=> ?_)
 refine U<|ZT Z<|W ?_
 have hlo:=H.size
 refine bD ci [0,1,3,4,2,5] [6,7] [2] [0,3,5] (sp [(2,Sp.row w3.heap.size dE (bi es))]) N N N N Nq (cJ _) ?_
 refine aw Z Z Z Z Z (fun w' hw'=>Zf gA Z)<|aw Z Z Z Z Z (fun w' hw'=>aX ec Z (aD ((H.later hw').ent (i:=1) Z) Z))<|aw Z Z Z Z Z (fun w' hw'=>Zf ln Z)<|aw Z Z Z Z Z (fun w' hw'=>aX ak Z (aD ((H.later hw').ent (i:=1) Z) Z))<|CF ff Z Z Z Z Z (fun w' hw'=>hw'.size) (fun w' hw'=>lp (bi es) _ _ w' ((H.later hw').rd0 1 Z) I) Z fun A39 c39 hc39=>aw Z Z Z Z Z (fun w' hw'=>bn (cs:= #[.slice A39 (bi es).length c39,J (fR es s:Nat)]) tm pK N)<|aQ ?_
 intro w4 hw' hF
 obtain⟨hF,Aq,cq,eq,hcq,hrw39⟩:=hF;cases eq;clear hcq
 replace H:=H.learnRd hw' hrw39
 clear hw' hF
 refine bg H 0 (#[.slice A39 (bi es).length c39,J (fR es s:Nat)]) gI Z Z Z Z Z N N fun w5 H=>G (Wi Z)<|U<|Zt ?_
 have hnl:n=es.length:=by omega
 subst hnl
 exact bG (cs0:= #[.slice A39 (bi es).length c39,J (fR es s:Nat)]) (v1:=J 0) Z eO Z (H.ent (i:=0) Z) Z Z ⟨A39,c39,by unfold mL.c;rw[bA hsle,bZ],⟨by rw[bA hsle,bZ];exact hgl,by rw[bZ];exact hc39,by rw[bZ];exact Rd.mono (H.fact (i:=0) Z) hlo (H.facts _ (ah (i:=0) Z)).2.1⟩,H.below⟩
 refine U<|ZF Z<|Zk<|W<|Zr<|G (Wi Z)<|U<|W<|W<|Zr<|G (Ys Z)<|G (Yi Z)<|sd (k:=n) H 0 Z dX Z Z hc16 I Z fun A45 H=>G (br eE Z)<|G (Yi Z)<|U<|Zb ?_
 refine cy (τ:=Nat) [9,11,12,13,47,48,49,50,51,52,53,54,55,56,57,58,59,60] (fun k=>[(9,J (fR es k:Nat)),(47,J (k:Nat))]) (fun k w'=>k<=n/\Hp w w' [(b4,.cells #[.slice none 0 0,J 0] CJ (0,0)),(b2,.cells #[.slice lA (bi es).length lc,J (fR es s:Nat)] CJ (0,0))] [dT gQ w2.heap.size w3.heap.size A45 (es.take n),dT gQ w2.heap.size w3.heap.size A16 es,dT dE 0 w.heap.size lA (bi es)]) (fun k=>n-k) 0 ⟨by omega,H⟩ (la Z Z) ?_
 rintro k ρ1 w6 ⟨hk,H⟩
 show CW _ _ _ _ (dH (gJ _ _ ρ1) [(9,J (fR es k:Nat)),(47,J (k:Nat))]) w6
 have hsk0:fR es k<=(bi es).length:=fj es k
 refine W<|Zr ?_
 refine cW (cK Z Z) Z Z Z (fun h48=> ?_) (fun h48=> ?_)
 refine U<|W<|ZT Z<|Zk<|W<|Zb<|W<|Zr ?_
 have htl:(es.take n).length=n:=by simp;omega
 refine ql H 0 Z dX Z Z I I Z fun b7 o7 x7 e7=> ?_
 have hxk:es[k]? =some x7:=by have:=e7.at_;rwa[fE I]at this
 have hg:=hgl.good _ (ah hxk)
 have hsk:=fj es (k+1)
 rw[tP hxk,az]at hsk
 have hsk2:fR es k+(iF x7).length<=(bi es).length:=hsk
 refine G (jF (xs:=cQ.c x7) dI Z Z e7.cl)<|eI H gh Z fun w8 b11 H=>JU H 0 eV Z Z Z Z Z Z fun w9 H=>U<|W<|Zr<|G (Zw dI H 0 Z Z Z)<|ch tT (Cy x7 _ hg) Z Z ?_
 rintro _ w11 ⟨A10,c10,rfl,hr10,hc10,hb10⟩;replace H:=H.learnRd hb10 hr10;clear hr10 hb10
 refine G (Yu Z)<|G (Xs Z Z)<|G (Xi Z Z)<|G (Ws Z)<|G (Wi Z)<|U<|Zr<|G (Yi Z)<|G (Ys Z)<|G (br eP Z)<|G (bz Z Z I I)<|G (Wi Z)<|U<|Zr<|G (bz Z Z I I)<|G (Yi Z)<|U ?_
 refine⟨k+1,⟨by omega,H.forget (aW _ _) (fun _ h=>al _ h)⟩,la (by show _=Value.int .i64 ((fR es (k+1):Nat):Int);unfold fR;rw[tP hxk,az];rfl) Z,Qg,by show n- (k+1)<n-k;omega⟩
 have hkn:n=k:=by omega
 subst hkn
 refine U<|W<|ZF Z<|Zx<|W ?_
 have hlo:=H.size
 refine bD ci [0,1,2,3,5,6,7,8,4,9] [10,11] [4] [0,2,3,5,7,8,9] (sp [(4,Sp.row w6.heap.size dE (bi (es.take n)))]) N N N N Nq (cJ _) ?_
 refine aw Z Z Z Z Z (fun w' hw'=>Zf gA Z)<|aw Z Z Z Z Z (fun w' hw'=>aX ec Z (aD ((H.later hw').ent (i:=1) Z) Z))<|aw Z Z Z Z Z (fun w' hw'=>Yi Z)<|aw Z Z Z Z Z (fun w' hw'=>C4 (i:=((fR es n:Nat):Int)) ed Z Z I (by have:=fj es n;show((fR es n:Nat):Int)<=_;unfold fR;omega))<|aw Z Z Z Z Z (fun w' hw'=>Zf ln Z)<|aw Z Z Z Z Z (fun w' hw'=>aX ak Z (aD ((H.later hw').ent (i:=1) Z) Z))<|aw Z Z Z Z Z (fun w' hw'=>Yi Z)<|aw Z Z Z Z Z (fun w' hw'=>tu Z Z)<|CF ff Z Z Z Z Z (fun w' hw'=>hw'.size) (fun w' hw'=>lp (bi (es.take n)) _ _ w' (by have:=Rd.cut0 (cap:=lc) (sz:=1) ((H.later hw').rd0 2 Z) (fR es n);rwa[uc]at this) (by have:=fj es n;omega)) Z fun A65 c65 hc65=>aw Z Z Z Z Z (fun w' hw'=>bn (cs:= #[.slice A65 (bi (es.take n)).length c65,J (min ((fR es s:Nat):Int) ((fR es n:Nat):Int))]) tm pK N)<|aQ ?_
 intro w12 hw' hF
 obtain⟨hF,Aq,cq,eq,hcq,hrw65⟩:=hF;cases eq;clear hcq
 replace H:=H.learnRd hw' hrw65
 clear hw' hF
 refine bg H 0 (#[.slice A65 (bi (es.take n)).length c65,J (min ((fR es s:Nat):Int) ((fR es n:Nat):Int))]) gI Z Z Z Z Z N N fun w13 H=>G (Wi Z)<|U<|Zt ?_
 exact bG (cs0:= #[.slice A65 (bi (es.take n)).length c65,J (min ((fR es s:Nat):Int) ((fR es n:Nat):Int))]) (v1:=J 0) Z eO Z (H.ent (i:=0) Z) Z Z ⟨A65,c65,by unfold mL.c;rw[MD],⟨hgl.take n (by simp;omega),hc65,Rd.mono (H.fact (i:=0) Z) hlo (H.facts _ (ah (i:=0) Z)).2.1⟩,H.below⟩
theorem Ey (l:mL) (keep:Nat) (w:World) (h:l.ok w) (hkb:keep<=1000000000000):dg ab E5 [.agg l.c.toArray,J (keep:Nat)] w fun v w2=> ∃ A' c',v=.tuple #[.agg (mL.c ⟨A',c',l.es.take (jT l.es l.s keep),jT l.es l.s keep⟩).toArray,J 0]/\xU w w2 A' c' (l.es.take (jT l.es l.s keep)) (jT l.es l.s keep)/\Below w.heap.size w w2:=by
 refine aF DB Z Z ?_
 have hgl:=h.gl
 have hcap:=h.cap
 have hsz:=hgl.sz
 have hln:=hgl.len
 have hsle:=hgl.sle
 have hss:fR l.es l.s<=(bi l.es).length:=fj l.es l.s
 have H:=Hp.startRd h.rd
 obtain⟨lA,lc,es,s⟩:=l
 dsimp only at hgl hcap hsz hln hsle hss H
 have hss2:(bi (es.take s)).length<=(bi es).length:=hss
 show CW _ _ _ _ (args [.agg #[.slice lA (bi es).length lc,J (fR es s:Nat)],J (keep:Nat)]) w
 dsimp only
 have hmle:=CC es s keep
 have hfl:=uR es (fR es s+min keep ((bi es).length-fR es s))
 have hdt:=Fz es (fR es s+min keep ((bi es).length-fR es s)) hgl.good
 change HU _ (es.take (jT es s keep)) (bi (es.take (jT es s keep))).length at hdt
 change (bi (es.take (jT es s keep))).length<=_ at hfl
 generalize jT es s keep=m at*
 have hfm:=fj es m
 have hlk:((bi es).take (fR es s+min keep ((bi es).length-fR es s))).length=(fR es s+min keep ((bi es).length-fR es s)):=by rw[aI];omega
 refine W<|Zr<|fW H Z Z fun w1 b2 H=>eI H pK Z fun w2 b4 H=>G (Wi Z)<|U<|W<|W<|Zr<|G (Zw eO H 1 Z Z Z)<|ch mF (qD lA lc es s _ ⟨hgl,hcap,H.rd0 0 Z⟩) Z Z ?_
 rintro _ w3 ⟨rfl,hb⟩;replace H:=H.later hb;clear hb
 refine G (Wi Z)<|U<|W<|Zr<|G (Yi Z)<|G (ce Z Z Z)<|U<|ZF Z<|Zk<|W<|W<|Zr<|G (Yi Z)<|G (dd Z Z I)<|U<|ZF Z<|Zk<|W<|Zr<|G (Zf gA Z)<|G (Zd ec H 1 Z Z Z)<|G (br eP Z)<|G (Zf ln Z)<|G (Zd ak H 1 Z Z Z)<|G (mW Z Z I I)<|G (Wi Z)<|U<|W<|Zr<|G (Zf gA Z)<|G (Zd ec H 1 Z Z Z)<|G (Zf ln Z)<|G (Zd ak H 1 Z Z Z)<|G (Yi Z)<|G (Yi Z)<|G (tu Z Z)<|G (bz Z Z I I)<|sd (k:=(fR es s+min keep ((bi es).length-fR es s))) H 0 Z ed Z (show Value.int .i64 (((fR es s:Nat):Int)+min ((keep:Nat):Int) ((((bi es).length:Nat):Int)- ((fR es s:Nat):Int)))=J ((fR es s+min keep ((bi es).length-fR es s)):Nat) by congr 1;omega) hcap I Z fun A34 H=> ?_
 have hD:=rN ((bi es).take (fR es s+min keep ((bi es).length-fR es s))) A34 lc _ (H.rd0 0 Z) I I
 rw[hlk]at hD
 refine ch ku hD Z Z ?_;rintro _ w4 ⟨fs,n,A35,c35,rfl,hd35,hr35,hc35,hb35⟩;replace H:=H.learnRd hb35 hr35;clear hr35 hb35
 obtain⟨rfl,rfl⟩:=pD hdt hd35
 refine G (Yu Z)<|G (Xs Z Z)<|G (Xi Z Z)<|G (Ws Z)<|G (Wi Z)<|U<|W<|Zr<|G (Zf gA Z)<|G (Zd ec H 1 Z Z Z)<|G (Yi Z)<|sd (k:=(bi (es.take m)).length) H 2 Z ed Z Z hcap I Z fun A41 H=> ?_
 rw[uc]at H
 have hlo:=H.size
 refine ch ff (lp (bi (es.take m)) A41 lc _ (H.rd0 0 Z) I) Z Z ?_;rintro _ w5 ⟨A42,c42,rfl,hc42,hr42,hb42⟩;replace H:=H.learnRd hb42 hr42;clear hr42 hb42
 refine G (Yi Z)<|G (bn (cs:= #[.slice A42 (bi (es.take m)).length c42,J ((bi (es.take m)).length:Nat)]) tm pK N)<|bg H 0 (#[.slice A42 (bi (es.take m)).length c42,J ((bi (es.take m)).length:Nat)]) gI Z Z Z Z Z N N fun w6 H=>G (Wi Z)<|U<|Zt ?_
 exact bG (cs0:= #[.slice A42 (bi (es.take m)).length c42,J ((bi (es.take m)).length:Nat)]) (v1:=J 0) Z eO Z (H.ent (i:=0) Z) Z Z ⟨A42,c42,by unfold mL.c;rw[show fR (es.take m) m=(bi (es.take m)).length from by unfold fR;rw[gf (by rw[aI];omega)]],⟨hgl.take m (by simp;omega),hc42,Rd.mono (H.fact (i:=0) Z) hlo (H.facts _ (ah (i:=0) Z)).2.1⟩,H.below⟩
/-- a replica, and where its log's bytes lie -/
structure fg where
 up:Bool
 A:Option Addr
 cap:Nat
 es:List cQ
 s:Nat
 high:Int
 lo:Nat
 hi:Nat
def fg.c (r:fg):List Value:=[.bool r.up,.slice r.A (bi r.es).length r.cap,J (fR r.es r.s:Nat),J r.high]
def gW:fo fg:=⟨fg.c,4,fun _=>rfl,by decide,fun a u hu=>by
 simp only[fg.c,ay,cd,or_false]at hu
 rcases hu with h|h|h|h<;>subst h<;>rfl⟩
def eW:fo Bool:=⟨fun n=>[.bool n],1,fun _=>rfl,by decide,fun a u hu=>by
 simp only[au]at hu;subst hu;rfl⟩
abbrev fg.log (r:fg):mL:=⟨r.A,r.cap,r.es,r.s⟩
abbrev Bg (r:fg):cz:=dT dE r.lo r.hi r.A (bi r.es)
abbrev sP (rs:List fg):List cz:=rs.map Bg
structure RA where
 up:Bool
 es:List cQ
 s:Nat
 high:Int
def fg.a (r:fg):RA:=⟨r.up,r.es,r.s,r.high⟩
structure gE where
 epoch:Int
 leader:Int
 isr:List Bool
 known:List Int
 reps:List RA
 few:Int
 base:Int
structure Pa where
 epoch:Int
 leader:Int
 isr:List Bool
 iA:Option Addr
 iC:Nat
 known:List Int
 kA:Option Addr
 kC:Nat
 reps:List fg
 rA:Option Addr
 rC:Nat
 few:Int
 base:Int
def Pa.c (p:Pa):List Value:=[J p.epoch,J p.leader,.slice p.iA p.isr.length p.iC,.slice p.kA p.known.length p.kC,.slice p.rA p.reps.length p.rC,J p.few,J p.base]
abbrev Pa.v (p:Pa):Value:=.agg p.c.toArray
def Pa.a (p:Pa):gE:=⟨p.epoch,p.leader,p.isr,p.known,p.reps.map fg.a,p.few,p.base⟩
structure Pa.rd (p:Pa) (lo hi:Nat) (w:World):Prop where
 isr:Rd eW lo hi p.iA p.isr w
 known:Rd bW lo hi p.kA p.known w
 reps:Rd gW lo hi p.rA p.reps w
 logs: ∀ r∈p.reps,Rd dE lo hi r.A (bi r.es) w
 iC:p.isr.length<=p.iC
 kC:p.known.length<=p.kC
 rC:p.reps.length<=p.rC
 cap: ∀ r∈p.reps,(bi r.es).length<=r.cap
 few:p.isr.length<=1000000/\p.known.length<=1000000/\p.reps.length<=1000000
theorem Pa.rd.st {p:Pa} {lo hi:Nat} {w w':World} (hk: ∀ k,lo<=k->k<hi->w'.heap[k]? =w.heap[k]?) (h:p.rd lo hi w):p.rd lo hi w':=
 ⟨h.isr.st hk,h.known.st hk,h.reps.st hk,fun r hr=>(h.logs r hr).st hk,h.iC,h.kC,h.rC,h.cap,h.few⟩
theorem Pa.rd.mono {p:Pa} {lo hi lo' hi':Nat} {w:World} (h:p.rd lo hi w) (hl:lo'<=lo) (hh:hi<=hi'):p.rd lo' hi' w:=
 ⟨h.isr.mono hl hh,h.known.mono hl hh,h.reps.mono hl hh,fun r hr=>(h.logs r hr).mono hl hh,h.iC,h.kC,h.rC,h.cap,h.few⟩
def CQ (lo hi:Nat) (p:Pa):cz:=⟨lo,hi,p.rd lo hi,fun _ _ hk h=>h.st hk⟩
structure RA.ok (r:RA):Prop where
 gl:GL r.es r.s
 high0:0<=r.high
 high1:r.high<=r.es.length
structure gE.ok (p:gE):Prop where
 n1:1<=p.reps.length
 n2:p.reps.length<=5
 isrl:p.isr.length=p.reps.length
 knownl:p.known.length=p.reps.length
 few1:1<=p.few
 few2:p.few<=p.reps.length
 ep0:0<=p.epoch
 ep1:p.epoch<=1073741824
 ld0: -1<=p.leader
 ld1:p.leader<p.reps.length
 base0:0<=p.base
 base1:p.base<=400
 some_:true∈p.isr
 lead: ∀ (l:Nat) (r:RA),p.leader=l->p.reps[l]? =some r->p.isr[l]? =some true/\r.up=true
 reps: ∀ r∈p.reps,r.ok
 known: ∀ n∈p.known,0<=n/\n<=400
theorem Hp.startPa {p:Pa} {w:World} (h:p.rd 0 w.heap.size w):Hp w w [] [CQ 0 w.heap.size p,dT eW 0 w.heap.size p.iA p.isr,dT bW 0 w.heap.size p.kA p.known,dT gW 0 w.heap.size p.rA p.reps]:=
 ((((Hp.start w).learnOld (dT gW 0 w.heap.size p.rA p.reps) h.reps (ao _)).learnOld (dT bW 0 w.heap.size p.kA p.known) h.known (ao _)).learnOld (dT eW 0 w.heap.size p.iA p.isr) h.isr (ao _)).learnOld (CQ 0 w.heap.size p) h (ao _)
theorem Hp.pa {w0 w:World} {L:List (Nat×Obj)} {F:List cz} {lo hi:Nat} {p:Pa} (H:Hp w0 w L F) (i:Nat) (hF:F[i]? =some (CQ lo hi p)):p.rd 0 w.heap.size w:=
 Pa.rd.mono (H.fact hF) (bK _) (H.facts _ (ah hF)).2.1
theorem Pa.rd.nil (lo hi:Nat) (w:World):Pa.rd ⟨0,0,[],none,0,[],none,0,[],none,0,0,0⟩ lo hi w:=
 ⟨Rd.nil,Rd.nil,Rd.nil,fun r hr=>by simp at hr,by simp,by simp,by simp,fun r hr=>by simp at hr,by simp⟩
def zf:Pa:=⟨0,0,[],none,0,[],none,0,[],none,0,0,0⟩
def gG:gE:=⟨0,0,[],[],[],0,0⟩
def ez (w w2:World) (p:Pa):Prop:=p.rd w.heap.size w2.heap.size w2/\Below w.heap.size w w2
theorem ez.zero {w w2:World} (h:Below w.heap.size w w2):ez w w2 zf:=⟨Pa.rd.nil _ _ _,h⟩
structure FM (w w2:World) (p:Pa) (g1 g2 g3:Nat) (c1 c2 c3:Array Value):Prop where
 i:p.iA=some ⟨g1,0,none⟩
 k:p.kA=some ⟨g2,0,none⟩
 r:p.rA=some ⟨g3,0,none⟩
 ri:dz eW p.isr p.iC c1
 rk:dz bW p.known p.kC c2
 rr:dz gW p.reps p.rC c3
 cap: ∀ r∈p.reps,(bi r.es).length<=r.cap
 los: ∀ r∈p.reps,w.heap.size<=r.lo
 few:p.isr.length<=1000000/\p.known.length<=1000000/\p.reps.length<=1000000
 hp:Hp w w2 [(g1,.cells c1 ji (0,0)),(g2,.cells c2 db (0,0)),(g3,.cells c3 fP (0,0))] (sP p.reps)
theorem FM.new {w w2:World} {p:Pa} {g1 g2 g3:Nat} {c1 c2 c3:Array Value} (h:FM w w2 p g1 g2 g3 c1 c2 c3):ez w w2 p:=by
 have H:=h.hp
 have e1:=H.ents _ (fG _)
 have e2:=H.ents _ (qy _ (fG _))
 have e3:=H.ents _ (qy _ (qy _ (fG _)))
 refine⟨⟨?_,?_,?_,fun r hr=> ?_,h.ri.le,h.rk.le,h.rr.le,h.cap,h.few⟩,H.below⟩
 rw[h.i];exact(h.ri.rd e1.1).mono e1.2 (cj e1.1)
 rw[h.k];exact(h.rk.rd e2.1).mono e2.2 (cj e2.1)
 rw[h.r];exact(h.rr.rd e3.1).mono e3.2 (cj e3.1)
 obtain⟨f1,f2,-⟩:=H.facts (Bg r) (bP hr)
 exact Rd.mono f1 (h.los r hr) f2
theorem BL (es:List Bool) (A:Option Addr) (c:Nat) (w:World) (hr:Rd eW 0 w.heap.size A es w) (hb:es.length*1<=140737488355328):
  dg ab qq [.slice A es.length c] w fun v w2=> ∃ A' c' L',v=.slice A' es.length c'/\es.length<=c'/\c'<=maxLen/\gm eW (.slice A' es.length c') ji es L'/\Hp w w2 L' []:=by
 refine aF p5 Z Z ?_
 have H:=Hp.startRd hr
 refine W<|Zr<|G (Ws Z)<|U<|W<|W<|Zr<|G (Ys Z) ?_
 refine wl (qB xw Z) Z Z Z (fun h4=> ?_) (fun h4=> ?_)
 refine U<|ZT Z<|W<|Zr<|G (Ws Z)<|U<|Zt ?_
 have he:es=[]:=by
  cases es with
  |nil=>rfl
  |cons e es=>obtain⟨b,o,hA,_⟩:=hr (by simp);subst hA;cases h4
 subst he
 exact cH Z Z ⟨none,0,[],rfl,by simp,by decide,gm.nil,H.forget (by simp) (by simp)⟩
 refine U<|ZF Z<|Zk<|W<|Zr<|Np H dY Z fun w1 b5 H=>G (Ys Z)<|vQ (Y:=eW) Lz (K:=[]) (L:=[(b5,_)]) (M:=[]) H (rU.lit (by decide) (by rfl)) (es:=[]) (news:=es) Z Z Z (Rd.src (H.fact (i:=0) Z)) (by simpa using hb) Z ?_
 intro A3 c3 w3 L3 h3a h3b ho3 H
 refine G (Ws Z)<|U<|Zt ?_
 exact cH Z Z ⟨A3,c3,L3,rfl,h3a,h3b,ho3,H.forget (by simp) (by simp)⟩
theorem xK (es:List fg) (A:Option Addr) (c:Nat) (w:World) (hr:Rd gW 0 w.heap.size A es w) (hb:es.length*48<=140737488355328):
  dg ab mR [.slice A es.length c] w fun v w2=> ∃ A' c' L',v=.slice A' es.length c'/\es.length<=c'/\c'<=maxLen/\gm gW (.slice A' es.length c') fP es L'/\Hp w w2 L' []:=by
 refine aF my Z Z ?_
 have H:=Hp.startRd hr
 refine W<|Zr<|G (Ws Z)<|U<|W<|W<|Zr<|G (Ys Z) ?_
 refine wl (qB g9 Z) Z Z Z (fun h4=> ?_) (fun h4=> ?_)
 refine U<|ZT Z<|W<|Zr<|G (Ws Z)<|U<|Zt ?_
 have he:es=[]:=by
  cases es with
  |nil=>rfl
  |cons e es=>obtain⟨b,o,hA,_⟩:=hr (by simp);subst hA;cases h4
 subst he
 exact cH Z Z ⟨none,0,[],rfl,by simp,by decide,gm.nil,H.forget (by simp) (by simp)⟩
 refine U<|ZF Z<|Zk<|W<|Zr<|Np H bj Z fun w1 b5 H=>G (Ys Z)<|vQ (Y:=gW) FH (K:=[]) (L:=[(b5,_)]) (M:=[]) H (rU.lit (by decide) (by rfl)) (es:=[]) (news:=es) Z Z Z (Rd.src (H.fact (i:=0) Z)) (by simpa using hb) Z ?_
 intro A3 c3 w3 L3 h3a h3b ho3 H
 refine G (Ws Z)<|U<|Zt ?_
 exact cH Z Z ⟨A3,c3,L3,rfl,h3a,h3b,ho3,H.forget (by simp) (by simp)⟩
theorem Bl (es:List Bool) (A:Option Addr) (c:Nat) (w:World) (hr:Rd eW 0 w.heap.size A es w) (hb:es.length<=1000000):
  dg ab qp [.slice A es.length c,.bool true] w fun v w2=>(∃ n:Int,v=J n/\(0<=n↔true∈es))/\Below w.heap.size w w2:=by
 refine aF pY Z Z ?_
 have H:=Hp.startRd hr
 refine W<|Zr<|G (Wi Z)<|U<|W<|W<|Zr<|G (Ys Z)<|G (br xw Z)<|G (Yi Z)<|U<|Zb ?_
 refine cy (τ:=Nat) [4,5,8,9,10,11,12,13,14,15,16,17,18] (fun k=>[(8,J (k:Nat))]) (fun k w'=>k<=es.length/\(∀ j,j<k->es[j]? =some false)/\Hp w w' [] [dT eW 0 w.heap.size A es]) (fun k=>es.length-k) 0 ⟨by omega,by intro j hj;omega,H⟩ (dJ Z) ?_
 rintro k ρ1 w1 ⟨hk,hno,H⟩
 show CW _ _ _ _ (dH (gJ _ _ ρ1) [(8,J (k:Nat))]) w1
 refine W<|Zr ?_
 refine cW (cK Z Z) Z Z Z (fun h9=> ?_) (fun h9=> ?_)
 refine U<|W<|ZT Z<|Zk<|W<|Zb<|W<|Zr<|G (Yi Z)<|G (Wi Z)<|U<|W<|Zr<|G (Yb Z)<|G (Ys Z)<|G (Yi Z)<|ql H 0 Z dY Z Z I I Z fun b2 o2 x2 e2=>G (aX dV Z (e2.cl 0 _ Z))<|G (D2 v6 Z Z) ?_
 refine mq 16 Z (fun h16=> ?_) (fun h16=> ?_)
 refine U<|ZT Z<|W<|Zr<|G (Yi Z)<|G (Wi Z)<|U<|Zt ?_
 exact cH Z Z ⟨⟨_,rfl,⟨fun _=>by have:=ah e2.at_;simp at h16;rwa[h16]at this,fun _=>by omega⟩⟩,H.below⟩
 refine U<|ZF Z<|Zk<|Zr<|G (bz Z Z I I)<|G (Yi Z)<|U ?_
 refine⟨k+1,⟨by omega,fun j hj=> ?_,H⟩,dJ Z,Qg,by show es.length- (k+1)<es.length-k;omega⟩
 by_cases hji:j<k
 exact hno j hji
 have:j=k:=by omega
 subst this;rw[e2.at_];simpa using h16
 refine U<|W<|ZF Z<|Zx<|W<|Zr<|G (Wi Z)<|U<|Zt ?_
 exact cH Z Z ⟨⟨-1,rfl,⟨fun h=>by omega,fun h=>by obtain⟨j,hj⟩:=aU.1 h;have:=hno j (by have:=(bT hj).1;omega);rw[hj]at this;cases this⟩⟩,H.below⟩
theorem rP (es:List Bool) (A:Option Addr) (c:Nat) (w:World) (hr:Rd eW 0 w.heap.size A es w) (hb:es.length<=1000000):
  dg ab oQ [.slice A es.length c,.bool true] w fun v w2=>v=.bool (decide (true∈es))/\Below w.heap.size w w2:=by
 refine aF oh Z Z ?_
 have H:=Hp.start w
 refine W<|Zr<|G (Wb Z)<|U<|W<|Zr<|G (Ys Z)<|G (Yb Z)<|ch qc (Bl es _ _ _ hr hb) Z Z ?_
 rintro _ w1 ⟨⟨n,rfl,hn⟩,hb⟩;replace H:=H.later hb;clear hb
 refine G (kf Z Z)<|G (Wb Z)<|U<|Zt ?_
 exact cH (v:=.bool (decide (0<=n))) Z Z ⟨by rw[decide_eq_decide.2 hn],H.below⟩
theorem pP (p:Pa) (i:Nat) (r:fg) (w:World) (hR:Rd gW 0 w.heap.size p.rA p.reps w) (hr:p.reps[i]? =some r) (hl:r.log.ok w):dg ab E6 [p.v,J (i:Nat)] w fun v w2=>v=.tuple #[J (r.es.length:Nat),J (r.s:Nat)]/\Below w.heap.size w w2:=by
 refine aF DD Z Z ?_
 obtain⟨ep,ld,isr,iA,iC,kn,kA,kC,reps,rA,rC,fw,bs⟩:=p
 dsimp only at hR hr
 have H:=Hp.startRd hR
 have hil:=(bT hr).1
 show CW _ _ _ _ (args [.agg #[J (ep),J (ld),.slice iA isr.length iC,.slice kA kn.length kC,.slice rA reps.length rC,J (fw),J (bs)],J (((i:Nat):Int))]) w
 refine W<|Zr<|fW H Z Z fun w1 b2 H=>G (Wi Z)<|G (Wi Z)<|U<|W<|Zr<|G (Zf cV Z)<|G (Zd bJ H 0 Z Z Z)<|G (Yi Z)<|ql H 0 Z bj Z Z I I Z fun b2 o2 x2 e2=> ?_
 obtain rfl:x2=r:=by have:=e2.at_;rw[hr]at this;exact(bN this).symm
 refine G (Zf da Z)<|G (jF (xs:=[.slice x2.A ((bi x2.es).length) x2.cap,J (((fR x2.es x2.s:Nat):Int))]) eO Z Z (DQ e2.cl 1 Z))<|ch gC (hN x2.A x2.cap x2.es x2.s _ ⟨hl.gl,hl.cap,hl.rd.below H.below|>.mono (ao _) H.size⟩) Z Z ?_
 rintro _ w3 ⟨Aen,cen,rfl,hren,hcen,hben⟩;replace H:=H.learnRd hben hren;clear hren hben
 refine G (Yu Z)<|G (Xs Z Z)<|G (Xi Z Z)<|G (Xi Z Z)<|G (Ws Z)<|G (Wi Z)<|G (Wi Z)<|U<|W<|Zr<|G (Ys Z)<|G (br eE Z)<|G (Yi Z)<|G (Wi Z)<|G (Wi Z)<|U<|Zt ?_
 exact ma Z Z Z ⟨rfl,H.below⟩
theorem Pa.facts {p:Pa} (h:p.a.ok):1<=p.reps.length/\p.reps.length<=5/\p.isr.length=p.reps.length/\p.known.length=p.reps.length/\1<=p.few/\p.few<=p.reps.length/\0<=p.epoch/\p.epoch<=1073741824/\ -1<=p.leader/\p.leader<p.reps.length/\0<=p.base/\p.base<=400/\true∈p.isr:=by
 have h1:=h.n1;have h2:=h.n2;have h3:=h.isrl;have h4:=h.knownl;have h6:=h.few2;have h7:=h.ld1
 simp only[Pa.a,bI]at h1 h2 h3 h4 h6 h7
 exact⟨h1,h2,h3,h4,h.few1,h6,h.ep0,h.ep1,h.ld0,h7,h.base0,h.base1,h.some_⟩
theorem Pa.repOk {p:Pa} (h:p.a.ok) {i:Nat} {r:fg} (hr:p.reps[i]? =some r):GL r.es r.s/\0<=r.high/\r.high<=r.es.length:=by
 have h1:=h.reps r.a (bP (ah hr))
 exact⟨h1.gl,h1.high0,h1.high1⟩
theorem Pa.leads {p:Pa} (h:p.a.ok) {l:Nat} {r:fg} (hl:p.leader=l) (hr:p.reps[l]? =some r):p.isr[l]? =some true/\r.up=true:=
 h.lead l r.a hl (by simp[Pa.a,hr])
theorem Pa.log {p:Pa} {w:World} (hd:p.rd 0 w.heap.size w) (h:p.a.ok) {i:Nat} {r:fg} (hr:p.reps[i]? =some r):r.log.ok w:=
 ⟨(Pa.repOk h hr).1,hd.cap r (ah hr),hd.logs r (ah hr)⟩
theorem pI (p:Pa) (w:World) (h:p.rd 0 w.heap.size w) (hok:p.a.ok):dg ab Dr [p.v] w fun v w2=>v=J 0/\Below w.heap.size w w2:=by
 refine aF BB Z Z ?_
 obtain⟨hn1,hn2,hil,hkl,hf1,hf2,he0,he1,hl0,hl1,hb0,hb1,hsm⟩:=Pa.facts hok
 have hkn:=hok.known
 have hiC:=h.iC
 have hkC:=h.kC
 have hrC:=h.rC
 have hfew:=h.few
 have H:=Hp.startPa h
 obtain⟨ep,ld,isr,iA,iC,kn,kA,kC,reps,rA,rC,fw,bs⟩:=p
 simp only[Pa.a]at hkn
 dsimp only at H hn1 hn2 hil hkl hf1 hf2 he0 he1 hl0 hl1 hb0 hb1 hsm hiC hkC hrC hfew
 show CW _ _ _ _ (args [.agg #[J (ep),J (ld),.slice iA isr.length iC,.slice kA kn.length kC,.slice rA reps.length rC,J (fw),J (bs)]]) w
 refine W<|Zr<|fW H Z Z fun w1 b1 H=>G (Wi Z)<|U<|W<|Zr<|G (Zf cV Z)<|G (Zd bJ H 0 Z Z Z)<|G (br g9 Z)<|G (Wi Z)<|U<|W<|W<|Zr<|G (Yi Z)<|G (dd Z Z I)<|G (Yb Z)<|ZG<|G (Yi Z)<|ZG<|G (eA Z Z I)<|G (N Z Z)<|G (Yb Z)<|ZG<|G (Zf f8 Z)<|ZG<|G (Zd fZ H 0 Z Z Z)<|ZG<|G (br xw Z)<|ZG<|G (Yi Z)<|ZG<|G (ce Z Z I)<|G (N Z Z)<|G (Yb Z)<|ZG<|G (Zf f7 Z)<|ZG<|G (Zd bL H 0 Z Z Z) ?_
 refine ZG<|G (br eJ Z)<|ZG<|G (Yi Z)<|ZG<|G (ce Z Z I)<|G (N Z Z)<|G (Yb Z)<|ZG<|G (Zf xI Z)<|ZG<|G (Zd ak H 0 Z Z Z)<|ZG<|G (dd Z Z I)<|G (N Z Z)<|G (Yb Z)<|ZG<|G (Zf xI Z)<|ZG<|G (Zd ak H 0 Z Z Z)<|ZG<|G (Yi Z)<|ZG<|G (eA Z Z I)<|G (N Z Z)<|G (Yb Z)<|ZG<|G (Zf pJ Z)<|ZG<|G (Zd ak H 0 Z Z Z)<|ZG<|G (dd Z Z I)<|G (N Z Z)<|G (Yb Z)<|ZG<|G (Zf pJ Z)<|ZG<|G (Zd ak H 0 Z Z Z)<|ZG<|G (eA Z Z I) ?_
 refine G (N Z Z)<|G (Yb Z)<|ZG<|G (Zf du Z)<|ZG<|G (Zd ak H 0 Z Z Z)<|ZG<|G (dd Z Z I)<|G (N Z Z)<|G (Yb Z)<|ZG<|G (Zf du Z)<|ZG<|G (Zd ak H 0 Z Z Z)<|ZG<|G (Yi Z)<|ZG<|G (rf Z Z I)<|G (N Z Z)<|G (Yb Z)<|ZG<|G (Zf uw Z)<|ZG<|G (Zd ak H 0 Z Z Z)<|ZG<|G (dd Z Z I)<|G (N Z Z)<|G (Yb Z)<|ZG<|G (Zf uw Z)<|ZG<|G (Zd ak H 0 Z Z Z)<|ZG<|G (eA Z Z I)<|G (N Z Z)<|U<|ZF Z<|Zk<|W<|W ?_
 refine Zr<|G (Zf f8 Z)<|G (Zd fZ H 0 Z Z Z)<|ch jp (rP isr iA iC _ (H.rd0 1 Z) I) Z Z ?_
 rintro _ w2 ⟨rfl,hb⟩;replace H:=H.later hb;clear hb
 rw[decide_eq_true hsm]
 refine G (dR Z)<|G (Yb Z)<|ZG<|G (Zf du Z)<|ZG<|G (Zd ak H 0 Z Z Z)<|ZG ?_
 refine cW (kf Z Z) Z Z Z (fun h80=> ?_) (fun h80=> ?_)
 obtain⟨l,hld⟩: ∃ l:Nat,ld=l:=⟨ld.toNat,by omega⟩
 refine ZG<|G (Yb Z)<|ZG<|G (Zf f8 Z)<|ZG<|G (Zd fZ H 0 Z Z Z)<|ZG<|G (Zf du Z)<|ZG<|G (Zd ak H 0 Z Z Z)<|ZG<|ql (k:=l) H 1 Z dY Z (congrArg (Value.int .i64) hld) I I Z fun b3 o3 x3 e3=>ZG ?_
 obtain⟨hI,-⟩:=Pa.leads hok (l:=l) hld (show(Pa.reps ⟨ep,ld,isr,iA,iC,kn,kA,kC,reps,rA,rC,fw,bs⟩)[l]? =_ from ai (by show l<reps.length;omega))
 obtain rfl:x3=true:=by have:=e3.at_;rw[show isr[l]? =_ from hI]at this;exact(bN this).symm
 refine G (aX (v:=.bool true) dV Z (e3.cl 0 _ Z))<|ZG<|G (dR Z)<|ZG<|G (Yb Z)<|ZG<|G (Zf cV Z)<|ZG<|G (Zd bJ H 0 Z Z Z)<|ZG<|G (Zf du Z)<|ZG<|G (Zd ak H 0 Z Z Z)<|ZG<|ql (k:=l) H 3 Z bj Z (congrArg (Value.int .i64) hld) I I Z fun b4 o4 x4 e4=>ZG<|G (Zf dr Z)<|ZG ?_
 obtain⟨-,hU⟩:=Pa.leads hok (l:=l) hld (show(Pa.reps ⟨ep,ld,isr,iA,iC,kn,kA,kC,reps,rA,rC,fw,bs⟩)[l]? =_ from e4.at_)
 refine G (aX (v:=.bool true) dV Z (e4.cl 0 _ (by rw[<-hU];rfl)))<|ZG<|G (dR Z)<|ZG<|G (N Z Z)<|ZG<|G (Kt Z Z)<|G (N Z Z)<|U<|ZF Z<|Zk<|W<|W<|Zr<|G (Zf cV Z)<|G (Zd bJ H 0 Z Z Z)<|G (br g9 Z)<|G (Yi Z)<|U<|Zb ?_
 refine cy (τ:=Nat) [2,4,5,6,7,104,105,106,107,108,109,110,111,112,113,114,115,116,117,118,119,120,121,122,123,124,125,126,127,128,129,130,131,132,133,134,135,136,137,138,139,140,141,142,143,144,145,146] (fun k=>[(104,J (k:Nat))]) (fun k w'=>k<=reps.length/\Hp w w' [(b1,.cells #[J (ep),J (ld),.slice iA isr.length iC,.slice kA kn.length kC,.slice rA reps.length rC,J (fw),J (bs)] bM (0,0))] [CQ 0 w.heap.size ⟨ep,ld,isr,iA,iC,kn,kA,kC,reps,rA,rC,fw,bs⟩,dT eW 0 w.heap.size iA isr,dT bW 0 w.heap.size kA kn,dT gW 0 w.heap.size rA reps]) (fun k=>reps.length-k) 0 ⟨by omega,H⟩ (dJ Z) ?_
 rintro k ρ1 w5 ⟨hk,H⟩
 show CW _ _ _ _ (dH (gJ _ _ ρ1) [(104,J (k:Nat))]) w5
 refine W<|Zr ?_
 refine cW (cK Z Z) Z Z Z (fun h105=> ?_) (fun h105=> ?_)
 refine U<|W<|ZT Z<|Zk<|W<|Zb<|W<|Zr<|G (Yi Z)<|ql H 3 Z bj Z Z I I Z fun b6 o6 x6 e6=>G (jF (xs:=fg.c x6) oB Z Z e6.cl)<|eI H pH Z fun w7 b5 H=>G (Wi Z)<|bg H 0 (#[.bool (x6.up),.slice x6.A ((bi x6.es).length) x6.cap,J (((fR x6.es x6.s:Nat):Int)),J (x6.high)]) iM Z Z Z Z Z N N fun w8 H=>U<|W<|Zr<|G (Zw aH H 1 Z Z Z)<|G (Yi Z)<|ch jA (pP ⟨ep,ld,isr,iA,iC,kn,kA,kC,reps,rA,rC,fw,bs⟩ k x6 _ (H.rd0 3 Z) e6.at_ (Pa.log (Hp.pa H 0 Z) hok (i:=k) e6.at_)) Z Z ?_
 rintro _ w9 ⟨rfl,hb⟩;replace H:=H.later hb;clear hb
 refine G (Yu Z)<|G (Xi Z Z)<|G (Xi Z Z)<|G (Wi Z)<|G (Wi Z)<|U<|W<|Zr<|G (Zf da Z)<|G (jl 1 [.slice x6.A ((bi x6.es).length) x6.cap,J (((fR x6.es x6.s:Nat):Int))] eO Z Z (H.ent (i:=0) Z) Z)<|ch mF (qD x6.A x6.cap x6.es x6.s _ (Pa.log (Hp.pa H 0 Z) hok (i:=k) e6.at_)) Z Z ?_
 rintro _ w10 ⟨rfl,hb⟩;replace H:=H.later hb;clear hb
 refine G (ce Z Z Z)<|G (Yb Z)<|ZG<|G (Zf d4 Z)<|ZG<|G (Zd ak H 0 Z Z Z)<|ZG<|G (dd Z Z (by have:=(Pa.repOk hok (show(Pa.reps ⟨ep,ld,isr,iA,iC,kn,kA,kC,reps,rA,rC,fw,bs⟩)[k]? =_ from e6.at_)).2.1;omega))<|G (N Z Z)<|G (Yb Z)<|ZG<|G (Zf d4 Z)<|ZG<|G (Zd ak H 0 Z Z Z)<|ZG<|G (Yi Z)<|ZG<|G (eA Z Z (by have:=(Pa.repOk hok (show(Pa.reps ⟨ep,ld,isr,iA,iC,kn,kA,kC,reps,rA,rC,fw,bs⟩)[k]? =_ from e6.at_)).2.2;omega))<|G (N Z Z)<|G (Yb Z)<|ZG<|G (Zf f7 Z)<|ZG<|G (Zd bL H 1 Z Z Z)<|ZG<|G (Yi Z)<|ZG<|ql H 2 Z aT Z Z I I Z fun b11 o11 x11 e11=>ZG<|G (aX ak Z (e11.cl 0 _ Z))<|ZG<|G (dd Z Z (by have:=(hkn _ (ah e11.at_)).1;omega))<|G (N Z Z)<|G (Yb Z)<|ZG<|G (Zf f7 Z)<|ZG<|G (Zd bL H 1 Z Z Z)<|ZG<|G (Yi Z) ?_
 refine ZG<|ql H 2 Z aT Z Z I I Z fun b12 o12 x12 e12=>ZG<|G (aX ak Z (e12.cl 0 _ Z))<|ZG<|G (eA Z Z (by have:=(hkn _ (ah e12.at_)).2;omega))<|G (N Z Z)<|U<|ZF Z<|Zk<|Zr<|G (bz Z Z I I)<|G (Yi Z)<|U ?_
 refine⟨k+1,⟨by omega,H.forget (.cons _ (ar _)) (fun _ h=>h)⟩,dJ Z,Qg,by show reps.length- (k+1)<reps.length-k;omega⟩
 refine U<|W<|ZF Z<|Zx<|W<|Zr<|G (Wi Z)<|U<|Zt ?_
 exact cH Z Z ⟨rfl,H.below⟩
 refine ZG<|G (Yb Z)<|ZN<|ZN<|ZN<|ZN<|ZN<|ZN<|ZN<|ZN<|ZN<|ZN<|ZN<|ZN<|ZN<|ZN<|ZN<|ZN<|ZN<|ZG<|G (N Z Z)<|G (N Z Z)<|U<|ZF Z<|Zk<|W<|W<|Zr<|G (Zf cV Z)<|G (Zd bJ H 0 Z Z Z)<|G (br g9 Z)<|G (Yi Z)<|U<|Zb ?_
 refine cy (τ:=Nat) [2,4,5,6,7,104,105,106,107,108,109,110,111,112,113,114,115,116,117,118,119,120,121,122,123,124,125,126,127,128,129,130,131,132,133,134,135,136,137,138,139,140,141,142,143,144,145,146] (fun k=>[(104,J (k:Nat))]) (fun k w'=>k<=reps.length/\Hp w w' [(b1,.cells #[J (ep),J (ld),.slice iA isr.length iC,.slice kA kn.length kC,.slice rA reps.length rC,J (fw),J (bs)] bM (0,0))] [CQ 0 w.heap.size ⟨ep,ld,isr,iA,iC,kn,kA,kC,reps,rA,rC,fw,bs⟩,dT eW 0 w.heap.size iA isr,dT bW 0 w.heap.size kA kn,dT gW 0 w.heap.size rA reps]) (fun k=>reps.length-k) 0 ⟨by omega,H⟩ (dJ Z) ?_
 rintro k ρ1 w13 ⟨hk,H⟩
 show CW _ _ _ _ (dH (gJ _ _ ρ1) [(104,J (k:Nat))]) w13
 refine W<|Zr ?_
 refine cW (cK Z Z) Z Z Z (fun h105=> ?_) (fun h105=> ?_)
 refine U<|W<|ZT Z<|Zk<|W<|Zb<|W<|Zr<|G (Yi Z)<|ql H 3 Z bj Z Z I I Z fun b14 o14 x14 e14=>G (jF (xs:=fg.c x14) oB Z Z e14.cl)<|eI H pH Z fun w15 b5 H=>G (Wi Z)<|bg H 0 (#[.bool (x14.up),.slice x14.A ((bi x14.es).length) x14.cap,J (((fR x14.es x14.s:Nat):Int)),J (x14.high)]) iM Z Z Z Z Z N N fun w16 H=>U<|W<|Zr<|G (Zw aH H 1 Z Z Z)<|G (Yi Z)<|ch jA (pP ⟨ep,ld,isr,iA,iC,kn,kA,kC,reps,rA,rC,fw,bs⟩ k x14 _ (H.rd0 3 Z) e14.at_ (Pa.log (Hp.pa H 0 Z) hok (i:=k) e14.at_)) Z Z ?_
 rintro _ w17 ⟨rfl,hb⟩;replace H:=H.later hb;clear hb
 refine G (Yu Z)<|G (Xi Z Z)<|G (Xi Z Z)<|G (Wi Z)<|G (Wi Z)<|U<|W<|Zr<|G (Zf da Z)<|G (jl 1 [.slice x14.A ((bi x14.es).length) x14.cap,J (((fR x14.es x14.s:Nat):Int))] eO Z Z (H.ent (i:=0) Z) Z)<|ch mF (qD x14.A x14.cap x14.es x14.s _ (Pa.log (Hp.pa H 0 Z) hok (i:=k) e14.at_)) Z Z ?_
 rintro _ w18 ⟨rfl,hb⟩;replace H:=H.later hb;clear hb
 refine G (ce Z Z Z)<|G (Yb Z)<|ZG<|G (Zf d4 Z)<|ZG<|G (Zd ak H 0 Z Z Z)<|ZG<|G (dd Z Z (by have:=(Pa.repOk hok (show(Pa.reps ⟨ep,ld,isr,iA,iC,kn,kA,kC,reps,rA,rC,fw,bs⟩)[k]? =_ from e14.at_)).2.1;omega))<|G (N Z Z)<|G (Yb Z)<|ZG<|G (Zf d4 Z)<|ZG<|G (Zd ak H 0 Z Z Z)<|ZG<|G (Yi Z)<|ZG<|G (eA Z Z (by have:=(Pa.repOk hok (show(Pa.reps ⟨ep,ld,isr,iA,iC,kn,kA,kC,reps,rA,rC,fw,bs⟩)[k]? =_ from e14.at_)).2.2;omega))<|G (N Z Z)<|G (Yb Z)<|ZG<|G (Zf f7 Z)<|ZG<|G (Zd bL H 1 Z Z Z)<|ZG<|G (Yi Z)<|ZG<|ql H 2 Z aT Z Z I I Z fun b19 o19 x19 e19=>ZG<|G (aX ak Z (e19.cl 0 _ Z))<|ZG<|G (dd Z Z (by have:=(hkn _ (ah e19.at_)).1;omega))<|G (N Z Z)<|G (Yb Z)<|ZG<|G (Zf f7 Z)<|ZG<|G (Zd bL H 1 Z Z Z)<|ZG<|G (Yi Z) ?_
 refine ZG<|ql H 2 Z aT Z Z I I Z fun b20 o20 x20 e20=>ZG<|G (aX ak Z (e20.cl 0 _ Z))<|ZG<|G (eA Z Z (by have:=(hkn _ (ah e20.at_)).2;omega))<|G (N Z Z)<|U<|ZF Z<|Zk<|Zr<|G (bz Z Z I I)<|G (Yi Z)<|U ?_
 refine⟨k+1,⟨by omega,H.forget (.cons _ (ar _)) (fun _ h=>h)⟩,dJ Z,Qg,by show reps.length- (k+1)<reps.length-k;omega⟩
 refine U<|W<|ZF Z<|Zx<|W<|Zr<|G (Wi Z)<|U<|Zt ?_
 exact cH Z Z ⟨rfl,H.below⟩
theorem zK {f:cz} {l:List fg} {x:fg} {F:List cz} (h:f∈F++sP (l++[x])):f∈Bg x::(F++sP l):=by
 simp only[sP,bo,eM,mh,ax,au]at h
 simp only[ay,ax,sP]
 rcases h with h|h|h
 exact .inr (.inl h)
 exact .inr (.inr h)
 exact .inl h
theorem zD (p:Pa) (w:World) (h:p.rd 0 w.heap.size w) (hok:p.a.ok):dg ab yn [p.v] w fun v w2=> ∃ (p':Pa) (g1 g2 g3:Nat) (c1 c2 c3:Array Value),v=p'.v/\p'.a=p.a/\FM w w2 p' g1 g2 g3 c1 c2 c3:=by
 refine aF DH Z Z ?_
 obtain⟨hn1,hn2,hil,hkl,hf1,hf2,he0,he1,hl0,hl1,hb0,hb1,hsm⟩:=Pa.facts hok
 have hkn:=hok.known
 have hiC:=h.iC
 have hkC:=h.kC
 have hrC:=h.rC
 have hfew:=h.few
 have H:=Hp.startPa h
 obtain⟨ep,ld,isr,iA,iC,kn,kA,kC,reps,rA,rC,fw,bs⟩:=p
 simp only[Pa.a]at hkn
 dsimp only at H hn1 hn2 hil hkl hf1 hf2 he0 he1 hl0 hl1 hb0 hb1 hsm hiC hkC hrC hfew
 show CW _ _ _ _ (args [.agg #[J (ep),J (ld),.slice iA isr.length iC,.slice kA kn.length kC,.slice rA reps.length rC,J (fw),J (bs)]]) w
 refine W<|Zr<|fW H Z Z fun w1 b1 H=>eI H bv Z fun w2 b2 H=>U<|W ?_
 refine bD ci [0,1,3,4,6,7,2,9,5,8] [10,11,12,13,14] [2,5,8] [0,3,6,9] (sp [(2,Sp.orow w2.heap.size eW ji isr),(5,Sp.orow w2.heap.size bW db kn),(8,Sp.orow w2.heap.size gW fP reps)]) N N N N Nq (cJ _) ?_
 refine aw Z Z Z Z Z (fun w' hw'=>Zf f8 Z)<|aw Z Z Z Z Z (fun w' hw'=>aX fZ Z (aD ((H.later hw').ent (i:=1) Z) Z))<|aw Z Z Z Z Z (fun w' hw'=>Zf f7 Z)<|aw Z Z Z Z Z (fun w' hw'=>aX bL Z (aD ((H.later hw').ent (i:=1) Z) Z))<|aw Z Z Z Z Z (fun w' hw'=>Zf cV Z)<|aw Z Z Z Z Z (fun w' hw'=>aX bJ Z (aD ((H.later hw').ent (i:=1) Z) Z))<|xP qd Z Z Z Z Z (fun w' hw'=>hw'.size) (fun w' hw'=>BL isr _ _ w' ((H.later hw').rd0 1 Z) I) Z fun A6 c6 hc6=>aw Z Z Z Z Z (fun w' hw'=>Zf f8 Z)<|xP gj Z Z Z Z Z (fun w' hw'=>hw'.size) (fun w' hw'=>sI kn _ _ w' ((H.later hw').rd0 2 Z) I) Z fun A9 c9 hc9=>xP mE Z Z Z Z Z (fun w' hw'=>hw'.size) (fun w' hw'=>xK reps _ _ w' ((H.later hw').rd0 3 Z) I) Z fun A12 c12 hc12=>aQ ?_
 intro w3 hw' hF
 obtain⟨hF,Aq,cq,L12,eq,hcq,hm12,ho12,he12,hn12⟩:=hF;cases eq;clear hcq
 obtain⟨hF,Aq,cq,L9,eq,hcq,hm9,ho9,he9,hn9⟩:=hF;cases eq;clear hcq
 obtain⟨hF,Aq,cq,L6,eq,hcq,hm6,ho6,he6,hn6⟩:=hF;cases eq;clear hcq
 obtain⟨g1,cur1,rfl,rfl,row1⟩:=ho6.row I
 obtain⟨g2,cur2,rfl,rfl,row2⟩:=ho9.row I
 obtain⟨g3,cur3,rfl,rfl,row3⟩:=ho12.row I
 have e6:=he6 _ (d6 _)
 have e9:=he9 _ (d6 _)
 have e12:=he12 _ (d6 _)
 replace H:=H.adopt3 hw' e6 e9 e12 (rQ e6.1 e9.1 Z) (rQ e6.1 e12.1 Z) (rQ e9.1 e12.1 Z)
 clear hw' hF
 refine bg H 4 (#[J (ep),J (ld),.slice (Qd g1) isr.length c6,.slice kA kn.length kC,.slice rA reps.length rC,J (fw),J (bs)]) Ig Z Z Z Z Z N N fun w4 H=>G (Zf f7 Z)<|bg H 4 (#[J (ep),J (ld),.slice (Qd g1) isr.length c6,.slice (Qd g2) kn.length c9,.slice rA reps.length rC,J (fw),J (bs)]) jE Z Z Z Z Z N N fun w5 H=>G (Zf cV Z)<|bg H 4 (#[J (ep),J (ld),.slice (Qd g1) isr.length c6,.slice (Qd g2) kn.length c9,.slice (Qd g3) reps.length c12,J (fw),J (bs)]) C5 Z Z Z Z Z N N fun w6 H=>U<|W<|W<|Zr<|G (Zf cV Z)<|G (Zd bJ H 4 Z Z Z)<|G (br g9 Z)<|G (Yi Z)<|U<|Zb ?_
 refine cy (τ:=Nat×List fg×Array Value) [3,19,20,21,22,23,24,25,26,27,28,29,30,31,32,33,34,35,36] (fun(k,_)=>[(19,J (k:Nat))]) (fun(k,rs,c3) w'=>k<=rs.length/\rs.length=reps.length/\rs.map fg.a=reps.map fg.a/\rs.drop k=reps.drop k/\(∀ r∈rs.take k,(bi r.es).length<=r.cap/\w.heap.size<=r.lo)/\dz gW rs c12 c3/\Hp w w' [(g1,.cells cur1 ji (0,0)),(g2,.cells cur2 db (0,0)),(g3,.cells c3 fP (0,0)),(b2,.cells #[J 0,J 0,.slice none 0 0,.slice none 0 0,.slice none 0 0,J 0,J 0] bM (0,0)),(b1,.cells #[J ep,J ld,.slice (Qd g1) isr.length c6,.slice (Qd g2) kn.length c9,.slice (Qd g3) reps.length c12,J fw,J bs] bM (0,0))] ([CQ 0 w.heap.size ⟨ep,ld,isr,iA,iC,kn,kA,kC,reps,rA,rC,fw,bs⟩,dT eW 0 w.heap.size iA isr,dT bW 0 w.heap.size kA kn,dT gW 0 w.heap.size rA reps]++sP (rs.take k))) (fun(k,rs,_)=>rs.length-k) (0,reps,cur3) ⟨by omega,rfl,rfl,rfl,by simp,row3,H⟩ (dJ Z) ?_
 rintro⟨k,rs,c3⟩ ρ1 w7 ⟨hk,hrl,hma,hdr,hcp,row,H⟩
 show CW _ _ _ _ (dH (gJ _ _ ρ1) [(19,J (k:Nat))]) w7
 refine W<|Zr ?_
 refine cW (cK Z Z) Z Z Z (fun h20=> ?_) (fun h20=> ?_)
 refine U<|W<|ZT Z<|Zk<|W<|Zb<|W ?_
 obtain⟨x,hx⟩: ∃ x,rs[k]? =some x:=⟨_,ai I⟩
 have hxt:=y5 hdr hx
 have hsz:=(Pa.repOk hok (show(Pa.reps ⟨ep,ld,isr,iA,iC,kn,kA,kC,reps,rA,rC,fw,bs⟩)[k]? =_ from hxt)).1.sz
 refine Zr<|G (Yi Z)<|G (Wi Z)<|U ?_
 have hlo:=H.size
 refine bD ci [0,1,2,3,4,5,6,7,8,9,10,11,12,13] [14] [10] [0,2,3,5,6,7,8,11,12,13] (sp [(10,Sp.row w7.heap.size dE (bi x.es))]) N N N N Nq (cJ _) ?_
 refine aw Z Z Z Z Z (fun w' hw'=>Zf cV Z)<|aw Z Z Z Z Z (fun w' hw'=>aX bJ Z (aD ((H.later hw').ent (i:=4) Z) Z))<|aw Z Z Z Z Z (fun w' hw'=>Yi Z)<|aw Z Z Z Z Z (fun w' hw'=>Zf cV Z)<|aw Z Z Z Z Z (fun w' hw'=>aX bJ Z (aD ((H.later hw').ent (i:=4) Z) Z))<|aw Z Z Z Z Z (fun w' hw'=>Yi Z)<|aw Z Z Z Z Z (fun w' hw'=>bV bj Z Z (by first|omega|(simp only[aa];omega)))<|aw Z Z Z Z Z (fun w' hw'=>Zf da Z)<|aw Z Z Z Z Z (fun w' hw'=>Zf gA Z)<|aw Z Z Z Z Z (fun w' hw'=>bf ec row hx 1 Z ((H.later hw').ent (i:=2) Z) Z)<|CF ff Z Z Z Z Z (fun w' hw'=>hw'.size) (fun w' hw'=>lp (bi x.es) _ _ w' ((Hp.pa (H.later hw') 0 Z).logs x (ah hxt)) I) Z fun A32 c32 hc32=>aw Z Z Z Z Z (fun w' hw'=>bV bj Z Z (by first|omega|(simp only[aa];omega)))<|aw Z Z Z Z Z (fun w' hw'=>Zf da Z)<|aw Z Z Z Z Z (fun w' hw'=>Zf gA Z)<|aQ ?_
 intro w8 hw' hF
 obtain⟨hF,Aq,cq,eq,hcq,hrw32⟩:=hF;cases eq;clear hcq
 replace H:=H.learnRd hw' hrw32
 clear hw' hF
 refine im H 2 ({x with A:=A32,cap:=c32,lo:=w7.heap.size,hi:=w8.heap.size}) Cd row hx 1 Z Z Z Z Z Z N fun w10 cur9 row9 H=>U<|Zr<|G (bz Z Z I I)<|G (Yi Z)<|U ?_
 obtain⟨z1,z2,z3⟩:=No (x':={x with A:=A32,cap:=c32,lo:=w7.heap.size,hi:=w8.heap.size}) hx hma hdr Z
 refine⟨(k+1,rs.set k {x with A:=A32,cap:=c32,lo:=w7.heap.size,hi:=w8.heap.size},cur9),⟨by rw[aa];omega,by rw[aa];exact hrl,z1,z2,?_,row9,H.forget (ar _) (fun f hf=>by rw[z3]at hf;exact zK hf)⟩,dJ Z,Qg,by show(rs.set k _).length- (k+1)<rs.length-k;rw[aa];omega⟩
 rw[z3];intro t ht;rcases ax.1 ht with ht|ht;exact hcp t ht;rw[au.1 ht];exact⟨hc32,hlo⟩
 refine U<|W<|ZF Z<|Zx<|W<|Zr<|G (Zw aH H 4 Z Z Z)<|bg H 3 (#[J (ep),J (ld),.slice (Qd g1) isr.length c6,.slice (Qd g2) kn.length c9,.slice (Qd g3) reps.length c12,J (fw),J (bs)]) aK Z Z Z Z Z N N fun w11 H=>U<|Zt ?_
 have hke:k=rs.length:=by omega
 rw[hke,bZ]at H hcp
 exact eS (cs0:= #[J ep,J ld,.slice (Qd g1) isr.length c6,.slice (Qd g2) kn.length c9,.slice (Qd g3) reps.length c12,J fw,J bs]) Z aH Z (H.ent (i:=3) Z) Z ⟨⟨ep,ld,isr,some ⟨g1,0,none⟩,c6,kn,some ⟨g2,0,none⟩,c9,rs,some ⟨g3,0,none⟩,c12,fw,bs⟩,g1,g2,g3,cur1,cur2,c3,by unfold Pa.v Pa.c;dsimp only;rw[hrl],by unfold Pa.a;dsimp only;rw[hma],⟨rfl,rfl,rfl,row1,row2,row,fun r hr=>(hcp r hr).1,fun r hr=>(hcp r hr).2,by dsimp only;omega,H.forget (.cons_cons _ (.cons_cons _ (.cons_cons _ (vn _)))) (fun f hf=>cm _ hf)⟩⟩
/-- the least of what is known of those that keep up -/
def dw:List Bool->List Int->Int->Int
 |b::bs,n::ns,m=>dw bs ns (if b then min m n else m)
 |_,_,m=>m
theorem zV {isr:List Bool} {kn:List Int} {k:Nat} {b:Bool} {n m:Int} (hb:isr[k]? =some b) (hn:kn[k]? =some n):dw (isr.drop k) (kn.drop k) m=dw (isr.drop (k+1)) (kn.drop (k+1)) (if b then min m n else m):=by
 rw[cP hb,cP hn]
 rfl
theorem EM {w0 w:World} {L:List (Nat×Obj)} {F:List cz} {r:fg} (H:Hp w0 w L F) (hF:Bg r∈F) (hg:GL r.es r.s) (hc:(bi r.es).length<=r.cap):r.log.ok w:=by
 obtain⟨h1,h2,-⟩:=H.facts (Bg r) hF
 exact⟨hg,hc,Rd.mono h1 (bK _) h2⟩
theorem tr (p:Pa) (r:Nat) (w:World) (h:p.rd 0 w.heap.size w) (hok:p.a.ok) (hr:r<p.reps.length):dg ab IX [p.v,J (r:Nat)] w fun v w2=> ∃ (p':Pa) (g1 g2 g3:Nat) (c1 c2 c3:Array Value),v=.tuple #[p'.v,J 0]/\p'.a=p.a/\FM w w2 p' g1 g2 g3 c1 c2 c3:=by
 refine aF GQ Z Z ?_
 obtain⟨hn1,hn2,hil,hkl,hf1,hf2,he0,he1,hl0,hl1,hb0,hb1,hsm⟩:=Pa.facts hok
 have hkn:=hok.known
 have hiC:=h.iC
 have hkC:=h.kC
 have hrC:=h.rC
 have hfew:=h.few
 have H:=Hp.startPa h
 obtain⟨ep,ld,isr,iA,iC,kn,kA,kC,reps,rA,rC,fw,bs⟩:=p
 simp only[Pa.a]at hkn
 dsimp only at H hn1 hn2 hil hkl hf1 hf2 he0 he1 hl0 hl1 hb0 hb1 hsm hiC hkC hrC hfew
 dsimp only at hr
 show CW _ _ _ _ (args [.agg #[J (ep),J (ld),.slice iA isr.length iC,.slice kA kn.length kC,.slice rA reps.length rC,J (fw),J (bs)],J (((r:Nat):Int))]) w
 refine W<|Zr<|fW H Z Z fun w1 b2 H=>eI H bv Z fun w2 b4 H=>G (Wi Z)<|U<|W<|W<|Zr<|G (Zw aH H 1 Z Z Z)<|ch jO (pI ⟨ep,ld,isr,iA,iC,kn,kA,kC,reps,rA,rC,fw,bs⟩ _ (Hp.pa H 0 Z) hok) Z Z ?_
 rintro _ w3 ⟨rfl,hb⟩;replace H:=H.later hb;clear hb
 refine G (Wi Z)<|U<|W<|Zr<|G (Yi Z)<|G (ce Z Z Z)<|U<|ZF Z<|Zk<|W<|W<|Zr<|G (Yi Z)<|G (dd Z Z I)<|G (Yb Z)<|ZG<|G (Yi Z)<|ZG<|G (Zf cV Z)<|ZG<|G (Zd bJ H 1 Z Z Z)<|ZG<|G (br g9 Z)<|ZG<|G (rf Z Z I)<|G (N Z Z)<|U<|ZF Z<|Zk<|W<|Zr<|G (Zw aH H 1 Z Z Z)<|ch mG (zD ⟨ep,ld,isr,iA,iC,kn,kA,kC,reps,rA,rC,fw,bs⟩ _ (Hp.pa H 0 Z) hok) Z Z ?_
 rintro _ w4 ⟨⟨ep2,ld2,is2,iA2,c1,kn2,kA2,c2,rs,rA2,c3,fw2,bs2⟩,g1,g2,g3,u1,u2,u3,rfl,ha2,ho⟩
 simp only[Pa.a,gE.mk.injEq]at ha2
 obtain⟨e1,e2,e3,e4,hma,e6,e7⟩:=ha2
 obtain rfl:ep=ep2:=e1.symm
 obtain rfl:ld=ld2:=e2.symm
 obtain rfl:isr=is2:=e3.symm
 obtain rfl:kn=kn2:=e4.symm
 obtain rfl:fw=fw2:=e6.symm
 obtain rfl:bs=bs2:=e7.symm
 have hrl:rs.length=reps.length:=by have:=congrArg cB hma;simpa using this
 obtain⟨i1,i2,i3,row1,row2,row3,hcp,hlos,-,hjn⟩:=ho
 dsimp only at i1 i2 i3 row1 row2 row3 hcp hlos hjn
 subst i1;subst i2;subst i3
 have hlo0:=H.size
 replace H:=H.joinF hjn (by intro f hf;obtain⟨r,hr,rfl⟩:=bB.1 hf;exact hlos r hr)
 replace hlos: ∀ r∈rs,w.heap.size<=r.lo:=fun r hr=>aS hlo0 (hlos r hr)
 clear hjn
 refine bg H 3 (#[J (ep),J (ld),.slice (Qd g1) isr.length c1,.slice (Qd g2) kn.length c2,.slice (Qd g3) rs.length c3,J (fw),J (bs)]) aK Z Z Z Z Z N N fun w5 H=>G (Wi Z)<|U<|Zt ?_
 exact bG (cs0:= #[J (ep),J (ld),.slice (Qd g1) isr.length c1,.slice (Qd g2) kn.length c2,.slice (Qd g3) rs.length c3,J (fw),J (bs)]) (v1:=J 0) Z aH Z (H.ent (i:=3) Z) Z Z ⟨⟨ep,ld,isr,_,c1,kn,_,c2,rs,_,c3,fw,bs⟩,g1,g2,g3,u1,u2,u3,rfl,by simp only[Pa.a,hma],⟨rfl,rfl,rfl,row1,row2,row3,hcp,hlos,by dsimp only;omega,H.forget (.cons_cons _ (.cons_cons _ (.cons_cons _ (vn _)))) (fun f hf=>cm _ hf)⟩⟩
theorem Hq (p:Pa) (r:Nat) (w:World) (h:p.rd 0 w.heap.size w) (hok:p.a.ok) (hr:r<p.reps.length) (hl:0<=p.leader) (hne:p.leader≠r):dg ab z8 [p.v,J (r:Nat)] w fun v w2=> ∃ (p':Pa) (g1 g2 g3:Nat) (c1 c2 c3:Array Value),v=.tuple #[p'.v,J 0]/\p'.a=p.a/\FM w w2 p' g1 g2 g3 c1 c2 c3:=by
 refine aF yo Z Z ?_
 obtain⟨hn1,hn2,hil,hkl,hf1,hf2,he0,he1,hl0,hl1,hb0,hb1,hsm⟩:=Pa.facts hok
 have hkn:=hok.known
 have hiC:=h.iC
 have hkC:=h.kC
 have hrC:=h.rC
 have hfew:=h.few
 have H:=Hp.startPa h
 obtain⟨ep,ld,isr,iA,iC,kn,kA,kC,reps,rA,rC,fw,bs⟩:=p
 simp only[Pa.a]at hkn
 dsimp only at H hn1 hn2 hil hkl hf1 hf2 he0 he1 hl0 hl1 hb0 hb1 hsm hiC hkC hrC hfew
 dsimp only at hr hl hne
 show CW _ _ _ _ (args [.agg #[J (ep),J (ld),.slice iA isr.length iC,.slice kA kn.length kC,.slice rA reps.length rC,J (fw),J (bs)],J (((r:Nat):Int))]) w
 refine W<|Zr<|fW H Z Z fun w1 b2 H=>eI H bv Z fun w2 b4 H=>G (Wi Z)<|U<|W<|Zr<|G (Zw aH H 1 Z Z Z)<|G (Yi Z)<|ch kw (tr ⟨ep,ld,isr,iA,iC,kn,kA,kC,reps,rA,rC,fw,bs⟩ r _ (Hp.pa H 0 Z) hok hr) Z Z ?_
 rintro _ w3 ⟨⟨ep2,ld2,is2,iA2,c1,kn2,kA2,c2,rs,rA2,c3,fw2,bs2⟩,g1,g2,g3,u1,u2,u3,rfl,ha2,ho⟩
 simp only[Pa.a,gE.mk.injEq]at ha2
 obtain⟨e1,e2,e3,e4,hma,e6,e7⟩:=ha2
 obtain rfl:ep=ep2:=e1.symm
 obtain rfl:ld=ld2:=e2.symm
 obtain rfl:isr=is2:=e3.symm
 obtain rfl:kn=kn2:=e4.symm
 obtain rfl:fw=fw2:=e6.symm
 obtain rfl:bs=bs2:=e7.symm
 have hrl:rs.length=reps.length:=by have:=congrArg cB hma;simpa using this
 obtain⟨i1,i2,i3,row1,row2,row3,hcp,hlos,-,hjn⟩:=ho
 dsimp only at i1 i2 i3 row1 row2 row3 hcp hlos hjn
 subst i1;subst i2;subst i3
 have hlo0:=H.size
 replace H:=H.joinF hjn (by intro f hf;obtain⟨r,hr,rfl⟩:=bB.1 hf;exact hlos r hr)
 replace hlos: ∀ r∈rs,w.heap.size<=r.lo:=fun r hr=>aS hlo0 (hlos r hr)
 clear hjn
 refine G (Yu Z)<|G (Xa Z Z)<|G (Xi Z Z)<|bg H 4 (#[J (ep),J (ld),.slice (Qd g1) isr.length c1,.slice (Qd g2) kn.length c2,.slice (Qd g3) rs.length c3,J (fw),J (bs)]) aK Z Z Z Z Z N N fun w4 H=>G (Wi Z)<|U<|W<|W<|Zr<|G (Yi Z)<|G (ce Z Z Z)<|U<|ZF Z<|Zk<|W<|W<|Zr<|G (Zf du Z)<|G (Zd ak H 4 Z Z Z)<|G (dd Z Z I)<|G (Yb Z)<|ZG<|G (Zf du Z)<|ZG<|G (Zd ak H 4 Z Z Z)<|ZG<|G (Yi Z)<|ZG<|G (nA Z Z hne)<|G (N Z Z)<|U<|ZF Z<|Zk<|W<|Zr<|G (Zw aH H 4 Z Z Z)<|bg H 3 (#[J (ep),J (ld),.slice (Qd g1) isr.length c1,.slice (Qd g2) kn.length c2,.slice (Qd g3) rs.length c3,J (fw),J (bs)]) aK Z Z Z Z Z N N fun w5 H=>G (Wi Z)<|U<|Zt ?_
 exact bG (cs0:= #[J (ep),J (ld),.slice (Qd g1) isr.length c1,.slice (Qd g2) kn.length c2,.slice (Qd g3) rs.length c3,J (fw),J (bs)]) (v1:=J 0) Z aH Z (H.ent (i:=3) Z) Z Z ⟨⟨ep,ld,isr,_,c1,kn,_,c2,rs,_,c3,fw,bs⟩,g1,g2,g3,u1,u2,u3,rfl,by simp only[Pa.a,hma],⟨rfl,rfl,rfl,row1,row2,row3,hcp,hlos,by dsimp only;omega,H.forget (.cons_cons _ (.cons_cons _ (.cons_cons _ (vn _)))) (fun f hf=>cm _ hf)⟩⟩
theorem EI (p:Pa) (r:Nat) (w:World) (h:p.rd 0 w.heap.size w) (hok:p.a.ok) (hr:r<p.reps.length) (hl:p.leader<0∨p.leader=r):dg ab z8 [p.v,J (r:Nat)] w fun v w2=>v=.tuple #[.agg #[J 0,J 0,.slice none 0 0,.slice none 0 0,.slice none 0 0,J 0,J 0],J 8]/\Below w.heap.size w w2:=by
 refine aF yo Z Z ?_
 obtain⟨hn1,hn2,hil,hkl,hf1,hf2,he0,he1,hl0,hl1,hb0,hb1,hsm⟩:=Pa.facts hok
 have hkn:=hok.known
 have hiC:=h.iC
 have hkC:=h.kC
 have hrC:=h.rC
 have hfew:=h.few
 have H:=Hp.startPa h
 obtain⟨ep,ld,isr,iA,iC,kn,kA,kC,reps,rA,rC,fw,bs⟩:=p
 simp only[Pa.a]at hkn
 dsimp only at H hn1 hn2 hil hkl hf1 hf2 he0 he1 hl0 hl1 hb0 hb1 hsm hiC hkC hrC hfew
 dsimp only at hr hl
 show CW _ _ _ _ (args [.agg #[J (ep),J (ld),.slice iA isr.length iC,.slice kA kn.length kC,.slice rA reps.length rC,J (fw),J (bs)],J (((r:Nat):Int))]) w
 refine W<|Zr<|fW H Z Z fun w1 b2 H=>eI H bv Z fun w2 b4 H=>G (Wi Z)<|U<|W<|Zr<|G (Zw aH H 1 Z Z Z)<|G (Yi Z)<|ch kw (tr ⟨ep,ld,isr,iA,iC,kn,kA,kC,reps,rA,rC,fw,bs⟩ r _ (Hp.pa H 0 Z) hok hr) Z Z ?_
 rintro _ w3 ⟨⟨ep2,ld2,is2,iA2,c1,kn2,kA2,c2,rs,rA2,c3,fw2,bs2⟩,g1,g2,g3,u1,u2,u3,rfl,ha2,ho⟩
 simp only[Pa.a,gE.mk.injEq]at ha2
 obtain⟨e1,e2,e3,e4,hma,e6,e7⟩:=ha2
 obtain rfl:ep=ep2:=e1.symm
 obtain rfl:ld=ld2:=e2.symm
 obtain rfl:isr=is2:=e3.symm
 obtain rfl:kn=kn2:=e4.symm
 obtain rfl:fw=fw2:=e6.symm
 obtain rfl:bs=bs2:=e7.symm
 have hrl:rs.length=reps.length:=by have:=congrArg cB hma;simpa using this
 obtain⟨i1,i2,i3,row1,row2,row3,hcp,hlos,-,hjn⟩:=ho
 dsimp only at i1 i2 i3 row1 row2 row3 hcp hlos hjn
 subst i1;subst i2;subst i3
 have hlo0:=H.size
 replace H:=H.joinF hjn (by intro f hf;obtain⟨r,hr,rfl⟩:=bB.1 hf;exact hlos r hr)
 replace hlos: ∀ r∈rs,w.heap.size<=r.lo:=fun r hr=>aS hlo0 (hlos r hr)
 clear hjn
 refine G (Yu Z)<|G (Xa Z Z)<|G (Xi Z Z)<|bg H 4 (#[J (ep),J (ld),.slice (Qd g1) isr.length c1,.slice (Qd g2) kn.length c2,.slice (Qd g3) rs.length c3,J (fw),J (bs)]) aK Z Z Z Z Z N N fun w4 H=>G (Wi Z)<|U<|W<|W<|Zr<|G (Yi Z)<|G (ce Z Z Z)<|U<|ZF Z<|Zk<|W<|W<|Zr<|G (Zf du Z)<|G (Zd ak H 4 Z Z Z) ?_
 refine cW (cK Z Z) Z Z Z (fun h19=> ?_) (fun h19=> ?_)
 refine G (Yb Z)<|ZN<|ZN<|ZN<|ZN<|G (Kt Z Z)<|U<|ZT Z<|W<|Zr<|G (bn (cs:= #[J (0),J (0),.slice none 0 0,.slice none 0 0,.slice none 0 0,J (0),J (0)]) cN bv N)<|bg H 3 (#[J (0),J (0),.slice none 0 0,.slice none 0 0,.slice none 0 0,J (0),J (0)]) aK Z Z Z Z Z N N fun w5 H=>G (Wi Z)<|U<|Zt ?_
 exact bG (cs0:= #[J 0,J 0,.slice none 0 0,.slice none 0 0,.slice none 0 0,J 0,J 0]) (v1:=J 8) Z aH Z (H.ent (i:=3) Z) Z Z ⟨rfl,H.below⟩
 refine G (Yb Z)<|ZG<|G (Zf du Z)<|ZG<|G (Zd ak H 4 Z Z Z)<|ZG<|G (Yi Z)<|ZG ?_
 refine cW (bp Z Z) Z Z Z (fun h24=> ?_) (fun h24=> ?_)
 refine G (N Z Z)<|U<|ZT Z<|W<|Zr<|G (bn (cs:= #[J (0),J (0),.slice none 0 0,.slice none 0 0,.slice none 0 0,J (0),J (0)]) cN bv N)<|bg H 3 (#[J (0),J (0),.slice none 0 0,.slice none 0 0,.slice none 0 0,J (0),J (0)]) aK Z Z Z Z Z N N fun w6 H=>G (Wi Z)<|U<|Zt ?_
 exact bG (cs0:= #[J 0,J 0,.slice none 0 0,.slice none 0 0,.slice none 0 0,J 0,J 0]) (v1:=J 8) Z aH Z (H.ent (i:=3) Z) Z Z ⟨rfl,H.below⟩
 exfalso;omega
theorem yZ {w0 w:World} {M:List (Nat×Obj)} {F:List cz} {g1 g2 g3:Nat} {u1 u2 u3:Array Value} (ep ld:Int) (isr:List Bool) (iC:Nat) (kn:List Int) (kC:Nat) (reps:List fg) (rC:Nat) (fw bs:Int) (l:Nat) (r:fg)
  (H:Hp w0 w ((g1,.cells u1 ji (0,0))::(g2,.cells u2 db (0,0))::(g3,.cells u3 fP (0,0))::M) F) (row1:dz eW isr iC u1) (row2:dz bW kn kC u2) (row3:dz gW reps rC u3) (hil:isr.length=reps.length) (hkl:kn.length=reps.length) (hn:reps.length<=5) (hld:ld=l) (hr:reps[l]? =some r) (hF:Bg r∈F) (hg:GL r.es r.s) (hc:(bi r.es).length<=r.cap):
  dg ab z9 [.agg #[J (ep),J (ld),.slice (Qd g1) isr.length iC,.slice (Qd g2) kn.length kC,.slice (Qd g3) reps.length rC,J (fw),J (bs)]] w fun v w2=> ∃ u4,v=.agg #[J (ep),J (ld),.slice (Qd g1) isr.length iC,.slice (Qd g2) kn.length kC,.slice (Qd g3) reps.length rC,J (fw),J (bs)]/\dz gW (reps.set l {r with high:=max r.high (min (dw isr kn 400) (r.es.length:Nat))}) rC u4/\Hp w0 w2 ((g1,.cells u1 ji (0,0))::(g2,.cells u2 db (0,0))::(g3,.cells u4 fP (0,0))::M) F:=by
 refine aF yH Z Z ?_
 have hll:=(bT hr).1
 refine W<|Zr<|fW H Z Z fun w1 b1 H=>eI H bv Z fun w2 b2 H=>U<|W<|W<|Zr<|G (Zf du Z)<|G (Zd ak H 1 Z Z Z)<|G (dd Z Z I)<|U<|ZF Z<|Zk<|W<|Zr<|G (Wi Z)<|U<|W<|W<|Zr<|G (Zf f7 Z)<|G (Zd bL H 1 Z Z Z)<|G (br eJ Z)<|G (Yi Z)<|U<|Zb ?_
 refine cy (τ:=Nat×Int) [3,4,5,16,17,18,19,20,21,22,23,24,25,26,27,28,29] (fun(k,m)=>[(16,J (k:Nat)),(3,J m)]) (fun(k,m) w'=>k<=kn.length/\dw (isr.drop k) (kn.drop k) m=dw isr kn 400/\Hp w0 w' ((b2,.cells #[J 0,J 0,.slice none 0 0,.slice none 0 0,.slice none 0 0,J 0,J 0] bM (0,0))::(b1,.cells #[J (ep),J (ld),.slice (Qd g1) isr.length iC,.slice (Qd g2) kn.length kC,.slice (Qd g3) reps.length rC,J (fw),J (bs)] bM (0,0))::(g1,.cells u1 ji (0,0))::(g2,.cells u2 db (0,0))::(g3,.cells u3 fP (0,0))::M) F) (fun(k,_)=>kn.length-k) (0,400) ⟨by omega,rfl,H⟩ (la Z Z) ?_
 rintro⟨k,m⟩ ρ1 w3 ⟨hk,hm,H⟩
 show CW _ _ _ _ (dH (gJ _ _ ρ1) [(16,J (k:Nat)),(3,J m)]) w3
 refine W<|Zr ?_
 refine cW (cK Z Z) Z Z Z (fun h17=> ?_) (fun h17=> ?_)
 refine U<|W<|ZT Z<|Zk<|W<|Zb<|W ?_
 obtain⟨n,hn_⟩: ∃ n,kn[k]? =some n:=⟨_,ai I⟩
 obtain⟨b,hb_⟩: ∃ b,isr[k]? =some b:=⟨_,ai I⟩
 refine Zr<|G (Yi Z)<|G (bV aT Z Z (by first|omega|(simp only[aa];omega)))<|G (bf ak row2 hn_ 0 Z (H.ent (i:=3) Z) Z)<|G (Wi Z)<|G (Wi Z)<|U<|W<|Zr<|G (Zf f8 Z)<|G (Zd fZ H 1 Z Z Z)<|G (Yi Z)<|G (bV dY Z Z (by first|omega|(simp only[aa];omega))) ?_
 refine wl (bf dV row1 hb_ 0 Z (H.ent (i:=2) Z) Z) Z Z Z (fun h25=> ?_) (fun h25=> ?_)
 refine U<|ZT Z<|Zr<|G (Yi Z)<|G (Yi Z)<|G (tu Z Z)<|G (Wi Z)<|U<|Zr<|G (bz Z Z I I)<|G (Yi Z)<|U ?_
 refine⟨(k+1,min m n),⟨by omega,by rw[<-hm,zV hb_ hn_];rw[if_pos h25],H⟩,la Z Z,Qg,by show kn.length- (k+1)<kn.length-k;omega⟩
 refine U<|ZF Z<|Zk<|Zr<|G (bz Z Z I I)<|G (Yi Z)<|U ?_
 refine⟨(k+1,m),⟨by omega,by rw[<-hm,zV hb_ hn_];rw[if_neg (by simp[h25])],H⟩,la Z Z,Qg,by show kn.length- (k+1)<kn.length-k;omega⟩
 have hke:k=kn.length:=by omega
 have hm2:m=dw isr kn 400:=by rw[<-hm,hke,fv];cases(isr.drop kn.length)<;>rfl
 refine U<|W<|ZF Z<|Zx<|W<|Zr<|G (Zw aH H 1 Z Z Z)<|G (Zf du Z)<|G (Zd ak H 1 Z Z Z)<|ch jA (by have hE:=pP ⟨ep,ld,isr,some ⟨g1,0,none⟩,iC,kn,some ⟨g2,0,none⟩,kC,reps,some ⟨g3,0,none⟩,rC,fw,bs⟩ l r _ (row3.rd0 (H.ent (i:=4) Z)) hr (EM H hF hg hc);rw[<-hld]at hE;exact hE) Z Z ?_
 rintro _ w4 ⟨rfl,hb⟩;replace H:=H.later hb;clear hb
 refine G (Yu Z)<|G (Xi Z Z)<|G (Xi Z Z)<|G (Wi Z)<|G (Wi Z)<|U<|W<|Zr<|G (Zf cV Z)<|G (Zd bJ H 1 Z Z Z)<|G (Zf du Z)<|G (Zd ak H 1 Z Z Z)<|G (bV (k:=l) bj Z (congrArg (Value.int .i64) hld) (by first|omega|(simp only[aa];omega)))<|G (Wp Z)<|U<|W<|Zr<|G (Yp Z)<|G (Yp Z)<|G (aG Z)<|G (Zf d4 Z)<|G (bf ak row3 hr 3 Z (H.ent (i:=4) Z) Z)<|G (Yi Z)<|G (Yi Z)<|G (tu Z Z)<|G (zO Z Z)<|G (aG Z)<|G (Zf d4 Z)<|im H 4 ({r with high:=max r.high (min m (r.es.length:Nat))}) bw row3 hr 3 Z Z Z Z Z Z N fun w6 cur5 row5 H=> ?_
 have hs7:(reps.set l ({r with high:=max r.high (min m (r.es.length:Nat))}))[l]? =some ({r with high:=max r.high (min m (r.es.length:Nat))}):=ae (bT hr).1
 refine U<|W<|Zr<|G (Zw aH H 1 Z Z Z)<|bg H 0 (#[J (ep),J (ld),.slice (Qd g1) isr.length iC,.slice (Qd g2) kn.length kC,.slice (Qd g3) reps.length rC,J (fw),J (bs)]) aK Z Z Z Z Z N N fun w8 H=>U<|Zt ?_
 exact eS (cs0:= #[J (ep),J (ld),.slice (Qd g1) isr.length iC,.slice (Qd g2) kn.length kC,.slice (Qd g3) reps.length rC,J (fw),J (bs)]) Z aH Z (H.ent (i:=0) Z) Z ⟨_,rfl,hm2▸row5,H.forget (.cons _ (.cons _ (ar _))) (fun _ h=>h)⟩
/-- the logs of replicas that a call has made -/
def qj (w:World) (F:List cz) (rs:List fg):Prop:= ∀ r∈rs,(bi r.es).length<=r.cap/\w.heap.size<=r.lo/\Bg r∈F
theorem qj.of {w:World} {F:List cz} {rs:List fg} (h1: ∀ r∈rs,(bi r.es).length<=r.cap) (h2: ∀ r∈rs,w.heap.size<=r.lo):qj w (F++sP rs) rs:=fun r hr=>⟨h1 r hr,h2 r hr,cm _ (bP hr)⟩
theorem qj.cons {w:World} {F:List cz} {f:cz} {rs:List fg} (h:qj w F rs):qj w (f::F) rs:=fun r hr=>⟨(h r hr).1,(h r hr).2.1,al _ (h r hr).2.2⟩
theorem qj.set {w:World} {F:List cz} {rs:List fg} (h:qj w F rs) (i:Nat) {x:fg} (hx:(bi x.es).length<=x.cap/\w.heap.size<=x.lo/\Bg x∈F):qj w F (rs.set i x):=fun r hr=>by
 rcases bH hr with hr|rfl
 exact h r hr
 exact hx
theorem qj.same {w:World} {F:List cz} {rs:List fg} (h:qj w F rs) (i:Nat) {x x':fg} (hx:rs[i]? =some x) (h1:x'.A=x.A) (h2:x'.cap=x.cap) (h3:x'.es=x.es) (h4:x'.lo=x.lo) (h5:x'.hi=x.hi):qj w F (rs.set i x'):=h.set i (by
 have:=h x (ah hx)
 unfold Bg at this⊢
 rw[h1,h2,h3,h4,h5];exact this)
theorem qj.log {w w0 w':World} {L:List (Nat×Obj)} {F:List cz} {rs:List fg} (h:qj w F rs) (H:Hp w0 w' L F) {i:Nat} {x:fg} (hx:rs[i]? =some x) (hg:GL x.es x.s):x.log.ok w':=by
 have h1:=h x (ah hx)
 exact EM H h1.2.2 hg h1.1
theorem ez.mk_ {w w2:World} {L:List (Nat×Obj)} {F:List cz} {p:Pa} {g1 g2 g3:Nat} {u1 u2 u3:Array Value} (i:p.iA=some ⟨g1,0,none⟩) (k:p.kA=some ⟨g2,0,none⟩) (r:p.rA=some ⟨g3,0,none⟩) (ri:dz eW p.isr p.iC u1) (rk:dz bW p.known p.kC u2) (rr:dz gW p.reps p.rC u3) (hl:qj w F p.reps)
  (few:p.isr.length<=1000000/\p.known.length<=1000000/\p.reps.length<=1000000) (H:Hp w w2 L F) (hL:(g1,Obj.cells u1 ji (0,0))∈L/\(g2,Obj.cells u2 db (0,0))∈L/\(g3,Obj.cells u3 fP (0,0))∈L):ez w w2 p:=by
 have e1:=H.ents _ hL.1
 have e2:=H.ents _ hL.2.1
 have e3:=H.ents _ hL.2.2
 refine⟨⟨?_,?_,?_,fun r hr=> ?_,ri.le,rk.le,rr.le,fun r hr=>(hl r hr).1,few⟩,H.below⟩
 rw[i];exact(ri.rd e1.1).mono e1.2 (cj e1.1)
 rw[k];exact(rk.rd e2.1).mono e2.2 (cj e2.1)
 rw[r];exact(rr.rd e3.1).mono e3.2 (cj e3.1)
 obtain⟨h1,h2,h3⟩:=hl r hr
 obtain⟨f1,f2,-⟩:=H.facts (Bg r) h3
 exact Rd.mono f1 h2 f2
theorem vD {rs reps:List fg} (hma:rs.map fg.a=reps.map fg.a) {i:Nat} {x:fg} (hx:rs[i]? =some x):(reps.map fg.a)[i]? =some x.a:=by
 rw[<-hma,aL,hx];rfl
theorem wk {rs reps:List fg} {ep ld:Int} {isr:List Bool} {iA kA rA:Option Addr} {iC kC rC:Nat} {kn:List Int} {fw bs:Int} (hma:rs.map fg.a=reps.map fg.a) (hok:(Pa.a ⟨ep,ld,isr,iA,iC,kn,kA,kC,reps,rA,rC,fw,bs⟩).ok) {i:Nat} {x:fg} (hx:rs[i]? =some x):GL x.es x.s/\0<=x.high/\x.high<=x.es.length:=by
 have h1:=hok.reps x.a (ah (show(reps.map fg.a)[i]? =_ from vD hma hx))
 exact⟨h1.gl,h1.high0,h1.high1⟩
def nJ (p:gE):gE:=match p.reps[p.leader.toNat]? with
 |some r=>if p.leader<0 then p else{p with reps:=p.reps.set p.leader.toNat {r with high:=max r.high (min (dw p.isr p.known 400) r.es.length)}}
 |none=>p
theorem wY {p:gE} {l:Nat} {r:RA} (hl:p.leader=l) (hr:p.reps[l]? =some r):nJ p={p with reps:=p.reps.set l {r with high:=max r.high (min (dw p.isr p.known 400) r.es.length)}}:=by
 have h1:p.leader.toNat=l:=by omega
 unfold nJ
 rw[h1,hr];dsimp only;rw[if_neg I]
def nU (p:gE) (r:Nat):gE×Int:=match p.reps[r]? with
 |none=>(gG,5)
 |some x=>if x.up=false then(gG,7)else
  if p.leader=r then(nJ {p with reps:=p.reps.set r {x with s:=x.es.length},known:=p.known.set r x.es.length},0)else({p with reps:=p.reps.set r {x with s:=x.es.length}},0)
def pO (p:gE) (r:Nat):gE×Int:=match p.reps[r]? with
 |none=>(gG,5)
 |some x=>if x.up=true then(gG,6)else({p with reps:=p.reps.set r {x with up:=true}},0)
theorem Ex (l:mL) (w:World) (h:l.ok w):dg ab z7 [.agg l.c.toArray] w fun v w2=> ∃ A' c',v=.tuple #[.agg #[.slice A' (bi l.es).length c',J (fR l.es l.es.length:Nat)],J 0]/\(bi l.es).length<=c'/\Rd dE w.heap.size w2.heap.size A' (bi l.es) w2/\Below w.heap.size w w2:=
 (F7 l w h).mono fun _ _ ⟨A',c',h1,h2,h3⟩=>⟨A',c',h1,h2.2.1,h2.2.2,h3⟩
theorem Kh (p:Pa) (r:Nat) (w:World) (h:p.rd 0 w.heap.size w) (hok:p.a.ok) (hr:r<p.reps.length):dg ab E9 [p.v,J (r:Nat)] w fun v w2=> ∃ p':Pa,v=.tuple #[p'.v,J (pO p.a r).2]/\p'.a=(pO p.a r).1/\ez w w2 p':=by
 refine aF DG Z Z ?_
 obtain⟨hn1,hn2,hil,hkl,hf1,hf2,he0,he1,hl0,hl1,hb0,hb1,hsm⟩:=Pa.facts hok
 have hkn:=hok.known
 have hiC:=h.iC
 have hkC:=h.kC
 have hrC:=h.rC
 have hfew:=h.few
 have H:=Hp.startPa h
 obtain⟨ep,ld,isr,iA,iC,kn,kA,kC,reps,rA,rC,fw,bs⟩:=p
 simp only[Pa.a]at hkn
 dsimp only at H hn1 hn2 hil hkl hf1 hf2 he0 he1 hl0 hl1 hb0 hb1 hsm hiC hkC hrC hfew
 dsimp only at hr
 show CW _ _ _ _ (args [.agg #[J (ep),J (ld),.slice iA isr.length iC,.slice kA kn.length kC,.slice rA reps.length rC,J (fw),J (bs)],J (((r:Nat):Int))]) w
 refine W<|Zr<|fW H Z Z fun w1 b2 H=>eI H bv Z fun w2 b4 H=>G (Wi Z)<|U<|W<|Zr<|G (Zw aH H 1 Z Z Z)<|G (Yi Z)<|ch kw (tr ⟨ep,ld,isr,iA,iC,kn,kA,kC,reps,rA,rC,fw,bs⟩ r _ (Hp.pa H 0 Z) hok hr) Z Z ?_
 rintro _ w3 ⟨⟨ep2,ld2,is2,iA2,c1,kn2,kA2,c2,rs,rA2,c3,fw2,bs2⟩,g1,g2,g3,u1,u2,u3,rfl,ha2,ho⟩
 simp only[Pa.a,gE.mk.injEq]at ha2
 obtain⟨e1,e2,e3,e4,hma,e6,e7⟩:=ha2
 obtain rfl:ep=ep2:=e1.symm
 obtain rfl:ld=ld2:=e2.symm
 obtain rfl:isr=is2:=e3.symm
 obtain rfl:kn=kn2:=e4.symm
 obtain rfl:fw=fw2:=e6.symm
 obtain rfl:bs=bs2:=e7.symm
 have hrl:rs.length=reps.length:=by have:=congrArg cB hma;simpa using this
 obtain⟨i1,i2,i3,row1,row2,row3,hcp,hlos,-,hjn⟩:=ho
 dsimp only at i1 i2 i3 row1 row2 row3 hcp hlos hjn
 subst i1;subst i2;subst i3
 have hlo0:=H.size
 replace H:=H.joinF hjn (by intro f hf;obtain⟨r,hr,rfl⟩:=bB.1 hf;exact hlos r hr)
 replace hlos: ∀ r∈rs,w.heap.size<=r.lo:=fun r hr=>aS hlo0 (hlos r hr)
 clear hjn
 have hlg:=qj.of (F:=[CQ 0 w.heap.size ⟨ep,ld,isr,iA,iC,kn,kA,kC,reps,rA,rC,fw,bs⟩,dT eW 0 w.heap.size iA isr,dT bW 0 w.heap.size kA kn,dT gW 0 w.heap.size rA reps]) hcp hlos
 have hok2: ∀ {i:Nat} {x:fg},rs[i]? =some x->GL x.es x.s/\0<=x.high/\x.high<=x.es.length:=fun hx=>wk hma hok hx
 obtain⟨x,hx⟩: ∃ x,rs[r]? =some x:=⟨_,ai I⟩
 have hxa:=vD hma hx
 refine G (Yu Z)<|G (Xa Z Z)<|G (Xi Z Z)<|bg H 4 (#[J (ep),J (ld),.slice (Qd g1) isr.length c1,.slice (Qd g2) kn.length c2,.slice (Qd g3) rs.length c3,J (fw),J (bs)]) aK Z Z Z Z Z N N fun w4 H=>G (Wi Z)<|U<|W<|W<|Zr<|G (Yi Z)<|G (ce Z Z Z)<|U<|ZF Z<|Zk<|W<|W<|Zr<|G (Zf cV Z)<|G (Zd bJ H 4 Z Z Z)<|G (Yi Z)<|G (bV bj Z Z (by first|omega|(simp only[aa];omega)))<|G (Zf dr Z) ?_
 refine wl (bf dV row3 hx 0 Z (H.ent (i:=2) Z) Z) Z Z Z (fun h22=> ?_) (fun h22=> ?_)
 have hS:pO (Pa.a ⟨ep,ld,isr,iA,iC,kn,kA,kC,reps,rA,rC,fw,bs⟩) r=(gG,6):=by simp[pO,Pa.a,hxa,fg.a,h22]
 rw[hS]
 refine U<|ZT Z<|W<|Zr<|G (bn (cs:= #[J (0),J (0),.slice none 0 0,.slice none 0 0,.slice none 0 0,J (0),J (0)]) cN bv N)<|bg H 3 (#[J (0),J (0),.slice none 0 0,.slice none 0 0,.slice none 0 0,J (0),J (0)]) aK Z Z Z Z Z N N fun w5 H=>G (Wi Z)<|U<|Zt ?_
 exact bG (cs0:= #[J 0,J 0,.slice none 0 0,.slice none 0 0,.slice none 0 0,J 0,J 0]) (v1:=J 6) Z aH Z (H.ent (i:=3) Z) Z Z ⟨zf,rfl,rfl,ez.zero H.below⟩
 have hS:pO (Pa.a ⟨ep,ld,isr,iA,iC,kn,kA,kC,reps,rA,rC,fw,bs⟩) r=({Pa.a ⟨ep,ld,isr,iA,iC,kn,kA,kC,reps,rA,rC,fw,bs⟩with reps:=(reps.map fg.a).set r {x.a with up:=true}},0):=by simp[pO,Pa.a,hxa,fg.a,h22]
 rw[hS]
 refine U<|ZF Z<|Zk<|W<|Zr<|G (Zf cV Z)<|G (Zd bJ H 4 Z Z Z)<|G (Yi Z)<|G (bV bj Z Z (by first|omega|(simp only[aa];omega)))<|G (Zf dr Z)<|im H 2 ({x with up:=true}) eo row3 hx 0 Z Z Z Z Z Z N fun w7 cur6 row6 H=> ?_
 have hs8:(rs.set r ({x with up:=true}))[r]? =some ({x with up:=true}):=ae (bT hx).1
 refine U<|W<|Zr<|G (Zw aH H 4 Z Z Z)<|bg H 3 (#[J (ep),J (ld),.slice (Qd g1) isr.length c1,.slice (Qd g2) kn.length c2,.slice (Qd g3) rs.length c3,J (fw),J (bs)]) aK Z Z Z Z Z N N fun w9 H=>G (Wi Z)<|U<|Zt ?_
 have hlg2:=hlg.same r (x':={x with up:=true}) hx Z Z Z Z Z
 exact bG (cs0:= #[J (ep),J (ld),.slice (Qd g1) isr.length c1,.slice (Qd g2) kn.length c2,.slice (Qd g3) rs.length c3,J (fw),J (bs)]) (v1:=J 0) Z aH Z (H.ent (i:=3) Z) Z Z ⟨_,by simp[Pa.c],by simp[Pa.a,cD,hma,fg.a],(ez.mk_ (p:=⟨ep,ld,isr,some ⟨g1,0,none⟩,c1,kn,some ⟨g2,0,none⟩,c2,rs.set r {x with up:=true},some ⟨g3,0,none⟩,c3,fw,bs⟩) Z Z Z row1 row2 row6 hlg2 (by dsimp only;try simp only[aa];omega) H ⟨by simp,by simp,by simp⟩)⟩
theorem Kg (p:Pa) (r:Nat) (w:World) (h:p.rd 0 w.heap.size w) (hok:p.a.ok) (hr:r<p.reps.length):dg ab E8 [p.v,J (r:Nat)] w fun v w2=> ∃ p':Pa,v=.tuple #[p'.v,J (nU p.a r).2]/\p'.a=(nU p.a r).1/\ez w w2 p':=by
 refine aF DF Z Z ?_
 obtain⟨hn1,hn2,hil,hkl,hf1,hf2,he0,he1,hl0,hl1,hb0,hb1,hsm⟩:=Pa.facts hok
 have hkn:=hok.known
 have hiC:=h.iC
 have hkC:=h.kC
 have hrC:=h.rC
 have hfew:=h.few
 have H:=Hp.startPa h
 obtain⟨ep,ld,isr,iA,iC,kn,kA,kC,reps,rA,rC,fw,bs⟩:=p
 simp only[Pa.a]at hkn
 dsimp only at H hn1 hn2 hil hkl hf1 hf2 he0 he1 hl0 hl1 hb0 hb1 hsm hiC hkC hrC hfew
 dsimp only at hr
 show CW _ _ _ _ (args [.agg #[J (ep),J (ld),.slice iA isr.length iC,.slice kA kn.length kC,.slice rA reps.length rC,J (fw),J (bs)],J (((r:Nat):Int))]) w
 refine W<|Zr<|fW H Z Z fun w1 b2 H=>eI H bv Z fun w2 b4 H=>G (Wi Z)<|U<|W<|Zr<|G (Zw aH H 1 Z Z Z)<|G (Yi Z)<|ch kw (tr ⟨ep,ld,isr,iA,iC,kn,kA,kC,reps,rA,rC,fw,bs⟩ r _ (Hp.pa H 0 Z) hok hr) Z Z ?_
 rintro _ w3 ⟨⟨ep2,ld2,is2,iA2,c1,kn2,kA2,c2,rs,rA2,c3,fw2,bs2⟩,g1,g2,g3,u1,u2,u3,rfl,ha2,ho⟩
 simp only[Pa.a,gE.mk.injEq]at ha2
 obtain⟨e1,e2,e3,e4,hma,e6,e7⟩:=ha2
 obtain rfl:ep=ep2:=e1.symm
 obtain rfl:ld=ld2:=e2.symm
 obtain rfl:isr=is2:=e3.symm
 obtain rfl:kn=kn2:=e4.symm
 obtain rfl:fw=fw2:=e6.symm
 obtain rfl:bs=bs2:=e7.symm
 have hrl:rs.length=reps.length:=by have:=congrArg cB hma;simpa using this
 obtain⟨i1,i2,i3,row1,row2,row3,hcp,hlos,-,hjn⟩:=ho
 dsimp only at i1 i2 i3 row1 row2 row3 hcp hlos hjn
 subst i1;subst i2;subst i3
 have hlo0:=H.size
 replace H:=H.joinF hjn (by intro f hf;obtain⟨r,hr,rfl⟩:=bB.1 hf;exact hlos r hr)
 replace hlos: ∀ r∈rs,w.heap.size<=r.lo:=fun r hr=>aS hlo0 (hlos r hr)
 clear hjn
 have hlg:=qj.of (F:=[CQ 0 w.heap.size ⟨ep,ld,isr,iA,iC,kn,kA,kC,reps,rA,rC,fw,bs⟩,dT eW 0 w.heap.size iA isr,dT bW 0 w.heap.size kA kn,dT gW 0 w.heap.size rA reps]) hcp hlos
 have hok2: ∀ {i:Nat} {x:fg},rs[i]? =some x->GL x.es x.s/\0<=x.high/\x.high<=x.es.length:=fun hx=>wk hma hok hx
 obtain⟨x,hx⟩: ∃ x,rs[r]? =some x:=⟨_,ai I⟩
 have hxa:=vD hma hx
 refine G (Yu Z)<|G (Xa Z Z)<|G (Xi Z Z)<|bg H 4 (#[J (ep),J (ld),.slice (Qd g1) isr.length c1,.slice (Qd g2) kn.length c2,.slice (Qd g3) rs.length c3,J (fw),J (bs)]) aK Z Z Z Z Z N N fun w4 H=>G (Wi Z)<|U<|W<|W<|Zr<|G (Yi Z)<|G (ce Z Z Z)<|U<|ZF Z<|Zk<|W<|W<|Zr<|G (Zf cV Z)<|G (Zd bJ H 4 Z Z Z)<|G (Yi Z)<|G (bV bj Z Z (by first|omega|(simp only[aa];omega)))<|G (Zf dr Z) ?_
 refine wl (bf dV row3 hx 0 Z (H.ent (i:=2) Z) Z) Z Z Z (fun h22=> ?_) (fun h22=> ?_)
 refine G (dR Z)<|U<|ZF Z<|Zk<|W ?_
 have hlo:=H.size
 refine bD ci [0,1,2,3,4,5,6,7,8,9,10,11,12,13,14] [15] [9] [0,2,3,5,6,7,10,11,12,13,14] (sp [(9,Sp.nrow w4.heap.size dE (bi x.es) (fun A c=> .tuple #[.agg #[.slice A (bi x.es).length c,J (fR x.es x.es.length:Nat)],J 0]))]) N N N N Nq (cJ _) ?_
 refine aw Z Z Z Z Z (fun w' hw'=>Zf cV Z)<|aw Z Z Z Z Z (fun w' hw'=>aX bJ Z (aD ((H.later hw').ent (i:=4) Z) Z))<|aw Z Z Z Z Z (fun w' hw'=>Yi Z)<|aw Z Z Z Z Z (fun w' hw'=>Zf cV Z)<|aw Z Z Z Z Z (fun w' hw'=>aX bJ Z (aD ((H.later hw').ent (i:=4) Z) Z))<|aw Z Z Z Z Z (fun w' hw'=>Yi Z)<|aw Z Z Z Z Z (fun w' hw'=>bV bj Z Z (by first|omega|(simp only[aa];omega)))<|aw Z Z Z Z Z (fun w' hw'=>Zf da Z)<|aw Z Z Z Z Z (fun w' hw'=>tB 1 [.slice x.A ((bi x.es).length) x.cap,J (((fR x.es x.s:Nat):Int))] eO row3 hx Z Z ((H.later hw').ent (i:=2) Z) Z)<|G4 (gv:=(fun A c=> .tuple #[.agg #[.slice A (bi x.es).length c,J (fR x.es x.es.length:Nat)],J 0])) FE Z Z Z Z Z (fun w' hw'=>hw'.size) (fun w' hw'=>Ex (fg.log x) w' (hlg.log (H.later hw') hx (hok2 hx).1)) Z fun A35 c35 hc35=>aw Z Z Z Z Z (fun w' hw'=>Yu Z)<|aw Z Z Z Z Z (fun w' hw'=>Xa Z Z)<|aw Z Z Z Z Z (fun w' hw'=>Xi Z Z)<|aw Z Z Z Z Z (fun w' hw'=>bV bj Z Z (by first|omega|(simp only[aa];omega)))<|aw Z Z Z Z Z (fun w' hw'=>Zf da Z)<|aQ ?_
 intro w5 hw' hF
 obtain⟨hF,Aq,cq,eq,hcq,hrw35⟩:=hF;cases eq;clear hcq
 replace H:=H.learnRd hw' hrw35
 clear hw' hF
 refine im H 2 ({x with A:=A35,cap:=c35,s:=x.es.length,lo:=w4.heap.size,hi:=w5.heap.size}) gI row3 hx 1 Z Z Z Z Z Z N fun w7 cur6 row6 H=> ?_
 have hs8:(rs.set r ({x with A:=A35,cap:=c35,s:=x.es.length,lo:=w4.heap.size,hi:=w5.heap.size}))[r]? =some ({x with A:=A35,cap:=c35,s:=x.es.length,lo:=w4.heap.size,hi:=w5.heap.size}):=ae (bT hx).1
 refine U<|W<|W ?_
 have hlg1:=(hlg.cons (f:=dT dE w4.heap.size w5.heap.size A35 (bi x.es))).set r (x:={x with A:=A35,cap:=c35,s:=x.es.length,lo:=w4.heap.size,hi:=w5.heap.size}) ⟨hc35,hlo,fG _⟩
 have hs9:(rs.set r {x with A:=A35,cap:=c35,s:=x.es.length,lo:=w4.heap.size,hi:=w5.heap.size})[r]? =some {x with A:=A35,cap:=c35,s:=x.es.length,lo:=w4.heap.size,hi:=w5.heap.size}:=ae I
 have hF9:=(hlg1 _ (ah hs9)).2.2
 have hc9:=(hlg1 _ (ah hs9)).1
 refine Zr<|G (Yi Z)<|G (Zf du Z)<|G (Zd ak H 4 Z Z Z) ?_
 refine cW (bp Z Z) Z Z Z (fun h43=> ?_) (fun h43=> ?_)
 refine U<|ZT Z<|W ?_
 obtain⟨kx,hkx⟩: ∃ kx,kn[r]? =some kx:=⟨_,ai I⟩
 refine bD ci [0,1,2,3,4,5,6,7,8,9] [10] [5] [0,2,4,6,7,8,9] (sp [(5,Sp.one (.tuple #[J ((x.es.length:Nat):Int),J ((x.es.length:Nat):Int)]))]) N N N N Nq (cJ _) ?_
 refine aw Z Z Z Z Z (fun w' hw'=>Zf f7 Z)<|aw Z Z Z Z Z (fun w' hw'=>aX bL Z (aD ((H.later hw').ent (i:=4) Z) Z))<|aw Z Z Z Z Z (fun w' hw'=>Yi Z)<|aw Z Z Z Z Z (fun w' hw'=>jW aH Z ((H.later hw').ent (i:=4) Z) Z)<|aw Z Z Z Z Z (fun w' hw'=>Yi Z)<|hJ jA Z Z Z Z Z (fun w' hw'=>(by have hA:=pP ⟨ep,ld,isr,some ⟨g1,0,none⟩,c1,kn,some ⟨g2,0,none⟩,c2,rs.set r {x with A:=A35,cap:=c35,s:=x.es.length,lo:=w4.heap.size,hi:=w5.heap.size},some ⟨g3,0,none⟩,c3,fw,bs⟩ r {x with A:=A35,cap:=c35,s:=x.es.length,lo:=w4.heap.size,hi:=w5.heap.size} w' (row6.rd0 ((H.later hw').ent (i:=2) Z)) hs9 (hlg1.log (H.later hw') hs9 (hok2 hx).1.all);simp only[Pa.v,Pa.c,aa]at hA;exact hA)) Z<|aw Z Z Z Z Z (fun w' hw'=>Yu Z)<|aw Z Z Z Z Z (fun w' hw'=>Xi Z Z)<|aw Z Z Z Z Z (fun w' hw'=>Xi Z Z)<|aw Z Z Z Z Z (fun w' hw'=>bV aT Z Z (by first|omega|(simp only[aa];omega)))<|aQ ?_
 intro w9 hw' hF
 replace H:=H.later hw';clear hw' hF
 refine im H 1 ((((x.es.length:Nat):Int))) bw row2 hkx 0 Z Z Z Z Z Z N fun w11 cur10 row10 H=> ?_
 have hs12:(kn.set r ((((x.es.length:Nat):Int))))[r]? =some ((((x.es.length:Nat):Int))):=ae (bT hkx).1
 refine U<|Zr<|G (Zw aH H 4 Z Z Z)<|ch lz ((by have hA:=yZ ep ld isr c1 (kn.set r ((x.es.length:Nat):Int)) c2 (rs.set r {x with A:=A35,cap:=c35,s:=x.es.length,lo:=w4.heap.size,hi:=w5.heap.size}) c3 fw bs r ({x with A:=A35,cap:=c35,s:=x.es.length,lo:=w4.heap.size,hi:=w5.heap.size}) H row1 row10 row6 (by simp only[aa];omega) (by simp only[aa,cn];omega) (by simp only[aa];omega) h43.symm hs9 hF9 (hok2 hx).1.all hc9;simp only[Pa.v,Pa.c,aa]at hA;exact hA)) Z Z ?_
 rintro _ w13 ⟨u9,rfl,row9,H⟩
 refine bg H 4 (#[J (ep),J (ld),.slice (Qd g1) isr.length c1,.slice (Qd g2) kn.length c2,.slice (Qd g3) rs.length c3,J (fw),J (bs)]) aK Z Z Z Z Z N N fun w14 H=>U<|W<|Zr<|G (Zw aH H 4 Z Z Z)<|bg H 3 (#[J (ep),J (ld),.slice (Qd g1) isr.length c1,.slice (Qd g2) kn.length c2,.slice (Qd g3) rs.length c3,J (fw),J (bs)]) aK Z Z Z Z Z N N fun w15 H=>G (Wi Z)<|U<|Zt ?_
 have hS:nU (Pa.a ⟨ep,ld,isr,iA,iC,kn,kA,kC,reps,rA,rC,fw,bs⟩) r=(nJ {Pa.a ⟨ep,ld,isr,iA,iC,kn,kA,kC,reps,rA,rC,fw,bs⟩with reps:=(reps.map fg.a).set r {x.a with s:=x.es.length},known:=kn.set r ((x.es.length:Nat):Int)},0):=by simp[nU,Pa.a,hxa,fg.a,h22,<-h43]
 rw[hS]
 rw[wY (l:=r) (r:={x.a with s:=x.es.length}) h43.symm (ae (by simp;omega))]
 have hlg2:=hlg1.same r (x':={x with A:=A35,cap:=c35,s:=x.es.length,lo:=w4.heap.size,hi:=w5.heap.size,high:=max x.high (min (dw isr (kn.set r ((x.es.length:Nat):Int)) 400) (x.es.length:Nat))}) hs9 Z Z Z Z Z
 exact bG (cs0:= #[J (ep),J (ld),.slice (Qd g1) isr.length c1,.slice (Qd g2) kn.length c2,.slice (Qd g3) rs.length c3,J (fw),J (bs)]) (v1:=J 0) Z aH Z (H.ent (i:=3) Z) Z Z ⟨_,by simp[Pa.c],by simp[Pa.a,cD,hma,fg.a],(ez.mk_ (p:=⟨ep,ld,isr,some ⟨g1,0,none⟩,c1,kn.set r ((x.es.length:Nat):Int),some ⟨g2,0,none⟩,c2,_,some ⟨g3,0,none⟩,c3,fw,bs⟩) Z Z Z row1 row10 row9 hlg2 (by dsimp only;try simp only[aa];omega) H ⟨by simp,by simp,by simp⟩)⟩
 refine U<|ZF Z<|Zk<|W<|Zr<|G (Zw aH H 4 Z Z Z)<|bg H 3 (#[J (ep),J (ld),.slice (Qd g1) isr.length c1,.slice (Qd g2) kn.length c2,.slice (Qd g3) rs.length c3,J (fw),J (bs)]) aK Z Z Z Z Z N N fun w16 H=>G (Wi Z)<|U<|Zt ?_
 have hS:nU (Pa.a ⟨ep,ld,isr,iA,iC,kn,kA,kC,reps,rA,rC,fw,bs⟩) r=({Pa.a ⟨ep,ld,isr,iA,iC,kn,kA,kC,reps,rA,rC,fw,bs⟩with reps:=(reps.map fg.a).set r {x.a with s:=x.es.length}},0):=by simp[nU,Pa.a,hxa,fg.a,h22,show¬ ld=(r:Int)from fun h=>h43 h.symm]
 rw[hS]
 exact bG (cs0:= #[J (ep),J (ld),.slice (Qd g1) isr.length c1,.slice (Qd g2) kn.length c2,.slice (Qd g3) rs.length c3,J (fw),J (bs)]) (v1:=J 0) Z aH Z (H.ent (i:=3) Z) Z Z ⟨_,by simp[Pa.c],by simp[Pa.a,cD,hma,fg.a],(ez.mk_ (p:=⟨ep,ld,isr,some ⟨g1,0,none⟩,c1,kn,some ⟨g2,0,none⟩,c2,rs.set r {x with A:=A35,cap:=c35,s:=x.es.length,lo:=w4.heap.size,hi:=w5.heap.size},some ⟨g3,0,none⟩,c3,fw,bs⟩) Z Z Z row1 row2 row6 hlg1 (by dsimp only;try simp only[aa];omega) H ⟨by simp,by simp,by simp⟩)⟩
 refine G (dR Z)<|U<|ZT Z<|W<|Zr<|G (bn (cs:= #[J (0),J (0),.slice none 0 0,.slice none 0 0,.slice none 0 0,J (0),J (0)]) cN bv N)<|bg H 3 (#[J (0),J (0),.slice none 0 0,.slice none 0 0,.slice none 0 0,J (0),J (0)]) aK Z Z Z Z Z N N fun w17 H=>G (Wi Z)<|U<|Zt ?_
 have hS:nU (Pa.a ⟨ep,ld,isr,iA,iC,kn,kA,kC,reps,rA,rC,fw,bs⟩) r=(gG,7):=by simp[nU,Pa.a,hxa,fg.a,h22]
 rw[hS]
 exact bG (cs0:= #[J 0,J 0,.slice none 0 0,.slice none 0 0,.slice none 0 0,J 0,J 0]) (v1:=J 7) Z aH Z (H.ent (i:=3) Z) Z Z ⟨zf,rfl,rfl,ez.zero H.below⟩
end Go.Proofs.YtclibalpdhhhfaaGreat
