/- Part 1 of the proofs over this seat: what its theorems say holds for every input that they name. -/
import Derived.Test.YtclibalpdhhhfaaGreatFE0
namespace Go.Proofs.YtclibalpdhhhfaaGreat
open Go Go.Eng Go.RowKit
open Go.Eng renaming nG→U, BH→W, KA→Zr, OL→Zk, Rh→Zt, QD→Zb, QW→Zx, Rr→Yi, Rs→Yb, Rp→Ys, Rq→Yp, Ro→Yt, Rm→Yu, RH→Wi, RI→Wb, RF→Ws, RG→Wp, RE→Wt, Rv→Zf, Ry→Xi, RC→Xa, Rz→Xb, Rx→Xs, Q3→Kt, Q4→N, pV→ZT, oQ→ZF
open Go.Proofs.Tryz renaming prog→aa
open _root_.List renaming mem_of_getElem?→ab,length_set→ae,getElem?_eq_getElem→ah,mem_cons_of_mem→aj,getElem?_set_self→al,mem_append→ap,mem_singleton→aq,mem_cons→ax,length_append→ay,mem_cons_self→az,getElem?_eq_some_iff→aA,append_assoc→aD,length_take→aI,getElem?_map→aL,mem_or_eq_of_mem_set→aM,findIdx?_eq_some_iff_getElem→aS,mem_iff_getElem?→aT,sublist_cons_self→aY,append_nil→aZ,map_append→bl,mem_map→bp,length_replicate→bI,length_map→bJ,take_length→bN,length_singleton→bO,mem_map_of_mem→bS,eq_nil_of_length_eq_zero→bT,mem_nil_iff→bU,length_cons→bV,getElem?_append_right→bX,getD_eq_getElem?_getD→bY,length→ci,mem_append_right→cj,getElem?_append_left→cu,map_set→cE,findIdx?_eq_none_iff→cV,take_take→dk,getElem?_drop→dx,length_drop→dI,mem_singleton_self→d5,all_eq_true→eh,ext_getElem?→en,drop_of_length_le→eo,map_cons→ey,getElem?_take_of_lt→fb,drop_length→fA,take_of_length_le→gk,flatMap_cons→gp,take_append_drop→gQ,take_append_of_le_length→iu,mem_append_left→iv,take_left→ji,filter_append→jj,take_subset→j9,drop_drop→kb,nodup_cons→kX,nil_append→kY,getElem?_set→lD,perm_append_singleton→mi,map_nil→mB,drop_eq_getElem_cons→m9,take_succ_cons→na,flatMap_append→nb,getElem?_cons_succ→oW,nodup_append→px,find?_cons_of_neg→pz,perm_middle→qz,cons_append→qA,any_eq_false→uD,nil_sublist→vT,filter_eq_nil_iff→wF,length_nil→xL,mem_of_mem_take→zi,set_cons_zero→B3,range→B4,find?_eq_none→B5,take_succ_eq_append_getElem→DJ
open _root_.List.Perm renaming swap→am
open _root_.Nat renaming le_refl→ao,le_trans→aU,min_eq_left→bu,zero_le→bG,zero_add→cJ,add_mul→cR,mul_le_mul_right→dp,le_of_ble_eq_true→fl,mod_eq_of_lt→g7,lt_or_ge→iT,mod_lt→jJ,add_sub_cancel_left→j8,add_assoc→lg,sub_self→my,le_of_lt→mz,two_pow_add_eq_or_of_lt→ss,add_zero→su,add_comm→sv,div_lt_of_lt_mul→zg,mul_comm→DI
open _root_.List.Sublist renaming refl→ar
open _root_.Bool renaming and_eq_true→aR,true_and→hJ
open _root_.Option.some renaming inj→ba
open _root_.Array renaming length_toList→cn
open _root_.Int renaming le_refl→fj,toNat_natCast→uE
open _root_.List.Mem renaming head→fM,tail→qK
set_option maxHeartbeats 4000000
set_option maxRecDepth 20000
set_option linter.unusedSimpArgs false
set_option linter.unusedVariables false
set_option linter.unusedSectionVars false
section
open Go Go.Eng
theorem cd:aa.follows .mixedOrders=true:=by kernel_rfl
abbrev db:TypeId:=3
theorem ak:pK aa 3=true:=by kernel_rfl
theorem bH:(aa.info? 3).map (·.size)=some 1:=by kernel_rfl
theorem iF:pg aa 3 .i64=true:=by kernel_rfl
theorem wI:(aa.info? 3).bind (·.zero)=some (.int .i64 0):=by kernel_rfl
abbrev jr:TypeId:=4
theorem dS:pK aa 4=true:=by kernel_rfl
theorem iU:(aa.info? 4).map (·.size)=some 1:=by kernel_rfl
theorem wN:aa.underlying 4=some .bool:=by kernel_rfl
abbrev m4:TypeId:=5
theorem mJ:pK aa 5=true:=by kernel_rfl
theorem iE:pg aa 5 .u8=true:=by kernel_rfl
theorem zX:(aa.info? 5).bind (·.zero)=some (.int .u8 0):=by kernel_rfl
abbrev kL:TypeId:=9
theorem bd:pK aa 9=true:=by kernel_rfl
theorem Af:(aa.info? 9).map (·.size)=some 1:=by kernel_rfl
theorem jy:wP aa 9=true:=by kernel_rfl
theorem wH:(aa.info? 9).bind (·.zero)=some (.string ⟨#[]⟩):=by kernel_rfl
theorem Dj:pg aa 21 .i32=true:=by kernel_rfl
theorem NL:d6 aa 22 76 4=true:=by kernel_rfl
theorem Mz:pL aa 22=true:=by kernel_rfl
abbrev m5:TypeId:=24
theorem sg:lz aa 24 4=true:=by kernel_rfl
theorem C9:(aa.info? 24).map (·.size)=some 4:=by kernel_rfl
theorem Lw:hM aa 24 [(0,1),(1,1),(2,1),(3,1)]=true:=by kernel_rfl
theorem qn:cf aa 24 0 0=true:=by kernel_rfl
theorem lP:cf aa 24 1 1=true:=by kernel_rfl
theorem By:cf aa 24 2 2=true:=by kernel_rfl
theorem Bx:cf aa 24 3 3=true:=by kernel_rfl
theorem DN:(aa.info? 24).bind (·.zero)=some (.agg #[.int .i64 0,.int .i64 0,.int .i64 0,.int .i64 0]):=by kernel_rfl
theorem uK:d6 aa 26 72 7=true:=by kernel_rfl
theorem AO:pL aa 26=true:=by kernel_rfl
theorem xI:E5 aa 26 72 7 72=true:=by kernel_rfl
theorem iB:d6 aa 28 63 3=true:=by kernel_rfl
theorem yU:pL aa 28=true:=by kernel_rfl
theorem IE:E5 aa 28 63 3 40=true:=by kernel_rfl
theorem ex:pK aa 29=true:=by kernel_rfl
theorem uL:(aa.info? 29).map (·.size)=some 1:=by kernel_rfl
theorem iz:d6 aa 29 47 7=true:=by kernel_rfl
theorem l6:pL aa 29=true:=by kernel_rfl
theorem xH:E5 aa 29 47 7 104=true:=by kernel_rfl
theorem dL:pK aa 30=true:=by kernel_rfl
theorem Aj:(aa.info? 30).map (·.size)=some 1:=by kernel_rfl
theorem gM:d6 aa 30 89 7=true:=by kernel_rfl
theorem ln:pL aa 30=true:=by kernel_rfl
theorem Jg:E5 aa 30 89 7 80=true:=by kernel_rfl
abbrev bi:TypeId:=32
theorem av:lz aa 32 4=true:=by kernel_rfl
theorem aF:(aa.info? 32).map (·.size)=some 4:=by kernel_rfl
theorem fG:hM aa 32 [(0,1),(1,1),(2,1),(3,1)]=true:=by kernel_rfl
theorem kB:cf aa 32 0 0=true:=by kernel_rfl
theorem kz:cf aa 32 1 1=true:=by kernel_rfl
theorem wr:cf aa 32 2 2=true:=by kernel_rfl
theorem cQ:cf aa 32 3 3=true:=by kernel_rfl
theorem cM:(aa.info? 32).bind (·.zero)=some (.agg #[.int .i64 0,.int .i64 0,.int .i64 0,.slice none 0 0]):=by kernel_rfl
theorem du:pK aa 33=true:=by kernel_rfl
theorem tO:(aa.info? 33).map (·.size)=some 1:=by kernel_rfl
theorem eG:d6 aa 33 94 3=true:=by kernel_rfl
theorem gB:pL aa 33=true:=by kernel_rfl
theorem BS:E5 aa 33 94 3 48=true:=by kernel_rfl
abbrev yG:TypeId:=34
theorem eC:pK aa 34=true:=by kernel_rfl
theorem om:(aa.info? 34).map (·.size)=some 1:=by kernel_rfl
theorem cZ:d6 aa 34 99 2=true:=by kernel_rfl
theorem im:pL aa 34=true:=by kernel_rfl
theorem wx:E5 aa 34 99 2 16=true:=by kernel_rfl
abbrev cO:TypeId:=36
theorem aQ:lz aa 36 5=true:=by kernel_rfl
theorem bD:(aa.info? 36).map (·.size)=some 5:=by kernel_rfl
theorem kc:hM aa 36 [(0,1),(1,1),(2,1),(3,1),(4,1)]=true:=by kernel_rfl
theorem jG:cf aa 36 0 0=true:=by kernel_rfl
theorem wq:cf aa 36 1 1=true:=by kernel_rfl
theorem kw:cf aa 36 2 2=true:=by kernel_rfl
theorem dK:cf aa 36 3 3=true:=by kernel_rfl
theorem dW:cf aa 36 4 4=true:=by kernel_rfl
theorem d8:(aa.info? 36).bind (·.zero)=some (.agg #[.int .i64 0,.int .i64 0,.int .i64 0,.slice none 0 0,.slice none 0 0]):=by kernel_rfl
theorem kg:pK aa 37=true:=by kernel_rfl
theorem Fw:(aa.info? 37).map (·.size)=some 1:=by kernel_rfl
theorem sG:d6 aa 37 140 6=true:=by kernel_rfl
theorem tV:pL aa 37=true:=by kernel_rfl
theorem ID:E5 aa 37 140 6 88=true:=by kernel_rfl
abbrev ra:TypeId:=39
theorem nZ:lz aa 39 11=true:=by kernel_rfl
theorem nA:(aa.info? 39).map (·.size)=some 11:=by kernel_rfl
theorem Lv:hM aa 39 [(0,1),(1,4),(5,5),(10,1)]=true:=by kernel_rfl
theorem dJ:cf aa 39 0 0=true:=by kernel_rfl
theorem eI:cf aa 39 1 1=true:=by kernel_rfl
theorem jF:cf aa 39 2 5=true:=by kernel_rfl
theorem ku:cf aa 39 3 10=true:=by kernel_rfl
theorem qL:(aa.info? 39).bind (·.zero)=some (.agg #[.slice none 0 0,.int .i64 0,.int .i64 0,.int .i64 0,.slice none 0 0,.int .i64 0,.int .i64 0,.int .i64 0,.slice none 0 0,.slice none 0 0,.slice none 0 0]):=by kernel_rfl
theorem gN:pK aa 43=true:=by kernel_rfl
theorem JB:(aa.info? 43).map (·.size)=some 1:=by kernel_rfl
theorem ed:d6 aa 43 4 1=true:=by kernel_rfl
theorem yh:pL aa 43=true:=by kernel_rfl
theorem Ni:E5 aa 43 4 1 1=true:=by kernel_rfl
abbrev yF:TypeId:=44
theorem cy:pK aa 44=true:=by kernel_rfl
theorem jK:(aa.info? 44).map (·.size)=some 1:=by kernel_rfl
theorem bc:d6 aa 44 3 1=true:=by kernel_rfl
theorem eM:pL aa 44=true:=by kernel_rfl
theorem zP:E5 aa 44 3 1 8=true:=by kernel_rfl
theorem bW:pK aa 45=true:=by kernel_rfl
theorem DZ:(aa.info? 45).map (·.size)=some 1:=by kernel_rfl
theorem bx:d6 aa 45 56 4=true:=by kernel_rfl
theorem ib:pL aa 45=true:=by kernel_rfl
theorem GX:E5 aa 45 56 4 48=true:=by kernel_rfl
abbrev bF:TypeId:=47
theorem aH:lz aa 47 7=true:=by kernel_rfl
theorem aK:(aa.info? 47).map (·.size)=some 7:=by kernel_rfl
theorem cN:hM aa 47 [(0,1),(1,1),(2,1),(3,1),(4,1),(5,1),(6,1)]=true:=by kernel_rfl
theorem p5:cf aa 47 0 0=true:=by kernel_rfl
theorem dt:cf aa 47 1 1=true:=by kernel_rfl
theorem gi:cf aa 47 2 2=true:=by kernel_rfl
theorem gh:cf aa 47 3 3=true:=by kernel_rfl
theorem cU:cf aa 47 4 4=true:=by kernel_rfl
theorem yv:cf aa 47 5 5=true:=by kernel_rfl
theorem u6:cf aa 47 6 6=true:=by kernel_rfl
theorem bv:(aa.info? 47).bind (·.zero)=some (.agg #[.int .i64 0,.int .i64 0,.slice none 0 0,.slice none 0 0,.slice none 0 0,.int .i64 0,.int .i64 0]):=by kernel_rfl
theorem nD:pK aa 48=true:=by kernel_rfl
theorem dV:d6 aa 48 59 7=true:=by kernel_rfl
theorem eH:pL aa 48=true:=by kernel_rfl
theorem KL:E5 aa 48 59 7 64=true:=by kernel_rfl
theorem uO:pK aa 49=true:=by kernel_rfl
theorem d9:pK aa 52=true:=by kernel_rfl
theorem Da:(aa.info? 52).map (·.size)=some 1:=by kernel_rfl
theorem ec:d6 aa 52 5 1=true:=by kernel_rfl
theorem eO:pL aa 52=true:=by kernel_rfl
theorem oT:E5 aa 52 5 1 1=true:=by kernel_rfl
theorem DO:(aa.info? 52).bind (·.zero)=some (.slice none 0 0):=by kernel_rfl
abbrev BW:TypeId:=54
theorem eV:lz aa 54 2=true:=by kernel_rfl
theorem jl:(aa.info? 54).map (·.size)=some 2:=by kernel_rfl
theorem tN:hM aa 54 [(0,1),(1,1)]=true:=by kernel_rfl
theorem gG:cf aa 54 0 0=true:=by kernel_rfl
theorem ls:cf aa 54 1 1=true:=by kernel_rfl
theorem p6:(aa.info? 54).bind (·.zero)=some (.agg #[.slice none 0 0,.int .i64 0]):=by kernel_rfl
abbrev fZ:TypeId:=56
theorem oU:lz aa 56 4=true:=by kernel_rfl
theorem lW:(aa.info? 56).map (·.size)=some 4:=by kernel_rfl
theorem Hj:hM aa 56 [(0,1),(1,2),(3,1)]=true:=by kernel_rfl
theorem fB:cf aa 56 0 0=true:=by kernel_rfl
theorem dA:cf aa 56 1 1=true:=by kernel_rfl
theorem dZ:cf aa 56 2 3=true:=by kernel_rfl
theorem pZ:(aa.info? 56).bind (·.zero)=some (.agg #[.bool false,.slice none 0 0,.int .i64 0,.int .i64 0]):=by kernel_rfl
abbrev dw:TypeId:=59
theorem dG:lz aa 59 7=true:=by kernel_rfl
theorem eW:(aa.info? 59).map (·.size)=some 7:=by kernel_rfl
theorem ol:hM aa 59 [(0,1),(1,1),(2,1),(3,1),(4,1),(5,1),(6,1)]=true:=by kernel_rfl
theorem nR:cf aa 59 0 0=true:=by kernel_rfl
theorem fp:cf aa 59 1 1=true:=by kernel_rfl
theorem eJ:cf aa 59 2 2=true:=by kernel_rfl
theorem fg:cf aa 59 3 3=true:=by kernel_rfl
theorem ff:cf aa 59 4 4=true:=by kernel_rfl
theorem jd:cf aa 59 5 5=true:=by kernel_rfl
theorem qo:cf aa 59 6 6=true:=by kernel_rfl
theorem gu:(aa.info? 59).bind (·.zero)=some (.agg #[.int .i64 0,.int .i64 0,.int .i64 0,.int .i64 0,.int .i64 0,.bool false,.string ⟨#[]⟩]):=by kernel_rfl
abbrev mh:TypeId:=61
theorem jt:pK aa 61=true:=by kernel_rfl
theorem Fv:(aa.info? 61).map (·.size)=some 1:=by kernel_rfl
theorem iy:d6 aa 61 9 1=true:=by kernel_rfl
theorem l5:pL aa 61=true:=by kernel_rfl
theorem ww:E5 aa 61 9 1 16=true:=by kernel_rfl
abbrev eg:TypeId:=63
theorem aN:lz aa 63 3=true:=by kernel_rfl
theorem aP:(aa.info? 63).map (·.size)=some 3:=by kernel_rfl
theorem iQ:hM aa 63 [(0,1),(1,1),(2,1)]=true:=by kernel_rfl
theorem qU:cf aa 63 0 0=true:=by kernel_rfl
theorem mf:cf aa 63 1 1=true:=by kernel_rfl
theorem y9:cf aa 63 2 2=true:=by kernel_rfl
theorem dr:(aa.info? 63).bind (·.zero)=some (.agg #[.int .i64 0,.int .i64 0,.slice none 0 0]):=by kernel_rfl
abbrev gj:TypeId:=72
theorem dQ:lz aa 72 7=true:=by kernel_rfl
theorem iV:(aa.info? 72).map (·.size)=some 7:=by kernel_rfl
theorem gR:hM aa 72 [(0,1),(1,1),(2,1),(3,1),(4,1),(5,1),(6,1)]=true:=by kernel_rfl
theorem mW:cf aa 72 0 0=true:=by kernel_rfl
theorem fh:cf aa 72 1 1=true:=by kernel_rfl
theorem dT:cf aa 72 2 2=true:=by kernel_rfl
theorem eT:cf aa 72 3 3=true:=by kernel_rfl
theorem GH:cf aa 72 4 4=true:=by kernel_rfl
theorem Bz:cf aa 72 5 5=true:=by kernel_rfl
theorem jN:cf aa 72 6 6=true:=by kernel_rfl
theorem ig:(aa.info? 72).bind (·.zero)=some (.agg #[.int .i64 0,.string ⟨#[]⟩,.int .i64 0,.int .i64 0,.int .i64 0,.string ⟨#[]⟩,.int .i64 0]):=by kernel_rfl
abbrev vR:TypeId:=76
theorem OU:lz aa 76 4=true:=by kernel_rfl
theorem NM:(aa.info? 76).map (·.size)=some 4:=by kernel_rfl
theorem MU:cf aa 76 0 0=true:=by kernel_rfl
theorem mV:cf aa 76 1 1=true:=by kernel_rfl
theorem MT:cf aa 76 2 2=true:=by kernel_rfl
theorem lr:cf aa 76 3 3=true:=by kernel_rfl
theorem Qm:(aa.info? 76).bind (·.zero)=some (.agg #[.int .i64 0,.int .i64 0,.int .i64 0,.int .i64 0]):=by kernel_rfl
abbrev dF:TypeId:=89
theorem zQ:lz aa 89 7=true:=by kernel_rfl
theorem IN:(aa.info? 89).map (·.size)=some 7:=by kernel_rfl
theorem Pr:hM aa 89 [(0,1),(1,1),(2,1),(3,1),(4,1),(5,1),(6,1)]=true:=by kernel_rfl
theorem oI:cf aa 89 0 0=true:=by kernel_rfl
theorem lq:cf aa 89 1 1=true:=by kernel_rfl
theorem gF:cf aa 89 2 2=true:=by kernel_rfl
theorem cS:cf aa 89 3 3=true:=by kernel_rfl
theorem dz:cf aa 89 4 4=true:=by kernel_rfl
theorem ui:cf aa 89 5 5=true:=by kernel_rfl
theorem jq:cf aa 89 6 6=true:=by kernel_rfl
theorem IJ:(aa.info? 89).bind (·.zero)=some (.agg #[.string ⟨#[]⟩,.int .i64 0,.int .i64 0,.int .i64 0,.slice none 0 0,.int .i64 0,.int .i64 0]):=by kernel_rfl
abbrev df:TypeId:=94
theorem n6:lz aa 94 3=true:=by kernel_rfl
theorem sH:(aa.info? 94).map (·.size)=some 3:=by kernel_rfl
theorem JA:hM aa 94 [(0,1),(1,1),(2,1)]=true:=by kernel_rfl
theorem oN:cf aa 94 0 0=true:=by kernel_rfl
theorem qT:cf aa 94 1 1=true:=by kernel_rfl
theorem i6:cf aa 94 2 2=true:=by kernel_rfl
theorem tJ:(aa.info? 94).bind (·.zero)=some (.agg #[.string ⟨#[]⟩,.int .i64 0,.slice none 0 0]):=by kernel_rfl
abbrev ef:TypeId:=99
theorem BU:lz aa 99 2=true:=by kernel_rfl
theorem Ai:(aa.info? 99).map (·.size)=some 2:=by kernel_rfl
theorem uJ:hM aa 99 [(0,1),(1,1)]=true:=by kernel_rfl
theorem jv:cf aa 99 0 0=true:=by kernel_rfl
theorem oM:cf aa 99 1 1=true:=by kernel_rfl
theorem lj:(aa.info? 99).bind (·.zero)=some (.agg #[.int .i64 0,.int .i64 0]):=by kernel_rfl
abbrev bK:TypeId:=104
theorem Jz:hM aa 104 [(0,11)]=true:=by kernel_rfl
theorem aX:cf aa 104 0 0=true:=by kernel_rfl
theorem KZ:(aa.info? 104).bind (·.zero)=some (.agg #[.slice none 0 0,.int .i64 0,.int .i64 0,.int .i64 0,.slice none 0 0,.int .i64 0,.int .i64 0,.int .i64 0,.slice none 0 0,.slice none 0 0,.slice none 0 0]):=by kernel_rfl
theorem Gc:pg aa 108 .u64=true:=by kernel_rfl
abbrev uB:TypeId:=127
theorem Jy:hM aa 127 [(0,1),(1,1)]=true:=by kernel_rfl
theorem mc:cf aa 127 0 0=true:=by kernel_rfl
theorem ks:cf aa 127 1 1=true:=by kernel_rfl
theorem KY:(aa.info? 127).bind (·.zero)=some (.agg #[.slice none 0 0,.bool false]):=by kernel_rfl
theorem iY:Hu aa 137=true:=by kernel_rfl
abbrev fI:TypeId:=140
theorem Ah:(aa.info? 140).map (·.size)=some 6:=by kernel_rfl
theorem xW:hM aa 140 [(0,1),(1,1),(2,1),(3,1),(4,1),(5,1)]=true:=by kernel_rfl
theorem oK:cf aa 140 0 0=true:=by kernel_rfl
theorem GG:cf aa 140 1 1=true:=by kernel_rfl
theorem uj:cf aa 140 2 2=true:=by kernel_rfl
theorem oJ:cf aa 140 3 3=true:=by kernel_rfl
theorem y8:cf aa 140 4 4=true:=by kernel_rfl
theorem me:cf aa 140 5 5=true:=by kernel_rfl
theorem wJ:(aa.info? 140).bind (·.zero)=some (.agg #[.string ⟨#[]⟩,.int .i64 0,.int .i64 0,.bool false,.slice none 0 0,.slice none 0 0]):=by kernel_rfl
abbrev G2:TypeId:=187
theorem n9:Hu aa 187=true:=by kernel_rfl
theorem qM:(aa.info? 187).bind (·.zero)=some (.pointer none):=by kernel_rfl
abbrev lV:TypeId:=191
theorem yJ:hM aa 191 [(0,1),(1,1),(2,1),(3,1)]=true:=by kernel_rfl
theorem jT:cf aa 191 0 0=true:=by kernel_rfl
theorem fu:cf aa 191 1 1=true:=by kernel_rfl
theorem d7:cf aa 191 2 2=true:=by kernel_rfl
theorem ip:cf aa 191 3 3=true:=by kernel_rfl
theorem zW:(aa.info? 191).bind (·.zero)=some (.agg #[.int .i64 0,.int .i64 0,.int .i64 0,.int .i64 0]):=by kernel_rfl
theorem wR:d6 aa 199 44 1=true:=by kernel_rfl
theorem J6:pL aa 199=true:=by kernel_rfl
theorem rS:d6 aa 209 52 1=true:=by kernel_rfl
theorem AN:pL aa 209=true:=by kernel_rfl
abbrev rt:FuncId:=8
theorem qE:aa.funcs[(8:Nat)]? =some Tryz.f8:=Tryz.func8
abbrev oy:FuncId:=9
theorem tC:aa.funcs[(9:Nat)]? =some Tryz.f9:=Tryz.func9
theorem tE:bk aa 9=true:=by kernel_rfl
abbrev vh:FuncId:=10
theorem ud:aa.funcs[(10:Nat)]? =some Tryz.f10:=Tryz.func10
theorem uv:bk aa 10=true:=by kernel_rfl
abbrev vC:FuncId:=13
theorem Bp:aa.funcs[(13:Nat)]? =some Tryz.f13:=Tryz.func13
theorem gJ:bk aa 13=true:=by kernel_rfl
abbrev wl:FuncId:=16
theorem vj:aa.funcs[(16:Nat)]? =some Tryz.f16:=Tryz.func16
theorem vn:bk aa 16=true:=by kernel_rfl
abbrev Eu:FuncId:=17
theorem Cv:aa.funcs[(17:Nat)]? =some Tryz.f17:=Tryz.func17
theorem lx:bk aa 17=true:=by kernel_rfl
abbrev Cl:FuncId:=18
theorem Br:aa.funcs[(18:Nat)]? =some Tryz.f18:=Tryz.func18
theorem kH:bk aa 18=true:=by kernel_rfl
abbrev Ck:FuncId:=19
theorem Bq:aa.funcs[(19:Nat)]? =some Tryz.f19:=Tryz.func19
theorem uw:bk aa 19=true:=by kernel_rfl
abbrev tw:FuncId:=20
theorem sS:aa.funcs[(20:Nat)]? =some Tryz.f20:=Tryz.func20
theorem aG:bk aa 20=true:=by kernel_rfl
abbrev vg:FuncId:=21
theorem uc:aa.funcs[(21:Nat)]? =some Tryz.f21:=Tryz.func21
theorem uu:bk aa 21=true:=by kernel_rfl
abbrev vf:FuncId:=22
theorem ub:aa.funcs[(22:Nat)]? =some Tryz.f22:=Tryz.func22
theorem ut:bk aa 22=true:=by kernel_rfl
abbrev EA:FuncId:=23
theorem CE:aa.funcs[(23:Nat)]? =some Tryz.f23:=Tryz.func23
theorem CP:bk aa 23=true:=by kernel_rfl
abbrev yZ:FuncId:=25
theorem EG:aa.funcs[(25:Nat)]? =some Tryz.f25:=Tryz.func25
theorem mY:bk aa 25=true:=by kernel_rfl
abbrev Ch:FuncId:=26
theorem Bm:aa.funcs[(26:Nat)]? =some Tryz.f26:=Tryz.func26
theorem kF:bk aa 26=true:=by kernel_rfl
abbrev pi:FuncId:=27
theorem oH:aa.funcs[(27:Nat)]? =some Tryz.f27:=Tryz.func27
theorem jx:bk aa 27=true:=by kernel_rfl
abbrev Gi:FuncId:=28
theorem EH:aa.funcs[(28:Nat)]? =some Tryz.f28:=Tryz.func28
theorem jI:bk aa 28=true:=by kernel_rfl
abbrev Be:FuncId:=29
theorem zt:aa.funcs[(29:Nat)]? =some Tryz.f29:=Tryz.func29
theorem tp:bk aa 29=true:=by kernel_rfl
abbrev Gn:FuncId:=30
theorem EN:aa.funcs[(30:Nat)]? =some Tryz.f30:=Tryz.func30
theorem EZ:bk aa 30=true:=by kernel_rfl
abbrev nI:FuncId:=31
theorem ng:aa.funcs[(31:Nat)]? =some Tryz.f31:=Tryz.func31
theorem ni:bk aa 31=true:=by kernel_rfl
abbrev r6:FuncId:=32
theorem xo:aa.funcs[(32:Nat)]? =some Tryz.f32:=Tryz.func32
theorem xB:bk aa 32=true:=by kernel_rfl
abbrev Ev:FuncId:=33
theorem Cx:aa.funcs[(33:Nat)]? =some Tryz.f33:=Tryz.func33
theorem vL:bk aa 33=true:=by kernel_rfl
abbrev lf:FuncId:=34
theorem kO:aa.funcs[(34:Nat)]? =some Tryz.f34:=Tryz.func34
theorem kR:bk aa 34=true:=by kernel_rfl
abbrev rZ:FuncId:=35
theorem xn:aa.funcs[(35:Nat)]? =some Tryz.f35:=Tryz.func35
theorem xz:bk aa 35=true:=by kernel_rfl
abbrev Bg:FuncId:=36
theorem zv:aa.funcs[(36:Nat)]? =some Tryz.f36:=Tryz.func36
theorem zD:bk aa 36=true:=by kernel_rfl
abbrev vi:FuncId:=37
theorem ug:aa.funcs[(37:Nat)]? =some Tryz.f37:=Tryz.func37
theorem ux:bk aa 37=true:=by kernel_rfl
abbrev ju:FuncId:=38
theorem nL:aa.funcs[(38:Nat)]? =some Tryz.f38:=Tryz.func38
theorem nV:bk aa 38=true:=by kernel_rfl
abbrev HZ:FuncId:=39
theorem Gy:aa.funcs[(39:Nat)]? =some Tryz.f39:=Tryz.func39
theorem zb:bk aa 39=true:=by kernel_rfl
abbrev Gf:FuncId:=40
theorem ED:aa.funcs[(40:Nat)]? =some Tryz.f40:=Tryz.func40
theorem ES:bk aa 40=true:=by kernel_rfl
abbrev qC:FuncId:=41
theorem qh:aa.funcs[(41:Nat)]? =some Tryz.f41:=Tryz.func41
theorem qq:bk aa 41=true:=by kernel_rfl
abbrev Ez:FuncId:=42
theorem CB:aa.funcs[(42:Nat)]? =some Tryz.f42:=Tryz.func42
theorem rO:bk aa 42=true:=by kernel_rfl
abbrev pM:FuncId:=43
theorem pj:aa.funcs[(43:Nat)]? =some Tryz.f43:=Tryz.func43
theorem dE:bk aa 43=true:=by kernel_rfl
abbrev mP:FuncId:=44
theorem mq:aa.funcs[(44:Nat)]? =some Tryz.f44:=Tryz.func44
theorem iL:bk aa 44=true:=by kernel_rfl
abbrev tl:FuncId:=45
theorem ym:aa.funcs[(45:Nat)]? =some Tryz.f45:=Tryz.func45
theorem yy:bk aa 45=true:=by kernel_rfl
abbrev mo:FuncId:=46
theorem lO:aa.funcs[(46:Nat)]? =some Tryz.f46:=Tryz.func46
theorem dq:bk aa 46=true:=by kernel_rfl
abbrev Ib:FuncId:=47
theorem GB:aa.funcs[(47:Nat)]? =some Tryz.f47:=Tryz.func47
theorem GV:bk aa 47=true:=by kernel_rfl
abbrev Gp:FuncId:=48
theorem EO:aa.funcs[(48:Nat)]? =some Tryz.f48:=Tryz.func48
theorem E0:bk aa 48=true:=by kernel_rfl
abbrev Gm:FuncId:=49
theorem EM:aa.funcs[(49:Nat)]? =some Tryz.f49:=Tryz.func49
theorem EY:bk aa 49=true:=by kernel_rfl
abbrev y6:FuncId:=50
theorem EL:aa.funcs[(50:Nat)]? =some Tryz.f50:=Tryz.func50
theorem mZ:bk aa 50=true:=by kernel_rfl
abbrev kk:FuncId:=51
theorem nn:aa.funcs[(51:Nat)]? =some Tryz.f51:=Tryz.func51
theorem tF:bk aa 51=true:=by kernel_rfl
abbrev jX:FuncId:=52
theorem mT:aa.funcs[(52:Nat)]? =some Tryz.f52:=Tryz.func52
theorem s8:bk aa 52=true:=by kernel_rfl
abbrev i5:FuncId:=53
theorem jY:aa.funcs[(53:Nat)]? =some Tryz.f53:=Tryz.func53
theorem nu:bk aa 53=true:=by kernel_rfl
abbrev jD:FuncId:=54
theorem mb:aa.funcs[(54:Nat)]? =some Tryz.f54:=Tryz.func54
theorem mg:bk aa 54=true:=by kernel_rfl
abbrev kj:FuncId:=55
theorem nk:aa.funcs[(55:Nat)]? =some Tryz.f55:=Tryz.func55
theorem nv:bk aa 55=true:=by kernel_rfl
abbrev oF:FuncId:=56
theorem tD:aa.funcs[(56:Nat)]? =some Tryz.f56:=Tryz.func56
theorem nt:bk aa 56=true:=by kernel_rfl
abbrev lp:FuncId:=57
theorem qI:aa.funcs[(57:Nat)]? =some Tryz.f57:=Tryz.func57
theorem gd:bk aa 57=true:=by kernel_rfl
abbrev l9:FuncId:=58
theorem rK:aa.funcs[(58:Nat)]? =some Tryz.f58:=Tryz.func58
theorem dO:bk aa 58=true:=by kernel_rfl
abbrev gD:FuncId:=59
theorem iG:aa.funcs[(59:Nat)]? =some Tryz.f59:=Tryz.func59
theorem ej:bk aa 59=true:=by kernel_rfl
abbrev yl:FuncId:=60
theorem xp:aa.funcs[(60:Nat)]? =some Tryz.f60:=Tryz.func60
theorem bM:bk aa 60=true:=by kernel_rfl
abbrev t8:FuncId:=61
theorem tB:aa.funcs[(61:Nat)]? =some Tryz.f61:=Tryz.func61
theorem iH:bk aa 61=true:=by kernel_rfl
abbrev Eo:FuncId:=62
theorem Cp:aa.funcs[(62:Nat)]? =some Tryz.f62:=Tryz.func62
theorem rM:bk aa 62=true:=by kernel_rfl
abbrev tm:FuncId:=63
theorem yq:aa.funcs[(63:Nat)]? =some Tryz.f63:=Tryz.func63
theorem yA:bk aa 63=true:=by kernel_rfl
abbrev oz:FuncId:=64
theorem nK:aa.funcs[(64:Nat)]? =some Tryz.f64:=Tryz.func64
theorem nU:bk aa 64=true:=by kernel_rfl
abbrev qD:FuncId:=65
theorem qj:aa.funcs[(65:Nat)]? =some Tryz.f65:=Tryz.func65
theorem qr:bk aa 65=true:=by kernel_rfl
abbrev l7:FuncId:=66
theorem rF:aa.funcs[(66:Nat)]? =some Tryz.f66:=Tryz.func66
theorem gx:bk aa 66=true:=by kernel_rfl
abbrev nc:FuncId:=67
theorem mS:aa.funcs[(67:Nat)]? =some Tryz.f67:=Tryz.func67
theorem mX:bk aa 67=true:=by kernel_rfl
abbrev kV:FuncId:=68
theorem qi:aa.funcs[(68:Nat)]? =some Tryz.f68:=Tryz.func68
theorem fi:bk aa 68=true:=by kernel_rfl
abbrev mQ:FuncId:=69
theorem ob:aa.funcs[(69:Nat)]? =some Tryz.f69:=Tryz.func69
theorem od:bk aa 69=true:=by kernel_rfl
abbrev jC:FuncId:=70
theorem ma:aa.funcs[(70:Nat)]? =some Tryz.f70:=Tryz.func70
theorem dB:bk aa 70=true:=by kernel_rfl
abbrev tA:FuncId:=71
theorem sV:aa.funcs[(71:Nat)]? =some Tryz.f71:=Tryz.func71
theorem d4:bk aa 71=true:=by kernel_rfl
abbrev vD:FuncId:=72
theorem Bs:aa.funcs[(72:Nat)]? =some Tryz.f72:=Tryz.func72
theorem kI:bk aa 72=true:=by kernel_rfl
abbrev r7:FuncId:=73
theorem rL:aa.funcs[(73:Nat)]? =some Tryz.f73:=Tryz.func73
theorem ly:bk aa 73=true:=by kernel_rfl
abbrev l8:FuncId:=74
theorem pS:aa.funcs[(74:Nat)]? =some Tryz.f74:=Tryz.func74
theorem xA:bk aa 74=true:=by kernel_rfl
abbrev xg:FuncId:=75
theorem CC:aa.funcs[(75:Nat)]? =some Tryz.f75:=Tryz.func75
theorem vO:bk aa 75=true:=by kernel_rfl
abbrev Ia:FuncId:=76
theorem GA:aa.funcs[(76:Nat)]? =some Tryz.f76:=Tryz.func76
theorem qY:bk aa 76=true:=by kernel_rfl
abbrev xh:FuncId:=77
theorem CD:aa.funcs[(77:Nat)]? =some Tryz.f77:=Tryz.func77
theorem CO:bk aa 77=true:=by kernel_rfl
abbrev sP:FuncId:=78
theorem vG:aa.funcs[(78:Nat)]? =some Tryz.f78:=Tryz.func78
theorem vN:bk aa 78=true:=by kernel_rfl
abbrev Ex:FuncId:=79
theorem Cz:aa.funcs[(79:Nat)]? =some Tryz.f79:=Tryz.func79
theorem vM:bk aa 79=true:=by kernel_rfl
abbrev Er:FuncId:=80
theorem Cs:aa.funcs[(80:Nat)]? =some Tryz.f80:=Tryz.func80
theorem CJ:bk aa 80=true:=by kernel_rfl
abbrev Gk:FuncId:=81
theorem EJ:aa.funcs[(81:Nat)]? =some Tryz.f81:=Tryz.func81
theorem EW:bk aa 81=true:=by kernel_rfl
abbrev Et:FuncId:=82
theorem Cu:aa.funcs[(82:Nat)]? =some Tryz.f82:=Tryz.func82
theorem CL:bk aa 82=true:=by kernel_rfl
abbrev Gl:FuncId:=83
theorem EK:aa.funcs[(83:Nat)]? =some Tryz.f83:=Tryz.func83
theorem EX:bk aa 83=true:=by kernel_rfl
abbrev Gj:FuncId:=84
theorem EI:aa.funcs[(84:Nat)]? =some Tryz.f84:=Tryz.func84
theorem EV:bk aa 84=true:=by kernel_rfl
abbrev Es:FuncId:=85
theorem Ct:aa.funcs[(85:Nat)]? =some Tryz.f85:=Tryz.func85
theorem CK:bk aa 85=true:=by kernel_rfl
abbrev ry:FuncId:=86
theorem ue:aa.funcs[(86:Nat)]? =some Tryz.f86:=Tryz.func86
theorem BL:bk aa 86=true:=by kernel_rfl
abbrev rz:FuncId:=87
theorem uf:aa.funcs[(87:Nat)]? =some Tryz.f87:=Tryz.func87
theorem BM:bk aa 87=true:=by kernel_rfl
abbrev pN:FuncId:=88
theorem rI:aa.funcs[(88:Nat)]? =some Tryz.f88:=Tryz.func88
theorem CM:bk aa 88=true:=by kernel_rfl
abbrev pO:FuncId:=90
theorem rJ:aa.funcs[(90:Nat)]? =some Tryz.f90:=Tryz.func90
theorem CN:bk aa 90=true:=by kernel_rfl
abbrev jS:FuncId:=91
theorem kp:aa.funcs[(91:Nat)]? =some Tryz.f91:=Tryz.func91
theorem BN:bk aa 91=true:=by kernel_rfl
abbrev oa:FuncId:=92
theorem qk:aa.funcs[(92:Nat)]? =some Tryz.f92:=Tryz.func92
theorem m0:bk aa 92=true:=by kernel_rfl
abbrev t9:FuncId:=93
theorem sU:aa.funcs[(93:Nat)]? =some Tryz.f93:=Tryz.func93
theorem s7:bk aa 93=true:=by kernel_rfl
abbrev xf:FuncId:=94
theorem vF:aa.funcs[(94:Nat)]? =some Tryz.f94:=Tryz.func94
theorem ir:bk aa 94=true:=by kernel_rfl
abbrev oE:FuncId:=95
theorem pT:aa.funcs[(95:Nat)]? =some Tryz.f95:=Tryz.func95
theorem xC:bk aa 95=true:=by kernel_rfl
abbrev rB:FuncId:=96
theorem ql:aa.funcs[(96:Nat)]? =some Tryz.f96:=Tryz.func96
theorem gK:bk aa 96=true:=by kernel_rfl
abbrev Ep:FuncId:=97
theorem Cq:aa.funcs[(97:Nat)]? =some Tryz.f97:=Tryz.func97
theorem CI:bk aa 97=true:=by kernel_rfl
abbrev xd:FuncId:=98
theorem Cr:aa.funcs[(98:Nat)]? =some Tryz.f98:=Tryz.func98
theorem vK:bk aa 98=true:=by kernel_rfl
abbrev nJ:FuncId:=99
theorem nh:aa.funcs[(99:Nat)]? =some Tryz.f99:=Tryz.func99
theorem ee:bk aa 99=true:=by kernel_rfl
abbrev rx:FuncId:=100
theorem qH:aa.funcs[(100:Nat)]? =some Tryz.f100:=Tryz.func100
theorem kW:bk aa 100=true:=by kernel_rfl
abbrev xi:FuncId:=101
theorem vH:aa.funcs[(101:Nat)]? =some Tryz.f101:=Tryz.func101
theorem je:bk aa 101=true:=by kernel_rfl
abbrev zn:FuncId:=102
theorem yo:aa.funcs[(102:Nat)]? =some Tryz.f102:=Tryz.func102
theorem kS:bk aa 102=true:=by kernel_rfl
abbrev Ey:FuncId:=103
theorem CA:aa.funcs[(103:Nat)]? =some Tryz.f103:=Tryz.func103
theorem oc:bk aa 103=true:=by kernel_rfl
abbrev fF:FuncId:=104
theorem io:aa.funcs[(104:Nat)]? =some Tryz.f104:=Tryz.func104
theorem lv:bk aa 104=true:=by kernel_rfl
abbrev zo:FuncId:=105
theorem yp:aa.funcs[(105:Nat)]? =some Tryz.f105:=Tryz.func105
theorem yz:bk aa 105=true:=by kernel_rfl
abbrev yk:FuncId:=106
theorem xm:aa.funcs[(106:Nat)]? =some Tryz.f106:=Tryz.func106
theorem qZ:bk aa 106=true:=by kernel_rfl
abbrev Kh:FuncId:=107
theorem Ih:aa.funcs[(107:Nat)]? =some Tryz.f107:=Tryz.func107
theorem kG:bk aa 107=true:=by kernel_rfl
abbrev Dn:FuncId:=108
theorem Ig:aa.funcs[(108:Nat)]? =some Tryz.f108:=Tryz.func108
theorem Iu:bk aa 108=true:=by kernel_rfl
abbrev Bc:FuncId:=109
theorem zq:aa.funcs[(109:Nat)]? =some Tryz.f109:=Tryz.func109
theorem lG:bk aa 109=true:=by kernel_rfl
abbrev Ba:FuncId:=110
theorem Gz:aa.funcs[(110:Nat)]? =some Tryz.f110:=Tryz.func110
theorem GU:bk aa 110=true:=by kernel_rfl
abbrev Gh:FuncId:=111
theorem EF:aa.funcs[(111:Nat)]? =some Tryz.f111:=Tryz.func111
theorem EU:bk aa 111=true:=by kernel_rfl
abbrev Bb:FuncId:=112
theorem y7:aa.funcs[(112:Nat)]? =some Tryz.f112:=Tryz.func112
theorem qX:bk aa 112=true:=by kernel_rfl
abbrev Ew:FuncId:=113
theorem Cy:aa.funcs[(113:Nat)]? =some Tryz.f113:=Tryz.func113
theorem gy:bk aa 113=true:=by kernel_rfl
abbrev sO:FuncId:=115
theorem rH:aa.funcs[(115:Nat)]? =some Tryz.f115:=Tryz.func115
theorem iq:bk aa 115=true:=by kernel_rfl
abbrev qe:FuncId:=116
theorem pQ:aa.funcs[(116:Nat)]? =some Tryz.f116:=Tryz.func116
theorem fJ:bk aa 116=true:=by kernel_rfl
abbrev nH:FuncId:=117
theorem nf:aa.funcs[(117:Nat)]? =some Tryz.f117:=Tryz.func117
theorem fa:bk aa 117=true:=by kernel_rfl
abbrev yY:FuncId:=118
theorem xl:aa.funcs[(118:Nat)]? =some Tryz.f118:=Tryz.func118
theorem xy:bk aa 118=true:=by kernel_rfl
abbrev gU:FuncId:=119
theorem yr:aa.funcs[(119:Nat)]? =some Tryz.f119:=Tryz.func119
theorem iw:bk aa 119=true:=by kernel_rfl
abbrev ru:FuncId:=120
theorem qF:aa.funcs[(120:Nat)]? =some Tryz.f120:=Tryz.func120
theorem iO:bk aa 120=true:=by kernel_rfl
abbrev Ci:FuncId:=121
theorem Bn:aa.funcs[(121:Nat)]? =some Tryz.f121:=Tryz.func121
theorem uo:bk aa 121=true:=by kernel_rfl
abbrev Cg:FuncId:=122
theorem Bl:aa.funcs[(122:Nat)]? =some Tryz.f122:=Tryz.func122
theorem un:bk aa 122=true:=by kernel_rfl
abbrev qf:FuncId:=123
theorem pR:aa.funcs[(123:Nat)]? =some Tryz.f123:=Tryz.func123
theorem fK:bk aa 123=true:=by kernel_rfl
abbrev Bf:FuncId:=124
theorem zu:aa.funcs[(124:Nat)]? =some Tryz.f124:=Tryz.func124
theorem zC:bk aa 124=true:=by kernel_rfl
abbrev wm:FuncId:=125
theorem vk:aa.funcs[(125:Nat)]? =some Tryz.f125:=Tryz.func125
theorem vo:bk aa 125=true:=by kernel_rfl
abbrev rY:FuncId:=126
theorem rG:aa.funcs[(126:Nat)]? =some Tryz.f126:=Tryz.func126
theorem lw:bk aa 126=true:=by kernel_rfl
abbrev oD:FuncId:=127
theorem nN:aa.funcs[(127:Nat)]? =some Tryz.f127:=Tryz.func127
theorem nX:bk aa 127=true:=by kernel_rfl
abbrev oB:FuncId:=128
theorem nM:aa.funcs[(128:Nat)]? =some Tryz.f128:=Tryz.func128
theorem nW:bk aa 128=true:=by kernel_rfl
abbrev Bd:FuncId:=129
theorem zr:aa.funcs[(129:Nat)]? =some Tryz.f129:=Tryz.func129
theorem zB:bk aa 129=true:=by kernel_rfl
abbrev lE:FuncId:=130
theorem yn:aa.funcs[(130:Nat)]? =some Tryz.f130:=Tryz.func130
theorem nY:bk aa 130=true:=by kernel_rfl
abbrev rX:FuncId:=131
theorem rE:aa.funcs[(131:Nat)]? =some Tryz.f131:=Tryz.func131
theorem rN:bk aa 131=true:=by kernel_rfl
abbrev ph:FuncId:=132
abbrev Cj:FuncId:=134
theorem Bo:aa.funcs[(134:Nat)]? =some Tryz.f134:=Tryz.func134
theorem ur:bk aa 134=true:=by kernel_rfl
abbrev Gg:FuncId:=135
theorem EE:aa.funcs[(135:Nat)]? =some Tryz.f135:=Tryz.func135
theorem ET:bk aa 135=true:=by kernel_rfl
abbrev tz:FuncId:=136
abbrev Cf:FuncId:=138
theorem Bj:aa.funcs[(138:Nat)]? =some Tryz.f138:=Tryz.func138
theorem BK:bk aa 138=true:=by kernel_rfl
abbrev rv:FuncId:=139
theorem qG:aa.funcs[(139:Nat)]? =some Tryz.f139:=Tryz.func139
theorem qJ:bk aa 139=true:=by kernel_rfl
abbrev zp:FuncId:=140
theorem yt:aa.funcs[(140:Nat)]? =some Tryz.f140:=Tryz.func140
theorem yB:bk aa 140=true:=by kernel_rfl
abbrev mO:FuncId:=141
theorem mp:aa.funcs[(141:Nat)]? =some Tryz.f141:=Tryz.func141
theorem mt:bk aa 141=true:=by kernel_rfl
abbrev xe:FuncId:=142
theorem wn:aa.funcs[(142:Nat)]? =some Tryz.f142:=Tryz.func142
theorem wv:bk aa 142=true:=by kernel_rfl
abbrev qd:FuncId:=145
theorem pP:aa.funcs[(145:Nat)]? =some Tryz.f145:=Tryz.func145
theorem pX:bk aa 145=true:=by kernel_rfl
abbrev mn:FuncId:=148
theorem lN:aa.funcs[(148:Nat)]? =some Tryz.f148:=Tryz.func148
theorem lT:bk aa 148=true:=by kernel_rfl
end
structure cz where
 epoch:Int
 pid:Int
 ver:Int
 seq:Int
 kind:Int
 txn:Bool
 text:ByteArray
 deriving DecidableEq
def cz.c (e:cz):List Value:=[.int .i64 e.epoch,.int .i64 e.pid,.int .i64 e.ver,.int .i64 e.seq,.int .i64 e.kind,.bool e.txn,.string e.text]
abbrev cz.v (e:cz):Value:=.agg e.c.toArray
def gV:fq cz:=⟨cz.c,7,fun _=>rfl,by decide,fun a u hu=>by
 simp only[cz.c,ax,bU,or_false]at hu
 rcases hu with h|h|h|h|h|h|h<;>subst h<;>rfl⟩
def bR:fq Int:=⟨fun n=>[.int .i64 n],1,fun _=>rfl,by decide,fun a u hu=>by
 simp only[ax,bU,or_false]at hu
 subst hu;rfl⟩
def dC:fq UInt8:=⟨fun n=>[.int .u8 n.toNat],1,fun _=>rfl,by decide,fun a u hu=>by
 simp only[ax,bU,or_false]at hu
 subst hu;rfl⟩
def nz:fq ByteArray:=⟨fun s=>[.string s],1,fun _=>rfl,by decide,fun a u hu=>by
 simp only[ax,bU,or_false]at hu
 subst hu;rfl⟩
def C3:Nat->Nat->List UInt8->Nat
 |_,n,[]=>n
 |i,n,c::l=>C3 (i+1) ((n+(i+1)*c.toNat)%65521) l
def mF (l:List UInt8):Nat:=C3 0 0 l
theorem Fp: ∀ (l:List UInt8) (i n:Nat),n<65521->C3 i n l<65521
 |[],_,_,h=>h
 |_::l,i,_,_=>Fp l (i+1) _ (jJ _ (by decide))
theorem DU (l:List UInt8):mF l<65521:=Fp l 0 0 (by decide)
theorem Li (l:List UInt8) (A:Option Addr) (c:Nat) (w:World) (hr:Rd dC 0 w.heap.size A l w) (hb:l.length<=1000000000000000):
  dh aa HZ [.slice A l.length c] w fun v w2=>v=J (mF l:Nat)/\Below w.heap.size w w2:=by
 refine aE Gy Z Z ?_
 have H:=Hp.start w
 refine W ?_
 refine Zr ?_
 refine pp Z Z ?_
 refine U<|W ?_
 refine Zr ?_
 refine pp Z Z ?_
 refine U<|W<|W ?_
 refine Zr ?_
 refine mu Z Z ?_
 refine ve eO Z Z ?_
 refine iI Z Z ?_
 refine U<|Zb ?_
 refine cD (τ:=Nat×Nat) [3,4,5,8,9,10,11,12,13,14,15,16,17,18,19,20,21] (fun x=>[(3,J x.1),(8,J x.2)]) (fun x w'=>x.1<65521/\x.2<=l.length/\Hp w w' [] []/\C3 x.2 x.1 (l.drop x.2)=mF l) (fun x=>l.length-x.2) (0,0) ⟨by decide,by simp,H,rfl⟩ (li Z Z) ?_
 rintro⟨m,k⟩ ρ1 w1 ⟨hm,hk,H,hs⟩
 show CW _ _ _ _ (dH (gZ _ _ ρ1) [(3,J (m:Nat)),(8,J (k:Nat))]) w1
 refine W ?_
 refine Zr ?_
 refine HO Z Z Z (fun h9=> ?_) (fun h9=> ?_)
 all_goals refine nG ?_
 all_goals refine BH ?_
 ·refine pV Z ?_
  refine Zk ?_
  have hkl:k<l.length:=by omega
  obtain⟨b,o,rfl,-,hbl,hcl⟩:=hr.at_ hkl
  have hd:l.drop k=l[k]::l.drop (k+1):=m9 hkl
  have h256:l[k].toNat<256:=UInt8.toNat_lt _
  generalize hc:l[k]=x at*
  have hmul:(k+1)*x.toNat<=(k+1)*256:=Nat.mul_le_mul_left _ I
  have hmul2:((k:Int)+1)*(x.toNat:Int)=(((k+1)*x.toNat:Nat):Int):=by simp
  refine W<|Zb<|W ?_
  refine Zr ?_
  refine iI Z Z ?_
  refine Qj ec Z Z I I Z ?_
  refine ld mJ Z ((H.below.cell (p:=⟨b,_,none⟩) hbl).trans (hcl 0 _ Z)) Z ?_
  refine pp Z Z ?_
  refine pp Z Z ?_
  refine U ?_
  refine Zr ?_
  refine iI Z Z ?_
  refine iI Z Z ?_
  refine add Z Z I I Z ?_
  refine iI Z Z ?_
  refine ON iE iF Z (vu I) Z ?_
  refine mul Z Z I I Z ?_
  refine add Z Z I I Z ?_
  refine rem Z Z I I Z ?_
  refine pp Z Z ?_
  refine U ?_
  refine Zr ?_
  refine add Z Z I I Z ?_
  refine iI Z Z ?_
  refine U ?_
  refine⟨((m+(k+1)*x.toNat)%65521,k+1),⟨jJ _ (by decide),by omega,H,?_⟩,?_,by repeat (first|exact m1|refine lH Z ?_|refine jP _ Z ?_),by show l.length- (k+1)<l.length-k;omega⟩
  ·rw[<-hs,hd,C3]
  ·intro p hp
   simp only[ax,bU,or_false]at hp
   rcases hp with rfl|rfl
   ·show Value.int .i64 _=Value.int .i64 _
    congr 1
   ·rfl
 ·refine oQ Z ?_
  refine Zx ?_
  have hkl:k=l.length:=by omega
  subst hkl
  simp only[fA,C3]at hs
  subst hs
  refine W ?_
  refine Zr ?_
  refine iI Z Z ?_
  refine pp Z Z ?_
  refine U<|Zt ?_
  exact cH Z Z ⟨rfl,H.below⟩
/-- a number in as few bytes as may be -/
def zm (n:Nat):List UInt8:=if h:n<=127 then [UInt8.ofNat n]else UInt8.ofNat (n%128+128)::zm (n/128)
termination_by n
decreasing_by omega
theorem uQ {n:Nat} (h:n<=127):zm n=[UInt8.ofNat n]:=by rw[zm,dif_pos h]
theorem Ee {n:Nat} (h:127<n):zm n=UInt8.ofNat (n%128+128)::zm (n/128):=by rw[zm,dif_neg I]
theorem Nk (n:Nat):n&&&127=n%128:=Nat.and_two_pow_sub_one_eq_mod n 7
theorem Qu (n:Nat) (h:n<128):n|||128=n+128:=by
 have:=ss (i:=7) (b:=n) (by simpa using h) 1
 rw[Nat.or_comm];simp at this;omega
theorem Qh (n:Nat) (h:n<256):((UInt8.ofNat n).toNat:Int)=n:=by
 simp[g7 h]
theorem IX: ∀ (k n:Nat),n<128 ^ k->(zm n).length<=max k 1
 |0,n,h=>by
  have:n=0:=by simpa using h
  subst this;rw[uQ I];simp
 |k+1,n,h=>by
  by_cases hn:n<=127
  rw[uQ hn];simp
  have:=IX k (n/128) (by rw[Nat.pow_succ]at h;exact zg I)
  rw[Ee I]
  simp only[bV]
  have hk:k≠0:=by
   rintro rfl
   simp at h;omega
  omega
theorem J0 {w0 w:World} {F:List cB} {K M L:List (Nat×Obj)} {es:List UInt8} {A:Option Addr} {c:Nat} (n:Nat) (H:Hp w0 w (K++L++M) F) (ho:gz dC (.slice A es.length c) m4 es L) (hn:n<4611686018427387904) (hb:es.length+n<140737488355328):
  dh aa Cf [.slice A es.length c,J n] w fun v w2=> ∃ A' c' L',v=.slice A' (es++zm n).length c'/\gz dC (.slice A' (es++zm n).length c') m4 (es++zm n) L'/\Hp w0 w2 (K++L'++M) F:=by
 refine aE Bj Z Z ?_
 refine W ?_
 refine Zr ?_
 refine vp Z Z ?_
 refine U<|W<|Zb ?_
 refine cD (τ:=Option Addr×Nat×List UInt8×Nat) [0,1,5,6,7,8,9,10,11,12,13,15,14] (fun(A,c,l,m)=>[(0,.slice A l.length c),(1,J m)])
  (fun(A,c,l,m) w'=>m<4611686018427387904/\l.length+m<140737488355328/\l++zm m=es++zm n/\ ∃ L',gz dC (.slice A l.length c) m4 l L'/\Hp w0 w' (K++L'++M) F) (fun(_,_,_,m)=>m) (A,c,es,n) ⟨hn,hb,rfl,L,ho,H⟩ (li Z Z) ?_
 rintro⟨A1,c1,l,m⟩ ρ1 w1 ⟨hm,hb1,hl,L1,ho1,H1⟩
 show CW _ _ _ _ (dH (gZ _ _ ρ1) [(0,.slice A1 l.length c1),(1,J (m:Nat))]) w1
 refine W<|W ?_
 refine Zr ?_
 refine iI Z Z ?_
 refine Ki Z Z Z (fun h6=> ?_) (fun h6=> ?_)
 all_goals refine nG ?_
 ·refine pV Z ?_
  refine Zk ?_
  have hmod:m%128<128:=jJ _ (by decide)
  refine Zb<|W ?_
  refine Zr ?_
  refine mu Z Z ?_
  refine iI Z Z ?_
  refine G (Pg (b:=127) Z Z I I) ?_
  rw[Nk]
  refine G (N6 (b:=128) Z Z I I) ?_
  rw[Qu _ hmod]
  refine ON iF iE Z (CS I) Z ?_
  refine s9 (vs:=[.int .u8 _]) H1 ec zX Z Z Z Z Z Z ?_;intro w2 b12 H2
  refine vP (Y:=dC) oT (K:=(b12,_)::K) (L:=L1) (M:=M) H2 ho1 (news:=[UInt8.ofNat (m%128+128)]) Z Z Z ?_ ?_ Z ?_
  ·have:=wz.row (m:=1) (sz:=1) (H2.ent (i:=0) Z) Z
   have e:dC.all [UInt8.ofNat (m%128+128)]=[.int .u8 ((m%128+128:Nat):Int)]:=by
    show [Value.int .u8 _]=_
    rw[Qh _ I]
   rw[e]
   exact this
  ·simp only[bO];omega
  intro A3 c3 w3 L3 _ _ ho3 H3
  refine vp Z Z ?_
  refine U ?_
  refine Zr ?_
  refine iI Z Z ?_
  refine G (O1 (b:=7) Z Z I) ?_
  refine pp Z Z ?_
  refine U ?_
  refine⟨(A3,c3,l++[UInt8.ofNat (m%128+128)],m/2 ^ 7),⟨by omega,by simp;omega,?_,L3,ho3,H3.forget (by simp) (fun _ h=>h)⟩,li Z Z,by repeat (first|exact m1|refine lH Z ?_|refine jP _ Z ?_),by show m/2 ^ 7<m;omega⟩
  rw[<-hl,Ee (n:=m) I];simp
 ·refine oQ Z ?_
  refine Zx<|W ?_
  refine Zr ?_
  refine mu Z Z ?_
  refine iI Z Z ?_
  refine ON iF iE Z (CS I) Z ?_
  refine s9 (vs:=[.int .u8 _]) H1 ec zX Z Z Z Z Z Z ?_;intro w2 b19 H2
  refine vP (Y:=dC) oT (K:=(b19,_)::K) (L:=L1) (M:=M) H2 ho1 (news:=[UInt8.ofNat m]) Z Z Z ?_ ?_ Z ?_
  ·have:=wz.row (m:=1) (sz:=1) (H2.ent (i:=0) Z) Z
   have e:dC.all [UInt8.ofNat m]=[.int .u8 (m:Int)]:=by
    show [Value.int .u8 _]=_
    rw[Qh _ I]
   rw[e]
   exact this
  ·simp only[bO];omega
  intro A3 c3 w3 L3 _ _ ho3 H3
  refine vp Z Z ?_
  refine U<|Zt ?_
  rw[uQ I]at hl
  rw[hl]at ho3
  refine cH Z (v:=.slice A3 (es++zm n).length c3) (by rw[<-hl];rfl) ⟨A3,c3,L3,rfl,ho3,H3.forget (by simp) (fun _ h=>h)⟩
def iK (n:Int):Bool:=decide (0<=n)&&decide (n<=1073741824)
theorem uX {n:Int} (h:iK n=true):0<=n/\n<=1073741824:=by simpa [iK]using h
theorem OB {n:Int} (h: ¬ iK n=true):n<0∨1073741824<n:=by
 simp[iK]at h;omega
def cz.nums (e:cz):List Int:=[e.epoch,e.pid,e.ver,e.seq]
def cz.noForm (e:cz):Prop:=(e.kind≠1/\(e.pid=0∨e.txn=false∨e.seq≠0∨e.text≠⟨#[]⟩))∨(e.pid=0/\(e.txn=true∨0<e.ver+e.seq))
instance (e:cz):Decidable e.noForm:=by unfold cz.noForm;infer_instance
def eD (e:cz):Int:=
 if e.kind<1∨3<e.kind then 3
 else if¬ e.nums.all iK=true then 2
 else if 40<e.text.size then 1
 else if e.noForm then 4 else 0
theorem xT (e:cz) (w:World):dh aa Eo [e.v] w fun v w2=>v=J (eD e)/\Below w.heap.size w w2:=by
 refine aE Cp Z Z ?_
 have H:=Hp.start w
 refine W ?_
 refine Zr ?_
 refine f7 H Z Z ?_;intro w1 b1 H
 refine pp Z Z ?_
 refine U<|W<|W ?_
 refine Zr ?_
 refine sr ff Z Z ?_
 refine wk H 0 ak Z Z Z Z ?_
 refine HO Z Z Z (fun h7=> ?_) (fun h7=> ?_)
 ·have hE:eD e=3:=by unfold eD;rw[if_pos (.inl h7)]
  refine AA Z Z ?_
  iterate 3 refine rW Z Z Z ?_
  refine wU Z Z Z ?_
  refine U<|ZT Z<|W ?_
  refine Zr ?_
  refine pp Z Z ?_
  refine U<|Zt ?_
  exact cH (v:=J 3) Z Z ⟨by rw[hE],H.below⟩
 refine AA Z Z ?_
 refine ZG ?_
 refine sr ff Z Z ?_
 refine ZG ?_
 refine wk H 0 ak Z Z Z Z ?_
 refine ZG ?_
 refine Ki Z Z Z (fun h11=> ?_) (fun h11=> ?_)
 ·have hE:eD e=3:=by unfold eD;rw[if_pos (.inr h11)]
  refine sK Z Z Z ?_
  refine U<|ZT Z<|W ?_
  refine Zr ?_
  refine pp Z Z ?_
  refine U<|Zt ?_
  exact cH (v:=J 3) Z Z ⟨by rw[hE],H.below⟩
 refine sK Z Z Z ?_
 refine U<|ZF Z<|Zk ?_
 have hk0: ¬ (e.kind<1∨3<e.kind):=by omega
 refine W<|W ?_
 refine Zr ?_
 refine sr nR Z Z ?_
 refine wk H 0 ak Z Z Z Z ?_
 refine sr fp Z Z ?_
 refine wk H 0 ak Z Z Z Z ?_
 refine sr eJ Z Z ?_
 refine wk H 0 ak Z Z Z Z ?_
 refine sr fg Z Z ?_
 refine wk H 0 ak Z Z Z Z ?_
 refine s9 (vs:=[J _,J _,J _,J _]) H bc wI Z Z Z Z Z Z ?_;intro w2 b21 H
 refine ve eM Z Z ?_
 refine iI Z Z ?_
 refine U<|Zb ?_
 have hns: ∀ k,k<4->(qm [J e.epoch,J e.pid,J e.ver,J e.seq]).toArray[0+k*1]? =some (J (e.nums.getD k 0)):=by
  intro k hk
  have:k=0∨k=1∨k=2∨k=3:=by omega
  rcases this with rfl|rfl|rfl|rfl<;>rfl
 have hmem: ∀ k,k<4->e.nums.getD k 0∈e.nums:=by
  intro k hk
  have:k=0∨k=1∨k=2∨k=3:=by omega
  rcases this with rfl|rfl|rfl|rfl<;>simp[cz.nums]
 refine cD (τ:=Nat) [4,23,24,25,26,27,28,29,30,31,32,33,2] (fun k=>[(23,J k)]) (fun k w'=>k<=4/\(∀ j,j<k->(e.nums.getD j 0|>iK)=true)/\Hp w w' [(b21,_),(b1,_)] []) (fun k=>4-k) 0 ⟨by omega,by simp,H⟩ (dP Z) ?_
 rintro k ρ1 w1 ⟨hk4,hgood,H⟩
 refine W ?_
 refine Zr ?_
 refine HO Z Z Z (fun h24=> ?_) (fun h24=> ?_)
 all_goals refine nG ?_
 all_goals refine BH ?_
 ·refine pV Z ?_
  refine Zk ?_
  have hk:k<4:=by omega
  have hns:=hns k hk
  have hm:=hmem k hk
  generalize hx:e.nums.getD k 0=x at hns hm
  refine W<|Zb<|W ?_
  refine Zr ?_
  refine Qj bc Z Z I I Z ?_
  refine wk H 0 ak Z Z hns Z ?_
  refine pp Z Z ?_
  refine U<|W ?_
  refine Zr ?_
  refine iI Z Z ?_
  by_cases hin:iK x=true
  ·obtain⟨h0,h1⟩:=uX hin
   refine PM Z Z I Z ?_
   refine AA Z Z ?_
   refine ZG ?_
   refine iI Z Z ?_
   refine ZG ?_
   refine PT Z Z I Z ?_
   refine sK Z Z Z ?_
   refine U<|ZF Z<|Zk ?_
   refine Zr ?_
   refine add Z Z I I Z ?_
   refine iI Z Z ?_
   refine U ?_
   refine⟨k+1,⟨by omega,fun j hj=> ?_,H⟩,dP Z,by repeat (first|exact m1|refine lH Z ?_|refine jP _ Z ?_),by show 4- (k+1)<4-k;omega⟩
   by_cases hjk:j=k
   ·subst hjk;rw[hx];exact hin
   ·exact hgood j I
  ·have hE:eD e=2:=by
    unfold eD
    rw[if_neg hk0,if_pos]
    intro ha
    exact hin (eh.1 ha x hm)
   have hbad:=OB hin
   by_cases h0:x<0
   ·refine Qw Z Z h0 Z ?_
    refine AA Z Z ?_
    iterate 2 refine rW Z Z Z ?_
    refine wU Z Z Z ?_
    refine U<|ZT Z<|W ?_
    refine Zr ?_
    refine pp Z Z ?_
    refine U<|Zt ?_
    exact cH (v:=J 2) Z Z ⟨by rw[hE],H.below⟩
   ·refine PM Z Z h0 Z ?_
    refine AA Z Z ?_
    refine ZG ?_
    refine iI Z Z ?_
    refine ZG ?_
    refine PR Z Z I Z ?_
    refine sK Z Z Z ?_
    refine U<|ZT Z<|W ?_
    refine Zr ?_
    refine pp Z Z ?_
    refine U<|Zt ?_
    exact cH (v:=J 2) Z Z ⟨by rw[hE],H.below⟩
 ·refine oQ Z ?_
  refine Zx ?_
  have hk:k=4:=by omega
  subst hk
  have hall:e.nums.all iK=true:=by
   have g0:=hgood 0 I
   have g1:=hgood 1 I
   have g2:=hgood 2 I
   have g3:=hgood 3 I
   simp only[cz.nums,List.getD_cons_zero,List.getD_cons_succ]at g0 g1 g2 g3
   simp[cz.nums,g0,g1,g2,g3]
  have hv:=uX (eh.1 hall e.ver (by simp[cz.nums]))
  have hs:=uX (eh.1 hall e.seq (by simp[cz.nums]))
  refine W<|W ?_
  refine Zr ?_
  refine sr qo Z Z ?_
  refine wk H 1 bd Z Z Z Z ?_
  refine Q8 jy Z Z ?_
  refine Ki Z Z Z (fun h37=> ?_) (fun h37=> ?_)
  all_goals refine nG ?_
  ·refine pV Z ?_
   refine W ?_
   refine Zr ?_
   refine pp Z Z ?_
   refine U<|Zt ?_
   have hE:eD e=1:=by
    unfold eD
    rw[if_neg hk0,if_neg (by simpa using hall),if_pos I]
   exact cH (v:=J 1) Z Z ⟨by rw[hE],H.below⟩
  refine ZF Z<|Zk ?_
  have hE:eD e=if e.noForm then 4 else 0:=by
   unfold eD
   rw[if_neg hk0,if_neg (by simpa using hall),if_neg I]
  refine W<|W ?_
  refine Zr ?_
  by_cases hx:e.text=⟨#[]⟩
  all_goals cases ht:e.txn
  all_goals (have h5:e.c.toArray[0+5]? =some (.bool e.txn):=rfl;rw[ht]at h5)
  all_goals (refine sr ff Z Z ?_)
  all_goals (refine wk H 1 ak Z Z Z Z ?_)
  all_goals (refine Qv Z Z Z (fun _=> ?_) (fun _=> ?_))
  all_goals (refine AA Z Z ?_)
  all_goals first|refine rW Z Z Z ?_|(refine tU Z ?_;(refine sr fp Z Z ?_))
  all_goals first|refine rW Z Z Z ?_|(refine tU Z ?_;(refine wk H 1 ak Z Z Z Z ?_))
  all_goals first|refine rW Z Z Z ?_|(refine tU Z ?_;(refine MX Z Z Z (fun _=> ?_) (fun _=> ?_)))
  all_goals first|refine rW Z Z Z ?_|(refine tU Z ?_;(refine AA Z Z ?_))
  all_goals first|refine rW Z Z Z ?_|(refine tU Z ?_;(refine sr jd Z Z ?_))
  all_goals first|refine rW Z Z Z ?_|(refine tU Z ?_;(refine wk H 1 dS Z Z h5 Z ?_))
  all_goals first|refine rW Z Z Z ?_|(refine tU Z ?_;(refine not Z Z ?_))
  all_goals first|refine rW Z Z Z ?_|(refine tU Z ?_;(first|refine wU Z Z Z ?_|refine sK Z Z Z ?_))
  all_goals first|refine rW Z Z Z ?_|(refine tU Z ?_;(refine AA Z Z ?_))
  all_goals first|refine rW Z Z Z ?_|(refine tU Z ?_;(refine sr fg Z Z ?_))
  all_goals first|refine rW Z Z Z ?_|(refine tU Z ?_;(refine wk H 1 ak Z Z Z Z ?_))
  all_goals first|refine rW Z Z Z ?_|(refine tU Z ?_;(refine Qv Z Z Z (fun _=> ?_) (fun _=> ?_)))
  all_goals first|refine rW Z Z Z ?_|(refine tU Z ?_;(first|refine wU Z Z Z ?_|refine sK Z Z Z ?_))
  all_goals first|refine rW Z Z Z ?_|(refine tU Z ?_;(refine AA Z Z ?_))
  all_goals first|refine rW Z Z Z ?_|(refine tU Z ?_;(refine sr qo Z Z ?_))
  all_goals first|refine rW Z Z Z ?_|(refine tU Z ?_;(refine wk H 1 bd Z Z Z Z ?_))
  all_goals first|refine rW Z Z Z ?_|(refine tU Z ?_;(first|refine l1 (NJ Z Z hx) Z Z Z ?_|refine l1 (NK Z Z hx) Z Z Z ?_))
  all_goals first|refine rW Z Z Z ?_|(refine tU Z ?_;(first|refine wU Z Z Z ?_|refine sK Z Z Z ?_))
  all_goals (first|refine wU Z Z Z ?_|refine sK Z Z Z ?_)
  all_goals (refine AA Z Z ?_)
  all_goals first|refine rW Z Z Z ?_|(refine tU Z ?_;(refine sr fp Z Z ?_))
  all_goals first|refine rW Z Z Z ?_|(refine tU Z ?_;(refine wk H 1 ak Z Z Z Z ?_))
  all_goals first|refine rW Z Z Z ?_|(refine tU Z ?_;(refine MX Z Z Z (fun _=> ?_) (fun _=> ?_)))
  all_goals first|refine rW Z Z Z ?_|(refine tU Z ?_;(refine AA Z Z ?_))
  all_goals first|refine rW Z Z Z ?_|(refine tU Z ?_;(refine sr jd Z Z ?_))
  all_goals first|refine rW Z Z Z ?_|(refine tU Z ?_;(refine wk H 1 dS Z Z h5 Z ?_))
  all_goals first|refine rW Z Z Z ?_|(refine tU Z ?_;(refine AA Z Z ?_))
  all_goals first|refine rW Z Z Z ?_|(refine tU Z ?_;(refine sr eJ Z Z ?_))
  all_goals first|refine rW Z Z Z ?_|(refine tU Z ?_;(refine wk H 1 ak Z Z Z Z ?_))
  all_goals first|refine rW Z Z Z ?_|(refine tU Z ?_;(refine sr fg Z Z ?_))
  all_goals first|refine rW Z Z Z ?_|(refine tU Z ?_;(refine wk H 1 ak Z Z Z Z ?_))
  all_goals first|refine rW Z Z Z ?_|(refine tU Z ?_;(refine add Z Z I I Z ?_))
  all_goals first|refine rW Z Z Z ?_|(refine tU Z ?_;(refine Ki Z Z Z (fun _=> ?_) (fun _=> ?_)))
  all_goals first|refine rW Z Z Z ?_|(refine tU Z ?_;(first|refine wU Z Z Z ?_|refine sK Z Z Z ?_))
  all_goals first|refine rW Z Z Z ?_|(refine tU Z ?_;(first|refine wU Z Z Z ?_|refine sK Z Z Z ?_))
  all_goals (first|refine wU Z Z Z ?_|refine sK Z Z Z ?_)
  all_goals refine nG ?_
  all_goals first
   |(
     refine pV Z ?_
     refine W ?_
     refine Zr ?_
     refine pp Z Z<|U<|Zt ?_
     exact cH (v:=J 4) Z Z ⟨by rw[hE,if_pos (by simp[cz.noForm, *])],H.below⟩)
   |(
     refine oQ Z ?_
     refine Zk<|W ?_
     refine Zr ?_
     refine pp Z Z<|U<|Zt ?_
     exact cH (v:=J 0) Z Z ⟨by rw[hE,if_neg (by simp[cz.noForm, *]<;>omega)],H.below⟩)
def ox (e:cz):UInt8:=UInt8.ofNat (e.kind.toNat+if e.txn then 16 else 0)
def ou (l:List Int):List UInt8:=l.flatMap fun n=>zm n.toNat
def eQ (e:cz):List UInt8:=ox e::ou e.nums++e.text.data.toList
def iN (e:cz):List UInt8:=UInt8.ofNat (eQ e).length::eQ e++[UInt8.ofNat (mF (eQ e)/256),UInt8.ofNat (mF (eQ e)%256)]
theorem Pj (n:Nat):IntKind.u8.wrap (n:Int)=(n%256:Nat):=by
 simp[IntKind.wrap,IntKind.signed,IntKind.bits]
theorem QI (s:ByteArray):dC.all s.data.toList=Lib.strCells s:=by
 unfold fq.all Lib.strCells
 show List.flatMap (fun n:UInt8=>[Value.int .u8 n.toNat]) _=_
 induction s.data.toList with
 |nil=>rfl
 |cons a l ih=>simp only[gp,ey,ih];rfl
theorem qV {e:cz} (h:eD e=0):1<=e.kind/\e.kind<=3/\(∀ n∈e.nums,0<=n/\n<=1073741824)/\e.text.size<=40/\ ¬ e.noForm:=by
 unfold eD at h
 split at h;· omega
 split at h;· omega
 split at h;· omega
 split at h;· omega
 rename_i h1 h2 h3 h4
 refine⟨by omega,by omega,fun n hn=> ?_,by omega,h4⟩
 have:=eh.1 (Classical.not_not.1 h2) n hn
 exact uX this
theorem yd: ∀ (l:List Int),(∀ n∈l,0<=n/\n<=1073741824)->(ou l).length<=5*l.length
 |[],_=>by simp[ou]
 |n::l,h=>by
  have h1:=yd l fun m hm=>h m (aj _ hm)
  have h2:=h n (az ..)
  have h3:=IX 5 n.toNat I
  simp only[ou,gp,ay,bV]at*
  omega
theorem vc {e:cz} (h:eD e=0):(eQ e).length<=61/\0<(eQ e).length:=by
 obtain⟨_,_,h3,h4,_⟩:=qV h
 have:=yd _ h3
 have hs:e.text.data.toList.length=e.text.size:=by rw[cn];rfl
 simp only[eQ,ay,bV,hs]
 have h4':e.nums.length=4:=rfl
 omega
theorem Du (e:cz) (w:World) (h:eD e=0):dh aa Cg [e.v] w fun v w2=> ∃ A c,v=.tuple #[.slice A (iN e).length c,J 0]/\Rd dC w.heap.size w2.heap.size A (iN e) w2/\(iN e).length<=c/\Below w.heap.size w w2:=by
 obtain⟨hk1,hk3,hnn,htx,-⟩:=qV h
 obtain⟨hl61,hl0⟩:=vc h
 refine aE Bl Z Z ?_
 have H:=Hp.start w
 refine W ?_
 refine Zr ?_
 refine f7 H Z Z ?_;intro w1 b1 H
 refine vp Z Z ?_
 refine pp Z Z ?_
 refine U<|W<|W ?_
 refine Zr ?_
 refine Ru H 0 dG Z Z Z Z ?_
 refine ch rM (xT e _) Z Z ?_;rintro _ w2 ⟨rfl,hb2⟩;replace H:=H.later hb2
 refine pp Z Z ?_
 refine U<|W ?_
 refine Zr ?_
 refine iI Z Z ?_
 refine G (bZ Z Z h)<|U<|ZF Z<|Zk<|W ?_
 refine Zr ?_
 refine sr ff Z Z ?_
 refine wk H 0 ak Z Z Z Z ?_
 refine pp Z Z ?_
 refine U<|W ?_
 obtain⟨k,hk⟩: ∃ k:Nat,e.kind=k:=⟨e.kind.toNat,by omega⟩
 have hkB:ox e=UInt8.ofNat (k+if e.txn then 16 else 0):=by unfold ox;rw[hk];rfl
 refine eN (τ:=Unit) [17,18,19,20,5] (fun _=>[(5,J (k+if e.txn then 16 else 0:Nat))]) (fun _ w'=>Hp w w' [(b1,.cells e.c.toArray dw)] []) ?_ ?_
 ·refine BH ?_
  refine Zr ?_
  refine sr jd Z Z ?_
  refine wk H 0 dS Z Z Z Z ?_
  refine U ?_
  refine jw (b:=e.txn) Z (fun ht=> ?_) (fun ht=> ?_)
  ·refine KA ?_
   refine iI Z Z ?_
   have h16:k|||16=k+16:=by
    have:k=1∨k=2∨k=3:=by omega
    rcases this with rfl|rfl|rfl<;>rfl
   rw[hk]
   refine G (N6 (a:=k) (b:=16) Z Z I I) ?_
   rw[h16]
   refine pp Z Z ?_
   refine U ?_
   refine⟨(),H,dP (by rw[ht];rfl),by repeat (first|exact Fb.refl _ _|exact m1|refine lH Z ?_|refine jP _ Z ?_)⟩
  ·refine OL ?_
   rw[hk]
   refine⟨(),H,dP (by rw[ht];rfl),by repeat (first|exact Fb.refl _ _|exact m1|refine lH Z ?_|refine jP _ Z ?_)⟩
 rintro _ ρ1 w3 H
 show CW _ _ _ _ (dH (gZ _ _ ρ1) [(5,J (k+if e.txn then 16 else 0:Nat))]) w3
 have hk19:(k+if e.txn then 16 else 0)<256:=by split<;>omega
 refine W ?_
 refine Zr ?_
 refine iI Z Z ?_
 refine ON iF iE Z (CS hk19) Z ?_
 refine s9 (vs:=[.int .u8 _]) H ec zX Z Z Z Z Z Z ?_;intro w4 b23 H
 refine vp Z Z ?_
 refine U ?_
 replace H:=H.swap
 have ho:gz dC (.slice (Qd b23) 1 1) m4 [ox e] [(b23,.cells (qm [.int .u8 (k+if e.txn then 16 else 0:Nat)]).toArray m4)]:=by
  have e1:dC.all [ox e]=(qm [.int .u8 (k+if e.txn then 16 else 0:Nat)]).toArray.toList:=by
   show [Value.int .u8 _]=_
   rw[hkB,Qh _ hk19]
   rfl
  unfold gz
  rw[e1]
  exact sj.lit (n:=1) (by decide) Z
 refine W<|W ?_
 refine Zr ?_
 refine sr nR Z Z ?_
 refine wk H 0 ak Z Z Z Z ?_
 refine sr fp Z Z ?_
 refine wk H 0 ak Z Z Z Z ?_
 refine sr eJ Z Z ?_
 refine wk H 0 ak Z Z Z Z ?_
 refine sr fg Z Z ?_
 refine wk H 0 ak Z Z Z Z ?_
 refine s9 (vs:=[J _,J _,J _,J _]) H bc wI Z Z Z Z Z Z ?_;intro w5 b32 H
 refine ve eM Z Z ?_
 refine iI Z Z ?_
 refine U<|Zb ?_
 have hns: ∀ k,k<4->(qm [J e.epoch,J e.pid,J e.ver,J e.seq]).toArray[0+k*1]? =some (J (e.nums.getD k 0)):=by
  intro k hk
  have:k=0∨k=1∨k=2∨k=3:=by omega
  rcases this with rfl|rfl|rfl|rfl<;>rfl
 have hmem: ∀ k,k<4->e.nums.getD k 0∈e.nums:=by
  intro k hk
  have:k=0∨k=1∨k=2∨k=3:=by omega
  rcases this with rfl|rfl|rfl|rfl<;>simp[cz.nums]
 have hstep: ∀ k,k<4->e.nums.take (k+1)=e.nums.take k++[e.nums.getD k 0]:=by
  intro k hk
  have:k=0∨k=1∨k=2∨k=3:=by omega
  rcases this with rfl|rfl|rfl|rfl<;>rfl
 have hnlen: ∀ k,k<=4->(ou (e.nums.take k)).length<=20:=by
  intro k hk
  have:=yd (e.nums.take k) fun n hn=>hnn n (zi hn)
  have h2:(e.nums.take k).length<=4:=by simp[cz.nums];omega
  omega
 refine cD (τ:=Nat×Option Addr×Nat) [6,8,34,35,36,37,38,39,40,41] (fun(k,A,c)=>[(6,.slice A (ox e::ou (e.nums.take k)).length c),(34,J k)])
  (fun(k,A,c) w'=>k<=4/\ ∃ L',gz dC (.slice A (ox e::ou (e.nums.take k)).length c) m4 (ox e::ou (e.nums.take k)) L'/\Hp w w' ([(b32,.cells (qm [J e.epoch,J e.pid,J e.ver,J e.seq]).toArray db),(b1,.cells e.c.toArray dw)]++L'++[]) []) (fun(k,_,_)=>4-k) (0,_,1) ⟨by omega,_,ho,H⟩ (li Z Z) ?_
 rintro⟨j,A1,c1⟩ ρ1 w1 ⟨hj4,L1,ho,H⟩
 show CW _ _ _ _ (dH (gZ _ _ ρ1) [(6,.slice A1 (ox e::ou (e.nums.take j)).length c1),(34,J j)]) w1
 refine W ?_
 refine Zr ?_
 refine HO Z Z Z (fun h35=> ?_) (fun h35=> ?_)
 all_goals refine nG ?_
 all_goals refine BH ?_
 ·refine pV Z ?_
  refine Zk ?_
  have hj:j<4:=by omega
  have hns:=hns j hj
  obtain⟨hm0,hm1⟩:=hnn _ (hmem j hj)
  have hstep:=hstep j hj
  have hnl:=hnlen j hj4
  generalize e.nums.getD j 0=x at*
  obtain⟨m,rfl⟩: ∃ m:Nat,x=m:=⟨x.toNat,by omega⟩
  refine W<|Zb<|W ?_
  refine Zr ?_
  refine Qj bc Z Z I I Z ?_
  refine wk H 0 ak Z Z hns Z ?_
  refine pp Z Z ?_
  refine U ?_
  refine Zr ?_
  refine mu Z Z ?_
  refine iI Z Z ?_
  refine ch BK (J0 m H ho I (by simp only[bV];omega)) Z Z ?_;rintro _ w5 ⟨A2,c2,L2,rfl,ho2,H2⟩
  refine vp Z Z ?_
  refine U ?_
  refine Zr ?_
  refine add Z Z I I Z ?_
  refine iI Z Z ?_
  refine U ?_
  have hnx:ox e::ou (e.nums.take (j+1))=ox e::ou (e.nums.take j)++zm m:=by
   rw[hstep];simp[ou]
  rw[<-hnx]at ho2
  refine⟨(j+1,A2,c2),⟨by omega,L2,ho2,H2⟩,li (by rw[hnx];rfl) Z,by repeat (first|exact m1|refine lH Z ?_|refine jP _ Z ?_),by show 4- (j+1)<4-j;omega⟩
 ·refine oQ Z ?_
  refine Zx ?_
  have hj:j=4:=by omega
  subst hj
  have h20:=hnlen 4 I
  have e4:e.nums.take 4=e.nums:=rfl
  rw[e4]at*
  have hne:ox e::ou e.nums≠[]:=by simp
  refine W ?_
  refine Zr ?_
  refine mu Z Z ?_
  refine sr qo Z Z ?_
  refine wk H 1 bd Z Z Z Z ?_
  refine R3 (Y:=dC) oT jy Z QI H ho hne Z Z (by simp only[bV];omega) Z ?_
  intro A2 c2 w2 L2 hc1 hc2 ho H
  refine vp Z Z ?_
  refine U ?_
  have eb:ox e::ou e.nums++e.text.data.toList=eQ e:=rfl
  rw[eb]at*
  refine W ?_
  refine Zr ?_
  refine mu Z Z ?_
  refine ch zb (Li (eQ e) A2 c2 w2 ((ho.rd H).mono (bG _) (ao _)) I) Z Z ?_;rintro _ w6 ⟨rfl,hb6⟩;replace H:=H.later hb6
  refine pp Z Z ?_
  refine U ?_
  have hs:=DU (eQ e)
  refine W ?_
  refine Zr ?_
  refine mu Z Z ?_
  refine ve eO Z Z ?_
  refine ON iF iE Z (CS (n:=(eQ e).length) I) Z ?_
  refine s9 (vs:=[.int .u8 _]) H ec zX Z Z Z Z Z Z ?_;intro w7 b51 H7
  refine mu Z Z ?_
  have ho5:gz dC (.slice (Qd b51) 1 1) m4 [UInt8.ofNat (eQ e).length] [(b51,.cells (qm [.int .u8 ((eQ e).length:Nat)]).toArray m4)]:=by
   have e1:dC.all [UInt8.ofNat (eQ e).length]=(qm [.int .u8 ((eQ e).length:Nat)]).toArray.toList:=by
    show [Value.int .u8 _]=_
    rw[Qh _ I]
    rfl
   unfold gz
   rw[e1]
   exact sj.lit (n:=1) (by decide) Z
  refine vP (Y:=dC) oT (K:=[]) (M:=_) H7 ho5 (news:=eQ e) Z Z Z (ho.rd (K:=(b51,_)::[_,_]) (M:=[]) H7).src (by simp only[bV,xL];omega) Z ?_
  intro A8 c8 w8 L8 _ _ ho8 H8
  refine iI Z Z ?_
  refine G (O1 (b:=8) Z Z I) ?_
  refine ON iF iE Z (CS (n:=mF (eQ e)/2 ^ 8) I) Z ?_
  refine iI Z Z ?_
  refine ON iF iE Z (Pj (mF (eQ e))) Z ?_
  refine s9 (vs:=[.int .u8 _,.int .u8 _]) H8 ec zX Z Z Z Z Z Z ?_;intro w9 b59 H9
  refine vP (Y:=dC) oT (K:=[_]) (M:=_) H9 ho8 (news:=[UInt8.ofNat (mF (eQ e)/256),UInt8.ofNat (mF (eQ e)%256)]) Z Z Z ?_ (by simp only[ay,bV,xL];omega) Z ?_
  ·have:=wz.row (m:=2) (sz:=1) (H9.ent (i:=0) Z) Z
   have e1:dC.all [UInt8.ofNat (mF (eQ e)/256),UInt8.ofNat (mF (eQ e)%256)]=[.int .u8 (mF (eQ e)/256:Nat),.int .u8 (mF (eQ e)%256:Nat)]:=by
    show [Value.int .u8 _,Value.int .u8 _]=_
    rw[Qh _ I,Qh _ I]
   rw[e1]
   exact this
  intro A9 c9 w10 L9 hc9 _ ho9 H10
  refine vp Z Z ?_
  refine pp Z Z ?_
  refine U<|Zt ?_
  refine mr Z Z Z ⟨A9,c9,rfl,?_,hc9,H10.below⟩
  exact ho9.rd H10
/-- the number that is next, from its i-th byte on -/
def rn:Nat->Nat->List UInt8->Nat×List UInt8×Bool
 |_,_,[]=>(0,[],true)
 |i,n,c::l=>if i=5 then(0,c::l,true)else if c.toNat<128 then(n+c.toNat%128*2 ^ (7*i),l,decide (c.toNat=0)&&decide (0<i))else rn (i+1) (n+c.toNat%128*2 ^ (7*i)) l
def FE (l:List UInt8) (bad:Bool):Nat×List UInt8×Bool:=if bad then(0,l,true)else rn 0 0 l
theorem PF {n x i:Nat} (hn:n<2 ^ (7*i)):n|||x*2 ^ (7*i)=n+x*2 ^ (7*i):=by
 have:=ss hn x
 rw[Nat.or_comm,DI,<-this,sv]
theorem sJ {w0 w:World} {F:List cB} {M:List (Nat×Obj)} {b:Nat} {l:List UInt8} {A:Option Addr} {c:Nat} {bad:Bool} (H:Hp w0 w ((b,.cells #[.slice A l.length c,.bool bad] uB)::M) F) (hr:Rd dC 0 w0.heap.size A l w0) (hc:l.length<=c):
  dh aa t8 [.pointer (Qd b)] w fun v w2=>v=J ((FE l bad).1:Nat)/\ ∃ A' c',Hp w0 w2 ((b,.cells #[.slice A' (FE l bad).2.1.length c',.bool (FE l bad).2.2] uB)::M) F/\Rd dC 0 w0.heap.size A' (FE l bad).2.1 w0/\(FE l bad).2.1.length<=c':=by
 refine aE tB Z Z ?_
 refine W ?_
 refine Zr ?_
 refine pp Z Z ?_
 refine U<|W ?_
 refine Zr ?_
 refine pp Z Z ?_
 refine U<|W ?_
 refine Zr ?_
 refine pp Z Z ?_
 refine U<|Zb ?_
 refine cD (τ:=Nat×Nat×List UInt8×Bool) [2,3,4,5,6,7,8,9,10,11,12,13,14,15,16,17,18,19,20,21,22,23,24,25,26,27,28,29,30,31,32,33,34,35,36,37,38,39,40,41,42,43,44,45,46,47,48,49,50,51,52,53,54,55,56,57,58,59,60]
  (fun(i,n,_,_)=>[(3,J (n:Nat)),(4,J (i:Nat))])
  (fun(i,n,l1,bad1) w'=>i<=5/\n<2 ^ (7*i)/\(if bad1 then(0,l1,true)else rn i n l1)=FE l bad/\ ∃ A c,Hp w0 w' ((b,.cells #[.slice A l1.length c,.bool bad1] uB)::M) F/\Rd dC 0 w0.heap.size A l1 w0/\l1.length<=c) (fun(_,_,l1,_)=>l1.length) (0,0,l,bad) ⟨by omega,by decide,rfl,A,c,H,hr,hc⟩ (li Z Z) ?_
 rintro⟨i,n,l1,bad1⟩ ρ1 w1 ⟨hi5,hn,hrn,A1,c1,H,hr,hc⟩
 show CW _ _ _ _ (dH (gZ _ _ ρ1) [(3,J (n:Nat)),(4,J (i:Nat))]) w1
 refine W<|Zb<|W<|W ?_
 refine Zr ?_
 refine HG Z Z ?_
 refine KU Z Z ?_
 refine sr ks Z Z ?_
 refine wk H 0 dS Z Z Z Z ?_
 refine AA Z Z ?_
 by_cases hstop:bad1=true∨l1=[]∨i=5
 ·have hres:FE l bad=(0,l1,true):=by
   rw[<-hrn]
   rcases hstop with h|h|h
   ·rw[if_pos h]
   ·subst h;split<;>rfl
   ·subst h;split
    ·rfl
    ·cases l1<;>simp[rn]
  cases bad1
  ·refine tU Z ?_
   refine HG Z Z ?_
   refine ZG ?_
   refine KU Z Z ?_
   refine ZG ?_
   refine sr mc Z Z ?_
   refine ZG ?_
   refine wk H 0 d9 Z Z Z Z ?_
   refine ZG ?_
   refine ve eO Z Z ?_
   refine ZG ?_
   by_cases hl:l1=[]
   ·refine MW Z Z (by rw[hl];rfl) Z ?_
    refine sK Z Z Z ?_
    refine AA Z Z ?_
    iterate 2 refine rW Z Z Z ?_
    refine wU Z Z Z ?_
    refine U<|ZT Z<|W ?_
    refine Zr ?_
    refine HG Z Z ?_
    refine KU Z Z ?_
    refine sr ks Z Z ?_
    refine Qo H 0 iU Z Z Z (by simp) fun w2 H2=>U<|W ?_
    refine Zr ?_
    refine pp Z Z ?_
    refine U<|Zt ?_
    rw[hres]
    exact cH (v:=J 0) Z Z ⟨rfl,A1,c1,H2,hr,hc⟩
   ·have hi:i=5:=by
     rcases hstop with h|h|h
     ·cases h
     ·exact absurd h hl
     ·exact h
    have hl0:l1.length≠0:=fun h=>hl (bT h)
    refine In Z Z I Z ?_
    refine sK Z Z Z ?_
    refine AA Z Z ?_
    refine ZG ?_
    refine iI Z Z ?_
    refine ZG<|MW Z Z I Z ?_
    refine sK Z Z Z ?_
    refine U<|ZT Z<|W ?_
    refine Zr ?_
    refine HG Z Z ?_
    refine KU Z Z ?_
    refine sr ks Z Z ?_
    refine Qo H 0 iU Z Z Z (by simp) fun w2 H2=>U<|W ?_
    refine Zr ?_
    refine pp Z Z ?_
    refine U<|Zt ?_
    rw[hres]
    exact cH (v:=J 0) Z Z ⟨rfl,A1,c1,H2,hr,hc⟩
  ·iterate 6 refine rW Z Z Z ?_
   refine wU Z Z Z ?_
   refine AA Z Z ?_
   iterate 2 refine rW Z Z Z ?_
   refine wU Z Z Z ?_
   refine U<|ZT Z<|W ?_
   refine Zr ?_
   refine HG Z Z ?_
   refine KU Z Z ?_
   refine sr ks Z Z ?_
   refine Qo H 0 iU Z Z Z (by simp) fun w2 H2=>U<|W ?_
   refine Zr ?_
   refine pp Z Z ?_
   refine U<|Zt ?_
   rw[hres]
   exact cH (v:=J 0) Z Z ⟨rfl,A1,c1,H2,hr,hc⟩
 ·have hb1:bad1=false:=by
   cases bad1
   ·rfl
   ·exact absurd (.inl Z) hstop
  subst hb1
  have hi:i<5:=by
   have:i≠5:=fun h=>hstop (.inr (.inr h))
   omega
  obtain⟨x,l2,rfl⟩: ∃ x l2,l1=x::l2:=by
   cases l1 with
   |nil=>exact absurd (.inr (.inl Z)) hstop
   |cons x l2=>exact⟨x,l2,rfl⟩
  have hx:x.toNat<256:=UInt8.toNat_lt _
  obtain⟨bb,o,rfl,-,hbl,hcl⟩:=hr.at_ (k:=0) (by simp)
  rw[if_neg (by decide),rn,if_neg I]at hrn
  have h7:2 ^ (7*i)<=2 ^ 28:=Nat.pow_le_pow_right (by decide) I
  have hmod:x.toNat%128<128:=jJ _ (by decide)
  have hmul:x.toNat%128*2 ^ (7*i)<=128*2 ^ 28:=Nat.mul_le_mul I h7
  have h71:2 ^ (7*(i+1))=128*2 ^ (7*i):=by rw[Nat.mul_add,Nat.pow_add];omega
  have hmul2:x.toNat%128*2 ^ (7*i)<=127*2 ^ (7*i):=dp _ I
  refine ZG ?_
  refine HG Z Z ?_
  refine ZG ?_
  refine KU Z Z ?_
  refine ZG ?_
  refine sr mc Z Z ?_
  refine ZG ?_
  refine wk H 0 d9 Z Z Z Z ?_
  refine ZG ?_
  refine ve eO Z Z ?_
  refine ZG<|In Z Z (by simp;omega) Z ?_
  refine sK Z Z Z ?_
  refine AA Z Z ?_
  refine ZG ?_
  refine iI Z Z ?_
  refine ZG<|In Z Z I Z ?_
  refine sK Z Z Z ?_
  refine U<|ZF Z<|Zk<|W ?_
  refine Zr ?_
  refine HG Z Z ?_
  refine KU Z Z ?_
  refine sr mc Z Z ?_
  refine wk H 0 d9 Z Z Z Z ?_
  refine Qj ec Z Z I (by simp) Z ?_
  refine ld mJ Z ((H.below.cell (p:=⟨bb,_,none⟩) hbl).trans (hcl 0 _ Z)) Z ?_
  refine ON iE iF Z (vu (n:=x.toNat) I) Z ?_
  refine pp Z Z ?_
  refine U<|W ?_
  refine Zr ?_
  refine HG Z Z ?_
  refine HG Z Z ?_
  refine KU Z Z ?_
  refine sr mc Z Z ?_
  refine wk H 0 d9 Z Z Z Z ?_
  refine td ec Z Z I (by simp;omega) hc Z ?_;intro A39 hA39
  refine KU Z Z ?_
  refine sr mc Z Z ?_
  refine RN H 0 Da Z Z Z (by simp) fun w2 H2=> ?_
  have hr2:Rd dC 0 w0.heap.size A39 l2 w0:=hr.from_ (k:=1) hA39 (fun h=>h)
  have H:Hp w0 w2 ((b,.cells #[.slice A39 l2.length (c1-1),.bool false] uB)::M) F:=H2
  have hc2:l2.length<=c1-1:=by simp only[bV]at hc;omega
  refine U<|W ?_
  refine Zr ?_
  refine iI Z Z ?_
  refine iI Z Z ?_
  refine G (Pg (a:=x.toNat) (b:=127) Z Z I I) ?_
  rw[Nk]
  refine iI Z Z ?_
  refine mul Z Z I I Z ?_
  refine G (O2 (a:=x.toNat%128) (b:=7*i) (k:=.i64) Z (by simp;rfl) I I)<|G (N6 (a:=n) (b:=x.toNat%128*2 ^ (7*i)) Z Z I I) ?_
  rw[PF hn]
  refine pp Z Z ?_
  refine U<|W ?_
  refine Zr ?_
  refine iI Z Z ?_
  refine HO Z Z Z (fun h50=> ?_) (fun h50=> ?_)
  all_goals refine nG ?_
  ·rw[if_pos I]at hrn
   refine ZT Z<|W ?_
   refine Zr ?_
   refine HG Z Z ?_
   refine iI Z Z ?_
   by_cases hx0:x.toNat=0
   ·refine MW Z Z I Z ?_
    refine AA Z Z ?_
    refine ZG ?_
    refine iI Z Z ?_
    refine ZG<|G (km (a:=(i:Int)) (b:=0) Z Z) ?_
    refine wU Z Z Z ?_
    refine KU Z Z ?_
    refine sr ks Z Z ?_
    refine Qo H 0 iU Z Z Z (by simp) fun w3 H3=>U<|W ?_
    refine Zr ?_
    refine iI Z Z ?_
    refine pp Z Z ?_
    refine U<|Zt ?_
    rw[<-hrn]
    have e:(decide (x.toNat=0)&&decide (0<i))=decide ((0:Int)<i):=by
     rw[decide_eq_true hx0,hJ];exact decide_eq_decide.2 I
    rw[e]
    exact cH (v:=J (n+x.toNat%128*2 ^ (7*i):Nat)) Z Z ⟨rfl,A39,c1-1,H3,hr2,hc2⟩
   ·refine In Z Z I Z ?_
    refine AA Z Z ?_
    iterate 2 refine rW Z Z Z ?_
    refine sK Z Z Z ?_
    refine KU Z Z ?_
    refine sr ks Z Z ?_
    refine Qo H 0 iU Z Z Z (by simp) fun w3 H3=>U<|W ?_
    refine Zr ?_
    refine iI Z Z ?_
    refine pp Z Z ?_
    refine U<|Zt ?_
    rw[<-hrn]
    have e:(decide (x.toNat=0)&&decide (0<i))=false:=by rw[decide_eq_false hx0];rfl
    rw[e]
    exact cH (v:=J (n+x.toNat%128*2 ^ (7*i):Nat)) Z Z ⟨rfl,A39,c1-1,H3,hr2,hc2⟩
  ·rw[if_neg I]at hrn
   refine ZF Z<|Zk ?_
   refine Zr ?_
   refine iI Z Z ?_
   refine add Z Z I I Z ?_
   refine pp Z Z ?_
   refine U ?_
   refine⟨(i+1,n+x.toNat%128*2 ^ (7*i),l2,false),⟨by omega,by rw[h71];omega,by rw[<-hrn];rfl,A39,c1-1,H,hr2,hc2⟩,li Z Z,by repeat (first|exact m1|refine lH Z ?_|refine jP _ Z ?_),by show l2.length<l2.length+1;omega⟩
/-- an entry out of a body -/
def tq (c:UInt8) (l:List UInt8):cz×Bool:=
 let q1:=FE l false
 let q2:=FE q1.2.1 q1.2.2
 let q3:=FE q2.2.1 q2.2.2
 let q4:=FE q3.2.1 q3.2.2
 (⟨(q1.1:Nat),(q2.1:Nat),(q3.1:Nat),(q4.1:Nat),(c.toNat&&&15:Nat),!decide (((c.toNat&&&16:Nat):Int)=0),⟨q4.2.1.toArray⟩⟩,q4.2.2)
def uz (c:UInt8) (l:List UInt8):Bool:=!(tq c l).2&&decide (c.toNat<32)&&decide (eD (tq c l).1=0)
theorem OR (c0:UInt8) (l:List UInt8) (A:Option Addr) (c:Nat) (w:World) (hr:Rd dC 0 w.heap.size A (c0::l) w) (hc:(c0::l).length<=c):
  dh aa Gf [.slice A (c0::l).length c] w fun v w2=>v=.tuple #[(tq c0 l).1.v,.bool (uz c0 l)]/\Below w.heap.size w w2:=by
 obtain⟨bb,o,rfl,-,hbl,hcl⟩:=hr.at_ (k:=0) (by simp)
 have hc0:c0.toNat<256:=UInt8.toNat_lt _
 refine aE ED Z Z ?_
 have H:=Hp.start w
 refine W ?_
 refine Zr ?_
 refine eP H gu Z ?_;intro w1 b2 H
 refine QK Z Z ?_
 refine U<|W ?_
 refine Zr ?_
 refine mu Z Z ?_
 refine td ec Z Z I (by simp;omega) hc Z ?_;intro A7 hA7
 have hr7:Rd dC 0 w.heap.size A7 l w:=hr.from_ (k:=1) hA7 (fun h=>h)
 have hc7:l.length<=c-1:=by simp only[bV]at hc;omega
 refine G (v:=.agg #[.slice A7 l.length (c-1),.bool false]) (bg Jy KY Z) ?_
 refine f7 H Z Z ?_;intro w2 b9 H
 refine R1 Z Z ?_
 refine U<|W ?_
 have hcl2:=fun(w':World) (hw':oZ w2 w')=>((H.later hw').below.cell (p:=⟨bb,_,none⟩) hbl).trans (hcl 0 _ Z)
 refine bA cd [0,1,2,3,4,5,6,7,8,9,10,11] [12] [11] [0,1,3,4,5,6,8,9,10] (sp [(11,Sp.blk w2.heap.size (.agg #[J 0,J 0,J 0,J 0,J 0,.bool false,.string ⟨#[]⟩]) dw)]) N N N N Nq (cI _) ?_
 refine aw Z Z Z Z Z (fun _ _=>iD Z) ?_
 refine aw Z Z Z Z Z (fun _ _=>tk ec Z Z I (by simp)) ?_
 refine aw Z Z Z Z Z (fun w' hw'=>aW mJ Z (hcl2 w' hw')) ?_
 refine aw Z Z Z Z Z (fun _ _=>Nj (a:=c0.toNat) (b:=15) Z Z I I) ?_
 refine aw Z Z Z Z Z (fun _ _=>Dx iE iF Z (vu (n:=c0.toNat&&&15) (mz (IF I)))) ?_
 refine aw Z Z Z Z Z (fun _ _=>iD Z) ?_
 refine aw Z Z Z Z Z (fun _ _=>tk ec Z Z I (by simp)) ?_
 refine aw Z Z Z Z Z (fun w' hw'=>aW mJ Z (hcl2 w' hw')) ?_
 refine aw Z Z Z Z Z (fun _ _=>Nj (a:=c0.toNat) (b:=16) Z Z I I) ?_
 refine aw Z Z Z Z Z (fun _ _=>jh (k:=.u8) (a:=((c0.toNat&&&16:Nat):Int)) (b:=0) Z Z) ?_
 refine aw (v:=.agg (cz.c ⟨0,0,0,0,(c0.toNat&&&15:Nat),!decide (((c0.toNat&&&16:Nat):Int)=0),⟨#[]⟩⟩).toArray) Z Z Z Z Z (fun _ _=>bg ol gu Z)<|Pf gu Z Z Z Z (fun w' w2 b hC hb hh=>⟨b,rfl,aU hC.size hb,hh⟩) ?_
 rintro _ ⟨_,_,b5,rfl,_,_⟩
 refine aV ?_
 rintro w3 hw3 ⟨-,b,he,hge,hb5⟩
 cases he
 replace H:=(H.adoptNew hw3 hb5 hge).swap
 refine Lx H 1 eW Z Z Z Z Z Z ?_;intro w4 H
 refine U<|W ?_
 refine Zr ?_
 refine HG Z Z ?_
 refine ch iH (sJ (l:=l) (bad:=false) H hr7 hc7) Z Z ?_;rintro _ w5 ⟨rfl,A1,c1,H1,hr1,hc1⟩
 refine HG Z Z ?_
 refine ch iH (sJ H1 hr1 hc1) Z Z ?_;rintro _ w6 ⟨rfl,A2,c2,H2,hr2,hc2⟩
 refine HG Z Z ?_
 refine ch iH (sJ H2 hr2 hc2) Z Z ?_;rintro _ w7 ⟨rfl,A3,c3,H3,hr3,hc3⟩
 refine HG Z Z ?_
 refine ch iH (sJ H3 hr3 hc3) Z Z ?_;rintro _ w8 ⟨rfl,A4,c4,H4,hr4,hc4⟩
 generalize hE:tq c0 l=E
 have hEE:E=_:=hE.symm
 unfold tq at hEE
 simp only at hEE
 generalize hq1:FE l false=q1 at*
 generalize hq2:FE q1.2.1 q1.2.2=q2 at*
 generalize hq3:FE q2.2.1 q2.2.2=q3 at*
 generalize hq4:FE q3.2.1 q3.2.2=q4 at*
 obtain⟨n1,l1,x1⟩:=q1
 obtain⟨n2,l2,x2⟩:=q2
 obtain⟨n3,l3,x3⟩:=q3
 obtain⟨n4,l4,x4⟩:=q4
 dsimp only at*
 clear H H1 H2 H3 hr1 hr2 hr3 hc1 hc2 hc3 hq1 hq2 hq3 hq4
 refine sr nR Z Z ?_
 refine QR H4 1 bH Z Z Z (fl Z) ?_;intro w9 H
 refine sr fp Z Z ?_
 refine QR H 1 bH Z Z Z (fl Z) ?_;intro w10 H
 refine sr eJ Z Z ?_
 refine QR H 1 bH Z Z Z (fl Z) ?_;intro w11 H
 refine sr fg Z Z ?_
 refine QR H 1 bH Z Z Z (fl Z) ?_;intro w12 H
 refine U<|W ?_
 refine Zr ?_
 refine HG Z Z ?_
 refine KU Z Z ?_
 refine sr mc Z Z ?_
 refine wk H 0 d9 Z Z Z Z ?_
 refine Go.Eng.l1 (PZ ec iE jy Z Z (fun _=>rfl) (hr4.below H.below)) Z Z Z ?_
 refine sr qo Z Z ?_
 refine RM H 1 Af Z Z Z (fl Z) ?_;intro w13 H
 refine U ?_
 have H:Hp w w13 [(b9,.cells #[.slice A4 l4.length c4,.bool x4] uB),(b5,.cells E.1.c.toArray dw),(b2,.cells (cz.c ⟨0,0,0,0,0,false,⟨#[]⟩⟩).toArray dw)] []:=by rw[hEE];exact H
 have hx4:E.2=x4:=by rw[hEE]
 have hcl3:=fun(w':World) (hw':oZ w13 w')=>((H.later hw').below.cell (p:=⟨bb,_,none⟩) hbl).trans (hcl 0 _ Z)
 obtain⟨E,x5⟩:=E
 dsimp only at*
 subst hx4
 clear hEE
 refine W ?_
 refine bA cd [0,1,2,3,4,5,6,7,8,9,10,11,12,13,14,15,16] [17,18] [14] [1,2,3,5,6,7,8,10,11,12,15,16] (sp [(14,Sp.one (J (eD E)))]) N N N N Nq (cI _) ?_
 refine aw Z Z Z Z Z (fun w' hw'=>jL dG Z ((H.later hw').ent (i:=1) Z) Z) ?_
 refine aw Z Z Z Z Z (fun _ _=>iD Z) ?_
 refine aw Z Z Z Z Z (fun _ _=>aJ Z) ?_
 refine aw Z Z Z Z Z (fun _ _=>Zf ks Z) ?_
 refine aw Z Z Z Z Z (fun w' hw'=>aW dS Z (aB ((H.later hw').ent (i:=0) Z) Z)) ?_
 refine aw Z Z Z Z Z (fun _ _=>dM Z) ?_
 refine aw Z Z Z Z Z (fun _ _=>iD Z) ?_
 have hob:uz c0 l=(!x5&&decide (c0.toNat<32)&&decide (eD E=0)):=by unfold uz;rw[hE]
 rw[hob]
 cases x5
 ·refine aw Z Z Z Z Z (fun _ _=>iD Z) ?_
  refine aw Z Z Z Z Z (fun _ _=>tk ec Z Z I (by simp)) ?_
  refine aw Z Z Z Z Z (fun w' hw'=>aW mJ Z (hcl3 w' hw')) ?_
  refine aw Z Z Z Z Z (fun _ _=>cK (k:=.u8) (a:=(c0.toNat:Int)) (b:=32) Z Z) ?_
  refine aw Z Z Z Z Z (fun _ _=>LY Z Z) ?_
  refine aw Z Z Z Z Z (fun _ _=>iD Z) ?_
  have h32:decide ((c0.toNat:Int)<32)=decide (c0.toNat<32):=decide_eq_decide.2 I
  rw[h32]
  cases h:decide (c0.toNat<32)
  ·iterate 3 refine eU Z Z Z Z ?_
   refine aw Z Z Z Z Z (fun _ _=>IU Z Z) ?_
   refine aV ?_
   intro w' hw' hF;replace H:=H.later hw';clear hw'
   refine Lx H 2 eW Z Z Z Z Z Z ?_;intro w15 H
   refine QK Z Z<|U<|Zt ?_
   exact MP Z dG Z (H.ent (i:=2) Z) Z Z ⟨rfl,H.below⟩
  ·refine aw Z Z Z Z Z (fun w' hw'=>jL dG Z ((H.later hw').ent (i:=1) Z) Z) ?_
   refine zd rM Z Z Z Z (fun w' _=>(xT E w').mono (fun v w2 ⟨h1,h2⟩=>⟨h2,h1⟩)) Z ?_
   rintro _ ⟨_,_,rfl⟩
   refine aw Z Z Z Z Z (fun _ _=>bn Z Z) ?_
   refine aw Z Z Z Z Z (fun _ _=>LY Z Z) ?_
   refine aV ?_
   intro w' hw' hF;replace H:=H.later hw';clear hw'
   refine Lx H 2 eW Z Z Z Z Z Z ?_;intro w15 H
   refine QK Z Z<|U<|Zt ?_
   exact MP Z dG Z (H.ent (i:=2) Z) Z Z ⟨rfl,H.below⟩
 ·iterate 4 refine eU Z Z Z Z ?_
  refine aw Z Z Z Z Z (fun _ _=>IU Z Z) ?_
  refine aw Z Z Z Z Z (fun _ _=>iD Z) ?_
  iterate 3 refine eU Z Z Z Z ?_
  refine aw Z Z Z Z Z (fun _ _=>IU Z Z) ?_
  refine aV ?_
  intro w' hw' hF;replace H:=H.later hw';clear hw'
  refine Lx H 2 eW Z Z Z Z Z Z ?_;intro w15 H
  refine QK Z Z<|U<|Zt ?_
  exact MP Z dG Z (H.ent (i:=2) Z) Z Z ⟨rfl,H.below⟩
/-- the entry that is first, and how many bytes it takes -/
def tM:List UInt8->Option (cz×Nat)
 |[]=>none
 |n::r=>
  if n.toNat=0∨r.length<n.toNat+2 then none
  else if mF (r.take n.toNat)≠(r.getD n.toNat 0).toNat*256+(r.getD (n.toNat+1) 0).toNat then none
  else if uz (r.headD 0) (r.take n.toNat).tail=true then some ((tq (r.headD 0) (r.take n.toNat).tail).1,n.toNat+3)else none
inductive Jn:List UInt8->List cz->Nat->Prop
 |stop {l:List UInt8} (h:tM l=none):Jn l [] 0
 |go {l:List UInt8} {e:cz} {k n:Nat} {es:List cz} (h:tM l=some (e,k)) (hd:Jn (l.drop k) es n):Jn l (e::es) (k+n)
theorem Qt {a b:Nat} (hb:b<256):a*2 ^ 8|||b=a*256+b:=by
 have:=ss (i:=8) (b:=b) (by simpa using hb) a
 rw[DI,<-this]
theorem NH {l:List UInt8} {e:cz} {k:Nat} (h:tM l=some (e,k)):4<=k/\k<=l.length:=by
 cases l with
 |nil=>cases h
 |cons n r=>
  simp only[tM]at h
  split at h;· cases h
  split at h;· cases h
  split at h
  injection h with h;injection h with h1 h2
  rename_i h3 _ _
  simp only[bV]
  omega
  cases h
theorem r9 (l:List UInt8) (A:Option Addr) (c:Nat) (w:World) (hr:Rd dC 0 w.heap.size A l w) (hc:l.length<=c) (hbd:l.length<=1000000000000):
  dh aa Ch [.slice A l.length c] w fun v w2=> ∃ es n A' c',v=.tuple #[.slice A' es.length c',J (n:Nat)]/\Jn l es n/\Rd gV w.heap.size w2.heap.size A' es w2/\es.length<=c'/\Below w.heap.size w w2:=by
 refine aE Bm Z Z ?_
 have H:=Hp.start w
 refine W ?_
 refine Zr ?_
 refine vp Z Z ?_
 refine pp Z Z ?_
 refine U<|W ?_
 refine Zr ?_
 refine vp Z Z ?_
 refine U<|W ?_
 refine Zr ?_
 refine pp Z Z ?_
 refine U<|W<|Zb ?_
 refine cD (τ:=Nat×List cz×Option Addr×Nat) [4,5,6,7,8,9,10,11,12,13,14,15,16,17,18,19,20,21,22,23,24,25,26,27,28,29,30,31,32,33,34,35,36,37,38,39,40,41,42,43,44,45,46,47,48,49,50,51,52,53,54,55,56,57,58,59,60,61,62,63,64,65,66,67,68,69,70,71,72,73]
  (fun(at_,out,A1,c1)=>[(4,.slice A1 out.length c1),(5,J (at_:Nat))])
  (fun(at_,out,A1,c1) w'=>at_<=l.length/\out.length<=at_/\(∀ es n,Jn (l.drop at_) es n->Jn l (out++es) (at_+n))/\ ∃ L',gz gV (.slice A1 out.length c1) dw out L'/\Hp w w' ([]++L'++[]) [])
  (fun(at_,_,_,_)=>l.length-at_) (0,[],none,0) ⟨by omega,by simp,fun es n h=>by simpa using h,[],gz.nil,H⟩ (li Z Z) ?_
 rintro⟨at_,out,A1,c1⟩ ρ1 w1 ⟨hat,hout,hdec,L1,ho,H⟩
 show CW _ _ _ _ (dH (gZ _ _ ρ1) [(4,.slice A1 out.length c1),(5,J (at_:Nat))]) w1
 have hfin: ∀ {w2:World},tM (l.drop at_)=none->Hp w w2 ([]++L1++[]) []-> ∃ es n A' c',(Value.tuple #[.slice A1 out.length c1,J (at_:Nat)])=.tuple #[.slice A' es.length c',J (n:Nat)]/\Jn l es n/\Rd gV w.heap.size w2.heap.size A' es w2/\es.length<=c'/\Below w.heap.size w w2:=fun hs H=>by
  have hd:=hdec [] 0 (.stop hs)
  rw[aZ,su]at hd
  obtain⟨A2,c2,he,hlc,-⟩:=ho.form
  injection he with h1 h2 h3
  subst h3
  exact⟨out,at_,A1,c1,rfl,hd,ho.rd H,hlc,H.below⟩
 refine W<|W ?_
 refine Zr ?_
 refine iI Z Z ?_
 refine mu Z Z ?_
 refine ve eO Z Z ?_
 refine HO Z Z Z (fun h13=> ?_) (fun h13=> ?_)
 all_goals refine nG ?_
 ·refine pV Z ?_
  refine Zk ?_
  have hlt:at_<l.length:=by omega
  obtain⟨bb,o,hA,-,hbl,hcl0⟩:=hr.at_ hlt
  subst hA
  have hcl: ∀ {k:Nat} (hk:k<l.length) (w':World),Below w.heap.size w w'->w'.cell? ⟨bb,o+k*1,none⟩=some (.int .u8 (l[k].toNat:Nat)):=fun{k} hk w' hb=>by
   obtain⟨bb',o',hA,-,hbl,hcl⟩:=hr.at_ hk
   injection hA with hA
   injection hA with h1 h2
   subst h1;subst h2
   exact(hb.cell (p:=⟨bb,_,none⟩) hbl).trans (hcl 0 _ Z)
  have hd0:l.drop at_=l[at_]::l.drop (at_+1):=m9 hlt
  have hx:=hcl hlt
  have h256:l[at_].toNat<256:=UInt8.toNat_lt _
  generalize hn:l[at_].toNat=n at*
  refine Zb<|W ?_
  refine Zr ?_
  refine mu Z Z ?_
  refine iI Z Z ?_
  refine Qj ec Z Z I I Z ?_
  refine ld mJ Z (hx _ H.below) Z ?_
  refine ON iE iF Z (vu (n:=n) I) Z ?_
  refine pp Z Z ?_
  refine U<|W<|W ?_
  refine Zr ?_
  refine iI Z Z ?_
  by_cases hstop:n=0∨l.length<at_+n+3
  ·have hs:tM (l.drop at_)=none:=by
    rw[hd0,tM,hn,if_pos]
    rw[dI];omega
   by_cases hn0:n=0
   ·refine MW Z Z I Z ?_
    refine AA Z Z ?_
    iterate 7 refine rW Z Z Z ?_
    refine wU Z Z Z ?_
    refine U<|ZT Z<|Zx<|W ?_
    refine Zr ?_
    refine mu Z Z ?_
    refine iI Z Z ?_
    refine vp Z Z ?_
    refine pp Z Z ?_
    refine U<|Zt ?_
    exact mr Z Z Z (hfin hs H)
   ·refine In Z Z I Z ?_
    refine AA Z Z ?_
    refine ZG ?_
    refine iI Z Z ?_
    refine ZG ?_
    refine iI Z Z ?_
    refine ZG ?_
    refine add Z Z I I Z ?_
    refine ZG ?_
    refine add Z Z I I Z ?_
    refine ZG ?_
    refine mu Z Z ?_
    refine ZG ?_
    refine ve eO Z Z ?_
    refine ZG<|PR Z Z I Z ?_
    refine sK Z Z Z ?_
    refine U<|ZT Z<|Zx<|W ?_
    refine Zr ?_
    refine mu Z Z ?_
    refine iI Z Z ?_
    refine vp Z Z ?_
    refine pp Z Z ?_
    refine U<|Zt ?_
    exact mr Z Z Z (hfin hs H)
  have hn0:n≠0:=fun h=>hstop (.inl h)
  have hlen:at_+n+3<=l.length:=by omega
  refine In Z Z I Z ?_
  refine AA Z Z ?_
  refine ZG ?_
  refine iI Z Z ?_
  refine ZG ?_
  refine iI Z Z ?_
  refine ZG ?_
  refine add Z Z I I Z ?_
  refine ZG ?_
  refine add Z Z I I Z ?_
  refine ZG ?_
  refine mu Z Z ?_
  refine ZG ?_
  refine ve eO Z Z ?_
  refine ZG<|PT Z Z I Z ?_
  refine sK Z Z Z ?_
  refine U<|ZF Z<|Zk<|W ?_
  refine Zr ?_
  refine mu Z Z ?_
  refine iI Z Z ?_
  refine add Z Z I I Z ?_
  refine iI Z Z ?_
  refine add Z Z I I Z ?_
  refine iI Z Z ?_
  refine add Z Z I I Z ?_
  refine O0 ec Z Z Z I I I Z ?_;intro A37 hA37
  have e1:((at_:Int)+1).toNat=at_+1:=by omega
  have e2:((at_:Int)+1+n).toNat- (at_+1)=n:=by omega
  rw[e1]at hA37⊢
  rw[e2]
  have hrx:Rd dC 0 w.heap.size A37 ((l.drop (at_+1)).take n) w:=(hr.from_ hA37 (fun h=>by omega)).take n
  have hxl:((l.drop (at_+1)).take n).length=n:=by rw[aI,dI];omega
  refine vp Z Z ?_
  refine U ?_
  have hg1:(l.drop (at_+1)).getD n 0=l[at_+n+1]:=by
   rw[bY,dx,show at_+1+n=at_+n+1 by omega,ah I];rfl
  have hg2:(l.drop (at_+1)).getD (n+1) 0=l[at_+n+2]:=by
   rw[bY,dx,show at_+1+(n+1)=at_+n+2 by omega,ah I];rfl
  have hc1:=hcl (k:=at_+n+1) I
  have hc2:=hcl (k:=at_+n+2) I
  have hb1:l[at_+n+1].toNat<256:=UInt8.toNat_lt _
  have hb2:l[at_+n+2].toNat<256:=UInt8.toNat_lt _
  generalize l[at_+n+1]=x1 at*
  generalize l[at_+n+2]=x2 at*
  generalize hX:(l.drop (at_+1)).take n=X at*
  have hstep:tM (l.drop at_)=if mF X≠x1.toNat*256+x2.toNat then none else if uz (X.headD 0) X.tail=true then some ((tq (X.headD 0) X.tail).1,n+3)else none:=by
   rw[hd0,tM,hn,if_neg (by rw[dI];omega),hX,hg1,hg2]
   have:(l.drop (at_+1)).headD 0=X.headD 0:=by
    rw[<-hX]
    cases h:l.drop (at_+1)with
    |nil=>simp
    |cons a r=>
     cases n with
     |zero=>exact absurd Z hn0
     |succ n=>rfl
   rw[this]
  have hcy1:((at_:Int)+n+1).toNat=at_+n+1:=by omega
  have hcy2:((at_:Int)+n+2).toNat=at_+n+2:=by omega
  rw[<-hcy1]at hc1
  rw[<-hcy2]at hc2
  have hor:x1.toNat*2 ^ 8|||x2.toNat=x1.toNat*256+x2.toNat:=Qt hb2
  have hslt:=DU X
  refine W<|W ?_
  refine bA cd [0,2,3,4,5,6,7,8,9,10,11,12,13,14,15,16,17,18,19,1,20] [] [1] [0,2,3,4,5,6,7,9,10,11,12,13,14,15,16,18,19,20] (sp [(1,Sp.one (J (mF X:Nat)))]) N N N N Nq (cI _) ?_
  refine aw Z Z Z Z Z (fun _ _=>iD Z) ?_
  refine aw Z Z Z Z Z (fun _ _=>iD Z) ?_
  refine aw Z Z Z Z Z (fun _ _=>iD Z) ?_
  refine aw Z Z Z Z Z (fun _ _=>iD Z) ?_
  refine aw Z Z Z Z Z (fun _ _=>bw Z Z I I) ?_
  refine aw Z Z Z Z Z (fun _ _=>bw Z Z I I) ?_
  refine aw Z Z Z Z Z (fun _ _=>tk ec Z Z I I) ?_
  refine aw Z Z Z Z Z (fun w' hw'=>aW mJ Z (hc1 w' (H.later hw').below)) ?_
  refine aw Z Z Z Z Z (fun _ _=>Dx iE iF Z (vu (n:=x1.toNat) I)) ?_
  refine aw Z Z Z Z Z (fun _ _=>O2 (a:=x1.toNat) (b:=8) (k:=.u64) Z Z I I) ?_
  refine aw Z Z Z Z Z (fun _ _=>iD Z) ?_
  refine aw Z Z Z Z Z (fun _ _=>iD Z) ?_
  refine aw Z Z Z Z Z (fun _ _=>iD Z) ?_
  refine aw Z Z Z Z Z (fun _ _=>bw Z Z I I) ?_
  refine aw Z Z Z Z Z (fun _ _=>bw Z Z I I) ?_
  refine aw Z Z Z Z Z (fun _ _=>tk ec Z Z I I) ?_
  refine aw Z Z Z Z Z (fun w' hw'=>aW mJ Z (hc2 w' (H.later hw').below)) ?_
  refine aw Z Z Z Z Z (fun _ _=>Dx iE iF Z (vu (n:=x2.toNat) I)) ?_
  refine aw Z Z Z Z Z (fun _ _=>N6 (a:=x1.toNat*2 ^ 8) (b:=x2.toNat) Z Z I I) ?_
  rw[hor]
  refine zd zb Z Z Z Z (fun w' hw'=>(Li X A37 (c- (at_+1)) w' ((hrx.below (H.later hw').below).mono (ao _) (H.later hw').size) I).mono (fun v w2 ⟨h1,h2⟩=>⟨h2,h1⟩)) (by rw[hxl];rfl) ?_
  rintro _ ⟨_,_,rfl⟩
  by_cases hsum:mF X=x1.toNat*256+x2.toNat
  ·refine aw Z Z Z Z Z (fun _ _=>bZ Z Z I) ?_
   refine aV ?_
   intro w' hw' hF;replace H:=H.later hw';clear hw' hF
   refine U<|ZF Z<|Zk ?_
   obtain⟨c0,X',rfl⟩: ∃ c0 X',X=c0::X':=by
    cases X with
    |nil=>simp at hxl;omega
    |cons a X=>exact⟨a,X,rfl⟩
   rw[if_neg I]at hstep
   refine W ?_
   refine Zr ?_
   refine mu Z Z ?_
   rw[<-hxl]
   refine ch ES (OR c0 X' A37 _ _ ((hrx.below H.below).mono (ao _) H.size) (by rw[hxl];omega)) Z Z ?_;rintro _ w2 ⟨rfl,hb2⟩;replace H:=H.later hb2
   rw[hxl]
   refine RT Z Z ?_
   refine Rw Z Z Z ?_
   refine Rw Z Z Z ?_
   refine eP H gu Z ?_;intro w3 b8 H
   refine Lx H 0 eW Z Z Z Z Z Z ?_;intro w4 H
   refine QK Z Z ?_
   refine U<|W<|W ?_
   refine Zr ?_
   refine AA Z Z ?_
   refine not Z Z ?_
   refine U ?_
   refine jw (b:=!uz c0 X') Z (fun hb=> ?_) (fun hb=> ?_)
   ·rw[if_neg (by simpa using hb)]at hstep
    refine Zx<|W ?_
    refine Zr ?_
    refine mu Z Z ?_
    refine iI Z Z ?_
    refine vp Z Z ?_
    refine pp Z Z ?_
    refine U<|Zt ?_
    exact mr Z Z Z (hfin hstep (H.forget (by simp) (fun _ h=>h)))
   ·rw[if_pos (by simpa using hb)]at hstep
    refine Zk<|W ?_
    refine Zr ?_
    refine mu Z Z ?_
    refine Ru H 0 dG Z Z Z Z ?_
    refine s9 (vs:=[.agg _]) H dV gu Z Z Z Z Z Z ?_;intro w5 b68 H5
    refine vP (Y:=gV) KL (K:=[_,_]) (L:=L1) (M:=[]) H5 ho (news:=[(tq c0 X').1]) Z Z Z ?_ (by simp only[bO];omega) Z ?_
    ·exact wz.row (m:=1) (sz:=7) (H5.ent (i:=0) Z) Z
    intro A6 c6 w6 L6 _ _ ho6 H6
    refine vp Z Z ?_
    refine U ?_
    refine Zr ?_
    refine iI Z Z ?_
    refine iI Z Z ?_
    refine add Z Z I I Z ?_
    refine add Z Z I I Z ?_
    refine pp Z Z ?_
    refine U ?_
    refine⟨(at_+(n+3),out++[(tq c0 X').1],A6,c6),⟨by omega,by simp;omega,fun es m hD=> ?_,L6,ho6,H6.forget (by simp) (fun _ h=>h)⟩,li Z ?_,by repeat (first|exact m1|refine lH Z ?_|refine jP _ Z ?_),by show l.length- (at_+(n+3))<l.length-at_;omega⟩
    ·have:=hdec _ _ (.go hstep (by rw[kb];exact hD))
     rw[aD,lg]
     exact this
    ·show Value.int .i64 _=Value.int .i64 _
     congr 1
  ·rw[if_pos hsum]at hstep
   refine aw Z Z Z Z Z (fun _ _=>kh Z Z I) ?_
   refine aV ?_
   intro w' hw' hF;replace H:=H.later hw';clear hw'
   refine U<|ZT Z<|Zx<|W ?_
   refine Zr ?_
   refine mu Z Z ?_
   refine iI Z Z ?_
   refine vp Z Z ?_
   refine pp Z Z ?_
   refine U<|Zt ?_
   exact mr Z Z Z (hfin hstep H)
 ·refine oQ Z ?_
  refine Zx ?_
  have hs:tM (l.drop at_)=none:=by rw[eo I];rfl
  refine W ?_
  refine Zr ?_
  refine mu Z Z ?_
  refine iI Z Z ?_
  refine vp Z Z ?_
  refine pp Z Z ?_
  refine U<|Zt ?_
  exact mr Z Z Z (hfin hs H)
def kT (e:cz):Prop:=eD e=0
def bj (es:List cz):List UInt8:=es.flatMap iN
theorem z6 (n:Nat) (h:n<256):(UInt8.ofNat n).toNat=n:=by simp[g7 h]
theorem LJ: ∀ (k n i m:Nat) (rest:List UInt8),n<128 ^ k->i+k<=5->(0<k)->(n≠0∨i=0)->rn i m (zm n++rest)=(m+n*2 ^ (7*i),rest,false)
 |0,_,_,_,_,_,_,h0,_=>absurd h0 (by decide)
 |k+1,n,i,m,rest,hn,hi,_,hz=>by
  by_cases h:n<=127
  rw[uQ h]
  simp only[qA,kY,rn]
  rw[if_neg I,z6 n I,if_pos I,g7 I]
  have:(decide (n=0)&&decide (0<i))=false:=by
   rcases hz with h|h
   simp[h]
   simp[h]
  rw[this]
  rw[Ee I]
  simp only[qA,rn]
  have hm:n%128<128:=jJ _ (by decide)
  rw[if_neg I,z6 _ I,if_neg I]
  have hk:k≠0:=by rintro rfl;simp at hn;omega
  rw[LJ k (n/128) (i+1) _ rest (by rw[Nat.pow_succ]at hn;exact zg I) I I (.inl I)]
  congr 1
  have e1:(n%128+128)%128=n%128:=by omega
  have e2:2 ^ (7*(i+1))=128*2 ^ (7*i):=by rw[Nat.mul_add,Nat.pow_add];omega
  rw[e1,e2]
  have e3:n/128*(128*2 ^ (7*i))=(n/128*128)*2 ^ (7*i):=(Nat.mul_assoc _ _ _).symm
  rw[e3,lg,<-cR]
  congr 2
  omega
theorem zH {n:Nat} (hn:n<=1073741824) (rest:List UInt8):FE (zm n++rest) false=(n,rest,false):=by
 unfold FE
 rw[if_neg (by decide),LJ 5 n 0 0 rest I I I (.inr Z)]
 simp
theorem J7: ∀ k:Nat,k<4-> ∀ t:Bool,let c:=k+if t then 16 else 0;c<32/\(c&&&15)=k/\(!decide (((c&&&16:Nat):Int)=0))=t:=by decide
theorem M9 {e:cz} (h:kT e): ∃ c x,eQ e=c::x/\uz c x=true/\(tq c x).1=e:=by
 obtain⟨h1,h2,h3,h4,-⟩:=qV h
 refine⟨ox e,ou e.nums++e.text.data.toList,rfl,?_⟩
 obtain⟨ep,pid,ver,seq,kind,txn,text⟩:=e
 simp only[cz.nums,ax,bU,or_false,forall_eq_or_imp,forall_eq]at h3
 dsimp only at h1 h2
 obtain⟨a1,a2,a3,a4⟩:=h3
 obtain⟨n1,rfl⟩: ∃ n:Nat,ep=n:=⟨ep.toNat,by omega⟩
 obtain⟨n2,rfl⟩: ∃ n:Nat,pid=n:=⟨pid.toNat,by omega⟩
 obtain⟨n3,rfl⟩: ∃ n:Nat,ver=n:=⟨ver.toNat,by omega⟩
 obtain⟨n4,rfl⟩: ∃ n:Nat,seq=n:=⟨seq.toNat,by omega⟩
 obtain⟨k,rfl⟩: ∃ n:Nat,kind=n:=⟨kind.toNat,by omega⟩
 have hb:ou (cz.nums ⟨(n1:Nat),(n2:Nat),(n3:Nat),(n4:Nat),(k:Nat),txn,text⟩)++text.data.toList=zm n1++(zm n2++(zm n3++(zm n4++text.data.toList))):=by
  simp[ou,cz.nums]
 obtain⟨j1,j2,j3⟩:=J7 k I txn
 have hkb:(ox ⟨(n1:Nat),(n2:Nat),(n3:Nat),(n4:Nat),(k:Nat),txn,text⟩).toNat=k+if txn then 16 else 0:=by
  unfold ox
  exact z6 _ (by simp only[uE];exact Nat.lt_trans j1 (by decide))
 have hE:tq (ox ⟨(n1:Nat),(n2:Nat),(n3:Nat),(n4:Nat),(k:Nat),txn,text⟩) (zm n1++(zm n2++(zm n3++(zm n4++text.data.toList))))=(⟨(n1:Nat),(n2:Nat),(n3:Nat),(n4:Nat),(k:Nat),txn,text⟩,false):=by
  unfold tq
  simp only[zH (show n1<=1073741824 by omega),zH (show n2<=1073741824 by omega),zH (show n3<=1073741824 by omega),zH (show n4<=1073741824 by omega),hkb,j2,j3]
 dsimp only
 rw[hb]
 refine⟨?_,by rw[hE]⟩
 unfold uz
 rw[hE,hkb]
 simp[j1,show eD _=0 from h]
theorem BC (e:cz):(iN e).length=(eQ e).length+3:=by simp[iN]
theorem Fu {e:cz} (h:kT e) (rest:List UInt8):tM (iN e++rest)=some (e,(iN e).length):=by
 obtain⟨hl,h0⟩:=vc h
 have hs:=DU (eQ e)
 obtain⟨c,x,h1,h2,h3⟩:=M9 h
 have e1:iN e++rest=UInt8.ofNat (eQ e).length::(eQ e++(UInt8.ofNat (mF (eQ e)/256)::UInt8.ofNat (mF (eQ e)%256)::rest)):=by simp[iN]
 rw[e1,tM,z6 _ I,if_neg (by simp only[ay,bV];omega)]
 have t1:(eQ e++(UInt8.ofNat (mF (eQ e)/256)::UInt8.ofNat (mF (eQ e)%256)::rest)).take (eQ e).length=eQ e:=ji
 have t2:(eQ e++(UInt8.ofNat (mF (eQ e)/256)::UInt8.ofNat (mF (eQ e)%256)::rest)).getD (eQ e).length 0=UInt8.ofNat (mF (eQ e)/256):=by
  rw[bY,bX (ao _),my];rfl
 have t3:(eQ e++(UInt8.ofNat (mF (eQ e)/256)::UInt8.ofNat (mF (eQ e)%256)::rest)).getD ((eQ e).length+1) 0=UInt8.ofNat (mF (eQ e)%256):=by
  rw[bY,bX I,j8];rfl
 rw[t1,t2,t3,z6 _ I,z6 _ I,if_neg (fun h=>h (Nat.div_add_mod' _ _).symm)]
 have t4:(eQ e++(UInt8.ofNat (mF (eQ e)/256)::UInt8.ofNat (mF (eQ e)%256)::rest)).headD 0=c:=by rw[h1];rfl
 rw[t4,BC]
 rw[h1]
 simp[h2,h3]
theorem Jc: ∀ (es:List cz) (rest:List UInt8),(∀ e∈es,kT e)->tM rest=none->Jn (bj es++rest) es (bj es).length
 |[],rest,_,h=> .stop h
 |e::es,rest,hg,h=>by
  have h1:=Fu (hg e (az ..)) (bj es++rest)
  have h2:=Jc es rest (fun x hx=>hg x (aj _ hx)) h
  have e1:bj (e::es)++rest=iN e++(bj es++rest):=by simp[bj]
  have e2:(bj (e::es)).length=(iN e).length+(bj es).length:=by simp[bj]
  rw[e1,e2]
  exact .go h1 (by rw[List.drop_left];exact h2)
theorem pU {l:List UInt8} {es es':List cz} {n n':Nat} (h:Jn l es n) (h':Jn l es' n'):es=es'/\n=n':=by
 induction h generalizing es' n' with
 |stop h=>cases h' with
  |stop=>exact⟨rfl,rfl⟩
  |go h1 _=>rw[h]at h1;cases h1
 |go h hd ih=>cases h' with
  |stop h1=>rw[h]at h1;cases h1
  |go h1 hd1=>
   rw[h]at h1
   injection h1 with h1;injection h1 with h1 h2
   subst h1;subst h2
   obtain⟨a,b⟩:=ih hd1
   exact⟨by rw[a],by rw[b]⟩
theorem MK (e:cz):bj [e]=iN e:=by simp[bj]
theorem Kk {es:List cz} {k:Nat} (h:k<es.length):bj (es.take (k+1))=bj (es.take k)++iN es[k]:=by
 unfold bj
 rw[DJ h,nb,List.flatMap_singleton]
theorem fo (es:List cz) (k:Nat):(bj (es.take k)).length<=(bj es).length:=by
 have:bj es=bj (es.take k)++bj (es.drop k):=by
  unfold bj;rw[<-nb,gQ]
 rw[this,ay];omega
def e0:cz:=⟨0,1,0,0,2,true,⟨#[]⟩⟩
section
open Go.ChangeShapes Go.WideShapes Go.ChangeAt Go.RowKit Go.Eng
/-- the row's end, out of a function's contract -/
theorem JJ {f:FuncId} {vs:List Value} {w:World} (h:dh aa f vs w fun v w2=>v=.bool true/\Below w.heap.size w w2):Calls aa f vs.toArray w fun e w'=>e=.returned (.bool true)/\Below w.heap.size w w':=
 Calls.mono h fun _ _ ⟨_,he,hv,hb⟩=>⟨by rw[he,hv],hb⟩
end


/-- picked -/
def pk (n:Int) (m:Nat):Nat:=(if n<0 then(-(n+1)).toNat else n.toNat)%m
theorem iZ (n:Int) {m:Nat} (h:0<m):pk n m<m:=jJ _ h
theorem di (n:Int) (m:Nat) (w:World) (h1: -9223372036854775808<=n) (h2:n<=9223372036854775807) (hm:0<m) (hm2:m<=1000000000000):
  dh aa tw [J n,J (m:Nat)] w fun v w2=>v=J (pk n m:Nat)/\Below w.heap.size w w2:=by
 refine aE sS Z Z ?_
 have H:=Hp.start w
 refine W ?_
 refine Zr ?_
 refine pp Z Z ?_
 refine U<|W ?_
 obtain⟨a,ha⟩: ∃ a:Nat,(if n<0 then(-(n+1)).toNat else n.toNat)=a:=⟨_,rfl⟩
 refine eN (τ:=Unit) [5,6,7,8,9,0] (fun _=>[(0,J (a:Nat))]) (fun _ w'=>Hp w w' [] []) ?_ ?_
 ·refine BH ?_
  refine Zr ?_
  refine iI Z Z ?_
  refine HO Z Z Z (fun h6=> ?_) (fun h6=> ?_)
  all_goals refine nG ?_
  ·refine pV Z ?_
   refine Zr ?_
   refine iI Z Z ?_
   refine G (Qb Z Z I I)<|G (PK Z I I) ?_
   refine pp Z Z ?_
   refine U ?_
   have e: -(n+1)=(a:Nat):=by rw[if_pos h6]at ha;omega
   rw[e]
   refine⟨(),H,dP Z,by repeat (first|exact Fb.refl _ _|exact m1|refine lH Z ?_|refine jP _ Z ?_)⟩
  ·refine oQ Z ?_
   refine Zk ?_
   have e:n=(a:Nat):=by rw[if_neg h6]at ha;omega
   subst e
   refine⟨(),H,dP Z,by repeat (first|exact Fb.refl _ _|exact m1|refine lH Z ?_|refine jP _ Z ?_)⟩
 rintro _ ρ1 w1 H
 show CW _ _ _ _ (dH (gZ _ _ ρ1) [(0,J (a:Nat))]) w1
 refine W ?_
 refine Zr ?_
 refine iI Z Z ?_
 refine iI Z Z ?_
 refine rem Z Z I I Z ?_
 refine pp Z Z ?_
 refine U<|Zt ?_
 have e:((a:Int)%(m:Int))=(pk n m:Nat):=by unfold pk;rw[ha];rfl
 rw[e]
 exact cH (v:=J (pk n m:Nat)) Z Z ⟨rfl,H.below⟩
structure II where
 kind:Int
 a:Int
 b:Int
 c:Int
def II.cs (r:II):List Value:=[J r.kind,J r.a,J r.b,J r.c]
def D9:fq II:=⟨II.cs,4,fun _=>rfl,by decide,fun a u hu=>by
 simp only[II.cs,ax,bU,or_false]at hu
 rcases hu with h|h|h|h<;>subst h<;>rfl⟩
def i64 (n:Int):Prop:= -9223372036854775808<=n/\n<=9223372036854775807
def II.ok (r:II):Prop:=i64 r.kind/\i64 r.a/\i64 r.b/\i64 r.c
def vw (n:Nat):List UInt8:=if h:n=0 then []else UInt8.ofNat (97+n%10)::vw (n/10)
termination_by n
decreasing_by omega
theorem CU {n:Nat} (h:0<n):vw n=UInt8.ofNat (97+n%10)::vw (n/10):=by rw[vw,dif_neg I]
theorem vW:vw 0=[]:=by rw[vw];simp
theorem xS: ∀ (k n:Nat),n<10 ^ k->(vw n).length<=k
 |0,n,h=>by
  have:n=0:=by simpa using h
  subst this;rw[vW];simp
 |k+1,n,h=>by
  by_cases hn:n=0
  subst hn;rw[vW];simp
  rw[CU I]
  have:=xS k (n/10) (by rw[Nat.pow_succ]at h;omega)
  simp;omega
def vv (n:Int):ByteArray:=⟨(vw (pk n 10000)).toArray⟩
theorem P8 (a b:List UInt8):(⟨a.toArray⟩:ByteArray)++⟨b.toArray⟩=⟨(a++b).toArray⟩:=by
 apply ByteArray.ext
 simp
theorem Jo (n:Int):(vv n).size<=4:=by
 have:=xS 4 (pk n 10000) (iZ n (by decide))
 simpa [vv,ByteArray.size]using this
theorem NB (n:Int) (w:World) (hn:i64 n):dh aa vf [J n] w fun v w2=>v=.string (vv n)/\Below w.heap.size w w2:=by
 refine aE ub Z Z ?_
 have H:=Hp.start w
 obtain⟨hn1,hn2⟩:=hn
 have hpk:=iZ n (show 0<10000 by decide)
 refine W<|Zr<|G (Wt Z)<|U<|W<|Zr<|G (Wt Z)<|U<|W<|W<|Zr<|G (Yi Z)<|ch aG (di _ 10000 _ I I (by decide) (by decide)) Z Z ?_
 rintro _ w1 ⟨rfl,hb⟩;replace H:=H.later hb;clear hb
 refine G (Wi Z)<|U<|Zb ?_
 refine cD (τ:=Nat×List UInt8) [0,3,6,7,8,9,10,11,12,13,14,15,16] (fun(m,s)=>[(0,J (m:Nat)),(3,.string ⟨s.toArray⟩)]) (fun(m,s) w'=>m<10000/\s++vw m=vw (pk n 10000)/\Hp w w' [] []) (fun(m,_)=>m) (pk n 10000,[]) ⟨hpk,rfl,H⟩ (li Z Z) ?_
 rintro⟨m,s⟩ ρ1 w1 ⟨hm,hs,H⟩
 show CW _ _ _ _ (dH (gZ _ _ ρ1) [(0,J (m:Nat)),(3,.string ⟨s.toArray⟩)]) w1
 have hsl:(⟨s.toArray⟩:ByteArray).size<=4:=by
  have h4:=xS 4 (pk n 10000) (by simpa using hpk)
  rw[<-hs,ay]at h4
  show s.toArray.size<=4
  simp;omega
 refine W<|W<|Zr<|G (Yi Z) ?_
 refine cW (km Z Z) Z Z Z (fun h7=> ?_) (fun h7=> ?_)
 ·
  refine U<|ZT Z<|Zk<|W<|Zb<|Zr<|G (Yt Z)<|G (Yi Z)<|G (O3 Z Z I I)<|G (bw Z Z I I) ?_
  have e13:(97:Int)+(m:Int)%10=(97+m%10:Nat):=by omega
  rw[e13]
  refine G (Dx iF Dj Z (Pk I))<|G (PY Dj jy Z Z I)<|G (Pw Z Z (by simp only[ByteArray.size]at hsl⊢;simp at hsl⊢;omega)) ?_
  rw[show(⟨#[UInt8.ofNat (97+m%10)]⟩:ByteArray)=⟨[UInt8.ofNat (97+m%10)].toArray⟩from rfl,P8]
  refine G (Wt Z)<|U<|Zr<|G (Yi Z)<|G (Qs Z Z I I I)<|G (Wi Z)<|U ?_
  refine⟨(m/10,s++[UInt8.ofNat (97+m%10)]),⟨by omega,by rw[<-hs,CU (n:=m) I];simp,H⟩,li Z Z,by repeat (first|exact Fb.refl _ _|exact m1|refine lH Z ?_|refine jP _ Z ?_),by show m/10<m;omega⟩
 ·
  refine U<|ZF Z<|Zx<|W<|Zr<|G (Yt Z)<|G (Wt Z)<|U<|Zt ?_
  have hm0:m=0:=by omega
  subst hm0
  rw[vW,aZ]at hs
  subst hs
  exact cH (v:=.string (vv n)) Z Z ⟨rfl,H.below⟩
def II.entry (r:II):cz:=
 let p:=pk r.b 4
 if p=0 then⟨pk r.a 4,0,0,0,1,false,vv r.c⟩
 else if pk r.kind 6=0∨pk r.kind 6=1 then⟨pk r.a 4,p,pk r.a 3,0,2+pk r.c 2,true,⟨#[]⟩⟩
 else⟨pk r.a 4,p,pk r.a 3,pk r.c 5,1,decide (((pk r.c 2:Nat):Int)=0),vv r.c⟩
section
open Go.ChangeShapes Go.WideShapes Go.ChangeAt Go.RowKit Go.Eng
theorem vX {n:Int} (h:(Lit.int .i64 n).wf=true):i64 n:=by
 have: -9223372036854775808<=n/\n<=9223372036854775807:=by simpa [Lit.wf,IntKind.min,IntKind.max,IntKind.signed,IntKind.bits]using h
 exact this
theorem ND:aa.underlying vR=some (.struct (aa.fieldsOf vR)):=by kernel_rfl
theorem Ht:(aa.fieldsOf vR).toList.map (fun f=>(f.offset,aa.cellsOf f.type))=[(0,1),(1,1),(2,1),(3,1)]:=by kernel_rfl
theorem LO:((aa.fieldsOf vR).toList.all fun f=>pg aa f.type .i64)=true:=by kernel_rfl
theorem yO:aa.cellsOf vR=4:=by kernel_rfl
theorem xa {P:Program} {t:TypeId} {k:IntKind} (h:pg P t k=true):P.underlying t=some (.int k):=by
 unfold pg at h
 split at h
 rename_i k' hk;rw[hk,of_decide_eq_true h]
 cases h
section
variable {H:Type} {enc:TypeId×Value->H} {w:World} {base:Nat} {sp:Nat->Bool} {held:Bool}
theorem D8 {P:Program} {t:TypeId} {fs:Array Field} (hu:P.underlying t=some (.struct fs)) (hp:fs.toList.map (fun f=>(f.offset,P.cellsOf f.type))=[(0,1),(1,1),(2,1),(3,1)]) (hi:(fs.toList.all fun f=>pg P f.type .i64)=true) (hce:P.cellsOf t=4)
  {n:Nat} {cs:List Value} {x:DataW H×List MemPlace} (h:DataW.trod enc P w base sp held n t cs=some x): ∃ r:II,cs=r.cs/\r.ok:=by
 obtain⟨xs,k,_,_,hl,hlen,hf⟩:=DataW.trod_struct hu h
 rw[hce]at hl
 obtain⟨fs⟩:=fs
 have hl4:fs.length=4:=by have:=congrArg ci hp;simpa using this
 obtain⟨f0,f1,f2,f3,rfl⟩: ∃ a b c d,fs=[a,b,c,d]:=by
  match fs,hl4 with
  |[a,b,c,d],_=>exact⟨a,b,c,d,rfl⟩
 simp only[ey,mB,List.cons.injEq,Prod.mk.injEq,and_true]at hp
 obtain⟨⟨o0,c0⟩,⟨o1,c1⟩,⟨o2,c2⟩,o3,c3⟩:=hp
 simp only[List.all_cons,List.all_nil,aR,and_true]at hi
 obtain⟨i0,i1,i2,i3⟩:=hi
 obtain⟨v0,v1,v2,v3,rfl⟩: ∃ a b c d,cs=[a,b,c,d]:=by
  match cs,hl with
  |[a,b,c,d],_=>exact⟨a,b,c,d,rfl⟩
 have g0:=hf 0 f0 rfl
 have g1:=hf 1 f1 rfl
 have g2:=hf 2 f2 rfl
 have g3:=hf 3 f3 rfl
 rw[o0,c0]at g0;rw[o1,c1]at g1;rw[o2,c2]at g2;rw[o3,c3]at g3
 have hx:xs.length=4:=by simpa using hlen
 obtain⟨x0,h0⟩: ∃ y,xs[0]? =some y:=⟨_,ah (by omega)⟩
 obtain⟨x1,h1⟩: ∃ y,xs[1]? =some y:=⟨_,ah (by omega)⟩
 obtain⟨x2,h2⟩: ∃ y,xs[2]? =some y:=⟨_,ah (by omega)⟩
 obtain⟨x3,h3⟩: ∃ y,xs[3]? =some y:=⟨_,ah (by omega)⟩
 rw[h0]at g0;rw[h1]at g1;rw[h2]at g2;rw[h3]at g3
 obtain⟨n0,e0,_,w0⟩:=DataW.trod_int (xa i0) g0
 obtain⟨n1,e1,_,w1⟩:=DataW.trod_int (xa i1) g1
 obtain⟨n2,e2,_,w2⟩:=DataW.trod_int (xa i2) g2
 obtain⟨n3,e3,_,w3⟩:=DataW.trod_int (xa i3) g3
 simp at e0 e1 e2 e3
 subst e0 e1 e2 e3
 exact⟨⟨n0,n1,n2,n3⟩,rfl,vX w0,vX w1,vX w2,vX w3⟩
theorem JN {n:Nat} {cs:List Value} {x:DataW H×List MemPlace} (h:DataW.trod enc aa w base sp held n vR cs=some x): ∃ r:II,cs=r.cs/\r.ok:=
 D8 ND Ht LO yO h
theorem LC {α:Type} {Y:fq α} {T e:TypeId} (hT:aa.underlying T=some (.slice e)) (hce:aa.cellsOf e=Y.sz) (ok:α->Prop) (hel: ∀ n cs x,DataW.trod enc aa w base sp held n e cs=some x-> ∃ r:α,cs=Y.f r/\ok r)
  {A:Option Addr} {l c:Nat} {d:DataW H} {ps:List MemPlace} (h:DataW.Trod enc aa w base sp held T (.slice A l c) d ps):
  ∃ rs:List α,rs.length=l/\l<=c/\c<=maxLen/\Rd Y 0 w.heap.size A rs w/\ ∀ r∈rs,ok r:=by
 obtain⟨fuel,hf⟩:=h
 rcases Go.Deep.open_slice hT hf with⟨hcs,_⟩|⟨a,len,cap,m,n,D,Pl,hcs,_,hl,hm,hmm,_,hx⟩
 simp[Value.cells]at hcs
 obtain⟨rfl,rfl,rfl⟩:=hcs
 exact⟨[],rfl,ao _,bG _,Rd.nil,by simp⟩
 simp[Value.cells]at hcs
 obtain⟨rfl,rfl,rfl⟩:=hcs
 have hlm:l<=m:=by rw[hmm];split<;>omega
 have each: ∀ i,i<l-> ∃ r:α,ok r/\ ∀ j u,(Y.f r)[j]? =some u->w.cell? ((a.add (i*Y.sz)).add j)=some u:=by
  intro i hi
  obtain⟨cs',h1,h2⟩:=hx i (by omega)
  obtain⟨r,hr,hok⟩:=hel _ _ _ h2
  rw[hce]at h1
  obtain⟨_,hlen,hcell⟩:=World.cells?_some h1
  refine⟨r,hok,fun j u hj=> ?_⟩
  have hjl:j<Y.sz:=by
   have:=(aA.1 hj).1
   rwa[Y.len]at this
  rw[hcell j hjl,hr,hj]
 have build: ∀ k,k<=l-> ∃ rs:List α,rs.length=k/\(∀ r∈rs,ok r)/\ ∀ i r,rs[i]? =some r-> ∀ j u,(Y.f r)[j]? =some u->w.cell? ((a.add (i*Y.sz)).add j)=some u:=by
  intro k
  induction k with
  |zero=>intro _;exact⟨[],rfl,by simp,by simp⟩
  |succ k ih=>
   intro hk
   obtain⟨rs,h1,h2,h3⟩:=ih (by omega)
   obtain⟨r,hok,hr⟩:=each k (by omega)
   refine⟨rs++[r],by simp[h1],?_,?_⟩
   intro q hq
   rcases ap.1 hq with hq|hq
   exact h2 q hq
   rw[aq.1 hq];exact hok
   intro i q hq
   by_cases hi:i<rs.length
   rw[cu hi]at hq;exact h3 i q hq
   rw[bX (by omega)]at hq
   have:i=k:=by
    have:=(aA.1 hq).1
    simp at this;omega
   subst this
   rw[<-h1]at hq hr⊢
   simp at hq
   rw[<-hq];exact hr
 obtain⟨rs,h1,h2,h3⟩:=build l (ao _)
 refine⟨rs,h1,hl,hm,fun h0=> ?_,h2⟩
 obtain⟨r0,hr0e⟩: ∃ r,rs[0]? =some r:=⟨_,ah h0⟩
 have hpos:0<(Y.f r0).length:=by rw[Y.len];exact Y.pos
 obtain⟨u0,hu0⟩: ∃ u,(Y.f r0)[0]? =some u:=⟨_,ah hpos⟩
 have hc0:=h3 0 r0 hr0e 0 u0 hu0
 have hz:(a.add (0*Y.sz)).add 0=a:=by simp[Addr.add]
 rw[hz]at hc0
 have hs:=World.cell?_spot hc0
 obtain⟨b,o,s⟩:=a
 simp only at hs
 subst hs
 refine⟨b,o,rfl,bG _,?_,fun j u hj=> ?_⟩
 unfold World.cell? at hc0
 split at hc0
 rename_i hb;exact ce hb
 cases hc0
 have hjl:j<rs.length*Y.sz:=by
  have:=(aA.1 hj).1
  rwa[fq.length]at this
 have hq:j/Y.sz<rs.length:=by rw[Nat.div_lt_iff_lt_mul Y.pos];exact hjl
 have hm2:j%Y.sz<Y.sz:=jJ _ Y.pos
 have hdm:j/Y.sz*Y.sz+j%Y.sz=j:=Nat.div_add_mod' j Y.sz
 have hg:=fq.get (Y:=Y) hq hm2
 rw[hdm,hj]at hg
 have:=h3 (j/Y.sz) _ (ah hq) (j%Y.sz) u hg.symm
 rw[Addr.add_lit,Addr.add_lit,lg,hdm]at this
 exact this
end
end
section
open Go.ChangeShapes Go.WideShapes Go.ChangeAt Go.RowKit
theorem K6 (r:List Char):wordsSigns (' '::r)=[]::wordsSigns r:=by rw[wordsSigns]
theorem K7 (c:Char) (hc:c≠' ') (l w:List Char) (ws:List (List Char)) (h:wordsSigns l=w::ws):wordsSigns (c::l)=(c::w)::ws:=by
 rw[wordsSigns,h]
 exact hc
theorem sy: ∀ (a r:List Char),(∀ c∈a,c≠' ')->wordsSigns (a++' '::r)=a::wordsSigns r
 |[],r,_=>K6 r
 |c::a,r,h=>K7 c (h c (az ..)) _ _ _ (sy a r fun x hx=>h x (aj _ hx))
def xj:List Char:=['a','t',' ','t','a','i','l','r','a','c','e','/','t','a','i','l','r','a','c','e','t','o','p','.','T','o','p','K','e','p','t',' ','t','a','i','l','r','a','c','e','/','t','a','i','l','r','a','c','e','t','o','p','.','T','o','p','T','w','i','c','e',' ','t','a','i','l','r','a','c','e','/','t','a','i','l','r','a','c','e','t','o','p','.','T','o','p','L','a','t','e','r',' ','t','a','i','l','r','a','c','e','/','t','a','i','l','r','a','c','e','k','e','e','p','.','W','o','r','l','d','G','o','o','d',' ','t','a','i','l','r','a','c','e','/','t','a','i','l','r','a','c','e','k','e','e','p','.','L','o','g','s','O','n','c','e',' ','t','a','i','l','r','a','c','e','/','t','a','i','l','r','a','c','e','k','e','e','p','.','A','g','a','i','n','S','a','m','e']
def I5:List Char:=['e','6','a','a','d','7','b','0','2','3','5','2','c','b','a','b','7','0','5','d','6','f','f','1','1','e','2','f','7','d','a','d','1','1','d','2','8','6','0','3','5','a','9','8','1','d','4','3','d','b','e','b','0','7','6','5','4','2','a','9','c','d','6','c']
theorem OE:Tryz.checked.prog.initOrder=String.ofList (['h','a','r','n','e','s','s']++' '::(I5++' '::(['c','u','t']++' '::xj))):=by kernel_rfl
theorem sR:behindMainWord (wordsSigns Tryz.checked.prog.initOrder.toList)=['c','u','t']::wordsSigns xj:=by
 rw[OE,String.toList_ofList,sy _ _ (by decide),sy _ _ (by decide+kernel),sy _ _ (by decide)]
 have hs:isSumSigns I5=true:=by decide+kernel
 simp[behindMainWord,hs]
theorem Q0: "gc".toList=['g','c']:=by simp
theorem Po: "spec".toList=['s','p','e','c']:=by simp
theorem OZ: "cut".toList=['c','u','t']:=by simp
theorem Oo {P:Program} {c:List Char} {r:List (List Char)} (h:behindMainWord (wordsSigns P.initOrder.toList)=c::r) (hg:(c== "gc".toList||c== "spec".toList)=false) (hc:(c== "cut".toList||(c== "finals".toList&&r.head? ==some "cut".toList))=true):P.make=some .cut:=by
 unfold Program.make
 rw[h]
 simp only[hg,hc]
 rfl
theorem P2:(['c','u','t']== "gc".toList||['c','u','t']== "spec".toList)=false:=by rw[Q0,Po];decide
theorem QF (r:List (List Char)):(['c','u','t']== "cut".toList||(['c','u','t']== "finals".toList&&r.head? ==some "cut".toList))=true:=by rw[OZ];rfl
theorem C4 (ws:List (List Char)):stripLifts liftWords (['c','u','t']::ws)=([],['c','u','t']::ws):=by
 simp[stripLifts,liftWords]
theorem MY {P:Program} {c:List Char} {r:List (List Char)} (h:behindMainWord (wordsSigns P.initOrder.toList)=c::r) (hs:stripLifts liftWords (c::r)=([],c::r)) (hc:(c== "cut".toList)=true) (hl:P.laysLater=false) (hb:P.bearsReflect=false) (hd:P.doorFits []=true):P.mayEnter=true:=by
 have e:((c::r).head? ==some "cut".toList)=true:=by
  rw[eq_of_beq hc];simp
 unfold Program.mayEnter
 rw[h]
 simp only[hs,hl,hb,hd,e]
 simp
theorem OO:(['c','u','t']== "cut".toList)=true:=by rw[OZ];rfl
theorem Ic:Tryz.checked.prog.headLifts=[]:=by
 unfold Program.headLifts
 rw[sR]
 generalize wordsSigns xj=ws
 simp[C4]
theorem F8:Tryz.checked.prog.liftsFinal=false:=by
 unfold Program.liftsFinal
 rw[sR,Ic]
 generalize wordsSigns xj=ws
 simp
theorem Mu:Tryz.checked.prog.make=some .cut:=Oo sR P2 (QF _)
theorem HR:Tryz.checked.prog.laysLater=false:=by kernel_rfl
theorem CQ:Tryz.checked.prog.bearsReflect=false:=by kernel_rfl
theorem Ku:Tryz.checked.prog.doorFits []=true:=by kernel_rfl
theorem J2:Tryz.checked.prog.mayEnter=true:=MY sR (C4 _) OO HR CQ Ku
theorem HB:ownKnob aa.godebug=none:=by kernel_rfl
theorem wY:laidOutB Tryz.checked.prog=true:=by kernel_rfl
theorem HM:mapsRowed Tryz.checked.prog=true:=by kernel_rfl
theorem Mk:(Tryz.checked.prog.stops==[])=true:=by kernel_rfl
theorem Ml:(Tryz.checked.prog.stopKnobs==[])=true:=by kernel_rfl
theorem Hw:Tryz.checked.prog.plainKeys=false:=by kernel_rfl
theorem Ft:Tryz.checked.prog.stopsHeard=true:=by kernel_rfl
end
theorem Jb {e:cz} (h:kT e):(iN e).length<=64:=by
 have:=(vc h).1
 rw[BC];omega
theorem EP: ∀ (es:List cz),(∀ e∈es,kT e)->(bj es).length<=64*es.length
 |[],_=>by simp[bj]
 |e::es,h=>by
  have h1:=Jb (h e (az ..))
  have h2:=EP es fun x hx=>h x (aj _ hx)
  have:bj (e::es)=iN e++bj es:=by simp[bj]
  rw[this];simp;omega
theorem uk (es:List cz) (h: ∀ e∈es,kT e):Jn (bj es) es (bj es).length:=by
 have:=Jc es [] h Z
 rwa[aZ]at this
theorem cC {α:Type} {l:List α} {k:Nat} {e:α} (h:l[k]? =some e): ∃ hk:k<l.length,l[k]=e:=aA.1 h
theorem uh {es:List cz} {k:Nat} {e:cz} (h:es[k]? =some e):bj (es.take (k+1))=bj (es.take k)++iN e:=by
 obtain⟨hk,rfl⟩:=cC h
 exact Kk hk
structure Prod where
 ver:Int
 seq:Int
 open_:Int
 mark:Int
def Prod.c (p:Prod):List Value:=[J p.ver,J p.seq,J p.open_,J p.mark]
def p0:Prod:=⟨0,-1,-1,-1⟩
abbrev Jk:TypeId:=188
theorem rV:F5 aa Jk db G2=true:=by kernel_rfl
def pv (e:cz) (p:Prod):Prod:=if e.ver≠p.ver then⟨e.ver,-1,p.open_,p.mark⟩else p
def fm (i:Nat) (e:cz) (p:Prod):Prod:=
 if e.kind≠1 then⟨(pv e p).ver,(pv e p).seq,-1,i⟩
 else if e.txn=true/\(pv e p).open_<0 then⟨(pv e p).ver,e.seq,i,(pv e p).mark⟩
 else⟨(pv e p).ver,e.seq,(pv e p).open_,(pv e p).mark⟩
def fC (es:List cz) (pid:Int):Option Prod:=
 es.zipIdx.foldl (fun a q=>if q.1.pid≠0/\q.1.pid=pid then some (fm q.2 q.1 (a.getD p0))else a) none
theorem JP (pid:Int):fC [] pid=none:=rfl
theorem qa (es:List cz) (e:cz) (pid:Int):fC (es++[e]) pid=if e.pid≠0/\e.pid=pid then some (fm es.length e ((fC es pid).getD p0))else fC es pid:=by
 unfold fC
 rw[List.zipIdx_append,List.foldl_append]
 simp
theorem eu {α:Type} {l:List α} {k:Nat} {e:α} (h:l[k]? =some e):l.take (k+1)=l.take k++[e]:=by
 obtain⟨hk,rfl⟩:=cC h
 exact DJ hk
theorem Av {es:List cz} {k:Nat} {e:cz} (h:es[k]? =some e) (pid:Int):fC (es.take (k+1)) pid=if e.pid≠0/\e.pid=pid then some (fm k e ((fC (es.take k) pid).getD p0))else fC (es.take k) pid:=by
 obtain⟨hk,-⟩:=cC h
 rw[eu h,qa,aI,bu I]
abbrev PB:=Int×Nat×Prod
abbrev Cc (b:Nat):Value:=.pointer (Qd b)
def rh (S:List PB):List (Int×Value):=S.map fun q=>(q.1,Cc q.2.1)
def xZ (q:PB):Nat×Obj:=(q.2.1,.cells q.2.2.c.toArray lV (0,0))
def jA (bm:Nat) (S:List PB):List (Nat×Obj):=(bm,tS (rh S))::S.map xZ
def vd (S:List PB) (pid:Int):Option Prod:=(S.find? (fun q=>decide (q.1=pid))).map (·.2.2)
theorem uN (S:List PB):(rh S).map (·.1)=S.map (·.1):=by simp[rh]
theorem FJ {S:List PB} {j:Nat} {pid:Int} {b:Nat} {p:Prod} (h:S[j]? =some (pid,b,p)):(rh S)[j]? =some (pid,Cc b):=by simp[rh,h]
theorem gA {S:List PB} {j:Nat} {pid:Int} {b:Nat} {p p':Prod} (h:S[j]? =some (pid,b,p)):rh (S.set j (pid,b,p'))=rh S:=by
 unfold rh
 apply en
 intro i
 rw[aL,aL,lD]
 split
 rename_i hij;subst hij
 obtain⟨hlt,hg⟩:=cC h
 simp[hlt,hg]
 rfl
theorem MC {S:List PB} {j:Nat} {pid:Int} {b:Nat} {p p':Prod} (h:S[j]? =some (pid,b,p)):(S.set j (pid,b,p')).map (·.1)=S.map (·.1):=by
 rw[<-uN,gA h,uN]
theorem FT {S:List PB} {j:Nat} {q:PB} (h:S[j]? =some q):(xZ q::(S.eraseIdx j).map xZ).Perm (S.map xZ):=by
 obtain⟨hlt,rfl⟩:=cC h
 have:=Go.ChangeMaps.set_perm S j hlt S[j]
 rw[List.set_getElem_self]at this
 exact(this.map xZ).symm
theorem jm {S:List PB} {j:Nat} {q q':PB} (h:S[j]? =some q):((S.set j q').map xZ).Perm (xZ q'::(S.eraseIdx j).map xZ):=by
 obtain⟨hlt,-⟩:=cC h
 exact(Go.ChangeMaps.set_perm S j hlt q').map xZ
theorem Di {S:List PB} {pid:Int} (h: ∀ q∈S,q.1≠pid):vd S pid=none:=by
 unfold vd
 rw[B5.2 (fun q hq=>by simpa using h q hq)];rfl
theorem uU {S:List PB} (hn:(S.map (·.1)).Nodup) {j:Nat} {pid:Int} {b:Nat} {p:Prod} (h:S[j]? =some (pid,b,p)):vd S pid=some p:=by
 unfold vd
 induction S generalizing j with
 |nil=>simp at h
 |cons q r ih=>
  simp only[ey,kX]at hn
  cases j with
  |zero=>simp at h;subst h;simp
  |succ j=>
   simp only[oW]at h
   have hne: ¬ q.1=pid:=fun e=>hn.1 (bp.2 ⟨_,ab h,e.symm⟩)
   rw[pz (by simpa using hne)]
   exact ih hn.2 h
theorem AM (S:List PB) (pid:Int):(∀ q∈S,q.1≠pid)∨ ∃ (j b:Nat) (p:Prod),S[j]? =some (pid,b,p):=by
 by_cases h: ∃ q∈S,q.1=pid
 obtain⟨⟨a,b,p⟩,hq,rfl⟩:=h
 obtain⟨j,hj⟩:=aT.1 hq
 exact .inr ⟨j,b,p,hj⟩
 exact .inl fun q hq e=>h ⟨q,hq,e⟩
theorem Mx (S:List PB) (q:PB) {pid:Int} (h:q.1≠pid):vd (S++[q]) pid=vd S pid:=by
 unfold vd
 rw[List.find?_append,pz (by simpa using h)]
 simp
theorem Mw {S:List PB} {j:Nat} {k:Int} {b:Nat} {p p':Prod} (h:S[j]? =some (k,b,p)) {pid:Int} (hp:k≠pid):vd (S.set j (k,b,p')) pid=vd S pid:=by
 unfold vd
 induction S generalizing j with
 |nil=>simp at h
 |cons q r ih=>
  cases j with
  |zero=>
   simp at h;subst h
   simp only[B3]
   rw[pz (by simpa using hp),pz (by simpa using hp)]
  |succ j=>
   simp only[oW]at h
   simp only[List.set_cons_succ,List.find?_cons]
   split
   rfl
   exact ih h
def PS (S:List PB) (es:List cz):Prop:=(S.map (·.1)).Nodup/\ ∀ pid,vd S pid=fC es pid
theorem N1 {S:List PB} {es:List cz} {k:Nat} {e:cz} (h:es[k]? =some e) (h0:e.pid=0) (hs:PS S (es.take k)):PS S (es.take (k+1)):=
 ⟨hs.1,fun pid=>by rw[Av h,if_neg (fun x=>x.1 h0)];exact hs.2 pid⟩
theorem la {S:List PB} {es:List cz} {k j:Nat} {e:cz} {b:Nat} {p:Prod} (h:es[k]? =some e) (h0:e.pid≠0) (hn:(S.map (·.1)).Nodup) (hj:S[j]? =some (e.pid,b,p)) (hp:p=(fC (es.take k) e.pid).getD p0) (ho: ∀ pid,pid≠e.pid->vd S pid=fC (es.take k) pid) {p':Prod} (hp':p'=fm k e p):
  PS (S.set j (e.pid,b,p')) (es.take (k+1)):=by
 have hn':((S.set j (e.pid,b,p')).map (·.1)).Nodup:=by rw[MC hj];exact hn
 refine⟨hn',fun pid=> ?_⟩
 rw[Av h]
 by_cases hpid:e.pid=pid
 subst hpid
 obtain⟨hlt,-⟩:=cC hj
 rw[if_pos ⟨h0,rfl⟩,uU hn' (al hlt),hp',<-hp]
 rw[if_neg (fun x=>hpid x.2),Mw hj hpid]
 exact ho pid (Ne.symm hpid)
theorem Dc (es:List cz) (A:Option Addr) (c:Nat) (w:World) (hr:Rd gV 0 w.heap.size A es w) (hb:es.length<=1000000):
  dh aa Ci [.slice A es.length c] w fun v w2=> ∃ S bm,v=.map (some bm)/\PS S es/\Hp w w2 (jA bm S) []:=by
 refine aE Bn Z Z ?_
 have H:=Hp.startRd hr
 refine W<|Zr<|G (Ng Z)<|U<|W<|Zr<|RW H Z fun w1 bm H=>G (Ng Z)<|U<|W<|W<|Zr<|G (Ys Z)<|G (br eH Z)<|G (Yi Z)<|U<|Zb ?_
 refine cD (τ:=Nat×List PB) [4,5,6,10,11,12,13,14,15,16,17,18,19,20,21,22,23,24,25,26,27,28,29,30,31,32,33,34,35,36,37,38,39,40,41,42,43,44,45,46,47,48,49,50,51,52,53,54,55,56,57,58,59,60,61,62,63,64,65,66,67,68,69,70,71,72,73,74] (fun(k,S)=>[(10,J (k:Nat))]) (fun(k,S) w'=>k<=es.length/\PS S (es.take k)/\Hp w w' (jA bm S) [dU gV 0 w.heap.size A es]) (fun(k,_)=>es.length-k) (0,[]) ⟨by omega,⟨List.nodup_nil,fun pid=>rfl⟩,H⟩ (dP Z) ?_
 rintro⟨k,S⟩ ρ1 w2 ⟨hk,hS,H⟩
 show CW _ _ _ _ (dH (gZ _ _ ρ1) [(10,J (k:Nat))]) w2
 refine W<|Zr ?_
 refine cW (cK Z Z) Z Z Z (fun h11=> ?_) (fun h11=> ?_)
 ·
  refine U<|W<|ZT Z<|Zk<|W<|Zb<|W<|Zr<|G (Yi Z)<|qB H 0 Z dV Z Z I I Z fun b3 o3 x3 e3=>G (j7 (xs:=cz.c x3) dG Z Z e3.cl)<|eP H gu Z fun w4 b5 H=>G (Wi Z)<|Lx H 0 eW Z Z Z Z Z Z fun w5 H=>U<|W<|W<|Zr<|G (Zf fp Z)<|G (Zd ak H 0 Z Z Z) ?_
  refine cW (bn Z Z) Z Z Z (fun h17=> ?_) (fun h17=> ?_)
  ·
   refine U<|ZT Z<|Zx<|Zr<|G (bw Z Z I I)<|G (Yi Z)<|U ?_
   refine⟨(k+1,S),⟨by have:=(cC e3.at_).1;omega,N1 e3.at_ h17 hS,H.forget (aY _ _) (fun _ h=>h)⟩,dP Z,Qg,by show es.length- (k+1)<es.length-k;omega⟩
  ·
   refine U<|ZF Z<|Zk<|W<|Zr<|G (Ms Z)<|G (Zf fp Z)<|G (Zd ak H 0 Z Z Z) ?_
   rcases AM S x3.pid with hno|⟨j,b,p,hj⟩
   ·
    refine G (O7 rV qM Z Z (H.ent (i:=1) Z) (by intro q hq;obtain⟨a,ha,rfl⟩:=bp.1 hq;exact hno a ha))<|G (Wp Z)<|U<|W ?_
    refine eN (τ:=List PB×Nat×Nat×Prod) [6,22,23,24,25,26,27,28,29] (fun(S1,j,b,p)=>[(6,Cc b)]) (fun(S1,j,b,p) w'=>(S1.map (·.1)).Nodup/\S1[j]? =some (x3.pid,b,p)/\p=(fC (es.take k) x3.pid).getD p0/\(∀ pid,pid≠x3.pid->vd S1 pid=fC (es.take k) pid)/\Hp w w' ((b,.cells p.c.toArray lV (0,0))::(b5,.cells (cz.c x3).toArray dw (0,0))::(bm,tS (rh S1))::(S1.eraseIdx j).map xZ) [dU gV 0 w.heap.size A es]) ?_ ?_
    ·skip
     refine W<|Zr<|G (Yp Z)<|G (xY n9 Z)<|U<|ZT Z<|W<|Zr<|G (bg (cs:=(Prod.c p0).toArray) yJ zW N)<|f7 H Z Z fun w6 b25 H=>G (Wp Z)<|U<|Zr<|G (Ms Z)<|G (Zf fp Z)<|G (Zd ak H 1 Z Z Z)<|G (Yp Z)<|RU H 2 rV Z Z Z Z (by intro q hq;obtain⟨a,ha,rfl⟩:=bp.1 hq;exact hno a ha) fun w7 H=>U ?_
     have hj:(S++[(x3.pid,b25,p0)])[S.length]? =some (x3.pid,b25,p0):=by simp
     have hkn:vd S x3.pid=none:=Di hno
     rw[hS.2]at hkn
     refine⟨(S++[(x3.pid,b25,p0)],S.length,b25,p0),⟨?_,hj,by rw[hkn];rfl,fun pid hpid=>by rw[Mx _ _ (Ne.symm hpid)];exact hS.2 pid,?_⟩,dP Z,Qg⟩
     ·rw[bl];exact px.2 ⟨hS.1,by simp,by intro a ha c hc;simp at hc;subst hc;obtain⟨q,hq,rfl⟩:=bp.1 ha;exact hno q hq⟩
     ·have hmm:rh (S++[(x3.pid,b25,p0)])=rh S++[(x3.pid,Cc b25)]:=by simp[rh]
      have hee:(S++[(x3.pid,b25,p0)]).eraseIdx S.length=S:=by rw[List.eraseIdx_append_of_length_le (ao _)];simp
      rw[hmm,hee];exact H
    rintro⟨S1,j,b,p⟩ ρ2 w8 ⟨hn,hj,hp,ho,H⟩
    show CW _ _ _ _ (dH (gZ _ _ ρ2) [(6,Cc b)]) w8
    refine W<|W ?_
    refine bA cd [0,1,2,3,4,5,6] [] [] [0,2,3,4,6] (sp []) N N N N Nq (cI _) ?_
    refine aw Z Z Z Z Z (fun w' hw'=>Zf eJ Z)<|aw Z Z Z Z Z (fun w' hw'=>aW ak Z (aB ((H.later hw').ent (i:=1) Z) Z))<|aw Z Z Z Z Z (fun w' hw'=>Yp Z)<|aw Z Z Z Z Z (fun w' hw'=>aJ Z)<|aw Z Z Z Z Z (fun w' hw'=>Zf jT Z)<|aw Z Z Z Z Z (fun w' hw'=>aW ak Z (aB ((H.later hw').ent (i:=0) Z) Z)) ?_
    refine P9 Z Z Z Z Z (fun w' hw'=>jh Z Z) (fun h36=> ?_) (fun h36=> ?_)
    ·
     refine aV ?_
     intro w9 hw' hF
     replace H:=H.later hw';clear hw' hF
     refine U<|ZT Z<|Zr<|G (Yp Z)<|G (Yp Z)<|G (Zf eJ Z)<|G (Zd ak H 1 Z Z Z)<|G (aJ Z)<|G (Zf jT Z)<|bo H 0 ((Prod.c ⟨x3.ver,p.seq,p.open_,p.mark⟩).toArray) bH Z Z Z Z Z N N fun w10 H=>G (aJ Z)<|G (Zf fu Z)<|bo H 0 ((Prod.c ⟨x3.ver,-1,p.open_,p.mark⟩).toArray) bH Z Z Z Z Z N N fun w11 H=>U<|Zb<|W<|Zr<|G (Zf ff Z)<|G (Zd ak H 1 Z Z Z) ?_
     refine ro (jh Z Z) Z Z Z (fun h66=> ?_) (fun h66=> ?_)
     ·
      refine G (Wb Z)<|U<|ZT Z<|Zr<|G (Yp Z)<|G (Yp Z)<|G (Yi Z)<|G (aJ Z)<|G (Zf d7 Z)<|bo H 0 ((Prod.c ⟨x3.ver,-1,-1,p.mark⟩).toArray) bH Z Z Z Z Z N N fun w12 H=>G (aJ Z)<|G (Zf ip Z)<|bo H 0 ((Prod.c ⟨x3.ver,-1,-1,k⟩).toArray) bH Z Z Z Z Z N N fun w13 H=>U<|Zr<|G (bw Z Z I I)<|G (Yi Z)<|U ?_
      have hst:(⟨x3.ver,-1,-1,k⟩:Prod)=fm k x3 p:=by
       simp[fm,pv,h36,h66]
      have hP:=jm (q':=(x3.pid,b,(⟨x3.ver,-1,-1,k⟩:Prod))) hj
      refine⟨(k+1,S1.set j (x3.pid,b,(⟨x3.ver,-1,-1,k⟩:Prod))),⟨by omega,la e3.at_ h17 hn hj hp ho hst,(H.perm (L':=(b5,_)::jA bm (S1.set j (x3.pid,b,_))) (by unfold jA;rw[gA hj];exact((hP.cons _).cons _).trans (((am _ _ _).cons _).trans (am _ _ _)))).forget (aY _ _) (fun _ h=>h)⟩,dP Z,Qg,by show es.length- (k+1)<es.length-k;omega⟩
     ·
      refine G (Wb Z)<|U<|ZF Z<|W<|Zr<|G (Yp Z)<|G (Zf fg Z)<|G (Zd ak H 1 Z Z Z)<|G (aJ Z)<|G (Zf fu Z)<|bo H 0 ((Prod.c ⟨x3.ver,x3.seq,p.open_,p.mark⟩).toArray) bH Z Z Z Z Z N N fun w14 H=>U<|W<|Zr<|G (Zf jd Z) ?_
      refine wW (aW dS Z (aB (H.ent (i:=1) Z) Z)) Z Z Z (fun h51=> ?_) (fun h51=> ?_)
      ·
       refine G (Yb Z)<|ZG<|G (Yp Z)<|ZG<|G (aJ Z)<|ZG<|G (Zf d7 Z)<|ZG<|G (Zd ak H 0 Z Z Z)<|ZG ?_
       refine cW (cK Z Z) Z Z Z (fun h57=> ?_) (fun h57=> ?_)
       ·
        refine G (Kt Z Z)<|U<|ZT Z<|Zr<|G (Yp Z)<|G (Yi Z)<|G (aJ Z)<|G (Zf d7 Z)<|bo H 0 ((Prod.c ⟨x3.ver,x3.seq,k,p.mark⟩).toArray) bH Z Z Z Z Z N N fun w15 H=>U<|Zr<|G (bw Z Z I I)<|G (Yi Z)<|U ?_
        replace h57:p.open_<0:=h57
        have hst:(⟨x3.ver,x3.seq,k,p.mark⟩:Prod)=fm k x3 p:=by
         simp[fm,pv,h36,h66,h51,h57]
        have hP:=jm (q':=(x3.pid,b,(⟨x3.ver,x3.seq,k,p.mark⟩:Prod))) hj
        refine⟨(k+1,S1.set j (x3.pid,b,(⟨x3.ver,x3.seq,k,p.mark⟩:Prod))),⟨by omega,la e3.at_ h17 hn hj hp ho hst,(H.perm (L':=(b5,_)::jA bm (S1.set j (x3.pid,b,_))) (by unfold jA;rw[gA hj];exact((hP.cons _).cons _).trans (((am _ _ _).cons _).trans (am _ _ _)))).forget (aY _ _) (fun _ h=>h)⟩,dP Z,Qg,by show es.length- (k+1)<es.length-k;omega⟩
       ·
        refine G (Kt Z Z)<|U<|ZF Z<|Zk<|Zr<|G (bw Z Z I I)<|G (Yi Z)<|U ?_
        replace h57: ¬ p.open_<0:=h57
        have hst:(⟨x3.ver,x3.seq,p.open_,p.mark⟩:Prod)=fm k x3 p:=by
         simp[fm,pv,h36,h66,h51,h57]
        have hP:=jm (q':=(x3.pid,b,(⟨x3.ver,x3.seq,p.open_,p.mark⟩:Prod))) hj
        refine⟨(k+1,S1.set j (x3.pid,b,(⟨x3.ver,x3.seq,p.open_,p.mark⟩:Prod))),⟨by omega,la e3.at_ h17 hn hj hp ho hst,(H.perm (L':=(b5,_)::jA bm (S1.set j (x3.pid,b,_))) (by unfold jA;rw[gA hj];exact((hP.cons _).cons _).trans (((am _ _ _).cons _).trans (am _ _ _)))).forget (aY _ _) (fun _ h=>h)⟩,dP Z,Qg,by show es.length- (k+1)<es.length-k;omega⟩
      ·
       refine G (Yb Z)<|ZN<|ZN<|ZN<|ZN<|ZN<|G (N Z Z)<|U<|ZF Z<|Zk<|Zr<|G (bw Z Z I I)<|G (Yi Z)<|U ?_
       have hst:(⟨x3.ver,x3.seq,p.open_,p.mark⟩:Prod)=fm k x3 p:=by
        simp[fm,pv,h36,h66,h51]
       have hP:=jm (q':=(x3.pid,b,(⟨x3.ver,x3.seq,p.open_,p.mark⟩:Prod))) hj
       refine⟨(k+1,S1.set j (x3.pid,b,(⟨x3.ver,x3.seq,p.open_,p.mark⟩:Prod))),⟨by omega,la e3.at_ h17 hn hj hp ho hst,(H.perm (L':=(b5,_)::jA bm (S1.set j (x3.pid,b,_))) (by unfold jA;rw[gA hj];exact((hP.cons _).cons _).trans (((am _ _ _).cons _).trans (am _ _ _)))).forget (aY _ _) (fun _ h=>h)⟩,dP Z,Qg,by show es.length- (k+1)<es.length-k;omega⟩
    ·
     refine aV ?_
     intro w16 hw' hF
     replace H:=H.later hw';clear hw' hF
     refine U<|ZF Z<|Zk<|Zb<|W<|Zr<|G (Zf ff Z)<|G (Zd ak H 1 Z Z Z) ?_
     refine ro (jh Z Z) Z Z Z (fun h66=> ?_) (fun h66=> ?_)
     ·
      refine G (Wb Z)<|U<|ZT Z<|Zr<|G (Yp Z)<|G (Yp Z)<|G (Yi Z)<|G (aJ Z)<|G (Zf d7 Z)<|bo H 0 ((Prod.c ⟨p.ver,p.seq,-1,p.mark⟩).toArray) bH Z Z Z Z Z N N fun w17 H=>G (aJ Z)<|G (Zf ip Z)<|bo H 0 ((Prod.c ⟨p.ver,p.seq,-1,k⟩).toArray) bH Z Z Z Z Z N N fun w18 H=>U<|Zr<|G (bw Z Z I I)<|G (Yi Z)<|U ?_
      have hst:(⟨p.ver,p.seq,-1,k⟩:Prod)=fm k x3 p:=by
       simp[fm,pv,h36,h66]
      have hP:=jm (q':=(x3.pid,b,(⟨p.ver,p.seq,-1,k⟩:Prod))) hj
      refine⟨(k+1,S1.set j (x3.pid,b,(⟨p.ver,p.seq,-1,k⟩:Prod))),⟨by omega,la e3.at_ h17 hn hj hp ho hst,(H.perm (L':=(b5,_)::jA bm (S1.set j (x3.pid,b,_))) (by unfold jA;rw[gA hj];exact((hP.cons _).cons _).trans (((am _ _ _).cons _).trans (am _ _ _)))).forget (aY _ _) (fun _ h=>h)⟩,dP Z,Qg,by show es.length- (k+1)<es.length-k;omega⟩
     ·
      refine G (Wb Z)<|U<|ZF Z<|W<|Zr<|G (Yp Z)<|G (Zf fg Z)<|G (Zd ak H 1 Z Z Z)<|G (aJ Z)<|G (Zf fu Z)<|bo H 0 ((Prod.c ⟨p.ver,x3.seq,p.open_,p.mark⟩).toArray) bH Z Z Z Z Z N N fun w19 H=>U<|W<|Zr<|G (Zf jd Z) ?_
      refine wW (aW dS Z (aB (H.ent (i:=1) Z) Z)) Z Z Z (fun h51=> ?_) (fun h51=> ?_)
      ·
       refine G (Yb Z)<|ZG<|G (Yp Z)<|ZG<|G (aJ Z)<|ZG<|G (Zf d7 Z)<|ZG<|G (Zd ak H 0 Z Z Z)<|ZG ?_
       refine cW (cK Z Z) Z Z Z (fun h57=> ?_) (fun h57=> ?_)
       ·
        refine G (Kt Z Z)<|U<|ZT Z<|Zr<|G (Yp Z)<|G (Yi Z)<|G (aJ Z)<|G (Zf d7 Z)<|bo H 0 ((Prod.c ⟨p.ver,x3.seq,k,p.mark⟩).toArray) bH Z Z Z Z Z N N fun w20 H=>U<|Zr<|G (bw Z Z I I)<|G (Yi Z)<|U ?_
        replace h57:p.open_<0:=h57
        have hst:(⟨p.ver,x3.seq,k,p.mark⟩:Prod)=fm k x3 p:=by
         simp[fm,pv,h36,h66,h51,h57]
        have hP:=jm (q':=(x3.pid,b,(⟨p.ver,x3.seq,k,p.mark⟩:Prod))) hj
        refine⟨(k+1,S1.set j (x3.pid,b,(⟨p.ver,x3.seq,k,p.mark⟩:Prod))),⟨by omega,la e3.at_ h17 hn hj hp ho hst,(H.perm (L':=(b5,_)::jA bm (S1.set j (x3.pid,b,_))) (by unfold jA;rw[gA hj];exact((hP.cons _).cons _).trans (((am _ _ _).cons _).trans (am _ _ _)))).forget (aY _ _) (fun _ h=>h)⟩,dP Z,Qg,by show es.length- (k+1)<es.length-k;omega⟩
       ·
        refine G (Kt Z Z)<|U<|ZF Z<|Zk<|Zr<|G (bw Z Z I I)<|G (Yi Z)<|U ?_
        replace h57: ¬ p.open_<0:=h57
        have hst:(⟨p.ver,x3.seq,p.open_,p.mark⟩:Prod)=fm k x3 p:=by
         simp[fm,pv,h36,h66,h51,h57]
        have hP:=jm (q':=(x3.pid,b,(⟨p.ver,x3.seq,p.open_,p.mark⟩:Prod))) hj
        refine⟨(k+1,S1.set j (x3.pid,b,(⟨p.ver,x3.seq,p.open_,p.mark⟩:Prod))),⟨by omega,la e3.at_ h17 hn hj hp ho hst,(H.perm (L':=(b5,_)::jA bm (S1.set j (x3.pid,b,_))) (by unfold jA;rw[gA hj];exact((hP.cons _).cons _).trans (((am _ _ _).cons _).trans (am _ _ _)))).forget (aY _ _) (fun _ h=>h)⟩,dP Z,Qg,by show es.length- (k+1)<es.length-k;omega⟩
      ·
       refine G (Yb Z)<|ZN<|ZN<|ZN<|ZN<|ZN<|G (N Z Z)<|U<|ZF Z<|Zk<|Zr<|G (bw Z Z I I)<|G (Yi Z)<|U ?_
       have hst:(⟨p.ver,x3.seq,p.open_,p.mark⟩:Prod)=fm k x3 p:=by
        simp[fm,pv,h36,h66,h51]
       have hP:=jm (q':=(x3.pid,b,(⟨p.ver,x3.seq,p.open_,p.mark⟩:Prod))) hj
       refine⟨(k+1,S1.set j (x3.pid,b,(⟨p.ver,x3.seq,p.open_,p.mark⟩:Prod))),⟨by omega,la e3.at_ h17 hn hj hp ho hst,(H.perm (L':=(b5,_)::jA bm (S1.set j (x3.pid,b,_))) (by unfold jA;rw[gA hj];exact((hP.cons _).cons _).trans (((am _ _ _).cons _).trans (am _ _ _)))).forget (aY _ _) (fun _ h=>h)⟩,dP Z,Qg,by show es.length- (k+1)<es.length-k;omega⟩
   ·
    refine G (O6 rV qM Z Z (H.ent (i:=1) Z) (by rw[uN];exact hS.1) (FJ hj))<|G (Wp Z)<|U<|W ?_
    refine eN (τ:=List PB×Nat×Nat×Prod) [6,22,23,24,25,26,27,28,29] (fun(S1,j,b,p)=>[(6,Cc b)]) (fun(S1,j,b,p) w'=>(S1.map (·.1)).Nodup/\S1[j]? =some (x3.pid,b,p)/\p=(fC (es.take k) x3.pid).getD p0/\(∀ pid,pid≠x3.pid->vd S1 pid=fC (es.take k) pid)/\Hp w w' ((b,.cells p.c.toArray lV (0,0))::(b5,.cells (cz.c x3).toArray dw (0,0))::(bm,tS (rh S1))::(S1.eraseIdx j).map xZ) [dU gV 0 w.heap.size A es]) ?_ ?_
    ·skip
     refine W<|Zr<|G (Yp Z)<|G (v9 n9 Z)<|U<|ZF Z<|Zk ?_
     refine⟨(S,j,b,p),⟨hS.1,hj,by rw[<-hS.2,uU hS.1 hj];rfl,fun pid _=>hS.2 pid,H.perm ?_⟩,dP Z,Qg⟩
     have hP:=FT hj
     exact((am _ _ _).trans ((am _ _ _).cons _)).trans ((hP.cons _).cons _)
    rintro⟨S1,j,b,p⟩ ρ2 w21 ⟨hn,hj,hp,ho,H⟩
    show CW _ _ _ _ (dH (gZ _ _ ρ2) [(6,Cc b)]) w21
    refine W<|W ?_
    refine bA cd [0,1,2,3,4,5,6] [] [] [0,2,3,4,6] (sp []) N N N N Nq (cI _) ?_
    refine aw Z Z Z Z Z (fun w' hw'=>Zf eJ Z)<|aw Z Z Z Z Z (fun w' hw'=>aW ak Z (aB ((H.later hw').ent (i:=1) Z) Z))<|aw Z Z Z Z Z (fun w' hw'=>Yp Z)<|aw Z Z Z Z Z (fun w' hw'=>aJ Z)<|aw Z Z Z Z Z (fun w' hw'=>Zf jT Z)<|aw Z Z Z Z Z (fun w' hw'=>aW ak Z (aB ((H.later hw').ent (i:=0) Z) Z)) ?_
    refine P9 Z Z Z Z Z (fun w' hw'=>jh Z Z) (fun h36=> ?_) (fun h36=> ?_)
    ·
     refine aV ?_
     intro w22 hw' hF
     replace H:=H.later hw';clear hw' hF
     refine U<|ZT Z<|Zr<|G (Yp Z)<|G (Yp Z)<|G (Zf eJ Z)<|G (Zd ak H 1 Z Z Z)<|G (aJ Z)<|G (Zf jT Z)<|bo H 0 ((Prod.c ⟨x3.ver,p.seq,p.open_,p.mark⟩).toArray) bH Z Z Z Z Z N N fun w23 H=>G (aJ Z)<|G (Zf fu Z)<|bo H 0 ((Prod.c ⟨x3.ver,-1,p.open_,p.mark⟩).toArray) bH Z Z Z Z Z N N fun w24 H=>U<|Zb<|W<|Zr<|G (Zf ff Z)<|G (Zd ak H 1 Z Z Z) ?_
     refine ro (jh Z Z) Z Z Z (fun h66=> ?_) (fun h66=> ?_)
     ·
      refine G (Wb Z)<|U<|ZT Z<|Zr<|G (Yp Z)<|G (Yp Z)<|G (Yi Z)<|G (aJ Z)<|G (Zf d7 Z)<|bo H 0 ((Prod.c ⟨x3.ver,-1,-1,p.mark⟩).toArray) bH Z Z Z Z Z N N fun w25 H=>G (aJ Z)<|G (Zf ip Z)<|bo H 0 ((Prod.c ⟨x3.ver,-1,-1,k⟩).toArray) bH Z Z Z Z Z N N fun w26 H=>U<|Zr<|G (bw Z Z I I)<|G (Yi Z)<|U ?_
      have hst:(⟨x3.ver,-1,-1,k⟩:Prod)=fm k x3 p:=by
       simp[fm,pv,h36,h66]
      have hP:=jm (q':=(x3.pid,b,(⟨x3.ver,-1,-1,k⟩:Prod))) hj
      refine⟨(k+1,S1.set j (x3.pid,b,(⟨x3.ver,-1,-1,k⟩:Prod))),⟨by omega,la e3.at_ h17 hn hj hp ho hst,(H.perm (L':=(b5,_)::jA bm (S1.set j (x3.pid,b,_))) (by unfold jA;rw[gA hj];exact((hP.cons _).cons _).trans (((am _ _ _).cons _).trans (am _ _ _)))).forget (aY _ _) (fun _ h=>h)⟩,dP Z,Qg,by show es.length- (k+1)<es.length-k;omega⟩
     ·
      refine G (Wb Z)<|U<|ZF Z<|W<|Zr<|G (Yp Z)<|G (Zf fg Z)<|G (Zd ak H 1 Z Z Z)<|G (aJ Z)<|G (Zf fu Z)<|bo H 0 ((Prod.c ⟨x3.ver,x3.seq,p.open_,p.mark⟩).toArray) bH Z Z Z Z Z N N fun w27 H=>U<|W<|Zr<|G (Zf jd Z) ?_
      refine wW (aW dS Z (aB (H.ent (i:=1) Z) Z)) Z Z Z (fun h51=> ?_) (fun h51=> ?_)
      ·
       refine G (Yb Z)<|ZG<|G (Yp Z)<|ZG<|G (aJ Z)<|ZG<|G (Zf d7 Z)<|ZG<|G (Zd ak H 0 Z Z Z)<|ZG ?_
       refine cW (cK Z Z) Z Z Z (fun h57=> ?_) (fun h57=> ?_)
       ·
        refine G (Kt Z Z)<|U<|ZT Z<|Zr<|G (Yp Z)<|G (Yi Z)<|G (aJ Z)<|G (Zf d7 Z)<|bo H 0 ((Prod.c ⟨x3.ver,x3.seq,k,p.mark⟩).toArray) bH Z Z Z Z Z N N fun w28 H=>U<|Zr<|G (bw Z Z I I)<|G (Yi Z)<|U ?_
        replace h57:p.open_<0:=h57
        have hst:(⟨x3.ver,x3.seq,k,p.mark⟩:Prod)=fm k x3 p:=by
         simp[fm,pv,h36,h66,h51,h57]
        have hP:=jm (q':=(x3.pid,b,(⟨x3.ver,x3.seq,k,p.mark⟩:Prod))) hj
        refine⟨(k+1,S1.set j (x3.pid,b,(⟨x3.ver,x3.seq,k,p.mark⟩:Prod))),⟨by omega,la e3.at_ h17 hn hj hp ho hst,(H.perm (L':=(b5,_)::jA bm (S1.set j (x3.pid,b,_))) (by unfold jA;rw[gA hj];exact((hP.cons _).cons _).trans (((am _ _ _).cons _).trans (am _ _ _)))).forget (aY _ _) (fun _ h=>h)⟩,dP Z,Qg,by show es.length- (k+1)<es.length-k;omega⟩
       ·
        refine G (Kt Z Z)<|U<|ZF Z<|Zk<|Zr<|G (bw Z Z I I)<|G (Yi Z)<|U ?_
        replace h57: ¬ p.open_<0:=h57
        have hst:(⟨x3.ver,x3.seq,p.open_,p.mark⟩:Prod)=fm k x3 p:=by
         simp[fm,pv,h36,h66,h51,h57]
        have hP:=jm (q':=(x3.pid,b,(⟨x3.ver,x3.seq,p.open_,p.mark⟩:Prod))) hj
        refine⟨(k+1,S1.set j (x3.pid,b,(⟨x3.ver,x3.seq,p.open_,p.mark⟩:Prod))),⟨by omega,la e3.at_ h17 hn hj hp ho hst,(H.perm (L':=(b5,_)::jA bm (S1.set j (x3.pid,b,_))) (by unfold jA;rw[gA hj];exact((hP.cons _).cons _).trans (((am _ _ _).cons _).trans (am _ _ _)))).forget (aY _ _) (fun _ h=>h)⟩,dP Z,Qg,by show es.length- (k+1)<es.length-k;omega⟩
      ·
       refine G (Yb Z)<|ZN<|ZN<|ZN<|ZN<|ZN<|G (N Z Z)<|U<|ZF Z<|Zk<|Zr<|G (bw Z Z I I)<|G (Yi Z)<|U ?_
       have hst:(⟨x3.ver,x3.seq,p.open_,p.mark⟩:Prod)=fm k x3 p:=by
        simp[fm,pv,h36,h66,h51]
       have hP:=jm (q':=(x3.pid,b,(⟨x3.ver,x3.seq,p.open_,p.mark⟩:Prod))) hj
       refine⟨(k+1,S1.set j (x3.pid,b,(⟨x3.ver,x3.seq,p.open_,p.mark⟩:Prod))),⟨by omega,la e3.at_ h17 hn hj hp ho hst,(H.perm (L':=(b5,_)::jA bm (S1.set j (x3.pid,b,_))) (by unfold jA;rw[gA hj];exact((hP.cons _).cons _).trans (((am _ _ _).cons _).trans (am _ _ _)))).forget (aY _ _) (fun _ h=>h)⟩,dP Z,Qg,by show es.length- (k+1)<es.length-k;omega⟩
    ·
     refine aV ?_
     intro w29 hw' hF
     replace H:=H.later hw';clear hw' hF
     refine U<|ZF Z<|Zk<|Zb<|W<|Zr<|G (Zf ff Z)<|G (Zd ak H 1 Z Z Z) ?_
     refine ro (jh Z Z) Z Z Z (fun h66=> ?_) (fun h66=> ?_)
     ·
      refine G (Wb Z)<|U<|ZT Z<|Zr<|G (Yp Z)<|G (Yp Z)<|G (Yi Z)<|G (aJ Z)<|G (Zf d7 Z)<|bo H 0 ((Prod.c ⟨p.ver,p.seq,-1,p.mark⟩).toArray) bH Z Z Z Z Z N N fun w30 H=>G (aJ Z)<|G (Zf ip Z)<|bo H 0 ((Prod.c ⟨p.ver,p.seq,-1,k⟩).toArray) bH Z Z Z Z Z N N fun w31 H=>U<|Zr<|G (bw Z Z I I)<|G (Yi Z)<|U ?_
      have hst:(⟨p.ver,p.seq,-1,k⟩:Prod)=fm k x3 p:=by
       simp[fm,pv,h36,h66]
      have hP:=jm (q':=(x3.pid,b,(⟨p.ver,p.seq,-1,k⟩:Prod))) hj
      refine⟨(k+1,S1.set j (x3.pid,b,(⟨p.ver,p.seq,-1,k⟩:Prod))),⟨by omega,la e3.at_ h17 hn hj hp ho hst,(H.perm (L':=(b5,_)::jA bm (S1.set j (x3.pid,b,_))) (by unfold jA;rw[gA hj];exact((hP.cons _).cons _).trans (((am _ _ _).cons _).trans (am _ _ _)))).forget (aY _ _) (fun _ h=>h)⟩,dP Z,Qg,by show es.length- (k+1)<es.length-k;omega⟩
     ·
      refine G (Wb Z)<|U<|ZF Z<|W<|Zr<|G (Yp Z)<|G (Zf fg Z)<|G (Zd ak H 1 Z Z Z)<|G (aJ Z)<|G (Zf fu Z)<|bo H 0 ((Prod.c ⟨p.ver,x3.seq,p.open_,p.mark⟩).toArray) bH Z Z Z Z Z N N fun w32 H=>U<|W<|Zr<|G (Zf jd Z) ?_
      refine wW (aW dS Z (aB (H.ent (i:=1) Z) Z)) Z Z Z (fun h51=> ?_) (fun h51=> ?_)
      ·
       refine G (Yb Z)<|ZG<|G (Yp Z)<|ZG<|G (aJ Z)<|ZG<|G (Zf d7 Z)<|ZG<|G (Zd ak H 0 Z Z Z)<|ZG ?_
       refine cW (cK Z Z) Z Z Z (fun h57=> ?_) (fun h57=> ?_)
       ·
        refine G (Kt Z Z)<|U<|ZT Z<|Zr<|G (Yp Z)<|G (Yi Z)<|G (aJ Z)<|G (Zf d7 Z)<|bo H 0 ((Prod.c ⟨p.ver,x3.seq,k,p.mark⟩).toArray) bH Z Z Z Z Z N N fun w33 H=>U<|Zr<|G (bw Z Z I I)<|G (Yi Z)<|U ?_
        replace h57:p.open_<0:=h57
        have hst:(⟨p.ver,x3.seq,k,p.mark⟩:Prod)=fm k x3 p:=by
         simp[fm,pv,h36,h66,h51,h57]
        have hP:=jm (q':=(x3.pid,b,(⟨p.ver,x3.seq,k,p.mark⟩:Prod))) hj
        refine⟨(k+1,S1.set j (x3.pid,b,(⟨p.ver,x3.seq,k,p.mark⟩:Prod))),⟨by omega,la e3.at_ h17 hn hj hp ho hst,(H.perm (L':=(b5,_)::jA bm (S1.set j (x3.pid,b,_))) (by unfold jA;rw[gA hj];exact((hP.cons _).cons _).trans (((am _ _ _).cons _).trans (am _ _ _)))).forget (aY _ _) (fun _ h=>h)⟩,dP Z,Qg,by show es.length- (k+1)<es.length-k;omega⟩
       ·
        refine G (Kt Z Z)<|U<|ZF Z<|Zk<|Zr<|G (bw Z Z I I)<|G (Yi Z)<|U ?_
        replace h57: ¬ p.open_<0:=h57
        have hst:(⟨p.ver,x3.seq,p.open_,p.mark⟩:Prod)=fm k x3 p:=by
         simp[fm,pv,h36,h66,h51,h57]
        have hP:=jm (q':=(x3.pid,b,(⟨p.ver,x3.seq,p.open_,p.mark⟩:Prod))) hj
        refine⟨(k+1,S1.set j (x3.pid,b,(⟨p.ver,x3.seq,p.open_,p.mark⟩:Prod))),⟨by omega,la e3.at_ h17 hn hj hp ho hst,(H.perm (L':=(b5,_)::jA bm (S1.set j (x3.pid,b,_))) (by unfold jA;rw[gA hj];exact((hP.cons _).cons _).trans (((am _ _ _).cons _).trans (am _ _ _)))).forget (aY _ _) (fun _ h=>h)⟩,dP Z,Qg,by show es.length- (k+1)<es.length-k;omega⟩
      ·
       refine G (Yb Z)<|ZN<|ZN<|ZN<|ZN<|ZN<|G (N Z Z)<|U<|ZF Z<|Zk<|Zr<|G (bw Z Z I I)<|G (Yi Z)<|U ?_
       have hst:(⟨p.ver,x3.seq,p.open_,p.mark⟩:Prod)=fm k x3 p:=by
        simp[fm,pv,h36,h66,h51]
       have hP:=jm (q':=(x3.pid,b,(⟨p.ver,x3.seq,p.open_,p.mark⟩:Prod))) hj
       refine⟨(k+1,S1.set j (x3.pid,b,(⟨p.ver,x3.seq,p.open_,p.mark⟩:Prod))),⟨by omega,la e3.at_ h17 hn hj hp ho hst,(H.perm (L':=(b5,_)::jA bm (S1.set j (x3.pid,b,_))) (by unfold jA;rw[gA hj];exact((hP.cons _).cons _).trans (((am _ _ _).cons _).trans (am _ _ _)))).forget (aY _ _) (fun _ h=>h)⟩,dP Z,Qg,by show es.length- (k+1)<es.length-k;omega⟩
 ·
  refine U<|W<|ZF Z<|Zx<|W<|Zr<|G (Ms Z)<|G (Ng Z)<|U<|Zt ?_
  have hke:k=es.length:=by omega
  subst hke
  rw[bN]at hS
  exact cH (v:=.map (some bm)) Z Z ⟨S,bm,rfl,hS,H.forget (ar _) (by simp)⟩
/-- an entry of a transaction that has no end yet -/
def nC (es:List cz) (k:Nat) (pid:Int):Prop:= ∃ e,es[k]? =some e/\e.kind=1/\e.txn=true/\e.pid=pid/\pid≠0/\ ∀ j f,k<j->es[j]? =some f->f.pid=pid->f.kind=1
theorem lY {es:List cz} {x:cz} {k:Nat} {pid:Int}:nC (es++[x]) k pid↔(k<es.length/\nC es k pid/\(x.pid=pid->x.kind=1))∨(k=es.length/\x.kind=1/\x.txn=true/\x.pid=pid/\pid≠0):=by
 constructor
 rintro⟨e,h1,h2,h3,h4,h5,h6⟩
 have hk:=(aA.1 h1).1
 simp at hk
 by_cases hkl:k<es.length
 left
 rw[cu hkl]at h1
 refine⟨hkl,⟨e,h1,h2,h3,h4,h5,fun j f hj hf hp=>h6 j f hj (by rw[cu (aA.1 hf).1];exact hf) hp⟩,fun hp=>h6 es.length x hkl (by simp) hp⟩
 right
 have:k=es.length:=by omega
 subst this
 simp at h1
 subst h1
 exact⟨rfl,h2,h3,h4,h5⟩
 rintro(⟨hk,⟨e,h1,h2,h3,h4,h5,h6⟩,hx⟩|⟨rfl,h2,h3,h4,h5⟩)
 refine⟨e,by rw[cu hk];exact h1,h2,h3,h4,h5,fun j f hj hf hp=> ?_⟩
 by_cases hjl:j<es.length
 rw[cu hjl]at hf;exact h6 j f hj hf hp
 have hj2:=(aA.1 hf).1
 simp at hj2
 have:j=es.length:=by omega
 subst this
 simp at hf
 subst hf
 exact hx hp
 refine⟨x,by simp,h2,h3,h4,h5,fun j f hj hf _=> ?_⟩
 have hj2:=(aA.1 hf).1
 simp at hj2
 omega
structure KQ (es:List cz) (pid:Int) (p:Prod):Prop where
 opn:p.open_= -1∨ ∃ k:Nat,p.open_=k/\nC es k pid
 least: ∀ k,nC es k pid->0<=p.open_/\p.open_<=k
 mark:p.mark= -1∨ ∃ (k:Nat) (e:cz),p.mark=k/\es[k]? =some e/\e.pid=pid/\e.kind≠1
 seq:p.seq= -1∨ ∃ e∈es,e.pid=pid/\e.kind=1/\p.seq=e.seq/\p.ver=e.ver
 ver: ∃ e∈es,e.pid=pid/\p.ver=e.ver
theorem Dd {es:List cz} {x:cz} {p:Prod} (h0:x.pid≠0) (h:p=p0/\(∀ k,¬ nC es k x.pid)∨KQ es x.pid p):KQ (es++[x]) x.pid (fm es.length x p):=by
 have hpv:(pv x p).ver=x.ver/\(pv x p).open_=p.open_/\(pv x p).mark=p.mark/\((pv x p).seq= -1∨((pv x p).seq=p.seq/\p.ver=x.ver)):=by
  unfold pv
  split
  exact⟨rfl,rfl,rfl,.inl Z⟩
  rename_i hv
  have hv':x.ver=p.ver:=Classical.not_not.1 hv
  exact⟨hv'.symm,rfl,rfl,.inr ⟨rfl,hv'.symm⟩⟩
 obtain⟨v1,v2,v3,v4⟩:=hpv
 have hxm:x∈es++[x]:=by simp
 have hmark:p.mark= -1∨ ∃ (k:Nat) (e:cz),p.mark=k/\(es++[x])[k]? =some e/\e.pid=x.pid/\e.kind≠1:=by
  rcases h with⟨rfl,_⟩|h
  exact .inl Z
  rcases h.mark with h|⟨k,e,h1,h2,h3,h4⟩
  exact .inl h
  exact .inr ⟨k,e,h1,by rw[cu (aA.1 h2).1];exact h2,h3,h4⟩
 have hseq:(pv x p).seq= -1∨ ∃ e∈es++[x],e.pid=x.pid/\e.kind=1/\(pv x p).seq=e.seq/\x.ver=e.ver:=by
  rcases v4 with h1|⟨h1,h2⟩
  exact .inl h1
  rcases h with⟨rfl,_⟩|h
  exact .inl h1
  rcases h.seq with h|⟨e,he,a1,a2,a3,a4⟩
  exact .inl (h1.trans h)
  exact .inr ⟨e,iv _ he,a1,a2,h1.trans a3,h2.symm.trans a4⟩
 unfold fm
 split
 rename_i hk
 refine⟨.inl Z,fun k hok=> ?_,.inr ⟨es.length,x,rfl,by simp,rfl,hk⟩,?_,⟨x,hxm,rfl,v1⟩⟩
 rcases lY.1 hok with⟨_,_,h⟩|⟨_,h,_⟩
 exact absurd (h Z) hk
 exact absurd h hk
 rcases hseq with h|⟨e,he,a1,a2,a3,a4⟩
 exact .inl h
 exact .inr ⟨e,he,a1,a2,a3,v1.trans a4⟩
 rename_i hk
 have hk1:x.kind=1:=Classical.not_not.1 hk
 have hold: ∀ k,nC es k x.pid->nC (es++[x]) k x.pid:=fun k hok=>lY.2 (.inl ⟨by obtain⟨e,h,_⟩:=hok;exact(aA.1 h).1,hok,fun _=>hk1⟩)
 split
 rename_i ht
 rw[v2]at ht
 refine⟨.inr ⟨es.length,rfl,lY.2 (.inr ⟨rfl,hk1,ht.1,rfl,h0⟩)⟩,fun k hok=> ?_,by rw[v3];exact hmark,.inr ⟨x,hxm,rfl,hk1,rfl,v1⟩,⟨x,hxm,rfl,v1⟩⟩
 rcases lY.1 hok with⟨_,h1,_⟩|⟨rfl,_⟩
 rcases h with⟨_,hn⟩|h
 exact absurd h1 (hn k)
 have:=h.least k h1;omega
 exact⟨by simp,fj _⟩
 rename_i ht
 rw[v2]at ht
 refine⟨?_,fun k hok=> ?_,by rw[v3];exact hmark,.inr ⟨x,hxm,rfl,hk1,rfl,v1⟩,⟨x,hxm,rfl,v1⟩⟩
 rw[v2]
 rcases h with⟨rfl,_⟩|h
 exact .inl Z
 rcases h.opn with h|⟨k,h1,h2⟩
 exact .inl h
 exact .inr ⟨k,h1,hold k h2⟩
 rw[v2]
 rcases lY.1 hok with⟨_,h1,_⟩|⟨rfl,_,h2,_⟩
 rcases h with⟨_,hn⟩|h
 exact absurd h1 (hn k)
 exact h.least k h1
 rcases h with⟨rfl,_⟩|h
 exact absurd ⟨h2,by decide⟩ ht
 rcases h.opn with h|⟨k,h1,hok2⟩
 exact absurd ⟨h2,by omega⟩ ht
 obtain⟨_,hok3,_⟩:=hok2
 have:=(aA.1 hok3).1
 omega
theorem JS {es:List cz} {x:cz} {pid:Int} {p:Prod} (h0:x.pid≠pid) (h:KQ es pid p):KQ (es++[x]) pid p:=by
 have hold: ∀ k,nC (es++[x]) k pid↔nC es k pid:=fun k=>by
  rw[lY]
  constructor
  rintro(⟨_,h,_⟩|⟨_,_,_,h,_⟩)
  exact h
  exact absurd h h0
  intro h
  exact .inl ⟨by obtain⟨e,h,_⟩:=h;exact(aA.1 h).1,h,fun h=>absurd h h0⟩
 refine⟨?_,fun k hk=>h.least k ((hold k).1 hk),?_,?_,?_⟩
 rcases h.opn with h|⟨k,h1,h2⟩
 exact .inl h
 exact .inr ⟨k,h1,(hold k).2 h2⟩
 rcases h.mark with h|⟨k,e,h1,h2,h3⟩
 exact .inl h
 exact .inr ⟨k,e,h1,by rw[cu (aA.1 h2).1];exact h2,h3⟩
 rcases h.seq with h|⟨e,he,h⟩
 exact .inl h
 exact .inr ⟨e,iv _ he,h⟩
 obtain⟨e,he,h⟩:=h.ver
 exact⟨e,iv _ he,h⟩
theorem jp (es:List cz) (pid:Int):(∀ p,fC es pid=some p->KQ es pid p)/\(fC es pid=none-> ∀ e∈es,e.pid=pid->pid=0):=by
 induction es using Lz with
 |h0=>exact⟨fun p h=>by simp[JP]at h,fun _ e he=>by cases he⟩
 |h1 es x ih=>
  obtain⟨ih1,ih2⟩:=ih
  rw[qa]
  by_cases hc:x.pid≠0/\x.pid=pid
  obtain⟨h0,rfl⟩:=hc
  rw[if_pos ⟨h0,rfl⟩]
  refine⟨fun p hp=> ?_,fun h=>by cases h⟩
  injection hp with hp
  subst hp
  cases hq:fC es x.pid with
  |none=>
   refine Dd h0 (.inl ⟨rfl,fun k hok=> ?_⟩)
   obtain⟨e,h1,_,_,h4,h5,_⟩:=hok
   exact h5 (ih2 hq e (ab h1) h4)
  |some q=>exact Dd h0 (.inr (ih1 q hq))
  rw[if_neg hc]
  refine⟨fun p hp=> ?_,fun h e he hpe=> ?_⟩
  by_cases hx:x.pid=pid
  have h0:x.pid=0:=Classical.byContradiction fun h=>hc ⟨h,hx⟩
  obtain⟨e,he,h1,h1v⟩:=(ih1 p hp).ver
  have h:=ih1 p hp
  have hz:pid=0:=hx▸h0
  have hnone: ∀ l k,¬ nC l k pid:=fun l k ⟨_,_,_,_,_,h,_⟩=>h hz
  refine⟨?_,fun k hk=>absurd hk (hnone _ k),?_,?_,?_⟩
  rcases h.opn with h|⟨k,_,h2⟩
  exact .inl h
  exact absurd h2 (hnone _ k)
  rcases h.mark with h|⟨k,e,h1,h2,h3⟩
  exact .inl h
  exact .inr ⟨k,e,h1,by rw[cu (aA.1 h2).1];exact h2,h3⟩
  rcases h.seq with h|⟨e,he,h⟩
  exact .inl h
  exact .inr ⟨e,iv _ he,h⟩
  exact⟨e,iv _ he,h1,h1v⟩
  exact JS hx (ih1 p hp)
  rcases ap.1 he with he|he
  exact ih2 h e he hpe
  rw[aq.1 he]at hpe
  exact Classical.byContradiction fun h0=>hc ⟨fun h=>h0 (hpe▸h),hpe⟩
def t6 (es:List cz) (n:Nat):Prop:=n<=es.length/\(∀ k pid,nC es k pid->n<=k)/\(n=es.length∨ ∃ pid,nC es n pid)
theorem HU {es:List cz} {n m:Nat} (h:t6 es n) (h':t6 es m):n=m:=by
 obtain⟨a1,a2,a3⟩:=h
 obtain⟨b1,b2,b3⟩:=h'
 have h1:n<=m:=by
  rcases b3 with h|⟨pid,h⟩
  omega
  exact a2 _ _ h
 have h2:m<=n:=by
  rcases a3 with h|⟨pid,h⟩
  omega
  exact b2 _ _ h
 omega
theorem Ka {es:List cz} {S:List PB} (hS:PS S es) {out:Int} (h1:out<=es.length) (h2: ∀ q∈S,0<=q.2.2.open_->out<=q.2.2.open_) (h3:out=es.length∨ ∃ q∈S,0<=q.2.2.open_/\out=q.2.2.open_): ∃ n:Nat,out=n/\t6 es n:=by
 have hq: ∀ q∈S,KQ es q.1 q.2.2:=fun q hq=>by
  obtain⟨a,b,p⟩:=q
  obtain⟨j,hj⟩:=aT.1 hq
  have:=uU hS.1 hj
  rw[hS.2]at this
  exact(jp es a).1 p this
 have h4: ∀ k pid,nC es k pid->out<=k:=fun k pid hok=>by
  cases hp:fC es pid with
  |none=>
   obtain⟨e,e1,_,_,e4,e5,_⟩:=hok
   exact absurd ((jp es pid).2 hp e (ab e1) e4) e5
  |some p=>
   have hl:=(((jp es pid).1 p hp).least k hok)
   have hlk:=hS.2 pid
   rw[hp]at hlk
   unfold vd at hlk
   cases hf:S.find? (fun q=>decide (q.1=pid))with
   |none=>rw[hf]at hlk;cases hlk
   |some q=>
    rw[hf]at hlk
    simp at hlk
    have hm:=List.mem_of_find?_eq_some hf
    have:=h2 q hm (by rw[hlk];exact hl.1)
    rw[hlk]at this
    omega
 rcases h3 with rfl|⟨q,hqm,q0,rfl⟩
 exact⟨es.length,rfl,ao _,fun k pid h=>by have:=h4 k pid h;omega,.inl Z⟩
 rcases(hq q hqm).opn with h|⟨k,hk,hok⟩
 omega
 refine⟨k,hk,by omega,fun j pid h=>by have:=h4 j pid h;omega,.inr ⟨_,hok⟩⟩
def yj (es:List cz) (p:Int):Bool:=
 match es.find? (fun e=>!decide (e.kind=1)&&decide (e.pid=p))with
 |some e=>decide (e.kind=2)
 |none=>false
def yW (es:List cz) (i:Nat) (e:cz):Bool:=!e.txn||yj (es.drop (i+1)) e.pid
theorem tZ (e:cz) (es:List cz) (p:Int):yj (e::es) p=if¬ e.kind=1/\e.pid=p then decide (e.kind=2)else yj es p:=by
 unfold yj
 rw[List.find?_cons]
 by_cases h1:e.kind=1<;>by_cases h2:e.pid=p<;>simp[h1,h2]
theorem cP {α:Type} {l:List α} {k:Nat} {e:α} (h:l[k]? =some e):l.drop k=e::l.drop (k+1):=by
 obtain⟨hk,rfl⟩:=cC h
 exact m9 hk
theorem Oy (es:List cz) (A:Option Addr) (c i:Nat) (x:cz) (w:World) (hr:Rd gV 0 w.heap.size A es w) (hi:es[i]? =some x) (hc:es.length<=c) (hb:es.length<=1000000):
  dh aa Gg [.slice A es.length c,J (i:Nat)] w fun v w2=>v=.bool (yW es i x)/\Below w.heap.size w w2:=by
 refine aE EE Z Z ?_
 have H:=Hp.startRd hr
 have hil:=(cC hi).1
 refine W<|Zr<|G (Wb Z)<|U<|W<|W<|Zr<|G (Ys Z)<|G (Yi Z)<|qB H 0 Z dV Z Z I I Z fun b1 o1 x1 e1=> ?_
 obtain rfl:x=x1:=by have:=e1.at_;rw[hi]at this;injection this
 refine G (Zf jd Z) ?_
 refine wW (aW dS Z (e1.cl 5 _ Z)) Z Z Z (fun h11=> ?_) (fun h11=> ?_)
 refine G (dM Z)<|U<|ZF Z<|Zk<|W<|W<|Zr<|G (Ys Z)<|G (Yi Z)<|G (bw Z Z I I) ?_
 have h15:(i:Int)+1=((i+1:Nat):Int):=by omega
 rw[h15]
 refine Pt (k:=i+1) H 0 Z dV Z Z Z hc I Z fun A16 H=> ?_
 generalize hds:es.drop (i+1)=ds at H
 have hdl:es.length- (i+1)=ds.length:=by rw[<-hds];simp
 rw[hdl]
 refine G (br eH Z)<|G (Yi Z)<|U<|Zb ?_
 refine cD (τ:=Nat) [4,6,18,19,20,21,22,23,24,25,26,27,28,29,30,31,32,33,34,35,36,37,38] (fun k=>[(18,J (k:Nat))]) (fun k w'=>k<=ds.length/\yj ds x.pid=yj (ds.drop k) x.pid/\Hp w w' [] [dU gV 0 w.heap.size A16 ds,dU gV 0 w.heap.size A es]) (fun k=>ds.length-k) 0 ⟨by omega,rfl,H⟩ (dP Z) ?_
 rintro k ρ1 w2 ⟨hk,hkp,H⟩
 show CW _ _ _ _ (dH (gZ _ _ ρ1) [(18,J (k:Nat))]) w2
 refine W<|Zr ?_
 refine cW (cK Z Z) Z Z Z (fun h19=> ?_) (fun h19=> ?_)
 refine U<|W<|ZT Z<|Zk<|W<|Zb<|W<|Zr<|qB H 0 Z dV Z Z I I Z fun b3 o3 x3 e3=>G (j7 (xs:=cz.c x3) dG Z Z e3.cl)<|eP H gu Z fun w4 b6 H=>Lx H 0 eW Z Z Z Z Z Z fun w5 H=>U<|W ?_
 refine bA cd [0,1,2,3,4,5,6,7,8,9,10,11,12] [] [] [0,2,3,4,6,7,8,9,11,12] (sp []) N N N N Nq (cI _) ?_
 refine aw Z Z Z Z Z (fun w' hw'=>Zf ff Z)<|aw Z Z Z Z Z (fun w' hw'=>aW ak Z (aB ((H.later hw').ent (i:=0) Z) Z)) ?_
 refine P9 Z Z Z Z Z (fun w' hw'=>jh Z Z) (fun h24=> ?_) (fun h24=> ?_)
 refine aw Z Z Z Z Z (fun w' hw'=>Yb Z)<|aw Z Z Z Z Z (fun w' hw'=>Zf fp Z)<|aw Z Z Z Z Z (fun w' hw'=>aW ak Z (aB ((H.later hw').ent (i:=0) Z) Z))<|aw Z Z Z Z Z (fun w' hw'=>Ys Z)<|aw Z Z Z Z Z (fun w' hw'=>Yi Z)<|jO H 1 Z Z Z Z Z dV Z Z I I fun b6 o6 x6 e6=> ?_
 obtain rfl:x=x6:=by have:=e6.at_;rw[hi]at this;injection this
 refine aw Z Z Z Z Z (fun w' hw'=>Zf fp Z)<|aw Z Z Z Z Z (fun w' hw'=>aW ak Z (e6.later hw' 1 _ Z)) ?_
 refine B2 Z Z Z Z Z (fun w' hw'=>bn Z Z) (fun h33=> ?_) (fun h33=> ?_)
 refine aw Z Z Z Z Z (fun w' hw'=>Kt Z Z)<|aV ?_
 intro w7 hw' hF
 replace H:=H.later hw';clear hw' hF
 refine U<|ZT Z<|W<|Zr<|G (Zf ff Z)<|G (Zd ak H 0 Z Z Z)<|G (bn Z Z)<|G (Wb Z)<|U<|Zt ?_
 have hdk:=cP e3.at_
 have hx:yW es i x=decide (x3.kind=2):=by
  unfold yW;rw[h11,hds,hkp,hdk,tZ,if_pos ⟨h24,h33⟩];rfl
 exact cH (v:=.bool (decide (x3.kind=2))) Z Z ⟨by rw[hx],H.below⟩
 refine aw Z Z Z Z Z (fun w' hw'=>Kt Z Z)<|aV ?_
 intro w8 hw' hF
 replace H:=H.later hw';clear hw' hF
 refine U<|ZF Z<|Zk<|Zr<|G (bw Z Z I I)<|G (Yi Z)<|U ?_
 have hdk:=cP e3.at_
 rw[hdk,tZ]at hkp
 rw[if_neg (by rintro⟨a,b⟩;first|exact a h24|exact h33 b)]at hkp
 refine⟨k+1,⟨by omega,hkp,H.forget (by simp) (fun _ h=>h)⟩,dP Z,Qg,by show ds.length- (k+1)<ds.length-k;omega⟩
 refine aw Z Z Z Z Z (fun w' hw'=>Yb Z)<|eU Z Z Z Z<|eU Z Z Z Z<|eU Z Z Z Z<|eU Z Z Z Z<|eU Z Z Z Z<|eU Z Z Z Z<|eU Z Z Z Z<|eU Z Z Z Z<|aw Z Z Z Z Z (fun w' hw'=>N Z Z)<|aV ?_
 intro w9 hw' hF
 replace H:=H.later hw';clear hw' hF
 refine U<|ZF Z<|Zk<|Zr<|G (bw Z Z I I)<|G (Yi Z)<|U ?_
 have hdk:=cP e3.at_
 rw[hdk,tZ]at hkp
 rw[if_neg (by rintro⟨a,b⟩;first|exact a h24|exact h33 b)]at hkp
 refine⟨k+1,⟨by omega,hkp,H.forget (by simp) (fun _ h=>h)⟩,dP Z,Qg,by show ds.length- (k+1)<ds.length-k;omega⟩
 refine U<|W<|ZF Z<|Zx<|W<|Zr<|G (Wb Z)<|U<|Zt ?_
 have hx:yW es i x=false:=by
  unfold yW;rw[h11,hds,hkp,eo I];rfl
 exact cH (v:=.bool false) Z Z ⟨by rw[hx],H.below⟩
 refine G (dM Z)<|U<|ZT Z<|W<|Zr<|G (Wb Z)<|U<|Zt ?_
 have hx:yW es i x=true:=by simp[yW,h11]
 exact cH (v:=.bool true) Z Z ⟨by rw[hx],H.below⟩
theorem LV {S:List PB} {m:Nat} {k:Int} {v:Value} (h:(rh S)[m]? =some (k,v)): ∃ (b:Nat) (p:Prod),S[m]? =some (k,b,p)/\v=Cc b:=by
 unfold rh at h
 rw[aL]at h
 cases hs:S[m]? with
 |none=>rw[hs]at h;cases h
 |some q=>
  rw[hs]at h
  obtain⟨a,b,p⟩:=q
  simp at h
  exact⟨b,p,by rw[h.1],h.2.symm⟩
def DS (n:Nat) (seen:Array Nat):Nat:=((B4 n).filter fun m=>!seen.contains m).length
theorem CY {n m:Nat} {seen:Array Nat} (hm:m<n) (hs:seen.contains m=false):DS n (seen.push m)<DS n seen:=by
 unfold DS
 refine filter_lt _ _ (fun x hx=> ?_) m (by rw[hs];rfl) (by simp) _ (List.mem_range.2 hm)
 simp at hx⊢
 exact hx.1
theorem C6 (es:List cz) (A:Option Addr) (c n:Nat) (w:World) (hr:Rd gV 0 w.heap.size A es w) (hc:es.length<=c) (hb:es.length<=1000000) (hn:n<=es.length):
  dh aa Cj [.slice A es.length c,J (n:Nat)] w fun v w2=> ∃ m:Nat,t6 (es.take n) m/\v=.tuple #[J (m:Nat),J 0]/\Below w.heap.size w w2:=by
 refine aE Bo Z Z ?_
 have H:=Hp.startRd hr
 refine W<|Zr<|G (Wi Z)<|G (Wi Z)<|U<|W<|W<|Zr<|G (Yi Z)<|G (dd Z Z I)<|G (Yb Z)<|ZG<|G (Yi Z)<|ZG<|G (Ys Z)<|ZG<|G (br eH Z)<|ZG<|G (eB Z Z I)<|G (N Z Z)<|U<|ZF Z<|Zk<|W<|Zr<|G (Yi Z)<|G (Wi Z)<|U<|W<|W<|Zr<|G (Ys Z)<|G (Yi Z)<|sF (k:=n) H 0 Z dV Z Z hc I Z fun A20 H=> ?_
 obtain⟨ds,hds⟩: ∃ ds,es.take n=ds:=⟨_,rfl⟩
 have hdl:n=ds.length:=by rw[<-hds];simp;omega
 rw[hds]at H⊢
 subst hdl
 refine ch uo (Dc ds _ _ _ (H.rd0 0 Z) I) Z Z ?_
 rintro _ w1 ⟨S,bm,rfl,hS,hj⟩;replace H:=H.join hj;clear hj
 refine RP H 0 rV Z Z Z fun w2 it H=>U<|Zb ?_
 refine cD (τ:=Array Nat×Int) [6,8,23,24,25,26,27,28,29,30,31,32,33,34,35,36,37] (fun(seen,out)=>[(6,J out)]) (fun(seen,out) w'=>out<=ds.length/\(∀ m q,S[m]? =some q->seen.contains m=true->0<=q.2.2.open_->out<=q.2.2.open_)/\(out=ds.length∨ ∃ q∈S,0<=q.2.2.open_/\out=q.2.2.open_)/\Hp w w' ((it,.mapIter (some bm) (rh S).length seen (rh S).length)::(jA bm S++[])) [dU gV 0 w.heap.size A20 ds,dU gV 0 w.heap.size A es]) (fun(seen,_)=>DS S.length seen) (#[],(ds.length:Int)) ⟨by omega,by simp,.inl Z,H⟩ (dP Z) ?_
 rintro⟨seen,out⟩ ρ1 w3 ⟨ho1,ho2,ho3,H⟩
 show CW _ _ _ _ (dH (gZ _ _ ρ1) [(6,J out)]) w3
 refine W<|Zr ?_
 refine RS H 0 1 Z Z Z Z ?_ ?_
 intro hall
 refine G (Xb Z Z)<|U<|W<|ZF Z<|Zx<|W<|Zr<|G (Yi Z)<|G (Wi Z)<|G (Wi Z)<|U<|Zt ?_
 have hpl:(rh S).length=S.length:=by simp[rh]
 obtain⟨m,rfl,hst⟩:=Ka hS ho1 (fun q hq h0=>by obtain⟨m,hm⟩:=aT.1 hq;exact ho2 m q hm (hall m (by rw[hpl];exact(cC hm).1)) h0) ho3
 exact mr Z Z Z ⟨m,by first|exact hst|(rw[hds];exact hst),rfl,H.below⟩
 intro m k v w4 hm hsn H
 obtain⟨b,p,hmS,rfl⟩:=LV hm
 have hbk:=H.ent (i:=m+2) (b:=b) (o:=.cells p.c.toArray lV (0,0)) (by simp[jA,xZ,hmS])
 have hml:=(cC hmS).1
 refine G (Xb Z Z)<|U<|W<|ZT Z<|Zk<|Zb<|W<|Zr<|G (QC Z (H.ent (i:=0) Z) (H.ent (i:=1) Z) hm)<|G (QB Z Z)<|G (Wp Z)<|U<|W<|Zr<|G (Yp Z)<|G (aJ Z)<|G (Zf d7 Z)<|G (aW ak Z (aB hbk Z)) ?_
 refine cW (ko Z Z) Z Z Z (fun h31=> ?_) (fun h31=> ?_)
 refine U<|ZT Z<|Zr<|G (Yi Z)<|G (Yp Z)<|G (aJ Z)<|G (Zf d7 Z)<|G (aW ak Z (aB hbk Z))<|G (tR Z Z)<|G (Wi Z)<|U ?_
 refine⟨(seen.push m,min out p.open_),⟨by omega,fun m2 q hq hs h0=> ?_,?_,H⟩,dP Z,Qg,CY hml hsn⟩
 rw[Array.contains_push]at hs
 rcases Bool.or_eq_true_iff.1 hs with hs|hs
 have:=ho2 m2 q hq hs h0;omega
 have hmm:m2=m:=by simpa using hs
 subst hmm;rw[hmS]at hq;injection hq with hq;subst hq;try dsimp only at h0⊢
 omega
 by_cases hmin:out<=p.open_
 rw[Int.min_eq_left hmin];exact ho3
 exact .inr ⟨_,ab hmS,h31,by dsimp only;omega⟩
 refine U<|ZF Z<|Zk ?_
 refine⟨(seen.push m,out),⟨by omega,fun m2 q hq hs h0=> ?_,?_,H⟩,dP Z,Qg,CY hml hsn⟩
 rw[Array.contains_push]at hs
 rcases Bool.or_eq_true_iff.1 hs with hs|hs
 have:=ho2 m2 q hq hs h0;omega
 have hmm:m2=m:=by simpa using hs
 subst hmm;rw[hmS]at hq;injection hq with hq;subst hq;try dsimp only at h0⊢
 exfalso;exact h31 h0
 exact ho3
def wg (es:List cz) (m:Int) (x:cz):Bool:=match es[m.toNat]? with
 |some e=>decide (e.kind=x.kind)&&decide (e.ver=x.ver)
 |none=>false
def kU (x e:cz):Bool:=decide (e.kind=1)&&decide (e.pid=x.pid)&&decide (e.ver=x.ver)&&decide (e.seq=x.seq)
def mD (es:List cz) (x:cz) (p:Prod):Int×Int:=
 if x.ver<p.ver then(0,10)
 else if¬ x.kind=1 then(if p.open_<0/\0<=p.mark/\wg es p.mark x=true then(p.mark,0)else(-1,0))
 else if(if p.ver<x.ver then-1 else p.seq)+1<x.seq then(0,11)
 else if x.seq=(if p.ver<x.ver then-1 else p.seq)+1 then(-1,0)
 else match es.findIdx? (kU x)with
  |some i=>((i:Int),0)
  |none=>(0,11)
def fc (es:List cz) (x:cz):Int×Int:=if x.pid=0 then(-1,0)else mD es x ((fC es x.pid).getD ⟨x.ver,-1,-1,-1⟩)
def QM (w:World) (es:List cz):Sp:=⟨fun v w2=> ∃ S bm,v=.map (some bm)/\PS S es/\Hp w w2 (jA bm S) [],fun _ _ _ hb ⟨S,bm,h1,h2,h3⟩=>⟨S,bm,h1,h2,h3.later hb⟩⟩
def seqB (es:List cz):Prop:= ∀ e∈es,-1000000000000000<=e.seq/\e.seq<=1000000000000000
theorem FH {es:List cz} {x:cz} (hq:seqB es) {p:Prod} (hp:p=(fC es x.pid).getD ⟨x.ver,-1,-1,-1⟩):(p.mark= -1∨ ∃ (k:Nat) (y:cz),p.mark=k/\es[k]? =some y)/\ -1000000000000000<=p.seq/\p.seq<=1000000000000000:=by
 cases h:fC es x.pid with
 |none=>rw[h]at hp;subst hp;exact⟨.inl Z,by simp⟩
 |some q=>
  rw[h]at hp
  simp at hp
  subst hp
  have hi:=(jp es x.pid).1 p h
  refine⟨?_,?_⟩
  rcases hi.mark with h|⟨k,e,h1,h2,_⟩
  exact .inl h
  exact .inr ⟨k,e,h1,h2⟩
  rcases hi.seq with h|⟨e,he,_,_,h,_⟩
  omega
  have:=hq e he;omega
theorem GM {es:List cz} {x:cz} (h: ∀ j e,j<es.length->es[j]? =some e->kU x e=false):es.findIdx? (kU x)=none:=by
 rw[cV]
 intro e he
 obtain⟨j,hj⟩:=aT.1 he
 exact h j e (cC hj).1 hj
theorem BE {es:List cz} {x y:cz} {k:Nat} (hk:es[k]? =some y) (hy:kU x y=true) (h: ∀ j e,j<k->es[j]? =some e->kU x e=false):es.findIdx? (kU x)=some k:=by
 rw[aS]
 obtain⟨hl,rfl⟩:=cC hk
 exact⟨hl,hy,fun j hj=>by rw[h j _ hj (ah I)];simp⟩
theorem RX (S:List PB) (pid:Int) {w:World} {b:Nat} (hn:(S.map (·.1)).Nodup) (hb:w.heap[b]? =some (tS (rh S))): ∃ q:Option Addr,((q=none/\ ∀ r∈S,r.1≠pid)∨ ∃ (j c:Nat) (p:Prod),S[j]? =some (pid,c,p)/\q=some ⟨c,0,none⟩)/\ ∀ {ρ:gY} {dst:Option Nat} {x y:Operand} {t:TypeId} {p:String} {af:Array Edge} {g:Option (Nat×Bool)},ev ρ x=.map (some b)->ev ρ y=J pid->(execOp (ev ρ) (Og dst (.lookup Jk x y false) t p af g)).run aa w=.ok (.value (.pointer q)) w:=by
 rcases AM S pid with h|⟨j,c,p,h⟩
 exact⟨none,.inl ⟨rfl,h⟩,fun hx hy=>O7 rV qM hx hy hb (by intro q hq;obtain⟨a,ha,rfl⟩:=bp.1 hq;exact h a ha)⟩
 exact⟨some ⟨c,0,none⟩,.inr ⟨j,c,p,h,rfl⟩,fun hx hy=>O6 rV qM hx hy hb (by rw[uN];exact hn) (FJ h)⟩
theorem Jr (es:List cz) (A:Option Addr) (c:Nat) (x:cz) (w:World) (hr:Rd gV 0 w.heap.size A es w) (hb:es.length<=1000000) (hq:seqB es):
  dh aa Ep [.slice A es.length c,x.v] w fun v w2=>v=.tuple #[J (fc es x).1,J (fc es x).2]/\Below w.heap.size w w2:=by
 refine aE Cq Z Z ?_
 have H:=Hp.startRd hr
 refine W<|Zr<|f7 H Z Z fun w1 b3 H=>G (Wi Z)<|G (Wi Z)<|U<|W<|W<|Zr<|G (Zf fp Z)<|G (Zd ak H 0 Z Z Z) ?_
 refine cW (bn Z Z) Z Z Z (fun h11=> ?_) (fun h11=> ?_)
 refine U<|ZT Z<|W<|Zr<|G (Wi Z)<|G (Wi Z)<|U<|Zt ?_
 have hv:fc es x=(-1,0):=by unfold fc;rw[if_pos h11]
 exact mr (v:=J (-1)) (v2:=J 0) Z Z Z ⟨by rw[hv],H.below⟩
 refine U<|ZF Z<|Zk<|W ?_
 refine bA cd [0,2,3,1] [4,5] [1] [0,2] (sp [(1,QM w1 es)]) N N N N Nq (cI _) ?_
 refine aw Z Z Z Z Z (fun w' hw'=>Ys Z)<|aw Z Z Z Z Z (fun w' hw'=>Zf fp Z)<|aw Z Z Z Z Z (fun w' hw'=>aW ak Z (aB ((H.later hw').ent (i:=0) Z) Z)) ?_
 refine zd uo Z Z Z Z (fun w' hw'=>(Dc es _ _ w' ((H.later hw').rd0 0 Z) hb).mono (fun v w2 ⟨S,bm,h1,h2,h3⟩=>⟨h3.below,S,bm,h1,h2,Hp.base hw' h3⟩)) Z ?_;rintro v13-
 refine aV ?_
 intro w2 hw' hF
 obtain⟨-,S,bm,rfl,hS,hj⟩:=hF
 replace H:=H.join hj;clear hj hw'
 have hb3:=H.ent (i:=S.length+1) (b:=b3) (o:=.cells (cz.c x).toArray dw (0,0)) (by simp[jA])
 obtain⟨P16,hP16,hx16⟩:=RX S x.pid hS.1 (H.ent (i:=0) Z)
 refine G (hx16 Z Z)<|G (Wp Z)<|U<|W ?_
 refine eN (τ:=Nat×Int×Int×Int×Int×List (Nat×Obj)) [6,17,18,19,20,21,22] (fun(b,_,_,_,_,_)=>[(6,Cc b)]) (fun(b,pv_,ps,po,pm,K) w'=>(⟨pv_,ps,po,pm⟩:Prod)=(fC es x.pid).getD ⟨x.ver,-1,-1,-1⟩/\Hp w w' ((b,.cells #[J pv_,J ps,J po,J pm] lV (0,0))::(b3,.cells (cz.c x).toArray dw (0,0))::K) [dU gV 0 w.heap.size A es]) ?_ ?_
 refine W<|Zr ?_
 rcases hP16 with⟨rfl,hno⟩|⟨j,b,p,hj,rfl⟩
 refine G (Yp Z)<|G (xY n9 Z)<|U<|ZT Z<|Zr<|G (Zf eJ Z)<|G (aW ak Z (aB hb3 Z))<|G (bg (cs:= #[J x.ver,J (-1),J (-1),J (-1)]) yJ zW N)<|f7 H Z Z fun w3 b22 H=>G (Wp Z)<|U ?_
 refine⟨(b22,x.ver,-1,-1,-1,jA bm S),⟨by rw[<-hS.2,Di hno];rfl,H.perm ((mi _ _).symm.cons _)⟩,dP Z,Qg⟩
 refine G (Yp Z)<|G (v9 n9 Z)<|U<|ZF Z<|Zk ?_
 have hP:=FT hj
 refine⟨(b,p.ver,p.seq,p.open_,p.mark,(bm,tS (rh S))::(S.eraseIdx j).map xZ),⟨by rw[<-hS.2,uU hS.1 hj];rfl,H.perm ?_⟩,dP Z,Qg⟩
 exact(qz (l₁:=[_,_])).symm.trans (((hP.cons _).cons _).trans (mi _ _).symm)
 rintro⟨b,pv_,ps,po,pm,K⟩ ρ2 w4 ⟨hp,H⟩
 show CW _ _ _ _ (dH (gZ _ _ ρ2) [(6,Cc b)]) w4
 obtain⟨hmark,hsq1,hsq2⟩:=FH hq hp
 dsimp only at hsq1 hsq2
 refine W<|Zb<|W ?_
 refine bA cd [0,1,2,3,4,5,6,7] [] [] [0,2,3,4,6,7] (sp []) N N N N Nq (cI _) ?_
 refine aw Z Z Z Z Z (fun w' hw'=>Zf eJ Z)<|aw Z Z Z Z Z (fun w' hw'=>aW ak Z (aB ((H.later hw').ent (i:=1) Z) Z))<|aw Z Z Z Z Z (fun w' hw'=>Yp Z)<|aw Z Z Z Z Z (fun w' hw'=>aJ Z)<|aw Z Z Z Z Z (fun w' hw'=>Zf jT Z)<|aw Z Z Z Z Z (fun w' hw'=>aW ak Z (aB ((H.later hw').ent (i:=0) Z) Z)) ?_
 refine B2 Z Z Z Z Z (fun w' hw'=>cK Z Z) (fun h30=> ?_) (fun h30=> ?_)
 refine aw Z Z Z Z Z (fun w' hw'=>Wb Z)<|aV ?_
 intro w5 hw' hF
 replace H:=H.later hw';clear hw' hF
 refine U<|ZT Z<|W<|Zr<|G (Wi Z)<|G (Wi Z)<|U<|Zt ?_
 have hv:fc es x=(0,10):=by
  unfold fc;rw[if_neg h11,<-hp];unfold mD;simp[h30]
 exact mr (v:=J (0)) (v2:=J 10) Z Z Z ⟨by rw[hv],H.below⟩
 refine aw Z Z Z Z Z (fun w' hw'=>Wb Z)<|aV ?_
 intro w6 hw' hF
 replace H:=H.later hw';clear hw' hF
 refine U<|ZF Z<|W<|Zr<|G (Zf ff Z)<|G (Zd ak H 1 Z Z Z) ?_
 refine ro (jh Z Z) Z Z Z (fun h34=> ?_) (fun h34=> ?_)
 refine G (Wb Z)<|U<|ZT Z<|W<|W ?_
 refine bA cd [0,1,2,3,4,5,6,7,8,9,10,11,12,13,14,15,16,17,18,19,20,21,22,23,24,25,26,27,28,29,30,31,32,33,34,35,36,37] [] [] [0,1,2,4,5,6,7,8,10,11,12,13,14,15,16,18,19,21,23,24,25,26,27,28,29,31,32,34,36,37] (sp []) N N N N Nq (cI _) ?_
 refine aw Z Z Z Z Z (fun w' hw'=>Yp Z)<|aw Z Z Z Z Z (fun w' hw'=>aJ Z)<|aw Z Z Z Z Z (fun w' hw'=>Zf d7 Z)<|aw Z Z Z Z Z (fun w' hw'=>aW ak Z (aB ((H.later hw').ent (i:=0) Z) Z)) ?_
 refine B2 Z Z Z Z Z (fun w' hw'=>cK Z Z) (fun h39=> ?_) (fun h39=> ?_)
 refine aw Z Z Z Z Z (fun w' hw'=>Yb Z)<|aw Z Z Z Z Z (fun w' hw'=>Yp Z)<|aw Z Z Z Z Z (fun w' hw'=>aJ Z)<|aw Z Z Z Z Z (fun w' hw'=>Zf ip Z)<|aw Z Z Z Z Z (fun w' hw'=>aW ak Z (aB ((H.later hw').ent (i:=0) Z) Z)) ?_
 refine B2 Z Z Z Z Z (fun w' hw'=>ko Z Z) (fun h45=> ?_) (fun h45=> ?_)
 rcases hmark with hm1|⟨k,y,hmk,hyk⟩
 exfalso;dsimp only at hm1 h45;omega
 dsimp only at hmk
 subst hmk
 have hkl:=(cC hyk).1
 refine aw Z Z Z Z Z (fun w' hw'=>Kt Z Z)<|aw Z Z Z Z Z (fun w' hw'=>Yb Z)<|aw Z Z Z Z Z (fun w' hw'=>Ys Z)<|aw Z Z Z Z Z (fun w' hw'=>Yp Z)<|aw Z Z Z Z Z (fun w' hw'=>aJ Z)<|aw Z Z Z Z Z (fun w' hw'=>Zf ip Z)<|aw Z Z Z Z Z (fun w' hw'=>aW ak Z (aB ((H.later hw').ent (i:=0) Z) Z))<|jO H 0 Z Z Z Z Z dV Z Z I I fun b7 o7 x7 e7=> ?_
 obtain rfl:y=x7:=by have:=e7.at_;rw[hyk]at this;injection this
 refine aw Z Z Z Z Z (fun w' hw'=>Zf ff Z)<|aw Z Z Z Z Z (fun w' hw'=>aW ak Z (e7.later hw' 4 _ Z))<|aw Z Z Z Z Z (fun w' hw'=>Zf ff Z)<|aw Z Z Z Z Z (fun w' hw'=>aW ak Z (aB ((H.later hw').ent (i:=1) Z) Z)) ?_
 refine B2 Z Z Z Z Z (fun w' hw'=>bn Z Z) (fun h58=> ?_) (fun h58=> ?_)
 refine aw Z Z Z Z Z (fun w' hw'=>Kt Z Z)<|aw Z Z Z Z Z (fun w' hw'=>Yb Z)<|aw Z Z Z Z Z (fun w' hw'=>Ys Z)<|aw Z Z Z Z Z (fun w' hw'=>Yp Z)<|aw Z Z Z Z Z (fun w' hw'=>aJ Z)<|aw Z Z Z Z Z (fun w' hw'=>Zf ip Z)<|aw Z Z Z Z Z (fun w' hw'=>aW ak Z (aB ((H.later hw').ent (i:=0) Z) Z))<|jO H 0 Z Z Z Z Z dV Z Z I I fun b8 o8 x8 e8=> ?_
 obtain rfl:y=x8:=by have:=e8.at_;rw[hyk]at this;injection this
 refine aw Z Z Z Z Z (fun w' hw'=>Zf eJ Z)<|aw Z Z Z Z Z (fun w' hw'=>aW ak Z (e8.later hw' 2 _ Z))<|aw Z Z Z Z Z (fun w' hw'=>Zf eJ Z)<|aw Z Z Z Z Z (fun w' hw'=>aW ak Z (aB ((H.later hw').ent (i:=1) Z) Z)) ?_
 refine B2 Z Z Z Z Z (fun w' hw'=>bn Z Z) (fun h71=> ?_) (fun h71=> ?_)
 refine aw Z Z Z Z Z (fun w' hw'=>Kt Z Z)<|aV ?_
 intro w9 hw' hF
 replace H:=H.later hw';clear hw' hF
 refine U<|ZT Z<|W<|Zr<|G (Yp Z)<|G (aJ Z)<|G (Zf ip Z)<|G (Zd ak H 0 Z Z Z)<|G (Wi Z)<|G (Wi Z)<|U<|Zt ?_
 have hmk:wg es (k:Nat) x=true:=by
  unfold wg;rw[show((k:Nat):Int).toNat=k from rfl,hyk];simp[h58,h71]
 have hv:fc es x=((k:Int),0):=by
  unfold fc;rw[if_neg h11,<-hp];unfold mD;simp[h30,h34,h39,h45,h58,h71,hmk]
 exact mr (v:=J ((k:Int))) (v2:=J 0) Z Z Z ⟨by rw[hv],H.below⟩
 refine aw Z Z Z Z Z (fun w' hw'=>Kt Z Z)<|aV ?_
 intro w10 hw' hF
 replace H:=H.later hw';clear hw' hF
 refine U<|ZF Z<|Zk<|W<|Zr<|G (Wi Z)<|G (Wi Z)<|U<|Zt ?_
 have hmk:wg es (k:Nat) x=false:=by
  unfold wg;rw[show((k:Nat):Int).toNat=k from rfl,hyk];simp[h58,h71]
 have hv:fc es x=(-1,0):=by
  unfold fc;rw[if_neg h11,<-hp];unfold mD;simp[h30,h34,h39,h45,h58,h71,hmk]
 exact mr (v:=J (-1)) (v2:=J 0) Z Z Z ⟨by rw[hv],H.below⟩
 refine aw Z Z Z Z Z (fun w' hw'=>Kt Z Z)<|aw Z Z Z Z Z (fun w' hw'=>Yb Z)<|eU Z Z Z Z<|eU Z Z Z Z<|eU Z Z Z Z<|eU Z Z Z Z<|eU Z Z Z Z<|eU Z Z Z Z<|eU Z Z Z Z<|eU Z Z Z Z<|eU Z Z Z Z<|eU Z Z Z Z<|eU Z Z Z Z<|aw Z Z Z Z Z (fun w' hw'=>N Z Z)<|aV ?_
 intro w11 hw' hF
 replace H:=H.later hw';clear hw' hF
 refine U<|ZF Z<|Zk<|W<|Zr<|G (Wi Z)<|G (Wi Z)<|U<|Zt ?_
 have hmk:wg es (k:Nat) x=false:=by
  unfold wg;rw[show((k:Nat):Int).toNat=k from rfl,hyk];simp[h58]
 have hv:fc es x=(-1,0):=by
  unfold fc;rw[if_neg h11,<-hp];unfold mD;simp[h30,h34,h39,h45,h58,hmk]
 exact mr (v:=J (-1)) (v2:=J 0) Z Z Z ⟨by rw[hv],H.below⟩
 refine aw Z Z Z Z Z (fun w' hw'=>Kt Z Z)<|aw Z Z Z Z Z (fun w' hw'=>Yb Z)<|eU Z Z Z Z<|eU Z Z Z Z<|eU Z Z Z Z<|eU Z Z Z Z<|eU Z Z Z Z<|eU Z Z Z Z<|eU Z Z Z Z<|eU Z Z Z Z<|eU Z Z Z Z<|eU Z Z Z Z<|eU Z Z Z Z<|aw Z Z Z Z Z (fun w' hw'=>N Z Z)<|aw Z Z Z Z Z (fun w' hw'=>Yb Z)<|eU Z Z Z Z<|eU Z Z Z Z<|eU Z Z Z Z<|eU Z Z Z Z<|eU Z Z Z Z<|eU Z Z Z Z<|eU Z Z Z Z<|eU Z Z Z Z<|eU Z Z Z Z<|eU Z Z Z Z<|eU Z Z Z Z<|aw Z Z Z Z Z (fun w' hw'=>N Z Z)<|aV ?_
 intro w12 hw' hF
 replace H:=H.later hw';clear hw' hF
 refine U<|ZF Z<|Zk<|W<|Zr<|G (Wi Z)<|G (Wi Z)<|U<|Zt ?_
 have hv:fc es x=(-1,0):=by
  unfold fc;rw[if_neg h11,<-hp];unfold mD;simp[h30,h34,h39,h45]
 exact mr (v:=J (-1)) (v2:=J 0) Z Z Z ⟨by rw[hv],H.below⟩
 refine aw Z Z Z Z Z (fun w' hw'=>Yb Z)<|eU Z Z Z Z<|eU Z Z Z Z<|eU Z Z Z Z<|eU Z Z Z Z<|eU Z Z Z Z<|aw Z Z Z Z Z (fun w' hw'=>N Z Z)<|aw Z Z Z Z Z (fun w' hw'=>Yb Z)<|eU Z Z Z Z<|eU Z Z Z Z<|eU Z Z Z Z<|eU Z Z Z Z<|eU Z Z Z Z<|eU Z Z Z Z<|eU Z Z Z Z<|eU Z Z Z Z<|eU Z Z Z Z<|eU Z Z Z Z<|eU Z Z Z Z<|aw Z Z Z Z Z (fun w' hw'=>N Z Z)<|aw Z Z Z Z Z (fun w' hw'=>Yb Z)<|eU Z Z Z Z<|eU Z Z Z Z<|eU Z Z Z Z<|eU Z Z Z Z<|eU Z Z Z Z<|eU Z Z Z Z<|eU Z Z Z Z<|eU Z Z Z Z<|eU Z Z Z Z<|eU Z Z Z Z<|eU Z Z Z Z<|aw Z Z Z Z Z (fun w' hw'=>N Z Z)<|aV ?_
 intro w13 hw' hF
 replace H:=H.later hw';clear hw' hF
 refine U<|ZF Z<|Zk<|W<|Zr<|G (Wi Z)<|G (Wi Z)<|U<|Zt ?_
 have hv:fc es x=(-1,0):=by
  unfold fc;rw[if_neg h11,<-hp];unfold mD;simp[h30,h34,h39]
 exact mr (v:=J (-1)) (v2:=J 0) Z Z Z ⟨by rw[hv],H.below⟩
 refine G (Wb Z)<|U<|ZF Z<|W ?_
 refine bA cd [0,1,2,3,4,5,6,7] [] [] [0,2,3,4,6,7] (sp []) N N N N Nq (cI _) ?_
 refine aw Z Z Z Z Z (fun w' hw'=>Zf eJ Z)<|aw Z Z Z Z Z (fun w' hw'=>aW ak Z (aB ((H.later hw').ent (i:=1) Z) Z))<|aw Z Z Z Z Z (fun w' hw'=>Yp Z)<|aw Z Z Z Z Z (fun w' hw'=>aJ Z)<|aw Z Z Z Z Z (fun w' hw'=>Zf jT Z)<|aw Z Z Z Z Z (fun w' hw'=>aW ak Z (aB ((H.later hw').ent (i:=0) Z) Z)) ?_
 refine B2 Z Z Z Z Z (fun w' hw'=>km Z Z) (fun h84=> ?_) (fun h84=> ?_)
 refine aw Z Z Z Z Z (fun w' hw'=>Wb Z)<|aV ?_
 intro w14 hw' hF
 replace H:=H.later hw';clear hw' hF
 refine U<|ZT Z<|Zr<|G (Yp Z)<|G (aJ Z)<|G (Zf fu Z)<|bo H 0 (#[J pv_,J (-1),J po,J pm]) bH Z Z Z Z Z N N fun w15 H=>U<|W<|W ?_
 refine bA cd [0,1,2,3,4,5,6,7] [] [] [0,2,3,4,6,7] (sp []) N N N N Nq (cI _) ?_
 refine aw Z Z Z Z Z (fun w' hw'=>Zf fg Z)<|aw Z Z Z Z Z (fun w' hw'=>aW ak Z (aB ((H.later hw').ent (i:=1) Z) Z))<|aw Z Z Z Z Z (fun w' hw'=>Yp Z)<|aw Z Z Z Z Z (fun w' hw'=>aJ Z)<|aw Z Z Z Z Z (fun w' hw'=>Zf fu Z)<|aw Z Z Z Z Z (fun w' hw'=>aW ak Z (aB ((H.later hw').ent (i:=0) Z) Z))<|aw Z Z Z Z Z (fun w' hw'=>bw Z Z I I) ?_
 refine B2 Z Z Z Z Z (fun w' hw'=>km Z Z) (fun h95=> ?_) (fun h95=> ?_)
 refine aV ?_
 intro w16 hw' hF
 replace H:=H.later hw';clear hw' hF
 refine U<|ZT Z<|W<|Zr<|G (Wi Z)<|G (Wi Z)<|U<|Zt ?_
 replace h95:0<x.seq:=by omega
 have hv:fc es x=(0,11):=by
  unfold fc;rw[if_neg h11,<-hp];unfold mD;simp[h30,h34,h84,h95]
 exact mr (v:=J (0)) (v2:=J 11) Z Z Z ⟨by rw[hv],H.below⟩
 refine aV ?_
 intro w17 hw' hF
 replace H:=H.later hw';clear hw' hF
 refine U<|ZF Z<|Zk<|W<|W ?_
 refine bA cd [0,1,2,3,4,5,6,7] [] [] [0,2,3,4,6,7] (sp []) N N N N Nq (cI _) ?_
 refine aw Z Z Z Z Z (fun w' hw'=>Zf fg Z)<|aw Z Z Z Z Z (fun w' hw'=>aW ak Z (aB ((H.later hw').ent (i:=1) Z) Z))<|aw Z Z Z Z Z (fun w' hw'=>Yp Z)<|aw Z Z Z Z Z (fun w' hw'=>aJ Z)<|aw Z Z Z Z Z (fun w' hw'=>Zf fu Z)<|aw Z Z Z Z Z (fun w' hw'=>aW ak Z (aB ((H.later hw').ent (i:=0) Z) Z))<|aw Z Z Z Z Z (fun w' hw'=>bw Z Z I I) ?_
 refine B2 Z Z Z Z Z (fun w' hw'=>bn Z Z) (fun h103=> ?_) (fun h103=> ?_)
 refine aV ?_
 intro w18 hw' hF
 replace H:=H.later hw';clear hw' hF
 refine U<|ZT Z<|W<|Zr<|G (Wi Z)<|G (Wi Z)<|U<|Zt ?_
 replace h95: ¬ 0<x.seq:=by omega
 replace h103:x.seq=0:=by omega
 have hv:fc es x=(-1,0):=by
  unfold fc;rw[if_neg h11,<-hp];unfold mD;simp[h30,h34,h84,h95,h103]
 exact mr (v:=J (-1)) (v2:=J 0) Z Z Z ⟨by rw[hv],H.below⟩
 refine aV ?_
 intro w19 hw' hF
 replace H:=H.later hw';clear hw' hF
 refine U<|ZF Z<|Zk<|W<|W<|Zr<|G (Ys Z)<|G (br eH Z)<|G (Yi Z)<|U<|Zb ?_
 refine cD (τ:=Nat) [4,5,7,8,106,107,108,109,110,111,112,113,114,115,116,117,118,119,120,121,122,123,124,125,126,127,128,129,130,131,132,133,134,135,136] (fun i=>[(106,J (i:Nat))]) (fun i w'=>i<=es.length/\(∀ j e,j<i->es[j]? =some e->kU x e=false)/\Hp w w' ((b,.cells #[J pv_,J (-1),J po,J pm] lV (0,0))::(b3,.cells (cz.c x).toArray dw (0,0))::K) [dU gV 0 w.heap.size A es]) (fun i=>es.length-i) 0 ⟨by omega,by intro j e hj;omega,H⟩ (dP Z) ?_
 rintro i ρ3 w20 ⟨hi,hno,H⟩
 show CW _ _ _ _ (dH (gZ _ _ ρ3) [(106,J (i:Nat))]) w20
 refine W<|Zr ?_
 refine cW (cK Z Z) Z Z Z (fun h107=> ?_) (fun h107=> ?_)
 refine U<|W<|ZT Z<|Zk<|W<|Zb<|W<|Zr<|G (Yi Z)<|qB H 0 Z dV Z Z I I Z fun b21 o21 x21 e21=>G (j7 (xs:=cz.c x21) dG Z Z e21.cl)<|eP H gu Z fun w22 b8 H=>G (Wi Z)<|Lx H 0 eW Z Z Z Z Z Z fun w23 H=>U<|W<|Zr<|G (Zf ff Z)<|G (Zd ak H 0 Z Z Z) ?_
 refine cW (bn Z Z) Z Z Z (fun h113=> ?_) (fun h113=> ?_)
 refine G (Yb Z)<|ZG<|G (Zf fp Z)<|ZG<|G (Zd ak H 0 Z Z Z)<|ZG<|G (Zf fp Z)<|ZG<|G (Zd ak H 2 Z Z Z)<|ZG ?_
 refine cW (bn Z Z) Z Z Z (fun h119=> ?_) (fun h119=> ?_)
 refine G (Kt Z Z)<|G (Yb Z)<|ZG<|G (Zf eJ Z)<|ZG<|G (Zd ak H 0 Z Z Z)<|ZG<|G (Zf eJ Z)<|ZG<|G (Zd ak H 2 Z Z Z)<|ZG ?_
 refine cW (bn Z Z) Z Z Z (fun h126=> ?_) (fun h126=> ?_)
 refine G (Kt Z Z)<|G (Yb Z)<|ZG<|G (Zf fg Z)<|ZG<|G (Zd ak H 0 Z Z Z)<|ZG<|G (Zf fg Z)<|ZG<|G (Zd ak H 2 Z Z Z)<|ZG ?_
 refine cW (bn Z Z) Z Z Z (fun h133=> ?_) (fun h133=> ?_)
 refine G (Kt Z Z)<|U<|ZT Z<|W<|Zr<|G (Yi Z)<|G (Wi Z)<|G (Wi Z)<|U<|Zt ?_
 replace h95: ¬ 0<x.seq:=by omega
 replace h103: ¬ x.seq=0:=by omega
 have hdup:=BE e21.at_ (by simp[kU,h113,h119,h126,h133]) hno
 have hv:fc es x=((i:Int),0):=by
  unfold fc;rw[if_neg h11,<-hp];unfold mD;simp[h30,h34,h84,h95,h103,hdup]
 exact mr (v:=J ((i:Int))) (v2:=J 0) Z Z Z ⟨by rw[hv],H.below⟩
 refine G (Kt Z Z)<|U<|ZF Z<|Zk<|Zr<|G (bw Z Z I I)<|G (Yi Z)<|U ?_
 refine⟨i+1,⟨by omega,fun j e hj he=> ?_,H.forget (aY _ _) (fun _ h=>h)⟩,dP Z,Qg,by show es.length- (i+1)<es.length-i;omega⟩
 by_cases hji:j<i
 exact hno j e hji he
 have:j=i:=by omega
 subst this;have he2:=e21.at_;rw[he]at he2;injection he2 with he2;subst he2
 simp[kU,h113,h119,h126,h133]
 refine G (Kt Z Z)<|G (Yb Z)<|ZN<|ZN<|ZN<|ZN<|ZN<|G (N Z Z)<|U<|ZF Z<|Zk<|Zr<|G (bw Z Z I I)<|G (Yi Z)<|U ?_
 refine⟨i+1,⟨by omega,fun j e hj he=> ?_,H.forget (aY _ _) (fun _ h=>h)⟩,dP Z,Qg,by show es.length- (i+1)<es.length-i;omega⟩
 by_cases hji:j<i
 exact hno j e hji he
 have:j=i:=by omega
 subst this;have he2:=e21.at_;rw[he]at he2;injection he2 with he2;subst he2
 simp[kU,h113,h119,h126]
 refine G (Kt Z Z)<|G (Yb Z)<|ZN<|ZN<|ZN<|ZN<|ZN<|G (N Z Z)<|G (Yb Z)<|ZN<|ZN<|ZN<|ZN<|ZN<|G (N Z Z)<|U<|ZF Z<|Zk<|Zr<|G (bw Z Z I I)<|G (Yi Z)<|U ?_
 refine⟨i+1,⟨by omega,fun j e hj he=> ?_,H.forget (aY _ _) (fun _ h=>h)⟩,dP Z,Qg,by show es.length- (i+1)<es.length-i;omega⟩
 by_cases hji:j<i
 exact hno j e hji he
 have:j=i:=by omega
 subst this;have he2:=e21.at_;rw[he]at he2;injection he2 with he2;subst he2
 simp[kU,h113,h119]
 refine G (Yb Z)<|ZN<|ZN<|ZN<|ZN<|ZN<|G (N Z Z)<|G (Yb Z)<|ZN<|ZN<|ZN<|ZN<|ZN<|G (N Z Z)<|G (Yb Z)<|ZN<|ZN<|ZN<|ZN<|ZN<|G (N Z Z)<|U<|ZF Z<|Zk<|Zr<|G (bw Z Z I I)<|G (Yi Z)<|U ?_
 refine⟨i+1,⟨by omega,fun j e hj he=> ?_,H.forget (aY _ _) (fun _ h=>h)⟩,dP Z,Qg,by show es.length- (i+1)<es.length-i;omega⟩
 by_cases hji:j<i
 exact hno j e hji he
 have:j=i:=by omega
 subst this;have he2:=e21.at_;rw[he]at he2;injection he2 with he2;subst he2
 simp[kU,h113]
 refine U<|W<|ZF Z<|Zx<|W<|Zr<|G (Wi Z)<|G (Wi Z)<|U<|Zt ?_
 replace h95: ¬ 0<x.seq:=by omega
 replace h103: ¬ x.seq=0:=by omega
 have hdup:=GM (x:=x) (es:=es) (fun j e hj he=>hno j e I he)
 have hv:fc es x=(0,11):=by
  unfold fc;rw[if_neg h11,<-hp];unfold mD;simp[h30,h34,h84,h95,h103,hdup]
 exact mr (v:=J (0)) (v2:=J 11) Z Z Z ⟨by rw[hv],H.below⟩
 refine aw Z Z Z Z Z (fun w' hw'=>Wb Z)<|aV ?_
 intro w24 hw' hF
 replace H:=H.later hw';clear hw' hF
 refine U<|ZF Z<|Zk<|W<|W ?_
 refine bA cd [0,1,2,3,4,5,6,7] [] [] [0,2,3,4,6,7] (sp []) N N N N Nq (cI _) ?_
 refine aw Z Z Z Z Z (fun w' hw'=>Zf fg Z)<|aw Z Z Z Z Z (fun w' hw'=>aW ak Z (aB ((H.later hw').ent (i:=1) Z) Z))<|aw Z Z Z Z Z (fun w' hw'=>Yp Z)<|aw Z Z Z Z Z (fun w' hw'=>aJ Z)<|aw Z Z Z Z Z (fun w' hw'=>Zf fu Z)<|aw Z Z Z Z Z (fun w' hw'=>aW ak Z (aB ((H.later hw').ent (i:=0) Z) Z))<|aw Z Z Z Z Z (fun w' hw'=>bw Z Z I I) ?_
 refine B2 Z Z Z Z Z (fun w' hw'=>km Z Z) (fun h95=> ?_) (fun h95=> ?_)
 refine aV ?_
 intro w25 hw' hF
 replace H:=H.later hw';clear hw' hF
 refine U<|ZT Z<|W<|Zr<|G (Wi Z)<|G (Wi Z)<|U<|Zt ?_
 have hv:fc es x=(0,11):=by
  unfold fc;rw[if_neg h11,<-hp];unfold mD;simp[h30,h34,h84,h95]
 exact mr (v:=J (0)) (v2:=J 11) Z Z Z ⟨by rw[hv],H.below⟩
 refine aV ?_
 intro w26 hw' hF
 replace H:=H.later hw';clear hw' hF
 refine U<|ZF Z<|Zk<|W<|W ?_
 refine bA cd [0,1,2,3,4,5,6,7] [] [] [0,2,3,4,6,7] (sp []) N N N N Nq (cI _) ?_
 refine aw Z Z Z Z Z (fun w' hw'=>Zf fg Z)<|aw Z Z Z Z Z (fun w' hw'=>aW ak Z (aB ((H.later hw').ent (i:=1) Z) Z))<|aw Z Z Z Z Z (fun w' hw'=>Yp Z)<|aw Z Z Z Z Z (fun w' hw'=>aJ Z)<|aw Z Z Z Z Z (fun w' hw'=>Zf fu Z)<|aw Z Z Z Z Z (fun w' hw'=>aW ak Z (aB ((H.later hw').ent (i:=0) Z) Z))<|aw Z Z Z Z Z (fun w' hw'=>bw Z Z I I) ?_
 refine B2 Z Z Z Z Z (fun w' hw'=>bn Z Z) (fun h103=> ?_) (fun h103=> ?_)
 refine aV ?_
 intro w27 hw' hF
 replace H:=H.later hw';clear hw' hF
 refine U<|ZT Z<|W<|Zr<|G (Wi Z)<|G (Wi Z)<|U<|Zt ?_
 have hv:fc es x=(-1,0):=by
  unfold fc;rw[if_neg h11,<-hp];unfold mD;simp[h30,h34,h84,h95,h103]
 exact mr (v:=J (-1)) (v2:=J 0) Z Z Z ⟨by rw[hv],H.below⟩
 refine aV ?_
 intro w28 hw' hF
 replace H:=H.later hw';clear hw' hF
 refine U<|ZF Z<|Zk<|W<|W<|Zr<|G (Ys Z)<|G (br eH Z)<|G (Yi Z)<|U<|Zb ?_
 refine cD (τ:=Nat) [4,5,7,8,106,107,108,109,110,111,112,113,114,115,116,117,118,119,120,121,122,123,124,125,126,127,128,129,130,131,132,133,134,135,136] (fun i=>[(106,J (i:Nat))]) (fun i w'=>i<=es.length/\(∀ j e,j<i->es[j]? =some e->kU x e=false)/\Hp w w' ((b,.cells #[J pv_,J ps,J po,J pm] lV (0,0))::(b3,.cells (cz.c x).toArray dw (0,0))::K) [dU gV 0 w.heap.size A es]) (fun i=>es.length-i) 0 ⟨by omega,by intro j e hj;omega,H⟩ (dP Z) ?_
 rintro i ρ3 w29 ⟨hi,hno,H⟩
 show CW _ _ _ _ (dH (gZ _ _ ρ3) [(106,J (i:Nat))]) w29
 refine W<|Zr ?_
 refine cW (cK Z Z) Z Z Z (fun h107=> ?_) (fun h107=> ?_)
 refine U<|W<|ZT Z<|Zk<|W<|Zb<|W<|Zr<|G (Yi Z)<|qB H 0 Z dV Z Z I I Z fun b30 o30 x30 e30=>G (j7 (xs:=cz.c x30) dG Z Z e30.cl)<|eP H gu Z fun w31 b8 H=>G (Wi Z)<|Lx H 0 eW Z Z Z Z Z Z fun w32 H=>U<|W<|Zr<|G (Zf ff Z)<|G (Zd ak H 0 Z Z Z) ?_
 refine cW (bn Z Z) Z Z Z (fun h113=> ?_) (fun h113=> ?_)
 refine G (Yb Z)<|ZG<|G (Zf fp Z)<|ZG<|G (Zd ak H 0 Z Z Z)<|ZG<|G (Zf fp Z)<|ZG<|G (Zd ak H 2 Z Z Z)<|ZG ?_
 refine cW (bn Z Z) Z Z Z (fun h119=> ?_) (fun h119=> ?_)
 refine G (Kt Z Z)<|G (Yb Z)<|ZG<|G (Zf eJ Z)<|ZG<|G (Zd ak H 0 Z Z Z)<|ZG<|G (Zf eJ Z)<|ZG<|G (Zd ak H 2 Z Z Z)<|ZG ?_
 refine cW (bn Z Z) Z Z Z (fun h126=> ?_) (fun h126=> ?_)
 refine G (Kt Z Z)<|G (Yb Z)<|ZG<|G (Zf fg Z)<|ZG<|G (Zd ak H 0 Z Z Z)<|ZG<|G (Zf fg Z)<|ZG<|G (Zd ak H 2 Z Z Z)<|ZG ?_
 refine cW (bn Z Z) Z Z Z (fun h133=> ?_) (fun h133=> ?_)
 refine G (Kt Z Z)<|U<|ZT Z<|W<|Zr<|G (Yi Z)<|G (Wi Z)<|G (Wi Z)<|U<|Zt ?_
 have hdup:=BE e30.at_ (by simp[kU,h113,h119,h126,h133]) hno
 have hv:fc es x=((i:Int),0):=by
  unfold fc;rw[if_neg h11,<-hp];unfold mD;simp[h30,h34,h84,h95,h103,hdup]
 exact mr (v:=J ((i:Int))) (v2:=J 0) Z Z Z ⟨by rw[hv],H.below⟩
 refine G (Kt Z Z)<|U<|ZF Z<|Zk<|Zr<|G (bw Z Z I I)<|G (Yi Z)<|U ?_
 refine⟨i+1,⟨by omega,fun j e hj he=> ?_,H.forget (aY _ _) (fun _ h=>h)⟩,dP Z,Qg,by show es.length- (i+1)<es.length-i;omega⟩
 by_cases hji:j<i
 exact hno j e hji he
 have:j=i:=by omega
 subst this;have he2:=e30.at_;rw[he]at he2;injection he2 with he2;subst he2
 simp[kU,h113,h119,h126,h133]
 refine G (Kt Z Z)<|G (Yb Z)<|ZN<|ZN<|ZN<|ZN<|ZN<|G (N Z Z)<|U<|ZF Z<|Zk<|Zr<|G (bw Z Z I I)<|G (Yi Z)<|U ?_
 refine⟨i+1,⟨by omega,fun j e hj he=> ?_,H.forget (aY _ _) (fun _ h=>h)⟩,dP Z,Qg,by show es.length- (i+1)<es.length-i;omega⟩
 by_cases hji:j<i
 exact hno j e hji he
 have:j=i:=by omega
 subst this;have he2:=e30.at_;rw[he]at he2;injection he2 with he2;subst he2
 simp[kU,h113,h119,h126]
 refine G (Kt Z Z)<|G (Yb Z)<|ZN<|ZN<|ZN<|ZN<|ZN<|G (N Z Z)<|G (Yb Z)<|ZN<|ZN<|ZN<|ZN<|ZN<|G (N Z Z)<|U<|ZF Z<|Zk<|Zr<|G (bw Z Z I I)<|G (Yi Z)<|U ?_
 refine⟨i+1,⟨by omega,fun j e hj he=> ?_,H.forget (aY _ _) (fun _ h=>h)⟩,dP Z,Qg,by show es.length- (i+1)<es.length-i;omega⟩
 by_cases hji:j<i
 exact hno j e hji he
 have:j=i:=by omega
 subst this;have he2:=e30.at_;rw[he]at he2;injection he2 with he2;subst he2
 simp[kU,h113,h119]
 refine G (Yb Z)<|ZN<|ZN<|ZN<|ZN<|ZN<|G (N Z Z)<|G (Yb Z)<|ZN<|ZN<|ZN<|ZN<|ZN<|G (N Z Z)<|G (Yb Z)<|ZN<|ZN<|ZN<|ZN<|ZN<|G (N Z Z)<|U<|ZF Z<|Zk<|Zr<|G (bw Z Z I I)<|G (Yi Z)<|U ?_
 refine⟨i+1,⟨by omega,fun j e hj he=> ?_,H.forget (aY _ _) (fun _ h=>h)⟩,dP Z,Qg,by show es.length- (i+1)<es.length-i;omega⟩
 by_cases hji:j<i
 exact hno j e hji he
 have:j=i:=by omega
 subst this;have he2:=e30.at_;rw[he]at he2;injection he2 with he2;subst he2
 simp[kU,h113]
 refine U<|W<|ZF Z<|Zx<|W<|Zr<|G (Wi Z)<|G (Wi Z)<|U<|Zt ?_
 have hdup:=GM (x:=x) (es:=es) (fun j e hj he=>hno j e I he)
 have hv:fc es x=(0,11):=by
  unfold fc;rw[if_neg h11,<-hp];unfold mD;simp[h30,h34,h84,h95,h103,hdup]
 exact mr (v:=J (0)) (v2:=J 11) Z Z Z ⟨by rw[hv],H.below⟩
def Fh (es:List cz) (n i:Nat):List ByteArray:=match es[i]? with
 |some e=>if e.kind=1/\yW (es.take n) i e=true then [e.text]else []
 |none=>[]
def texts (es:List cz) (n a b:Nat):List ByteArray:=(List.range' a (b-a)).flatMap (Fh es n)
theorem Hg (es:List cz) (n a:Nat):texts es n a a=[]:=by simp[texts]
theorem v6 {es:List cz} {n a b:Nat} (h:a<=b):texts es n a (b+1)=texts es n a b++Fh es n b:=by
 unfold texts
 have e:b+1-a=(b-a)+1:=by omega
 rw[e,List.range'_1_concat,nb]
 have e2:a+(b-a)=b:=by omega
 simp[e2]
def BX (es:List cz) (n st a most:Nat) (out:List ByteArray) (b:Nat):Prop:=a<=b/\(b=a∨b<=st)/\out=texts es n a b/\out.length<=most/\(st<=b∨out.length=most)/\ ∀ bq_,a<=bq_->bq_<b->(texts es n a bq_).length<most
theorem NW (es:List cz) (A:Option Addr) (c n a most:Nat) (w:World) (hr:Rd gV 0 w.heap.size A es w) (hc:es.length<=c) (hb:es.length<=1000000) (hn:n<=es.length) (ha:a<=es.length) (hm1:1<=most) (hm2:most<=20):
  dh aa yY [.slice A es.length c,J (n:Nat),J (a:Nat),J (most:Nat)] w fun v w2=> ∃ (st:Nat) (out:List ByteArray) (b:Nat) (A':Option Addr) (c':Nat),t6 (es.take n) st/\BX es n st a most out b/\v=.tuple #[.slice A' out.length c',J (b:Nat),J 0]/\Rd nz w.heap.size w2.heap.size A' out w2/\out.length<=c'/\Below w.heap.size w w2:=by
 refine aE xl Z Z ?_
 have H:=Hp.startRd hr
 refine W<|Zr<|G (Ws Z)<|G (Wi Z)<|G (Wi Z)<|U<|W<|Zr<|G (Ys Z)<|G (Yi Z)<|ch ur (C6 es _ _ n _ (H.rd0 0 Z) hc hb hn) Z Z ?_
 rintro _ w1 ⟨st,hst,rfl,hb2⟩;replace H:=H.later hb2;clear hb2
 have hstl:st<=n:=by have:=hst.1;simp at this;omega
 refine G (Yu Z)<|G (Xi Z Z)<|G (Xi Z Z)<|G (Wi Z)<|G (Wi Z)<|U<|W<|W<|Zr<|G (Yi Z)<|G (bZ Z Z Z)<|U<|ZF Z<|Zk<|W<|W<|Zr<|G (Yi Z)<|G (dd Z Z I)<|G (Yb Z)<|ZG<|G (Yi Z)<|ZG<|G (Ys Z)<|ZG<|G (br eH Z)<|ZG<|G (eB Z Z I)<|G (N Z Z)<|G (Yb Z)<|ZG<|G (Yi Z)<|ZG<|G (dd Z Z I)<|G (N Z Z)<|G (Yb Z)<|ZG<|G (Yi Z)<|ZG<|G (eB Z Z I) ?_
 refine G (N Z Z)<|U<|ZF Z<|Zk<|W<|Zr<|G (Ws Z)<|U<|W<|Zr<|G (Yi Z)<|G (Wi Z)<|U<|W<|Zb ?_
 refine cD (τ:=Nat×List ByteArray×Option Addr×Nat) [13,14,41,42,43,44,45,46,47,48,49,50,51,52,53,54,55,56,57,58,59,60,61,62,63,64,65,66,67,68,69,70,71,72] (fun(at_,out,A1,c1)=>[(13,.slice A1 out.length c1),(14,J (at_:Nat))]) (fun(at_,out,A1,c1) w'=>a<=at_/\(at_=a∨at_<=st)/\out=texts es n a at_/\out.length<=most/\(∀ bq_,a<=bq_->bq_<at_->(texts es n a bq_).length<most)/\ ∃ L',gz nz (.slice A1 out.length c1) kL out L'/\Hp w w' ([]++L'++[]) [dU gV 0 w.heap.size A es]) (fun(at_,_,_,_)=>st-at_) (a,[],none,0) ⟨by omega,.inl Z,(Hg _ _ _).symm,by simp,(fun _ _ _=>by omega),[],gz.nil,H⟩ (li Z Z) ?_
 rintro⟨at_,out,A1,c1⟩ ρ1 w2 ⟨hat1,hat2,hout,hol,hmin,L1,ho,H⟩
 show CW _ _ _ _ (dH (gZ _ _ ρ1) [(13,.slice A1 out.length c1),(14,J (at_:Nat))]) w2
 refine W<|W<|Zr<|G (Yi Z)<|G (Yi Z) ?_
 refine cW (cK Z Z) Z Z Z (fun h43=> ?_) (fun h43=> ?_)
 refine G (Yb Z)<|ZG<|G (Ys Z)<|ZG<|G (br l5 Z)<|ZG<|G (Yi Z)<|ZG ?_
 refine cW (cK Z Z) Z Z Z (fun h48=> ?_) (fun h48=> ?_)
 refine G (Kt Z Z)<|U<|ZT Z<|Zk<|W<|Zb<|W<|Zr<|G (Ys Z)<|G (Yi Z)<|qB H 0 Z dV Z Z I I Z fun b3 o3 x3 e3=> ?_
 have hxt:(es.take n)[at_]? =some x3:=by rw[fb I];exact e3.at_
 refine G (Zf ff Z)<|G (aW ak Z (e3.cl 4 _ Z)) ?_
 refine cW (bn Z Z) Z Z Z (fun h57=> ?_) (fun h57=> ?_)
 refine G (Yb Z)<|ZG<|G (Ys Z)<|ZG<|G (Yi Z)<|ZG<|sF (k:=n) H 0 Z dV Z Z hc I Z fun A61 H=>ZG ?_
 have hK:=Oy (es.take n) A61 c at_ x3 _ (H.rd0 0 Z) hxt (by simp;omega) (by simp;omega)
 rw[show(es.take n).length=n by simp;omega]at hK
 refine G (Yi Z)<|ZG<|ch ET (hK) Z Z ?_
 rintro _ w4 ⟨rfl,hb2⟩;replace H:=H.later hb2;clear hb2
 refine G (Kt Z Z)<|U ?_
 refine jw Z (fun hc64=> ?_) (fun hc64=> ?_)
 refine Zr<|G (Ys Z)<|G (Ys Z)<|G (Yi Z)<|qB H 1 Z dV Z Z I I Z fun b5 o5 x5 e5=>G (Zf qo Z)<|G (aW bd Z (e5.cl 6 _ Z))<|s9 (vs:=[.string x5.text]) H iy wH Z Z Z Z Z Z fun w6 b71 H=> ?_
 have hxx:x5=x3:=by have h1:=e3.at_;rw[e5.at_]at h1;injection h1
 refine vP (Y:=nz) ww (K:=[(b71,_)]) (L:=L1) (M:=[]) H ho (news:=[x5.text]) Z Z Z (wz.row (m:=1) (sz:=1) (H.ent (i:=0) Z) Z) (by simp only[bO];omega) Z ?_
 intro A3 c3 w7 L3 h3a _ ho3 H
 refine G (Ws Z)<|U<|Zr<|G (Yi Z)<|G (bw Z Z I I)<|G (Wi Z)<|U ?_
 have hvis:Fh es n at_=[x5.text]:=by unfold Fh;rw[e3.at_];simp only;rw[if_pos ⟨h57,hc64⟩,hxx]
 refine⟨(at_+1,out++[x5.text],A3,c3),⟨by omega,.inr I,by rw[v6 hat1,hvis,hout],by simp;omega,(fun bq_ h1 h2=>by rcases iT bq_ at_ with h3|h3;exact hmin bq_ h1 h3;rw[show bq_=at_ by omega,<-hout];omega),L3,ho3,H.forget (by simp) (by simp)⟩,li Z Z,Qg,by show st- (at_+1)<st-at_;omega⟩
 refine Zk<|Zr<|G (Yi Z)<|G (bw Z Z I I)<|G (Wi Z)<|U ?_
 have hvis:Fh es n at_=[]:=by unfold Fh;rw[e3.at_];simp only;rw[if_neg (by rintro⟨p,q⟩;first|exact h57 p|(rw[hc64]at q;cases q))]
 refine⟨(at_+1,out,A1,c1),⟨by omega,.inr I,by rw[v6 hat1,hvis,hout,aZ],hol,(fun bq_ h1 h2=>by rcases iT bq_ at_ with h3|h3;exact hmin bq_ h1 h3;rw[show bq_=at_ by omega,<-hout];omega),L1,ho,H.forget (by simp) (by simp)⟩,li Z Z,Qg,by show st- (at_+1)<st-at_;omega⟩
 refine G (Yb Z)<|ZN<|ZN<|ZN<|ZN<|ZN<|G (N Z Z)<|U<|ZF Z<|Zk<|Zr<|G (Yi Z)<|G (bw Z Z I I)<|G (Wi Z)<|U ?_
 have hvis:Fh es n at_=[]:=by unfold Fh;rw[e3.at_];simp only;rw[if_neg (by rintro⟨p,q⟩;first|exact h57 p|(rw[hc64]at q;cases q))]
 refine⟨(at_+1,out,A1,c1),⟨by omega,.inr I,by rw[v6 hat1,hvis,hout,aZ],hol,(fun bq_ h1 h2=>by rcases iT bq_ at_ with h3|h3;exact hmin bq_ h1 h3;rw[show bq_=at_ by omega,<-hout];omega),L1,ho,H.forget (by simp) (by simp)⟩,li Z Z,Qg,by show st- (at_+1)<st-at_;omega⟩
 refine G (Kt Z Z)<|U<|ZF Z<|Zx<|W<|Zr<|G (Ys Z)<|G (Yi Z)<|G (Ws Z)<|G (Wi Z)<|G (Wi Z)<|U<|Zt ?_
 obtain⟨A2,c2,he,hlc,-⟩:=ho.form
 injection he with h1 h2 h3
 subst h3
 exact Ik Z Z Z Z ⟨st,out,at_,A1,c1,hst,⟨hat1,hat2,hout,hol,by omega,hmin⟩,rfl,ho.rd H,hlc,H.below⟩
 refine G (Yb Z)<|ZN<|ZN<|ZN<|ZN<|G (N Z Z)<|U<|ZF Z<|Zx<|W<|Zr<|G (Ys Z)<|G (Yi Z)<|G (Ws Z)<|G (Wi Z)<|G (Wi Z)<|U<|Zt ?_
 obtain⟨A2,c2,he,hlc,-⟩:=ho.form
 injection he with h1 h2 h3
 subst h3
 exact Ik Z Z Z Z ⟨st,out,at_,A1,c1,hst,⟨hat1,hat2,hout,hol,by omega,hmin⟩,rfl,ho.rd H,hlc,H.below⟩
/-- what IndexFunc answers -/
def lL:Option Nat->Int
 |some i=>i
 |none=> -1
theorem Rd.blk {α:Type} {Y:fq α} {w:World} {b:Nat} {cs:Array Value} {T:TypeId} {fr:Nat×Nat} {es:List α} (h:w.heap[b]? =some (.cells cs T fr)) (hc:cs.toList=Y.all es):Rd Y 0 w.heap.size (Qd b) es w:=
 fun _=>⟨b,0,rfl,bG _,ce h,fun j u hj=>by rw[cJ];exact aB h (by rw[<-hc]at hj;simpa using hj)⟩
def PX:cz:=⟨0,0,0,0,1,false,⟨#[97]⟩⟩
inductive vr:List cz->Prop
 |nil:vr []
 |snoc {es:List cz} {x:cz}:vr es->(fc es x).2=0->(fc es x).1<0->vr (es++[x])
theorem LF {l:List cz} {f:cz} (h:vr (l++[f])):vr l/\(fc l f).2=0/\(fc l f).1<0:=by
 generalize hl:l++[f]=m at h
 cases h with
 |nil=>simp at hl
 |snoc hs a b=>
  obtain⟨rfl,hx⟩:=List.append_inj' hl Z
  simp at hx
  subst hx
  exact⟨hs,a,b⟩
theorem vr.take {es:List cz} (h:vr es): ∀ k,vr (es.take k):=by
 induction h with
 |nil=>intro k;simp;exact .nil
 |@snoc es x h h1 h2 ih=>
  intro k
  by_cases hk:k<=es.length
  rw[iu hk];exact ih k
  rw[gk (by simp;omega)];exact .snoc h h1 h2
def B1 (es:List cz) (pid ver:Int):Nat:=(es.filter fun e=>decide (e.kind=1)&&decide (e.pid=pid)&&decide (e.ver=ver)).length
theorem um (es:List cz) (x:cz) (pid ver:Int):B1 (es++[x]) pid ver=B1 es pid ver+if x.kind=1/\x.pid=pid/\x.ver=ver then 1 else 0:=by
 unfold B1
 rw[jj,ay]
 congr 1
 by_cases h1:x.kind=1<;>by_cases h2:x.pid=pid<;>by_cases h3:x.ver=ver<;>simp[h1,h2,h3]
theorem GR {es:List cz} {a b:Nat} (h:a<=b) (pid ver:Int):B1 (es.take a) pid ver<=B1 (es.take b) pid ver:=by
 unfold B1
 refine List.Sublist.length_le (List.Sublist.filter _ ?_)
 have:es.take a=(es.take b).take a:=by rw[dk,bu h]
 rw[this]
 exact List.take_sublist _ _
theorem xv {es:List cz} {pid ver:Int} (h: ∀ e∈es,e.pid=pid->e.ver≠ver):B1 es pid ver=0:=by
 unfold B1
 rw[List.length_eq_zero_iff,wF]
 intro e he hc
 simp at hc
 exact h e he hc.1.2 hc.2
theorem Fi {es:List cz} {x:cz} (h0:x.pid≠0) (h1:(fc es x).2=0) (h2:(fc es x).1<0) {p:Prod} (hp:p=(fC es x.pid).getD ⟨x.ver,-1,-1,-1⟩):p.ver<=x.ver/\(x.kind=1->x.seq=(if p.ver<x.ver then-1 else p.seq)+1):=by
 unfold fc at h1 h2
 rw[if_neg h0,<-hp]at h1 h2
 unfold mD at h1 h2
 split at h1
 simp at h1
 rename_i hv
 rw[if_neg hv]at h2
 refine⟨by omega,fun hk=> ?_⟩
 rw[if_neg (fun h=>h hk)]at h1 h2
 generalize (if p.ver<x.ver then(-1:Int)else p.seq)=s at h1 h2⊢
 split at h1
 simp at h1
 rename_i hg
 rw[if_neg hg]at h2
 split at h1
 assumption
 rename_i hs
 rw[if_neg hs]at h2
 exfalso
 split at h1
 rename_i i hi
 rw[hi]at h2
 simp at h2
 omega
 simp at h1
theorem xX {es:List cz} (h:vr es): ∀ pid,pid≠0->(∀ p,fC es pid=some p->(∀ e∈es,e.pid=pid->e.ver<=p.ver)/\p.seq=(B1 es pid p.ver:Int)-1):=by
 induction h with
 |nil=>intro pid _ p hp;cases hp
 |@snoc es x h h1 h2 ih=>
  intro pid h0 p hp
  rw[qa]at hp
  by_cases hx:x.pid=pid
  subst hx
  rw[if_pos ⟨h0,rfl⟩]at hp
  injection hp with hp
  obtain⟨v1,v2⟩:=Fi h0 h1 h2 Z
  have hver:p.ver=x.ver:=by
   rw[<-hp];unfold fm pv
   split<;>(split<;>(try split)<;>simp_all)
  have hle: ∀ e∈es,e.pid=x.pid->e.ver<=x.ver:=fun e he hpe=>by
   cases hq:fC es x.pid with
   |none=>exact absurd hpe.symm (fun h=>h0 ((jp es x.pid).2 hq e he hpe))
   |some q=>
    rw[hq]at v1
    have:=(ih x.pid h0 q hq).1 e he hpe
    simp at v1
    omega
  refine⟨fun e he hpe=> ?_,?_⟩
  rw[hver]
  rcases ap.1 he with he|he
  exact hle e he hpe
  rw[aq.1 he];exact fj _
  rw[hver,um]
  have hold:(pv x ((fC es x.pid).getD p0)).seq=(B1 es x.pid x.ver:Int)-1:=by
   cases hq:fC es x.pid with
   |none=>
    have hz:B1 es x.pid x.ver=0:=xv fun e he hpe=>absurd ((jp es x.pid).2 hq e he hpe) h0
    rw[hz];unfold pv;simp only[Option.getD_none];split<;>simp[p0]
   |some q=>
    obtain⟨i1,i2⟩:=ih x.pid h0 q hq
    unfold pv
    simp only[Option.getD_some]
    split
    rename_i hne
    rw[hq]at v1
    simp at v1
    have hz:B1 es x.pid x.ver=0:=xv fun e he hpe hev=>by have:=i1 e he hpe;omega
    rw[hz];rfl
    rename_i heq
    have:x.ver=q.ver:=Classical.not_not.1 heq
    rw[i2,this]
  by_cases hk:x.kind=1
  rw[if_pos ⟨hk,rfl,rfl⟩]
  have hs:=v2 hk
  have hseq:p.seq=x.seq:=by
   rw[<-hp];unfold fm
   rw[if_neg (fun h=>h hk)]
   split<;>rfl
  have hcnt:x.seq=(B1 es x.pid x.ver:Int):=by
   cases hq:fC es x.pid with
   |none=>
    have hz:B1 es x.pid x.ver=0:=xv fun e he hpe=>absurd ((jp es x.pid).2 hq e he hpe) h0
    rw[hq]at hs;simp at hs;omega
   |some q=>
    obtain⟨i1,i2⟩:=ih x.pid h0 q hq
    rw[hq]at hs v1
    simp at hs v1
    by_cases hlt:q.ver<x.ver
    rw[if_pos hlt]at hs
    have hz:B1 es x.pid x.ver=0:=xv fun e he hpe hev=>by have:=i1 e he hpe;omega
    omega
    rw[if_neg hlt]at hs
    have:q.ver=x.ver:=by omega
    rw[this]at i2
    omega
  omega
  rw[if_neg (fun h=>hk h.1)]
  have hseq:p.seq=(pv x ((fC es x.pid).getD p0)).seq:=by
   rw[<-hp];unfold fm
   rw[if_pos hk]
  rw[hseq,hold];simp
  rw[if_neg (fun h=>hx h.2)]at hp
  obtain⟨i1,i2⟩:=ih pid h0 p hp
  refine⟨fun e he hpe=> ?_,?_⟩
  rcases ap.1 he with he|he
  exact i1 e he hpe
  rw[aq.1 he]at hpe;exact absurd hpe hx
  rw[um,if_neg (fun h=>hx h.2.1),i2];simp
theorem LE {es:List cz} (h:vr es) {j:Nat} {f:cz} (hj:es[j]? =some f) (h0:f.pid≠0): ∀ e∈es.take j,e.pid=f.pid->e.ver<=f.ver:=by
 have h1:=h.take (j+1)
 rw[eu hj]at h1
 generalize es.take j=l at h1⊢
 obtain⟨hs,a,b⟩:=LF h1
 intro e he hpe
 obtain⟨v1,-⟩:=Fi h0 a b Z
 cases hq:fC l f.pid with
 |none=>exact absurd ((jp l f.pid).2 hq e he hpe) h0
 |some q=>
  rw[hq]at v1
  simp at v1
  have:=(xX hs f.pid h0 q hq).1 e he hpe
  omega
theorem FA {es:List cz} (h:vr es) {j:Nat} {f:cz} (hj:es[j]? =some f) (h0:f.pid≠0) (hk:f.kind=1):f.seq=(B1 (es.take j) f.pid f.ver:Int):=by
 have h1:=h.take (j+1)
 rw[eu hj]at h1
 have h2:=xX h1 f.pid h0 _ (by rw[qa,if_pos ⟨h0,rfl⟩])
 have hver:(fm (es.take j).length f ((fC (es.take j) f.pid).getD p0)).ver=f.ver:=by
  unfold fm pv
  split<;>(split<;>(try split)<;>simp_all)
 have hseq:(fm (es.take j).length f ((fC (es.take j) f.pid).getD p0)).seq=f.seq:=by
  unfold fm
  rw[if_neg (fun h=>h hk)]
  split<;>rfl
 rw[hver,hseq,um,if_pos ⟨hk,rfl,rfl⟩]at h2
 omega
theorem JE {es:List cz} (h: ∀ e∈es,kT e):seqB es:=fun e he=>by
 obtain⟨_,_,h3,_⟩:=qV (h e he)
 have:=h3 e.seq (by simp[cz.nums])
 omega
def later (es:List cz) (k:Nat) (x:cz):Bool:=(es.drop k).any fun y=>decide (y.pid=x.pid)&&decide (x.ver<y.ver)
theorem Ha {es:List cz} {x:cz} {k:Nat} (hk:es[k]? =some x) (h0:x.pid≠0): ∃ p,fC es x.pid=some p:=by
 cases hq:fC es x.pid with
 |none=>exact absurd ((jp es x.pid).2 hq x (ab hk) Z) h0
 |some p=>exact⟨p,rfl⟩
theorem Hc {es:List cz} (h:vr es) {k:Nat} {x:cz} (hk:es[k]? =some x) (h0:x.pid≠0) (hl:later es k x=false) (hd:x.kind=1):fc es x=((k:Int),0):=by
 obtain⟨p,hp⟩:=Ha hk h0
 obtain⟨l1,l2⟩:=xX h x.pid h0 p hp
 have hkl:=(cC hk).1
 have hxle:=l1 x (ab hk) Z
 have hver:p.ver=x.ver:=by
  obtain⟨e,he,hpe,hve⟩:=((jp es x.pid).1 p hp).ver
  obtain⟨j,hj⟩:=aT.1 he
  by_cases hjk:j<k
  have:=LE h hk h0 e (ab (by rw[fb hjk];exact hj)) hpe
  omega
  have hmem:e∈es.drop k:=ab (i:=j-k) (by rw[dx,show k+(j-k)=j by omega];exact hj)
  have hnl:=uD.1 hl e hmem
  simp[hpe]at hnl
  omega
 have hseq:=FA h hk h0 hd
 have hc1:B1 (es.take (k+1)) x.pid x.ver=B1 (es.take k) x.pid x.ver+1:=by
  rw[eu hk,um,if_pos ⟨hd,rfl,rfl⟩]
 have hc2:B1 (es.take (k+1)) x.pid x.ver<=B1 es x.pid x.ver:=by
  have:=GR (es:=es) (a:=k+1) (b:=es.length) I x.pid x.ver
  rwa[bN]at this
 rw[hver]at l2
 have hdup:es.findIdx? (kU x)=some k:=BE hk (by simp[kU,hd]) fun j e hj he=>by
  by_cases hi:kU x e=true
  exfalso
  simp[kU]at hi
  obtain⟨⟨⟨a1,a2⟩,a3⟩,a4⟩:=hi
  have s1:=FA h he (by rw[a2];exact h0) a1
  rw[a2,a3]at s1
  have s2:B1 (es.take (j+1)) x.pid x.ver=B1 (es.take j) x.pid x.ver+1:=by
   rw[eu he,um,if_pos ⟨a1,a2,a3⟩]
  have s3:=GR (es:=es) (a:=j+1) (b:=k) I x.pid x.ver
  omega
  simpa using hi
 unfold fc
 rw[if_neg h0,hp]
 unfold mD
 simp only[Option.getD_some,hver]
 rw[if_neg I,if_neg (fun h=>h hd),if_neg (by omega: ¬ x.ver<x.ver),if_neg I,if_neg I,hdup]
theorem CG (es:List UInt8) (A:Option Addr) (c:Nat) (w:World) (hr:Rd dC 0 w.heap.size A es w) (hb:es.length*1<=140737488355328):
  dh aa kV [.slice A es.length c] w fun v w2=> ∃ A' c' L',v=.slice A' es.length c'/\es.length<=c'/\c'<=maxLen/\gz dC (.slice A' es.length c') m4 es L'/\Hp w w2 L' []:=by
 refine aE qi Z Z ?_
 have H:=Hp.startRd hr
 refine W<|Zr<|G (Ws Z)<|U<|W<|W<|Zr<|G (Ys Z) ?_
 refine wW (qO eO Z) Z Z Z (fun h4=> ?_) (fun h4=> ?_)
 refine U<|ZT Z<|W<|Zr<|G (Ws Z)<|U<|Zt ?_
 have he:es=[]:=by
  cases es with
  |nil=>rfl
  |cons e es=>obtain⟨b,o,hA,_⟩:=hr (by simp);subst hA;cases h4
 subst he
 exact cH Z Z ⟨none,0,[],rfl,by simp,by decide,gz.nil,H.forget (by simp) (by simp)⟩
 refine U<|ZF Z<|Zk<|W<|Zr<|Pe H ec Z fun w1 b5 H=>G (Ys Z)<|vP (Y:=dC) oT (K:=[]) (L:=[(b5,_)]) (M:=[]) H (sj.lit (by decide) (by rfl)) (es:=[]) (news:=es) Z Z Z (Rd.src (H.fact (i:=0) Z)) (by simpa using hb) Z ?_
 intro A3 c3 w3 L3 h3a h3b ho3 H
 refine G (Ws Z)<|U<|Zt ?_
 exact cH Z Z ⟨A3,c3,L3,rfl,h3a,h3b,ho3,H.forget (by simp) (by simp)⟩
theorem s6 (es:List Int) (A:Option Addr) (c:Nat) (w:World) (hr:Rd bR 0 w.heap.size A es w) (hb:es.length*8<=140737488355328):
  dh aa l7 [.slice A es.length c] w fun v w2=> ∃ A' c' L',v=.slice A' es.length c'/\es.length<=c'/\c'<=maxLen/\gz bR (.slice A' es.length c') db es L'/\Hp w w2 L' []:=by
 refine aE rF Z Z ?_
 have H:=Hp.startRd hr
 refine W<|Zr<|G (Ws Z)<|U<|W<|W<|Zr<|G (Ys Z) ?_
 refine wW (qO eM Z) Z Z Z (fun h4=> ?_) (fun h4=> ?_)
 refine U<|ZT Z<|W<|Zr<|G (Ws Z)<|U<|Zt ?_
 have he:es=[]:=by
  cases es with
  |nil=>rfl
  |cons e es=>obtain⟨b,o,hA,_⟩:=hr (by simp);subst hA;cases h4
 subst he
 exact cH Z Z ⟨none,0,[],rfl,by simp,by decide,gz.nil,H.forget (by simp) (by simp)⟩
 refine U<|ZF Z<|Zk<|W<|Zr<|Pe H bc Z fun w1 b5 H=>G (Ys Z)<|vP (Y:=bR) zP (K:=[]) (L:=[(b5,_)]) (M:=[]) H (sj.lit (by decide) (by rfl)) (es:=[]) (news:=es) Z Z Z (Rd.src (H.fact (i:=0) Z)) (by simpa using hb) Z ?_
 intro A3 c3 w3 L3 h3a h3b ho3 H
 refine G (Ws Z)<|U<|Zt ?_
 exact cH Z Z ⟨A3,c3,L3,rfl,h3a,h3b,ho3,H.forget (by simp) (by simp)⟩

/-- a row of rows of bytes -/
abbrev RB:=Option Addr×List UInt8×Nat
def LI:fq RB:=⟨fun p=>[.slice p.1 p.2.1.length p.2.2],1,fun _=>rfl,by decide,fun a u hu=>by
 simp only[ax,bU,or_false]at hu
 subst hu;rfl⟩
def xP (ps:List RB):List UInt8:=ps.flatMap fun p=>p.2.1
theorem uy {ps:List RB} {k:Nat} {p:RB} (h:ps[k]? =some p):xP (ps.take (k+1))=xP (ps.take k)++p.2.1:=by
 rw[eu h];simp[xP]
theorem E1 (ps:List RB) (k:Nat):(xP (ps.take k)).length<=(xP ps).length:=by
 have:xP ps=xP (ps.take k)++xP (ps.drop k):=by unfold xP;rw[<-nb,gQ]
 rw[this];simp
theorem JX {g cp:Nat} {cur:Array Value} (h:cur.size=cp*1) (hm:cp<=maxLen):gz dC (.slice (Qd g) 0 cp) m4 [] [(g,.cells cur m4 (0,0))]:=
 ⟨by simp[fq.all],.inr ⟨g,cp,cur,rfl,rfl,bG _,hm,h,by simp[fq.all]⟩⟩
theorem OF (n:Nat) (w:World) (hn:n<=1000000):dh aa rv [.slice none 0 0,J (n:Nat)] w fun v w2=> ∃ A' c' L',v=.slice A' 0 c'/\gz dC (.slice A' 0 c') m4 [] L'/\Hp w w2 L' []:=by
 refine aE qG Z Z ?_
 have H:=Hp.start w
 refine W<|Zr<|G (Ws Z)<|U<|W<|W<|Zr<|G (Yi Z)<|G (dd Z Z I)<|U<|ZF Z<|Zk<|W<|W<|Zr<|G (Yi Z)<|G (Ys Z)<|G (E2 eO Z)<|G (Ys Z)<|G (br eO Z)<|G (jf Z Z I I)<|G (jf Z Z I I)<|G (Wi Z)<|U<|W<|Zr<|G (Yi Z) ?_
 refine cW (km Z Z) Z Z Z (fun h16=> ?_) (fun h16=> ?_)
 refine U<|ZT Z<|Zr<|G (Ys Z)<|G (Ys Z)<|G (E2 eO Z)<|G (DY (i:=0) ec Z Z I I)<|G (Yi Z)<|R2 (m:=n) oT iF H Z (by show Value.int .i64 _=_;congr 1) I I Z fun w1 g cp cur hcs hncp hcpm H=>G (Ys Z)<|G (br eO Z)<|Ae ec Z Z I I Z fun A25 hA25=> ?_
 obtain rfl:=hA25 I
 refine G (Ws Z)<|U<|W<|Zr<|G (Ys Z)<|G (Ws Z)<|U<|Zt ?_
 exact cH Z Z ⟨_,_,_,rfl,JX hcs hcpm,H⟩
 refine U<|ZF Z<|Zk<|W<|Zr<|G (Ys Z)<|G (Ws Z)<|U<|Zt ?_
 exact cH Z Z ⟨none,0,[],rfl,gz.nil,H⟩
theorem va (ps:List RB) (A:Option Addr) (c:Nat) (w:World) (hr:Rd LI 0 w.heap.size A ps w) (hp: ∀ p∈ps,Rd dC 0 w.heap.size p.1 p.2.1 w) (hb:(xP ps).length<=1000000) (hl:ps.length<=1000):
  dh aa qf [.slice A ps.length c] w fun v w2=> ∃ A' c' L',v=.slice A' (xP ps).length c'/\(xP ps).length<=c'/\c'<=maxLen/\gz dC (.slice A' (xP ps).length c') m4 (xP ps) L'/\Hp w w2 L' []:=by
 refine aE pR Z Z ?_
 have H:=Hp.startRd hr
 refine W<|Zr<|G (Ws Z)<|U<|W<|Zr<|G (Wi Z)<|U<|W<|W<|Zr<|G (Ys Z)<|G (br AN Z)<|G (Yi Z)<|U<|Zb ?_
 refine cD (τ:=Nat) [3,5,11,12,13,14,15,16,17,18,19,20,21,22] (fun k=>[(3,J ((xP (ps.take k)).length:Nat)),(11,J (k:Nat))]) (fun k w'=>k<=ps.length/\Hp w w' [] [dU LI 0 w.heap.size A ps]) (fun k=>ps.length-k) 0 ⟨by omega,H⟩ (li Z Z) ?_
 rintro k ρ1 w1 ⟨hk,H⟩
 show CW _ _ _ _ (dH (gZ _ _ ρ1) [(3,J ((xP (ps.take k)).length:Nat)),(11,J (k:Nat))]) w1
 have hle:=E1 ps k
 refine W<|Zr ?_
 refine cW (cK Z Z) Z Z Z (fun h12=> ?_) (fun h12=> ?_)
 refine U<|W<|ZT Z<|Zk<|W<|Zb<|W<|Zr<|qB H 0 Z rS Z Z I I Z fun b2 o2 x2 e2=> ?_
 have hle2:=E1 ps (k+1)
 rw[uy e2.at_,ay]at hle2
 refine G (aW d9 Z (e2.cl 0 _ Z))<|G (Ws Z)<|U<|W<|Zr<|G (Yi Z)<|G (Ys Z)<|G (br eO Z)<|G (bw Z Z I I)<|G (Wi Z)<|U<|W<|Zr<|G (Yi Z)<|G (dd Z Z I)<|U<|ZF Z<|Zk<|Zr<|G (bw Z Z I I)<|G (Yi Z)<|U ?_
 refine⟨k+1,⟨by omega,H⟩,li (by rw[uy e2.at_,ay];rfl) Z,Qg,by show ps.length- (k+1)<ps.length-k;omega⟩
 refine U<|W<|ZF Z<|Zx<|W<|Zr<|G (Yi Z)<|ch qJ (OF (xP (ps.take k)).length _ I) Z Z ?_
 rintro _ w3 ⟨A24,c24,L24,rfl,ho24,hj24⟩;replace H:=H.join hj24;clear hj24
 refine G (Ws Z)<|U<|W<|W<|Zr<|G (Ys Z)<|G (br AN Z)<|G (Yi Z)<|U<|Zb ?_
 refine cD (τ:=Nat×Option Addr×Nat) [6,8,27,28,29,30,31,32,33,34] (fun(j,Ag,cg)=>[(6,.slice Ag (xP (ps.take j)).length cg),(27,J (j:Nat))]) (fun(j,Ag,cg) w'=>j<=ps.length/\ ∃ L',gz dC (.slice Ag (xP (ps.take j)).length cg) m4 (xP (ps.take j)) L'/\Hp w w' ([]++L'++[]) [dU LI 0 w.heap.size A ps]) (fun(j,_,_)=>ps.length-j) (0,A24,c24) ⟨by omega,L24,ho24,by simpa using H⟩ (li Z Z) ?_
 rintro⟨j,Ag,cg⟩ ρ2 w4 ⟨hj,L1,ho,H⟩
 show CW _ _ _ _ (dH (gZ _ _ ρ2) [(6,.slice Ag (xP (ps.take j)).length cg),(27,J (j:Nat))]) w4
 have hle:=E1 ps j
 refine W<|Zr ?_
 refine cW (cK Z Z) Z Z Z (fun h28=> ?_) (fun h28=> ?_)
 refine U<|W<|ZT Z<|Zk<|W<|Zb<|W<|Zr<|qB H 0 Z rS Z Z I I Z fun b5 o5 x5 e5=> ?_
 have hle2:=E1 ps (j+1)
 rw[uy e5.at_,ay]at hle2
 have hpx:=(hp _ (ab e5.at_)).below H.below
 refine G (aW d9 Z (e5.cl 0 _ Z))<|G (Ws Z)<|U<|Zr<|G (Ys Z)<|G (Ys Z)<|vP (Y:=dC) oT (K:=[]) (L:=L1) (M:=[]) H ho (news:=x5.2.1) Z Z Z (Rd.src hpx) I Z ?_
 intro A3 c3 w6 L3 h3a _ ho3 H
 refine G (Ws Z)<|U<|Zr<|G (bw Z Z I I)<|G (Yi Z)<|U ?_
 refine⟨(j+1,A3,c3),⟨by omega,L3,by rw[uy e5.at_];exact ho3,H⟩,li (by rw[uy e5.at_];rfl) Z,Qg,by show ps.length- (j+1)<ps.length-j;omega⟩
 refine U<|W<|ZF Z<|Zx<|W<|Zr<|G (Ys Z)<|G (Ws Z)<|U<|Zt ?_
 have hjp:j=ps.length:=by omega
 subst hjp
 rw[bN]at ho
 obtain⟨A2,c2,he,hlc,hmx⟩:=ho.form
 injection he with h1 h2 h3
 subst h3
 exact cH (v:=.slice Ag (xP (ps.take ps.length)).length cg) Z Z ⟨Ag,cg,L1,by rw[bN],hlc,hmx,ho,H.forget (by simp) (by simp)⟩
theorem Jx {n:UInt8} {r:List UInt8} {e:cz} {k:Nat} (h:tM (n::r)=some (e,k)):k=n.toNat+3:=by
 simp only[tM]at h
 split at h;· cases h
 split at h;· cases h
 split at h
 injection h with h;injection h with h1 h2;exact h2.symm
 cases h
theorem Ks {e:cz} (hg:kT e): ∃ n r,iN e=n::r/\n.toNat+3=(iN e).length:=by
 obtain⟨hl,_⟩:=vc hg
 refine⟨UInt8.ofNat (eQ e).length,_,rfl,?_⟩
 rw[BC,z6 _ I]
theorem Lu {e:cz} (hg:kT e) {k:Nat} (hk:k<(iN e).length) (rest:List UInt8):tM ((iN e++rest).take k)=none:=by
 obtain⟨n,r,he,hn⟩:=Ks hg
 rw[iu I,he]
 cases k with
 |zero=>rfl
 |succ k=>
  rw[na]
  cases hs:tM (n::r.take k)with
  |none=>rfl
  |some p=>
   obtain⟨e',j⟩:=p
   have h1:=Jx hs
   have h2:=(NH hs).2
   simp at h2
   omega
def tK:List cz->Nat->Nat
 |[],_=>0
 |e::es,k=>if(iN e).length<=k then 1+tK es (k- (iN e).length)else 0
theorem uY (e:cz) (es:List cz):bj (e::es)=iN e++bj es:=by simp[bj]
theorem GO: ∀ (es:List cz) (k:Nat),(∀ e∈es,kT e)->Jn ((bj es).take k) (es.take (tK es k)) (bj (es.take (tK es k))).length
 |[],k,_=>by
  have:(bj []).take k=[]:=by simp[bj]
  rw[this]
  exact .stop Z
 |e::es,k,hg=>by
  have hge:=hg e (az ..)
  rw[uY]
  unfold tK
  by_cases h:(iN e).length<=k
  rw[if_pos h,sv,na,uY,ay]
  have hd:=GO es (k- (iN e).length) fun x hx=>hg x (aj _ hx)
  have e1:(iN e++bj es).take k=iN e++(bj es).take (k- (iN e).length):=by
   rw[List.take_append,gk h]
  rw[e1]
  exact .go (Fu hge _) (by rw[List.drop_left];exact hd)
  rw[if_neg h]
  exact .stop (Lu hge I _)
theorem Fe: ∀ (es:List cz) (k:Nat),tK es k<=es.length
 |[],_=>ao _
 |e::es,k=>by
  unfold tK
  split
  have:=Fe es (k- (iN e).length);simp;omega
  exact bG _
theorem vx: ∀ (es:List cz) (k:Nat),(bj (es.take (tK es k))).length<=k
 |[],k=>by simp[bj]
 |e::es,k=>by
  unfold tK
  split
  rename_i h
  rw[sv,na,uY,ay]
  have:=vx es (k- (iN e).length)
  omega
  simp[bj]
theorem Ff: ∀ (es:List cz) (k s:Nat),s<=es.length->(bj (es.take s)).length<=k->s<=tK es k
 |_,_,0,_,_=>bG _
 |[],_,s+1,h,_=>by simp at h
 |e::es,k,s+1,h,hk=>by
  rw[na,uY,ay]at hk
  unfold tK
  rw[if_pos I]
  have:=Ff es (k- (iN e).length) s (by simpa using h) I
  omega
theorem Ij (es:List cz) (s:Nat):bj es=bj (es.take s)++bj (es.drop s):=by
 unfold bj;rw[<-nb,gQ]
theorem uI (es:List cz) (s:Nat):(bj es).take (bj (es.take s)).length=bj (es.take s):=by
 rw[Ij es s]
 exact List.take_left' Z
theorem ML (a b:List cz):bj (a++b)=bj a++bj b:=by simp[bj]
structure m7 where
 A:Option Addr
 cap:Nat
 es:List cz
 s:Nat
abbrev fW (es:List cz) (s:Nat):Nat:=(bj (es.take s)).length
def m7.c (l:m7):List Value:=[.slice l.A (bj l.es).length l.cap,J (fW l.es l.s:Nat)]
structure GL (es:List cz) (s:Nat):Prop where
 good: ∀ e∈es,kT e
 len:es.length<=400
 sz:(bj es).length<=40000
 sle:s<=es.length
structure m7.ok (l:m7) (w:World):Prop where
 gl:GL l.es l.s
 cap:(bj l.es).length<=l.cap
 rd:Rd dC 0 w.heap.size l.A (bj l.es) w
theorem xu {es:List cz} {s:Nat} (h:GL es s):Jn (bj (es.take s)) (es.take s) (fW es s):=uk _ fun e he=>h.good e (j9 _ _ he)
theorem yL (l:m7) (w:World) (h:l.ok w):dh aa yZ [.agg l.c.toArray] w fun v w2=>v=J 0/\Below w.heap.size w w2:=by
 refine aE EG Z Z ?_
 have hgl:=h.gl
 have hcap:=h.cap
 have hsz:=hgl.sz
 have hln:=hgl.len
 have hsle:=hgl.sle
 have hss:fW l.es l.s<=(bj l.es).length:=fo l.es l.s
 have H:=Hp.startRd h.rd
 obtain⟨lA,lc,es,s⟩:=l
 dsimp only at hgl hcap hsz hln hsle hss H
 have hss2:(bj (es.take s)).length<=(bj es).length:=hss
 show CW _ _ _ _ (args [.agg #[.slice lA (bj es).length lc,J (fW es s:Nat)]]) w
 refine W<|Zr<|f7 H Z Z fun w1 b1 H=>G (Wi Z)<|U<|W<|W<|Zr<|G (Zf gG Z)<|G (Zd d9 H 0 Z Z Z)<|G (br eO Z)<|G (eB Z Z I)<|U<|ZF Z<|Zk<|W<|Zr<|G (Zf gG Z)<|G (Zd d9 H 0 Z Z Z)<|ch kF (r9 (bj es) _ _ _ (H.rd0 0 Z) hcap I) Z Z ?_
 have hlo14:=H.size
 rintro _ w2 ⟨ds,nd,A14,c14,rfl,hd,hr14,hc14,hb14⟩;replace H:=H.learnRd hb14 hr14;clear hr14 hb14
 have hde:=(pU hd (uk es hgl.good)).1.symm
 have hdn:=(pU hd (uk es hgl.good)).2.symm
 subst hde;subst hdn;clear hd
 refine G (Yu Z)<|G (Xs Z Z)<|G (Xi Z Z)<|G (Ws Z)<|G (Wi Z)<|U<|W<|W<|Zr<|G (Yi Z)<|G (Zf gG Z)<|G (Zd d9 H 0 Z Z Z)<|G (br eO Z)<|G (bZ Z Z Z)<|G (Yb Z)<|ZG<|G (Ys Z)<|ZG<|G (br eH Z)<|ZG<|G (eB Z Z I)<|G (N Z Z)<|U<|ZF Z<|Zk<|W<|W<|Zr<|G (Zf ls Z)<|G (Zd ak H 0 Z Z Z)<|G (dd Z Z I)<|G (Yb Z)<|ZG<|G (Zf ls Z)<|ZG<|G (Zd ak H 0 Z Z Z)<|ZG<|G (Yi Z)<|ZG<|G (eB Z Z I) ?_
 refine G (N Z Z)<|U<|ZF Z<|Zk<|W<|W<|Zr<|G (Zf gG Z)<|G (Zd d9 H 0 Z Z Z)<|G (Zf ls Z)<|G (Zd ak H 0 Z Z Z)<|sF (k:=fW es s) H 1 Z ec Z Z hcap I Z fun A41 H=> ?_
 rw[uI]at H
 refine ch kF (r9 (bj (es.take s)) _ _ _ (H.rd0 0 Z) I I) Z Z ?_
 have hlo42:=H.size
 rintro _ w3 ⟨ds,nd,A42,c42,rfl,hd,hr42,hc42,hb42⟩;replace H:=H.learnRd hb42 hr42;clear hr42 hb42
 have hde:=(pU hd (xu hgl)).1.symm
 have hdn:=(pU hd (xu hgl)).2.symm
 subst hde;subst hdn;clear hd
 refine G (Yu Z)<|G (Xs Z Z)<|G (Xi Z Z)<|G (Ws Z)<|G (Wi Z)<|U<|W<|Zr<|G (Yi Z)<|G (Zf ls Z)<|G (Zd ak H 0 Z Z Z)<|G (bZ Z Z Z)<|U<|ZF Z<|Zk<|W<|Zr<|G (Wi Z)<|U<|Zt ?_
 exact cH Z Z ⟨rfl,H.below⟩
theorem Ca (l:m7) (w:World) (h:l.ok w):dh aa vC [.agg l.c.toArray] w fun v w2=> ∃ A' c',v=.tuple #[.slice A' l.es.length c',J (l.s:Nat),J 0]/\Rd gV w.heap.size w2.heap.size A' l.es w2/\l.es.length<=c'/\Below w.heap.size w w2:=by
 refine aE Bp Z Z ?_
 have hgl:=h.gl
 have hcap:=h.cap
 have hsz:=hgl.sz
 have hln:=hgl.len
 have hsle:=hgl.sle
 have hss:fW l.es l.s<=(bj l.es).length:=fo l.es l.s
 have H:=Hp.startRd h.rd
 obtain⟨lA,lc,es,s⟩:=l
 dsimp only at hgl hcap hsz hln hsle hss H
 have hss2:(bj (es.take s)).length<=(bj es).length:=hss
 show CW _ _ _ _ (args [.agg #[.slice lA (bj es).length lc,J (fW es s:Nat)]]) w
 refine W<|Zr<|f7 H Z Z fun w1 b1 H=>G (Ws Z)<|G (Wi Z)<|G (Wi Z)<|U<|W<|W<|Zr<|G (Zw eV H 0 Z Z Z)<|ch mY (yL ⟨lA,lc,es,s⟩ _ ⟨hgl,hcap,H.rd0 0 Z⟩) Z Z ?_
 rintro _ w2 ⟨rfl,hb⟩;replace H:=H.later hb;clear hb
 refine G (Wi Z)<|U<|W<|Zr<|G (Yi Z)<|G (bZ Z Z Z)<|U<|ZF Z<|Zk<|W<|Zr<|G (Zf gG Z)<|G (Zd d9 H 0 Z Z Z)<|ch kF (r9 (bj es) _ _ _ (H.rd0 0 Z) hcap I) Z Z ?_
 have hlo18:=H.size
 rintro _ w3 ⟨ds,nd,A18,c18,rfl,hd,hr18,hc18,hb18⟩;replace H:=H.learnRd hb18 hr18;clear hr18 hb18
 have hde:=(pU hd (uk es hgl.good)).1.symm
 have hdn:=(pU hd (uk es hgl.good)).2.symm
 subst hde;subst hdn;clear hd
 refine G (Yu Z)<|G (Xs Z Z)<|G (Xi Z Z)<|G (Ws Z)<|G (Wi Z)<|U<|W<|Zr<|G (Zf gG Z)<|G (Zd d9 H 0 Z Z Z)<|G (Zf ls Z)<|G (Zd ak H 0 Z Z Z)<|sF (k:=fW es s) H 1 Z ec Z Z hcap I Z fun A26 H=> ?_
 rw[uI]at H
 refine ch kF (r9 (bj (es.take s)) _ _ _ (H.rd0 0 Z) I I) Z Z ?_
 have hlo27:=H.size
 rintro _ w4 ⟨ds,nd,A27,c27,rfl,hd,hr27,hc27,hb27⟩;replace H:=H.learnRd hb27 hr27;clear hr27 hb27
 have hde:=(pU hd (xu hgl)).1.symm
 have hdn:=(pU hd (xu hgl)).2.symm
 subst hde;subst hdn;clear hd
 refine G (Yu Z)<|G (Xs Z Z)<|G (Xi Z Z)<|G (Ws Z)<|G (Wi Z)<|U<|W<|Zr<|G (Ys Z)<|G (Ys Z)<|G (br eH Z)<|G (Ws Z)<|G (Wi Z)<|G (Wi Z)<|U<|Zt ?_
 have hls:(es.take s).length=s:=by simp;omega
 have hrd:=Rd.mono (H.fact (i:=2) Z) hlo18 (H.facts _ (ab (i:=2) Z)).2.1
 exact Ik (v:=.slice A18 es.length c18) (v2:=J ((es.take s).length:Nat)) (v3:=J 0) Z Z Z Z ⟨A18,c18,by rw[hls],hrd,hc18,H.below⟩
theorem ik (A:Option Addr) (c:Nat) (es:List cz) (s:Nat) (w:World) (h:(⟨A,c,es,s⟩:m7).ok w):dh aa vC [.agg #[.slice A (bj es).length c,J (fW es s:Nat)]] w fun v w2=> ∃ A' c',v=.tuple #[.slice A' es.length c',J (s:Nat),J 0]/\Rd gV w.heap.size w2.heap.size A' es w2/\es.length<=c'/\Below w.heap.size w w2:=Ca ⟨A,c,es,s⟩ w h
theorem qP (A:Option Addr) (c:Nat) (es:List cz) (s:Nat) (w:World) (h:(⟨A,c,es,s⟩:m7).ok w):dh aa yZ [.agg #[.slice A (bj es).length c,J (fW es s:Nat)]] w fun v w2=>v=J 0/\Below w.heap.size w w2:=yL ⟨A,c,es,s⟩ w h
theorem lu (es:List UInt8) (A:Option Addr) (c:Nat) (w:World) (hr:Rd dC 0 w.heap.size A es w) (hb:es.length*1<=140737488355328):
  dh aa kV [.slice A es.length c] w fun v w2=> ∃ A' c',v=.slice A' es.length c'/\es.length<=c'/\Rd dC w.heap.size w2.heap.size A' es w2/\Below w.heap.size w w2:=
 (CG es A c w hr hb).mono fun v w2 ⟨A',c',L',h1,h2,_,h4,h5⟩=>⟨A',c',h1,h2,h4.rd (K:=[]) (M:=[]) (by simpa using h5),h5.below⟩
theorem xw (es:List Int) (A:Option Addr) (c:Nat) (w:World) (hr:Rd bR 0 w.heap.size A es w) (hb:es.length*8<=140737488355328):
  dh aa l7 [.slice A es.length c] w fun v w2=> ∃ A' c',v=.slice A' es.length c'/\es.length<=c'/\Rd bR w.heap.size w2.heap.size A' es w2/\Below w.heap.size w w2:=
 (s6 es A c w hr hb).mono fun v w2 ⟨A',c',L',h1,h2,_,h4,h5⟩=>⟨A',c',h1,h2,h4.rd (K:=[]) (M:=[]) (by simpa using h5),h5.below⟩
def yH (w w2:World) (A:Option Addr) (c:Nat) (es:List cz) (s:Nat):Prop:=GL es s/\(bj es).length<=c/\Rd dC w.heap.size w2.heap.size A (bj es) w2
theorem yH.ok {w w2:World} {A:Option Addr} {c:Nat} {es:List cz} {s:Nat} (h:yH w w2 A c es s):(⟨A,c,es,s⟩:m7).ok w2:=⟨h.1,h.2.1,h.2.2.mono (bG _) (ao _)⟩
theorem kP (es:List cz) (x:cz):bj (es++[x])=bj es++iN x:=by rw[ML,MK]
theorem wX {es:List cz} {s:Nat} (x:cz) (h:s<=es.length):fW (es++[x]) s=fW es s:=by unfold fW;rw[iu h]
def Cn (es:List cz) (x:cz):Prop:=es.length=400∨40000<(bj es).length+(iN x).length
theorem GL.snoc {es:List cz} {s:Nat} {x:cz} (h:GL es s) (hx:kT x) (hf: ¬ Cn es x):GL (es++[x]) s:=by
 unfold Cn at hf
 refine⟨fun e he=> ?_,by simp;have:=h.len;omega,by rw[kP,ay];omega,by simp;have:=h.sle;omega⟩
 rcases ap.1 he with he|he
 exact h.good e he
 rw[aq.1 he];exact hx
theorem GL.all {es:List cz} {s:Nat} (h:GL es s):GL es es.length:=⟨h.good,h.len,h.sz,ao _⟩
theorem GL.take {es:List cz} {s:Nat} (h:GL es s) (n:Nat) {t:Nat} (ht:t<=(es.take n).length):GL (es.take n) t:=⟨fun e he=>h.good e (j9 _ _ he),by simp;have:=h.len;omega,by have:=fo es n;have:=h.sz;omega,ht⟩
theorem D7 (l:m7) (x:cz) (w:World) (h:l.ok w) (hx:kT x) (hf: ¬ Cn l.es x):dh aa xd [.agg l.c.toArray,x.v] w fun v w2=> ∃ A' c',v=.tuple #[.agg (m7.c ⟨A',c',l.es++[x],l.s⟩).toArray,J 0]/\yH w w2 A' c' (l.es++[x]) l.s/\Below w.heap.size w w2:=by
 refine aE Cr Z Z ?_
 have hgl:=h.gl
 have hcap:=h.cap
 have hsz:=hgl.sz
 have hln:=hgl.len
 have hsle:=hgl.sle
 have hss:fW l.es l.s<=(bj l.es).length:=fo l.es l.s
 have H:=Hp.startRd h.rd
 obtain⟨lA,lc,es,s⟩:=l
 dsimp only at hgl hcap hsz hln hsle hss H
 have hss2:(bj (es.take s)).length<=(bj es).length:=hss
 show CW _ _ _ _ (args [.agg #[.slice lA (bj es).length lc,J (fW es s:Nat)],x.v]) w
 unfold Cn at hf
 dsimp only at hf
 have hel:=Jb hx
 refine W<|Zr<|f7 H Z Z fun w1 b2 H=>f7 H Z Z fun w2 b3 H=>eP H p6 Z fun w3 b4 H=>G (Wi Z)<|U<|W<|Zr<|G (Zw eV H 2 Z Z Z)<|ch gJ (ik lA lc es s _ ⟨hgl,hcap,H.rd0 0 Z⟩) Z Z ?_
 rintro _ w4 ⟨A12,c12,rfl,hr12,hc12,hb12⟩;replace H:=H.learnRd hb12 hr12;clear hr12 hb12
 refine G (Yu Z)<|G (Xs Z Z)<|G (Xi Z Z)<|G (Xi Z Z)<|G (Ws Z)<|G (Wi Z)<|G (Wi Z)<|U<|W<|W<|Zr<|G (Yi Z)<|G (bZ Z Z Z)<|U<|ZF Z<|Zk<|W<|Zr<|G (Zw dG H 1 Z Z Z)<|ch un (Du x _ hx) Z Z ?_
 rintro _ w6 ⟨A5,c5,rfl,hr5,hc5,hb5⟩;replace H:=H.learnRd hb5 hr5;clear hr5 hb5
 refine G (Yu Z)<|G (Xs Z Z)<|G (Xi Z Z)<|G (Ws Z)<|G (Wi Z)<|U<|W<|W<|Zr<|G (Yi Z)<|G (bZ Z Z Z)<|U<|ZF Z<|Zk<|W<|W<|Zr<|G (Ys Z)<|G (br eH Z)<|G (nS Z Z I)<|G (Yb Z)<|ZG<|G (Zf gG Z)<|ZG<|G (Zd d9 H 2 Z Z Z)<|ZG<|G (br eO Z)<|ZG<|G (Ys Z)<|ZG<|G (br eO Z)<|ZG<|G (bw Z Z I I)<|ZG<|G (eB Z Z I)<|G (N Z Z)<|U<|ZF Z<|Zk<|W ?_
 refine qW cd [0,2,5] [1,3,4,6,7,8,9] [0,2,5] 7 N N N Nq ?_
 refine aw Z Z Z Z Z (fun w' hw'=>Zf gG Z)<|aw Z Z Z Z Z (fun w' hw'=>Ys Z)<|aw Z Z Z Z Z (fun w' hw'=>Zf ls Z)<|aV ?_
 intro w7 hw';replace H:=H.later hw';clear hw'
 refine tH 1 6 N Z Z ?_ ?_
 refine G (Zd d9 H 2 Z Z Z)<|U ?_
 refine tH 3 6 N Z Z ?_ ?_
 refine s9 (vs:=[.slice lA (bj es).length lc,.slice A5 (iN x).length c5]) H rS DO Z Z Z Z Z Z fun w8 b45 H=> ?_
 have hcat:xP [(lA,bj es,lc),(A5,iN x,c5)]=bj (es++[x]):=by rw[kP];simp[xP]
 refine U ?_
 refine tH 4 6 N Z Z ?_ ?_
 have hC:=va [(lA,bj es,lc),(A5,iN x,c5)] (Qd b45) 2 _ (Rd.blk (H.ent (i:=0) Z) Z) (by intro p hp;simp at hp;rcases hp with rfl|rfl;exact H.rd0 2 Z;exact H.rd0 0 Z) (by rw[hcat,kP,ay];omega) (by simp)
 rw[hcat]at hC
 have hloX:=H.size
 refine ch fK hC Z Z ?_;rintro _ w9 ⟨AX,cX,LX,rfl,hcX,-,hoX,hjX⟩;replace H:=H.learnOwn hjX hoX
 refine U<|de 6 N Z<|G (Zd ak H 3 Z Z Z)<|U<|de 7 N Z<|G (bg (cs:= #[.slice AX (bj (es++[x])).length cX,J (fW es s:Nat)]) tN p6 N)<|U<|de 8 N Z<|bo H 1 (#[.slice AX (bj (es++[x])).length cX,J (fW es s:Nat)]) jl Z Z Z Z Z N N fun w10 H=>U<|de 9 N Z<|G (Wi Z)<|U<|cF N<|Zt ?_
 exact bE (cs0:= #[.slice AX (bj (es++[x])).length cX,J (fW es s:Nat)]) (v1:=J 0) Z eV Z (H.ent (i:=1) Z) Z Z ⟨AX,cX,by unfold m7.c;rw[wX _ hsle],⟨hgl.snoc hx (by unfold Cn;omega),hcX,Rd.mono (H.fact (i:=0) Z) hloX (H.facts _ (ab (i:=0) Z)).2.1⟩,H.below⟩
 refine G (Zd ak H 3 Z Z Z)<|U<|de 4 N Z ?_
 have hC:=va [(lA,bj es,lc),(A5,iN x,c5)] (Qd b45) 2 _ (Rd.blk (H.ent (i:=0) Z) Z) (by intro p hp;simp at hp;rcases hp with rfl|rfl;exact H.rd0 2 Z;exact H.rd0 0 Z) (by rw[hcat,kP,ay];omega) (by simp)
 rw[hcat]at hC
 have hloX:=H.size
 refine ch fK hC Z Z ?_;rintro _ w11 ⟨AX,cX,LX,rfl,hcX,-,hoX,hjX⟩;replace H:=H.learnOwn hjX hoX
 refine U<|de 7 N Z<|G (bg (cs:= #[.slice AX (bj (es++[x])).length cX,J (fW es s:Nat)]) tN p6 N)<|U<|de 8 N Z<|bo H 1 (#[.slice AX (bj (es++[x])).length cX,J (fW es s:Nat)]) jl Z Z Z Z Z N N fun w12 H=>U<|de 9 N Z<|G (Wi Z)<|U<|cF N<|Zt ?_
 exact bE (cs0:= #[.slice AX (bj (es++[x])).length cX,J (fW es s:Nat)]) (v1:=J 0) Z eV Z (H.ent (i:=1) Z) Z Z ⟨AX,cX,by unfold m7.c;rw[wX _ hsle],⟨hgl.snoc hx (by unfold Cn;omega),hcX,Rd.mono (H.fact (i:=0) Z) hloX (H.facts _ (ab (i:=0) Z)).2.1⟩,H.below⟩
 refine G (Zd ak H 2 Z Z Z)<|U<|de 3 N Z<|s9 (vs:=[.slice lA (bj es).length lc,.slice A5 (iN x).length c5]) H rS DO Z Z Z Z Z Z fun w13 b45 H=> ?_
 have hcat:xP [(lA,bj es,lc),(A5,iN x,c5)]=bj (es++[x]):=by rw[kP];simp[xP]
 refine U<|de 4 N Z ?_
 have hC:=va [(lA,bj es,lc),(A5,iN x,c5)] (Qd b45) 2 _ (Rd.blk (H.ent (i:=0) Z) Z) (by intro p hp;simp at hp;rcases hp with rfl|rfl;exact H.rd0 2 Z;exact H.rd0 0 Z) (by rw[hcat,kP,ay];omega) (by simp)
 rw[hcat]at hC
 have hloX:=H.size
 refine ch fK hC Z Z ?_;rintro _ w14 ⟨AX,cX,LX,rfl,hcX,-,hoX,hjX⟩;replace H:=H.learnOwn hjX hoX
 refine U<|de 7 N Z<|G (bg (cs:= #[.slice AX (bj (es++[x])).length cX,J (fW es s:Nat)]) tN p6 N)<|U<|de 8 N Z<|bo H 1 (#[.slice AX (bj (es++[x])).length cX,J (fW es s:Nat)]) jl Z Z Z Z Z N N fun w15 H=>U<|de 9 N Z<|G (Wi Z)<|U<|cF N<|Zt ?_
 exact bE (cs0:= #[.slice AX (bj (es++[x])).length cX,J (fW es s:Nat)]) (v1:=J 0) Z eV Z (H.ent (i:=1) Z) Z Z ⟨AX,cX,by unfold m7.c;rw[wX _ hsle],⟨hgl.snoc hx (by unfold Cn;omega),hcX,Rd.mono (H.fact (i:=0) Z) hloX (H.facts _ (ab (i:=0) Z)).2.1⟩,H.below⟩
 refine G (Zd ak H 2 Z Z Z)<|U<|de 1 N Z<|G (Zd d9 H 2 Z Z Z)<|U<|de 3 N Z<|s9 (vs:=[.slice lA (bj es).length lc,.slice A5 (iN x).length c5]) H rS DO Z Z Z Z Z Z fun w16 b45 H=> ?_
 have hcat:xP [(lA,bj es,lc),(A5,iN x,c5)]=bj (es++[x]):=by rw[kP];simp[xP]
 refine U<|de 4 N Z ?_
 have hC:=va [(lA,bj es,lc),(A5,iN x,c5)] (Qd b45) 2 _ (Rd.blk (H.ent (i:=0) Z) Z) (by intro p hp;simp at hp;rcases hp with rfl|rfl;exact H.rd0 2 Z;exact H.rd0 0 Z) (by rw[hcat,kP,ay];omega) (by simp)
 rw[hcat]at hC
 have hloX:=H.size
 refine ch fK hC Z Z ?_;rintro _ w17 ⟨AX,cX,LX,rfl,hcX,-,hoX,hjX⟩;replace H:=H.learnOwn hjX hoX
 refine U<|de 7 N Z<|G (bg (cs:= #[.slice AX (bj (es++[x])).length cX,J (fW es s:Nat)]) tN p6 N)<|U<|de 8 N Z<|bo H 1 (#[.slice AX (bj (es++[x])).length cX,J (fW es s:Nat)]) jl Z Z Z Z Z N N fun w18 H=>U<|de 9 N Z<|G (Wi Z)<|U<|cF N<|Zt ?_
 exact bE (cs0:= #[.slice AX (bj (es++[x])).length cX,J (fW es s:Nat)]) (v1:=J 0) Z eV Z (H.ent (i:=1) Z) Z Z ⟨AX,cX,by unfold m7.c;rw[wX _ hsle],⟨hgl.snoc hx (by unfold Cn;omega),hcX,Rd.mono (H.fact (i:=0) Z) hloX (H.facts _ (ab (i:=0) Z)).2.1⟩,H.below⟩
theorem Ot (es:List cz):fW es es.length=(bj es).length:=by unfold fW;rw[bN]
theorem F7 {es:List cz} {a b:Nat} (h:a<=b):fW es a<=fW es b:=by
 have:=fo (es.take b) a
 unfold fW
 rwa[dk,bu h]at this
theorem Oq (es:List cz) (s n:Nat):min ((fW es s:Nat):Int) ((fW es n:Nat):Int)=(fW (es.take n) (min s n):Nat):=by
 have e:fW (es.take n) (min s n)=fW es (min s n):=by
  unfold fW;rw[dk,bu (Nat.min_le_right _ _)]
 rw[e]
 by_cases h:s<=n
 have:=F7 (es:=es) h
 rw[bu h];omega
 have:=F7 (es:=es) (show n<=s by omega)
 rw[Nat.min_eq_right I];omega
theorem Rd.cut0 {α:Type} {Y:fq α} {lo hi cap sz:Nat} {A:Option Addr} {es:List α} {w:World} (h:Rd Y lo hi A es w) (k:Nat):Rd Y lo hi (cut A cap 0 sz) (es.take k) w:=by
 have e:cut A cap 0 sz=A:=by
  unfold cut
  split
  rfl
  cases A<;>simp[Addr.add]
 rw[e]
 exact h.take k
def jZ (es:List cz) (s keep:Nat):Nat:=tK es (fW es s+min keep ((bj es).length-fW es s))
theorem KB {es:List cz} {s keep:Nat} (h:s<=es.length):s<=jZ es s keep:=Ff es _ s h (by unfold fW;omega)
theorem Dz (es:List cz) (s keep:Nat):jZ es s keep<=es.length:=Fe _ _
theorem Ho (l:m7) (w:World) (h:l.ok w):dh aa Ba [.agg l.c.toArray] w fun v w2=> ∃ A' c',v=.tuple #[.agg (m7.c ⟨A',c',l.es,l.es.length⟩).toArray,J 0]/\yH w w2 A' c' l.es l.es.length/\Below w.heap.size w w2:=by
 refine aE Gz Z Z ?_
 have hgl:=h.gl
 have hcap:=h.cap
 have hsz:=hgl.sz
 have hln:=hgl.len
 have hsle:=hgl.sle
 have hss:fW l.es l.s<=(bj l.es).length:=fo l.es l.s
 have H:=Hp.startRd h.rd
 obtain⟨lA,lc,es,s⟩:=l
 dsimp only at hgl hcap hsz hln hsle hss H
 have hss2:(bj (es.take s)).length<=(bj es).length:=hss
 show CW _ _ _ _ (args [.agg #[.slice lA (bj es).length lc,J (fW es s:Nat)]]) w
 refine W<|Zr<|f7 H Z Z fun w1 b1 H=>eP H p6 Z fun w2 b2 H=>G (Wi Z)<|U<|W<|W<|Zr<|G (Zw eV H 1 Z Z Z)<|ch mY (qP lA lc es s _ ⟨hgl,hcap,H.rd0 0 Z⟩) Z Z ?_
 rintro _ w3 ⟨rfl,hb⟩;replace H:=H.later hb;clear hb
 refine G (Wi Z)<|U<|W<|Zr<|G (Yi Z)<|G (bZ Z Z Z)<|U<|ZF Z<|Zk<|W ?_
 have hlo:=H.size
 refine bA cd [0,1,3,4,5,2,6] [7,8] [2] [0,3,5,6] (sp [(2,Sp.row w3.heap.size dC (bj es))]) N N N N Nq (cI _) ?_
 refine aw Z Z Z Z Z (fun w' hw'=>Zf gG Z)<|aw Z Z Z Z Z (fun w' hw'=>aW d9 Z (aB ((H.later hw').ent (i:=1) Z) Z))<|aw Z Z Z Z Z (fun w' hw'=>Zf gG Z)<|aw Z Z Z Z Z (fun w' hw'=>aW d9 Z (aB ((H.later hw').ent (i:=1) Z) Z))<|aw Z Z Z Z Z (fun w' hw'=>br eO Z)<|DC fi Z Z Z Z Z (fun w' hw'=>hw'.size) (fun w' hw'=>lu (bj es) _ _ w' ((H.later hw').rd0 0 Z) I) Z fun A13 c13 hc13=>aw Z Z Z Z Z (fun w' hw'=>bg (cs:= #[.slice A13 (bj es).length c13,J ((bj es).length:Nat)]) tN p6 N)<|aV ?_
 intro w4 hw' hF
 obtain⟨hF,Aq,cq,eq,hcq,hrw13⟩:=hF;cases eq;clear hcq
 replace H:=H.learnRd hw' hrw13
 clear hw' hF
 refine bo H 0 (#[.slice A13 (bj es).length c13,J ((bj es).length:Nat)]) jl Z Z Z Z Z N N fun w5 H=>G (Wi Z)<|U<|Zt ?_
 exact bE (cs0:= #[.slice A13 (bj es).length c13,J ((bj es).length:Nat)]) (v1:=J 0) Z eV Z (H.ent (i:=0) Z) Z Z ⟨A13,c13,by unfold m7.c;rw[Ot],⟨hgl.all,hc13,Rd.mono (H.fact (i:=0) Z) hlo (H.facts _ (ab (i:=0) Z)).2.1⟩,H.below⟩
theorem JI (l:m7) (n:Nat) (w:World) (h:l.ok w) (hn:n<=l.es.length):dh aa Dn [.agg l.c.toArray,J (n:Nat)] w fun v w2=> ∃ A' c',v=.tuple #[.agg (m7.c ⟨A',c',l.es.take n,min l.s n⟩).toArray,J 0]/\yH w w2 A' c' (l.es.take n) (min l.s n)/\Below w.heap.size w w2:=by
 refine aE Ig Z Z ?_
 have hgl:=h.gl
 have hcap:=h.cap
 have hsz:=hgl.sz
 have hln:=hgl.len
 have hsle:=hgl.sle
 have hss:fW l.es l.s<=(bj l.es).length:=fo l.es l.s
 have H:=Hp.startRd h.rd
 obtain⟨lA,lc,es,s⟩:=l
 dsimp only at hgl hcap hsz hln hsle hss H
 have hss2:(bj (es.take s)).length<=(bj es).length:=hss
 show CW _ _ _ _ (args [.agg #[.slice lA (bj es).length lc,J (fW es s:Nat)],J (n:Nat)]) w
 dsimp only at hn
 refine W<|Zr<|f7 H Z Z fun w1 b2 H=>eP H p6 Z fun w2 b4 H=>G (Wi Z)<|U<|W<|Zr<|G (Zw eV H 1 Z Z Z)<|ch gJ (ik lA lc es s _ ⟨hgl,hcap,H.rd0 0 Z⟩) Z Z ?_
 rintro _ w3 ⟨A16,c16,rfl,hr16,hc16,hb16⟩;replace H:=H.learnRd hb16 hr16;clear hr16 hb16
 refine G (Yu Z)<|G (Xs Z Z)<|G (Xi Z Z)<|G (Xi Z Z)<|G (Ws Z)<|G (Wi Z)<|G (Wi Z)<|U<|W<|W<|Zr<|G (Yi Z)<|G (bZ Z Z Z)<|U<|ZF Z<|Zk<|W<|W<|Zr<|G (Yi Z)<|G (dd Z Z I)<|G (Yb Z)<|ZG<|G (Yi Z)<|ZG<|G (Ys Z)<|ZG<|G (br eH Z)<|ZG<|G (eB Z Z I)<|G (N Z Z)<|U<|ZF Z<|Zk<|W<|W<|Zr<|G (Yi Z)<|G (Ys Z)<|G (br eH Z) ?_
 refine cW (bn Z Z) Z Z Z (fun h36=> ?_) (fun h36=> ?_)
 refine U<|ZT Z<|W ?_
 have hlo:=H.size
 refine bA cd [0,1,3,4,2,5] [6,7] [2] [0,3,5] (sp [(2,Sp.row w3.heap.size dC (bj es))]) N N N N Nq (cI _) ?_
 refine aw Z Z Z Z Z (fun w' hw'=>Zf gG Z)<|aw Z Z Z Z Z (fun w' hw'=>aW d9 Z (aB ((H.later hw').ent (i:=1) Z) Z))<|aw Z Z Z Z Z (fun w' hw'=>Zf ls Z)<|aw Z Z Z Z Z (fun w' hw'=>aW ak Z (aB ((H.later hw').ent (i:=1) Z) Z))<|DC fi Z Z Z Z Z (fun w' hw'=>hw'.size) (fun w' hw'=>lu (bj es) _ _ w' ((H.later hw').rd0 1 Z) I) Z fun A39 c39 hc39=>aw Z Z Z Z Z (fun w' hw'=>bg (cs:= #[.slice A39 (bj es).length c39,J (fW es s:Nat)]) tN p6 N)<|aV ?_
 intro w4 hw' hF
 obtain⟨hF,Aq,cq,eq,hcq,hrw39⟩:=hF;cases eq;clear hcq
 replace H:=H.learnRd hw' hrw39
 clear hw' hF
 refine bo H 0 (#[.slice A39 (bj es).length c39,J (fW es s:Nat)]) jl Z Z Z Z Z N N fun w5 H=>G (Wi Z)<|U<|Zt ?_
 have hnl:n=es.length:=by omega
 subst hnl
 exact bE (cs0:= #[.slice A39 (bj es).length c39,J (fW es s:Nat)]) (v1:=J 0) Z eV Z (H.ent (i:=0) Z) Z Z ⟨A39,c39,by unfold m7.c;rw[bu hsle,bN],⟨by rw[bu hsle,bN];exact hgl,by rw[bN];exact hc39,by rw[bN];exact Rd.mono (H.fact (i:=0) Z) hlo (H.facts _ (ab (i:=0) Z)).2.1⟩,H.below⟩
 refine U<|ZF Z<|Zk<|W<|Zr<|G (Wi Z)<|U<|W<|W<|Zr<|G (Ys Z)<|G (Yi Z)<|sF (k:=n) H 0 Z dV Z Z hc16 I Z fun A45 H=>G (br eH Z)<|G (Yi Z)<|U<|Zb ?_
 refine cD (τ:=Nat) [9,11,12,13,47,48,49,50,51,52,53,54,55,56,57,58,59,60] (fun k=>[(9,J (fW es k:Nat)),(47,J (k:Nat))]) (fun k w'=>k<=n/\Hp w w' [(b4,.cells #[.slice none 0 0,J 0] BW (0,0)),(b2,.cells #[.slice lA (bj es).length lc,J (fW es s:Nat)] BW (0,0))] [dU gV w2.heap.size w3.heap.size A45 (es.take n),dU gV w2.heap.size w3.heap.size A16 es,dU dC 0 w.heap.size lA (bj es)]) (fun k=>n-k) 0 ⟨by omega,H⟩ (li Z Z) ?_
 rintro k ρ1 w6 ⟨hk,H⟩
 show CW _ _ _ _ (dH (gZ _ _ ρ1) [(9,J (fW es k:Nat)),(47,J (k:Nat))]) w6
 have hsk0:fW es k<=(bj es).length:=fo es k
 refine W<|Zr ?_
 refine cW (cK Z Z) Z Z Z (fun h48=> ?_) (fun h48=> ?_)
 refine U<|W<|ZT Z<|Zk<|W<|Zb<|W<|Zr ?_
 have htl:(es.take n).length=n:=by simp;omega
 refine qB H 0 Z dV Z Z I I Z fun b7 o7 x7 e7=> ?_
 have hxk:es[k]? =some x7:=by have:=e7.at_;rwa[fb I]at this
 have hg:=hgl.good _ (ab hxk)
 have hsk:=fo es (k+1)
 rw[uh hxk,ay]at hsk
 have hsk2:fW es k+(iN x7).length<=(bj es).length:=hsk
 refine G (j7 (xs:=cz.c x7) dG Z Z e7.cl)<|eP H gu Z fun w8 b11 H=>Lx H 0 eW Z Z Z Z Z Z fun w9 H=>U<|W<|Zr<|G (Zw dG H 0 Z Z Z)<|ch un (Du x7 _ hg) Z Z ?_
 rintro _ w11 ⟨A10,c10,rfl,hr10,hc10,hb10⟩;replace H:=H.learnRd hb10 hr10;clear hr10 hb10
 refine G (Yu Z)<|G (Xs Z Z)<|G (Xi Z Z)<|G (Ws Z)<|G (Wi Z)<|U<|Zr<|G (Yi Z)<|G (Ys Z)<|G (br eO Z)<|G (bw Z Z I I)<|G (Wi Z)<|U<|Zr<|G (bw Z Z I I)<|G (Yi Z)<|U ?_
 refine⟨k+1,⟨by omega,H.forget (aY _ _) (fun _ h=>aj _ h)⟩,li (by show _=Value.int .i64 ((fW es (k+1):Nat):Int);unfold fW;rw[uh hxk,ay];rfl) Z,Qg,by show n- (k+1)<n-k;omega⟩
 have hkn:n=k:=by omega
 subst hkn
 refine U<|W<|ZF Z<|Zx<|W ?_
 have hlo:=H.size
 refine bA cd [0,1,2,3,5,6,7,8,4,9] [10,11] [4] [0,2,3,5,7,8,9] (sp [(4,Sp.row w6.heap.size dC (bj (es.take n)))]) N N N N Nq (cI _) ?_
 refine aw Z Z Z Z Z (fun w' hw'=>Zf gG Z)<|aw Z Z Z Z Z (fun w' hw'=>aW d9 Z (aB ((H.later hw').ent (i:=1) Z) Z))<|aw Z Z Z Z Z (fun w' hw'=>Yi Z)<|aw Z Z Z Z Z (fun w' hw'=>DY (i:=((fW es n:Nat):Int)) ec Z Z I (by have:=fo es n;show((fW es n:Nat):Int)<=_;unfold fW;omega))<|aw Z Z Z Z Z (fun w' hw'=>Zf ls Z)<|aw Z Z Z Z Z (fun w' hw'=>aW ak Z (aB ((H.later hw').ent (i:=1) Z) Z))<|aw Z Z Z Z Z (fun w' hw'=>Yi Z)<|aw Z Z Z Z Z (fun w' hw'=>tR Z Z)<|DC fi Z Z Z Z Z (fun w' hw'=>hw'.size) (fun w' hw'=>lu (bj (es.take n)) _ _ w' (by have:=Rd.cut0 (cap:=lc) (sz:=1) ((H.later hw').rd0 2 Z) (fW es n);rwa[uI]at this) (by have:=fo es n;omega)) Z fun A65 c65 hc65=>aw Z Z Z Z Z (fun w' hw'=>bg (cs:= #[.slice A65 (bj (es.take n)).length c65,J (min ((fW es s:Nat):Int) ((fW es n:Nat):Int))]) tN p6 N)<|aV ?_
 intro w12 hw' hF
 obtain⟨hF,Aq,cq,eq,hcq,hrw65⟩:=hF;cases eq;clear hcq
 replace H:=H.learnRd hw' hrw65
 clear hw' hF
 refine bo H 0 (#[.slice A65 (bj (es.take n)).length c65,J (min ((fW es s:Nat):Int) ((fW es n:Nat):Int))]) jl Z Z Z Z Z N N fun w13 H=>G (Wi Z)<|U<|Zt ?_
 exact bE (cs0:= #[.slice A65 (bj (es.take n)).length c65,J (min ((fW es s:Nat):Int) ((fW es n:Nat):Int))]) (v1:=J 0) Z eV Z (H.ent (i:=0) Z) Z Z ⟨A65,c65,by unfold m7.c;rw[Oq],⟨hgl.take n (by simp;omega),hc65,Rd.mono (H.fact (i:=0) Z) hlo (H.facts _ (ab (i:=0) Z)).2.1⟩,H.below⟩
theorem FD (l:m7) (keep:Nat) (w:World) (h:l.ok w) (hkb:keep<=1000000000000):dh aa Gh [.agg l.c.toArray,J (keep:Nat)] w fun v w2=> ∃ A' c',v=.tuple #[.agg (m7.c ⟨A',c',l.es.take (jZ l.es l.s keep),jZ l.es l.s keep⟩).toArray,J 0]/\yH w w2 A' c' (l.es.take (jZ l.es l.s keep)) (jZ l.es l.s keep)/\Below w.heap.size w w2:=by
 refine aE EF Z Z ?_
 have hgl:=h.gl
 have hcap:=h.cap
 have hsz:=hgl.sz
 have hln:=hgl.len
 have hsle:=hgl.sle
 have hss:fW l.es l.s<=(bj l.es).length:=fo l.es l.s
 have H:=Hp.startRd h.rd
 obtain⟨lA,lc,es,s⟩:=l
 dsimp only at hgl hcap hsz hln hsle hss H
 have hss2:(bj (es.take s)).length<=(bj es).length:=hss
 show CW _ _ _ _ (args [.agg #[.slice lA (bj es).length lc,J (fW es s:Nat)],J (keep:Nat)]) w
 dsimp only
 have hmle:=Dz es s keep
 have hfl:=vx es (fW es s+min keep ((bj es).length-fW es s))
 have hdt:=GO es (fW es s+min keep ((bj es).length-fW es s)) hgl.good
 change Jn _ (es.take (jZ es s keep)) (bj (es.take (jZ es s keep))).length at hdt
 change (bj (es.take (jZ es s keep))).length<=_ at hfl
 generalize jZ es s keep=m at*
 have hfm:=fo es m
 have hlk:((bj es).take (fW es s+min keep ((bj es).length-fW es s))).length=(fW es s+min keep ((bj es).length-fW es s)):=by rw[aI];omega
 refine W<|Zr<|f7 H Z Z fun w1 b2 H=>eP H p6 Z fun w2 b4 H=>G (Wi Z)<|U<|W<|W<|Zr<|G (Zw eV H 1 Z Z Z)<|ch mY (qP lA lc es s _ ⟨hgl,hcap,H.rd0 0 Z⟩) Z Z ?_
 rintro _ w3 ⟨rfl,hb⟩;replace H:=H.later hb;clear hb
 refine G (Wi Z)<|U<|W<|Zr<|G (Yi Z)<|G (bZ Z Z Z)<|U<|ZF Z<|Zk<|W<|W<|Zr<|G (Yi Z)<|G (dd Z Z I)<|U<|ZF Z<|Zk<|W<|Zr<|G (Zf gG Z)<|G (Zd d9 H 1 Z Z Z)<|G (br eO Z)<|G (Zf ls Z)<|G (Zd ak H 1 Z Z Z)<|G (jf Z Z I I)<|G (Wi Z)<|U<|W<|Zr<|G (Zf gG Z)<|G (Zd d9 H 1 Z Z Z)<|G (Zf ls Z)<|G (Zd ak H 1 Z Z Z)<|G (Yi Z)<|G (Yi Z)<|G (tR Z Z)<|G (bw Z Z I I)<|sF (k:=(fW es s+min keep ((bj es).length-fW es s))) H 0 Z ec Z (show Value.int .i64 (((fW es s:Nat):Int)+min ((keep:Nat):Int) ((((bj es).length:Nat):Int)- ((fW es s:Nat):Int)))=J ((fW es s+min keep ((bj es).length-fW es s)):Nat) by congr 1;omega) hcap I Z fun A34 H=> ?_
 have hD:=r9 ((bj es).take (fW es s+min keep ((bj es).length-fW es s))) A34 lc _ (H.rd0 0 Z) I I
 rw[hlk]at hD
 refine ch kF hD Z Z ?_;rintro _ w4 ⟨fs,n,A35,c35,rfl,hd35,hr35,hc35,hb35⟩;replace H:=H.learnRd hb35 hr35;clear hr35 hb35
 obtain⟨rfl,rfl⟩:=pU hdt hd35
 refine G (Yu Z)<|G (Xs Z Z)<|G (Xi Z Z)<|G (Ws Z)<|G (Wi Z)<|U<|W<|Zr<|G (Zf gG Z)<|G (Zd d9 H 1 Z Z Z)<|G (Yi Z)<|sF (k:=(bj (es.take m)).length) H 2 Z ec Z Z hcap I Z fun A41 H=> ?_
 rw[uI]at H
 have hlo:=H.size
 refine ch fi (lu (bj (es.take m)) A41 lc _ (H.rd0 0 Z) I) Z Z ?_;rintro _ w5 ⟨A42,c42,rfl,hc42,hr42,hb42⟩;replace H:=H.learnRd hb42 hr42;clear hr42 hb42
 refine G (Yi Z)<|G (bg (cs:= #[.slice A42 (bj (es.take m)).length c42,J ((bj (es.take m)).length:Nat)]) tN p6 N)<|bo H 0 (#[.slice A42 (bj (es.take m)).length c42,J ((bj (es.take m)).length:Nat)]) jl Z Z Z Z Z N N fun w6 H=>G (Wi Z)<|U<|Zt ?_
 exact bE (cs0:= #[.slice A42 (bj (es.take m)).length c42,J ((bj (es.take m)).length:Nat)]) (v1:=J 0) Z eV Z (H.ent (i:=0) Z) Z Z ⟨A42,c42,by unfold m7.c;rw[show fW (es.take m) m=(bj (es.take m)).length from by unfold fW;rw[gk (by rw[aI];omega)]],⟨hgl.take m (by simp;omega),hc42,Rd.mono (H.fact (i:=0) Z) hlo (H.facts _ (ab (i:=0) Z)).2.1⟩,H.below⟩
/-- a replica, and where its log's bytes lie -/
structure fk where
 up:Bool
 A:Option Addr
 cap:Nat
 es:List cz
 s:Nat
 high:Int
 lo:Nat
 hi:Nat
def fk.c (r:fk):List Value:=[.bool r.up,.slice r.A (bj r.es).length r.cap,J (fW r.es r.s:Nat),J r.high]
def g8:fq fk:=⟨fk.c,4,fun _=>rfl,by decide,fun a u hu=>by
 simp only[fk.c,ax,bU,or_false]at hu
 rcases hu with h|h|h|h<;>subst h<;>rfl⟩
def eX:fq Bool:=⟨fun n=>[.bool n],1,fun _=>rfl,by decide,fun a u hu=>by
 simp only[aq]at hu;subst hu;rfl⟩
abbrev fk.log (r:fk):m7:=⟨r.A,r.cap,r.es,r.s⟩
abbrev Cb (r:fk):cB:=dU dC r.lo r.hi r.A (bj r.es)
abbrev te (rs:List fk):List cB:=rs.map Cb
structure RA where
 up:Bool
 es:List cz
 s:Nat
 high:Int
def fk.a (r:fk):RA:=⟨r.up,r.es,r.s,r.high⟩
structure fD where
 epoch:Int
 leader:Int
 isr:List Bool
 known:List Int
 reps:List RA
 few:Int
 base:Int
structure Pa where
 epoch:Int
 leader:Int
 isr:List Bool
 iA:Option Addr
 iC:Nat
 known:List Int
 kA:Option Addr
 kC:Nat
 reps:List fk
 rA:Option Addr
 rC:Nat
 few:Int
 base:Int
def Pa.c (p:Pa):List Value:=[J p.epoch,J p.leader,.slice p.iA p.isr.length p.iC,.slice p.kA p.known.length p.kC,.slice p.rA p.reps.length p.rC,J p.few,J p.base]
abbrev Pa.v (p:Pa):Value:=.agg p.c.toArray
def Pa.a (p:Pa):fD:=⟨p.epoch,p.leader,p.isr,p.known,p.reps.map fk.a,p.few,p.base⟩
structure Pa.rd (p:Pa) (lo hi:Nat) (w:World):Prop where
 isr:Rd eX lo hi p.iA p.isr w
 known:Rd bR lo hi p.kA p.known w
 reps:Rd g8 lo hi p.rA p.reps w
 logs: ∀ r∈p.reps,Rd dC lo hi r.A (bj r.es) w
 iC:p.isr.length<=p.iC
 kC:p.known.length<=p.kC
 rC:p.reps.length<=p.rC
 cap: ∀ r∈p.reps,(bj r.es).length<=r.cap
 few:p.isr.length<=1000000/\p.known.length<=1000000/\p.reps.length<=1000000
theorem Pa.rd.st {p:Pa} {lo hi:Nat} {w w':World} (hk: ∀ k,lo<=k->k<hi->w'.heap[k]? =w.heap[k]?) (h:p.rd lo hi w):p.rd lo hi w':=
 ⟨h.isr.st hk,h.known.st hk,h.reps.st hk,fun r hr=>(h.logs r hr).st hk,h.iC,h.kC,h.rC,h.cap,h.few⟩
theorem Pa.rd.mono {p:Pa} {lo hi lo' hi':Nat} {w:World} (h:p.rd lo hi w) (hl:lo'<=lo) (hh:hi<=hi'):p.rd lo' hi' w:=
 ⟨h.isr.mono hl hh,h.known.mono hl hh,h.reps.mono hl hh,fun r hr=>(h.logs r hr).mono hl hh,h.iC,h.kC,h.rC,h.cap,h.few⟩
def DM (lo hi:Nat) (p:Pa):cB:=⟨lo,hi,p.rd lo hi,fun _ _ hk h=>h.st hk⟩
structure RA.ok (r:RA):Prop where
 gl:GL r.es r.s
 high0:0<=r.high
 high1:r.high<=r.es.length
structure fD.ok (p:fD):Prop where
 n1:1<=p.reps.length
 n2:p.reps.length<=5
 isrl:p.isr.length=p.reps.length
 knownl:p.known.length=p.reps.length
 few1:1<=p.few
 few2:p.few<=p.reps.length
 ep0:0<=p.epoch
 ep1:p.epoch<=1073741824
 ld0: -1<=p.leader
 ld1:p.leader<p.reps.length
 base0:0<=p.base
 base1:p.base<=400
 some_:true∈p.isr
 lead: ∀ (l:Nat) (r:RA),p.leader=l->p.reps[l]? =some r->p.isr[l]? =some true/\r.up=true
 reps: ∀ r∈p.reps,r.ok
 known: ∀ n∈p.known,0<=n/\n<=400
theorem Hp.startPa {p:Pa} {w:World} (h:p.rd 0 w.heap.size w):Hp w w [] [DM 0 w.heap.size p,dU eX 0 w.heap.size p.iA p.isr,dU bR 0 w.heap.size p.kA p.known,dU g8 0 w.heap.size p.rA p.reps]:=
 ((((Hp.start w).learnOld (dU g8 0 w.heap.size p.rA p.reps) h.reps (ao _)).learnOld (dU bR 0 w.heap.size p.kA p.known) h.known (ao _)).learnOld (dU eX 0 w.heap.size p.iA p.isr) h.isr (ao _)).learnOld (DM 0 w.heap.size p) h (ao _)
theorem Hp.pa {w0 w:World} {L:List (Nat×Obj)} {F:List cB} {lo hi:Nat} {p:Pa} (H:Hp w0 w L F) (i:Nat) (hF:F[i]? =some (DM lo hi p)):p.rd 0 w.heap.size w:=
 Pa.rd.mono (H.fact hF) (bG _) (H.facts _ (ab hF)).2.1
theorem Pa.rd.nil (lo hi:Nat) (w:World):Pa.rd ⟨0,0,[],none,0,[],none,0,[],none,0,0,0⟩ lo hi w:=
 ⟨Rd.nil,Rd.nil,Rd.nil,fun r hr=>by simp at hr,by simp,by simp,by simp,fun r hr=>by simp at hr,by simp⟩
def zY:Pa:=⟨0,0,[],none,0,[],none,0,[],none,0,0,0⟩
def gw:fD:=⟨0,0,[],[],[],0,0⟩
def eA (w w2:World) (p:Pa):Prop:=p.rd w.heap.size w2.heap.size w2/\Below w.heap.size w w2
theorem eA.zero {w w2:World} (h:Below w.heap.size w w2):eA w w2 zY:=⟨Pa.rd.nil _ _ _,h⟩
structure G3 (w w2:World) (p:Pa) (g1 g2 g3:Nat) (c1 c2 c3:Array Value):Prop where
 i:p.iA=some ⟨g1,0,none⟩
 k:p.kA=some ⟨g2,0,none⟩
 r:p.rA=some ⟨g3,0,none⟩
 ri:dX eX p.isr p.iC c1
 rk:dX bR p.known p.kC c2
 rr:dX g8 p.reps p.rC c3
 cap: ∀ r∈p.reps,(bj r.es).length<=r.cap
 los: ∀ r∈p.reps,w.heap.size<=r.lo
 few:p.isr.length<=1000000/\p.known.length<=1000000/\p.reps.length<=1000000
 hp:Hp w w2 [(g1,.cells c1 jr (0,0)),(g2,.cells c2 db (0,0)),(g3,.cells c3 fZ (0,0))] (te p.reps)
theorem G3.new {w w2:World} {p:Pa} {g1 g2 g3:Nat} {c1 c2 c3:Array Value} (h:G3 w w2 p g1 g2 g3 c1 c2 c3):eA w w2 p:=by
 have H:=h.hp
 have e1:=H.ents _ (fM _)
 have e2:=H.ents _ (qK _ (fM _))
 have e3:=H.ents _ (qK _ (qK _ (fM _)))
 refine⟨⟨?_,?_,?_,fun r hr=> ?_,h.ri.le,h.rk.le,h.rr.le,h.cap,h.few⟩,H.below⟩
 rw[h.i];exact(h.ri.rd e1.1).mono e1.2 (ce e1.1)
 rw[h.k];exact(h.rk.rd e2.1).mono e2.2 (ce e2.1)
 rw[h.r];exact(h.rr.rd e3.1).mono e3.2 (ce e3.1)
 obtain⟨f1,f2,-⟩:=H.facts (Cb r) (bS hr)
 exact Rd.mono f1 (h.los r hr) f2
theorem CH (es:List Bool) (A:Option Addr) (c:Nat) (w:World) (hr:Rd eX 0 w.heap.size A es w) (hb:es.length*1<=140737488355328):
  dh aa qD [.slice A es.length c] w fun v w2=> ∃ A' c' L',v=.slice A' es.length c'/\es.length<=c'/\c'<=maxLen/\gz eX (.slice A' es.length c') jr es L'/\Hp w w2 L' []:=by
 refine aE qj Z Z ?_
 have H:=Hp.startRd hr
 refine W<|Zr<|G (Ws Z)<|U<|W<|W<|Zr<|G (Ys Z) ?_
 refine wW (qO yh Z) Z Z Z (fun h4=> ?_) (fun h4=> ?_)
 refine U<|ZT Z<|W<|Zr<|G (Ws Z)<|U<|Zt ?_
 have he:es=[]:=by
  cases es with
  |nil=>rfl
  |cons e es=>obtain⟨b,o,hA,_⟩:=hr (by simp);subst hA;cases h4
 subst he
 exact cH Z Z ⟨none,0,[],rfl,by simp,by decide,gz.nil,H.forget (by simp) (by simp)⟩
 refine U<|ZF Z<|Zk<|W<|Zr<|Pe H ed Z fun w1 b5 H=>G (Ys Z)<|vP (Y:=eX) Ni (K:=[]) (L:=[(b5,_)]) (M:=[]) H (sj.lit (by decide) (by rfl)) (es:=[]) (news:=es) Z Z Z (Rd.src (H.fact (i:=0) Z)) (by simpa using hb) Z ?_
 intro A3 c3 w3 L3 h3a h3b ho3 H
 refine G (Ws Z)<|U<|Zt ?_
 exact cH Z Z ⟨A3,c3,L3,rfl,h3a,h3b,ho3,H.forget (by simp) (by simp)⟩
theorem yx (es:List fk) (A:Option Addr) (c:Nat) (w:World) (hr:Rd g8 0 w.heap.size A es w) (hb:es.length*48<=140737488355328):
  dh aa nc [.slice A es.length c] w fun v w2=> ∃ A' c' L',v=.slice A' es.length c'/\es.length<=c'/\c'<=maxLen/\gz g8 (.slice A' es.length c') fZ es L'/\Hp w w2 L' []:=by
 refine aE mS Z Z ?_
 have H:=Hp.startRd hr
 refine W<|Zr<|G (Ws Z)<|U<|W<|W<|Zr<|G (Ys Z) ?_
 refine wW (qO ib Z) Z Z Z (fun h4=> ?_) (fun h4=> ?_)
 refine U<|ZT Z<|W<|Zr<|G (Ws Z)<|U<|Zt ?_
 have he:es=[]:=by
  cases es with
  |nil=>rfl
  |cons e es=>obtain⟨b,o,hA,_⟩:=hr (by simp);subst hA;cases h4
 subst he
 exact cH Z Z ⟨none,0,[],rfl,by simp,by decide,gz.nil,H.forget (by simp) (by simp)⟩
 refine U<|ZF Z<|Zk<|W<|Zr<|Pe H bx Z fun w1 b5 H=>G (Ys Z)<|vP (Y:=g8) GX (K:=[]) (L:=[(b5,_)]) (M:=[]) H (sj.lit (by decide) (by rfl)) (es:=[]) (news:=es) Z Z Z (Rd.src (H.fact (i:=0) Z)) (by simpa using hb) Z ?_
 intro A3 c3 w3 L3 h3a h3b ho3 H
 refine G (Ws Z)<|U<|Zt ?_
 exact cH Z Z ⟨A3,c3,L3,rfl,h3a,h3b,ho3,H.forget (by simp) (by simp)⟩
theorem Ce (es:List Bool) (A:Option Addr) (c:Nat) (w:World) (hr:Rd eX 0 w.heap.size A es w) (hb:es.length<=1000000):
  dh aa qC [.slice A es.length c,.bool true] w fun v w2=>(∃ n:Int,v=J n/\(0<=n↔true∈es))/\Below w.heap.size w w2:=by
 refine aE qh Z Z ?_
 have H:=Hp.startRd hr
 refine W<|Zr<|G (Wi Z)<|U<|W<|W<|Zr<|G (Ys Z)<|G (br yh Z)<|G (Yi Z)<|U<|Zb ?_
 refine cD (τ:=Nat) [4,5,8,9,10,11,12,13,14,15,16,17,18] (fun k=>[(8,J (k:Nat))]) (fun k w'=>k<=es.length/\(∀ j,j<k->es[j]? =some false)/\Hp w w' [] [dU eX 0 w.heap.size A es]) (fun k=>es.length-k) 0 ⟨by omega,by intro j hj;omega,H⟩ (dP Z) ?_
 rintro k ρ1 w1 ⟨hk,hno,H⟩
 show CW _ _ _ _ (dH (gZ _ _ ρ1) [(8,J (k:Nat))]) w1
 refine W<|Zr ?_
 refine cW (cK Z Z) Z Z Z (fun h9=> ?_) (fun h9=> ?_)
 refine U<|W<|ZT Z<|Zk<|W<|Zb<|W<|Zr<|G (Yi Z)<|G (Wi Z)<|U<|W<|Zr<|G (Yb Z)<|G (Ys Z)<|G (Yi Z)<|qB H 0 Z ed Z Z I I Z fun b2 o2 x2 e2=>G (aW dS Z (e2.cl 0 _ Z))<|G (E3 wN Z Z) ?_
 refine mM 16 Z (fun h16=> ?_) (fun h16=> ?_)
 refine U<|ZT Z<|W<|Zr<|G (Yi Z)<|G (Wi Z)<|U<|Zt ?_
 exact cH Z Z ⟨⟨_,rfl,⟨fun _=>by have:=ab e2.at_;simp at h16;rwa[h16]at this,fun _=>by omega⟩⟩,H.below⟩
 refine U<|ZF Z<|Zk<|Zr<|G (bw Z Z I I)<|G (Yi Z)<|U ?_
 refine⟨k+1,⟨by omega,fun j hj=> ?_,H⟩,dP Z,Qg,by show es.length- (k+1)<es.length-k;omega⟩
 by_cases hji:j<k
 exact hno j hji
 have:j=k:=by omega
 subst this;rw[e2.at_];simpa using h16
 refine U<|W<|ZF Z<|Zx<|W<|Zr<|G (Wi Z)<|U<|Zt ?_
 exact cH Z Z ⟨⟨-1,rfl,⟨fun h=>by omega,fun h=>by obtain⟨j,hj⟩:=aT.1 h;have:=hno j (by have:=(cC hj).1;omega);rw[hj]at this;cases this⟩⟩,H.below⟩
theorem sd (es:List Bool) (A:Option Addr) (c:Nat) (w:World) (hr:Rd eX 0 w.heap.size A es w) (hb:es.length<=1000000):
  dh aa pi [.slice A es.length c,.bool true] w fun v w2=>v=.bool (decide (true∈es))/\Below w.heap.size w w2:=by
 refine aE oH Z Z ?_
 have H:=Hp.start w
 refine W<|Zr<|G (Wb Z)<|U<|W<|Zr<|G (Ys Z)<|G (Yb Z)<|ch qq (Ce es _ _ _ hr hb) Z Z ?_
 rintro _ w1 ⟨⟨n,rfl,hn⟩,hb⟩;replace H:=H.later hb;clear hb
 refine G (ko Z Z)<|G (Wb Z)<|U<|Zt ?_
 exact cH (v:=.bool (decide (0<=n))) Z Z ⟨by rw[decide_eq_decide.2 hn],H.below⟩
theorem qb (p:Pa) (i:Nat) (r:fk) (w:World) (hR:Rd g8 0 w.heap.size p.rA p.reps w) (hr:p.reps[i]? =some r) (hl:r.log.ok w):dh aa Gi [p.v,J (i:Nat)] w fun v w2=>v=.tuple #[J (r.es.length:Nat),J (r.s:Nat)]/\Below w.heap.size w w2:=by
 refine aE EH Z Z ?_
 obtain⟨ep,ld,isr,iA,iC,kn,kA,kC,reps,rA,rC,fw,bs⟩:=p
 dsimp only at hR hr
 have H:=Hp.startRd hR
 have hil:=(cC hr).1
 show CW _ _ _ _ (args [.agg #[J (ep),J (ld),.slice iA isr.length iC,.slice kA kn.length kC,.slice rA reps.length rC,J (fw),J (bs)],J (((i:Nat):Int))]) w
 refine W<|Zr<|f7 H Z Z fun w1 b2 H=>G (Wi Z)<|G (Wi Z)<|U<|W<|Zr<|G (Zf cU Z)<|G (Zd bW H 0 Z Z Z)<|G (Yi Z)<|qB H 0 Z bx Z Z I I Z fun b2 o2 x2 e2=> ?_
 obtain rfl:x2=r:=by have:=e2.at_;rw[hr]at this;exact(ba this).symm
 refine G (Zf dA Z)<|G (j7 (xs:=[.slice x2.A ((bj x2.es).length) x2.cap,J (((fW x2.es x2.s:Nat):Int))]) eV Z Z (It e2.cl 1 Z))<|ch gJ (ik x2.A x2.cap x2.es x2.s _ ⟨hl.gl,hl.cap,hl.rd.below H.below|>.mono (ao _) H.size⟩) Z Z ?_
 rintro _ w3 ⟨Aen,cen,rfl,hren,hcen,hben⟩;replace H:=H.learnRd hben hren;clear hren hben
 refine G (Yu Z)<|G (Xs Z Z)<|G (Xi Z Z)<|G (Xi Z Z)<|G (Ws Z)<|G (Wi Z)<|G (Wi Z)<|U<|W<|Zr<|G (Ys Z)<|G (br eH Z)<|G (Yi Z)<|G (Wi Z)<|G (Wi Z)<|U<|Zt ?_
 exact mr Z Z Z ⟨rfl,H.below⟩
theorem Pa.facts {p:Pa} (h:p.a.ok):1<=p.reps.length/\p.reps.length<=5/\p.isr.length=p.reps.length/\p.known.length=p.reps.length/\1<=p.few/\p.few<=p.reps.length/\0<=p.epoch/\p.epoch<=1073741824/\ -1<=p.leader/\p.leader<p.reps.length/\0<=p.base/\p.base<=400/\true∈p.isr:=by
 have h1:=h.n1;have h2:=h.n2;have h3:=h.isrl;have h4:=h.knownl;have h6:=h.few2;have h7:=h.ld1
 simp only[Pa.a,bJ]at h1 h2 h3 h4 h6 h7
 exact⟨h1,h2,h3,h4,h.few1,h6,h.ep0,h.ep1,h.ld0,h7,h.base0,h.base1,h.some_⟩
theorem Pa.repOk {p:Pa} (h:p.a.ok) {i:Nat} {r:fk} (hr:p.reps[i]? =some r):GL r.es r.s/\0<=r.high/\r.high<=r.es.length:=by
 have h1:=h.reps r.a (bS (ab hr))
 exact⟨h1.gl,h1.high0,h1.high1⟩
theorem Pa.leads {p:Pa} (h:p.a.ok) {l:Nat} {r:fk} (hl:p.leader=l) (hr:p.reps[l]? =some r):p.isr[l]? =some true/\r.up=true:=
 h.lead l r.a hl (by simp[Pa.a,hr])
theorem Pa.log {p:Pa} {w:World} (hd:p.rd 0 w.heap.size w) (h:p.a.ok) {i:Nat} {r:fk} (hr:p.reps[i]? =some r):r.log.ok w:=
 ⟨(Pa.repOk h hr).1,hd.cap r (ab hr),hd.logs r (ab hr)⟩
theorem rU (p:Pa) (w:World) (h:p.rd 0 w.heap.size w) (hok:p.a.ok):dh aa Eu [p.v] w fun v w2=>v=J 0/\Below w.heap.size w w2:=by
 refine aE Cv Z Z ?_
 obtain⟨hn1,hn2,hil,hkl,hf1,hf2,he0,he1,hl0,hl1,hb0,hb1,hsm⟩:=Pa.facts hok
 have hkn:=hok.known
 have hiC:=h.iC
 have hkC:=h.kC
 have hrC:=h.rC
 have hfew:=h.few
 have H:=Hp.startPa h
 obtain⟨ep,ld,isr,iA,iC,kn,kA,kC,reps,rA,rC,fw,bs⟩:=p
 simp only[Pa.a]at hkn
 dsimp only at H hn1 hn2 hil hkl hf1 hf2 he0 he1 hl0 hl1 hb0 hb1 hsm hiC hkC hrC hfew
 show CW _ _ _ _ (args [.agg #[J (ep),J (ld),.slice iA isr.length iC,.slice kA kn.length kC,.slice rA reps.length rC,J (fw),J (bs)]]) w
 refine W<|Zr<|f7 H Z Z fun w1 b1 H=>G (Wi Z)<|U<|W<|Zr<|G (Zf cU Z)<|G (Zd bW H 0 Z Z Z)<|G (br ib Z)<|G (Wi Z)<|U<|W<|W<|Zr<|G (Yi Z)<|G (dd Z Z I)<|G (Yb Z)<|ZG<|G (Yi Z)<|ZG<|G (eB Z Z I)<|G (N Z Z)<|G (Yb Z)<|ZG<|G (Zf gi Z)<|ZG<|G (Zd gN H 0 Z Z Z)<|ZG<|G (br yh Z)<|ZG<|G (Yi Z)<|ZG<|G (bZ Z Z I)<|G (N Z Z)<|G (Yb Z)<|ZG<|G (Zf gh Z)<|ZG<|G (Zd cy H 0 Z Z Z) ?_
 refine ZG<|G (br eM Z)<|ZG<|G (Yi Z)<|ZG<|G (bZ Z Z I)<|G (N Z Z)<|G (Yb Z)<|ZG<|G (Zf yv Z)<|ZG<|G (Zd ak H 0 Z Z Z)<|ZG<|G (dd Z Z I)<|G (N Z Z)<|G (Yb Z)<|ZG<|G (Zf yv Z)<|ZG<|G (Zd ak H 0 Z Z Z)<|ZG<|G (Yi Z)<|ZG<|G (eB Z Z I)<|G (N Z Z)<|G (Yb Z)<|ZG<|G (Zf p5 Z)<|ZG<|G (Zd ak H 0 Z Z Z)<|ZG<|G (dd Z Z I)<|G (N Z Z)<|G (Yb Z)<|ZG<|G (Zf p5 Z)<|ZG<|G (Zd ak H 0 Z Z Z)<|ZG<|G (eB Z Z I) ?_
 refine G (N Z Z)<|G (Yb Z)<|ZG<|G (Zf dt Z)<|ZG<|G (Zd ak H 0 Z Z Z)<|ZG<|G (dd Z Z I)<|G (N Z Z)<|G (Yb Z)<|ZG<|G (Zf dt Z)<|ZG<|G (Zd ak H 0 Z Z Z)<|ZG<|G (Yi Z)<|ZG<|G (rD Z Z I)<|G (N Z Z)<|G (Yb Z)<|ZG<|G (Zf u6 Z)<|ZG<|G (Zd ak H 0 Z Z Z)<|ZG<|G (dd Z Z I)<|G (N Z Z)<|G (Yb Z)<|ZG<|G (Zf u6 Z)<|ZG<|G (Zd ak H 0 Z Z Z)<|ZG<|G (eB Z Z I)<|G (N Z Z)<|U<|ZF Z<|Zk<|W<|W ?_
 refine Zr<|G (Zf gi Z)<|G (Zd gN H 0 Z Z Z)<|ch jx (sd isr iA iC _ (H.rd0 1 Z) I) Z Z ?_
 rintro _ w2 ⟨rfl,hb⟩;replace H:=H.later hb;clear hb
 rw[decide_eq_true hsm]
 refine G (dM Z)<|G (Yb Z)<|ZG<|G (Zf dt Z)<|ZG<|G (Zd ak H 0 Z Z Z)<|ZG ?_
 refine cW (ko Z Z) Z Z Z (fun h80=> ?_) (fun h80=> ?_)
 obtain⟨l,hld⟩: ∃ l:Nat,ld=l:=⟨ld.toNat,by omega⟩
 refine ZG<|G (Yb Z)<|ZG<|G (Zf gi Z)<|ZG<|G (Zd gN H 0 Z Z Z)<|ZG<|G (Zf dt Z)<|ZG<|G (Zd ak H 0 Z Z Z)<|ZG<|qB (k:=l) H 1 Z ed Z (congrArg (Value.int .i64) hld) I I Z fun b3 o3 x3 e3=>ZG ?_
 obtain⟨hI,-⟩:=Pa.leads hok (l:=l) hld (show(Pa.reps ⟨ep,ld,isr,iA,iC,kn,kA,kC,reps,rA,rC,fw,bs⟩)[l]? =_ from ah (by show l<reps.length;omega))
 obtain rfl:x3=true:=by have:=e3.at_;rw[show isr[l]? =_ from hI]at this;exact(ba this).symm
 refine G (aW (v:=.bool true) dS Z (e3.cl 0 _ Z))<|ZG<|G (dM Z)<|ZG<|G (Yb Z)<|ZG<|G (Zf cU Z)<|ZG<|G (Zd bW H 0 Z Z Z)<|ZG<|G (Zf dt Z)<|ZG<|G (Zd ak H 0 Z Z Z)<|ZG<|qB (k:=l) H 3 Z bx Z (congrArg (Value.int .i64) hld) I I Z fun b4 o4 x4 e4=>ZG<|G (Zf fB Z)<|ZG ?_
 obtain⟨-,hU⟩:=Pa.leads hok (l:=l) hld (show(Pa.reps ⟨ep,ld,isr,iA,iC,kn,kA,kC,reps,rA,rC,fw,bs⟩)[l]? =_ from e4.at_)
 refine G (aW (v:=.bool true) dS Z (e4.cl 0 _ (by rw[<-hU];rfl)))<|ZG<|G (dM Z)<|ZG<|G (N Z Z)<|ZG<|G (Kt Z Z)<|G (N Z Z)<|U<|ZF Z<|Zk<|W<|W<|Zr<|G (Zf cU Z)<|G (Zd bW H 0 Z Z Z)<|G (br ib Z)<|G (Yi Z)<|U<|Zb ?_
 refine cD (τ:=Nat) [2,4,5,6,7,104,105,106,107,108,109,110,111,112,113,114,115,116,117,118,119,120,121,122,123,124,125,126,127,128,129,130,131,132,133,134,135,136,137,138,139,140,141,142,143,144,145,146] (fun k=>[(104,J (k:Nat))]) (fun k w'=>k<=reps.length/\Hp w w' [(b1,.cells #[J (ep),J (ld),.slice iA isr.length iC,.slice kA kn.length kC,.slice rA reps.length rC,J (fw),J (bs)] bF (0,0))] [DM 0 w.heap.size ⟨ep,ld,isr,iA,iC,kn,kA,kC,reps,rA,rC,fw,bs⟩,dU eX 0 w.heap.size iA isr,dU bR 0 w.heap.size kA kn,dU g8 0 w.heap.size rA reps]) (fun k=>reps.length-k) 0 ⟨by omega,H⟩ (dP Z) ?_
 rintro k ρ1 w5 ⟨hk,H⟩
 show CW _ _ _ _ (dH (gZ _ _ ρ1) [(104,J (k:Nat))]) w5
 refine W<|Zr ?_
 refine cW (cK Z Z) Z Z Z (fun h105=> ?_) (fun h105=> ?_)
 refine U<|W<|ZT Z<|Zk<|W<|Zb<|W<|Zr<|G (Yi Z)<|qB H 3 Z bx Z Z I I Z fun b6 o6 x6 e6=>G (j7 (xs:=fk.c x6) oU Z Z e6.cl)<|eP H pZ Z fun w7 b5 H=>G (Wi Z)<|bo H 0 (#[.bool (x6.up),.slice x6.A ((bj x6.es).length) x6.cap,J (((fW x6.es x6.s:Nat):Int)),J (x6.high)]) lW Z Z Z Z Z N N fun w8 H=>U<|W<|Zr<|G (Zw aH H 1 Z Z Z)<|G (Yi Z)<|ch jI (qb ⟨ep,ld,isr,iA,iC,kn,kA,kC,reps,rA,rC,fw,bs⟩ k x6 _ (H.rd0 3 Z) e6.at_ (Pa.log (Hp.pa H 0 Z) hok (i:=k) e6.at_)) Z Z ?_
 rintro _ w9 ⟨rfl,hb⟩;replace H:=H.later hb;clear hb
 refine G (Yu Z)<|G (Xi Z Z)<|G (Xi Z Z)<|G (Wi Z)<|G (Wi Z)<|U<|W<|Zr<|G (Zf dA Z)<|G (j6 1 [.slice x6.A ((bj x6.es).length) x6.cap,J (((fW x6.es x6.s:Nat):Int))] eV Z Z (H.ent (i:=0) Z) Z)<|ch mY (qP x6.A x6.cap x6.es x6.s _ (Pa.log (Hp.pa H 0 Z) hok (i:=k) e6.at_)) Z Z ?_
 rintro _ w10 ⟨rfl,hb⟩;replace H:=H.later hb;clear hb
 refine G (bZ Z Z Z)<|G (Yb Z)<|ZG<|G (Zf dZ Z)<|ZG<|G (Zd ak H 0 Z Z Z)<|ZG<|G (dd Z Z (by have:=(Pa.repOk hok (show(Pa.reps ⟨ep,ld,isr,iA,iC,kn,kA,kC,reps,rA,rC,fw,bs⟩)[k]? =_ from e6.at_)).2.1;omega))<|G (N Z Z)<|G (Yb Z)<|ZG<|G (Zf dZ Z)<|ZG<|G (Zd ak H 0 Z Z Z)<|ZG<|G (Yi Z)<|ZG<|G (eB Z Z (by have:=(Pa.repOk hok (show(Pa.reps ⟨ep,ld,isr,iA,iC,kn,kA,kC,reps,rA,rC,fw,bs⟩)[k]? =_ from e6.at_)).2.2;omega))<|G (N Z Z)<|G (Yb Z)<|ZG<|G (Zf gh Z)<|ZG<|G (Zd cy H 1 Z Z Z)<|ZG<|G (Yi Z)<|ZG<|qB H 2 Z bc Z Z I I Z fun b11 o11 x11 e11=>ZG<|G (aW ak Z (e11.cl 0 _ Z))<|ZG<|G (dd Z Z (by have:=(hkn _ (ab e11.at_)).1;omega))<|G (N Z Z)<|G (Yb Z)<|ZG<|G (Zf gh Z)<|ZG<|G (Zd cy H 1 Z Z Z)<|ZG<|G (Yi Z) ?_
 refine ZG<|qB H 2 Z bc Z Z I I Z fun b12 o12 x12 e12=>ZG<|G (aW ak Z (e12.cl 0 _ Z))<|ZG<|G (eB Z Z (by have:=(hkn _ (ab e12.at_)).2;omega))<|G (N Z Z)<|U<|ZF Z<|Zk<|Zr<|G (bw Z Z I I)<|G (Yi Z)<|U ?_
 refine⟨k+1,⟨by omega,H.forget (.cons _ (ar _)) (fun _ h=>h)⟩,dP Z,Qg,by show reps.length- (k+1)<reps.length-k;omega⟩
 refine U<|W<|ZF Z<|Zx<|W<|Zr<|G (Wi Z)<|U<|Zt ?_
 exact cH Z Z ⟨rfl,H.below⟩
 refine ZG<|G (Yb Z)<|ZN<|ZN<|ZN<|ZN<|ZN<|ZN<|ZN<|ZN<|ZN<|ZN<|ZN<|ZN<|ZN<|ZN<|ZN<|ZN<|ZN<|ZG<|G (N Z Z)<|G (N Z Z)<|U<|ZF Z<|Zk<|W<|W<|Zr<|G (Zf cU Z)<|G (Zd bW H 0 Z Z Z)<|G (br ib Z)<|G (Yi Z)<|U<|Zb ?_
 refine cD (τ:=Nat) [2,4,5,6,7,104,105,106,107,108,109,110,111,112,113,114,115,116,117,118,119,120,121,122,123,124,125,126,127,128,129,130,131,132,133,134,135,136,137,138,139,140,141,142,143,144,145,146] (fun k=>[(104,J (k:Nat))]) (fun k w'=>k<=reps.length/\Hp w w' [(b1,.cells #[J (ep),J (ld),.slice iA isr.length iC,.slice kA kn.length kC,.slice rA reps.length rC,J (fw),J (bs)] bF (0,0))] [DM 0 w.heap.size ⟨ep,ld,isr,iA,iC,kn,kA,kC,reps,rA,rC,fw,bs⟩,dU eX 0 w.heap.size iA isr,dU bR 0 w.heap.size kA kn,dU g8 0 w.heap.size rA reps]) (fun k=>reps.length-k) 0 ⟨by omega,H⟩ (dP Z) ?_
 rintro k ρ1 w13 ⟨hk,H⟩
 show CW _ _ _ _ (dH (gZ _ _ ρ1) [(104,J (k:Nat))]) w13
 refine W<|Zr ?_
 refine cW (cK Z Z) Z Z Z (fun h105=> ?_) (fun h105=> ?_)
 refine U<|W<|ZT Z<|Zk<|W<|Zb<|W<|Zr<|G (Yi Z)<|qB H 3 Z bx Z Z I I Z fun b14 o14 x14 e14=>G (j7 (xs:=fk.c x14) oU Z Z e14.cl)<|eP H pZ Z fun w15 b5 H=>G (Wi Z)<|bo H 0 (#[.bool (x14.up),.slice x14.A ((bj x14.es).length) x14.cap,J (((fW x14.es x14.s:Nat):Int)),J (x14.high)]) lW Z Z Z Z Z N N fun w16 H=>U<|W<|Zr<|G (Zw aH H 1 Z Z Z)<|G (Yi Z)<|ch jI (qb ⟨ep,ld,isr,iA,iC,kn,kA,kC,reps,rA,rC,fw,bs⟩ k x14 _ (H.rd0 3 Z) e14.at_ (Pa.log (Hp.pa H 0 Z) hok (i:=k) e14.at_)) Z Z ?_
 rintro _ w17 ⟨rfl,hb⟩;replace H:=H.later hb;clear hb
 refine G (Yu Z)<|G (Xi Z Z)<|G (Xi Z Z)<|G (Wi Z)<|G (Wi Z)<|U<|W<|Zr<|G (Zf dA Z)<|G (j6 1 [.slice x14.A ((bj x14.es).length) x14.cap,J (((fW x14.es x14.s:Nat):Int))] eV Z Z (H.ent (i:=0) Z) Z)<|ch mY (qP x14.A x14.cap x14.es x14.s _ (Pa.log (Hp.pa H 0 Z) hok (i:=k) e14.at_)) Z Z ?_
 rintro _ w18 ⟨rfl,hb⟩;replace H:=H.later hb;clear hb
 refine G (bZ Z Z Z)<|G (Yb Z)<|ZG<|G (Zf dZ Z)<|ZG<|G (Zd ak H 0 Z Z Z)<|ZG<|G (dd Z Z (by have:=(Pa.repOk hok (show(Pa.reps ⟨ep,ld,isr,iA,iC,kn,kA,kC,reps,rA,rC,fw,bs⟩)[k]? =_ from e14.at_)).2.1;omega))<|G (N Z Z)<|G (Yb Z)<|ZG<|G (Zf dZ Z)<|ZG<|G (Zd ak H 0 Z Z Z)<|ZG<|G (Yi Z)<|ZG<|G (eB Z Z (by have:=(Pa.repOk hok (show(Pa.reps ⟨ep,ld,isr,iA,iC,kn,kA,kC,reps,rA,rC,fw,bs⟩)[k]? =_ from e14.at_)).2.2;omega))<|G (N Z Z)<|G (Yb Z)<|ZG<|G (Zf gh Z)<|ZG<|G (Zd cy H 1 Z Z Z)<|ZG<|G (Yi Z)<|ZG<|qB H 2 Z bc Z Z I I Z fun b19 o19 x19 e19=>ZG<|G (aW ak Z (e19.cl 0 _ Z))<|ZG<|G (dd Z Z (by have:=(hkn _ (ab e19.at_)).1;omega))<|G (N Z Z)<|G (Yb Z)<|ZG<|G (Zf gh Z)<|ZG<|G (Zd cy H 1 Z Z Z)<|ZG<|G (Yi Z) ?_
 refine ZG<|qB H 2 Z bc Z Z I I Z fun b20 o20 x20 e20=>ZG<|G (aW ak Z (e20.cl 0 _ Z))<|ZG<|G (eB Z Z (by have:=(hkn _ (ab e20.at_)).2;omega))<|G (N Z Z)<|U<|ZF Z<|Zk<|Zr<|G (bw Z Z I I)<|G (Yi Z)<|U ?_
 refine⟨k+1,⟨by omega,H.forget (.cons _ (ar _)) (fun _ h=>h)⟩,dP Z,Qg,by show reps.length- (k+1)<reps.length-k;omega⟩
 refine U<|W<|ZF Z<|Zx<|W<|Zr<|G (Wi Z)<|U<|Zt ?_
 exact cH Z Z ⟨rfl,H.below⟩
theorem AE {f:cB} {l:List fk} {x:fk} {F:List cB} (h:f∈F++te (l++[x])):f∈Cb x::(F++te l):=by
 simp only[te,bl,ey,mB,ap,aq]at h
 simp only[ax,ap,te]
 rcases h with h|h|h
 exact .inr (.inl h)
 exact .inr (.inr h)
 exact .inl h
theorem Ax (p:Pa) (w:World) (h:p.rd 0 w.heap.size w) (hok:p.a.ok):dh aa y6 [p.v] w fun v w2=> ∃ (p':Pa) (g1 g2 g3:Nat) (c1 c2 c3:Array Value),v=p'.v/\p'.a=p.a/\G3 w w2 p' g1 g2 g3 c1 c2 c3:=by
 refine aE EL Z Z ?_
 obtain⟨hn1,hn2,hil,hkl,hf1,hf2,he0,he1,hl0,hl1,hb0,hb1,hsm⟩:=Pa.facts hok
 have hkn:=hok.known
 have hiC:=h.iC
 have hkC:=h.kC
 have hrC:=h.rC
 have hfew:=h.few
 have H:=Hp.startPa h
 obtain⟨ep,ld,isr,iA,iC,kn,kA,kC,reps,rA,rC,fw,bs⟩:=p
 simp only[Pa.a]at hkn
 dsimp only at H hn1 hn2 hil hkl hf1 hf2 he0 he1 hl0 hl1 hb0 hb1 hsm hiC hkC hrC hfew
 show CW _ _ _ _ (args [.agg #[J (ep),J (ld),.slice iA isr.length iC,.slice kA kn.length kC,.slice rA reps.length rC,J (fw),J (bs)]]) w
 refine W<|Zr<|f7 H Z Z fun w1 b1 H=>eP H bv Z fun w2 b2 H=>U<|W ?_
 refine bA cd [0,1,3,4,6,7,2,9,5,8] [10,11,12,13,14] [2,5,8] [0,3,6,9] (sp [(2,Sp.orow w2.heap.size eX jr isr),(5,Sp.orow w2.heap.size bR db kn),(8,Sp.orow w2.heap.size g8 fZ reps)]) N N N N Nq (cI _) ?_
 refine aw Z Z Z Z Z (fun w' hw'=>Zf gi Z)<|aw Z Z Z Z Z (fun w' hw'=>aW gN Z (aB ((H.later hw').ent (i:=1) Z) Z))<|aw Z Z Z Z Z (fun w' hw'=>Zf gh Z)<|aw Z Z Z Z Z (fun w' hw'=>aW cy Z (aB ((H.later hw').ent (i:=1) Z) Z))<|aw Z Z Z Z Z (fun w' hw'=>Zf cU Z)<|aw Z Z Z Z Z (fun w' hw'=>aW bW Z (aB ((H.later hw').ent (i:=1) Z) Z))<|yC qr Z Z Z Z Z (fun w' hw'=>hw'.size) (fun w' hw'=>CH isr _ _ w' ((H.later hw').rd0 1 Z) I) Z fun A6 c6 hc6=>aw Z Z Z Z Z (fun w' hw'=>Zf gi Z)<|yC gx Z Z Z Z Z (fun w' hw'=>hw'.size) (fun w' hw'=>s6 kn _ _ w' ((H.later hw').rd0 2 Z) I) Z fun A9 c9 hc9=>yC mX Z Z Z Z Z (fun w' hw'=>hw'.size) (fun w' hw'=>yx reps _ _ w' ((H.later hw').rd0 3 Z) I) Z fun A12 c12 hc12=>aV ?_
 intro w3 hw' hF
 obtain⟨hF,Aq,cq,L12,eq,hcq,hm12,ho12,he12,hn12⟩:=hF;cases eq;clear hcq
 obtain⟨hF,Aq,cq,L9,eq,hcq,hm9,ho9,he9,hn9⟩:=hF;cases eq;clear hcq
 obtain⟨hF,Aq,cq,L6,eq,hcq,hm6,ho6,he6,hn6⟩:=hF;cases eq;clear hcq
 obtain⟨g1,cur1,rfl,rfl,row1⟩:=ho6.row I
 obtain⟨g2,cur2,rfl,rfl,row2⟩:=ho9.row I
 obtain⟨g3,cur3,rfl,rfl,row3⟩:=ho12.row I
 have e6:=he6 _ (d5 _)
 have e9:=he9 _ (d5 _)
 have e12:=he12 _ (d5 _)
 replace H:=H.adopt3 hw' e6 e9 e12 (se e6.1 e9.1 Z) (se e6.1 e12.1 Z) (se e9.1 e12.1 Z)
 clear hw' hF
 refine bo H 4 (#[J (ep),J (ld),.slice (Qd g1) isr.length c6,.slice kA kn.length kC,.slice rA reps.length rC,J (fw),J (bs)]) JB Z Z Z Z Z N N fun w4 H=>G (Zf gh Z)<|bo H 4 (#[J (ep),J (ld),.slice (Qd g1) isr.length c6,.slice (Qd g2) kn.length c9,.slice rA reps.length rC,J (fw),J (bs)]) jK Z Z Z Z Z N N fun w5 H=>G (Zf cU Z)<|bo H 4 (#[J (ep),J (ld),.slice (Qd g1) isr.length c6,.slice (Qd g2) kn.length c9,.slice (Qd g3) reps.length c12,J (fw),J (bs)]) DZ Z Z Z Z Z N N fun w6 H=>U<|W<|W<|Zr<|G (Zf cU Z)<|G (Zd bW H 4 Z Z Z)<|G (br ib Z)<|G (Yi Z)<|U<|Zb ?_
 refine cD (τ:=Nat×List fk×Array Value) [3,19,20,21,22,23,24,25,26,27,28,29,30,31,32,33,34,35,36] (fun(k,_)=>[(19,J (k:Nat))]) (fun(k,rs,c3) w'=>k<=rs.length/\rs.length=reps.length/\rs.map fk.a=reps.map fk.a/\rs.drop k=reps.drop k/\(∀ r∈rs.take k,(bj r.es).length<=r.cap/\w.heap.size<=r.lo)/\dX g8 rs c12 c3/\Hp w w' [(g1,.cells cur1 jr (0,0)),(g2,.cells cur2 db (0,0)),(g3,.cells c3 fZ (0,0)),(b2,.cells #[J 0,J 0,.slice none 0 0,.slice none 0 0,.slice none 0 0,J 0,J 0] bF (0,0)),(b1,.cells #[J ep,J ld,.slice (Qd g1) isr.length c6,.slice (Qd g2) kn.length c9,.slice (Qd g3) reps.length c12,J fw,J bs] bF (0,0))] ([DM 0 w.heap.size ⟨ep,ld,isr,iA,iC,kn,kA,kC,reps,rA,rC,fw,bs⟩,dU eX 0 w.heap.size iA isr,dU bR 0 w.heap.size kA kn,dU g8 0 w.heap.size rA reps]++te (rs.take k))) (fun(k,rs,_)=>rs.length-k) (0,reps,cur3) ⟨by omega,rfl,rfl,rfl,by simp,row3,H⟩ (dP Z) ?_
 rintro⟨k,rs,c3⟩ ρ1 w7 ⟨hk,hrl,hma,hdr,hcp,row,H⟩
 show CW _ _ _ _ (dH (gZ _ _ ρ1) [(19,J (k:Nat))]) w7
 refine W<|Zr ?_
 refine cW (cK Z Z) Z Z Z (fun h20=> ?_) (fun h20=> ?_)
 refine U<|W<|ZT Z<|Zk<|W<|Zb<|W ?_
 obtain⟨x,hx⟩: ∃ x,rs[k]? =some x:=⟨_,ah I⟩
 have hxt:=zO hdr hx
 have hsz:=(Pa.repOk hok (show(Pa.reps ⟨ep,ld,isr,iA,iC,kn,kA,kC,reps,rA,rC,fw,bs⟩)[k]? =_ from hxt)).1.sz
 refine Zr<|G (Yi Z)<|G (Wi Z)<|U ?_
 have hlo:=H.size
 refine bA cd [0,1,2,3,4,5,6,7,8,9,10,11,12,13] [14] [10] [0,2,3,5,6,7,8,11,12,13] (sp [(10,Sp.row w7.heap.size dC (bj x.es))]) N N N N Nq (cI _) ?_
 refine aw Z Z Z Z Z (fun w' hw'=>Zf cU Z)<|aw Z Z Z Z Z (fun w' hw'=>aW bW Z (aB ((H.later hw').ent (i:=4) Z) Z))<|aw Z Z Z Z Z (fun w' hw'=>Yi Z)<|aw Z Z Z Z Z (fun w' hw'=>Zf cU Z)<|aw Z Z Z Z Z (fun w' hw'=>aW bW Z (aB ((H.later hw').ent (i:=4) Z) Z))<|aw Z Z Z Z Z (fun w' hw'=>Yi Z)<|aw Z Z Z Z Z (fun w' hw'=>cG bx Z Z (by first|omega|(simp only[ae];omega)))<|aw Z Z Z Z Z (fun w' hw'=>Zf dA Z)<|aw Z Z Z Z Z (fun w' hw'=>Zf gG Z)<|aw Z Z Z Z Z (fun w' hw'=>bP d9 row hx 1 Z ((H.later hw').ent (i:=2) Z) Z)<|DC fi Z Z Z Z Z (fun w' hw'=>hw'.size) (fun w' hw'=>lu (bj x.es) _ _ w' ((Hp.pa (H.later hw') 0 Z).logs x (ab hxt)) I) Z fun A32 c32 hc32=>aw Z Z Z Z Z (fun w' hw'=>cG bx Z Z (by first|omega|(simp only[ae];omega)))<|aw Z Z Z Z Z (fun w' hw'=>Zf dA Z)<|aw Z Z Z Z Z (fun w' hw'=>Zf gG Z)<|aV ?_
 intro w8 hw' hF
 obtain⟨hF,Aq,cq,eq,hcq,hrw32⟩:=hF;cases eq;clear hcq
 replace H:=H.learnRd hw' hrw32
 clear hw' hF
 refine k9 H 2 ({x with A:=A32,cap:=c32,lo:=w7.heap.size,hi:=w8.heap.size}) Da row hx 1 Z Z Z Z Z Z N fun w10 cur9 row9 H=>U<|Zr<|G (bw Z Z I I)<|G (Yi Z)<|U ?_
 obtain⟨z1,z2,z3⟩:=Pc (x':={x with A:=A32,cap:=c32,lo:=w7.heap.size,hi:=w8.heap.size}) hx hma hdr Z
 refine⟨(k+1,rs.set k {x with A:=A32,cap:=c32,lo:=w7.heap.size,hi:=w8.heap.size},cur9),⟨by rw[ae];omega,by rw[ae];exact hrl,z1,z2,?_,row9,H.forget (ar _) (fun f hf=>by rw[z3]at hf;exact AE hf)⟩,dP Z,Qg,by show(rs.set k _).length- (k+1)<rs.length-k;rw[ae];omega⟩
 rw[z3];intro t ht;rcases ap.1 ht with ht|ht;exact hcp t ht;rw[aq.1 ht];exact⟨hc32,hlo⟩
 refine U<|W<|ZF Z<|Zx<|W<|Zr<|G (Zw aH H 4 Z Z Z)<|bo H 3 (#[J (ep),J (ld),.slice (Qd g1) isr.length c6,.slice (Qd g2) kn.length c9,.slice (Qd g3) reps.length c12,J (fw),J (bs)]) aK Z Z Z Z Z N N fun w11 H=>U<|Zt ?_
 have hke:k=rs.length:=by omega
 rw[hke,bN]at H hcp
 exact eS (cs0:= #[J ep,J ld,.slice (Qd g1) isr.length c6,.slice (Qd g2) kn.length c9,.slice (Qd g3) reps.length c12,J fw,J bs]) Z aH Z (H.ent (i:=3) Z) Z ⟨⟨ep,ld,isr,some ⟨g1,0,none⟩,c6,kn,some ⟨g2,0,none⟩,c9,rs,some ⟨g3,0,none⟩,c12,fw,bs⟩,g1,g2,g3,cur1,cur2,c3,by unfold Pa.v Pa.c;dsimp only;rw[hrl],by unfold Pa.a;dsimp only;rw[hma],⟨rfl,rfl,rfl,row1,row2,row,fun r hr=>(hcp r hr).1,fun r hr=>(hcp r hr).2,by dsimp only;omega,H.forget (.cons_cons _ (.cons_cons _ (.cons_cons _ (vT _)))) (fun f hf=>cj _ hf)⟩⟩
/-- the least of what is known of those that keep up -/
def dv:List Bool->List Int->Int->Int
 |b::bs,n::ns,m=>dv bs ns (if b then min m n else m)
 |_,_,m=>m
theorem AP {isr:List Bool} {kn:List Int} {k:Nat} {b:Bool} {n m:Int} (hb:isr[k]? =some b) (hn:kn[k]? =some n):dv (isr.drop k) (kn.drop k) m=dv (isr.drop (k+1)) (kn.drop (k+1)) (if b then min m n else m):=by
 rw[cP hb,cP hn]
 rfl
theorem FS {w0 w:World} {L:List (Nat×Obj)} {F:List cB} {r:fk} (H:Hp w0 w L F) (hF:Cb r∈F) (hg:GL r.es r.s) (hc:(bj r.es).length<=r.cap):r.log.ok w:=by
 obtain⟨h1,h2,-⟩:=H.facts (Cb r) hF
 exact⟨hg,hc,Rd.mono h1 (bG _) h2⟩
theorem tQ (p:Pa) (r:Nat) (w:World) (h:p.rd 0 w.heap.size w) (hok:p.a.ok) (hr:r<p.reps.length):dh aa Kh [p.v,J (r:Nat)] w fun v w2=> ∃ (p':Pa) (g1 g2 g3:Nat) (c1 c2 c3:Array Value),v=.tuple #[p'.v,J 0]/\p'.a=p.a/\G3 w w2 p' g1 g2 g3 c1 c2 c3:=by
 refine aE Ih Z Z ?_
 obtain⟨hn1,hn2,hil,hkl,hf1,hf2,he0,he1,hl0,hl1,hb0,hb1,hsm⟩:=Pa.facts hok
 have hkn:=hok.known
 have hiC:=h.iC
 have hkC:=h.kC
 have hrC:=h.rC
 have hfew:=h.few
 have H:=Hp.startPa h
 obtain⟨ep,ld,isr,iA,iC,kn,kA,kC,reps,rA,rC,fw,bs⟩:=p
 simp only[Pa.a]at hkn
 dsimp only at H hn1 hn2 hil hkl hf1 hf2 he0 he1 hl0 hl1 hb0 hb1 hsm hiC hkC hrC hfew
 dsimp only at hr
 show CW _ _ _ _ (args [.agg #[J (ep),J (ld),.slice iA isr.length iC,.slice kA kn.length kC,.slice rA reps.length rC,J (fw),J (bs)],J (((r:Nat):Int))]) w
 refine W<|Zr<|f7 H Z Z fun w1 b2 H=>eP H bv Z fun w2 b4 H=>G (Wi Z)<|U<|W<|W<|Zr<|G (Zw aH H 1 Z Z Z)<|ch lx (rU ⟨ep,ld,isr,iA,iC,kn,kA,kC,reps,rA,rC,fw,bs⟩ _ (Hp.pa H 0 Z) hok) Z Z ?_
 rintro _ w3 ⟨rfl,hb⟩;replace H:=H.later hb;clear hb
 refine G (Wi Z)<|U<|W<|Zr<|G (Yi Z)<|G (bZ Z Z Z)<|U<|ZF Z<|Zk<|W<|W<|Zr<|G (Yi Z)<|G (dd Z Z I)<|G (Yb Z)<|ZG<|G (Yi Z)<|ZG<|G (Zf cU Z)<|ZG<|G (Zd bW H 1 Z Z Z)<|ZG<|G (br ib Z)<|ZG<|G (rD Z Z I)<|G (N Z Z)<|U<|ZF Z<|Zk<|W<|Zr<|G (Zw aH H 1 Z Z Z)<|ch mZ (Ax ⟨ep,ld,isr,iA,iC,kn,kA,kC,reps,rA,rC,fw,bs⟩ _ (Hp.pa H 0 Z) hok) Z Z ?_
 rintro _ w4 ⟨⟨ep2,ld2,is2,iA2,c1,kn2,kA2,c2,rs,rA2,c3,fw2,bs2⟩,g1,g2,g3,u1,u2,u3,rfl,ha2,ho⟩
 simp only[Pa.a,fD.mk.injEq]at ha2
 obtain⟨e1,e2,e3,e4,hma,e6,e7⟩:=ha2
 obtain rfl:ep=ep2:=e1.symm
 obtain rfl:ld=ld2:=e2.symm
 obtain rfl:isr=is2:=e3.symm
 obtain rfl:kn=kn2:=e4.symm
 obtain rfl:fw=fw2:=e6.symm
 obtain rfl:bs=bs2:=e7.symm
 have hrl:rs.length=reps.length:=by have:=congrArg ci hma;simpa using this
 obtain⟨i1,i2,i3,row1,row2,row3,hcp,hlos,-,hjn⟩:=ho
 dsimp only at i1 i2 i3 row1 row2 row3 hcp hlos hjn
 subst i1;subst i2;subst i3
 have hlo0:=H.size
 replace H:=H.joinF hjn (by intro f hf;obtain⟨r,hr,rfl⟩:=bp.1 hf;exact hlos r hr)
 replace hlos: ∀ r∈rs,w.heap.size<=r.lo:=fun r hr=>aU hlo0 (hlos r hr)
 clear hjn
 refine bo H 3 (#[J (ep),J (ld),.slice (Qd g1) isr.length c1,.slice (Qd g2) kn.length c2,.slice (Qd g3) rs.length c3,J (fw),J (bs)]) aK Z Z Z Z Z N N fun w5 H=>G (Wi Z)<|U<|Zt ?_
 exact bE (cs0:= #[J (ep),J (ld),.slice (Qd g1) isr.length c1,.slice (Qd g2) kn.length c2,.slice (Qd g3) rs.length c3,J (fw),J (bs)]) (v1:=J 0) Z aH Z (H.ent (i:=3) Z) Z Z ⟨⟨ep,ld,isr,_,c1,kn,_,c2,rs,_,c3,fw,bs⟩,g1,g2,g3,u1,u2,u3,rfl,by simp only[Pa.a,hma],⟨rfl,rfl,rfl,row1,row2,row3,hcp,hlos,by dsimp only;omega,H.forget (.cons_cons _ (.cons_cons _ (.cons_cons _ (vT _)))) (fun f hf=>cj _ hf)⟩⟩
theorem IV (p:Pa) (r:Nat) (w:World) (h:p.rd 0 w.heap.size w) (hok:p.a.ok) (hr:r<p.reps.length) (hl:0<=p.leader) (hne:p.leader≠r):dh aa Bb [p.v,J (r:Nat)] w fun v w2=> ∃ (p':Pa) (g1 g2 g3:Nat) (c1 c2 c3:Array Value),v=.tuple #[p'.v,J 0]/\p'.a=p.a/\G3 w w2 p' g1 g2 g3 c1 c2 c3:=by
 refine aE y7 Z Z ?_
 obtain⟨hn1,hn2,hil,hkl,hf1,hf2,he0,he1,hl0,hl1,hb0,hb1,hsm⟩:=Pa.facts hok
 have hkn:=hok.known
 have hiC:=h.iC
 have hkC:=h.kC
 have hrC:=h.rC
 have hfew:=h.few
 have H:=Hp.startPa h
 obtain⟨ep,ld,isr,iA,iC,kn,kA,kC,reps,rA,rC,fw,bs⟩:=p
 simp only[Pa.a]at hkn
 dsimp only at H hn1 hn2 hil hkl hf1 hf2 he0 he1 hl0 hl1 hb0 hb1 hsm hiC hkC hrC hfew
 dsimp only at hr hl hne
 show CW _ _ _ _ (args [.agg #[J (ep),J (ld),.slice iA isr.length iC,.slice kA kn.length kC,.slice rA reps.length rC,J (fw),J (bs)],J (((r:Nat):Int))]) w
 refine W<|Zr<|f7 H Z Z fun w1 b2 H=>eP H bv Z fun w2 b4 H=>G (Wi Z)<|U<|W<|Zr<|G (Zw aH H 1 Z Z Z)<|G (Yi Z)<|ch kG (tQ ⟨ep,ld,isr,iA,iC,kn,kA,kC,reps,rA,rC,fw,bs⟩ r _ (Hp.pa H 0 Z) hok hr) Z Z ?_
 rintro _ w3 ⟨⟨ep2,ld2,is2,iA2,c1,kn2,kA2,c2,rs,rA2,c3,fw2,bs2⟩,g1,g2,g3,u1,u2,u3,rfl,ha2,ho⟩
 simp only[Pa.a,fD.mk.injEq]at ha2
 obtain⟨e1,e2,e3,e4,hma,e6,e7⟩:=ha2
 obtain rfl:ep=ep2:=e1.symm
 obtain rfl:ld=ld2:=e2.symm
 obtain rfl:isr=is2:=e3.symm
 obtain rfl:kn=kn2:=e4.symm
 obtain rfl:fw=fw2:=e6.symm
 obtain rfl:bs=bs2:=e7.symm
 have hrl:rs.length=reps.length:=by have:=congrArg ci hma;simpa using this
 obtain⟨i1,i2,i3,row1,row2,row3,hcp,hlos,-,hjn⟩:=ho
 dsimp only at i1 i2 i3 row1 row2 row3 hcp hlos hjn
 subst i1;subst i2;subst i3
 have hlo0:=H.size
 replace H:=H.joinF hjn (by intro f hf;obtain⟨r,hr,rfl⟩:=bp.1 hf;exact hlos r hr)
 replace hlos: ∀ r∈rs,w.heap.size<=r.lo:=fun r hr=>aU hlo0 (hlos r hr)
 clear hjn
 refine G (Yu Z)<|G (Xa Z Z)<|G (Xi Z Z)<|bo H 4 (#[J (ep),J (ld),.slice (Qd g1) isr.length c1,.slice (Qd g2) kn.length c2,.slice (Qd g3) rs.length c3,J (fw),J (bs)]) aK Z Z Z Z Z N N fun w4 H=>G (Wi Z)<|U<|W<|W<|Zr<|G (Yi Z)<|G (bZ Z Z Z)<|U<|ZF Z<|Zk<|W<|W<|Zr<|G (Zf dt Z)<|G (Zd ak H 4 Z Z Z)<|G (dd Z Z I)<|G (Yb Z)<|ZG<|G (Zf dt Z)<|ZG<|G (Zd ak H 4 Z Z Z)<|ZG<|G (Yi Z)<|ZG<|G (nS Z Z hne)<|G (N Z Z)<|U<|ZF Z<|Zk<|W<|Zr<|G (Zw aH H 4 Z Z Z)<|bo H 3 (#[J (ep),J (ld),.slice (Qd g1) isr.length c1,.slice (Qd g2) kn.length c2,.slice (Qd g3) rs.length c3,J (fw),J (bs)]) aK Z Z Z Z Z N N fun w5 H=>G (Wi Z)<|U<|Zt ?_
 exact bE (cs0:= #[J (ep),J (ld),.slice (Qd g1) isr.length c1,.slice (Qd g2) kn.length c2,.slice (Qd g3) rs.length c3,J (fw),J (bs)]) (v1:=J 0) Z aH Z (H.ent (i:=3) Z) Z Z ⟨⟨ep,ld,isr,_,c1,kn,_,c2,rs,_,c3,fw,bs⟩,g1,g2,g3,u1,u2,u3,rfl,by simp only[Pa.a,hma],⟨rfl,rfl,rfl,row1,row2,row3,hcp,hlos,by dsimp only;omega,H.forget (.cons_cons _ (.cons_cons _ (.cons_cons _ (vT _)))) (fun f hf=>cj _ hf)⟩⟩
theorem FO (p:Pa) (r:Nat) (w:World) (h:p.rd 0 w.heap.size w) (hok:p.a.ok) (hr:r<p.reps.length) (hl:p.leader<0∨p.leader=r):dh aa Bb [p.v,J (r:Nat)] w fun v w2=>v=.tuple #[.agg #[J 0,J 0,.slice none 0 0,.slice none 0 0,.slice none 0 0,J 0,J 0],J 8]/\Below w.heap.size w w2:=by
 refine aE y7 Z Z ?_
 obtain⟨hn1,hn2,hil,hkl,hf1,hf2,he0,he1,hl0,hl1,hb0,hb1,hsm⟩:=Pa.facts hok
 have hkn:=hok.known
 have hiC:=h.iC
 have hkC:=h.kC
 have hrC:=h.rC
 have hfew:=h.few
 have H:=Hp.startPa h
 obtain⟨ep,ld,isr,iA,iC,kn,kA,kC,reps,rA,rC,fw,bs⟩:=p
 simp only[Pa.a]at hkn
 dsimp only at H hn1 hn2 hil hkl hf1 hf2 he0 he1 hl0 hl1 hb0 hb1 hsm hiC hkC hrC hfew
 dsimp only at hr hl
 show CW _ _ _ _ (args [.agg #[J (ep),J (ld),.slice iA isr.length iC,.slice kA kn.length kC,.slice rA reps.length rC,J (fw),J (bs)],J (((r:Nat):Int))]) w
 refine W<|Zr<|f7 H Z Z fun w1 b2 H=>eP H bv Z fun w2 b4 H=>G (Wi Z)<|U<|W<|Zr<|G (Zw aH H 1 Z Z Z)<|G (Yi Z)<|ch kG (tQ ⟨ep,ld,isr,iA,iC,kn,kA,kC,reps,rA,rC,fw,bs⟩ r _ (Hp.pa H 0 Z) hok hr) Z Z ?_
 rintro _ w3 ⟨⟨ep2,ld2,is2,iA2,c1,kn2,kA2,c2,rs,rA2,c3,fw2,bs2⟩,g1,g2,g3,u1,u2,u3,rfl,ha2,ho⟩
 simp only[Pa.a,fD.mk.injEq]at ha2
 obtain⟨e1,e2,e3,e4,hma,e6,e7⟩:=ha2
 obtain rfl:ep=ep2:=e1.symm
 obtain rfl:ld=ld2:=e2.symm
 obtain rfl:isr=is2:=e3.symm
 obtain rfl:kn=kn2:=e4.symm
 obtain rfl:fw=fw2:=e6.symm
 obtain rfl:bs=bs2:=e7.symm
 have hrl:rs.length=reps.length:=by have:=congrArg ci hma;simpa using this
 obtain⟨i1,i2,i3,row1,row2,row3,hcp,hlos,-,hjn⟩:=ho
 dsimp only at i1 i2 i3 row1 row2 row3 hcp hlos hjn
 subst i1;subst i2;subst i3
 have hlo0:=H.size
 replace H:=H.joinF hjn (by intro f hf;obtain⟨r,hr,rfl⟩:=bp.1 hf;exact hlos r hr)
 replace hlos: ∀ r∈rs,w.heap.size<=r.lo:=fun r hr=>aU hlo0 (hlos r hr)
 clear hjn
 refine G (Yu Z)<|G (Xa Z Z)<|G (Xi Z Z)<|bo H 4 (#[J (ep),J (ld),.slice (Qd g1) isr.length c1,.slice (Qd g2) kn.length c2,.slice (Qd g3) rs.length c3,J (fw),J (bs)]) aK Z Z Z Z Z N N fun w4 H=>G (Wi Z)<|U<|W<|W<|Zr<|G (Yi Z)<|G (bZ Z Z Z)<|U<|ZF Z<|Zk<|W<|W<|Zr<|G (Zf dt Z)<|G (Zd ak H 4 Z Z Z) ?_
 refine cW (cK Z Z) Z Z Z (fun h19=> ?_) (fun h19=> ?_)
 refine G (Yb Z)<|ZN<|ZN<|ZN<|ZN<|G (Kt Z Z)<|U<|ZT Z<|W<|Zr<|G (bg (cs:= #[J (0),J (0),.slice none 0 0,.slice none 0 0,.slice none 0 0,J (0),J (0)]) cN bv N)<|bo H 3 (#[J (0),J (0),.slice none 0 0,.slice none 0 0,.slice none 0 0,J (0),J (0)]) aK Z Z Z Z Z N N fun w5 H=>G (Wi Z)<|U<|Zt ?_
 exact bE (cs0:= #[J 0,J 0,.slice none 0 0,.slice none 0 0,.slice none 0 0,J 0,J 0]) (v1:=J 8) Z aH Z (H.ent (i:=3) Z) Z Z ⟨rfl,H.below⟩
 refine G (Yb Z)<|ZG<|G (Zf dt Z)<|ZG<|G (Zd ak H 4 Z Z Z)<|ZG<|G (Yi Z)<|ZG ?_
 refine cW (bn Z Z) Z Z Z (fun h24=> ?_) (fun h24=> ?_)
 refine G (N Z Z)<|U<|ZT Z<|W<|Zr<|G (bg (cs:= #[J (0),J (0),.slice none 0 0,.slice none 0 0,.slice none 0 0,J (0),J (0)]) cN bv N)<|bo H 3 (#[J (0),J (0),.slice none 0 0,.slice none 0 0,.slice none 0 0,J (0),J (0)]) aK Z Z Z Z Z N N fun w6 H=>G (Wi Z)<|U<|Zt ?_
 exact bE (cs0:= #[J 0,J 0,.slice none 0 0,.slice none 0 0,.slice none 0 0,J 0,J 0]) (v1:=J 8) Z aH Z (H.ent (i:=3) Z) Z Z ⟨rfl,H.below⟩
 exfalso;omega
theorem zJ {w0 w:World} {M:List (Nat×Obj)} {F:List cB} {g1 g2 g3:Nat} {u1 u2 u3:Array Value} (ep ld:Int) (isr:List Bool) (iC:Nat) (kn:List Int) (kC:Nat) (reps:List fk) (rC:Nat) (fw bs:Int) (l:Nat) (r:fk)
  (H:Hp w0 w ((g1,.cells u1 jr (0,0))::(g2,.cells u2 db (0,0))::(g3,.cells u3 fZ (0,0))::M) F) (row1:dX eX isr iC u1) (row2:dX bR kn kC u2) (row3:dX g8 reps rC u3) (hil:isr.length=reps.length) (hkl:kn.length=reps.length) (hn:reps.length<=5) (hld:ld=l) (hr:reps[l]? =some r) (hF:Cb r∈F) (hg:GL r.es r.s) (hc:(bj r.es).length<=r.cap):
  dh aa Bc [.agg #[J (ep),J (ld),.slice (Qd g1) isr.length iC,.slice (Qd g2) kn.length kC,.slice (Qd g3) reps.length rC,J (fw),J (bs)]] w fun v w2=> ∃ u4,v=.agg #[J (ep),J (ld),.slice (Qd g1) isr.length iC,.slice (Qd g2) kn.length kC,.slice (Qd g3) reps.length rC,J (fw),J (bs)]/\dX g8 (reps.set l {r with high:=max r.high (min (dv isr kn 400) (r.es.length:Nat))}) rC u4/\Hp w0 w2 ((g1,.cells u1 jr (0,0))::(g2,.cells u2 db (0,0))::(g3,.cells u4 fZ (0,0))::M) F:=by
 refine aE zq Z Z ?_
 have hll:=(cC hr).1
 refine W<|Zr<|f7 H Z Z fun w1 b1 H=>eP H bv Z fun w2 b2 H=>U<|W<|W<|Zr<|G (Zf dt Z)<|G (Zd ak H 1 Z Z Z)<|G (dd Z Z I)<|U<|ZF Z<|Zk<|W<|Zr<|G (Wi Z)<|U<|W<|W<|Zr<|G (Zf gh Z)<|G (Zd cy H 1 Z Z Z)<|G (br eM Z)<|G (Yi Z)<|U<|Zb ?_
 refine cD (τ:=Nat×Int) [3,4,5,16,17,18,19,20,21,22,23,24,25,26,27,28,29] (fun(k,m)=>[(16,J (k:Nat)),(3,J m)]) (fun(k,m) w'=>k<=kn.length/\dv (isr.drop k) (kn.drop k) m=dv isr kn 400/\Hp w0 w' ((b2,.cells #[J 0,J 0,.slice none 0 0,.slice none 0 0,.slice none 0 0,J 0,J 0] bF (0,0))::(b1,.cells #[J (ep),J (ld),.slice (Qd g1) isr.length iC,.slice (Qd g2) kn.length kC,.slice (Qd g3) reps.length rC,J (fw),J (bs)] bF (0,0))::(g1,.cells u1 jr (0,0))::(g2,.cells u2 db (0,0))::(g3,.cells u3 fZ (0,0))::M) F) (fun(k,_)=>kn.length-k) (0,400) ⟨by omega,rfl,H⟩ (li Z Z) ?_
 rintro⟨k,m⟩ ρ1 w3 ⟨hk,hm,H⟩
 show CW _ _ _ _ (dH (gZ _ _ ρ1) [(16,J (k:Nat)),(3,J m)]) w3
 refine W<|Zr ?_
 refine cW (cK Z Z) Z Z Z (fun h17=> ?_) (fun h17=> ?_)
 refine U<|W<|ZT Z<|Zk<|W<|Zb<|W ?_
 obtain⟨n,hn_⟩: ∃ n,kn[k]? =some n:=⟨_,ah I⟩
 obtain⟨b,hb_⟩: ∃ b,isr[k]? =some b:=⟨_,ah I⟩
 refine Zr<|G (Yi Z)<|G (cG bc Z Z (by first|omega|(simp only[ae];omega)))<|G (bP ak row2 hn_ 0 Z (H.ent (i:=3) Z) Z)<|G (Wi Z)<|G (Wi Z)<|U<|W<|Zr<|G (Zf gi Z)<|G (Zd gN H 1 Z Z Z)<|G (Yi Z)<|G (cG ed Z Z (by first|omega|(simp only[ae];omega))) ?_
 refine wW (bP dS row1 hb_ 0 Z (H.ent (i:=2) Z) Z) Z Z Z (fun h25=> ?_) (fun h25=> ?_)
 refine U<|ZT Z<|Zr<|G (Yi Z)<|G (Yi Z)<|G (tR Z Z)<|G (Wi Z)<|U<|Zr<|G (bw Z Z I I)<|G (Yi Z)<|U ?_
 refine⟨(k+1,min m n),⟨by omega,by rw[<-hm,AP hb_ hn_];rw[if_pos h25],H⟩,li Z Z,Qg,by show kn.length- (k+1)<kn.length-k;omega⟩
 refine U<|ZF Z<|Zk<|Zr<|G (bw Z Z I I)<|G (Yi Z)<|U ?_
 refine⟨(k+1,m),⟨by omega,by rw[<-hm,AP hb_ hn_];rw[if_neg (by simp[h25])],H⟩,li Z Z,Qg,by show kn.length- (k+1)<kn.length-k;omega⟩
 have hke:k=kn.length:=by omega
 have hm2:m=dv isr kn 400:=by rw[<-hm,hke,fA];cases(isr.drop kn.length)<;>rfl
 refine U<|W<|ZF Z<|Zx<|W<|Zr<|G (Zw aH H 1 Z Z Z)<|G (Zf dt Z)<|G (Zd ak H 1 Z Z Z)<|ch jI (by have hE:=qb ⟨ep,ld,isr,some ⟨g1,0,none⟩,iC,kn,some ⟨g2,0,none⟩,kC,reps,some ⟨g3,0,none⟩,rC,fw,bs⟩ l r _ (row3.rd0 (H.ent (i:=4) Z)) hr (FS H hF hg hc);rw[<-hld]at hE;exact hE) Z Z ?_
 rintro _ w4 ⟨rfl,hb⟩;replace H:=H.later hb;clear hb
 refine G (Yu Z)<|G (Xi Z Z)<|G (Xi Z Z)<|G (Wi Z)<|G (Wi Z)<|U<|W<|Zr<|G (Zf cU Z)<|G (Zd bW H 1 Z Z Z)<|G (Zf dt Z)<|G (Zd ak H 1 Z Z Z)<|G (cG (k:=l) bx Z (congrArg (Value.int .i64) hld) (by first|omega|(simp only[ae];omega)))<|G (Wp Z)<|U<|W<|Zr<|G (Yp Z)<|G (Yp Z)<|G (aJ Z)<|G (Zf dZ Z)<|G (bP ak row3 hr 3 Z (H.ent (i:=4) Z) Z)<|G (Yi Z)<|G (Yi Z)<|G (tR Z Z)<|G (AJ Z Z)<|G (aJ Z)<|G (Zf dZ Z)<|k9 H 4 ({r with high:=max r.high (min m (r.es.length:Nat))}) bH row3 hr 3 Z Z Z Z Z Z N fun w6 cur5 row5 H=> ?_
 have hs7:(reps.set l ({r with high:=max r.high (min m (r.es.length:Nat))}))[l]? =some ({r with high:=max r.high (min m (r.es.length:Nat))}):=al (cC hr).1
 refine U<|W<|Zr<|G (Zw aH H 1 Z Z Z)<|bo H 0 (#[J (ep),J (ld),.slice (Qd g1) isr.length iC,.slice (Qd g2) kn.length kC,.slice (Qd g3) reps.length rC,J (fw),J (bs)]) aK Z Z Z Z Z N N fun w8 H=>U<|Zt ?_
 exact eS (cs0:= #[J (ep),J (ld),.slice (Qd g1) isr.length iC,.slice (Qd g2) kn.length kC,.slice (Qd g3) reps.length rC,J (fw),J (bs)]) Z aH Z (H.ent (i:=0) Z) Z ⟨_,rfl,hm2▸row5,H.forget (.cons _ (.cons _ (ar _))) (fun _ h=>h)⟩
/-- the logs of replicas that a call has made -/
def qw (w:World) (F:List cB) (rs:List fk):Prop:= ∀ r∈rs,(bj r.es).length<=r.cap/\w.heap.size<=r.lo/\Cb r∈F
theorem qw.of {w:World} {F:List cB} {rs:List fk} (h1: ∀ r∈rs,(bj r.es).length<=r.cap) (h2: ∀ r∈rs,w.heap.size<=r.lo):qw w (F++te rs) rs:=fun r hr=>⟨h1 r hr,h2 r hr,cj _ (bS hr)⟩
theorem qw.cons {w:World} {F:List cB} {f:cB} {rs:List fk} (h:qw w F rs):qw w (f::F) rs:=fun r hr=>⟨(h r hr).1,(h r hr).2.1,aj _ (h r hr).2.2⟩
theorem qw.set {w:World} {F:List cB} {rs:List fk} (h:qw w F rs) (i:Nat) {x:fk} (hx:(bj x.es).length<=x.cap/\w.heap.size<=x.lo/\Cb x∈F):qw w F (rs.set i x):=fun r hr=>by
 rcases aM hr with hr|rfl
 exact h r hr
 exact hx
theorem qw.same {w:World} {F:List cB} {rs:List fk} (h:qw w F rs) (i:Nat) {x x':fk} (hx:rs[i]? =some x) (h1:x'.A=x.A) (h2:x'.cap=x.cap) (h3:x'.es=x.es) (h4:x'.lo=x.lo) (h5:x'.hi=x.hi):qw w F (rs.set i x'):=h.set i (by
 have:=h x (ab hx)
 unfold Cb at this⊢
 rw[h1,h2,h3,h4,h5];exact this)
theorem qw.log {w w0 w':World} {L:List (Nat×Obj)} {F:List cB} {rs:List fk} (h:qw w F rs) (H:Hp w0 w' L F) {i:Nat} {x:fk} (hx:rs[i]? =some x) (hg:GL x.es x.s):x.log.ok w':=by
 have h1:=h x (ab hx)
 exact FS H h1.2.2 hg h1.1
theorem eA.mk_ {w w2:World} {L:List (Nat×Obj)} {F:List cB} {p:Pa} {g1 g2 g3:Nat} {u1 u2 u3:Array Value} (i:p.iA=some ⟨g1,0,none⟩) (k:p.kA=some ⟨g2,0,none⟩) (r:p.rA=some ⟨g3,0,none⟩) (ri:dX eX p.isr p.iC u1) (rk:dX bR p.known p.kC u2) (rr:dX g8 p.reps p.rC u3) (hl:qw w F p.reps)
  (few:p.isr.length<=1000000/\p.known.length<=1000000/\p.reps.length<=1000000) (H:Hp w w2 L F) (hL:(g1,Obj.cells u1 jr (0,0))∈L/\(g2,Obj.cells u2 db (0,0))∈L/\(g3,Obj.cells u3 fZ (0,0))∈L):eA w w2 p:=by
 have e1:=H.ents _ hL.1
 have e2:=H.ents _ hL.2.1
 have e3:=H.ents _ hL.2.2
 refine⟨⟨?_,?_,?_,fun r hr=> ?_,ri.le,rk.le,rr.le,fun r hr=>(hl r hr).1,few⟩,H.below⟩
 rw[i];exact(ri.rd e1.1).mono e1.2 (ce e1.1)
 rw[k];exact(rk.rd e2.1).mono e2.2 (ce e2.1)
 rw[r];exact(rr.rd e3.1).mono e3.2 (ce e3.1)
 obtain⟨h1,h2,h3⟩:=hl r hr
 obtain⟨f1,f2,-⟩:=H.facts (Cb r) h3
 exact Rd.mono f1 h2 f2
theorem wh {rs reps:List fk} (hma:rs.map fk.a=reps.map fk.a) {i:Nat} {x:fk} (hx:rs[i]? =some x):(reps.map fk.a)[i]? =some x.a:=by
 rw[<-hma,aL,hx];rfl
theorem wV {rs reps:List fk} {ep ld:Int} {isr:List Bool} {iA kA rA:Option Addr} {iC kC rC:Nat} {kn:List Int} {fw bs:Int} (hma:rs.map fk.a=reps.map fk.a) (hok:(Pa.a ⟨ep,ld,isr,iA,iC,kn,kA,kC,reps,rA,rC,fw,bs⟩).ok) {i:Nat} {x:fk} (hx:rs[i]? =some x):GL x.es x.s/\0<=x.high/\x.high<=x.es.length:=by
 have h1:=hok.reps x.a (ab (show(reps.map fk.a)[i]? =_ from wh hma hx))
 exact⟨h1.gl,h1.high0,h1.high1⟩
def lU (p:fD):fD:=match p.reps[p.leader.toNat]? with
 |some r=>if p.leader<0 then p else{p with reps:=p.reps.set p.leader.toNat {r with high:=max r.high (min (dv p.isr p.known 400) r.es.length)}}
 |none=>p
theorem xK {p:fD} {l:Nat} {r:RA} (hl:p.leader=l) (hr:p.reps[l]? =some r):lU p={p with reps:=p.reps.set l {r with high:=max r.high (min (dv p.isr p.known 400) r.es.length)}}:=by
 have h1:p.leader.toNat=l:=by omega
 unfold lU
 rw[h1,hr];dsimp only;rw[if_neg I]
def oh (p:fD) (r:Nat):fD×Int:=match p.reps[r]? with
 |none=>(gw,5)
 |some x=>if x.up=false then(gw,7)else
  if p.leader=r then(lU {p with reps:=p.reps.set r {x with s:=x.es.length},known:=p.known.set r x.es.length},0)else({p with reps:=p.reps.set r {x with s:=x.es.length}},0)
def p9 (p:fD) (r:Nat):fD×Int:=match p.reps[r]? with
 |none=>(gw,5)
 |some x=>if x.up=true then(gw,6)else({p with reps:=p.reps.set r {x with up:=true}},0)
theorem FC (l:m7) (w:World) (h:l.ok w):dh aa Ba [.agg l.c.toArray] w fun v w2=> ∃ A' c',v=.tuple #[.agg #[.slice A' (bj l.es).length c',J (fW l.es l.es.length:Nat)],J 0]/\(bj l.es).length<=c'/\Rd dC w.heap.size w2.heap.size A' (bj l.es) w2/\Below w.heap.size w w2:=
 (Ho l w h).mono fun _ _ ⟨A',c',h1,h2,h3⟩=>⟨A',c',h1,h2.2.1,h2.2.2,h3⟩
theorem L7 (p:Pa) (r:Nat) (w:World) (h:p.rd 0 w.heap.size w) (hok:p.a.ok) (hr:r<p.reps.length):dh aa Gl [p.v,J (r:Nat)] w fun v w2=> ∃ p':Pa,v=.tuple #[p'.v,J (p9 p.a r).2]/\p'.a=(p9 p.a r).1/\eA w w2 p':=by
 refine aE EK Z Z ?_
 obtain⟨hn1,hn2,hil,hkl,hf1,hf2,he0,he1,hl0,hl1,hb0,hb1,hsm⟩:=Pa.facts hok
 have hkn:=hok.known
 have hiC:=h.iC
 have hkC:=h.kC
 have hrC:=h.rC
 have hfew:=h.few
 have H:=Hp.startPa h
 obtain⟨ep,ld,isr,iA,iC,kn,kA,kC,reps,rA,rC,fw,bs⟩:=p
 simp only[Pa.a]at hkn
 dsimp only at H hn1 hn2 hil hkl hf1 hf2 he0 he1 hl0 hl1 hb0 hb1 hsm hiC hkC hrC hfew
 dsimp only at hr
 show CW _ _ _ _ (args [.agg #[J (ep),J (ld),.slice iA isr.length iC,.slice kA kn.length kC,.slice rA reps.length rC,J (fw),J (bs)],J (((r:Nat):Int))]) w
 refine W<|Zr<|f7 H Z Z fun w1 b2 H=>eP H bv Z fun w2 b4 H=>G (Wi Z)<|U<|W<|Zr<|G (Zw aH H 1 Z Z Z)<|G (Yi Z)<|ch kG (tQ ⟨ep,ld,isr,iA,iC,kn,kA,kC,reps,rA,rC,fw,bs⟩ r _ (Hp.pa H 0 Z) hok hr) Z Z ?_
 rintro _ w3 ⟨⟨ep2,ld2,is2,iA2,c1,kn2,kA2,c2,rs,rA2,c3,fw2,bs2⟩,g1,g2,g3,u1,u2,u3,rfl,ha2,ho⟩
 simp only[Pa.a,fD.mk.injEq]at ha2
 obtain⟨e1,e2,e3,e4,hma,e6,e7⟩:=ha2
 obtain rfl:ep=ep2:=e1.symm
 obtain rfl:ld=ld2:=e2.symm
 obtain rfl:isr=is2:=e3.symm
 obtain rfl:kn=kn2:=e4.symm
 obtain rfl:fw=fw2:=e6.symm
 obtain rfl:bs=bs2:=e7.symm
 have hrl:rs.length=reps.length:=by have:=congrArg ci hma;simpa using this
 obtain⟨i1,i2,i3,row1,row2,row3,hcp,hlos,-,hjn⟩:=ho
 dsimp only at i1 i2 i3 row1 row2 row3 hcp hlos hjn
 subst i1;subst i2;subst i3
 have hlo0:=H.size
 replace H:=H.joinF hjn (by intro f hf;obtain⟨r,hr,rfl⟩:=bp.1 hf;exact hlos r hr)
 replace hlos: ∀ r∈rs,w.heap.size<=r.lo:=fun r hr=>aU hlo0 (hlos r hr)
 clear hjn
 have hlg:=qw.of (F:=[DM 0 w.heap.size ⟨ep,ld,isr,iA,iC,kn,kA,kC,reps,rA,rC,fw,bs⟩,dU eX 0 w.heap.size iA isr,dU bR 0 w.heap.size kA kn,dU g8 0 w.heap.size rA reps]) hcp hlos
 have hok2: ∀ {i:Nat} {x:fk},rs[i]? =some x->GL x.es x.s/\0<=x.high/\x.high<=x.es.length:=fun hx=>wV hma hok hx
 obtain⟨x,hx⟩: ∃ x,rs[r]? =some x:=⟨_,ah I⟩
 have hxa:=wh hma hx
 refine G (Yu Z)<|G (Xa Z Z)<|G (Xi Z Z)<|bo H 4 (#[J (ep),J (ld),.slice (Qd g1) isr.length c1,.slice (Qd g2) kn.length c2,.slice (Qd g3) rs.length c3,J (fw),J (bs)]) aK Z Z Z Z Z N N fun w4 H=>G (Wi Z)<|U<|W<|W<|Zr<|G (Yi Z)<|G (bZ Z Z Z)<|U<|ZF Z<|Zk<|W<|W<|Zr<|G (Zf cU Z)<|G (Zd bW H 4 Z Z Z)<|G (Yi Z)<|G (cG bx Z Z (by first|omega|(simp only[ae];omega)))<|G (Zf fB Z) ?_
 refine wW (bP dS row3 hx 0 Z (H.ent (i:=2) Z) Z) Z Z Z (fun h22=> ?_) (fun h22=> ?_)
 have hS:p9 (Pa.a ⟨ep,ld,isr,iA,iC,kn,kA,kC,reps,rA,rC,fw,bs⟩) r=(gw,6):=by simp[p9,Pa.a,hxa,fk.a,h22]
 rw[hS]
 refine U<|ZT Z<|W<|Zr<|G (bg (cs:= #[J (0),J (0),.slice none 0 0,.slice none 0 0,.slice none 0 0,J (0),J (0)]) cN bv N)<|bo H 3 (#[J (0),J (0),.slice none 0 0,.slice none 0 0,.slice none 0 0,J (0),J (0)]) aK Z Z Z Z Z N N fun w5 H=>G (Wi Z)<|U<|Zt ?_
 exact bE (cs0:= #[J 0,J 0,.slice none 0 0,.slice none 0 0,.slice none 0 0,J 0,J 0]) (v1:=J 6) Z aH Z (H.ent (i:=3) Z) Z Z ⟨zY,rfl,rfl,eA.zero H.below⟩
 have hS:p9 (Pa.a ⟨ep,ld,isr,iA,iC,kn,kA,kC,reps,rA,rC,fw,bs⟩) r=({Pa.a ⟨ep,ld,isr,iA,iC,kn,kA,kC,reps,rA,rC,fw,bs⟩with reps:=(reps.map fk.a).set r {x.a with up:=true}},0):=by simp[p9,Pa.a,hxa,fk.a,h22]
 rw[hS]
 refine U<|ZF Z<|Zk<|W<|Zr<|G (Zf cU Z)<|G (Zd bW H 4 Z Z Z)<|G (Yi Z)<|G (cG bx Z Z (by first|omega|(simp only[ae];omega)))<|G (Zf fB Z)<|k9 H 2 ({x with up:=true}) iU row3 hx 0 Z Z Z Z Z Z N fun w7 cur6 row6 H=> ?_
 have hs8:(rs.set r ({x with up:=true}))[r]? =some ({x with up:=true}):=al (cC hx).1
 refine U<|W<|Zr<|G (Zw aH H 4 Z Z Z)<|bo H 3 (#[J (ep),J (ld),.slice (Qd g1) isr.length c1,.slice (Qd g2) kn.length c2,.slice (Qd g3) rs.length c3,J (fw),J (bs)]) aK Z Z Z Z Z N N fun w9 H=>G (Wi Z)<|U<|Zt ?_
 have hlg2:=hlg.same r (x':={x with up:=true}) hx Z Z Z Z Z
 exact bE (cs0:= #[J (ep),J (ld),.slice (Qd g1) isr.length c1,.slice (Qd g2) kn.length c2,.slice (Qd g3) rs.length c3,J (fw),J (bs)]) (v1:=J 0) Z aH Z (H.ent (i:=3) Z) Z Z ⟨_,by simp[Pa.c],by simp[Pa.a,cE,hma,fk.a],(eA.mk_ (p:=⟨ep,ld,isr,some ⟨g1,0,none⟩,c1,kn,some ⟨g2,0,none⟩,c2,rs.set r {x with up:=true},some ⟨g3,0,none⟩,c3,fw,bs⟩) Z Z Z row1 row2 row6 hlg2 (by dsimp only;try simp only[ae];omega) H ⟨by simp,by simp,by simp⟩)⟩
theorem L0 (p:Pa) (r:Nat) (w:World) (h:p.rd 0 w.heap.size w) (hok:p.a.ok) (hr:r<p.reps.length):dh aa Gk [p.v,J (r:Nat)] w fun v w2=> ∃ p':Pa,v=.tuple #[p'.v,J (oh p.a r).2]/\p'.a=(oh p.a r).1/\eA w w2 p':=by
 refine aE EJ Z Z ?_
 obtain⟨hn1,hn2,hil,hkl,hf1,hf2,he0,he1,hl0,hl1,hb0,hb1,hsm⟩:=Pa.facts hok
 have hkn:=hok.known
 have hiC:=h.iC
 have hkC:=h.kC
 have hrC:=h.rC
 have hfew:=h.few
 have H:=Hp.startPa h
 obtain⟨ep,ld,isr,iA,iC,kn,kA,kC,reps,rA,rC,fw,bs⟩:=p
 simp only[Pa.a]at hkn
 dsimp only at H hn1 hn2 hil hkl hf1 hf2 he0 he1 hl0 hl1 hb0 hb1 hsm hiC hkC hrC hfew
 dsimp only at hr
 show CW _ _ _ _ (args [.agg #[J (ep),J (ld),.slice iA isr.length iC,.slice kA kn.length kC,.slice rA reps.length rC,J (fw),J (bs)],J (((r:Nat):Int))]) w
 refine W<|Zr<|f7 H Z Z fun w1 b2 H=>eP H bv Z fun w2 b4 H=>G (Wi Z)<|U<|W<|Zr<|G (Zw aH H 1 Z Z Z)<|G (Yi Z)<|ch kG (tQ ⟨ep,ld,isr,iA,iC,kn,kA,kC,reps,rA,rC,fw,bs⟩ r _ (Hp.pa H 0 Z) hok hr) Z Z ?_
 rintro _ w3 ⟨⟨ep2,ld2,is2,iA2,c1,kn2,kA2,c2,rs,rA2,c3,fw2,bs2⟩,g1,g2,g3,u1,u2,u3,rfl,ha2,ho⟩
 simp only[Pa.a,fD.mk.injEq]at ha2
 obtain⟨e1,e2,e3,e4,hma,e6,e7⟩:=ha2
 obtain rfl:ep=ep2:=e1.symm
 obtain rfl:ld=ld2:=e2.symm
 obtain rfl:isr=is2:=e3.symm
 obtain rfl:kn=kn2:=e4.symm
 obtain rfl:fw=fw2:=e6.symm
 obtain rfl:bs=bs2:=e7.symm
 have hrl:rs.length=reps.length:=by have:=congrArg ci hma;simpa using this
 obtain⟨i1,i2,i3,row1,row2,row3,hcp,hlos,-,hjn⟩:=ho
 dsimp only at i1 i2 i3 row1 row2 row3 hcp hlos hjn
 subst i1;subst i2;subst i3
 have hlo0:=H.size
 replace H:=H.joinF hjn (by intro f hf;obtain⟨r,hr,rfl⟩:=bp.1 hf;exact hlos r hr)
 replace hlos: ∀ r∈rs,w.heap.size<=r.lo:=fun r hr=>aU hlo0 (hlos r hr)
 clear hjn
 have hlg:=qw.of (F:=[DM 0 w.heap.size ⟨ep,ld,isr,iA,iC,kn,kA,kC,reps,rA,rC,fw,bs⟩,dU eX 0 w.heap.size iA isr,dU bR 0 w.heap.size kA kn,dU g8 0 w.heap.size rA reps]) hcp hlos
 have hok2: ∀ {i:Nat} {x:fk},rs[i]? =some x->GL x.es x.s/\0<=x.high/\x.high<=x.es.length:=fun hx=>wV hma hok hx
 obtain⟨x,hx⟩: ∃ x,rs[r]? =some x:=⟨_,ah I⟩
 have hxa:=wh hma hx
 refine G (Yu Z)<|G (Xa Z Z)<|G (Xi Z Z)<|bo H 4 (#[J (ep),J (ld),.slice (Qd g1) isr.length c1,.slice (Qd g2) kn.length c2,.slice (Qd g3) rs.length c3,J (fw),J (bs)]) aK Z Z Z Z Z N N fun w4 H=>G (Wi Z)<|U<|W<|W<|Zr<|G (Yi Z)<|G (bZ Z Z Z)<|U<|ZF Z<|Zk<|W<|W<|Zr<|G (Zf cU Z)<|G (Zd bW H 4 Z Z Z)<|G (Yi Z)<|G (cG bx Z Z (by first|omega|(simp only[ae];omega)))<|G (Zf fB Z) ?_
 refine wW (bP dS row3 hx 0 Z (H.ent (i:=2) Z) Z) Z Z Z (fun h22=> ?_) (fun h22=> ?_)
 refine G (dM Z)<|U<|ZF Z<|Zk<|W ?_
 have hlo:=H.size
 refine bA cd [0,1,2,3,4,5,6,7,8,9,10,11,12,13,14] [15] [9] [0,2,3,5,6,7,10,11,12,13,14] (sp [(9,Sp.nrow w4.heap.size dC (bj x.es) (fun A c=> .tuple #[.agg #[.slice A (bj x.es).length c,J (fW x.es x.es.length:Nat)],J 0]))]) N N N N Nq (cI _) ?_
 refine aw Z Z Z Z Z (fun w' hw'=>Zf cU Z)<|aw Z Z Z Z Z (fun w' hw'=>aW bW Z (aB ((H.later hw').ent (i:=4) Z) Z))<|aw Z Z Z Z Z (fun w' hw'=>Yi Z)<|aw Z Z Z Z Z (fun w' hw'=>Zf cU Z)<|aw Z Z Z Z Z (fun w' hw'=>aW bW Z (aB ((H.later hw').ent (i:=4) Z) Z))<|aw Z Z Z Z Z (fun w' hw'=>Yi Z)<|aw Z Z Z Z Z (fun w' hw'=>cG bx Z Z (by first|omega|(simp only[ae];omega)))<|aw Z Z Z Z Z (fun w' hw'=>Zf dA Z)<|aw Z Z Z Z Z (fun w' hw'=>tW 1 [.slice x.A ((bj x.es).length) x.cap,J (((fW x.es x.s:Nat):Int))] eV row3 hx Z Z ((H.later hw').ent (i:=2) Z) Z)<|Iz (gv:=(fun A c=> .tuple #[.agg #[.slice A (bj x.es).length c,J (fW x.es x.es.length:Nat)],J 0])) GU Z Z Z Z Z (fun w' hw'=>hw'.size) (fun w' hw'=>FC (fk.log x) w' (hlg.log (H.later hw') hx (hok2 hx).1)) Z fun A35 c35 hc35=>aw Z Z Z Z Z (fun w' hw'=>Yu Z)<|aw Z Z Z Z Z (fun w' hw'=>Xa Z Z)<|aw Z Z Z Z Z (fun w' hw'=>Xi Z Z)<|aw Z Z Z Z Z (fun w' hw'=>cG bx Z Z (by first|omega|(simp only[ae];omega)))<|aw Z Z Z Z Z (fun w' hw'=>Zf dA Z)<|aV ?_
 intro w5 hw' hF
 obtain⟨hF,Aq,cq,eq,hcq,hrw35⟩:=hF;cases eq;clear hcq
 replace H:=H.learnRd hw' hrw35
 clear hw' hF
 refine k9 H 2 ({x with A:=A35,cap:=c35,s:=x.es.length,lo:=w4.heap.size,hi:=w5.heap.size}) jl row3 hx 1 Z Z Z Z Z Z N fun w7 cur6 row6 H=> ?_
 have hs8:(rs.set r ({x with A:=A35,cap:=c35,s:=x.es.length,lo:=w4.heap.size,hi:=w5.heap.size}))[r]? =some ({x with A:=A35,cap:=c35,s:=x.es.length,lo:=w4.heap.size,hi:=w5.heap.size}):=al (cC hx).1
 refine U<|W<|W ?_
 have hlg1:=(hlg.cons (f:=dU dC w4.heap.size w5.heap.size A35 (bj x.es))).set r (x:={x with A:=A35,cap:=c35,s:=x.es.length,lo:=w4.heap.size,hi:=w5.heap.size}) ⟨hc35,hlo,fM _⟩
 have hs9:(rs.set r {x with A:=A35,cap:=c35,s:=x.es.length,lo:=w4.heap.size,hi:=w5.heap.size})[r]? =some {x with A:=A35,cap:=c35,s:=x.es.length,lo:=w4.heap.size,hi:=w5.heap.size}:=al I
 have hF9:=(hlg1 _ (ab hs9)).2.2
 have hc9:=(hlg1 _ (ab hs9)).1
 refine Zr<|G (Yi Z)<|G (Zf dt Z)<|G (Zd ak H 4 Z Z Z) ?_
 refine cW (bn Z Z) Z Z Z (fun h43=> ?_) (fun h43=> ?_)
 refine U<|ZT Z<|W ?_
 obtain⟨kx,hkx⟩: ∃ kx,kn[r]? =some kx:=⟨_,ah I⟩
 refine bA cd [0,1,2,3,4,5,6,7,8,9] [10] [5] [0,2,4,6,7,8,9] (sp [(5,Sp.one (.tuple #[J ((x.es.length:Nat):Int),J ((x.es.length:Nat):Int)]))]) N N N N Nq (cI _) ?_
 refine aw Z Z Z Z Z (fun w' hw'=>Zf gh Z)<|aw Z Z Z Z Z (fun w' hw'=>aW cy Z (aB ((H.later hw').ent (i:=4) Z) Z))<|aw Z Z Z Z Z (fun w' hw'=>Yi Z)<|aw Z Z Z Z Z (fun w' hw'=>jL aH Z ((H.later hw').ent (i:=4) Z) Z)<|aw Z Z Z Z Z (fun w' hw'=>Yi Z)<|ic jI Z Z Z Z Z (fun w' hw'=>(by have hA:=qb ⟨ep,ld,isr,some ⟨g1,0,none⟩,c1,kn,some ⟨g2,0,none⟩,c2,rs.set r {x with A:=A35,cap:=c35,s:=x.es.length,lo:=w4.heap.size,hi:=w5.heap.size},some ⟨g3,0,none⟩,c3,fw,bs⟩ r {x with A:=A35,cap:=c35,s:=x.es.length,lo:=w4.heap.size,hi:=w5.heap.size} w' (row6.rd0 ((H.later hw').ent (i:=2) Z)) hs9 (hlg1.log (H.later hw') hs9 (hok2 hx).1.all);simp only[Pa.v,Pa.c,ae]at hA;exact hA)) Z<|aw Z Z Z Z Z (fun w' hw'=>Yu Z)<|aw Z Z Z Z Z (fun w' hw'=>Xi Z Z)<|aw Z Z Z Z Z (fun w' hw'=>Xi Z Z)<|aw Z Z Z Z Z (fun w' hw'=>cG bc Z Z (by first|omega|(simp only[ae];omega)))<|aV ?_
 intro w9 hw' hF
 replace H:=H.later hw';clear hw' hF
 refine k9 H 1 ((((x.es.length:Nat):Int))) bH row2 hkx 0 Z Z Z Z Z Z N fun w11 cur10 row10 H=> ?_
 have hs12:(kn.set r ((((x.es.length:Nat):Int))))[r]? =some ((((x.es.length:Nat):Int))):=al (cC hkx).1
 refine U<|Zr<|G (Zw aH H 4 Z Z Z)<|ch lG ((by have hA:=zJ ep ld isr c1 (kn.set r ((x.es.length:Nat):Int)) c2 (rs.set r {x with A:=A35,cap:=c35,s:=x.es.length,lo:=w4.heap.size,hi:=w5.heap.size}) c3 fw bs r ({x with A:=A35,cap:=c35,s:=x.es.length,lo:=w4.heap.size,hi:=w5.heap.size}) H row1 row10 row6 (by simp only[ae];omega) (by simp only[ae,bI];omega) (by simp only[ae];omega) h43.symm hs9 hF9 (hok2 hx).1.all hc9;simp only[Pa.v,Pa.c,ae]at hA;exact hA)) Z Z ?_
 rintro _ w13 ⟨u9,rfl,row9,H⟩
 refine bo H 4 (#[J (ep),J (ld),.slice (Qd g1) isr.length c1,.slice (Qd g2) kn.length c2,.slice (Qd g3) rs.length c3,J (fw),J (bs)]) aK Z Z Z Z Z N N fun w14 H=>U<|W<|Zr<|G (Zw aH H 4 Z Z Z)<|bo H 3 (#[J (ep),J (ld),.slice (Qd g1) isr.length c1,.slice (Qd g2) kn.length c2,.slice (Qd g3) rs.length c3,J (fw),J (bs)]) aK Z Z Z Z Z N N fun w15 H=>G (Wi Z)<|U<|Zt ?_
 have hS:oh (Pa.a ⟨ep,ld,isr,iA,iC,kn,kA,kC,reps,rA,rC,fw,bs⟩) r=(lU {Pa.a ⟨ep,ld,isr,iA,iC,kn,kA,kC,reps,rA,rC,fw,bs⟩with reps:=(reps.map fk.a).set r {x.a with s:=x.es.length},known:=kn.set r ((x.es.length:Nat):Int)},0):=by simp[oh,Pa.a,hxa,fk.a,h22,<-h43]
 rw[hS]
 rw[xK (l:=r) (r:={x.a with s:=x.es.length}) h43.symm (al (by simp;omega))]
 have hlg2:=hlg1.same r (x':={x with A:=A35,cap:=c35,s:=x.es.length,lo:=w4.heap.size,hi:=w5.heap.size,high:=max x.high (min (dv isr (kn.set r ((x.es.length:Nat):Int)) 400) (x.es.length:Nat))}) hs9 Z Z Z Z Z
 exact bE (cs0:= #[J (ep),J (ld),.slice (Qd g1) isr.length c1,.slice (Qd g2) kn.length c2,.slice (Qd g3) rs.length c3,J (fw),J (bs)]) (v1:=J 0) Z aH Z (H.ent (i:=3) Z) Z Z ⟨_,by simp[Pa.c],by simp[Pa.a,cE,hma,fk.a],(eA.mk_ (p:=⟨ep,ld,isr,some ⟨g1,0,none⟩,c1,kn.set r ((x.es.length:Nat):Int),some ⟨g2,0,none⟩,c2,_,some ⟨g3,0,none⟩,c3,fw,bs⟩) Z Z Z row1 row10 row9 hlg2 (by dsimp only;try simp only[ae];omega) H ⟨by simp,by simp,by simp⟩)⟩
 refine U<|ZF Z<|Zk<|W<|Zr<|G (Zw aH H 4 Z Z Z)<|bo H 3 (#[J (ep),J (ld),.slice (Qd g1) isr.length c1,.slice (Qd g2) kn.length c2,.slice (Qd g3) rs.length c3,J (fw),J (bs)]) aK Z Z Z Z Z N N fun w16 H=>G (Wi Z)<|U<|Zt ?_
 have hS:oh (Pa.a ⟨ep,ld,isr,iA,iC,kn,kA,kC,reps,rA,rC,fw,bs⟩) r=({Pa.a ⟨ep,ld,isr,iA,iC,kn,kA,kC,reps,rA,rC,fw,bs⟩with reps:=(reps.map fk.a).set r {x.a with s:=x.es.length}},0):=by simp[oh,Pa.a,hxa,fk.a,h22,show¬ ld=(r:Int)from fun h=>h43 h.symm]
 rw[hS]
 exact bE (cs0:= #[J (ep),J (ld),.slice (Qd g1) isr.length c1,.slice (Qd g2) kn.length c2,.slice (Qd g3) rs.length c3,J (fw),J (bs)]) (v1:=J 0) Z aH Z (H.ent (i:=3) Z) Z Z ⟨_,by simp[Pa.c],by simp[Pa.a,cE,hma,fk.a],(eA.mk_ (p:=⟨ep,ld,isr,some ⟨g1,0,none⟩,c1,kn,some ⟨g2,0,none⟩,c2,rs.set r {x with A:=A35,cap:=c35,s:=x.es.length,lo:=w4.heap.size,hi:=w5.heap.size},some ⟨g3,0,none⟩,c3,fw,bs⟩) Z Z Z row1 row2 row6 hlg1 (by dsimp only;try simp only[ae];omega) H ⟨by simp,by simp,by simp⟩)⟩
 refine G (dM Z)<|U<|ZT Z<|W<|Zr<|G (bg (cs:= #[J (0),J (0),.slice none 0 0,.slice none 0 0,.slice none 0 0,J (0),J (0)]) cN bv N)<|bo H 3 (#[J (0),J (0),.slice none 0 0,.slice none 0 0,.slice none 0 0,J (0),J (0)]) aK Z Z Z Z Z N N fun w17 H=>G (Wi Z)<|U<|Zt ?_
 have hS:oh (Pa.a ⟨ep,ld,isr,iA,iC,kn,kA,kC,reps,rA,rC,fw,bs⟩) r=(gw,7):=by simp[oh,Pa.a,hxa,fk.a,h22]
 rw[hS]
 exact bE (cs0:= #[J 0,J 0,.slice none 0 0,.slice none 0 0,.slice none 0 0,J 0,J 0]) (v1:=J 7) Z aH Z (H.ent (i:=3) Z) Z Z ⟨zY,rfl,rfl,eA.zero H.below⟩
end Go.Proofs.YtclibalpdhhhfaaGreat
