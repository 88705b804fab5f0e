/- Part 1 of the proofs over this seat: what its theorems say holds for every input that they name. -/
import Derived.Test.YtclibalpdhhhfaaGreatDE0
namespace Go.Proofs.YtclibalpdhhhfaaGreat
open Go Go.Eng Go.RowKit
open Go.Eng renaming ni→U, AK→W, JA→Zr, Nl→Zk, PV→Zt, Pe→Zb, PA→Zx, P3→Yi, P6→Yb, P1→Ys, P2→Yp, P0→Yt, PZ→Yu, Qm→Wi, Qn→Wb, Qk→Ws, Ql→Wp, Qj→Wt, Qa→Zf, Qe→Xi, Qh→Xa, Qf→Xb, Qc→Xs, PK→Kt, PL→N, pH→ZT, ox→ZF
open Go.Proofs.Tryz renaming prog→aa
open _root_.List renaming length_set→ab,mem_of_getElem?→ae,getElem?_eq_getElem→ah,mem_cons_of_mem→ak,getElem?_set_self→am,mem_singleton→aq,mem_append→ar,mem_cons→av,length_append→ay,getElem?_eq_some_iff→az,mem_cons_self→aA,append_assoc→aD,length_take→aH,mem_iff_getElem?→aK,getElem?_map→aM,sublist_cons_self→aX,append_nil→aY,findIdx?_eq_some_iff_getElem→bg,map_append→bk,mem_map→bv,mem_nil_iff→bx,length_map→bC,mem_or_eq_of_mem_set→bH,length_replicate→bJ,mem_map_of_mem→bL,length_cons→bO,length_singleton→bP,eq_nil_of_length_eq_zero→bU,take_length→bV,mem_append_right→bW,getD_eq_getElem?_getD→bY,getElem?_append_left→cn,length→cv,getElem?_append_right→cw,map_set→cy,take_take→de,findIdx?_eq_none_iff→dp,mem_singleton_self→dH,length_drop→dI,getElem?_drop→dK,all_eq_true→ec,drop_of_length_le→eg,map_cons→eI,ext_getElem?→eJ,drop_length→fq,getElem?_take_of_lt→fD,mem_append_left→fP,take_of_length_le→f6,flatMap_cons→f8,take_append_drop→gL,take_append_of_le_length→ib,take_left→i7,filter_append→i8,length_nil→ji,drop_drop→j0,nodup_cons→kN,nil_append→kO,getElem?_set→lu,map_nil→mg,drop_eq_getElem_cons→mO,take_succ_cons→mP,flatMap_append→mQ,getElem?_cons_succ→oG,nodup_append→oZ,find?_cons_of_neg→pd,take_subset→qm,perm_middle→qn,cons_append→qo,perm_append_singleton→s6,nil_sublist→vt,filter_eq_nil_iff→v6,mem_of_mem_take→yH,set_cons_zero→Bj,range→Bl,find?_eq_none→Bm,take_succ_eq_append_getElem→CY
open _root_.List.Perm renaming swap→al
open _root_.Nat renaming le_refl→ao,le_trans→aT,min_eq_left→br,zero_le→bA,zero_add→cE,add_mul→cQ,mul_le_mul_right→di,le_of_ble_eq_true→fd,mod_eq_of_lt→gT,lt_or_ge→iI,mod_lt→jC,add_assoc→kX,sub_self→me,le_of_lt→mf,add_sub_cancel_left→oF,two_pow_add_eq_or_of_lt→rY,add_zero→rZ,add_comm→r3,div_lt_of_lt_mul→yF,mul_comm→CX
open _root_.List.Sublist renaming refl→ap
open _root_.Bool renaming and_eq_true→aS,true_and→gW
open _root_.Option.some renaming inj→bB
open _root_.Array renaming length_toList→cj
open _root_.List.Mem renaming head→fF,tail→qx
open _root_.Int renaming le_refl→ic,toNat_natCast→ud
set_option maxHeartbeats 4000000
set_option maxRecDepth 20000
set_option linter.unusedSimpArgs false
set_option linter.unusedVariables false
set_option linter.unusedSectionVars false
section
open Go Go.Eng
theorem bZ:aa.follows .mixedOrders=true:=by kernel_rfl
abbrev cW:TypeId:=3
theorem aj:pQ aa 3=true:=by kernel_rfl
theorem bI:(aa.info? 3).map (·.size)=some 1:=by kernel_rfl
theorem ip:oP aa 3 .i64=true:=by kernel_rfl
theorem v8:(aa.info? 3).bind (·.zero)=some (.int .i64 0):=by kernel_rfl
abbrev jh:TypeId:=4
theorem dR:pQ aa 4=true:=by kernel_rfl
theorem iJ:(aa.info? 4).map (·.size)=some 1:=by kernel_rfl
theorem wg:aa.underlying 4=some .bool:=by kernel_rfl
theorem J0:(aa.info? 4).bind (·.zero)=some (.bool false):=by kernel_rfl
abbrev mL:TypeId:=5
theorem mo:pQ aa 5=true:=by kernel_rfl
theorem ik:oP aa 5 .u8=true:=by kernel_rfl
theorem zn:(aa.info? 5).bind (·.zero)=some (.int .u8 0):=by kernel_rfl
abbrev kD:TypeId:=9
theorem ba:pQ aa 9=true:=by kernel_rfl
theorem zz:(aa.info? 9).map (·.size)=some 1:=by kernel_rfl
theorem jq:wh aa 9=true:=by kernel_rfl
theorem v7:(aa.info? 9).bind (·.zero)=some (.string ⟨#[]⟩):=by kernel_rfl
theorem Cz:oP aa 21 .i32=true:=by kernel_rfl
theorem Mx:dX aa 22 76 4=true:=by kernel_rfl
theorem K8:pr aa 22=true:=by kernel_rfl
abbrev iu:TypeId:=24
theorem rR:kW aa 24 4=true:=by kernel_rfl
theorem Cm:(aa.info? 24).map (·.size)=some 4:=by kernel_rfl
theorem Kj:gX aa 24 [(0,1),(1,1),(2,1),(3,1)]=true:=by kernel_rfl
theorem p9:cu aa 24 0 0=true:=by kernel_rfl
theorem lF:cu aa 24 1 1=true:=by kernel_rfl
theorem Ha:cu aa 24 2 2=true:=by kernel_rfl
theorem AE:cu aa 24 3 3=true:=by kernel_rfl
theorem C3:(aa.info? 24).bind (·.zero)=some (.agg #[.int .i64 0,.int .i64 0,.int .i64 0,.int .i64 0]):=by kernel_rfl
theorem wm:dX aa 26 72 7=true:=by kernel_rfl
theorem z5:pr aa 26=true:=by kernel_rfl
theorem zg:Ef aa 26 72 7 72=true:=by kernel_rfl
theorem Gm:dX aa 28 63 3=true:=by kernel_rfl
theorem Fi:pr aa 28=true:=by kernel_rfl
theorem Hr:Ef aa 28 63 3 40=true:=by kernel_rfl
theorem d4:pQ aa 29=true:=by kernel_rfl
theorem ui:(aa.info? 29).map (·.size)=some 1:=by kernel_rfl
theorem gU:dX aa 29 47 7=true:=by kernel_rfl
theorem kG:pr aa 29=true:=by kernel_rfl
theorem xe:Ef aa 29 47 7 104=true:=by kernel_rfl
theorem dL:pQ aa 30=true:=by kernel_rfl
theorem zC:(aa.info? 30).map (·.size)=some 1:=by kernel_rfl
theorem gH:dX aa 30 89 7=true:=by kernel_rfl
theorem lf:pr aa 30=true:=by kernel_rfl
theorem Ig:Ef aa 30 89 7 80=true:=by kernel_rfl
abbrev bf:TypeId:=32
theorem ax:kW aa 32 4=true:=by kernel_rfl
theorem aF:(aa.info? 32).map (·.size)=some 4:=by kernel_rfl
theorem fx:gX aa 32 [(0,1),(1,1),(2,1),(3,1)]=true:=by kernel_rfl
theorem km:cu aa 32 0 0=true:=by kernel_rfl
theorem kk:cu aa 32 1 1=true:=by kernel_rfl
theorem vO:cu aa 32 2 2=true:=by kernel_rfl
theorem cO:cu aa 32 3 3=true:=by kernel_rfl
theorem cK:(aa.info? 32).bind (·.zero)=some (.agg #[.int .i64 0,.int .i64 0,.int .i64 0,.slice none 0 0]):=by kernel_rfl
theorem dt:pQ aa 33=true:=by kernel_rfl
theorem tu:(aa.info? 33).map (·.size)=some 1:=by kernel_rfl
theorem ez:dX aa 33 94 3=true:=by kernel_rfl
theorem gm:pr aa 33=true:=by kernel_rfl
theorem AV:Ef aa 33 94 3 48=true:=by kernel_rfl
abbrev ya:TypeId:=34
theorem ex:pQ aa 34=true:=by kernel_rfl
theorem nX:(aa.info? 34).map (·.size)=some 1:=by kernel_rfl
theorem cV:dX aa 34 99 2=true:=by kernel_rfl
theorem g9:pr aa 34=true:=by kernel_rfl
theorem vT:Ef aa 34 99 2 16=true:=by kernel_rfl
abbrev cM:TypeId:=36
theorem aR:kW aa 36 5=true:=by kernel_rfl
theorem bF:(aa.info? 36).map (·.size)=some 5:=by kernel_rfl
theorem j4:gX aa 36 [(0,1),(1,1),(2,1),(3,1),(4,1)]=true:=by kernel_rfl
theorem jz:cu aa 36 0 0=true:=by kernel_rfl
theorem vN:cu aa 36 1 1=true:=by kernel_rfl
theorem kj:cu aa 36 2 2=true:=by kernel_rfl
theorem dJ:cu aa 36 3 3=true:=by kernel_rfl
theorem dT:cu aa 36 4 4=true:=by kernel_rfl
theorem dZ:(aa.info? 36).bind (·.zero)=some (.agg #[.int .i64 0,.int .i64 0,.int .i64 0,.slice none 0 0,.slice none 0 0]):=by kernel_rfl
theorem j8:pQ aa 37=true:=by kernel_rfl
theorem EG:(aa.info? 37).map (·.size)=some 1:=by kernel_rfl
theorem se:dX aa 37 140 6=true:=by kernel_rfl
theorem tD:pr aa 37=true:=by kernel_rfl
theorem Hq:Ef aa 37 140 6 88=true:=by kernel_rfl
abbrev jY:TypeId:=39
theorem nI:kW aa 39 11=true:=by kernel_rfl
theorem kF:(aa.info? 39).map (·.size)=some 11:=by kernel_rfl
theorem Ki:gX aa 39 [(0,1),(1,4),(5,5),(10,1)]=true:=by kernel_rfl
theorem dC:cu aa 39 0 0=true:=by kernel_rfl
theorem eA:cu aa 39 1 1=true:=by kernel_rfl
theorem jy:cu aa 39 2 5=true:=by kernel_rfl
theorem ki:cu aa 39 3 10=true:=by kernel_rfl
theorem nN:(aa.info? 39).bind (·.zero)=some (.agg #[.slice none 0 0,.int .i64 0,.int .i64 0,.int .i64 0,.slice none 0 0,.int .i64 0,.int .i64 0,.int .i64 0,.slice none 0 0,.slice none 0 0,.slice none 0 0]):=by kernel_rfl
theorem gI:pQ aa 43=true:=by kernel_rfl
theorem ID:(aa.info? 43).map (·.size)=some 1:=by kernel_rfl
theorem d6:dX aa 43 4 1=true:=by kernel_rfl
theorem xE:pr aa 43=true:=by kernel_rfl
theorem L7:Ef aa 43 4 1 1=true:=by kernel_rfl
abbrev xZ:TypeId:=44
theorem cr:pQ aa 44=true:=by kernel_rfl
theorem jF:(aa.info? 44).map (·.size)=some 1:=by kernel_rfl
theorem aZ:dX aa 44 3 1=true:=by kernel_rfl
theorem eF:pr aa 44=true:=by kernel_rfl
theorem zf:Ef aa 44 3 1 8=true:=by kernel_rfl
theorem bR:pQ aa 45=true:=by kernel_rfl
theorem Dg:(aa.info? 45).map (·.size)=some 1:=by kernel_rfl
theorem bu:dX aa 45 56 4=true:=by kernel_rfl
theorem gf:pr aa 45=true:=by kernel_rfl
theorem FY:Ef aa 45 56 4 48=true:=by kernel_rfl
abbrev bz:TypeId:=47
theorem aG:kW aa 47 7=true:=by kernel_rfl
theorem aL:(aa.info? 47).map (·.size)=some 7:=by kernel_rfl
theorem cL:gX aa 47 [(0,1),(1,1),(2,1),(3,1),(4,1),(5,1),(6,1)]=true:=by kernel_rfl
theorem pL:cu aa 47 0 0=true:=by kernel_rfl
theorem dr:cu aa 47 1 1=true:=by kernel_rfl
theorem fZ:cu aa 47 2 2=true:=by kernel_rfl
theorem fY:cu aa 47 3 3=true:=by kernel_rfl
theorem cP:cu aa 47 4 4=true:=by kernel_rfl
theorem xP:cu aa 47 5 5=true:=by kernel_rfl
theorem uz:cu aa 47 6 6=true:=by kernel_rfl
theorem bo:(aa.info? 47).bind (·.zero)=some (.agg #[.int .i64 0,.int .i64 0,.slice none 0 0,.slice none 0 0,.slice none 0 0,.int .i64 0,.int .i64 0]):=by kernel_rfl
theorem nc:pQ aa 48=true:=by kernel_rfl
theorem dN:dX aa 48 59 7=true:=by kernel_rfl
theorem eh:pr aa 48=true:=by kernel_rfl
theorem JL:Ef aa 48 59 7 64=true:=by kernel_rfl
theorem d3:pQ aa 52=true:=by kernel_rfl
theorem Cn:(aa.info? 52).map (·.size)=some 1:=by kernel_rfl
theorem d5:dX aa 52 5 1=true:=by kernel_rfl
theorem eN:pr aa 52=true:=by kernel_rfl
theorem oD:Ef aa 52 5 1 1=true:=by kernel_rfl
theorem C4:(aa.info? 52).bind (·.zero)=some (.slice none 0 0):=by kernel_rfl
abbrev Bb:TypeId:=54
theorem eK:kW aa 54 2=true:=by kernel_rfl
theorem ja:(aa.info? 54).map (·.size)=some 2:=by kernel_rfl
theorem tr:gX aa 54 [(0,1),(1,1)]=true:=by kernel_rfl
theorem gy:cu aa 54 0 0=true:=by kernel_rfl
theorem lk:cu aa 54 1 1=true:=by kernel_rfl
theorem pM:(aa.info? 54).bind (·.zero)=some (.agg #[.slice none 0 0,.int .i64 0]):=by kernel_rfl
abbrev fi:TypeId:=56
theorem lV:kW aa 56 4=true:=by kernel_rfl
theorem j5:(aa.info? 56).map (·.size)=some 4:=by kernel_rfl
theorem Gj:gX aa 56 [(0,1),(1,2),(3,1)]=true:=by kernel_rfl
theorem ft:cu aa 56 0 0=true:=by kernel_rfl
theorem dq:cu aa 56 1 1=true:=by kernel_rfl
theorem dV:cu aa 56 2 3=true:=by kernel_rfl
theorem m7:(aa.info? 56).bind (·.zero)=some (.agg #[.bool false,.slice none 0 0,.int .i64 0,.int .i64 0]):=by kernel_rfl
abbrev dh:TypeId:=59
theorem dB:kW aa 59 7=true:=by kernel_rfl
theorem eM:(aa.info? 59).map (·.size)=some 7:=by kernel_rfl
theorem nW:gX aa 59 [(0,1),(1,1),(2,1),(3,1),(4,1),(5,1),(6,1)]=true:=by kernel_rfl
theorem nB:cu aa 59 0 0=true:=by kernel_rfl
theorem eS:cu aa 59 1 1=true:=by kernel_rfl
theorem ei:cu aa 59 2 2=true:=by kernel_rfl
theorem eR:cu aa 59 3 3=true:=by kernel_rfl
theorem eB:cu aa 59 4 4=true:=by kernel_rfl
theorem iY:cu aa 59 5 5=true:=by kernel_rfl
theorem qa:cu aa 59 6 6=true:=by kernel_rfl
theorem fU:(aa.info? 59).bind (·.zero)=some (.agg #[.int .i64 0,.int .i64 0,.int .i64 0,.int .i64 0,.int .i64 0,.bool false,.string ⟨#[]⟩]):=by kernel_rfl
abbrev lW:TypeId:=61
theorem jj:pQ aa 61=true:=by kernel_rfl
theorem EF:(aa.info? 61).map (·.size)=some 1:=by kernel_rfl
theorem ig:dX aa 61 9 1=true:=by kernel_rfl
theorem lM:pr aa 61=true:=by kernel_rfl
theorem vS:Ef aa 61 9 1 16=true:=by kernel_rfl
abbrev d9:TypeId:=63
theorem aP:kW aa 63 3=true:=by kernel_rfl
theorem aQ:(aa.info? 63).map (·.size)=some 3:=by kernel_rfl
theorem iF:gX aa 63 [(0,1),(1,1),(2,1)]=true:=by kernel_rfl
theorem yz:cu aa 63 2 2=true:=by kernel_rfl
theorem dn:(aa.info? 63).bind (·.zero)=some (.agg #[.int .i64 0,.int .i64 0,.slice none 0 0]):=by kernel_rfl
abbrev f5:TypeId:=72
theorem dP:kW aa 72 7=true:=by kernel_rfl
theorem iK:(aa.info? 72).map (·.size)=some 7:=by kernel_rfl
theorem jr:gX aa 72 [(0,1),(1,1),(2,1),(3,1),(4,1),(5,1),(6,1)]=true:=by kernel_rfl
theorem mE:cu aa 72 0 0=true:=by kernel_rfl
theorem fb:cu aa 72 1 1=true:=by kernel_rfl
theorem dS:cu aa 72 2 2=true:=by kernel_rfl
theorem eT:cu aa 72 3 3=true:=by kernel_rfl
theorem FK:cu aa 72 4 4=true:=by kernel_rfl
theorem AF:cu aa 72 5 5=true:=by kernel_rfl
theorem jI:cu aa 72 6 6=true:=by kernel_rfl
theorem jD:(aa.info? 72).bind (·.zero)=some (.agg #[.int .i64 0,.string ⟨#[]⟩,.int .i64 0,.int .i64 0,.int .i64 0,.string ⟨#[]⟩,.int .i64 0]):=by kernel_rfl
abbrev vp:TypeId:=76
theorem Nw:kW aa 76 4=true:=by kernel_rfl
theorem My:(aa.info? 76).map (·.size)=some 4:=by kernel_rfl
theorem LC:cu aa 76 0 0=true:=by kernel_rfl
theorem mD:cu aa 76 1 1=true:=by kernel_rfl
theorem LB:cu aa 76 2 2=true:=by kernel_rfl
theorem lj:cu aa 76 3 3=true:=by kernel_rfl
theorem OR:(aa.info? 76).bind (·.zero)=some (.agg #[.int .i64 0,.int .i64 0,.int .i64 0,.int .i64 0]):=by kernel_rfl
abbrev dE:TypeId:=89
theorem zh:kW aa 89 7=true:=by kernel_rfl
theorem HD:(aa.info? 89).map (·.size)=some 7:=by kernel_rfl
theorem NZ:gX aa 89 [(0,1),(1,1),(2,1),(3,1),(4,1),(5,1),(6,1)]=true:=by kernel_rfl
theorem om:cu aa 89 0 0=true:=by kernel_rfl
theorem li:cu aa 89 1 1=true:=by kernel_rfl
theorem gx:cu aa 89 2 2=true:=by kernel_rfl
theorem cS:cu aa 89 3 3=true:=by kernel_rfl
theorem dy:cu aa 89 4 4=true:=by kernel_rfl
theorem tT:cu aa 89 5 5=true:=by kernel_rfl
theorem jg:cu aa 89 6 6=true:=by kernel_rfl
theorem Hx:(aa.info? 89).bind (·.zero)=some (.agg #[.string ⟨#[]⟩,.int .i64 0,.int .i64 0,.int .i64 0,.slice none 0 0,.int .i64 0,.int .i64 0]):=by kernel_rfl
abbrev db:TypeId:=94
theorem nJ:kW aa 94 3=true:=by kernel_rfl
theorem sf:(aa.info? 94).map (·.size)=some 3:=by kernel_rfl
theorem IC:gX aa 94 [(0,1),(1,1),(2,1)]=true:=by kernel_rfl
theorem ou:cu aa 94 0 0=true:=by kernel_rfl
theorem qG:cu aa 94 1 1=true:=by kernel_rfl
theorem iS:cu aa 94 2 2=true:=by kernel_rfl
theorem tl:(aa.info? 94).bind (·.zero)=some (.agg #[.string ⟨#[]⟩,.int .i64 0,.slice none 0 0]):=by kernel_rfl
abbrev d8:TypeId:=99
theorem AZ:kW aa 99 2=true:=by kernel_rfl
theorem zB:(aa.info? 99).map (·.size)=some 2:=by kernel_rfl
theorem uh:gX aa 99 [(0,1),(1,1)]=true:=by kernel_rfl
theorem jl:cu aa 99 0 0=true:=by kernel_rfl
theorem ot:cu aa 99 1 1=true:=by kernel_rfl
theorem k9:(aa.info? 99).bind (·.zero)=some (.agg #[.int .i64 0,.int .i64 0]):=by kernel_rfl
abbrev bK:TypeId:=104
theorem IB:gX aa 104 [(0,11)]=true:=by kernel_rfl
theorem aW:cu aa 104 0 0=true:=by kernel_rfl
theorem JZ:(aa.info? 104).bind (·.zero)=some (.agg #[.slice none 0 0,.int .i64 0,.int .i64 0,.int .i64 0,.slice none 0 0,.int .i64 0,.int .i64 0,.int .i64 0,.slice none 0 0,.slice none 0 0,.slice none 0 0]):=by kernel_rfl
theorem Fk:oP aa 108 .u64=true:=by kernel_rfl
abbrev ub:TypeId:=127
theorem IA:gX aa 127 [(0,1),(1,1)]=true:=by kernel_rfl
theorem lS:cu aa 127 0 0=true:=by kernel_rfl
theorem kh:cu aa 127 1 1=true:=by kernel_rfl
theorem JY:(aa.info? 127).bind (·.zero)=some (.agg #[.slice none 0 0,.bool false]):=by kernel_rfl
theorem iN:Gx aa 137=true:=by kernel_rfl
abbrev fz:TypeId:=140
theorem zA:(aa.info? 140).map (·.size)=some 6:=by kernel_rfl
theorem xu:gX aa 140 [(0,1),(1,1),(2,1),(3,1),(4,1),(5,1)]=true:=by kernel_rfl
theorem oq:cu aa 140 0 0=true:=by kernel_rfl
theorem FJ:cu aa 140 1 1=true:=by kernel_rfl
theorem tU:cu aa 140 2 2=true:=by kernel_rfl
theorem oo:cu aa 140 3 3=true:=by kernel_rfl
theorem yy:cu aa 140 4 4=true:=by kernel_rfl
theorem lT:cu aa 140 5 5=true:=by kernel_rfl
theorem v9:(aa.info? 140).bind (·.zero)=some (.agg #[.string ⟨#[]⟩,.int .i64 0,.int .i64 0,.bool false,.slice none 0 0,.slice none 0 0]):=by kernel_rfl
abbrev F4:TypeId:=187
theorem nO:Gx aa 187=true:=by kernel_rfl
theorem qy:(aa.info? 187).bind (·.zero)=some (.pointer none):=by kernel_rfl
abbrev lI:TypeId:=191
theorem yf:gX aa 191 [(0,1),(1,1),(2,1),(3,1)]=true:=by kernel_rfl
theorem jN:cu aa 191 0 0=true:=by kernel_rfl
theorem fl:cu aa 191 1 1=true:=by kernel_rfl
theorem dY:cu aa 191 2 2=true:=by kernel_rfl
theorem hN:cu aa 191 3 3=true:=by kernel_rfl
theorem zm:(aa.info? 191).bind (·.zero)=some (.agg #[.int .i64 0,.int .i64 0,.int .i64 0,.int .i64 0]):=by kernel_rfl
theorem wl:dX aa 199 44 1=true:=by kernel_rfl
theorem I9:pr aa 199=true:=by kernel_rfl
theorem rB:dX aa 209 52 1=true:=by kernel_rfl
theorem z4:pr aa 209=true:=by kernel_rfl
abbrev rG:FuncId:=7
theorem re:aa.funcs[(7:Nat)]? =some Tryz.f7:=Tryz.func7
abbrev oa:FuncId:=9
theorem tc:aa.funcs[(9:Nat)]? =some Tryz.f9:=Tryz.func9
theorem te:bi aa 9=true:=by kernel_rfl
abbrev uI:FuncId:=10
theorem tO:aa.funcs[(10:Nat)]? =some Tryz.f10:=Tryz.func10
theorem oz:bi aa 10=true:=by kernel_rfl
abbrev u7:FuncId:=13
theorem Ax:aa.funcs[(13:Nat)]? =some Tryz.f13:=Tryz.func13
theorem fL:bi aa 13=true:=by kernel_rfl
abbrev vJ:FuncId:=16
theorem uK:aa.funcs[(16:Nat)]? =some Tryz.f16:=Tryz.func16
theorem kU:bi aa 16=true:=by kernel_rfl
abbrev DB:FuncId:=17
theorem BL:aa.funcs[(17:Nat)]? =some Tryz.f17:=Tryz.func17
theorem lr:bi aa 17=true:=by kernel_rfl
abbrev BD:FuncId:=18
theorem Az:aa.funcs[(18:Nat)]? =some Tryz.f18:=Tryz.func18
theorem kw:bi aa 18=true:=by kernel_rfl
abbrev BC:FuncId:=19
theorem Ay:aa.funcs[(19:Nat)]? =some Tryz.f19:=Tryz.func19
theorem t6:bi aa 19=true:=by kernel_rfl
abbrev s8:FuncId:=20
theorem sy:aa.funcs[(20:Nat)]? =some Tryz.f20:=Tryz.func20
theorem aJ:bi aa 20=true:=by kernel_rfl
abbrev uH:FuncId:=21
theorem tN:aa.funcs[(21:Nat)]? =some Tryz.f21:=Tryz.func21
theorem t5:bi aa 21=true:=by kernel_rfl
abbrev uG:FuncId:=22
theorem tM:aa.funcs[(22:Nat)]? =some Tryz.f22:=Tryz.func22
theorem t0:bi aa 22=true:=by kernel_rfl
abbrev DH:FuncId:=23
theorem BT:aa.funcs[(23:Nat)]? =some Tryz.f23:=Tryz.func23
theorem B3:bi aa 23=true:=by kernel_rfl
abbrev yv:FuncId:=25
theorem DN:aa.funcs[(25:Nat)]? =some Tryz.f25:=Tryz.func25
theorem mH:bi aa 25=true:=by kernel_rfl
abbrev Bz:FuncId:=26
theorem Au:aa.funcs[(26:Nat)]? =some Tryz.f26:=Tryz.func26
theorem ks:bi aa 26=true:=by kernel_rfl
abbrev oR:FuncId:=27
theorem ol:aa.funcs[(27:Nat)]? =some Tryz.f27:=Tryz.func27
theorem jn:bi aa 27=true:=by kernel_rfl
abbrev Fp:FuncId:=28
theorem DO:aa.funcs[(28:Nat)]? =some Tryz.f28:=Tryz.func28
theorem jB:bi aa 28=true:=by kernel_rfl
abbrev Ak:FuncId:=29
theorem yQ:aa.funcs[(29:Nat)]? =some Tryz.f29:=Tryz.func29
theorem sX:bi aa 29=true:=by kernel_rfl
abbrev Fu:FuncId:=30
theorem DU:aa.funcs[(30:Nat)]? =some Tryz.f30:=Tryz.func30
theorem D9:bi aa 30=true:=by kernel_rfl
abbrev nk:FuncId:=31
theorem mU:aa.funcs[(31:Nat)]? =some Tryz.f31:=Tryz.func31
theorem mW:bi aa 31=true:=by kernel_rfl
abbrev rK:FuncId:=32
theorem wL:aa.funcs[(32:Nat)]? =some Tryz.f32:=Tryz.func32
theorem wY:bi aa 32=true:=by kernel_rfl
abbrev DC:FuncId:=33
theorem BM:aa.funcs[(33:Nat)]? =some Tryz.f33:=Tryz.func33
theorem vj:bi aa 33=true:=by kernel_rfl
abbrev kS:FuncId:=34
theorem kH:aa.funcs[(34:Nat)]? =some Tryz.f34:=Tryz.func34
theorem kJ:bi aa 34=true:=by kernel_rfl
abbrev rJ:FuncId:=35
theorem wK:aa.funcs[(35:Nat)]? =some Tryz.f35:=Tryz.func35
theorem wW:bi aa 35=true:=by kernel_rfl
abbrev Am:FuncId:=36
theorem yS:aa.funcs[(36:Nat)]? =some Tryz.f36:=Tryz.func36
theorem y0:bi aa 36=true:=by kernel_rfl
abbrev uJ:FuncId:=37
theorem tR:aa.funcs[(37:Nat)]? =some Tryz.f37:=Tryz.func37
theorem t7:bi aa 37=true:=by kernel_rfl
abbrev jk:FuncId:=38
theorem nu:aa.funcs[(38:Nat)]? =some Tryz.f38:=Tryz.func38
theorem nE:bi aa 38=true:=by kernel_rfl
abbrev G0:FuncId:=39
theorem FB:aa.funcs[(39:Nat)]? =some Tryz.f39:=Tryz.func39
theorem yA:bi aa 39=true:=by kernel_rfl
abbrev Fl:FuncId:=40
theorem DK:aa.funcs[(40:Nat)]? =some Tryz.f40:=Tryz.func40
theorem D2:bi aa 40=true:=by kernel_rfl
abbrev qp:FuncId:=41
theorem pY:aa.funcs[(41:Nat)]? =some Tryz.f41:=Tryz.func41
theorem qd:bi aa 41=true:=by kernel_rfl
abbrev DG:FuncId:=42
theorem BQ:aa.funcs[(42:Nat)]? =some Tryz.f42:=Tryz.func42
theorem rv:bi aa 42=true:=by kernel_rfl
abbrev pw:FuncId:=43
theorem oS:aa.funcs[(43:Nat)]? =some Tryz.f43:=Tryz.func43
theorem dD:bi aa 43=true:=by kernel_rfl
abbrev mt:FuncId:=44
theorem l8:aa.funcs[(44:Nat)]? =some Tryz.f44:=Tryz.func44
theorem iy:bi aa 44=true:=by kernel_rfl
abbrev sV:FuncId:=45
theorem xI:aa.funcs[(45:Nat)]? =some Tryz.f45:=Tryz.func45
theorem xS:bi aa 45=true:=by kernel_rfl
abbrev l6:FuncId:=46
theorem lE:aa.funcs[(46:Nat)]? =some Tryz.f46:=Tryz.func46
theorem dm:bi aa 46=true:=by kernel_rfl
abbrev G2:FuncId:=47
theorem FE:aa.funcs[(47:Nat)]? =some Tryz.f47:=Tryz.func47
theorem FW:bi aa 47=true:=by kernel_rfl
abbrev Fv:FuncId:=48
theorem DV:aa.funcs[(48:Nat)]? =some Tryz.f48:=Tryz.func48
theorem Ea:bi aa 48=true:=by kernel_rfl
abbrev Ft:FuncId:=49
theorem DT:aa.funcs[(49:Nat)]? =some Tryz.f49:=Tryz.func49
theorem D8:bi aa 49=true:=by kernel_rfl
abbrev yw:FuncId:=50
theorem DS:aa.funcs[(50:Nat)]? =some Tryz.f50:=Tryz.func50
theorem mI:bi aa 50=true:=by kernel_rfl
abbrev kc:FuncId:=51
theorem m1:aa.funcs[(51:Nat)]? =some Tryz.f51:=Tryz.func51
theorem tf:bi aa 51=true:=by kernel_rfl
abbrev jR:FuncId:=52
theorem mz:aa.funcs[(52:Nat)]? =some Tryz.f52:=Tryz.func52
theorem sM:bi aa 52=true:=by kernel_rfl
abbrev iR:FuncId:=53
theorem jS:aa.funcs[(53:Nat)]? =some Tryz.f53:=Tryz.func53
theorem m4:bi aa 53=true:=by kernel_rfl
abbrev jx:FuncId:=54
theorem lR:aa.funcs[(54:Nat)]? =some Tryz.f54:=Tryz.func54
theorem lU:bi aa 54=true:=by kernel_rfl
abbrev kb:FuncId:=55
theorem m0:aa.funcs[(55:Nat)]? =some Tryz.f55:=Tryz.func55
theorem m5:bi aa 55=true:=by kernel_rfl
abbrev og:FuncId:=56
theorem td:aa.funcs[(56:Nat)]? =some Tryz.f56:=Tryz.func56
theorem m3:bi aa 56=true:=by kernel_rfl
abbrev lg:FuncId:=57
theorem qv:aa.funcs[(57:Nat)]? =some Tryz.f57:=Tryz.func57
theorem fV:bi aa 57=true:=by kernel_rfl
abbrev lP:FuncId:=58
theorem rp:aa.funcs[(58:Nat)]? =some Tryz.f58:=Tryz.func58
theorem dM:bi aa 58=true:=by kernel_rfl
abbrev gu:FuncId:=59
theorem iq:aa.funcs[(59:Nat)]? =some Tryz.f59:=Tryz.func59
theorem ee:bi aa 59=true:=by kernel_rfl
abbrev xH:FuncId:=60
theorem wM:aa.funcs[(60:Nat)]? =some Tryz.f60:=Tryz.func60
theorem bN:bi aa 60=true:=by kernel_rfl
abbrev tJ:FuncId:=61
theorem tb:aa.funcs[(61:Nat)]? =some Tryz.f61:=Tryz.func61
theorem ir:bi aa 61=true:=by kernel_rfl
abbrev Dw:FuncId:=62
theorem BF:aa.funcs[(62:Nat)]? =some Tryz.f62:=Tryz.func62
theorem rt:bi aa 62=true:=by kernel_rfl
abbrev sW:FuncId:=63
theorem xM:aa.funcs[(63:Nat)]? =some Tryz.f63:=Tryz.func63
theorem xU:bi aa 63=true:=by kernel_rfl
abbrev ob:FuncId:=64
theorem nt:aa.funcs[(64:Nat)]? =some Tryz.f64:=Tryz.func64
theorem nD:bi aa 64=true:=by kernel_rfl
abbrev qq:FuncId:=65
theorem p5:aa.funcs[(65:Nat)]? =some Tryz.f65:=Tryz.func65
theorem qe:bi aa 65=true:=by kernel_rfl
abbrev lN:FuncId:=66
theorem rg:aa.funcs[(66:Nat)]? =some Tryz.f66:=Tryz.func66
theorem gg:bi aa 66=true:=by kernel_rfl
abbrev mS:FuncId:=67
theorem my:aa.funcs[(67:Nat)]? =some Tryz.f67:=Tryz.func67
theorem mG:bi aa 67=true:=by kernel_rfl
abbrev kL:FuncId:=68
theorem pZ:aa.funcs[(68:Nat)]? =some Tryz.f68:=Tryz.func68
theorem fc:bi aa 68=true:=by kernel_rfl
abbrev mu:FuncId:=69
theorem nQ:aa.funcs[(69:Nat)]? =some Tryz.f69:=Tryz.func69
theorem nS:bi aa 69=true:=by kernel_rfl
abbrev jw:FuncId:=70
theorem lQ:aa.funcs[(70:Nat)]? =some Tryz.f70:=Tryz.func70
theorem dz:bi aa 70=true:=by kernel_rfl
abbrev ta:FuncId:=71
theorem sE:aa.funcs[(71:Nat)]? =some Tryz.f71:=Tryz.func71
theorem dW:bi aa 71=true:=by kernel_rfl
abbrev va:FuncId:=72
theorem AA:aa.funcs[(72:Nat)]? =some Tryz.f72:=Tryz.func72
theorem kz:bi aa 72=true:=by kernel_rfl
abbrev rL:FuncId:=73
theorem rq:aa.funcs[(73:Nat)]? =some Tryz.f73:=Tryz.func73
theorem ls:bi aa 73=true:=by kernel_rfl
abbrev lO:FuncId:=74
theorem pE:aa.funcs[(74:Nat)]? =some Tryz.f74:=Tryz.func74
theorem wX:bi aa 74=true:=by kernel_rfl
abbrev wD:FuncId:=75
theorem BR:aa.funcs[(75:Nat)]? =some Tryz.f75:=Tryz.func75
theorem vn:bi aa 75=true:=by kernel_rfl
abbrev G1:FuncId:=76
theorem FD:aa.funcs[(76:Nat)]? =some Tryz.f76:=Tryz.func76
theorem qK:bi aa 76=true:=by kernel_rfl
abbrev wE:FuncId:=77
theorem BS:aa.funcs[(77:Nat)]? =some Tryz.f77:=Tryz.func77
theorem B2:bi aa 77=true:=by kernel_rfl
abbrev sv:FuncId:=78
theorem ve:aa.funcs[(78:Nat)]? =some Tryz.f78:=Tryz.func78
theorem vm:bi aa 78=true:=by kernel_rfl
abbrev DE:FuncId:=79
theorem BO:aa.funcs[(79:Nat)]? =some Tryz.f79:=Tryz.func79
theorem vk:bi aa 79=true:=by kernel_rfl
abbrev Dy:FuncId:=80
theorem BI:aa.funcs[(80:Nat)]? =some Tryz.f80:=Tryz.func80
theorem BX:bi aa 80=true:=by kernel_rfl
abbrev Fr:FuncId:=81
theorem DQ:aa.funcs[(81:Nat)]? =some Tryz.f81:=Tryz.func81
theorem D6:bi aa 81=true:=by kernel_rfl
abbrev DA:FuncId:=82
theorem BK:aa.funcs[(82:Nat)]? =some Tryz.f82:=Tryz.func82
theorem BZ:bi aa 82=true:=by kernel_rfl
abbrev Fs:FuncId:=83
theorem DR:aa.funcs[(83:Nat)]? =some Tryz.f83:=Tryz.func83
theorem D7:bi aa 83=true:=by kernel_rfl
abbrev Fq:FuncId:=84
theorem DP:aa.funcs[(84:Nat)]? =some Tryz.f84:=Tryz.func84
theorem D5:bi aa 84=true:=by kernel_rfl
abbrev Dz:FuncId:=85
theorem BJ:aa.funcs[(85:Nat)]? =some Tryz.f85:=Tryz.func85
theorem BY:bi aa 85=true:=by kernel_rfl
abbrev qZ:FuncId:=86
theorem tP:aa.funcs[(86:Nat)]? =some Tryz.f86:=Tryz.func86
theorem AO:bi aa 86=true:=by kernel_rfl
abbrev ra:FuncId:=87
theorem tQ:aa.funcs[(87:Nat)]? =some Tryz.f87:=Tryz.func87
theorem AP:bi aa 87=true:=by kernel_rfl
abbrev px:FuncId:=88
theorem rm:aa.funcs[(88:Nat)]? =some Tryz.f88:=Tryz.func88
theorem B0:bi aa 88=true:=by kernel_rfl
abbrev py:FuncId:=90
theorem ro:aa.funcs[(90:Nat)]? =some Tryz.f90:=Tryz.func90
theorem B1:bi aa 90=true:=by kernel_rfl
abbrev jM:FuncId:=91
theorem kf:aa.funcs[(91:Nat)]? =some Tryz.f91:=Tryz.func91
theorem AQ:bi aa 91=true:=by kernel_rfl
abbrev nP:FuncId:=92
theorem p6:aa.funcs[(92:Nat)]? =some Tryz.f92:=Tryz.func92
theorem mJ:bi aa 92=true:=by kernel_rfl
abbrev tK:FuncId:=93
theorem sD:aa.funcs[(93:Nat)]? =some Tryz.f93:=Tryz.func93
theorem sL:bi aa 93=true:=by kernel_rfl
abbrev wC:FuncId:=94
theorem vd:aa.funcs[(94:Nat)]? =some Tryz.f94:=Tryz.func94
theorem ia:bi aa 94=true:=by kernel_rfl
abbrev oe:FuncId:=95
theorem pF:aa.funcs[(95:Nat)]? =some Tryz.f95:=Tryz.func95
theorem wZ:bi aa 95=true:=by kernel_rfl
abbrev rb:FuncId:=96
theorem p7:aa.funcs[(96:Nat)]? =some Tryz.f96:=Tryz.func96
theorem gC:bi aa 96=true:=by kernel_rfl
abbrev Dx:FuncId:=97
theorem BG:aa.funcs[(97:Nat)]? =some Tryz.f97:=Tryz.func97
theorem BW:bi aa 97=true:=by kernel_rfl
abbrev wA:FuncId:=98
theorem BH:aa.funcs[(98:Nat)]? =some Tryz.f98:=Tryz.func98
theorem vi:bi aa 98=true:=by kernel_rfl
abbrev nn:FuncId:=99
theorem mV:aa.funcs[(99:Nat)]? =some Tryz.f99:=Tryz.func99
theorem d7:bi aa 99=true:=by kernel_rfl
abbrev qY:FuncId:=100
theorem qu:aa.funcs[(100:Nat)]? =some Tryz.f100:=Tryz.func100
theorem kM:bi aa 100=true:=by kernel_rfl
abbrev wF:FuncId:=101
theorem vf:aa.funcs[(101:Nat)]? =some Tryz.f101:=Tryz.func101
theorem i4:bi aa 101=true:=by kernel_rfl
abbrev yL:FuncId:=102
theorem xK:aa.funcs[(102:Nat)]? =some Tryz.f102:=Tryz.func102
theorem kK:bi aa 102=true:=by kernel_rfl
abbrev DF:FuncId:=103
theorem BP:aa.funcs[(103:Nat)]? =some Tryz.f103:=Tryz.func103
theorem nR:bi aa 103=true:=by kernel_rfl
abbrev fv:FuncId:=104
theorem hJ:aa.funcs[(104:Nat)]? =some Tryz.f104:=Tryz.func104
theorem lp:bi aa 104=true:=by kernel_rfl
abbrev yM:FuncId:=105
theorem xL:aa.funcs[(105:Nat)]? =some Tryz.f105:=Tryz.func105
theorem xT:bi aa 105=true:=by kernel_rfl
abbrev xG:FuncId:=106
theorem wJ:aa.funcs[(106:Nat)]? =some Tryz.f106:=Tryz.func106
theorem qL:bi aa 106=true:=by kernel_rfl
abbrev Jj:FuncId:=107
theorem G6:aa.funcs[(107:Nat)]? =some Tryz.f107:=Tryz.func107
theorem ku:bi aa 107=true:=by kernel_rfl
abbrev CC:FuncId:=108
theorem G5:aa.funcs[(108:Nat)]? =some Tryz.f108:=Tryz.func108
theorem Hh:bi aa 108=true:=by kernel_rfl
abbrev Ai:FuncId:=109
theorem yO:aa.funcs[(109:Nat)]? =some Tryz.f109:=Tryz.func109
theorem lx:bi aa 109=true:=by kernel_rfl
abbrev Af:FuncId:=110
theorem FC:aa.funcs[(110:Nat)]? =some Tryz.f110:=Tryz.func110
theorem FV:bi aa 110=true:=by kernel_rfl
abbrev Fo:FuncId:=111
theorem DM:aa.funcs[(111:Nat)]? =some Tryz.f111:=Tryz.func111
theorem D4:bi aa 111=true:=by kernel_rfl
abbrev Ah:FuncId:=112
theorem yx:aa.funcs[(112:Nat)]? =some Tryz.f112:=Tryz.func112
theorem qJ:bi aa 112=true:=by kernel_rfl
abbrev DD:FuncId:=113
theorem BN:aa.funcs[(113:Nat)]? =some Tryz.f113:=Tryz.func113
theorem gh:bi aa 113=true:=by kernel_rfl
abbrev su:FuncId:=115
theorem rj:aa.funcs[(115:Nat)]? =some Tryz.f115:=Tryz.func115
theorem hZ:bi aa 115=true:=by kernel_rfl
abbrev pV:FuncId:=116
theorem pB:aa.funcs[(116:Nat)]? =some Tryz.f116:=Tryz.func116
theorem fA:bi aa 116=true:=by kernel_rfl
abbrev nj:FuncId:=117
theorem mT:aa.funcs[(117:Nat)]? =some Tryz.f117:=Tryz.func117
theorem eY:bi aa 117=true:=by kernel_rfl
abbrev yu:FuncId:=118
theorem wI:aa.funcs[(118:Nat)]? =some Tryz.f118:=Tryz.func118
theorem wV:bi aa 118=true:=by kernel_rfl
abbrev gO:FuncId:=119
theorem xN:aa.funcs[(119:Nat)]? =some Tryz.f119:=Tryz.func119
theorem ie:bi aa 119=true:=by kernel_rfl
abbrev qW:FuncId:=120
theorem qr:aa.funcs[(120:Nat)]? =some Tryz.f120:=Tryz.func120
theorem iD:bi aa 120=true:=by kernel_rfl
abbrev BA:FuncId:=121
theorem Av:aa.funcs[(121:Nat)]? =some Tryz.f121:=Tryz.func121
theorem tY:bi aa 121=true:=by kernel_rfl
abbrev By:FuncId:=122
theorem As:aa.funcs[(122:Nat)]? =some Tryz.f122:=Tryz.func122
theorem tX:bi aa 122=true:=by kernel_rfl
abbrev pW:FuncId:=123
theorem pD:aa.funcs[(123:Nat)]? =some Tryz.f123:=Tryz.func123
theorem fB:bi aa 123=true:=by kernel_rfl
abbrev Al:FuncId:=124
theorem yR:aa.funcs[(124:Nat)]? =some Tryz.f124:=Tryz.func124
theorem yZ:bi aa 124=true:=by kernel_rfl
abbrev vK:FuncId:=125
theorem uL:aa.funcs[(125:Nat)]? =some Tryz.f125:=Tryz.func125
theorem uN:bi aa 125=true:=by kernel_rfl
abbrev rI:FuncId:=126
theorem rh:aa.funcs[(126:Nat)]? =some Tryz.f126:=Tryz.func126
theorem lq:bi aa 126=true:=by kernel_rfl
abbrev od:FuncId:=127
theorem nw:aa.funcs[(127:Nat)]? =some Tryz.f127:=Tryz.func127
theorem nG:bi aa 127=true:=by kernel_rfl
abbrev oc:FuncId:=128
theorem nv:aa.funcs[(128:Nat)]? =some Tryz.f128:=Tryz.func128
theorem nF:bi aa 128=true:=by kernel_rfl
abbrev Aj:FuncId:=129
theorem yP:aa.funcs[(129:Nat)]? =some Tryz.f129:=Tryz.func129
theorem yY:bi aa 129=true:=by kernel_rfl
abbrev lv:FuncId:=130
theorem xJ:aa.funcs[(130:Nat)]? =some Tryz.f130:=Tryz.func130
theorem nH:bi aa 130=true:=by kernel_rfl
abbrev rH:FuncId:=131
theorem rf:aa.funcs[(131:Nat)]? =some Tryz.f131:=Tryz.func131
theorem ru:bi aa 131=true:=by kernel_rfl
abbrev oQ:FuncId:=132
abbrev BB:FuncId:=134
theorem Aw:aa.funcs[(134:Nat)]? =some Tryz.f134:=Tryz.func134
theorem tZ:bi aa 134=true:=by kernel_rfl
abbrev Fm:FuncId:=135
theorem DL:aa.funcs[(135:Nat)]? =some Tryz.f135:=Tryz.func135
theorem D3:bi aa 135=true:=by kernel_rfl
abbrev s9:FuncId:=136
abbrev Bx:FuncId:=138
theorem Ar:aa.funcs[(138:Nat)]? =some Tryz.f138:=Tryz.func138
theorem AN:bi aa 138=true:=by kernel_rfl
abbrev qX:FuncId:=139
theorem qt:aa.funcs[(139:Nat)]? =some Tryz.f139:=Tryz.func139
theorem qw:bi aa 139=true:=by kernel_rfl
abbrev yN:FuncId:=140
theorem xO:aa.funcs[(140:Nat)]? =some Tryz.f140:=Tryz.func140
theorem xV:bi aa 140=true:=by kernel_rfl
abbrev mr:FuncId:=141
theorem l7:aa.funcs[(141:Nat)]? =some Tryz.f141:=Tryz.func141
theorem ma:bi aa 141=true:=by kernel_rfl
abbrev wB:FuncId:=142
theorem vL:aa.funcs[(142:Nat)]? =some Tryz.f142:=Tryz.func142
theorem vR:bi aa 142=true:=by kernel_rfl
abbrev pU:FuncId:=145
theorem pz:aa.funcs[(145:Nat)]? =some Tryz.f145:=Tryz.func145
theorem pI:bi aa 145=true:=by kernel_rfl
abbrev l5:FuncId:=148
theorem lD:aa.funcs[(148:Nat)]? =some Tryz.f148:=Tryz.func148
theorem lH:bi aa 148=true:=by kernel_rfl
end
structure cH where
 epoch:Int
 pid:Int
 ver:Int
 seq:Int
 kind:Int
 txn:Bool
 text:ByteArray
 deriving DecidableEq
def cH.c (e:cH):List Value:=[.int .i64 e.epoch,.int .i64 e.pid,.int .i64 e.ver,.int .i64 e.seq,.int .i64 e.kind,.bool e.txn,.string e.text]
abbrev cH.v (e:cH):Value:=.agg e.c.toArray
def gz:fj cH:=⟨cH.c,7,fun _=>rfl,by decide,fun a u hu=>by
 simp only[cH.c,av,bx,or_false]at hu
 rcases hu with h|h|h|h|h|h|h<;>subst h<;>rfl⟩
def bS:fj Int:=⟨fun n=>[.int .i64 n],1,fun _=>rfl,by decide,fun a u hu=>by
 simp only[av,bx,or_false]at hu
 subst hu;rfl⟩
def dA:fj UInt8:=⟨fun n=>[.int .u8 n.toNat],1,fun _=>rfl,by decide,fun a u hu=>by
 simp only[av,bx,or_false]at hu
 subst hu;rfl⟩
def m8:fj ByteArray:=⟨fun s=>[.string s],1,fun _=>rfl,by decide,fun a u hu=>by
 simp only[av,bx,or_false]at hu
 subst hu;rfl⟩
def Ci:Nat->Nat->List UInt8->Nat
 |_,n,[]=>n
 |i,n,c::l=>Ci (i+1) ((n+(i+1)*c.toNat)%65521) l
def mj (l:List UInt8):Nat:=Ci 0 0 l
theorem Ez: ∀ (l:List UInt8) (i n:Nat),n<65521->Ci i n l<65521
 |[],_,_,h=>h
 |_::l,i,_,_=>Ez l (i+1) _ (jC _ (by decide))
theorem Db (l:List UInt8):mj l<65521:=Ez l 0 0 (by decide)
theorem Ke (l:List UInt8) (A:Option Addr) (c:Nat) (w:World) (hr:Rd dA 0 w.heap.size A l w) (hb:l.length<=1000000000000000):
  dd aa G0 [.slice A l.length c] w fun v w2=>v=J (mj l:Nat)/\Below w.heap.size w w2:=by
 refine aE FB Z Z ?_
 have H:=Hp.start w
 refine W ?_
 refine Zr ?_
 refine oU Z Z ?_
 refine U<|W ?_
 refine Zr ?_
 refine oU Z Z ?_
 refine U<|W<|W ?_
 refine Zr ?_
 refine mb Z Z ?_
 refine uF eN Z Z ?_
 refine iv Z Z ?_
 refine U<|Zb ?_
 refine cf (τ:=Nat×Nat) [3,4,5,8,9,10,11,12,13,14,15,16,17,18,19,20,21] (fun x=>[(3,J x.1),(8,J x.2)]) (fun x w'=>x.1<65521/\x.2<=l.length/\Hp w w' [] []/\Ci x.2 x.1 (l.drop x.2)=mj l) (fun x=>l.length-x.2) (0,0) ⟨by decide,by simp,H,rfl⟩ (kZ Z Z) ?_
 rintro⟨m,k⟩ ρ1 w1 ⟨hm,hk,H,hs⟩
 show CW _ _ _ _ (dv (gk _ _ ρ1) [(3,J (m:Nat)),(8,J (k:Nat))]) w1
 refine W ?_
 refine Zr ?_
 refine GQ Z Z Z (fun h9=> ?_) (fun h9=> ?_)
 all_goals refine ni ?_
 all_goals refine AK ?_
 ·refine pH Z ?_
  refine Zk ?_
  have hkl:k<l.length:=by omega
  obtain⟨b,o,rfl,-,hbl,hcl⟩:=hr.at_ hkl
  have hd:l.drop k=l[k]::l.drop (k+1):=mO hkl
  have h256:l[k].toNat<256:=UInt8.toNat_lt _
  generalize hc:l[k]=x at*
  have hmul:(k+1)*x.toNat<=(k+1)*256:=Nat.mul_le_mul_left _ I
  have hmul2:((k:Int)+1)*(x.toNat:Int)=(((k+1)*x.toNat:Nat):Int):=by simp
  refine W<|Zb<|W ?_
  refine Zr ?_
  refine iv Z Z ?_
  refine OP d5 Z Z I I Z ?_
  refine ld mo Z ((H.below.cell (p:=⟨b,_,none⟩) hbl).trans (hcl 0 _ Z)) Z ?_
  refine oU Z Z ?_
  refine oU Z Z ?_
  refine U ?_
  refine Zr ?_
  refine iv Z Z ?_
  refine iv Z Z ?_
  refine add Z Z I I Z ?_
  refine iv Z Z ?_
  refine No ik ip Z (uT I) Z ?_
  refine mul Z Z I I Z ?_
  refine add Z Z I I Z ?_
  refine rem Z Z I I Z ?_
  refine oU Z Z ?_
  refine U ?_
  refine Zr ?_
  refine add Z Z I I Z ?_
  refine iv Z Z ?_
  refine U ?_
  refine⟨((m+(k+1)*x.toNat)%65521,k+1),⟨jC _ (by decide),by omega,H,?_⟩,?_,by repeat (first|exact mK|refine ly Z ?_|refine jJ _ Z ?_),by show l.length- (k+1)<l.length-k;omega⟩
  ·rw[<-hs,hd,Ci]
  ·intro p hp
   simp only[av,bx,or_false]at hp
   rcases hp with rfl|rfl
   ·show Value.int .i64 _=Value.int .i64 _
    congr 1
   ·rfl
 ·refine ox Z ?_
  refine Zx ?_
  have hkl:k=l.length:=by omega
  subst hkl
  simp only[fq,Ci]at hs
  subst hs
  refine W ?_
  refine Zr ?_
  refine iv Z Z ?_
  refine oU Z Z ?_
  refine U<|Zt ?_
  exact cF Z Z ⟨rfl,H.below⟩
/-- a number in as few bytes as may be -/
def yK (n:Nat):List UInt8:=if h:n<=127 then [UInt8.ofNat n]else UInt8.ofNat (n%128+128)::yK (n/128)
termination_by n
decreasing_by omega
theorem um {n:Nat} (h:n<=127):yK n=[UInt8.ofNat n]:=by rw[yK,dif_pos h]
theorem Dm {n:Nat} (h:127<n):yK n=UInt8.ofNat (n%128+128)::yK (n/128):=by rw[yK,dif_neg I]
theorem Mb (n:Nat):n&&&127=n%128:=Nat.and_two_pow_sub_one_eq_mod n 7
theorem O1 (n:Nat) (h:n<128):n|||128=n+128:=by
 have:=rY (i:=7) (b:=n) (by simpa using h) 1
 rw[Nat.or_comm];simp at this;omega
theorem ON (n:Nat) (h:n<256):((UInt8.ofNat n).toNat:Int)=n:=by
 simp[gT h]
theorem HN: ∀ (k n:Nat),n<128 ^ k->(yK n).length<=max k 1
 |0,n,h=>by
  have:n=0:=by simpa using h
  subst this;rw[um I];simp
 |k+1,n,h=>by
  by_cases hn:n<=127
  rw[um hn];simp
  have:=HN k (n/128) (by rw[Nat.pow_succ]at h;exact yF I)
  rw[Dm I]
  simp only[bO]
  have hk:k≠0:=by
   rintro rfl
   simp at h;omega
  omega
theorem I4 {w0 w:World} {F:List ci} {K M L:List (Nat×Obj)} {es:List UInt8} {A:Option Addr} {c:Nat} (n:Nat) (H:Hp w0 w (K++L++M) F) (ho:gi dA (.slice A es.length c) mL es L) (hn:n<4611686018427387904) (hb:es.length+n<140737488355328):
  dd aa Bx [.slice A es.length c,J n] w fun v w2=> ∃ A' c' L',v=.slice A' (es++yK n).length c'/\gi dA (.slice A' (es++yK n).length c') mL (es++yK n) L'/\Hp w0 w2 (K++L'++M) F:=by
 refine aE Ar Z Z ?_
 refine W ?_
 refine Zr ?_
 refine uO Z Z ?_
 refine U<|W<|Zb ?_
 refine cf (τ:=Option Addr×Nat×List UInt8×Nat) [0,1,5,6,7,8,9,10,11,12,13,15,14] (fun(A,c,l,m)=>[(0,.slice A l.length c),(1,J m)])
  (fun(A,c,l,m) w'=>m<4611686018427387904/\l.length+m<140737488355328/\l++yK m=es++yK n/\ ∃ L',gi dA (.slice A l.length c) mL l L'/\Hp w0 w' (K++L'++M) F) (fun(_,_,_,m)=>m) (A,c,es,n) ⟨hn,hb,rfl,L,ho,H⟩ (kZ Z Z) ?_
 rintro⟨A1,c1,l,m⟩ ρ1 w1 ⟨hm,hb1,hl,L1,ho1,H1⟩
 show CW _ _ _ _ (dv (gk _ _ ρ1) [(0,.slice A1 l.length c1),(1,J (m:Nat))]) w1
 refine W<|W ?_
 refine Zr ?_
 refine iv Z Z ?_
 refine Jk Z Z Z (fun h6=> ?_) (fun h6=> ?_)
 all_goals refine ni ?_
 ·refine pH Z ?_
  refine Zk ?_
  have hmod:m%128<128:=jC _ (by decide)
  refine Zb<|W ?_
  refine Zr ?_
  refine mb Z Z ?_
  refine iv Z Z ?_
  refine G (NR (b:=127) Z Z I I) ?_
  rw[Mb]
  refine G (ML (b:=128) Z Z I I) ?_
  rw[O1 _ hmod]
  refine No ip ik Z (B7 I) Z ?_
  refine sY (vs:=[.int .u8 _]) H1 d5 zn Z Z Z Z Z Z ?_;intro w2 b12 H2
  refine vU (Y:=dA) oD (K:=(b12,_)::K) (L:=L1) (M:=M) H2 ho1 (news:=[UInt8.ofNat (m%128+128)]) Z Z Z ?_ ?_ Z ?_
  ·have:=vY.row (m:=1) (sz:=1) (H2.ent (i:=0) Z) Z
   have e:dA.all [UInt8.ofNat (m%128+128)]=[.int .u8 ((m%128+128:Nat):Int)]:=by
    show [Value.int .u8 _]=_
    rw[ON _ I]
   rw[e]
   exact this
  ·simp only[bP];omega
  intro A3 c3 w3 L3 _ _ ho3 H3
  refine uO Z Z ?_
  refine U ?_
  refine Zr ?_
  refine iv Z Z ?_
  refine G (ND (b:=7) Z Z I) ?_
  refine oU Z Z ?_
  refine U ?_
  refine⟨(A3,c3,l++[UInt8.ofNat (m%128+128)],m/2 ^ 7),⟨by omega,by simp;omega,?_,L3,ho3,H3.forget (by simp) (fun _ h=>h)⟩,kZ Z Z,by repeat (first|exact mK|refine ly Z ?_|refine jJ _ Z ?_),by show m/2 ^ 7<m;omega⟩
  rw[<-hl,Dm (n:=m) I];simp
 ·refine ox Z ?_
  refine Zx<|W ?_
  refine Zr ?_
  refine mb Z Z ?_
  refine iv Z Z ?_
  refine No ip ik Z (B7 I) Z ?_
  refine sY (vs:=[.int .u8 _]) H1 d5 zn Z Z Z Z Z Z ?_;intro w2 b19 H2
  refine vU (Y:=dA) oD (K:=(b19,_)::K) (L:=L1) (M:=M) H2 ho1 (news:=[UInt8.ofNat m]) Z Z Z ?_ ?_ Z ?_
  ·have:=vY.row (m:=1) (sz:=1) (H2.ent (i:=0) Z) Z
   have e:dA.all [UInt8.ofNat m]=[.int .u8 (m:Int)]:=by
    show [Value.int .u8 _]=_
    rw[ON _ I]
   rw[e]
   exact this
  ·simp only[bP];omega
  intro A3 c3 w3 L3 _ _ ho3 H3
  refine uO Z Z ?_
  refine U<|Zt ?_
  rw[um I]at hl
  rw[hl]at ho3
  refine cF Z (v:=.slice A3 (es++yK n).length c3) (by rw[<-hl];rfl) ⟨A3,c3,L3,rfl,ho3,H3.forget (by simp) (fun _ h=>h)⟩
def iQ (n:Int):Bool:=decide (0<=n)&&decide (n<=1073741824)
theorem uv {n:Int} (h:iQ n=true):0<=n/\n<=1073741824:=by simpa [iQ]using h
theorem Na {n:Int} (h: ¬ iQ n=true):n<0∨1073741824<n:=by
 simp[iQ]at h;omega
def cH.nums (e:cH):List Int:=[e.epoch,e.pid,e.ver,e.seq]
def cH.noForm (e:cH):Prop:=(e.kind≠1/\(e.pid=0∨e.txn=false∨e.seq≠0∨e.text≠⟨#[]⟩))∨(e.pid=0/\(e.txn=true∨0<e.ver+e.seq))
instance (e:cH):Decidable e.noForm:=by unfold cH.noForm;infer_instance
def eG (e:cH):Int:=
 if e.kind<1∨3<e.kind then 3
 else if¬ e.nums.all iQ=true then 2
 else if 40<e.text.size then 1
 else if e.noForm then 4 else 0
theorem xq (e:cH) (w:World):dd aa Dw [e.v] w fun v w2=>v=J (eG e)/\Below w.heap.size w w2:=by
 refine aE BF Z Z ?_
 have H:=Hp.start w
 refine W ?_
 refine Zr ?_
 refine fS H Z Z ?_;intro w1 b1 H
 refine oU Z Z ?_
 refine U<|W<|W ?_
 refine Zr ?_
 refine rX eB Z Z ?_
 refine vI H 0 aj Z Z Z Z ?_
 refine GQ Z Z Z (fun h7=> ?_) (fun h7=> ?_)
 ·have hE:eG e=3:=by unfold eG;rw[if_pos (.inl h7)]
  refine zO Z Z ?_
  iterate 3 refine rF Z Z Z ?_
  refine wq Z Z Z ?_
  refine U<|ZT Z<|W ?_
  refine Zr ?_
  refine oU Z Z ?_
  refine U<|Zt ?_
  exact cF (v:=J 3) Z Z ⟨by rw[hE],H.below⟩
 refine zO Z Z ?_
 refine ZG ?_
 refine rX eB Z Z ?_
 refine ZG ?_
 refine vI H 0 aj Z Z Z Z ?_
 refine ZG ?_
 refine Jk Z Z Z (fun h11=> ?_) (fun h11=> ?_)
 ·have hE:eG e=3:=by unfold eG;rw[if_pos (.inr h11)]
  refine sj Z Z Z ?_
  refine U<|ZT Z<|W ?_
  refine Zr ?_
  refine oU Z Z ?_
  refine U<|Zt ?_
  exact cF (v:=J 3) Z Z ⟨by rw[hE],H.below⟩
 refine sj Z Z Z ?_
 refine U<|ZF Z<|Zk ?_
 have hk0: ¬ (e.kind<1∨3<e.kind):=by omega
 refine W<|W ?_
 refine Zr ?_
 refine rX nB Z Z ?_
 refine vI H 0 aj Z Z Z Z ?_
 refine rX eS Z Z ?_
 refine vI H 0 aj Z Z Z Z ?_
 refine rX ei Z Z ?_
 refine vI H 0 aj Z Z Z Z ?_
 refine rX eR Z Z ?_
 refine vI H 0 aj Z Z Z Z ?_
 refine sY (vs:=[J _,J _,J _,J _]) H aZ v8 Z Z Z Z Z Z ?_;intro w2 b21 H
 refine uF eF Z Z ?_
 refine iv Z Z ?_
 refine U<|Zb ?_
 have hns: ∀ k,k<4->(p8 [J e.epoch,J e.pid,J e.ver,J e.seq]).toArray[0+k*1]? =some (J (e.nums.getD k 0)):=by
  intro k hk
  have:k=0∨k=1∨k=2∨k=3:=by omega
  rcases this with rfl|rfl|rfl|rfl<;>rfl
 have hmem: ∀ k,k<4->e.nums.getD k 0∈e.nums:=by
  intro k hk
  have:k=0∨k=1∨k=2∨k=3:=by omega
  rcases this with rfl|rfl|rfl|rfl<;>simp[cH.nums]
 refine cf (τ:=Nat) [4,23,24,25,26,27,28,29,30,31,32,33,2] (fun k=>[(23,J k)]) (fun k w'=>k<=4/\(∀ j,j<k->(e.nums.getD j 0|>iQ)=true)/\Hp w w' [(b21,_),(b1,_)] []) (fun k=>4-k) 0 ⟨by omega,by simp,H⟩ (dF Z) ?_
 rintro k ρ1 w1 ⟨hk4,hgood,H⟩
 refine W ?_
 refine Zr ?_
 refine GQ Z Z Z (fun h24=> ?_) (fun h24=> ?_)
 all_goals refine ni ?_
 all_goals refine AK ?_
 ·refine pH Z ?_
  refine Zk ?_
  have hk:k<4:=by omega
  have hns:=hns k hk
  have hm:=hmem k hk
  generalize hx:e.nums.getD k 0=x at hns hm
  refine W<|Zb<|W ?_
  refine Zr ?_
  refine OP aZ Z Z I I Z ?_
  refine vI H 0 aj Z Z hns Z ?_
  refine oU Z Z ?_
  refine U<|W ?_
  refine Zr ?_
  refine iv Z Z ?_
  by_cases hin:iQ x=true
  ·obtain⟨h0,h1⟩:=uv hin
   refine Oh Z Z I Z ?_
   refine zO Z Z ?_
   refine ZG ?_
   refine iv Z Z ?_
   refine ZG ?_
   refine Oq Z Z I Z ?_
   refine sj Z Z Z ?_
   refine U<|ZF Z<|Zk ?_
   refine Zr ?_
   refine add Z Z I I Z ?_
   refine iv Z Z ?_
   refine U ?_
   refine⟨k+1,⟨by omega,fun j hj=> ?_,H⟩,dF Z,by repeat (first|exact mK|refine ly Z ?_|refine jJ _ Z ?_),by show 4- (k+1)<4-k;omega⟩
   by_cases hjk:j=k
   ·subst hjk;rw[hx];exact hin
   ·exact hgood j I
  ·have hE:eG e=2:=by
    unfold eG
    rw[if_neg hk0,if_pos]
    intro ha
    exact hin (ec.1 ha x hm)
   have hbad:=Na hin
   by_cases h0:x<0
   ·refine O3 Z Z h0 Z ?_
    refine zO Z Z ?_
    iterate 2 refine rF Z Z Z ?_
    refine wq Z Z Z ?_
    refine U<|ZT Z<|W ?_
    refine Zr ?_
    refine oU Z Z ?_
    refine U<|Zt ?_
    exact cF (v:=J 2) Z Z ⟨by rw[hE],H.below⟩
   ·refine Oh Z Z h0 Z ?_
    refine zO Z Z ?_
    refine ZG ?_
    refine iv Z Z ?_
    refine ZG ?_
    refine Oo Z Z I Z ?_
    refine sj Z Z Z ?_
    refine U<|ZT Z<|W ?_
    refine Zr ?_
    refine oU Z Z ?_
    refine U<|Zt ?_
    exact cF (v:=J 2) Z Z ⟨by rw[hE],H.below⟩
 ·refine ox Z ?_
  refine Zx ?_
  have hk:k=4:=by omega
  subst hk
  have hall:e.nums.all iQ=true:=by
   have g0:=hgood 0 I
   have g1:=hgood 1 I
   have g2:=hgood 2 I
   have g3:=hgood 3 I
   simp only[cH.nums,List.getD_cons_zero,List.getD_cons_succ]at g0 g1 g2 g3
   simp[cH.nums,g0,g1,g2,g3]
  have hv:=uv (ec.1 hall e.ver (by simp[cH.nums]))
  have hs:=uv (ec.1 hall e.seq (by simp[cH.nums]))
  refine W<|W ?_
  refine Zr ?_
  refine rX qa Z Z ?_
  refine vI H 1 ba Z Z Z Z ?_
  refine PP jq Z Z ?_
  refine Jk Z Z Z (fun h37=> ?_) (fun h37=> ?_)
  all_goals refine ni ?_
  ·refine pH Z ?_
   refine W ?_
   refine Zr ?_
   refine oU Z Z ?_
   refine U<|Zt ?_
   have hE:eG e=1:=by
    unfold eG
    rw[if_neg hk0,if_neg (by simpa using hall),if_pos I]
   exact cF (v:=J 1) Z Z ⟨by rw[hE],H.below⟩
  refine ZF Z<|Zk ?_
  have hE:eG e=if e.noForm then 4 else 0:=by
   unfold eG
   rw[if_neg hk0,if_neg (by simpa using hall),if_neg I]
  refine W<|W ?_
  refine Zr ?_
  by_cases hx:e.text=⟨#[]⟩
  all_goals cases ht:e.txn
  all_goals (have h5:e.c.toArray[0+5]? =some (.bool e.txn):=rfl;rw[ht]at h5)
  all_goals (refine rX eB Z Z ?_)
  all_goals (refine vI H 1 aj Z Z Z Z ?_)
  all_goals (refine O2 Z Z Z (fun _=> ?_) (fun _=> ?_))
  all_goals (refine zO Z Z ?_)
  all_goals first|refine rF Z Z Z ?_|(refine tC Z ?_;(refine rX eS Z Z ?_))
  all_goals first|refine rF Z Z Z ?_|(refine tC Z ?_;(refine vI H 1 aj Z Z Z Z ?_))
  all_goals first|refine rF Z Z Z ?_|(refine tC Z ?_;(refine LF Z Z Z (fun _=> ?_) (fun _=> ?_)))
  all_goals first|refine rF Z Z Z ?_|(refine tC Z ?_;(refine zO Z Z ?_))
  all_goals first|refine rF Z Z Z ?_|(refine tC Z ?_;(refine rX iY Z Z ?_))
  all_goals first|refine rF Z Z Z ?_|(refine tC Z ?_;(refine vI H 1 dR Z Z h5 Z ?_))
  all_goals first|refine rF Z Z Z ?_|(refine tC Z ?_;(refine not Z Z ?_))
  all_goals first|refine rF Z Z Z ?_|(refine tC Z ?_;(first|refine wq Z Z Z ?_|refine sj Z Z Z ?_))
  all_goals first|refine rF Z Z Z ?_|(refine tC Z ?_;(refine zO Z Z ?_))
  all_goals first|refine rF Z Z Z ?_|(refine tC Z ?_;(refine rX eR Z Z ?_))
  all_goals first|refine rF Z Z Z ?_|(refine tC Z ?_;(refine vI H 1 aj Z Z Z Z ?_))
  all_goals first|refine rF Z Z Z ?_|(refine tC Z ?_;(refine O2 Z Z Z (fun _=> ?_) (fun _=> ?_)))
  all_goals first|refine rF Z Z Z ?_|(refine tC Z ?_;(first|refine wq Z Z Z ?_|refine sj Z Z Z ?_))
  all_goals first|refine rF Z Z Z ?_|(refine tC Z ?_;(refine zO Z Z ?_))
  all_goals first|refine rF Z Z Z ?_|(refine tC Z ?_;(refine rX qa Z Z ?_))
  all_goals first|refine rF Z Z Z ?_|(refine tC Z ?_;(refine vI H 1 ba Z Z Z Z ?_))
  all_goals first|refine rF Z Z Z ?_|(refine tC Z ?_;(first|refine l1 (Mv Z Z hx) Z Z Z ?_|refine l1 (Mw Z Z hx) Z Z Z ?_))
  all_goals first|refine rF Z Z Z ?_|(refine tC Z ?_;(first|refine wq Z Z Z ?_|refine sj Z Z Z ?_))
  all_goals (first|refine wq Z Z Z ?_|refine sj Z Z Z ?_)
  all_goals (refine zO Z Z ?_)
  all_goals first|refine rF Z Z Z ?_|(refine tC Z ?_;(refine rX eS Z Z ?_))
  all_goals first|refine rF Z Z Z ?_|(refine tC Z ?_;(refine vI H 1 aj Z Z Z Z ?_))
  all_goals first|refine rF Z Z Z ?_|(refine tC Z ?_;(refine LF Z Z Z (fun _=> ?_) (fun _=> ?_)))
  all_goals first|refine rF Z Z Z ?_|(refine tC Z ?_;(refine zO Z Z ?_))
  all_goals first|refine rF Z Z Z ?_|(refine tC Z ?_;(refine rX iY Z Z ?_))
  all_goals first|refine rF Z Z Z ?_|(refine tC Z ?_;(refine vI H 1 dR Z Z h5 Z ?_))
  all_goals first|refine rF Z Z Z ?_|(refine tC Z ?_;(refine zO Z Z ?_))
  all_goals first|refine rF Z Z Z ?_|(refine tC Z ?_;(refine rX ei Z Z ?_))
  all_goals first|refine rF Z Z Z ?_|(refine tC Z ?_;(refine vI H 1 aj Z Z Z Z ?_))
  all_goals first|refine rF Z Z Z ?_|(refine tC Z ?_;(refine rX eR Z Z ?_))
  all_goals first|refine rF Z Z Z ?_|(refine tC Z ?_;(refine vI H 1 aj Z Z Z Z ?_))
  all_goals first|refine rF Z Z Z ?_|(refine tC Z ?_;(refine add Z Z I I Z ?_))
  all_goals first|refine rF Z Z Z ?_|(refine tC Z ?_;(refine Jk Z Z Z (fun _=> ?_) (fun _=> ?_)))
  all_goals first|refine rF Z Z Z ?_|(refine tC Z ?_;(first|refine wq Z Z Z ?_|refine sj Z Z Z ?_))
  all_goals first|refine rF Z Z Z ?_|(refine tC Z ?_;(first|refine wq Z Z Z ?_|refine sj Z Z Z ?_))
  all_goals (first|refine wq Z Z Z ?_|refine sj Z Z Z ?_)
  all_goals refine ni ?_
  all_goals first
   |(
     refine pH Z ?_
     refine W ?_
     refine Zr ?_
     refine oU Z Z<|U<|Zt ?_
     exact cF (v:=J 4) Z Z ⟨by rw[hE,if_pos (by simp[cH.noForm, *])],H.below⟩)
   |(
     refine ox Z ?_
     refine Zk<|W ?_
     refine Zr ?_
     refine oU Z Z<|U<|Zt ?_
     exact cF (v:=J 0) Z Z ⟨by rw[hE,if_neg (by simp[cH.noForm, *]<;>omega)],H.below⟩)
def n9 (e:cH):UInt8:=UInt8.ofNat (e.kind.toNat+if e.txn then 16 else 0)
def n7 (l:List Int):List UInt8:=l.flatMap fun n=>yK n.toNat
def eO (e:cH):List UInt8:=n9 e::n7 e.nums++e.text.data.toList
def iB (e:cH):List UInt8:=UInt8.ofNat (eO e).length::eO e++[UInt8.ofNat (mj (eO e)/256),UInt8.ofNat (mj (eO e)%256)]
theorem NT (n:Nat):IntKind.u8.wrap (n:Int)=(n%256:Nat):=by
 simp[IntKind.wrap,IntKind.signed,IntKind.bits]
theorem Pm (s:ByteArray):dA.all s.data.toList=Lib.strCells s:=by
 unfold fj.all Lib.strCells
 show List.flatMap (fun n:UInt8=>[Value.int .u8 n.toNat]) _=_
 induction s.data.toList with
 |nil=>rfl
 |cons a l ih=>simp only[f8,eI,ih];rfl
theorem ov {e:cH} (h:eG e=0):1<=e.kind/\e.kind<=3/\(∀ n∈e.nums,0<=n/\n<=1073741824)/\e.text.size<=40/\ ¬ e.noForm:=by
 unfold eG at h
 split at h;· omega
 split at h;· omega
 split at h;· omega
 split at h;· omega
 rename_i h1 h2 h3 h4
 refine⟨by omega,by omega,fun n hn=> ?_,by omega,h4⟩
 have:=ec.1 (Classical.not_not.1 h2) n hn
 exact uv this
theorem xB: ∀ (l:List Int),(∀ n∈l,0<=n/\n<=1073741824)->(n7 l).length<=5*l.length
 |[],_=>by simp[n7]
 |n::l,h=>by
  have h1:=xB l fun m hm=>h m (ak _ hm)
  have h2:=h n (aA ..)
  have h3:=HN 5 n.toNat I
  simp only[n7,f8,ay,bO]at*
  omega
theorem uC {e:cH} (h:eG e=0):(eO e).length<=61/\0<(eO e).length:=by
 obtain⟨_,_,h3,h4,_⟩:=ov h
 have:=xB _ h3
 have hs:e.text.data.toList.length=e.text.size:=by rw[cj];rfl
 simp only[eO,ay,bO,hs]
 have h4':e.nums.length=4:=rfl
 omega
theorem CK (e:cH) (w:World) (h:eG e=0):dd aa By [e.v] w fun v w2=> ∃ A c,v=.tuple #[.slice A (iB e).length c,J 0]/\Rd dA w.heap.size w2.heap.size A (iB e) w2/\(iB e).length<=c/\Below w.heap.size w w2:=by
 obtain⟨hk1,hk3,hnn,htx,-⟩:=ov h
 obtain⟨hl61,hl0⟩:=uC h
 refine aE As Z Z ?_
 have H:=Hp.start w
 refine W ?_
 refine Zr ?_
 refine fS H Z Z ?_;intro w1 b1 H
 refine uO Z Z ?_
 refine oU Z Z ?_
 refine U<|W<|W ?_
 refine Zr ?_
 refine P9 H 0 dB Z Z Z Z ?_
 refine cd rt (xq e _) Z Z ?_;rintro _ w2 ⟨rfl,hb2⟩;replace H:=H.later hb2
 refine oU Z Z ?_
 refine U<|W ?_
 refine Zr ?_
 refine iv Z Z ?_
 refine G (bX Z Z h)<|U<|ZF Z<|Zk<|W ?_
 refine Zr ?_
 refine rX eB Z Z ?_
 refine vI H 0 aj Z Z Z Z ?_
 refine oU Z Z ?_
 refine U<|W ?_
 obtain⟨k,hk⟩: ∃ k:Nat,e.kind=k:=⟨e.kind.toNat,by omega⟩
 have hkB:n9 e=UInt8.ofNat (k+if e.txn then 16 else 0):=by unfold n9;rw[hk];rfl
 refine eu (τ:=Unit) [17,18,19,20,5] (fun _=>[(5,J (k+if e.txn then 16 else 0:Nat))]) (fun _ w'=>Hp w w' [(b1,.cells e.c.toArray dh)] []) ?_ ?_
 ·refine AK ?_
  refine Zr ?_
  refine rX iY Z Z ?_
  refine vI H 0 dR Z Z Z Z ?_
  refine U ?_
  refine jm (b:=e.txn) Z (fun ht=> ?_) (fun ht=> ?_)
  ·refine JA ?_
   refine iv Z Z ?_
   have h16:k|||16=k+16:=by
    have:k=1∨k=2∨k=3:=by omega
    rcases this with rfl|rfl|rfl<;>rfl
   rw[hk]
   refine G (ML (a:=k) (b:=16) Z Z I I) ?_
   rw[h16]
   refine oU Z Z ?_
   refine U ?_
   refine⟨(),H,dF (by rw[ht];rfl),by repeat (first|exact Ek.refl _ _|exact mK|refine ly Z ?_|refine jJ _ Z ?_)⟩
  ·refine Nl ?_
   rw[hk]
   refine⟨(),H,dF (by rw[ht];rfl),by repeat (first|exact Ek.refl _ _|exact mK|refine ly Z ?_|refine jJ _ Z ?_)⟩
 rintro _ ρ1 w3 H
 show CW _ _ _ _ (dv (gk _ _ ρ1) [(5,J (k+if e.txn then 16 else 0:Nat))]) w3
 have hk19:(k+if e.txn then 16 else 0)<256:=by split<;>omega
 refine W ?_
 refine Zr ?_
 refine iv Z Z ?_
 refine No ip ik Z (B7 hk19) Z ?_
 refine sY (vs:=[.int .u8 _]) H d5 zn Z Z Z Z Z Z ?_;intro w4 b23 H
 refine uO Z Z ?_
 refine U ?_
 replace H:=H.swap
 have ho:gi dA (.slice (Qd b23) 1 1) mL [n9 e] [(b23,.cells (p8 [.int .u8 (k+if e.txn then 16 else 0:Nat)]).toArray mL)]:=by
  have e1:dA.all [n9 e]=(p8 [.int .u8 (k+if e.txn then 16 else 0:Nat)]).toArray.toList:=by
   show [Value.int .u8 _]=_
   rw[hkB,ON _ hk19]
   rfl
  unfold gi
  rw[e1]
  exact rU.lit (n:=1) (by decide) Z
 refine W<|W ?_
 refine Zr ?_
 refine rX nB Z Z ?_
 refine vI H 0 aj Z Z Z Z ?_
 refine rX eS Z Z ?_
 refine vI H 0 aj Z Z Z Z ?_
 refine rX ei Z Z ?_
 refine vI H 0 aj Z Z Z Z ?_
 refine rX eR Z Z ?_
 refine vI H 0 aj Z Z Z Z ?_
 refine sY (vs:=[J _,J _,J _,J _]) H aZ v8 Z Z Z Z Z Z ?_;intro w5 b32 H
 refine uF eF Z Z ?_
 refine iv Z Z ?_
 refine U<|Zb ?_
 have hns: ∀ k,k<4->(p8 [J e.epoch,J e.pid,J e.ver,J e.seq]).toArray[0+k*1]? =some (J (e.nums.getD k 0)):=by
  intro k hk
  have:k=0∨k=1∨k=2∨k=3:=by omega
  rcases this with rfl|rfl|rfl|rfl<;>rfl
 have hmem: ∀ k,k<4->e.nums.getD k 0∈e.nums:=by
  intro k hk
  have:k=0∨k=1∨k=2∨k=3:=by omega
  rcases this with rfl|rfl|rfl|rfl<;>simp[cH.nums]
 have hstep: ∀ k,k<4->e.nums.take (k+1)=e.nums.take k++[e.nums.getD k 0]:=by
  intro k hk
  have:k=0∨k=1∨k=2∨k=3:=by omega
  rcases this with rfl|rfl|rfl|rfl<;>rfl
 have hnlen: ∀ k,k<=4->(n7 (e.nums.take k)).length<=20:=by
  intro k hk
  have:=xB (e.nums.take k) fun n hn=>hnn n (yH hn)
  have h2:(e.nums.take k).length<=4:=by simp[cH.nums];omega
  omega
 refine cf (τ:=Nat×Option Addr×Nat) [6,8,34,35,36,37,38,39,40,41] (fun(k,A,c)=>[(6,.slice A (n9 e::n7 (e.nums.take k)).length c),(34,J k)])
  (fun(k,A,c) w'=>k<=4/\ ∃ L',gi dA (.slice A (n9 e::n7 (e.nums.take k)).length c) mL (n9 e::n7 (e.nums.take k)) L'/\Hp w w' ([(b32,.cells (p8 [J e.epoch,J e.pid,J e.ver,J e.seq]).toArray cW),(b1,.cells e.c.toArray dh)]++L'++[]) []) (fun(k,_,_)=>4-k) (0,_,1) ⟨by omega,_,ho,H⟩ (kZ Z Z) ?_
 rintro⟨j,A1,c1⟩ ρ1 w1 ⟨hj4,L1,ho,H⟩
 show CW _ _ _ _ (dv (gk _ _ ρ1) [(6,.slice A1 (n9 e::n7 (e.nums.take j)).length c1),(34,J j)]) w1
 refine W ?_
 refine Zr ?_
 refine GQ Z Z Z (fun h35=> ?_) (fun h35=> ?_)
 all_goals refine ni ?_
 all_goals refine AK ?_
 ·refine pH Z ?_
  refine Zk ?_
  have hj:j<4:=by omega
  have hns:=hns j hj
  obtain⟨hm0,hm1⟩:=hnn _ (hmem j hj)
  have hstep:=hstep j hj
  have hnl:=hnlen j hj4
  generalize e.nums.getD j 0=x at*
  obtain⟨m,rfl⟩: ∃ m:Nat,x=m:=⟨x.toNat,by omega⟩
  refine W<|Zb<|W ?_
  refine Zr ?_
  refine OP aZ Z Z I I Z ?_
  refine vI H 0 aj Z Z hns Z ?_
  refine oU Z Z ?_
  refine U ?_
  refine Zr ?_
  refine mb Z Z ?_
  refine iv Z Z ?_
  refine cd AN (I4 m H ho I (by simp only[bO];omega)) Z Z ?_;rintro _ w5 ⟨A2,c2,L2,rfl,ho2,H2⟩
  refine uO Z Z ?_
  refine U ?_
  refine Zr ?_
  refine add Z Z I I Z ?_
  refine iv Z Z ?_
  refine U ?_
  have hnx:n9 e::n7 (e.nums.take (j+1))=n9 e::n7 (e.nums.take j)++yK m:=by
   rw[hstep];simp[n7]
  rw[<-hnx]at ho2
  refine⟨(j+1,A2,c2),⟨by omega,L2,ho2,H2⟩,kZ (by rw[hnx];rfl) Z,by repeat (first|exact mK|refine ly Z ?_|refine jJ _ Z ?_),by show 4- (j+1)<4-j;omega⟩
 ·refine ox Z ?_
  refine Zx ?_
  have hj:j=4:=by omega
  subst hj
  have h20:=hnlen 4 I
  have e4:e.nums.take 4=e.nums:=rfl
  rw[e4]at*
  have hne:n9 e::n7 e.nums≠[]:=by simp
  refine W ?_
  refine Zr ?_
  refine mb Z Z ?_
  refine rX qa Z Z ?_
  refine vI H 1 ba Z Z Z Z ?_
  refine QJ (Y:=dA) oD jq Z Pm H ho hne Z Z (by simp only[bO];omega) Z ?_
  intro A2 c2 w2 L2 hc1 hc2 ho H
  refine uO Z Z ?_
  refine U ?_
  have eb:n9 e::n7 e.nums++e.text.data.toList=eO e:=rfl
  rw[eb]at*
  refine W ?_
  refine Zr ?_
  refine mb Z Z ?_
  refine cd yA (Ke (eO e) A2 c2 w2 ((ho.rd H).mono (bA _) (ao _)) I) Z Z ?_;rintro _ w6 ⟨rfl,hb6⟩;replace H:=H.later hb6
  refine oU Z Z ?_
  refine U ?_
  have hs:=Db (eO e)
  refine W ?_
  refine Zr ?_
  refine mb Z Z ?_
  refine uF eN Z Z ?_
  refine No ip ik Z (B7 (n:=(eO e).length) I) Z ?_
  refine sY (vs:=[.int .u8 _]) H d5 zn Z Z Z Z Z Z ?_;intro w7 b51 H7
  refine mb Z Z ?_
  have ho5:gi dA (.slice (Qd b51) 1 1) mL [UInt8.ofNat (eO e).length] [(b51,.cells (p8 [.int .u8 ((eO e).length:Nat)]).toArray mL)]:=by
   have e1:dA.all [UInt8.ofNat (eO e).length]=(p8 [.int .u8 ((eO e).length:Nat)]).toArray.toList:=by
    show [Value.int .u8 _]=_
    rw[ON _ I]
    rfl
   unfold gi
   rw[e1]
   exact rU.lit (n:=1) (by decide) Z
  refine vU (Y:=dA) oD (K:=[]) (M:=_) H7 ho5 (news:=eO e) Z Z Z (ho.rd (K:=(b51,_)::[_,_]) (M:=[]) H7).src (by simp only[bO,ji];omega) Z ?_
  intro A8 c8 w8 L8 _ _ ho8 H8
  refine iv Z Z ?_
  refine G (ND (b:=8) Z Z I) ?_
  refine No ip ik Z (B7 (n:=mj (eO e)/2 ^ 8) I) Z ?_
  refine iv Z Z ?_
  refine No ip ik Z (NT (mj (eO e))) Z ?_
  refine sY (vs:=[.int .u8 _,.int .u8 _]) H8 d5 zn Z Z Z Z Z Z ?_;intro w9 b59 H9
  refine vU (Y:=dA) oD (K:=[_]) (M:=_) H9 ho8 (news:=[UInt8.ofNat (mj (eO e)/256),UInt8.ofNat (mj (eO e)%256)]) Z Z Z ?_ (by simp only[ay,bO,ji];omega) Z ?_
  ·have:=vY.row (m:=2) (sz:=1) (H9.ent (i:=0) Z) Z
   have e1:dA.all [UInt8.ofNat (mj (eO e)/256),UInt8.ofNat (mj (eO e)%256)]=[.int .u8 (mj (eO e)/256:Nat),.int .u8 (mj (eO e)%256:Nat)]:=by
    show [Value.int .u8 _,Value.int .u8 _]=_
    rw[ON _ I,ON _ I]
   rw[e1]
   exact this
  intro A9 c9 w10 L9 hc9 _ ho9 H10
  refine uO Z Z ?_
  refine oU Z Z ?_
  refine U<|Zt ?_
  refine l9 Z Z Z ⟨A9,c9,rfl,?_,hc9,H10.below⟩
  exact ho9.rd H10
/-- the number that is next, from its i-th byte on -/
def rn:Nat->Nat->List UInt8->Nat×List UInt8×Bool
 |_,_,[]=>(0,[],true)
 |i,n,c::l=>if i=5 then(0,c::l,true)else if c.toNat<128 then(n+c.toNat%128*2 ^ (7*i),l,decide (c.toNat=0)&&decide (0<i))else rn (i+1) (n+c.toNat%128*2 ^ (7*i)) l
def EP (l:List UInt8) (bad:Bool):Nat×List UInt8×Bool:=if bad then(0,l,true)else rn 0 0 l
theorem Ob {n x i:Nat} (hn:n<2 ^ (7*i)):n|||x*2 ^ (7*i)=n+x*2 ^ (7*i):=by
 have:=rY hn x
 rw[Nat.or_comm,CX,<-this,r3]
theorem sh {w0 w:World} {F:List ci} {M:List (Nat×Obj)} {b:Nat} {l:List UInt8} {A:Option Addr} {c:Nat} {bad:Bool} (H:Hp w0 w ((b,.cells #[.slice A l.length c,.bool bad] ub)::M) F) (hr:Rd dA 0 w0.heap.size A l w0) (hc:l.length<=c):
  dd aa tJ [.pointer (Qd b)] w fun v w2=>v=J ((EP l bad).1:Nat)/\ ∃ A' c',Hp w0 w2 ((b,.cells #[.slice A' (EP l bad).2.1.length c',.bool (EP l bad).2.2] ub)::M) F/\Rd dA 0 w0.heap.size A' (EP l bad).2.1 w0/\(EP l bad).2.1.length<=c':=by
 refine aE tb Z Z ?_
 refine W ?_
 refine Zr ?_
 refine oU Z Z ?_
 refine U<|W ?_
 refine Zr ?_
 refine oU Z Z ?_
 refine U<|W ?_
 refine Zr ?_
 refine oU Z Z ?_
 refine U<|Zb ?_
 refine cf (τ:=Nat×Nat×List UInt8×Bool) [2,3,4,5,6,7,8,9,10,11,12,13,14,15,16,17,18,19,20,21,22,23,24,25,26,27,28,29,30,31,32,33,34,35,36,37,38,39,40,41,42,43,44,45,46,47,48,49,50,51,52,53,54,55,56,57,58,59,60]
  (fun(i,n,_,_)=>[(3,J (n:Nat)),(4,J (i:Nat))])
  (fun(i,n,l1,bad1) w'=>i<=5/\n<2 ^ (7*i)/\(if bad1 then(0,l1,true)else rn i n l1)=EP l bad/\ ∃ A c,Hp w0 w' ((b,.cells #[.slice A l1.length c,.bool bad1] ub)::M) F/\Rd dA 0 w0.heap.size A l1 w0/\l1.length<=c) (fun(_,_,l1,_)=>l1.length) (0,0,l,bad) ⟨by omega,by decide,rfl,A,c,H,hr,hc⟩ (kZ Z Z) ?_
 rintro⟨i,n,l1,bad1⟩ ρ1 w1 ⟨hi5,hn,hrn,A1,c1,H,hr,hc⟩
 show CW _ _ _ _ (dv (gk _ _ ρ1) [(3,J (n:Nat)),(4,J (i:Nat))]) w1
 refine W<|Zb<|W<|W ?_
 refine Zr ?_
 refine GJ Z Z ?_
 refine JU Z Z ?_
 refine rX kh Z Z ?_
 refine vI H 0 dR Z Z Z Z ?_
 refine zO Z Z ?_
 by_cases hstop:bad1=true∨l1=[]∨i=5
 ·have hres:EP l bad=(0,l1,true):=by
   rw[<-hrn]
   rcases hstop with h|h|h
   ·rw[if_pos h]
   ·subst h;split<;>rfl
   ·subst h;split
    ·rfl
    ·cases l1<;>simp[rn]
  cases bad1
  ·refine tC Z ?_
   refine GJ Z Z ?_
   refine ZG ?_
   refine JU Z Z ?_
   refine ZG ?_
   refine rX lS Z Z ?_
   refine ZG ?_
   refine vI H 0 d3 Z Z Z Z ?_
   refine ZG ?_
   refine uF eN Z Z ?_
   refine ZG ?_
   by_cases hl:l1=[]
   ·refine LE Z Z (by rw[hl];rfl) Z ?_
    refine sj Z Z Z ?_
    refine zO Z Z ?_
    iterate 2 refine rF Z Z Z ?_
    refine wq Z Z Z ?_
    refine U<|ZT Z<|W ?_
    refine Zr ?_
    refine GJ Z Z ?_
    refine JU Z Z ?_
    refine rX kh Z Z ?_
    refine OX H 0 iJ Z Z Z (by simp) fun w2 H2=>U<|W ?_
    refine Zr ?_
    refine oU Z Z ?_
    refine U<|Zt ?_
    rw[hres]
    exact cF (v:=J 0) Z Z ⟨rfl,A1,c1,H2,hr,hc⟩
   ·have hi:i=5:=by
     rcases hstop with h|h|h
     ·cases h
     ·exact absurd h hl
     ·exact h
    have hl0:l1.length≠0:=fun h=>hl (bU h)
    refine Hc Z Z I Z ?_
    refine sj Z Z Z ?_
    refine zO Z Z ?_
    refine ZG ?_
    refine iv Z Z ?_
    refine ZG<|LE Z Z I Z ?_
    refine sj Z Z Z ?_
    refine U<|ZT Z<|W ?_
    refine Zr ?_
    refine GJ Z Z ?_
    refine JU Z Z ?_
    refine rX kh Z Z ?_
    refine OX H 0 iJ Z Z Z (by simp) fun w2 H2=>U<|W ?_
    refine Zr ?_
    refine oU Z Z ?_
    refine U<|Zt ?_
    rw[hres]
    exact cF (v:=J 0) Z Z ⟨rfl,A1,c1,H2,hr,hc⟩
  ·iterate 6 refine rF Z Z Z ?_
   refine wq Z Z Z ?_
   refine zO Z Z ?_
   iterate 2 refine rF Z Z Z ?_
   refine wq Z Z Z ?_
   refine U<|ZT Z<|W ?_
   refine Zr ?_
   refine GJ Z Z ?_
   refine JU Z Z ?_
   refine rX kh Z Z ?_
   refine OX H 0 iJ Z Z Z (by simp) fun w2 H2=>U<|W ?_
   refine Zr ?_
   refine oU Z Z ?_
   refine U<|Zt ?_
   rw[hres]
   exact cF (v:=J 0) Z Z ⟨rfl,A1,c1,H2,hr,hc⟩
 ·have hb1:bad1=false:=by
   cases bad1
   ·rfl
   ·exact absurd (.inl Z) hstop
  subst hb1
  have hi:i<5:=by
   have:i≠5:=fun h=>hstop (.inr (.inr h))
   omega
  obtain⟨x,l2,rfl⟩: ∃ x l2,l1=x::l2:=by
   cases l1 with
   |nil=>exact absurd (.inr (.inl Z)) hstop
   |cons x l2=>exact⟨x,l2,rfl⟩
  have hx:x.toNat<256:=UInt8.toNat_lt _
  obtain⟨bb,o,rfl,-,hbl,hcl⟩:=hr.at_ (k:=0) (by simp)
  rw[if_neg (by decide),rn,if_neg I]at hrn
  have h7:2 ^ (7*i)<=2 ^ 28:=Nat.pow_le_pow_right (by decide) I
  have hmod:x.toNat%128<128:=jC _ (by decide)
  have hmul:x.toNat%128*2 ^ (7*i)<=128*2 ^ 28:=Nat.mul_le_mul I h7
  have h71:2 ^ (7*(i+1))=128*2 ^ (7*i):=by rw[Nat.mul_add,Nat.pow_add];omega
  have hmul2:x.toNat%128*2 ^ (7*i)<=127*2 ^ (7*i):=di _ I
  refine ZG ?_
  refine GJ Z Z ?_
  refine ZG ?_
  refine JU Z Z ?_
  refine ZG ?_
  refine rX lS Z Z ?_
  refine ZG ?_
  refine vI H 0 d3 Z Z Z Z ?_
  refine ZG ?_
  refine uF eN Z Z ?_
  refine ZG<|Hc Z Z (by simp;omega) Z ?_
  refine sj Z Z Z ?_
  refine zO Z Z ?_
  refine ZG ?_
  refine iv Z Z ?_
  refine ZG<|Hc Z Z I Z ?_
  refine sj Z Z Z ?_
  refine U<|ZF Z<|Zk<|W ?_
  refine Zr ?_
  refine GJ Z Z ?_
  refine JU Z Z ?_
  refine rX lS Z Z ?_
  refine vI H 0 d3 Z Z Z Z ?_
  refine OP d5 Z Z I (by simp) Z ?_
  refine ld mo Z ((H.below.cell (p:=⟨bb,_,none⟩) hbl).trans (hcl 0 _ Z)) Z ?_
  refine No ik ip Z (uT (n:=x.toNat) I) Z ?_
  refine oU Z Z ?_
  refine U<|W ?_
  refine Zr ?_
  refine GJ Z Z ?_
  refine GJ Z Z ?_
  refine JU Z Z ?_
  refine rX lS Z Z ?_
  refine vI H 0 d3 Z Z Z Z ?_
  refine sQ d5 Z Z I (by simp;omega) hc Z ?_;intro A39 hA39
  refine JU Z Z ?_
  refine rX lS Z Z ?_
  refine Qs H 0 Cn Z Z Z (by simp) fun w2 H2=> ?_
  have hr2:Rd dA 0 w0.heap.size A39 l2 w0:=hr.from_ (k:=1) hA39 (fun h=>h)
  have H:Hp w0 w2 ((b,.cells #[.slice A39 l2.length (c1-1),.bool false] ub)::M) F:=H2
  have hc2:l2.length<=c1-1:=by simp only[bO]at hc;omega
  refine U<|W ?_
  refine Zr ?_
  refine iv Z Z ?_
  refine iv Z Z ?_
  refine G (NR (a:=x.toNat) (b:=127) Z Z I I) ?_
  rw[Mb]
  refine iv Z Z ?_
  refine mul Z Z I I Z ?_
  refine G (NE (a:=x.toNat%128) (b:=7*i) (k:=.i64) Z (by simp;rfl) I I)<|G (ML (a:=n) (b:=x.toNat%128*2 ^ (7*i)) Z Z I I) ?_
  rw[Ob hn]
  refine oU Z Z ?_
  refine U<|W ?_
  refine Zr ?_
  refine iv Z Z ?_
  refine GQ Z Z Z (fun h50=> ?_) (fun h50=> ?_)
  all_goals refine ni ?_
  ·rw[if_pos I]at hrn
   refine ZT Z<|W ?_
   refine Zr ?_
   refine GJ Z Z ?_
   refine iv Z Z ?_
   by_cases hx0:x.toNat=0
   ·refine LE Z Z I Z ?_
    refine zO Z Z ?_
    refine ZG ?_
    refine iv Z Z ?_
    refine ZG<|G (jV (a:=(i:Int)) (b:=0) Z Z) ?_
    refine wq Z Z Z ?_
    refine JU Z Z ?_
    refine rX kh Z Z ?_
    refine OX H 0 iJ Z Z Z (by simp) fun w3 H3=>U<|W ?_
    refine Zr ?_
    refine iv Z Z ?_
    refine oU Z Z ?_
    refine U<|Zt ?_
    rw[<-hrn]
    have e:(decide (x.toNat=0)&&decide (0<i))=decide ((0:Int)<i):=by
     rw[decide_eq_true hx0,gW];exact decide_eq_decide.2 I
    rw[e]
    exact cF (v:=J (n+x.toNat%128*2 ^ (7*i):Nat)) Z Z ⟨rfl,A39,c1-1,H3,hr2,hc2⟩
   ·refine Hc Z Z I Z ?_
    refine zO Z Z ?_
    iterate 2 refine rF Z Z Z ?_
    refine sj Z Z Z ?_
    refine JU Z Z ?_
    refine rX kh Z Z ?_
    refine OX H 0 iJ Z Z Z (by simp) fun w3 H3=>U<|W ?_
    refine Zr ?_
    refine iv Z Z ?_
    refine oU Z Z ?_
    refine U<|Zt ?_
    rw[<-hrn]
    have e:(decide (x.toNat=0)&&decide (0<i))=false:=by rw[decide_eq_false hx0];rfl
    rw[e]
    exact cF (v:=J (n+x.toNat%128*2 ^ (7*i):Nat)) Z Z ⟨rfl,A39,c1-1,H3,hr2,hc2⟩
  ·rw[if_neg I]at hrn
   refine ZF Z<|Zk ?_
   refine Zr ?_
   refine iv Z Z ?_
   refine add Z Z I I Z ?_
   refine oU Z Z ?_
   refine U ?_
   refine⟨(i+1,n+x.toNat%128*2 ^ (7*i),l2,false),⟨by omega,by rw[h71];omega,by rw[<-hrn];rfl,A39,c1-1,H,hr2,hc2⟩,kZ Z Z,by repeat (first|exact mK|refine ly Z ?_|refine jJ _ Z ?_),by show l2.length<l2.length+1;omega⟩
/-- an entry out of a body -/
def sZ (c:UInt8) (l:List UInt8):cH×Bool:=
 let q1:=EP l false
 let q2:=EP q1.2.1 q1.2.2
 let q3:=EP q2.2.1 q2.2.2
 let q4:=EP q3.2.1 q3.2.2
 (⟨(q1.1:Nat),(q2.1:Nat),(q3.1:Nat),(q4.1:Nat),(c.toNat&&&15:Nat),!decide (((c.toNat&&&16:Nat):Int)=0),⟨q4.2.1.toArray⟩⟩,q4.2.2)
def t9 (c:UInt8) (l:List UInt8):Bool:=!(sZ c l).2&&decide (c.toNat<32)&&decide (eG (sZ c l).1=0)
theorem Nt (c0:UInt8) (l:List UInt8) (A:Option Addr) (c:Nat) (w:World) (hr:Rd dA 0 w.heap.size A (c0::l) w) (hc:(c0::l).length<=c):
  dd aa Fl [.slice A (c0::l).length c] w fun v w2=>v=.tuple #[(sZ c0 l).1.v,.bool (t9 c0 l)]/\Below w.heap.size w w2:=by
 obtain⟨bb,o,rfl,-,hbl,hcl⟩:=hr.at_ (k:=0) (by simp)
 have hc0:c0.toNat<256:=UInt8.toNat_lt _
 refine aE DK Z Z ?_
 have H:=Hp.start w
 refine W ?_
 refine Zr ?_
 refine eC H fU Z ?_;intro w1 b2 H
 refine Po Z Z ?_
 refine U<|W ?_
 refine Zr ?_
 refine mb Z Z ?_
 refine sQ d5 Z Z I (by simp;omega) hc Z ?_;intro A7 hA7
 have hr7:Rd dA 0 w.heap.size A7 l w:=hr.from_ (k:=1) hA7 (fun h=>h)
 have hc7:l.length<=c-1:=by simp only[bO]at hc;omega
 refine G (v:=.agg #[.slice A7 l.length (c-1),.bool false]) (bj IA JY Z) ?_
 refine fS H Z Z ?_;intro w2 b9 H
 refine QH Z Z ?_
 refine U<|W ?_
 have hcl2:=fun(w':World) (hw':oI w2 w')=>((H.later hw').below.cell (p:=⟨bb,_,none⟩) hbl).trans (hcl 0 _ Z)
 refine bD bZ [0,1,2,3,4,5,6,7,8,9,10,11] [12] [11] [0,1,3,4,5,6,8,9,10] (sp [(11,Sp.blk w2.heap.size (.agg #[J 0,J 0,J 0,J 0,J 0,.bool false,.string ⟨#[]⟩]) dh)]) N N N N Nq (cI _) ?_
 refine aw Z Z Z Z Z (fun _ _=>ij Z) ?_
 refine aw Z Z Z Z Z (fun _ _=>sU d5 Z Z I (by simp)) ?_
 refine aw Z Z Z Z Z (fun w' hw'=>aV mo Z (hcl2 w' hw')) ?_
 refine aw Z Z Z Z Z (fun _ _=>Ma (a:=c0.toNat) (b:=15) Z Z I I) ?_
 refine aw Z Z Z Z Z (fun _ _=>CM ik ip Z (uT (n:=c0.toNat&&&15) (mf (Hs I)))) ?_
 refine aw Z Z Z Z Z (fun _ _=>ij Z) ?_
 refine aw Z Z Z Z Z (fun _ _=>sU d5 Z Z I (by simp)) ?_
 refine aw Z Z Z Z Z (fun w' hw'=>aV mo Z (hcl2 w' hw')) ?_
 refine aw Z Z Z Z Z (fun _ _=>Ma (a:=c0.toNat) (b:=16) Z Z I I) ?_
 refine aw Z Z Z Z Z (fun _ _=>i6 (k:=.u8) (a:=((c0.toNat&&&16:Nat):Int)) (b:=0) Z Z) ?_
 refine aw (v:=.agg (cH.c ⟨0,0,0,0,(c0.toNat&&&15:Nat),!decide (((c0.toNat&&&16:Nat):Int)=0),⟨#[]⟩⟩).toArray) Z Z Z Z Z (fun _ _=>bj nW fU Z)<|NQ fU Z Z Z Z (fun w' w2 b hC hb hh=>⟨b,rfl,aT hC.size hb,hh⟩) ?_
 rintro _ ⟨_,_,b5,rfl,_,_⟩
 refine aU ?_
 rintro w3 hw3 ⟨-,b,he,hge,hb5⟩
 cases he
 replace H:=(H.adoptNew hw3 hb5 hge).swap
 refine Kk H 1 eM Z Z Z Z Z Z ?_;intro w4 H
 refine U<|W ?_
 refine Zr ?_
 refine GJ Z Z ?_
 refine cd ir (sh (l:=l) (bad:=false) H hr7 hc7) Z Z ?_;rintro _ w5 ⟨rfl,A1,c1,H1,hr1,hc1⟩
 refine GJ Z Z ?_
 refine cd ir (sh H1 hr1 hc1) Z Z ?_;rintro _ w6 ⟨rfl,A2,c2,H2,hr2,hc2⟩
 refine GJ Z Z ?_
 refine cd ir (sh H2 hr2 hc2) Z Z ?_;rintro _ w7 ⟨rfl,A3,c3,H3,hr3,hc3⟩
 refine GJ Z Z ?_
 refine cd ir (sh H3 hr3 hc3) Z Z ?_;rintro _ w8 ⟨rfl,A4,c4,H4,hr4,hc4⟩
 generalize hE:sZ c0 l=E
 have hEE:E=_:=hE.symm
 unfold sZ at hEE
 simp only at hEE
 generalize hq1:EP l false=q1 at*
 generalize hq2:EP q1.2.1 q1.2.2=q2 at*
 generalize hq3:EP q2.2.1 q2.2.2=q3 at*
 generalize hq4:EP q3.2.1 q3.2.2=q4 at*
 obtain⟨n1,l1,x1⟩:=q1
 obtain⟨n2,l2,x2⟩:=q2
 obtain⟨n3,l3,x3⟩:=q3
 obtain⟨n4,l4,x4⟩:=q4
 dsimp only at*
 clear H H1 H2 H3 hr1 hr2 hr3 hc1 hc2 hc3 hq1 hq2 hq3 hq4
 refine rX nB Z Z ?_
 refine Pv H4 1 bI Z Z Z (fd Z) ?_;intro w9 H
 refine rX eS Z Z ?_
 refine Pv H 1 bI Z Z Z (fd Z) ?_;intro w10 H
 refine rX ei Z Z ?_
 refine Pv H 1 bI Z Z Z (fd Z) ?_;intro w11 H
 refine rX eR Z Z ?_
 refine Pv H 1 bI Z Z Z (fd Z) ?_;intro w12 H
 refine U<|W ?_
 refine Zr ?_
 refine GJ Z Z ?_
 refine JU Z Z ?_
 refine rX lS Z Z ?_
 refine vI H 0 d3 Z Z Z Z ?_
 refine Go.Eng.l1 (Oy d5 ik jq Z Z (fun _=>rfl) (hr4.below H.below)) Z Z Z ?_
 refine rX qa Z Z ?_
 refine Qr H 1 zz Z Z Z (fd Z) ?_;intro w13 H
 refine U ?_
 have H:Hp w w13 [(b9,.cells #[.slice A4 l4.length c4,.bool x4] ub),(b5,.cells E.1.c.toArray dh),(b2,.cells (cH.c ⟨0,0,0,0,0,false,⟨#[]⟩⟩).toArray dh)] []:=by rw[hEE];exact H
 have hx4:E.2=x4:=by rw[hEE]
 have hcl3:=fun(w':World) (hw':oI w13 w')=>((H.later hw').below.cell (p:=⟨bb,_,none⟩) hbl).trans (hcl 0 _ Z)
 obtain⟨E,x5⟩:=E
 dsimp only at*
 subst hx4
 clear hEE
 refine W ?_
 refine bD bZ [0,1,2,3,4,5,6,7,8,9,10,11,12,13,14,15,16] [17,18] [14] [1,2,3,5,6,7,8,10,11,12,15,16] (sp [(14,Sp.one (J (eG E)))]) N N N N Nq (cI _) ?_
 refine aw Z Z Z Z Z (fun w' hw'=>iP dB Z ((H.later hw').ent (i:=1) Z) Z) ?_
 refine aw Z Z Z Z Z (fun _ _=>ij Z) ?_
 refine aw Z Z Z Z Z (fun _ _=>aI Z) ?_
 refine aw Z Z Z Z Z (fun _ _=>Zf kh Z) ?_
 refine aw Z Z Z Z Z (fun w' hw'=>aV dR Z (aB ((H.later hw').ent (i:=0) Z) Z)) ?_
 refine aw Z Z Z Z Z (fun _ _=>dO Z) ?_
 refine aw Z Z Z Z Z (fun _ _=>ij Z) ?_
 have hob:t9 c0 l=(!x5&&decide (c0.toNat<32)&&decide (eG E=0)):=by unfold t9;rw[hE]
 rw[hob]
 cases x5
 ·refine aw Z Z Z Z Z (fun _ _=>ij Z) ?_
  refine aw Z Z Z Z Z (fun _ _=>sU d5 Z Z I (by simp)) ?_
  refine aw Z Z Z Z Z (fun w' hw'=>aV mo Z (hcl3 w' hw')) ?_
  refine aw Z Z Z Z Z (fun _ _=>cG (k:=.u8) (a:=(c0.toNat:Int)) (b:=32) Z Z) ?_
  refine aw Z Z Z Z Z (fun _ _=>KE Z Z) ?_
  refine aw Z Z Z Z Z (fun _ _=>ij Z) ?_
  have h32:decide ((c0.toNat:Int)<32)=decide (c0.toNat<32):=decide_eq_decide.2 I
  rw[h32]
  cases h:decide (c0.toNat<32)
  ·iterate 3 refine eU Z Z Z Z ?_
   refine aw Z Z Z Z Z (fun _ _=>HK Z Z) ?_
   refine aU ?_
   intro w' hw' hF;replace H:=H.later hw';clear hw'
   refine Kk H 2 eM Z Z Z Z Z Z ?_;intro w15 H
   refine Po Z Z<|U<|Zt ?_
   exact Lx Z dB Z (H.ent (i:=2) Z) Z Z ⟨rfl,H.below⟩
  ·refine aw Z Z Z Z Z (fun w' hw'=>iP dB Z ((H.later hw').ent (i:=1) Z) Z) ?_
   refine yC rt Z Z Z Z (fun w' _=>(xq E w').mono (fun v w2 ⟨h1,h2⟩=>⟨h2,h1⟩)) Z ?_
   rintro _ ⟨_,_,rfl⟩
   refine aw Z Z Z Z Z (fun _ _=>bh Z Z) ?_
   refine aw Z Z Z Z Z (fun _ _=>KE Z Z) ?_
   refine aU ?_
   intro w' hw' hF;replace H:=H.later hw';clear hw'
   refine Kk H 2 eM Z Z Z Z Z Z ?_;intro w15 H
   refine Po Z Z<|U<|Zt ?_
   exact Lx Z dB Z (H.ent (i:=2) Z) Z Z ⟨rfl,H.below⟩
 ·iterate 4 refine eU Z Z Z Z ?_
  refine aw Z Z Z Z Z (fun _ _=>HK Z Z) ?_
  refine aw Z Z Z Z Z (fun _ _=>ij Z) ?_
  iterate 3 refine eU Z Z Z Z ?_
  refine aw Z Z Z Z Z (fun _ _=>HK Z Z) ?_
  refine aU ?_
  intro w' hw' hF;replace H:=H.later hw';clear hw'
  refine Kk H 2 eM Z Z Z Z Z Z ?_;intro w15 H
  refine Po Z Z<|U<|Zt ?_
  exact Lx Z dB Z (H.ent (i:=2) Z) Z Z ⟨rfl,H.below⟩
/-- the entry that is first, and how many bytes it takes -/
def tq:List UInt8->Option (cH×Nat)
 |[]=>none
 |n::r=>
  if n.toNat=0∨r.length<n.toNat+2 then none
  else if mj (r.take n.toNat)≠(r.getD n.toNat 0).toNat*256+(r.getD (n.toNat+1) 0).toNat then none
  else if t9 (r.headD 0) (r.take n.toNat).tail=true then some ((sZ (r.headD 0) (r.take n.toNat).tail).1,n.toNat+3)else none
inductive Iq:List UInt8->List cH->Nat->Prop
 |stop {l:List UInt8} (h:tq l=none):Iq l [] 0
 |go {l:List UInt8} {e:cH} {k n:Nat} {es:List cH} (h:tq l=some (e,k)) (hd:Iq (l.drop k) es n):Iq l (e::es) (k+n)
theorem O0 {a b:Nat} (hb:b<256):a*2 ^ 8|||b=a*256+b:=by
 have:=rY (i:=8) (b:=b) (by simpa using hb) a
 rw[CX,<-this]
theorem Mu {l:List UInt8} {e:cH} {k:Nat} (h:tq l=some (e,k)):4<=k/\k<=l.length:=by
 cases l with
 |nil=>cases h
 |cons n r=>
  simp only[tq]at h
  split at h;· cases h
  split at h;· cases h
  split at h
  injection h with h;injection h with h1 h2
  rename_i h3 _ _
  simp only[bO]
  omega
  cases h
theorem rM (l:List UInt8) (A:Option Addr) (c:Nat) (w:World) (hr:Rd dA 0 w.heap.size A l w) (hc:l.length<=c) (hbd:l.length<=1000000000000):
  dd aa Bz [.slice A l.length c] w fun v w2=> ∃ es n A' c',v=.tuple #[.slice A' es.length c',J (n:Nat)]/\Iq l es n/\Rd gz w.heap.size w2.heap.size A' es w2/\es.length<=c'/\Below w.heap.size w w2:=by
 refine aE Au Z Z ?_
 have H:=Hp.start w
 refine W ?_
 refine Zr ?_
 refine uO Z Z ?_
 refine oU Z Z ?_
 refine U<|W ?_
 refine Zr ?_
 refine uO Z Z ?_
 refine U<|W ?_
 refine Zr ?_
 refine oU Z Z ?_
 refine U<|W<|Zb ?_
 refine cf (τ:=Nat×List cH×Option Addr×Nat) [4,5,6,7,8,9,10,11,12,13,14,15,16,17,18,19,20,21,22,23,24,25,26,27,28,29,30,31,32,33,34,35,36,37,38,39,40,41,42,43,44,45,46,47,48,49,50,51,52,53,54,55,56,57,58,59,60,61,62,63,64,65,66,67,68,69,70,71,72,73]
  (fun(at_,out,A1,c1)=>[(4,.slice A1 out.length c1),(5,J (at_:Nat))])
  (fun(at_,out,A1,c1) w'=>at_<=l.length/\out.length<=at_/\(∀ es n,Iq (l.drop at_) es n->Iq l (out++es) (at_+n))/\ ∃ L',gi gz (.slice A1 out.length c1) dh out L'/\Hp w w' ([]++L'++[]) [])
  (fun(at_,_,_,_)=>l.length-at_) (0,[],none,0) ⟨by omega,by simp,fun es n h=>by simpa using h,[],gi.nil,H⟩ (kZ Z Z) ?_
 rintro⟨at_,out,A1,c1⟩ ρ1 w1 ⟨hat,hout,hdec,L1,ho,H⟩
 show CW _ _ _ _ (dv (gk _ _ ρ1) [(4,.slice A1 out.length c1),(5,J (at_:Nat))]) w1
 have hfin: ∀ {w2:World},tq (l.drop at_)=none->Hp w w2 ([]++L1++[]) []-> ∃ es n A' c',(Value.tuple #[.slice A1 out.length c1,J (at_:Nat)])=.tuple #[.slice A' es.length c',J (n:Nat)]/\Iq l es n/\Rd gz w.heap.size w2.heap.size A' es w2/\es.length<=c'/\Below w.heap.size w w2:=fun hs H=>by
  have hd:=hdec [] 0 (.stop hs)
  rw[aY,rZ]at hd
  obtain⟨A2,c2,he,hlc,-⟩:=ho.form
  injection he with h1 h2 h3
  subst h3
  exact⟨out,at_,A1,c1,rfl,hd,ho.rd H,hlc,H.below⟩
 refine W<|W ?_
 refine Zr ?_
 refine iv Z Z ?_
 refine mb Z Z ?_
 refine uF eN Z Z ?_
 refine GQ Z Z Z (fun h13=> ?_) (fun h13=> ?_)
 all_goals refine ni ?_
 ·refine pH Z ?_
  refine Zk ?_
  have hlt:at_<l.length:=by omega
  obtain⟨bb,o,hA,-,hbl,hcl0⟩:=hr.at_ hlt
  subst hA
  have hcl: ∀ {k:Nat} (hk:k<l.length) (w':World),Below w.heap.size w w'->w'.cell? ⟨bb,o+k*1,none⟩=some (.int .u8 (l[k].toNat:Nat)):=fun{k} hk w' hb=>by
   obtain⟨bb',o',hA,-,hbl,hcl⟩:=hr.at_ hk
   injection hA with hA
   injection hA with h1 h2
   subst h1;subst h2
   exact(hb.cell (p:=⟨bb,_,none⟩) hbl).trans (hcl 0 _ Z)
  have hd0:l.drop at_=l[at_]::l.drop (at_+1):=mO hlt
  have hx:=hcl hlt
  have h256:l[at_].toNat<256:=UInt8.toNat_lt _
  generalize hn:l[at_].toNat=n at*
  refine Zb<|W ?_
  refine Zr ?_
  refine mb Z Z ?_
  refine iv Z Z ?_
  refine OP d5 Z Z I I Z ?_
  refine ld mo Z (hx _ H.below) Z ?_
  refine No ik ip Z (uT (n:=n) I) Z ?_
  refine oU Z Z ?_
  refine U<|W<|W ?_
  refine Zr ?_
  refine iv Z Z ?_
  by_cases hstop:n=0∨l.length<at_+n+3
  ·have hs:tq (l.drop at_)=none:=by
    rw[hd0,tq,hn,if_pos]
    rw[dI];omega
   by_cases hn0:n=0
   ·refine LE Z Z I Z ?_
    refine zO Z Z ?_
    iterate 7 refine rF Z Z Z ?_
    refine wq Z Z Z ?_
    refine U<|ZT Z<|Zx<|W ?_
    refine Zr ?_
    refine mb Z Z ?_
    refine iv Z Z ?_
    refine uO Z Z ?_
    refine oU Z Z ?_
    refine U<|Zt ?_
    exact l9 Z Z Z (hfin hs H)
   ·refine Hc Z Z I Z ?_
    refine zO Z Z ?_
    refine ZG ?_
    refine iv Z Z ?_
    refine ZG ?_
    refine iv Z Z ?_
    refine ZG ?_
    refine add Z Z I I Z ?_
    refine ZG ?_
    refine add Z Z I I Z ?_
    refine ZG ?_
    refine mb Z Z ?_
    refine ZG ?_
    refine uF eN Z Z ?_
    refine ZG<|Oo Z Z I Z ?_
    refine sj Z Z Z ?_
    refine U<|ZT Z<|Zx<|W ?_
    refine Zr ?_
    refine mb Z Z ?_
    refine iv Z Z ?_
    refine uO Z Z ?_
    refine oU Z Z ?_
    refine U<|Zt ?_
    exact l9 Z Z Z (hfin hs H)
  have hn0:n≠0:=fun h=>hstop (.inl h)
  have hlen:at_+n+3<=l.length:=by omega
  refine Hc Z Z I Z ?_
  refine zO Z Z ?_
  refine ZG ?_
  refine iv Z Z ?_
  refine ZG ?_
  refine iv Z Z ?_
  refine ZG ?_
  refine add Z Z I I Z ?_
  refine ZG ?_
  refine add Z Z I I Z ?_
  refine ZG ?_
  refine mb Z Z ?_
  refine ZG ?_
  refine uF eN Z Z ?_
  refine ZG<|Oq Z Z I Z ?_
  refine sj Z Z Z ?_
  refine U<|ZF Z<|Zk<|W ?_
  refine Zr ?_
  refine mb Z Z ?_
  refine iv Z Z ?_
  refine add Z Z I I Z ?_
  refine iv Z Z ?_
  refine add Z Z I I Z ?_
  refine iv Z Z ?_
  refine add Z Z I I Z ?_
  refine NB d5 Z Z Z I I I Z ?_;intro A37 hA37
  have e1:((at_:Int)+1).toNat=at_+1:=by omega
  have e2:((at_:Int)+1+n).toNat- (at_+1)=n:=by omega
  rw[e1]at hA37⊢
  rw[e2]
  have hrx:Rd dA 0 w.heap.size A37 ((l.drop (at_+1)).take n) w:=(hr.from_ hA37 (fun h=>by omega)).take n
  have hxl:((l.drop (at_+1)).take n).length=n:=by rw[aH,dI];omega
  refine uO Z Z ?_
  refine U ?_
  have hg1:(l.drop (at_+1)).getD n 0=l[at_+n+1]:=by
   rw[bY,dK,show at_+1+n=at_+n+1 by omega,ah I];rfl
  have hg2:(l.drop (at_+1)).getD (n+1) 0=l[at_+n+2]:=by
   rw[bY,dK,show at_+1+(n+1)=at_+n+2 by omega,ah I];rfl
  have hc1:=hcl (k:=at_+n+1) I
  have hc2:=hcl (k:=at_+n+2) I
  have hb1:l[at_+n+1].toNat<256:=UInt8.toNat_lt _
  have hb2:l[at_+n+2].toNat<256:=UInt8.toNat_lt _
  generalize l[at_+n+1]=x1 at*
  generalize l[at_+n+2]=x2 at*
  generalize hX:(l.drop (at_+1)).take n=X at*
  have hstep:tq (l.drop at_)=if mj X≠x1.toNat*256+x2.toNat then none else if t9 (X.headD 0) X.tail=true then some ((sZ (X.headD 0) X.tail).1,n+3)else none:=by
   rw[hd0,tq,hn,if_neg (by rw[dI];omega),hX,hg1,hg2]
   have:(l.drop (at_+1)).headD 0=X.headD 0:=by
    rw[<-hX]
    cases h:l.drop (at_+1)with
    |nil=>simp
    |cons a r=>
     cases n with
     |zero=>exact absurd Z hn0
     |succ n=>rfl
   rw[this]
  have hcy1:((at_:Int)+n+1).toNat=at_+n+1:=by omega
  have hcy2:((at_:Int)+n+2).toNat=at_+n+2:=by omega
  rw[<-hcy1]at hc1
  rw[<-hcy2]at hc2
  have hor:x1.toNat*2 ^ 8|||x2.toNat=x1.toNat*256+x2.toNat:=O0 hb2
  have hslt:=Db X
  refine W<|W ?_
  refine bD bZ [0,2,3,4,5,6,7,8,9,10,11,12,13,14,15,16,17,18,19,1,20] [] [1] [0,2,3,4,5,6,7,9,10,11,12,13,14,15,16,18,19,20] (sp [(1,Sp.one (J (mj X:Nat)))]) N N N N Nq (cI _) ?_
  refine aw Z Z Z Z Z (fun _ _=>ij Z) ?_
  refine aw Z Z Z Z Z (fun _ _=>ij Z) ?_
  refine aw Z Z Z Z Z (fun _ _=>ij Z) ?_
  refine aw Z Z Z Z Z (fun _ _=>ij Z) ?_
  refine aw Z Z Z Z Z (fun _ _=>bp Z Z I I) ?_
  refine aw Z Z Z Z Z (fun _ _=>bp Z Z I I) ?_
  refine aw Z Z Z Z Z (fun _ _=>sU d5 Z Z I I) ?_
  refine aw Z Z Z Z Z (fun w' hw'=>aV mo Z (hc1 w' (H.later hw').below)) ?_
  refine aw Z Z Z Z Z (fun _ _=>CM ik ip Z (uT (n:=x1.toNat) I)) ?_
  refine aw Z Z Z Z Z (fun _ _=>NE (a:=x1.toNat) (b:=8) (k:=.u64) Z Z I I) ?_
  refine aw Z Z Z Z Z (fun _ _=>ij Z) ?_
  refine aw Z Z Z Z Z (fun _ _=>ij Z) ?_
  refine aw Z Z Z Z Z (fun _ _=>ij Z) ?_
  refine aw Z Z Z Z Z (fun _ _=>bp Z Z I I) ?_
  refine aw Z Z Z Z Z (fun _ _=>bp Z Z I I) ?_
  refine aw Z Z Z Z Z (fun _ _=>sU d5 Z Z I I) ?_
  refine aw Z Z Z Z Z (fun w' hw'=>aV mo Z (hc2 w' (H.later hw').below)) ?_
  refine aw Z Z Z Z Z (fun _ _=>CM ik ip Z (uT (n:=x2.toNat) I)) ?_
  refine aw Z Z Z Z Z (fun _ _=>ML (a:=x1.toNat*2 ^ 8) (b:=x2.toNat) Z Z I I) ?_
  rw[hor]
  refine yC yA Z Z Z Z (fun w' hw'=>(Ke X A37 (c- (at_+1)) w' ((hrx.below (H.later hw').below).mono (ao _) (H.later hw').size) I).mono (fun v w2 ⟨h1,h2⟩=>⟨h2,h1⟩)) (by rw[hxl];rfl) ?_
  rintro _ ⟨_,_,rfl⟩
  by_cases hsum:mj X=x1.toNat*256+x2.toNat
  ·refine aw Z Z Z Z Z (fun _ _=>bX Z Z I) ?_
   refine aU ?_
   intro w' hw' hF;replace H:=H.later hw';clear hw' hF
   refine U<|ZF Z<|Zk ?_
   obtain⟨c0,X',rfl⟩: ∃ c0 X',X=c0::X':=by
    cases X with
    |nil=>simp at hxl;omega
    |cons a X=>exact⟨a,X,rfl⟩
   rw[if_neg I]at hstep
   refine W ?_
   refine Zr ?_
   refine mb Z Z ?_
   rw[<-hxl]
   refine cd D2 (Nt c0 X' A37 _ _ ((hrx.below H.below).mono (ao _) H.size) (by rw[hxl];omega)) Z Z ?_;rintro _ w2 ⟨rfl,hb2⟩;replace H:=H.later hb2
   rw[hxl]
   refine Qy Z Z ?_
   refine Qb Z Z Z ?_
   refine Qb Z Z Z ?_
   refine eC H fU Z ?_;intro w3 b8 H
   refine Kk H 0 eM Z Z Z Z Z Z ?_;intro w4 H
   refine Po Z Z ?_
   refine U<|W<|W ?_
   refine Zr ?_
   refine zO Z Z ?_
   refine not Z Z ?_
   refine U ?_
   refine jm (b:=!t9 c0 X') Z (fun hb=> ?_) (fun hb=> ?_)
   ·rw[if_neg (by simpa using hb)]at hstep
    refine Zx<|W ?_
    refine Zr ?_
    refine mb Z Z ?_
    refine iv Z Z ?_
    refine uO Z Z ?_
    refine oU Z Z ?_
    refine U<|Zt ?_
    exact l9 Z Z Z (hfin hstep (H.forget (by simp) (fun _ h=>h)))
   ·rw[if_pos (by simpa using hb)]at hstep
    refine Zk<|W ?_
    refine Zr ?_
    refine mb Z Z ?_
    refine P9 H 0 dB Z Z Z Z ?_
    refine sY (vs:=[.agg _]) H dN fU Z Z Z Z Z Z ?_;intro w5 b68 H5
    refine vU (Y:=gz) JL (K:=[_,_]) (L:=L1) (M:=[]) H5 ho (news:=[(sZ c0 X').1]) Z Z Z ?_ (by simp only[bP];omega) Z ?_
    ·exact vY.row (m:=1) (sz:=7) (H5.ent (i:=0) Z) Z
    intro A6 c6 w6 L6 _ _ ho6 H6
    refine uO Z Z ?_
    refine U ?_
    refine Zr ?_
    refine iv Z Z ?_
    refine iv Z Z ?_
    refine add Z Z I I Z ?_
    refine add Z Z I I Z ?_
    refine oU Z Z ?_
    refine U ?_
    refine⟨(at_+(n+3),out++[(sZ c0 X').1],A6,c6),⟨by omega,by simp;omega,fun es m hD=> ?_,L6,ho6,H6.forget (by simp) (fun _ h=>h)⟩,kZ Z ?_,by repeat (first|exact mK|refine ly Z ?_|refine jJ _ Z ?_),by show l.length- (at_+(n+3))<l.length-at_;omega⟩
    ·have:=hdec _ _ (.go hstep (by rw[j0];exact hD))
     rw[aD,kX]
     exact this
    ·show Value.int .i64 _=Value.int .i64 _
     congr 1
  ·rw[if_pos hsum]at hstep
   refine aw Z Z Z Z Z (fun _ _=>j9 Z Z I) ?_
   refine aU ?_
   intro w' hw' hF;replace H:=H.later hw';clear hw'
   refine U<|ZT Z<|Zx<|W ?_
   refine Zr ?_
   refine mb Z Z ?_
   refine iv Z Z ?_
   refine uO Z Z ?_
   refine oU Z Z ?_
   refine U<|Zt ?_
   exact l9 Z Z Z (hfin hstep H)
 ·refine ox Z ?_
  refine Zx ?_
  have hs:tq (l.drop at_)=none:=by rw[eg I];rfl
  refine W ?_
  refine Zr ?_
  refine mb Z Z ?_
  refine iv Z Z ?_
  refine uO Z Z ?_
  refine oU Z Z ?_
  refine U<|Zt ?_
  exact l9 Z Z Z (hfin hs H)
def ql (e:cH):Prop:=eG e=0
def bd (es:List cH):List UInt8:=es.flatMap iB
theorem zr (n:Nat) (h:n<256):(UInt8.ofNat n).toNat=n:=by simp[gT h]
theorem Kv: ∀ (k n i m:Nat) (rest:List UInt8),n<128 ^ k->i+k<=5->(0<k)->(n≠0∨i=0)->rn i m (yK n++rest)=(m+n*2 ^ (7*i),rest,false)
 |0,_,_,_,_,_,_,h0,_=>absurd h0 (by decide)
 |k+1,n,i,m,rest,hn,hi,_,hz=>by
  by_cases h:n<=127
  rw[um h]
  simp only[qo,kO,rn]
  rw[if_neg I,zr n I,if_pos I,gT I]
  have:(decide (n=0)&&decide (0<i))=false:=by
   rcases hz with h|h
   simp[h]
   simp[h]
  rw[this]
  rw[Dm I]
  simp only[qo,rn]
  have hm:n%128<128:=jC _ (by decide)
  rw[if_neg I,zr _ I,if_neg I]
  have hk:k≠0:=by rintro rfl;simp at hn;omega
  rw[Kv k (n/128) (i+1) _ rest (by rw[Nat.pow_succ]at hn;exact yF I) I I (.inl I)]
  congr 1
  have e1:(n%128+128)%128=n%128:=by omega
  have e2:2 ^ (7*(i+1))=128*2 ^ (7*i):=by rw[Nat.mul_add,Nat.pow_add];omega
  rw[e1,e2]
  have e3:n/128*(128*2 ^ (7*i))=(n/128*128)*2 ^ (7*i):=(Nat.mul_assoc _ _ _).symm
  rw[e3,kX,<-cQ]
  congr 2
  omega
theorem y4 {n:Nat} (hn:n<=1073741824) (rest:List UInt8):EP (yK n++rest) false=(n,rest,false):=by
 unfold EP
 rw[if_neg (by decide),Kv 5 n 0 0 rest I I I (.inr Z)]
 simp
theorem Ja: ∀ k:Nat,k<4-> ∀ t:Bool,let c:=k+if t then 16 else 0;c<32/\(c&&&15)=k/\(!decide (((c&&&16:Nat):Int)=0))=t:=by decide
theorem LS {e:cH} (h:ql e): ∃ c x,eO e=c::x/\t9 c x=true/\(sZ c x).1=e:=by
 obtain⟨h1,h2,h3,h4,-⟩:=ov h
 refine⟨n9 e,n7 e.nums++e.text.data.toList,rfl,?_⟩
 obtain⟨ep,pid,ver,seq,kind,txn,text⟩:=e
 simp only[cH.nums,av,bx,or_false,forall_eq_or_imp,forall_eq]at h3
 dsimp only at h1 h2
 obtain⟨a1,a2,a3,a4⟩:=h3
 obtain⟨n1,rfl⟩: ∃ n:Nat,ep=n:=⟨ep.toNat,by omega⟩
 obtain⟨n2,rfl⟩: ∃ n:Nat,pid=n:=⟨pid.toNat,by omega⟩
 obtain⟨n3,rfl⟩: ∃ n:Nat,ver=n:=⟨ver.toNat,by omega⟩
 obtain⟨n4,rfl⟩: ∃ n:Nat,seq=n:=⟨seq.toNat,by omega⟩
 obtain⟨k,rfl⟩: ∃ n:Nat,kind=n:=⟨kind.toNat,by omega⟩
 have hb:n7 (cH.nums ⟨(n1:Nat),(n2:Nat),(n3:Nat),(n4:Nat),(k:Nat),txn,text⟩)++text.data.toList=yK n1++(yK n2++(yK n3++(yK n4++text.data.toList))):=by
  simp[n7,cH.nums]
 obtain⟨j1,j2,j3⟩:=Ja k I txn
 have hkb:(n9 ⟨(n1:Nat),(n2:Nat),(n3:Nat),(n4:Nat),(k:Nat),txn,text⟩).toNat=k+if txn then 16 else 0:=by
  unfold n9
  exact zr _ (by simp only[ud];exact Nat.lt_trans j1 (by decide))
 have hE:sZ (n9 ⟨(n1:Nat),(n2:Nat),(n3:Nat),(n4:Nat),(k:Nat),txn,text⟩) (yK n1++(yK n2++(yK n3++(yK n4++text.data.toList))))=(⟨(n1:Nat),(n2:Nat),(n3:Nat),(n4:Nat),(k:Nat),txn,text⟩,false):=by
  unfold sZ
  simp only[y4 (show n1<=1073741824 by omega),y4 (show n2<=1073741824 by omega),y4 (show n3<=1073741824 by omega),y4 (show n4<=1073741824 by omega),hkb,j2,j3]
 dsimp only
 rw[hb]
 refine⟨?_,by rw[hE]⟩
 unfold t9
 rw[hE,hkb]
 simp[j1,show eG _=0 from h]
theorem AI (e:cH):(iB e).length=(eO e).length+3:=by simp[iB]
theorem EE {e:cH} (h:ql e) (rest:List UInt8):tq (iB e++rest)=some (e,(iB e).length):=by
 obtain⟨hl,h0⟩:=uC h
 have hs:=Db (eO e)
 obtain⟨c,x,h1,h2,h3⟩:=LS h
 have e1:iB e++rest=UInt8.ofNat (eO e).length::(eO e++(UInt8.ofNat (mj (eO e)/256)::UInt8.ofNat (mj (eO e)%256)::rest)):=by simp[iB]
 rw[e1,tq,zr _ I,if_neg (by simp only[ay,bO];omega)]
 have t1:(eO e++(UInt8.ofNat (mj (eO e)/256)::UInt8.ofNat (mj (eO e)%256)::rest)).take (eO e).length=eO e:=i7
 have t2:(eO e++(UInt8.ofNat (mj (eO e)/256)::UInt8.ofNat (mj (eO e)%256)::rest)).getD (eO e).length 0=UInt8.ofNat (mj (eO e)/256):=by
  rw[bY,cw (ao _),me];rfl
 have t3:(eO e++(UInt8.ofNat (mj (eO e)/256)::UInt8.ofNat (mj (eO e)%256)::rest)).getD ((eO e).length+1) 0=UInt8.ofNat (mj (eO e)%256):=by
  rw[bY,cw I,oF];rfl
 rw[t1,t2,t3,zr _ I,zr _ I,if_neg (fun h=>h (Nat.div_add_mod' _ _).symm)]
 have t4:(eO e++(UInt8.ofNat (mj (eO e)/256)::UInt8.ofNat (mj (eO e)%256)::rest)).headD 0=c:=by rw[h1];rfl
 rw[t4,AI]
 rw[h1]
 simp[h2,h3]
theorem Ia: ∀ (es:List cH) (rest:List UInt8),(∀ e∈es,ql e)->tq rest=none->Iq (bd es++rest) es (bd es).length
 |[],rest,_,h=> .stop h
 |e::es,rest,hg,h=>by
  have h1:=EE (hg e (aA ..)) (bd es++rest)
  have h2:=Ia es rest (fun x hx=>hg x (ak _ hx)) h
  have e1:bd (e::es)++rest=iB e++(bd es++rest):=by simp[bd]
  have e2:(bd (e::es)).length=(iB e).length+(bd es).length:=by simp[bd]
  rw[e1,e2]
  exact .go h1 (by rw[List.drop_left];exact h2)
theorem pG {l:List UInt8} {es es':List cH} {n n':Nat} (h:Iq l es n) (h':Iq l es' n'):es=es'/\n=n':=by
 induction h generalizing es' n' with
 |stop h=>cases h' with
  |stop=>exact⟨rfl,rfl⟩
  |go h1 _=>rw[h]at h1;cases h1
 |go h hd ih=>cases h' with
  |stop h1=>rw[h]at h1;cases h1
  |go h1 hd1=>
   rw[h]at h1
   injection h1 with h1;injection h1 with h1 h2
   subst h1;subst h2
   obtain⟨a,b⟩:=ih hd1
   exact⟨by rw[a],by rw[b]⟩
theorem Lk (e:cH):bd [e]=iB e:=by simp[bd]
theorem Jm {es:List cH} {k:Nat} (h:k<es.length):bd (es.take (k+1))=bd (es.take k)++iB es[k]:=by
 unfold bd
 rw[CY h,mQ,List.flatMap_singleton]
theorem fe (es:List cH) (k:Nat):(bd (es.take k)).length<=(bd es).length:=by
 have:bd es=bd (es.take k)++bd (es.drop k):=by
  unfold bd;rw[<-mQ,gL]
 rw[this,ay];omega
def e0:cH:=⟨0,1,0,0,2,true,⟨#[]⟩⟩
section
open Go.ChangeShapes Go.WideShapes Go.ChangeAt Go.RowKit Go.Eng
/-- the row's end, out of a function's contract -/
theorem IM {f:FuncId} {vs:List Value} {w:World} (h:dd aa f vs w fun v w2=>v=.bool true/\Below w.heap.size w w2):Calls aa f vs.toArray w fun e w'=>e=.returned (.bool true)/\Below w.heap.size w w':=
 Calls.mono h fun _ _ ⟨_,he,hv,hb⟩=>⟨by rw[he,hv],hb⟩
end


/-- picked -/
def pk (n:Int) (m:Nat):Nat:=(if n<0 then(-(n+1)).toNat else n.toNat)%m
theorem i5 (n:Int) {m:Nat} (h:0<m):pk n m<m:=jC _ h
theorem dk (n:Int) (m:Nat) (w:World) (h1: -9223372036854775808<=n) (h2:n<=9223372036854775807) (hm:0<m) (hm2:m<=1000000000000):
  dd aa s8 [J n,J (m:Nat)] w fun v w2=>v=J (pk n m:Nat)/\Below w.heap.size w w2:=by
 refine aE sy Z Z ?_
 have H:=Hp.start w
 refine W ?_
 refine Zr ?_
 refine oU Z Z ?_
 refine U<|W ?_
 obtain⟨a,ha⟩: ∃ a:Nat,(if n<0 then(-(n+1)).toNat else n.toNat)=a:=⟨_,rfl⟩
 refine eu (τ:=Unit) [5,6,7,8,9,0] (fun _=>[(0,J (a:Nat))]) (fun _ w'=>Hp w w' [] []) ?_ ?_
 ·refine AK ?_
  refine Zr ?_
  refine iv Z Z ?_
  refine GQ Z Z Z (fun h6=> ?_) (fun h6=> ?_)
  all_goals refine ni ?_
  ·refine pH Z ?_
   refine Zr ?_
   refine iv Z Z ?_
   refine G (OI Z Z I I)<|G (Oe Z I I) ?_
   refine oU Z Z ?_
   refine U ?_
   have e: -(n+1)=(a:Nat):=by rw[if_pos h6]at ha;omega
   rw[e]
   refine⟨(),H,dF Z,by repeat (first|exact Ek.refl _ _|exact mK|refine ly Z ?_|refine jJ _ Z ?_)⟩
  ·refine ox Z ?_
   refine Zk ?_
   have e:n=(a:Nat):=by rw[if_neg h6]at ha;omega
   subst e
   refine⟨(),H,dF Z,by repeat (first|exact Ek.refl _ _|exact mK|refine ly Z ?_|refine jJ _ Z ?_)⟩
 rintro _ ρ1 w1 H
 show CW _ _ _ _ (dv (gk _ _ ρ1) [(0,J (a:Nat))]) w1
 refine W ?_
 refine Zr ?_
 refine iv Z Z ?_
 refine iv Z Z ?_
 refine rem Z Z I I Z ?_
 refine oU Z Z ?_
 refine U<|Zt ?_
 have e:((a:Int)%(m:Int))=(pk n m:Nat):=by unfold pk;rw[ha];rfl
 rw[e]
 exact cF (v:=J (pk n m:Nat)) Z Z ⟨rfl,H.below⟩
structure Hw where
 kind:Int
 a:Int
 b:Int
 c:Int
def Hw.cs (r:Hw):List Value:=[J r.kind,J r.a,J r.b,J r.c]
def vC:fj Hw:=⟨Hw.cs,4,fun _=>rfl,by decide,fun a u hu=>by
 simp only[Hw.cs,av,bx,or_false]at hu
 rcases hu with h|h|h|h<;>subst h<;>rfl⟩
def i64 (n:Int):Prop:= -9223372036854775808<=n/\n<=9223372036854775807
def Hw.ok (r:Hw):Prop:=i64 r.kind/\i64 r.a/\i64 r.b/\i64 r.c
def uV (n:Nat):List UInt8:=if h:n=0 then []else UInt8.ofNat (97+n%10)::uV (n/10)
termination_by n
decreasing_by omega
theorem Ca {n:Nat} (h:0<n):uV n=UInt8.ofNat (97+n%10)::uV (n/10):=by rw[uV,dif_neg I]
theorem vw:uV 0=[]:=by rw[uV];simp
theorem xo: ∀ (k n:Nat),n<10 ^ k->(uV n).length<=k
 |0,n,h=>by
  have:n=0:=by simpa using h
  subst this;rw[vw];simp
 |k+1,n,h=>by
  by_cases hn:n=0
  subst hn;rw[vw];simp
  rw[Ca I]
  have:=xo k (n/10) (by rw[Nat.pow_succ]at h;omega)
  simp;omega
def uU (n:Int):ByteArray:=⟨(uV (pk n 10000)).toArray⟩
theorem OF (a b:List UInt8):(⟨a.toArray⟩:ByteArray)++⟨b.toArray⟩=⟨(a++b).toArray⟩:=by
 apply ByteArray.ext
 simp
theorem Ir (n:Int):(uU n).size<=4:=by
 have:=xo 4 (pk n 10000) (i5 n (by decide))
 simpa [uU,ByteArray.size]using this
theorem Mn (n:Int) (w:World) (hn:i64 n):dd aa uG [J n] w fun v w2=>v=.string (uU n)/\Below w.heap.size w w2:=by
 refine aE tM Z Z ?_
 have H:=Hp.start w
 obtain⟨hn1,hn2⟩:=hn
 have hpk:=i5 n (show 0<10000 by decide)
 refine W<|Zr<|G (Wt Z)<|U<|W<|Zr<|G (Wt Z)<|U<|W<|W<|Zr<|G (Yi Z)<|cd aJ (dk _ 10000 _ I I (by decide) (by decide)) Z Z ?_
 rintro _ w1 ⟨rfl,hb⟩;replace H:=H.later hb;clear hb
 refine G (Wi Z)<|U<|Zb ?_
 refine cf (τ:=Nat×List UInt8) [0,3,6,7,8,9,10,11,12,13,14,15,16] (fun(m,s)=>[(0,J (m:Nat)),(3,.string ⟨s.toArray⟩)]) (fun(m,s) w'=>m<10000/\s++uV m=uV (pk n 10000)/\Hp w w' [] []) (fun(m,_)=>m) (pk n 10000,[]) ⟨hpk,rfl,H⟩ (kZ Z Z) ?_
 rintro⟨m,s⟩ ρ1 w1 ⟨hm,hs,H⟩
 show CW _ _ _ _ (dv (gk _ _ ρ1) [(0,J (m:Nat)),(3,.string ⟨s.toArray⟩)]) w1
 have hsl:(⟨s.toArray⟩:ByteArray).size<=4:=by
  have h4:=xo 4 (pk n 10000) (by simpa using hpk)
  rw[<-hs,ay]at h4
  show s.toArray.size<=4
  simp;omega
 refine W<|W<|Zr<|G (Yi Z) ?_
 refine cR (jV Z Z) Z Z Z (fun h7=> ?_) (fun h7=> ?_)
 ·
  refine U<|ZT Z<|Zk<|W<|Zb<|Zr<|G (Yt Z)<|G (Yi Z)<|G (NF Z Z I I)<|G (bp Z Z I I) ?_
  have e13:(97:Int)+(m:Int)%10=(97+m%10:Nat):=by omega
  rw[e13]
  refine G (CM ip Cz Z (NU I))<|G (Ox Cz jq Z Z I)<|G (N5 Z Z (by simp only[ByteArray.size]at hsl⊢;simp at hsl⊢;omega)) ?_
  rw[show(⟨#[UInt8.ofNat (97+m%10)]⟩:ByteArray)=⟨[UInt8.ofNat (97+m%10)].toArray⟩from rfl,OF]
  refine G (Wt Z)<|U<|Zr<|G (Yi Z)<|G (OZ Z Z I I I)<|G (Wi Z)<|U ?_
  refine⟨(m/10,s++[UInt8.ofNat (97+m%10)]),⟨by omega,by rw[<-hs,Ca (n:=m) I];simp,H⟩,kZ Z Z,by repeat (first|exact Ek.refl _ _|exact mK|refine ly Z ?_|refine jJ _ Z ?_),by show m/10<m;omega⟩
 ·
  refine U<|ZF Z<|Zx<|W<|Zr<|G (Yt Z)<|G (Wt Z)<|U<|Zt ?_
  have hm0:m=0:=by omega
  subst hm0
  rw[vw,aY]at hs
  subst hs
  exact cF (v:=.string (uU n)) Z Z ⟨rfl,H.below⟩
def Hw.entry (r:Hw):cH:=
 let p:=pk r.b 4
 if p=0 then⟨pk r.a 4,0,0,0,1,false,uU r.c⟩
 else if pk r.kind 6=0∨pk r.kind 6=1 then⟨pk r.a 4,p,pk r.a 3,0,2+pk r.c 2,true,⟨#[]⟩⟩
 else⟨pk r.a 4,p,pk r.a 3,pk r.c 5,1,decide (((pk r.c 2:Nat):Int)=0),uU r.c⟩
section
open Go.ChangeShapes Go.WideShapes Go.ChangeAt Go.RowKit Go.Eng
theorem xp {n:Int} (h:(Lit.int .i64 n).wf=true):i64 n:=by
 have: -9223372036854775808<=n/\n<=9223372036854775807:=by simpa [Lit.wf,IntKind.min,IntKind.max,IntKind.signed,IntKind.bits]using h
 exact this
theorem Mq:aa.underlying vp=some (.struct (aa.fieldsOf vp)):=by kernel_rfl
theorem Gw:(aa.fieldsOf vp).toList.map (fun f=>(f.offset,aa.cellsOf f.type))=[(0,1),(1,1),(2,1),(3,1)]:=by kernel_rfl
theorem KA:((aa.fieldsOf vp).toList.all fun f=>oP aa f.type .i64)=true:=by kernel_rfl
theorem yk:aa.cellsOf vp=4:=by kernel_rfl
theorem wx {P:Program} {t:TypeId} {k:IntKind} (h:oP P t k=true):P.underlying t=some (.int k):=by
 unfold oP at h
 split at h
 rename_i k' hk;rw[hk,of_decide_eq_true h]
 cases h
section
variable {H:Type} {enc:TypeId×Value->H} {w:World} {base:Nat} {sp:Nat->Bool} {held:Bool}
theorem Dj {P:Program} {t:TypeId} {fs:Array Field} (hu:P.underlying t=some (.struct fs)) (hp:fs.toList.map (fun f=>(f.offset,P.cellsOf f.type))=[(0,1),(1,1),(2,1),(3,1)]) (hi:(fs.toList.all fun f=>oP P f.type .i64)=true) (hce:P.cellsOf t=4)
  {n:Nat} {cs:List Value} {x:DataW H×List MemPlace} (h:DataW.trod enc P w base sp held n t cs=some x): ∃ r:Hw,cs=r.cs/\r.ok:=by
 obtain⟨xs,k,_,_,hl,hlen,hf⟩:=DataW.trod_struct hu h
 rw[hce]at hl
 obtain⟨fs⟩:=fs
 have hl4:fs.length=4:=by have:=congrArg cv hp;simpa using this
 obtain⟨f0,f1,f2,f3,rfl⟩: ∃ a b c d,fs=[a,b,c,d]:=by
  match fs,hl4 with
  |[a,b,c,d],_=>exact⟨a,b,c,d,rfl⟩
 simp only[eI,mg,List.cons.injEq,Prod.mk.injEq,and_true]at hp
 obtain⟨⟨o0,c0⟩,⟨o1,c1⟩,⟨o2,c2⟩,o3,c3⟩:=hp
 simp only[List.all_cons,List.all_nil,aS,and_true]at hi
 obtain⟨i0,i1,i2,i3⟩:=hi
 obtain⟨v0,v1,v2,v3,rfl⟩: ∃ a b c d,cs=[a,b,c,d]:=by
  match cs,hl with
  |[a,b,c,d],_=>exact⟨a,b,c,d,rfl⟩
 have g0:=hf 0 f0 rfl
 have g1:=hf 1 f1 rfl
 have g2:=hf 2 f2 rfl
 have g3:=hf 3 f3 rfl
 rw[o0,c0]at g0;rw[o1,c1]at g1;rw[o2,c2]at g2;rw[o3,c3]at g3
 have hx:xs.length=4:=by simpa using hlen
 obtain⟨x0,h0⟩: ∃ y,xs[0]? =some y:=⟨_,ah (by omega)⟩
 obtain⟨x1,h1⟩: ∃ y,xs[1]? =some y:=⟨_,ah (by omega)⟩
 obtain⟨x2,h2⟩: ∃ y,xs[2]? =some y:=⟨_,ah (by omega)⟩
 obtain⟨x3,h3⟩: ∃ y,xs[3]? =some y:=⟨_,ah (by omega)⟩
 rw[h0]at g0;rw[h1]at g1;rw[h2]at g2;rw[h3]at g3
 obtain⟨n0,e0,_,w0⟩:=DataW.trod_int (wx i0) g0
 obtain⟨n1,e1,_,w1⟩:=DataW.trod_int (wx i1) g1
 obtain⟨n2,e2,_,w2⟩:=DataW.trod_int (wx i2) g2
 obtain⟨n3,e3,_,w3⟩:=DataW.trod_int (wx i3) g3
 simp at e0 e1 e2 e3
 subst e0 e1 e2 e3
 exact⟨⟨n0,n1,n2,n3⟩,rfl,xp w0,xp w1,xp w2,xp w3⟩
theorem IR {n:Nat} {cs:List Value} {x:DataW H×List MemPlace} (h:DataW.trod enc aa w base sp held n vp cs=some x): ∃ r:Hw,cs=r.cs/\r.ok:=
 Dj Mq Gw KA yk h
theorem Kp {α:Type} {Y:fj α} {T e:TypeId} (hT:aa.underlying T=some (.slice e)) (hce:aa.cellsOf e=Y.sz) (ok:α->Prop) (hel: ∀ n cs x,DataW.trod enc aa w base sp held n e cs=some x-> ∃ r:α,cs=Y.f r/\ok r)
  {A:Option Addr} {l c:Nat} {d:DataW H} {ps:List MemPlace} (h:DataW.Trod enc aa w base sp held T (.slice A l c) d ps):
  ∃ rs:List α,rs.length=l/\l<=c/\c<=maxLen/\Rd Y 0 w.heap.size A rs w/\ ∀ r∈rs,ok r:=by
 obtain⟨fuel,hf⟩:=h
 rcases Go.Deep.open_slice hT hf with⟨hcs,_⟩|⟨a,len,cap,m,n,D,Pl,hcs,_,hl,hm,hmm,_,hx⟩
 simp[Value.cells]at hcs
 obtain⟨rfl,rfl,rfl⟩:=hcs
 exact⟨[],rfl,ao _,bA _,Rd.nil,by simp⟩
 simp[Value.cells]at hcs
 obtain⟨rfl,rfl,rfl⟩:=hcs
 have hlm:l<=m:=by rw[hmm];split<;>omega
 have each: ∀ i,i<l-> ∃ r:α,ok r/\ ∀ j u,(Y.f r)[j]? =some u->w.cell? ((a.add (i*Y.sz)).add j)=some u:=by
  intro i hi
  obtain⟨cs',h1,h2⟩:=hx i (by omega)
  obtain⟨r,hr,hok⟩:=hel _ _ _ h2
  rw[hce]at h1
  obtain⟨_,hlen,hcell⟩:=World.cells?_some h1
  refine⟨r,hok,fun j u hj=> ?_⟩
  have hjl:j<Y.sz:=by
   have:=(az.1 hj).1
   rwa[Y.len]at this
  rw[hcell j hjl,hr,hj]
 have build: ∀ k,k<=l-> ∃ rs:List α,rs.length=k/\(∀ r∈rs,ok r)/\ ∀ i r,rs[i]? =some r-> ∀ j u,(Y.f r)[j]? =some u->w.cell? ((a.add (i*Y.sz)).add j)=some u:=by
  intro k
  induction k with
  |zero=>intro _;exact⟨[],rfl,by simp,by simp⟩
  |succ k ih=>
   intro hk
   obtain⟨rs,h1,h2,h3⟩:=ih (by omega)
   obtain⟨r,hok,hr⟩:=each k (by omega)
   refine⟨rs++[r],by simp[h1],?_,?_⟩
   intro q hq
   rcases ar.1 hq with hq|hq
   exact h2 q hq
   rw[aq.1 hq];exact hok
   intro i q hq
   by_cases hi:i<rs.length
   rw[cn hi]at hq;exact h3 i q hq
   rw[cw (by omega)]at hq
   have:i=k:=by
    have:=(az.1 hq).1
    simp at this;omega
   subst this
   rw[<-h1]at hq hr⊢
   simp at hq
   rw[<-hq];exact hr
 obtain⟨rs,h1,h2,h3⟩:=build l (ao _)
 refine⟨rs,h1,hl,hm,fun h0=> ?_,h2⟩
 obtain⟨r0,hr0e⟩: ∃ r,rs[0]? =some r:=⟨_,ah h0⟩
 have hpos:0<(Y.f r0).length:=by rw[Y.len];exact Y.pos
 obtain⟨u0,hu0⟩: ∃ u,(Y.f r0)[0]? =some u:=⟨_,ah hpos⟩
 have hc0:=h3 0 r0 hr0e 0 u0 hu0
 have hz:(a.add (0*Y.sz)).add 0=a:=by simp[Addr.add]
 rw[hz]at hc0
 have hs:=World.cell?_spot hc0
 obtain⟨b,o,s⟩:=a
 simp only at hs
 subst hs
 refine⟨b,o,rfl,bA _,?_,fun j u hj=> ?_⟩
 unfold World.cell? at hc0
 split at hc0
 rename_i hb;exact ce hb
 cases hc0
 have hjl:j<rs.length*Y.sz:=by
  have:=(az.1 hj).1
  rwa[fj.length]at this
 have hq:j/Y.sz<rs.length:=by rw[Nat.div_lt_iff_lt_mul Y.pos];exact hjl
 have hm2:j%Y.sz<Y.sz:=jC _ Y.pos
 have hdm:j/Y.sz*Y.sz+j%Y.sz=j:=Nat.div_add_mod' j Y.sz
 have hg:=fj.get (Y:=Y) hq hm2
 rw[hdm,hj]at hg
 have:=h3 (j/Y.sz) _ (ah hq) (j%Y.sz) u hg.symm
 rw[Addr.add_lit,Addr.add_lit,kX,hdm]at this
 exact this
end
end
section
open Go.ChangeShapes Go.WideShapes Go.ChangeAt Go.RowKit
theorem J4 (r:List Char):wordsSigns (' '::r)=[]::wordsSigns r:=by rw[wordsSigns]
theorem J5 (c:Char) (hc:c≠' ') (l w:List Char) (ws:List (List Char)) (h:wordsSigns l=w::ws):wordsSigns (c::l)=(c::w)::ws:=by
 rw[wordsSigns,h]
 exact hc
theorem r7: ∀ (a r:List Char),(∀ c∈a,c≠' ')->wordsSigns (a++' '::r)=a::wordsSigns r
 |[],r,_=>J4 r
 |c::a,r,h=>J5 c (h c (aA ..)) _ _ _ (r7 a r fun x hx=>h x (ak _ hx))
def wG:List Char:=['a','t',' ','t','a','i','l','r','a','c','e','/','t','a','i','l','r','a','c','e','t','o','p','.','T','o','p','K','e','p','t',' ','t','a','i','l','r','a','c','e','/','t','a','i','l','r','a','c','e','t','o','p','.','T','o','p','T','w','i','c','e',' ','t','a','i','l','r','a','c','e','/','t','a','i','l','r','a','c','e','t','o','p','.','T','o','p','L','a','t','e','r',' ','t','a','i','l','r','a','c','e','/','t','a','i','l','r','a','c','e','k','e','e','p','.','W','o','r','l','d','G','o','o','d',' ','t','a','i','l','r','a','c','e','/','t','a','i','l','r','a','c','e','k','e','e','p','.','L','o','g','s','O','n','c','e',' ','t','a','i','l','r','a','c','e','/','t','a','i','l','r','a','c','e','k','e','e','p','.','A','g','a','i','n','S','a','m','e']
def HU:List Char:=['e','6','a','a','d','7','b','0','2','3','5','2','c','b','a','b','7','0','5','d','6','f','f','1','1','e','2','f','7','d','a','d','1','1','d','2','8','6','0','3','5','a','9','8','1','d','4','3','d','b','e','b','0','7','6','5','4','2','a','9','c','d','6','c']
theorem Nd:Tryz.checked.prog.initOrder=String.ofList (['h','a','r','n','e','s','s']++' '::(HU++' '::(['c','u','t']++' '::wG))):=by kernel_rfl
theorem sx:behindMainWord (wordsSigns Tryz.checked.prog.initOrder.toList)=['c','u','t']::wordsSigns wG:=by
 rw[Nd,String.toList_ofList,r7 _ _ (by decide),r7 _ _ (by decide+kernel),r7 _ _ (by decide)]
 have hs:isSumSigns HU=true:=by decide+kernel
 simp[behindMainWord,hs]
theorem PH: "gc".toList=['g','c']:=by simp
theorem NX: "spec".toList=['s','p','e','c']:=by simp
theorem NA: "cut".toList=['c','u','t']:=by simp
theorem M0 {P:Program} {c:List Char} {r:List (List Char)} (h:behindMainWord (wordsSigns P.initOrder.toList)=c::r) (hg:(c== "gc".toList||c== "spec".toList)=false) (hc:(c== "cut".toList||(c== "finals".toList&&r.head? ==some "cut".toList))=true):P.make=some .cut:=by
 unfold Program.make
 rw[h]
 simp only[hg,hc]
 rfl
theorem OA:(['c','u','t']== "gc".toList||['c','u','t']== "spec".toList)=false:=by rw[PH,NX];decide
theorem Pg (r:List (List Char)):(['c','u','t']== "cut".toList||(['c','u','t']== "finals".toList&&r.head? ==some "cut".toList))=true:=by rw[NA];rfl
theorem Cj (ws:List (List Char)):stripLifts liftWords (['c','u','t']::ws)=([],['c','u','t']::ws):=by
 simp[stripLifts,liftWords]
theorem LG {P:Program} {c:List Char} {r:List (List Char)} (h:behindMainWord (wordsSigns P.initOrder.toList)=c::r) (hs:stripLifts liftWords (c::r)=([],c::r)) (hc:(c== "cut".toList)=true) (hl:P.laysLater=false) (hb:P.bearsReflect=false) (hd:P.doorFits []=true):P.mayEnter=true:=by
 have e:((c::r).head? ==some "cut".toList)=true:=by
  rw[eq_of_beq hc];simp
 unfold Program.mayEnter
 rw[h]
 simp only[hs,hl,hb,hd,e]
 simp
theorem Np:(['c','u','t']== "cut".toList)=true:=by rw[NA];rfl
theorem G3:Tryz.checked.prog.headLifts=[]:=by
 unfold Program.headLifts
 rw[sx]
 generalize wordsSigns wG=ws
 simp[Cj]
theorem Fg:Tryz.checked.prog.liftsFinal=false:=by
 unfold Program.liftsFinal
 rw[sx,G3]
 generalize wordsSigns wG=ws
 simp
theorem KZ:Tryz.checked.prog.make=some .cut:=M0 sx OA (Pg _)
theorem GS:Tryz.checked.prog.laysLater=false:=by kernel_rfl
theorem B4:Tryz.checked.prog.bearsReflect=false:=by kernel_rfl
theorem Jv:Tryz.checked.prog.doorFits []=true:=by kernel_rfl
theorem I5:Tryz.checked.prog.mayEnter=true:=LG sx (Cj _) Np GS B4 Jv
theorem GE:ownKnob aa.godebug=none:=by kernel_rfl
theorem za:laidOutB Tryz.checked.prog=true:=by kernel_rfl
theorem GO:mapsRowed Tryz.checked.prog=true:=by kernel_rfl
theorem KS:(Tryz.checked.prog.stops==[])=true:=by kernel_rfl
theorem KT:(Tryz.checked.prog.stopKnobs==[])=true:=by kernel_rfl
theorem Gz:Tryz.checked.prog.plainKeys=false:=by kernel_rfl
theorem ED:Tryz.checked.prog.stopsHeard=true:=by kernel_rfl
end
theorem HZ {e:cH} (h:ql e):(iB e).length<=64:=by
 have:=(uC h).1
 rw[AI];omega
theorem DW: ∀ (es:List cH),(∀ e∈es,ql e)->(bd es).length<=64*es.length
 |[],_=>by simp[bd]
 |e::es,h=>by
  have h1:=HZ (h e (aA ..))
  have h2:=DW es fun x hx=>h x (ak _ hx)
  have:bd (e::es)=iB e++bd es:=by simp[bd]
  rw[this];simp;omega
theorem tW (es:List cH) (h: ∀ e∈es,ql e):Iq (bd es) es (bd es).length:=by
 have:=Ia es [] h Z
 rwa[aY]at this
theorem cD {α:Type} {l:List α} {k:Nat} {e:α} (h:l[k]? =some e): ∃ hk:k<l.length,l[k]=e:=az.1 h
theorem tS {es:List cH} {k:Nat} {e:cH} (h:es[k]? =some e):bd (es.take (k+1))=bd (es.take k)++iB e:=by
 obtain⟨hk,rfl⟩:=cD h
 exact Jm hk
structure Prod where
 ver:Int
 seq:Int
 open_:Int
 mark:Int
def Prod.c (p:Prod):List Value:=[J p.ver,J p.seq,J p.open_,J p.mark]
def p0:Prod:=⟨0,-1,-1,-1⟩
abbrev In:TypeId:=188
theorem rE:Fb aa In cW F4=true:=by kernel_rfl
def pv (e:cH) (p:Prod):Prod:=if e.ver≠p.ver then⟨e.ver,-1,p.open_,p.mark⟩else p
def ff (i:Nat) (e:cH) (p:Prod):Prod:=
 if e.kind≠1 then⟨(pv e p).ver,(pv e p).seq,-1,i⟩
 else if e.txn=true/\(pv e p).open_<0 then⟨(pv e p).ver,e.seq,i,(pv e p).mark⟩
 else⟨(pv e p).ver,e.seq,(pv e p).open_,(pv e p).mark⟩
def g8 (es:List cH) (pid:Int):Option Prod:=
 es.zipIdx.foldl (fun a q=>if q.1.pid≠0/\q.1.pid=pid then some (ff q.2 q.1 (a.getD p0))else a) none
theorem IT (pid:Int):g8 [] pid=none:=rfl
theorem si (es:List cH) (e:cH) (pid:Int):g8 (es++[e]) pid=if e.pid≠0/\e.pid=pid then some (ff es.length e ((g8 es pid).getD p0))else g8 es pid:=by
 unfold g8
 rw[List.zipIdx_append,List.foldl_append]
 simp
theorem eL {α:Type} {l:List α} {k:Nat} {e:α} (h:l[k]? =some e):l.take (k+1)=l.take k++[e]:=by
 obtain⟨hk,rfl⟩:=cD h
 exact CY hk
theorem zJ {es:List cH} {k:Nat} {e:cH} (h:es[k]? =some e) (pid:Int):g8 (es.take (k+1)) pid=if e.pid≠0/\e.pid=pid then some (ff k e ((g8 (es.take k) pid).getD p0))else g8 (es.take k) pid:=by
 obtain⟨hk,-⟩:=cD h
 rw[eL h,si,aH,br I]
abbrev PB:=Int×Nat×Prod
abbrev Bs (b:Nat):Value:=.pointer (Qd b)
def qR (S:List PB):List (Int×Value):=S.map fun q=>(q.1,Bs q.2.1)
def xx (q:PB):Nat×Obj:=(q.2.1,.cells q.2.2.c.toArray lI (0,0))
def ju (bm:Nat) (S:List PB):List (Nat×Obj):=(bm,tA (qR S))::S.map xx
def uE (S:List PB) (pid:Int):Option Prod:=(S.find? (fun q=>decide (q.1=pid))).map (·.2.2)
theorem uk (S:List PB):(qR S).map (·.1)=S.map (·.1):=by simp[qR]
theorem ET {S:List PB} {j:Nat} {pid:Int} {b:Nat} {p:Prod} (h:S[j]? =some (pid,b,p)):(qR S)[j]? =some (pid,Bs b):=by simp[qR,h]
theorem gj {S:List PB} {j:Nat} {pid:Int} {b:Nat} {p p':Prod} (h:S[j]? =some (pid,b,p)):qR (S.set j (pid,b,p'))=qR S:=by
 unfold qR
 apply eJ
 intro i
 rw[aM,aM,lu]
 split
 rename_i hij;subst hij
 obtain⟨hlt,hg⟩:=cD h
 simp[hlt,hg]
 rfl
theorem Ld {S:List PB} {j:Nat} {pid:Int} {b:Nat} {p p':Prod} (h:S[j]? =some (pid,b,p)):(S.set j (pid,b,p')).map (·.1)=S.map (·.1):=by
 rw[<-uk,gj h,uk]
theorem E3 {S:List PB} {j:Nat} {q:PB} (h:S[j]? =some q):(xx q::(S.eraseIdx j).map xx).Perm (S.map xx):=by
 obtain⟨hlt,rfl⟩:=cD h
 have:=Go.ChangeMaps.set_perm S j hlt S[j]
 rw[List.set_getElem_self]at this
 exact(this.map xx).symm
theorem jb {S:List PB} {j:Nat} {q q':PB} (h:S[j]? =some q):((S.set j q').map xx).Perm (xx q'::(S.eraseIdx j).map xx):=by
 obtain⟨hlt,-⟩:=cD h
 exact(Go.ChangeMaps.set_perm S j hlt q').map xx
theorem Cy {S:List PB} {pid:Int} (h: ∀ q∈S,q.1≠pid):uE S pid=none:=by
 unfold uE
 rw[Bm.2 (fun q hq=>by simpa using h q hq)];rfl
theorem ur {S:List PB} (hn:(S.map (·.1)).Nodup) {j:Nat} {pid:Int} {b:Nat} {p:Prod} (h:S[j]? =some (pid,b,p)):uE S pid=some p:=by
 unfold uE
 induction S generalizing j with
 |nil=>simp at h
 |cons q r ih=>
  simp only[eI,kN]at hn
  cases j with
  |zero=>simp at h;subst h;simp
  |succ j=>
   simp only[oG]at h
   have hne: ¬ q.1=pid:=fun e=>hn.1 (bv.2 ⟨_,ae h,e.symm⟩)
   rw[pd (by simpa using hne)]
   exact ih hn.2 h
theorem z0 (S:List PB) (pid:Int):(∀ q∈S,q.1≠pid)∨ ∃ (j b:Nat) (p:Prod),S[j]? =some (pid,b,p):=by
 by_cases h: ∃ q∈S,q.1=pid
 obtain⟨⟨a,b,p⟩,hq,rfl⟩:=h
 obtain⟨j,hj⟩:=aK.1 hq
 exact .inr ⟨j,b,p,hj⟩
 exact .inl fun q hq e=>h ⟨q,hq,e⟩
theorem K5 (S:List PB) (q:PB) {pid:Int} (h:q.1≠pid):uE (S++[q]) pid=uE S pid:=by
 unfold uE
 rw[List.find?_append,pd (by simpa using h)]
 simp
theorem K4 {S:List PB} {j:Nat} {k:Int} {b:Nat} {p p':Prod} (h:S[j]? =some (k,b,p)) {pid:Int} (hp:k≠pid):uE (S.set j (k,b,p')) pid=uE S pid:=by
 unfold uE
 induction S generalizing j with
 |nil=>simp at h
 |cons q r ih=>
  cases j with
  |zero=>
   simp at h;subst h
   simp only[Bj]
   rw[pd (by simpa using hp),pd (by simpa using hp)]
  |succ j=>
   simp only[oG]at h
   simp only[List.set_cons_succ,List.find?_cons]
   split
   rfl
   exact ih h
def PS (S:List PB) (es:List cH):Prop:=(S.map (·.1)).Nodup/\ ∀ pid,uE S pid=g8 es pid
theorem MH {S:List PB} {es:List cH} {k:Nat} {e:cH} (h:es[k]? =some e) (h0:e.pid=0) (hs:PS S (es.take k)):PS S (es.take (k+1)):=
 ⟨hs.1,fun pid=>by rw[zJ h,if_neg (fun x=>x.1 h0)];exact hs.2 pid⟩
theorem kR {S:List PB} {es:List cH} {k j:Nat} {e:cH} {b:Nat} {p:Prod} (h:es[k]? =some e) (h0:e.pid≠0) (hn:(S.map (·.1)).Nodup) (hj:S[j]? =some (e.pid,b,p)) (hp:p=(g8 (es.take k) e.pid).getD p0) (ho: ∀ pid,pid≠e.pid->uE S pid=g8 (es.take k) pid) {p':Prod} (hp':p'=ff k e p):
  PS (S.set j (e.pid,b,p')) (es.take (k+1)):=by
 have hn':((S.set j (e.pid,b,p')).map (·.1)).Nodup:=by rw[Ld hj];exact hn
 refine⟨hn',fun pid=> ?_⟩
 rw[zJ h]
 by_cases hpid:e.pid=pid
 subst hpid
 obtain⟨hlt,-⟩:=cD hj
 rw[if_pos ⟨h0,rfl⟩,ur hn' (am hlt),hp',<-hp]
 rw[if_neg (fun x=>hpid x.2),K4 hj hpid]
 exact ho pid (Ne.symm hpid)
theorem Cq (es:List cH) (A:Option Addr) (c:Nat) (w:World) (hr:Rd gz 0 w.heap.size A es w) (hb:es.length<=1000000):
  dd aa BA [.slice A es.length c] w fun v w2=> ∃ S bm,v=.map (some bm)/\PS S es/\Hp w w2 (ju bm S) []:=by
 refine aE Av Z Z ?_
 have H:=Hp.startRd hr
 refine W<|Zr<|G (Ie Z)<|U<|W<|Zr<|QB H Z fun w1 bm H=>G (Ie Z)<|U<|W<|W<|Zr<|G (Ys Z)<|G (bn eh Z)<|G (Yi Z)<|U<|Zb ?_
 refine cf (τ:=Nat×List PB) [4,5,6,10,11,12,13,14,15,16,17,18,19,20,21,22,23,24,25,26,27,28,29,30,31,32,33,34,35,36,37,38,39,40,41,42,43,44,45,46,47,48,49,50,51,52,53,54,55,56,57,58,59,60,61,62,63,64,65,66,67,68,69,70,71,72,73,74] (fun(k,S)=>[(10,J (k:Nat))]) (fun(k,S) w'=>k<=es.length/\PS S (es.take k)/\Hp w w' (ju bm S) [dG gz 0 w.heap.size A es]) (fun(k,_)=>es.length-k) (0,[]) ⟨by omega,⟨List.nodup_nil,fun pid=>rfl⟩,H⟩ (dF Z) ?_
 rintro⟨k,S⟩ ρ1 w2 ⟨hk,hS,H⟩
 show CW _ _ _ _ (dv (gk _ _ ρ1) [(10,J (k:Nat))]) w2
 refine W<|Zr ?_
 refine cR (cG Z Z) Z Z Z (fun h11=> ?_) (fun h11=> ?_)
 ·
  refine U<|W<|ZT Z<|Zk<|W<|Zb<|W<|Zr<|G (Yi Z)<|pK H 0 Z dN Z Z I I Z fun b3 o3 x3 e3=>G (jd (xs:=cH.c x3) dB Z Z e3.cl)<|eC H fU Z fun w4 b5 H=>G (Wi Z)<|Kk H 0 eM Z Z Z Z Z Z fun w5 H=>U<|W<|W<|Zr<|G (Zf eS Z)<|G (Zd aj H 0 Z Z Z) ?_
  refine cR (bh Z Z) Z Z Z (fun h17=> ?_) (fun h17=> ?_)
  ·
   refine U<|ZT Z<|Zx<|Zr<|G (bp Z Z I I)<|G (Yi Z)<|U ?_
   refine⟨(k+1,S),⟨by have:=(cD e3.at_).1;omega,MH e3.at_ h17 hS,H.forget (aX _ _) (fun _ h=>h)⟩,dF Z,Qg,by show es.length- (k+1)<es.length-k;omega⟩
  ·
   refine U<|ZF Z<|Zk<|W<|Zr<|G (Cu Z)<|G (Zf eS Z)<|G (Zd aj H 0 Z Z Z) ?_
   rcases z0 S x3.pid with hno|⟨j,b,p,hj⟩
   ·
    refine G (NJ rE qy Z Z (H.ent (i:=1) Z) (by intro q hq;obtain⟨a,ha,rfl⟩:=bv.1 hq;exact hno a ha))<|G (Wp Z)<|U<|W ?_
    refine eu (τ:=List PB×Nat×Nat×Prod) [6,22,23,24,25,26,27,28,29] (fun(S1,j,b,p)=>[(6,Bs b)]) (fun(S1,j,b,p) w'=>(S1.map (·.1)).Nodup/\S1[j]? =some (x3.pid,b,p)/\p=(g8 (es.take k) x3.pid).getD p0/\(∀ pid,pid≠x3.pid->uE S1 pid=g8 (es.take k) pid)/\Hp w w' ((b,.cells p.c.toArray lI (0,0))::(b5,.cells (cH.c x3).toArray dh (0,0))::(bm,tA (qR S1))::(S1.eraseIdx j).map xx) [dG gz 0 w.heap.size A es]) ?_ ?_
    ·skip
     refine W<|Zr<|G (Yp Z)<|G (xw nO Z)<|U<|ZT Z<|W<|Zr<|G (bj (cs:=(Prod.c p0).toArray) yf zm N)<|fS H Z Z fun w6 b25 H=>G (Wp Z)<|U<|Zr<|G (Cu Z)<|G (Zf eS Z)<|G (Zd aj H 1 Z Z Z)<|G (Yp Z)<|Qz H 2 rE Z Z Z Z (by intro q hq;obtain⟨a,ha,rfl⟩:=bv.1 hq;exact hno a ha) fun w7 H=>U ?_
     have hj:(S++[(x3.pid,b25,p0)])[S.length]? =some (x3.pid,b25,p0):=by simp
     have hkn:uE S x3.pid=none:=Cy hno
     rw[hS.2]at hkn
     refine⟨(S++[(x3.pid,b25,p0)],S.length,b25,p0),⟨?_,hj,by rw[hkn];rfl,fun pid hpid=>by rw[K5 _ _ (Ne.symm hpid)];exact hS.2 pid,?_⟩,dF Z,Qg⟩
     ·rw[bk];exact oZ.2 ⟨hS.1,by simp,by intro a ha c hc;simp at hc;subst hc;obtain⟨q,hq,rfl⟩:=bv.1 ha;exact hno q hq⟩
     ·have hmm:qR (S++[(x3.pid,b25,p0)])=qR S++[(x3.pid,Bs b25)]:=by simp[qR]
      have hee:(S++[(x3.pid,b25,p0)]).eraseIdx S.length=S:=by rw[List.eraseIdx_append_of_length_le (ao _)];simp
      rw[hmm,hee];exact H
    rintro⟨S1,j,b,p⟩ ρ2 w8 ⟨hn,hj,hp,ho,H⟩
    show CW _ _ _ _ (dv (gk _ _ ρ2) [(6,Bs b)]) w8
    refine W<|W ?_
    refine bD bZ [0,1,2,3,4,5,6] [] [] [0,2,3,4,6] (sp []) N N N N Nq (cI _) ?_
    refine aw Z Z Z Z Z (fun w' hw'=>Zf ei Z)<|aw Z Z Z Z Z (fun w' hw'=>aV aj Z (aB ((H.later hw').ent (i:=1) Z) Z))<|aw Z Z Z Z Z (fun w' hw'=>Yp Z)<|aw Z Z Z Z Z (fun w' hw'=>aI Z)<|aw Z Z Z Z Z (fun w' hw'=>Zf jN Z)<|aw Z Z Z Z Z (fun w' hw'=>aV aj Z (aB ((H.later hw').ent (i:=0) Z) Z)) ?_
    refine OG Z Z Z Z Z (fun w' hw'=>i6 Z Z) (fun h36=> ?_) (fun h36=> ?_)
    ·
     refine aU ?_
     intro w9 hw' hF
     replace H:=H.later hw';clear hw' hF
     refine U<|ZT Z<|Zr<|G (Yp Z)<|G (Yp Z)<|G (Zf ei Z)<|G (Zd aj H 1 Z Z Z)<|G (aI Z)<|G (Zf jN Z)<|bl H 0 ((Prod.c ⟨x3.ver,p.seq,p.open_,p.mark⟩).toArray) bI Z Z Z Z Z N N fun w10 H=>G (aI Z)<|G (Zf fl Z)<|bl H 0 ((Prod.c ⟨x3.ver,-1,p.open_,p.mark⟩).toArray) bI Z Z Z Z Z N N fun w11 H=>U<|Zb<|W<|Zr<|G (Zf eB Z)<|G (Zd aj H 1 Z Z Z) ?_
     refine qU (i6 Z Z) Z Z Z (fun h66=> ?_) (fun h66=> ?_)
     ·
      refine G (Wb Z)<|U<|ZT Z<|Zr<|G (Yp Z)<|G (Yp Z)<|G (Yi Z)<|G (aI Z)<|G (Zf dY Z)<|bl H 0 ((Prod.c ⟨x3.ver,-1,-1,p.mark⟩).toArray) bI Z Z Z Z Z N N fun w12 H=>G (aI Z)<|G (Zf hN Z)<|bl H 0 ((Prod.c ⟨x3.ver,-1,-1,k⟩).toArray) bI Z Z Z Z Z N N fun w13 H=>U<|Zr<|G (bp Z Z I I)<|G (Yi Z)<|U ?_
      have hst:(⟨x3.ver,-1,-1,k⟩:Prod)=ff k x3 p:=by
       simp[ff,pv,h36,h66]
      have hP:=jb (q':=(x3.pid,b,(⟨x3.ver,-1,-1,k⟩:Prod))) hj
      refine⟨(k+1,S1.set j (x3.pid,b,(⟨x3.ver,-1,-1,k⟩:Prod))),⟨by omega,kR e3.at_ h17 hn hj hp ho hst,(H.perm (L':=(b5,_)::ju bm (S1.set j (x3.pid,b,_))) (by unfold ju;rw[gj hj];exact((hP.cons _).cons _).trans (((al _ _ _).cons _).trans (al _ _ _)))).forget (aX _ _) (fun _ h=>h)⟩,dF Z,Qg,by show es.length- (k+1)<es.length-k;omega⟩
     ·
      refine G (Wb Z)<|U<|ZF Z<|W<|Zr<|G (Yp Z)<|G (Zf eR Z)<|G (Zd aj H 1 Z Z Z)<|G (aI Z)<|G (Zf fl Z)<|bl H 0 ((Prod.c ⟨x3.ver,x3.seq,p.open_,p.mark⟩).toArray) bI Z Z Z Z Z N N fun w14 H=>U<|W<|Zr<|G (Zf iY Z) ?_
      refine wu (aV dR Z (aB (H.ent (i:=1) Z) Z)) Z Z Z (fun h51=> ?_) (fun h51=> ?_)
      ·
       refine G (Yb Z)<|ZG<|G (Yp Z)<|ZG<|G (aI Z)<|ZG<|G (Zf dY Z)<|ZG<|G (Zd aj H 0 Z Z Z)<|ZG ?_
       refine cR (cG Z Z) Z Z Z (fun h57=> ?_) (fun h57=> ?_)
       ·
        refine G (Kt Z Z)<|U<|ZT Z<|Zr<|G (Yp Z)<|G (Yi Z)<|G (aI Z)<|G (Zf dY Z)<|bl H 0 ((Prod.c ⟨x3.ver,x3.seq,k,p.mark⟩).toArray) bI Z Z Z Z Z N N fun w15 H=>U<|Zr<|G (bp Z Z I I)<|G (Yi Z)<|U ?_
        replace h57:p.open_<0:=h57
        have hst:(⟨x3.ver,x3.seq,k,p.mark⟩:Prod)=ff k x3 p:=by
         simp[ff,pv,h36,h66,h51,h57]
        have hP:=jb (q':=(x3.pid,b,(⟨x3.ver,x3.seq,k,p.mark⟩:Prod))) hj
        refine⟨(k+1,S1.set j (x3.pid,b,(⟨x3.ver,x3.seq,k,p.mark⟩:Prod))),⟨by omega,kR e3.at_ h17 hn hj hp ho hst,(H.perm (L':=(b5,_)::ju bm (S1.set j (x3.pid,b,_))) (by unfold ju;rw[gj hj];exact((hP.cons _).cons _).trans (((al _ _ _).cons _).trans (al _ _ _)))).forget (aX _ _) (fun _ h=>h)⟩,dF Z,Qg,by show es.length- (k+1)<es.length-k;omega⟩
       ·
        refine G (Kt Z Z)<|U<|ZF Z<|Zk<|Zr<|G (bp Z Z I I)<|G (Yi Z)<|U ?_
        replace h57: ¬ p.open_<0:=h57
        have hst:(⟨x3.ver,x3.seq,p.open_,p.mark⟩:Prod)=ff k x3 p:=by
         simp[ff,pv,h36,h66,h51,h57]
        have hP:=jb (q':=(x3.pid,b,(⟨x3.ver,x3.seq,p.open_,p.mark⟩:Prod))) hj
        refine⟨(k+1,S1.set j (x3.pid,b,(⟨x3.ver,x3.seq,p.open_,p.mark⟩:Prod))),⟨by omega,kR e3.at_ h17 hn hj hp ho hst,(H.perm (L':=(b5,_)::ju bm (S1.set j (x3.pid,b,_))) (by unfold ju;rw[gj hj];exact((hP.cons _).cons _).trans (((al _ _ _).cons _).trans (al _ _ _)))).forget (aX _ _) (fun _ h=>h)⟩,dF Z,Qg,by show es.length- (k+1)<es.length-k;omega⟩
      ·
       refine G (Yb Z)<|ZN<|ZN<|ZN<|ZN<|ZN<|G (N Z Z)<|U<|ZF Z<|Zk<|Zr<|G (bp Z Z I I)<|G (Yi Z)<|U ?_
       have hst:(⟨x3.ver,x3.seq,p.open_,p.mark⟩:Prod)=ff k x3 p:=by
        simp[ff,pv,h36,h66,h51]
       have hP:=jb (q':=(x3.pid,b,(⟨x3.ver,x3.seq,p.open_,p.mark⟩:Prod))) hj
       refine⟨(k+1,S1.set j (x3.pid,b,(⟨x3.ver,x3.seq,p.open_,p.mark⟩:Prod))),⟨by omega,kR e3.at_ h17 hn hj hp ho hst,(H.perm (L':=(b5,_)::ju bm (S1.set j (x3.pid,b,_))) (by unfold ju;rw[gj hj];exact((hP.cons _).cons _).trans (((al _ _ _).cons _).trans (al _ _ _)))).forget (aX _ _) (fun _ h=>h)⟩,dF Z,Qg,by show es.length- (k+1)<es.length-k;omega⟩
    ·
     refine aU ?_
     intro w16 hw' hF
     replace H:=H.later hw';clear hw' hF
     refine U<|ZF Z<|Zk<|Zb<|W<|Zr<|G (Zf eB Z)<|G (Zd aj H 1 Z Z Z) ?_
     refine qU (i6 Z Z) Z Z Z (fun h66=> ?_) (fun h66=> ?_)
     ·
      refine G (Wb Z)<|U<|ZT Z<|Zr<|G (Yp Z)<|G (Yp Z)<|G (Yi Z)<|G (aI Z)<|G (Zf dY Z)<|bl H 0 ((Prod.c ⟨p.ver,p.seq,-1,p.mark⟩).toArray) bI Z Z Z Z Z N N fun w17 H=>G (aI Z)<|G (Zf hN Z)<|bl H 0 ((Prod.c ⟨p.ver,p.seq,-1,k⟩).toArray) bI Z Z Z Z Z N N fun w18 H=>U<|Zr<|G (bp Z Z I I)<|G (Yi Z)<|U ?_
      have hst:(⟨p.ver,p.seq,-1,k⟩:Prod)=ff k x3 p:=by
       simp[ff,pv,h36,h66]
      have hP:=jb (q':=(x3.pid,b,(⟨p.ver,p.seq,-1,k⟩:Prod))) hj
      refine⟨(k+1,S1.set j (x3.pid,b,(⟨p.ver,p.seq,-1,k⟩:Prod))),⟨by omega,kR e3.at_ h17 hn hj hp ho hst,(H.perm (L':=(b5,_)::ju bm (S1.set j (x3.pid,b,_))) (by unfold ju;rw[gj hj];exact((hP.cons _).cons _).trans (((al _ _ _).cons _).trans (al _ _ _)))).forget (aX _ _) (fun _ h=>h)⟩,dF Z,Qg,by show es.length- (k+1)<es.length-k;omega⟩
     ·
      refine G (Wb Z)<|U<|ZF Z<|W<|Zr<|G (Yp Z)<|G (Zf eR Z)<|G (Zd aj H 1 Z Z Z)<|G (aI Z)<|G (Zf fl Z)<|bl H 0 ((Prod.c ⟨p.ver,x3.seq,p.open_,p.mark⟩).toArray) bI Z Z Z Z Z N N fun w19 H=>U<|W<|Zr<|G (Zf iY Z) ?_
      refine wu (aV dR Z (aB (H.ent (i:=1) Z) Z)) Z Z Z (fun h51=> ?_) (fun h51=> ?_)
      ·
       refine G (Yb Z)<|ZG<|G (Yp Z)<|ZG<|G (aI Z)<|ZG<|G (Zf dY Z)<|ZG<|G (Zd aj H 0 Z Z Z)<|ZG ?_
       refine cR (cG Z Z) Z Z Z (fun h57=> ?_) (fun h57=> ?_)
       ·
        refine G (Kt Z Z)<|U<|ZT Z<|Zr<|G (Yp Z)<|G (Yi Z)<|G (aI Z)<|G (Zf dY Z)<|bl H 0 ((Prod.c ⟨p.ver,x3.seq,k,p.mark⟩).toArray) bI Z Z Z Z Z N N fun w20 H=>U<|Zr<|G (bp Z Z I I)<|G (Yi Z)<|U ?_
        replace h57:p.open_<0:=h57
        have hst:(⟨p.ver,x3.seq,k,p.mark⟩:Prod)=ff k x3 p:=by
         simp[ff,pv,h36,h66,h51,h57]
        have hP:=jb (q':=(x3.pid,b,(⟨p.ver,x3.seq,k,p.mark⟩:Prod))) hj
        refine⟨(k+1,S1.set j (x3.pid,b,(⟨p.ver,x3.seq,k,p.mark⟩:Prod))),⟨by omega,kR e3.at_ h17 hn hj hp ho hst,(H.perm (L':=(b5,_)::ju bm (S1.set j (x3.pid,b,_))) (by unfold ju;rw[gj hj];exact((hP.cons _).cons _).trans (((al _ _ _).cons _).trans (al _ _ _)))).forget (aX _ _) (fun _ h=>h)⟩,dF Z,Qg,by show es.length- (k+1)<es.length-k;omega⟩
       ·
        refine G (Kt Z Z)<|U<|ZF Z<|Zk<|Zr<|G (bp Z Z I I)<|G (Yi Z)<|U ?_
        replace h57: ¬ p.open_<0:=h57
        have hst:(⟨p.ver,x3.seq,p.open_,p.mark⟩:Prod)=ff k x3 p:=by
         simp[ff,pv,h36,h66,h51,h57]
        have hP:=jb (q':=(x3.pid,b,(⟨p.ver,x3.seq,p.open_,p.mark⟩:Prod))) hj
        refine⟨(k+1,S1.set j (x3.pid,b,(⟨p.ver,x3.seq,p.open_,p.mark⟩:Prod))),⟨by omega,kR e3.at_ h17 hn hj hp ho hst,(H.perm (L':=(b5,_)::ju bm (S1.set j (x3.pid,b,_))) (by unfold ju;rw[gj hj];exact((hP.cons _).cons _).trans (((al _ _ _).cons _).trans (al _ _ _)))).forget (aX _ _) (fun _ h=>h)⟩,dF Z,Qg,by show es.length- (k+1)<es.length-k;omega⟩
      ·
       refine G (Yb Z)<|ZN<|ZN<|ZN<|ZN<|ZN<|G (N Z Z)<|U<|ZF Z<|Zk<|Zr<|G (bp Z Z I I)<|G (Yi Z)<|U ?_
       have hst:(⟨p.ver,x3.seq,p.open_,p.mark⟩:Prod)=ff k x3 p:=by
        simp[ff,pv,h36,h66,h51]
       have hP:=jb (q':=(x3.pid,b,(⟨p.ver,x3.seq,p.open_,p.mark⟩:Prod))) hj
       refine⟨(k+1,S1.set j (x3.pid,b,(⟨p.ver,x3.seq,p.open_,p.mark⟩:Prod))),⟨by omega,kR e3.at_ h17 hn hj hp ho hst,(H.perm (L':=(b5,_)::ju bm (S1.set j (x3.pid,b,_))) (by unfold ju;rw[gj hj];exact((hP.cons _).cons _).trans (((al _ _ _).cons _).trans (al _ _ _)))).forget (aX _ _) (fun _ h=>h)⟩,dF Z,Qg,by show es.length- (k+1)<es.length-k;omega⟩
   ·
    refine G (NI rE qy Z Z (H.ent (i:=1) Z) (by rw[uk];exact hS.1) (ET hj))<|G (Wp Z)<|U<|W ?_
    refine eu (τ:=List PB×Nat×Nat×Prod) [6,22,23,24,25,26,27,28,29] (fun(S1,j,b,p)=>[(6,Bs b)]) (fun(S1,j,b,p) w'=>(S1.map (·.1)).Nodup/\S1[j]? =some (x3.pid,b,p)/\p=(g8 (es.take k) x3.pid).getD p0/\(∀ pid,pid≠x3.pid->uE S1 pid=g8 (es.take k) pid)/\Hp w w' ((b,.cells p.c.toArray lI (0,0))::(b5,.cells (cH.c x3).toArray dh (0,0))::(bm,tA (qR S1))::(S1.eraseIdx j).map xx) [dG gz 0 w.heap.size A es]) ?_ ?_
    ·skip
     refine W<|Zr<|G (Yp Z)<|G (vD nO Z)<|U<|ZF Z<|Zk ?_
     refine⟨(S,j,b,p),⟨hS.1,hj,by rw[<-hS.2,ur hS.1 hj];rfl,fun pid _=>hS.2 pid,H.perm ?_⟩,dF Z,Qg⟩
     have hP:=E3 hj
     exact((al _ _ _).trans ((al _ _ _).cons _)).trans ((hP.cons _).cons _)
    rintro⟨S1,j,b,p⟩ ρ2 w21 ⟨hn,hj,hp,ho,H⟩
    show CW _ _ _ _ (dv (gk _ _ ρ2) [(6,Bs b)]) w21
    refine W<|W ?_
    refine bD bZ [0,1,2,3,4,5,6] [] [] [0,2,3,4,6] (sp []) N N N N Nq (cI _) ?_
    refine aw Z Z Z Z Z (fun w' hw'=>Zf ei Z)<|aw Z Z Z Z Z (fun w' hw'=>aV aj Z (aB ((H.later hw').ent (i:=1) Z) Z))<|aw Z Z Z Z Z (fun w' hw'=>Yp Z)<|aw Z Z Z Z Z (fun w' hw'=>aI Z)<|aw Z Z Z Z Z (fun w' hw'=>Zf jN Z)<|aw Z Z Z Z Z (fun w' hw'=>aV aj Z (aB ((H.later hw').ent (i:=0) Z) Z)) ?_
    refine OG Z Z Z Z Z (fun w' hw'=>i6 Z Z) (fun h36=> ?_) (fun h36=> ?_)
    ·
     refine aU ?_
     intro w22 hw' hF
     replace H:=H.later hw';clear hw' hF
     refine U<|ZT Z<|Zr<|G (Yp Z)<|G (Yp Z)<|G (Zf ei Z)<|G (Zd aj H 1 Z Z Z)<|G (aI Z)<|G (Zf jN Z)<|bl H 0 ((Prod.c ⟨x3.ver,p.seq,p.open_,p.mark⟩).toArray) bI Z Z Z Z Z N N fun w23 H=>G (aI Z)<|G (Zf fl Z)<|bl H 0 ((Prod.c ⟨x3.ver,-1,p.open_,p.mark⟩).toArray) bI Z Z Z Z Z N N fun w24 H=>U<|Zb<|W<|Zr<|G (Zf eB Z)<|G (Zd aj H 1 Z Z Z) ?_
     refine qU (i6 Z Z) Z Z Z (fun h66=> ?_) (fun h66=> ?_)
     ·
      refine G (Wb Z)<|U<|ZT Z<|Zr<|G (Yp Z)<|G (Yp Z)<|G (Yi Z)<|G (aI Z)<|G (Zf dY Z)<|bl H 0 ((Prod.c ⟨x3.ver,-1,-1,p.mark⟩).toArray) bI Z Z Z Z Z N N fun w25 H=>G (aI Z)<|G (Zf hN Z)<|bl H 0 ((Prod.c ⟨x3.ver,-1,-1,k⟩).toArray) bI Z Z Z Z Z N N fun w26 H=>U<|Zr<|G (bp Z Z I I)<|G (Yi Z)<|U ?_
      have hst:(⟨x3.ver,-1,-1,k⟩:Prod)=ff k x3 p:=by
       simp[ff,pv,h36,h66]
      have hP:=jb (q':=(x3.pid,b,(⟨x3.ver,-1,-1,k⟩:Prod))) hj
      refine⟨(k+1,S1.set j (x3.pid,b,(⟨x3.ver,-1,-1,k⟩:Prod))),⟨by omega,kR e3.at_ h17 hn hj hp ho hst,(H.perm (L':=(b5,_)::ju bm (S1.set j (x3.pid,b,_))) (by unfold ju;rw[gj hj];exact((hP.cons _).cons _).trans (((al _ _ _).cons _).trans (al _ _ _)))).forget (aX _ _) (fun _ h=>h)⟩,dF Z,Qg,by show es.length- (k+1)<es.length-k;omega⟩
     ·
      refine G (Wb Z)<|U<|ZF Z<|W<|Zr<|G (Yp Z)<|G (Zf eR Z)<|G (Zd aj H 1 Z Z Z)<|G (aI Z)<|G (Zf fl Z)<|bl H 0 ((Prod.c ⟨x3.ver,x3.seq,p.open_,p.mark⟩).toArray) bI Z Z Z Z Z N N fun w27 H=>U<|W<|Zr<|G (Zf iY Z) ?_
      refine wu (aV dR Z (aB (H.ent (i:=1) Z) Z)) Z Z Z (fun h51=> ?_) (fun h51=> ?_)
      ·
       refine G (Yb Z)<|ZG<|G (Yp Z)<|ZG<|G (aI Z)<|ZG<|G (Zf dY Z)<|ZG<|G (Zd aj H 0 Z Z Z)<|ZG ?_
       refine cR (cG Z Z) Z Z Z (fun h57=> ?_) (fun h57=> ?_)
       ·
        refine G (Kt Z Z)<|U<|ZT Z<|Zr<|G (Yp Z)<|G (Yi Z)<|G (aI Z)<|G (Zf dY Z)<|bl H 0 ((Prod.c ⟨x3.ver,x3.seq,k,p.mark⟩).toArray) bI Z Z Z Z Z N N fun w28 H=>U<|Zr<|G (bp Z Z I I)<|G (Yi Z)<|U ?_
        replace h57:p.open_<0:=h57
        have hst:(⟨x3.ver,x3.seq,k,p.mark⟩:Prod)=ff k x3 p:=by
         simp[ff,pv,h36,h66,h51,h57]
        have hP:=jb (q':=(x3.pid,b,(⟨x3.ver,x3.seq,k,p.mark⟩:Prod))) hj
        refine⟨(k+1,S1.set j (x3.pid,b,(⟨x3.ver,x3.seq,k,p.mark⟩:Prod))),⟨by omega,kR e3.at_ h17 hn hj hp ho hst,(H.perm (L':=(b5,_)::ju bm (S1.set j (x3.pid,b,_))) (by unfold ju;rw[gj hj];exact((hP.cons _).cons _).trans (((al _ _ _).cons _).trans (al _ _ _)))).forget (aX _ _) (fun _ h=>h)⟩,dF Z,Qg,by show es.length- (k+1)<es.length-k;omega⟩
       ·
        refine G (Kt Z Z)<|U<|ZF Z<|Zk<|Zr<|G (bp Z Z I I)<|G (Yi Z)<|U ?_
        replace h57: ¬ p.open_<0:=h57
        have hst:(⟨x3.ver,x3.seq,p.open_,p.mark⟩:Prod)=ff k x3 p:=by
         simp[ff,pv,h36,h66,h51,h57]
        have hP:=jb (q':=(x3.pid,b,(⟨x3.ver,x3.seq,p.open_,p.mark⟩:Prod))) hj
        refine⟨(k+1,S1.set j (x3.pid,b,(⟨x3.ver,x3.seq,p.open_,p.mark⟩:Prod))),⟨by omega,kR e3.at_ h17 hn hj hp ho hst,(H.perm (L':=(b5,_)::ju bm (S1.set j (x3.pid,b,_))) (by unfold ju;rw[gj hj];exact((hP.cons _).cons _).trans (((al _ _ _).cons _).trans (al _ _ _)))).forget (aX _ _) (fun _ h=>h)⟩,dF Z,Qg,by show es.length- (k+1)<es.length-k;omega⟩
      ·
       refine G (Yb Z)<|ZN<|ZN<|ZN<|ZN<|ZN<|G (N Z Z)<|U<|ZF Z<|Zk<|Zr<|G (bp Z Z I I)<|G (Yi Z)<|U ?_
       have hst:(⟨x3.ver,x3.seq,p.open_,p.mark⟩:Prod)=ff k x3 p:=by
        simp[ff,pv,h36,h66,h51]
       have hP:=jb (q':=(x3.pid,b,(⟨x3.ver,x3.seq,p.open_,p.mark⟩:Prod))) hj
       refine⟨(k+1,S1.set j (x3.pid,b,(⟨x3.ver,x3.seq,p.open_,p.mark⟩:Prod))),⟨by omega,kR e3.at_ h17 hn hj hp ho hst,(H.perm (L':=(b5,_)::ju bm (S1.set j (x3.pid,b,_))) (by unfold ju;rw[gj hj];exact((hP.cons _).cons _).trans (((al _ _ _).cons _).trans (al _ _ _)))).forget (aX _ _) (fun _ h=>h)⟩,dF Z,Qg,by show es.length- (k+1)<es.length-k;omega⟩
    ·
     refine aU ?_
     intro w29 hw' hF
     replace H:=H.later hw';clear hw' hF
     refine U<|ZF Z<|Zk<|Zb<|W<|Zr<|G (Zf eB Z)<|G (Zd aj H 1 Z Z Z) ?_
     refine qU (i6 Z Z) Z Z Z (fun h66=> ?_) (fun h66=> ?_)
     ·
      refine G (Wb Z)<|U<|ZT Z<|Zr<|G (Yp Z)<|G (Yp Z)<|G (Yi Z)<|G (aI Z)<|G (Zf dY Z)<|bl H 0 ((Prod.c ⟨p.ver,p.seq,-1,p.mark⟩).toArray) bI Z Z Z Z Z N N fun w30 H=>G (aI Z)<|G (Zf hN Z)<|bl H 0 ((Prod.c ⟨p.ver,p.seq,-1,k⟩).toArray) bI Z Z Z Z Z N N fun w31 H=>U<|Zr<|G (bp Z Z I I)<|G (Yi Z)<|U ?_
      have hst:(⟨p.ver,p.seq,-1,k⟩:Prod)=ff k x3 p:=by
       simp[ff,pv,h36,h66]
      have hP:=jb (q':=(x3.pid,b,(⟨p.ver,p.seq,-1,k⟩:Prod))) hj
      refine⟨(k+1,S1.set j (x3.pid,b,(⟨p.ver,p.seq,-1,k⟩:Prod))),⟨by omega,kR e3.at_ h17 hn hj hp ho hst,(H.perm (L':=(b5,_)::ju bm (S1.set j (x3.pid,b,_))) (by unfold ju;rw[gj hj];exact((hP.cons _).cons _).trans (((al _ _ _).cons _).trans (al _ _ _)))).forget (aX _ _) (fun _ h=>h)⟩,dF Z,Qg,by show es.length- (k+1)<es.length-k;omega⟩
     ·
      refine G (Wb Z)<|U<|ZF Z<|W<|Zr<|G (Yp Z)<|G (Zf eR Z)<|G (Zd aj H 1 Z Z Z)<|G (aI Z)<|G (Zf fl Z)<|bl H 0 ((Prod.c ⟨p.ver,x3.seq,p.open_,p.mark⟩).toArray) bI Z Z Z Z Z N N fun w32 H=>U<|W<|Zr<|G (Zf iY Z) ?_
      refine wu (aV dR Z (aB (H.ent (i:=1) Z) Z)) Z Z Z (fun h51=> ?_) (fun h51=> ?_)
      ·
       refine G (Yb Z)<|ZG<|G (Yp Z)<|ZG<|G (aI Z)<|ZG<|G (Zf dY Z)<|ZG<|G (Zd aj H 0 Z Z Z)<|ZG ?_
       refine cR (cG Z Z) Z Z Z (fun h57=> ?_) (fun h57=> ?_)
       ·
        refine G (Kt Z Z)<|U<|ZT Z<|Zr<|G (Yp Z)<|G (Yi Z)<|G (aI Z)<|G (Zf dY Z)<|bl H 0 ((Prod.c ⟨p.ver,x3.seq,k,p.mark⟩).toArray) bI Z Z Z Z Z N N fun w33 H=>U<|Zr<|G (bp Z Z I I)<|G (Yi Z)<|U ?_
        replace h57:p.open_<0:=h57
        have hst:(⟨p.ver,x3.seq,k,p.mark⟩:Prod)=ff k x3 p:=by
         simp[ff,pv,h36,h66,h51,h57]
        have hP:=jb (q':=(x3.pid,b,(⟨p.ver,x3.seq,k,p.mark⟩:Prod))) hj
        refine⟨(k+1,S1.set j (x3.pid,b,(⟨p.ver,x3.seq,k,p.mark⟩:Prod))),⟨by omega,kR e3.at_ h17 hn hj hp ho hst,(H.perm (L':=(b5,_)::ju bm (S1.set j (x3.pid,b,_))) (by unfold ju;rw[gj hj];exact((hP.cons _).cons _).trans (((al _ _ _).cons _).trans (al _ _ _)))).forget (aX _ _) (fun _ h=>h)⟩,dF Z,Qg,by show es.length- (k+1)<es.length-k;omega⟩
       ·
        refine G (Kt Z Z)<|U<|ZF Z<|Zk<|Zr<|G (bp Z Z I I)<|G (Yi Z)<|U ?_
        replace h57: ¬ p.open_<0:=h57
        have hst:(⟨p.ver,x3.seq,p.open_,p.mark⟩:Prod)=ff k x3 p:=by
         simp[ff,pv,h36,h66,h51,h57]
        have hP:=jb (q':=(x3.pid,b,(⟨p.ver,x3.seq,p.open_,p.mark⟩:Prod))) hj
        refine⟨(k+1,S1.set j (x3.pid,b,(⟨p.ver,x3.seq,p.open_,p.mark⟩:Prod))),⟨by omega,kR e3.at_ h17 hn hj hp ho hst,(H.perm (L':=(b5,_)::ju bm (S1.set j (x3.pid,b,_))) (by unfold ju;rw[gj hj];exact((hP.cons _).cons _).trans (((al _ _ _).cons _).trans (al _ _ _)))).forget (aX _ _) (fun _ h=>h)⟩,dF Z,Qg,by show es.length- (k+1)<es.length-k;omega⟩
      ·
       refine G (Yb Z)<|ZN<|ZN<|ZN<|ZN<|ZN<|G (N Z Z)<|U<|ZF Z<|Zk<|Zr<|G (bp Z Z I I)<|G (Yi Z)<|U ?_
       have hst:(⟨p.ver,x3.seq,p.open_,p.mark⟩:Prod)=ff k x3 p:=by
        simp[ff,pv,h36,h66,h51]
       have hP:=jb (q':=(x3.pid,b,(⟨p.ver,x3.seq,p.open_,p.mark⟩:Prod))) hj
       refine⟨(k+1,S1.set j (x3.pid,b,(⟨p.ver,x3.seq,p.open_,p.mark⟩:Prod))),⟨by omega,kR e3.at_ h17 hn hj hp ho hst,(H.perm (L':=(b5,_)::ju bm (S1.set j (x3.pid,b,_))) (by unfold ju;rw[gj hj];exact((hP.cons _).cons _).trans (((al _ _ _).cons _).trans (al _ _ _)))).forget (aX _ _) (fun _ h=>h)⟩,dF Z,Qg,by show es.length- (k+1)<es.length-k;omega⟩
 ·
  refine U<|W<|ZF Z<|Zx<|W<|Zr<|G (Cu Z)<|G (Ie Z)<|U<|Zt ?_
  have hke:k=es.length:=by omega
  subst hke
  rw[bV]at hS
  exact cF (v:=.map (some bm)) Z Z ⟨S,bm,rfl,hS,H.forget (ap _) (by simp)⟩
/-- an entry of a transaction that has no end yet -/
def nb (es:List cH) (k:Nat) (pid:Int):Prop:= ∃ e,es[k]? =some e/\e.kind=1/\e.txn=true/\e.pid=pid/\pid≠0/\ ∀ j f,k<j->es[j]? =some f->f.pid=pid->f.kind=1
theorem lL {es:List cH} {x:cH} {k:Nat} {pid:Int}:nb (es++[x]) k pid↔(k<es.length/\nb es k pid/\(x.pid=pid->x.kind=1))∨(k=es.length/\x.kind=1/\x.txn=true/\x.pid=pid/\pid≠0):=by
 constructor
 rintro⟨e,h1,h2,h3,h4,h5,h6⟩
 have hk:=(az.1 h1).1
 simp at hk
 by_cases hkl:k<es.length
 left
 rw[cn hkl]at h1
 refine⟨hkl,⟨e,h1,h2,h3,h4,h5,fun j f hj hf hp=>h6 j f hj (by rw[cn (az.1 hf).1];exact hf) hp⟩,fun hp=>h6 es.length x hkl (by simp) hp⟩
 right
 have:k=es.length:=by omega
 subst this
 simp at h1
 subst h1
 exact⟨rfl,h2,h3,h4,h5⟩
 rintro(⟨hk,⟨e,h1,h2,h3,h4,h5,h6⟩,hx⟩|⟨rfl,h2,h3,h4,h5⟩)
 refine⟨e,by rw[cn hk];exact h1,h2,h3,h4,h5,fun j f hj hf hp=> ?_⟩
 by_cases hjl:j<es.length
 rw[cn hjl]at hf;exact h6 j f hj hf hp
 have hj2:=(az.1 hf).1
 simp at hj2
 have:j=es.length:=by omega
 subst this
 simp at hf
 subst hf
 exact hx hp
 refine⟨x,by simp,h2,h3,h4,h5,fun j f hj hf _=> ?_⟩
 have hj2:=(az.1 hf).1
 simp at hj2
 omega
structure JP (es:List cH) (pid:Int) (p:Prod):Prop where
 opn:p.open_= -1∨ ∃ k:Nat,p.open_=k/\nb es k pid
 least: ∀ k,nb es k pid->0<=p.open_/\p.open_<=k
 mark:p.mark= -1∨ ∃ (k:Nat) (e:cH),p.mark=k/\es[k]? =some e/\e.pid=pid/\e.kind≠1
 seq:p.seq= -1∨ ∃ e∈es,e.pid=pid/\e.kind=1/\p.seq=e.seq/\p.ver=e.ver
 ver: ∃ e∈es,e.pid=pid/\p.ver=e.ver
theorem Cr {es:List cH} {x:cH} {p:Prod} (h0:x.pid≠0) (h:p=p0/\(∀ k,¬ nb es k x.pid)∨JP es x.pid p):JP (es++[x]) x.pid (ff es.length x p):=by
 have hpv:(pv x p).ver=x.ver/\(pv x p).open_=p.open_/\(pv x p).mark=p.mark/\((pv x p).seq= -1∨((pv x p).seq=p.seq/\p.ver=x.ver)):=by
  unfold pv
  split
  exact⟨rfl,rfl,rfl,.inl Z⟩
  rename_i hv
  have hv':x.ver=p.ver:=Classical.not_not.1 hv
  exact⟨hv'.symm,rfl,rfl,.inr ⟨rfl,hv'.symm⟩⟩
 obtain⟨v1,v2,v3,v4⟩:=hpv
 have hxm:x∈es++[x]:=by simp
 have hmark:p.mark= -1∨ ∃ (k:Nat) (e:cH),p.mark=k/\(es++[x])[k]? =some e/\e.pid=x.pid/\e.kind≠1:=by
  rcases h with⟨rfl,_⟩|h
  exact .inl Z
  rcases h.mark with h|⟨k,e,h1,h2,h3,h4⟩
  exact .inl h
  exact .inr ⟨k,e,h1,by rw[cn (az.1 h2).1];exact h2,h3,h4⟩
 have hseq:(pv x p).seq= -1∨ ∃ e∈es++[x],e.pid=x.pid/\e.kind=1/\(pv x p).seq=e.seq/\x.ver=e.ver:=by
  rcases v4 with h1|⟨h1,h2⟩
  exact .inl h1
  rcases h with⟨rfl,_⟩|h
  exact .inl h1
  rcases h.seq with h|⟨e,he,a1,a2,a3,a4⟩
  exact .inl (h1.trans h)
  exact .inr ⟨e,fP _ he,a1,a2,h1.trans a3,h2.symm.trans a4⟩
 unfold ff
 split
 rename_i hk
 refine⟨.inl Z,fun k hok=> ?_,.inr ⟨es.length,x,rfl,by simp,rfl,hk⟩,?_,⟨x,hxm,rfl,v1⟩⟩
 rcases lL.1 hok with⟨_,_,h⟩|⟨_,h,_⟩
 exact absurd (h Z) hk
 exact absurd h hk
 rcases hseq with h|⟨e,he,a1,a2,a3,a4⟩
 exact .inl h
 exact .inr ⟨e,he,a1,a2,a3,v1.trans a4⟩
 rename_i hk
 have hk1:x.kind=1:=Classical.not_not.1 hk
 have hold: ∀ k,nb es k x.pid->nb (es++[x]) k x.pid:=fun k hok=>lL.2 (.inl ⟨by obtain⟨e,h,_⟩:=hok;exact(az.1 h).1,hok,fun _=>hk1⟩)
 split
 rename_i ht
 rw[v2]at ht
 refine⟨.inr ⟨es.length,rfl,lL.2 (.inr ⟨rfl,hk1,ht.1,rfl,h0⟩)⟩,fun k hok=> ?_,by rw[v3];exact hmark,.inr ⟨x,hxm,rfl,hk1,rfl,v1⟩,⟨x,hxm,rfl,v1⟩⟩
 rcases lL.1 hok with⟨_,h1,_⟩|⟨rfl,_⟩
 rcases h with⟨_,hn⟩|h
 exact absurd h1 (hn k)
 have:=h.least k h1;omega
 exact⟨by simp,ic _⟩
 rename_i ht
 rw[v2]at ht
 refine⟨?_,fun k hok=> ?_,by rw[v3];exact hmark,.inr ⟨x,hxm,rfl,hk1,rfl,v1⟩,⟨x,hxm,rfl,v1⟩⟩
 rw[v2]
 rcases h with⟨rfl,_⟩|h
 exact .inl Z
 rcases h.opn with h|⟨k,h1,h2⟩
 exact .inl h
 exact .inr ⟨k,h1,hold k h2⟩
 rw[v2]
 rcases lL.1 hok with⟨_,h1,_⟩|⟨rfl,_,h2,_⟩
 rcases h with⟨_,hn⟩|h
 exact absurd h1 (hn k)
 exact h.least k h1
 rcases h with⟨rfl,_⟩|h
 exact absurd ⟨h2,by decide⟩ ht
 rcases h.opn with h|⟨k,h1,hok2⟩
 exact absurd ⟨h2,by omega⟩ ht
 obtain⟨_,hok3,_⟩:=hok2
 have:=(az.1 hok3).1
 omega
theorem IW {es:List cH} {x:cH} {pid:Int} {p:Prod} (h0:x.pid≠pid) (h:JP es pid p):JP (es++[x]) pid p:=by
 have hold: ∀ k,nb (es++[x]) k pid↔nb es k pid:=fun k=>by
  rw[lL]
  constructor
  rintro(⟨_,h,_⟩|⟨_,_,_,h,_⟩)
  exact h
  exact absurd h h0
  intro h
  exact .inl ⟨by obtain⟨e,h,_⟩:=h;exact(az.1 h).1,h,fun h=>absurd h h0⟩
 refine⟨?_,fun k hk=>h.least k ((hold k).1 hk),?_,?_,?_⟩
 rcases h.opn with h|⟨k,h1,h2⟩
 exact .inl h
 exact .inr ⟨k,h1,(hold k).2 h2⟩
 rcases h.mark with h|⟨k,e,h1,h2,h3⟩
 exact .inl h
 exact .inr ⟨k,e,h1,by rw[cn (az.1 h2).1];exact h2,h3⟩
 rcases h.seq with h|⟨e,he,h⟩
 exact .inl h
 exact .inr ⟨e,fP _ he,h⟩
 obtain⟨e,he,h⟩:=h.ver
 exact⟨e,fP _ he,h⟩
theorem na (es:List cH) (pid:Int):(∀ p,g8 es pid=some p->JP es pid p)/\(g8 es pid=none-> ∀ e∈es,e.pid=pid->pid=0):=by
 induction es using Km with
 |h0=>exact⟨fun p h=>by simp[IT]at h,fun _ e he=>by cases he⟩
 |h1 es x ih=>
  obtain⟨ih1,ih2⟩:=ih
  rw[si]
  by_cases hc:x.pid≠0/\x.pid=pid
  obtain⟨h0,rfl⟩:=hc
  rw[if_pos ⟨h0,rfl⟩]
  refine⟨fun p hp=> ?_,fun h=>by cases h⟩
  injection hp with hp
  subst hp
  cases hq:g8 es x.pid with
  |none=>
   refine Cr h0 (.inl ⟨rfl,fun k hok=> ?_⟩)
   obtain⟨e,h1,_,_,h4,h5,_⟩:=hok
   exact h5 (ih2 hq e (ae h1) h4)
  |some q=>exact Cr h0 (.inr (ih1 q hq))
  rw[if_neg hc]
  refine⟨fun p hp=> ?_,fun h e he hpe=> ?_⟩
  by_cases hx:x.pid=pid
  have h0:x.pid=0:=Classical.byContradiction fun h=>hc ⟨h,hx⟩
  obtain⟨e,he,h1,h1v⟩:=(ih1 p hp).ver
  have h:=ih1 p hp
  have hz:pid=0:=hx▸h0
  have hnone: ∀ l k,¬ nb l k pid:=fun l k ⟨_,_,_,_,_,h,_⟩=>h hz
  refine⟨?_,fun k hk=>absurd hk (hnone _ k),?_,?_,?_⟩
  rcases h.opn with h|⟨k,_,h2⟩
  exact .inl h
  exact absurd h2 (hnone _ k)
  rcases h.mark with h|⟨k,e,h1,h2,h3⟩
  exact .inl h
  exact .inr ⟨k,e,h1,by rw[cn (az.1 h2).1];exact h2,h3⟩
  rcases h.seq with h|⟨e,he,h⟩
  exact .inl h
  exact .inr ⟨e,fP _ he,h⟩
  exact⟨e,fP _ he,h1,h1v⟩
  exact IW hx (ih1 p hp)
  rcases ar.1 he with he|he
  exact ih2 h e he hpe
  rw[aq.1 he]at hpe
  exact Classical.byContradiction fun h0=>hc ⟨fun h=>h0 (hpe▸h),hpe⟩
def tH (es:List cH) (n:Nat):Prop:=n<=es.length/\(∀ k pid,nb es k pid->n<=k)/\(n=es.length∨ ∃ pid,nb es n pid)
theorem GV {es:List cH} {n m:Nat} (h:tH es n) (h':tH es m):n=m:=by
 obtain⟨a1,a2,a3⟩:=h
 obtain⟨b1,b2,b3⟩:=h'
 have h1:n<=m:=by
  rcases b3 with h|⟨pid,h⟩
  omega
  exact a2 _ _ h
 have h2:m<=n:=by
  rcases a3 with h|⟨pid,h⟩
  omega
  exact b2 _ _ h
 omega
theorem Jd {es:List cH} {S:List PB} (hS:PS S es) {out:Int} (h1:out<=es.length) (h2: ∀ q∈S,0<=q.2.2.open_->out<=q.2.2.open_) (h3:out=es.length∨ ∃ q∈S,0<=q.2.2.open_/\out=q.2.2.open_): ∃ n:Nat,out=n/\tH es n:=by
 have hq: ∀ q∈S,JP es q.1 q.2.2:=fun q hq=>by
  obtain⟨a,b,p⟩:=q
  obtain⟨j,hj⟩:=aK.1 hq
  have:=ur hS.1 hj
  rw[hS.2]at this
  exact(na es a).1 p this
 have h4: ∀ k pid,nb es k pid->out<=k:=fun k pid hok=>by
  cases hp:g8 es pid with
  |none=>
   obtain⟨e,e1,_,_,e4,e5,_⟩:=hok
   exact absurd ((na es pid).2 hp e (ae e1) e4) e5
  |some p=>
   have hl:=(((na es pid).1 p hp).least k hok)
   have hlk:=hS.2 pid
   rw[hp]at hlk
   unfold uE at hlk
   cases hf:S.find? (fun q=>decide (q.1=pid))with
   |none=>rw[hf]at hlk;cases hlk
   |some q=>
    rw[hf]at hlk
    simp at hlk
    have hm:=List.mem_of_find?_eq_some hf
    have:=h2 q hm (by rw[hlk];exact hl.1)
    rw[hlk]at this
    omega
 rcases h3 with rfl|⟨q,hqm,q0,rfl⟩
 exact⟨es.length,rfl,ao _,fun k pid h=>by have:=h4 k pid h;omega,.inl Z⟩
 rcases(hq q hqm).opn with h|⟨k,hk,hok⟩
 omega
 refine⟨k,hk,by omega,fun j pid h=>by have:=h4 j pid h;omega,.inr ⟨_,hok⟩⟩
def xF (es:List cH) (p:Int):Bool:=
 match es.find? (fun e=>!decide (e.kind=1)&&decide (e.pid=p))with
 |some e=>decide (e.kind=2)
 |none=>false
def yr (es:List cH) (i:Nat) (e:cH):Bool:=!e.txn||xF (es.drop (i+1)) e.pid
theorem tF (e:cH) (es:List cH) (p:Int):xF (e::es) p=if¬ e.kind=1/\e.pid=p then decide (e.kind=2)else xF es p:=by
 unfold xF
 rw[List.find?_cons]
 by_cases h1:e.kind=1<;>by_cases h2:e.pid=p<;>simp[h1,h2]
theorem cN {α:Type} {l:List α} {k:Nat} {e:α} (h:l[k]? =some e):l.drop k=e::l.drop (k+1):=by
 obtain⟨hk,rfl⟩:=cD h
 exact mO hk
theorem M7 (es:List cH) (A:Option Addr) (c i:Nat) (x:cH) (w:World) (hr:Rd gz 0 w.heap.size A es w) (hi:es[i]? =some x) (hc:es.length<=c) (hb:es.length<=1000000):
  dd aa Fm [.slice A es.length c,J (i:Nat)] w fun v w2=>v=.bool (yr es i x)/\Below w.heap.size w w2:=by
 refine aE DL Z Z ?_
 have H:=Hp.startRd hr
 have hil:=(cD hi).1
 refine W<|Zr<|G (Wb Z)<|U<|W<|W<|Zr<|G (Ys Z)<|G (Yi Z)<|pK H 0 Z dN Z Z I I Z fun b1 o1 x1 e1=> ?_
 obtain rfl:x=x1:=by have:=e1.at_;rw[hi]at this;injection this
 refine G (Zf iY Z) ?_
 refine wu (aV dR Z (e1.cl 5 _ Z)) Z Z Z (fun h11=> ?_) (fun h11=> ?_)
 refine G (dO Z)<|U<|ZF Z<|Zk<|W<|W<|Zr<|G (Ys Z)<|G (Yi Z)<|G (bp Z Z I I) ?_
 have h15:(i:Int)+1=((i+1:Nat):Int):=by omega
 rw[h15]
 refine N1 (k:=i+1) H 0 Z dN Z Z Z hc I Z fun A16 H=> ?_
 generalize hds:es.drop (i+1)=ds at H
 have hdl:es.length- (i+1)=ds.length:=by rw[<-hds];simp
 rw[hdl]
 refine G (bn eh Z)<|G (Yi Z)<|U<|Zb ?_
 refine cf (τ:=Nat) [4,6,18,19,20,21,22,23,24,25,26,27,28,29,30,31,32,33,34,35,36,37,38] (fun k=>[(18,J (k:Nat))]) (fun k w'=>k<=ds.length/\xF ds x.pid=xF (ds.drop k) x.pid/\Hp w w' [] [dG gz 0 w.heap.size A16 ds,dG gz 0 w.heap.size A es]) (fun k=>ds.length-k) 0 ⟨by omega,rfl,H⟩ (dF Z) ?_
 rintro k ρ1 w2 ⟨hk,hkp,H⟩
 show CW _ _ _ _ (dv (gk _ _ ρ1) [(18,J (k:Nat))]) w2
 refine W<|Zr ?_
 refine cR (cG Z Z) Z Z Z (fun h19=> ?_) (fun h19=> ?_)
 refine U<|W<|ZT Z<|Zk<|W<|Zb<|W<|Zr<|pK H 0 Z dN Z Z I I Z fun b3 o3 x3 e3=>G (jd (xs:=cH.c x3) dB Z Z e3.cl)<|eC H fU Z fun w4 b6 H=>Kk H 0 eM Z Z Z Z Z Z fun w5 H=>U<|W ?_
 refine bD bZ [0,1,2,3,4,5,6,7,8,9,10,11,12] [] [] [0,2,3,4,6,7,8,9,11,12] (sp []) N N N N Nq (cI _) ?_
 refine aw Z Z Z Z Z (fun w' hw'=>Zf eB Z)<|aw Z Z Z Z Z (fun w' hw'=>aV aj Z (aB ((H.later hw').ent (i:=0) Z) Z)) ?_
 refine OG Z Z Z Z Z (fun w' hw'=>i6 Z Z) (fun h24=> ?_) (fun h24=> ?_)
 refine aw Z Z Z Z Z (fun w' hw'=>Yb Z)<|aw Z Z Z Z Z (fun w' hw'=>Zf eS Z)<|aw Z Z Z Z Z (fun w' hw'=>aV aj Z (aB ((H.later hw').ent (i:=0) Z) Z))<|aw Z Z Z Z Z (fun w' hw'=>Ys Z)<|aw Z Z Z Z Z (fun w' hw'=>Yi Z)<|qg H 1 Z Z Z Z Z dN Z Z I I fun b6 o6 x6 e6=> ?_
 obtain rfl:x=x6:=by have:=e6.at_;rw[hi]at this;injection this
 refine aw Z Z Z Z Z (fun w' hw'=>Zf eS Z)<|aw Z Z Z Z Z (fun w' hw'=>aV aj Z (e6.later hw' 1 _ Z)) ?_
 refine Bi Z Z Z Z Z (fun w' hw'=>bh Z Z) (fun h33=> ?_) (fun h33=> ?_)
 refine aw Z Z Z Z Z (fun w' hw'=>Kt Z Z)<|aU ?_
 intro w7 hw' hF
 replace H:=H.later hw';clear hw' hF
 refine U<|ZT Z<|W<|Zr<|G (Zf eB Z)<|G (Zd aj H 0 Z Z Z)<|G (bh Z Z)<|G (Wb Z)<|U<|Zt ?_
 have hdk:=cN e3.at_
 have hx:yr es i x=decide (x3.kind=2):=by
  unfold yr;rw[h11,hds,hkp,hdk,tF,if_pos ⟨h24,h33⟩];rfl
 exact cF (v:=.bool (decide (x3.kind=2))) Z Z ⟨by rw[hx],H.below⟩
 refine aw Z Z Z Z Z (fun w' hw'=>Kt Z Z)<|aU ?_
 intro w8 hw' hF
 replace H:=H.later hw';clear hw' hF
 refine U<|ZF Z<|Zk<|Zr<|G (bp Z Z I I)<|G (Yi Z)<|U ?_
 have hdk:=cN e3.at_
 rw[hdk,tF]at hkp
 rw[if_neg (by rintro⟨a,b⟩;first|exact a h24|exact h33 b)]at hkp
 refine⟨k+1,⟨by omega,hkp,H.forget (by simp) (fun _ h=>h)⟩,dF Z,Qg,by show ds.length- (k+1)<ds.length-k;omega⟩
 refine aw Z Z Z Z Z (fun w' hw'=>Yb Z)<|eU Z Z Z Z<|eU Z Z Z Z<|eU Z Z Z Z<|eU Z Z Z Z<|eU Z Z Z Z<|eU Z Z Z Z<|eU Z Z Z Z<|eU Z Z Z Z<|aw Z Z Z Z Z (fun w' hw'=>N Z Z)<|aU ?_
 intro w9 hw' hF
 replace H:=H.later hw';clear hw' hF
 refine U<|ZF Z<|Zk<|Zr<|G (bp Z Z I I)<|G (Yi Z)<|U ?_
 have hdk:=cN e3.at_
 rw[hdk,tF]at hkp
 rw[if_neg (by rintro⟨a,b⟩;first|exact a h24|exact h33 b)]at hkp
 refine⟨k+1,⟨by omega,hkp,H.forget (by simp) (fun _ h=>h)⟩,dF Z,Qg,by show ds.length- (k+1)<ds.length-k;omega⟩
 refine U<|W<|ZF Z<|Zx<|W<|Zr<|G (Wb Z)<|U<|Zt ?_
 have hx:yr es i x=false:=by
  unfold yr;rw[h11,hds,hkp,eg I];rfl
 exact cF (v:=.bool false) Z Z ⟨by rw[hx],H.below⟩
 refine G (dO Z)<|U<|ZT Z<|W<|Zr<|G (Wb Z)<|U<|Zt ?_
 have hx:yr es i x=true:=by simp[yr,h11]
 exact cF (v:=.bool true) Z Z ⟨by rw[hx],H.below⟩
theorem KD {S:List PB} {m:Nat} {k:Int} {v:Value} (h:(qR S)[m]? =some (k,v)): ∃ (b:Nat) (p:Prod),S[m]? =some (k,b,p)/\v=Bs b:=by
 unfold qR at h
 rw[aM]at h
 cases hs:S[m]? with
 |none=>rw[hs]at h;cases h
 |some q=>
  rw[hs]at h
  obtain⟨a,b,p⟩:=q
  simp at h
  exact⟨b,p,by rw[h.1],h.2.symm⟩
def C9 (n:Nat) (seen:Array Nat):Nat:=((Bl n).filter fun m=>!seen.contains m).length
theorem Cd {n m:Nat} {seen:Array Nat} (hm:m<n) (hs:seen.contains m=false):C9 n (seen.push m)<C9 n seen:=by
 unfold C9
 refine filter_lt _ _ (fun x hx=> ?_) m (by rw[hs];rfl) (by simp) _ (List.mem_range.2 hm)
 simp at hx⊢
 exact hx.1
theorem Ck (es:List cH) (A:Option Addr) (c n:Nat) (w:World) (hr:Rd gz 0 w.heap.size A es w) (hc:es.length<=c) (hb:es.length<=1000000) (hn:n<=es.length):
  dd aa BB [.slice A es.length c,J (n:Nat)] w fun v w2=> ∃ m:Nat,tH (es.take n) m/\v=.tuple #[J (m:Nat),J 0]/\Below w.heap.size w w2:=by
 refine aE Aw Z Z ?_
 have H:=Hp.startRd hr
 refine W<|Zr<|G (Wi Z)<|G (Wi Z)<|U<|W<|W<|Zr<|G (Yi Z)<|G (cY Z Z I)<|G (Yb Z)<|ZG<|G (Yi Z)<|ZG<|G (Ys Z)<|ZG<|G (bn eh Z)<|ZG<|G (er Z Z I)<|G (N Z Z)<|U<|ZF Z<|Zk<|W<|Zr<|G (Yi Z)<|G (Wi Z)<|U<|W<|W<|Zr<|G (Ys Z)<|G (Yi Z)<|sd (k:=n) H 0 Z dN Z Z hc I Z fun A20 H=> ?_
 obtain⟨ds,hds⟩: ∃ ds,es.take n=ds:=⟨_,rfl⟩
 have hdl:n=ds.length:=by rw[<-hds];simp;omega
 rw[hds]at H⊢
 subst hdl
 refine cd tY (Cq ds _ _ _ (H.rd0 0 Z) I) Z Z ?_
 rintro _ w1 ⟨S,bm,rfl,hS,hj⟩;replace H:=H.join hj;clear hj
 refine Qu H 0 rE Z Z Z fun w2 it H=>U<|Zb ?_
 refine cf (τ:=Array Nat×Int) [6,8,23,24,25,26,27,28,29,30,31,32,33,34,35,36,37] (fun(seen,out)=>[(6,J out)]) (fun(seen,out) w'=>out<=ds.length/\(∀ m q,S[m]? =some q->seen.contains m=true->0<=q.2.2.open_->out<=q.2.2.open_)/\(out=ds.length∨ ∃ q∈S,0<=q.2.2.open_/\out=q.2.2.open_)/\Hp w w' ((it,.mapIter (some bm) (qR S).length seen (qR S).length)::(ju bm S++[])) [dG gz 0 w.heap.size A20 ds,dG gz 0 w.heap.size A es]) (fun(seen,_)=>C9 S.length seen) (#[],(ds.length:Int)) ⟨by omega,by simp,.inl Z,H⟩ (dF Z) ?_
 rintro⟨seen,out⟩ ρ1 w3 ⟨ho1,ho2,ho3,H⟩
 show CW _ _ _ _ (dv (gk _ _ ρ1) [(6,J out)]) w3
 refine W<|Zr ?_
 refine Qx H 0 1 Z Z Z Z ?_ ?_
 intro hall
 refine G (Xb Z Z)<|U<|W<|ZF Z<|Zx<|W<|Zr<|G (Yi Z)<|G (Wi Z)<|G (Wi Z)<|U<|Zt ?_
 have hpl:(qR S).length=S.length:=by simp[qR]
 obtain⟨m,rfl,hst⟩:=Jd hS ho1 (fun q hq h0=>by obtain⟨m,hm⟩:=aK.1 hq;exact ho2 m q hm (hall m (by rw[hpl];exact(cD hm).1)) h0) ho3
 exact l9 Z Z Z ⟨m,by first|exact hst|(rw[hds];exact hst),rfl,H.below⟩
 intro m k v w4 hm hsn H
 obtain⟨b,p,hmS,rfl⟩:=KD hm
 have hbk:=H.ent (i:=m+2) (b:=b) (o:=.cells p.c.toArray lI (0,0)) (by simp[ju,xx,hmS])
 have hml:=(cD hmS).1
 refine G (Xb Z Z)<|U<|W<|ZT Z<|Zk<|Zb<|W<|Zr<|G (Pd Z (H.ent (i:=0) Z) (H.ent (i:=1) Z) hm)<|G (Pc Z Z)<|G (Wp Z)<|U<|W<|Zr<|G (Yp Z)<|G (aI Z)<|G (Zf dY Z)<|G (aV aj Z (aB hbk Z)) ?_
 refine cR (ke Z Z) Z Z Z (fun h31=> ?_) (fun h31=> ?_)
 refine U<|ZT Z<|Zr<|G (Yi Z)<|G (Yp Z)<|G (aI Z)<|G (Zf dY Z)<|G (aV aj Z (aB hbk Z))<|G (tz Z Z)<|G (Wi Z)<|U ?_
 refine⟨(seen.push m,min out p.open_),⟨by omega,fun m2 q hq hs h0=> ?_,?_,H⟩,dF Z,Qg,Cd hml hsn⟩
 rw[Array.contains_push]at hs
 rcases Bool.or_eq_true_iff.1 hs with hs|hs
 have:=ho2 m2 q hq hs h0;omega
 have hmm:m2=m:=by simpa using hs
 subst hmm;rw[hmS]at hq;injection hq with hq;subst hq;try dsimp only at h0⊢
 omega
 by_cases hmin:out<=p.open_
 rw[Int.min_eq_left hmin];exact ho3
 exact .inr ⟨_,ae hmS,h31,by dsimp only;omega⟩
 refine U<|ZF Z<|Zk ?_
 refine⟨(seen.push m,out),⟨by omega,fun m2 q hq hs h0=> ?_,?_,H⟩,dF Z,Qg,Cd hml hsn⟩
 rw[Array.contains_push]at hs
 rcases Bool.or_eq_true_iff.1 hs with hs|hs
 have:=ho2 m2 q hq hs h0;omega
 have hmm:m2=m:=by simpa using hs
 subst hmm;rw[hmS]at hq;injection hq with hq;subst hq;try dsimp only at h0⊢
 exfalso;exact h31 h0
 exact ho3
def vG (es:List cH) (m:Int) (x:cH):Bool:=match es[m.toNat]? with
 |some e=>decide (e.kind=x.kind)&&decide (e.ver=x.ver)
 |none=>false
def mZ (x e:cH):Bool:=decide (e.kind=1)&&decide (e.pid=x.pid)&&decide (e.ver=x.ver)&&decide (e.seq=x.seq)
def oV (es:List cH) (x:cH) (p:Prod):Int×Int:=
 if x.ver<p.ver then(0,10)
 else if¬ x.kind=1 then(if p.open_<0/\0<=p.mark/\vG es p.mark x=true then(p.mark,0)else(-1,0))
 else if(if p.ver<x.ver then-1 else p.seq)+1<x.seq then(0,11)
 else if x.seq=(if p.ver<x.ver then-1 else p.seq)+1 then(-1,0)
 else match es.findIdx? (mZ x)with
  |some i=>((i:Int),0)
  |none=>(0,11)
def gM (es:List cH) (x:cH):Int×Int:=if x.pid=0 then(-1,0)else oV es x ((g8 es x.pid).getD ⟨x.ver,-1,-1,-1⟩)
def Pr (w:World) (es:List cH):Sp:=⟨fun v w2=> ∃ S bm,v=.map (some bm)/\PS S es/\Hp w w2 (ju bm S) [],fun _ _ _ hb ⟨S,bm,h1,h2,h3⟩=>⟨S,bm,h1,h2,h3.later hb⟩⟩
def seqB (es:List cH):Prop:= ∀ e∈es,-1000000000000000<=e.seq/\e.seq<=1000000000000000
theorem ES {es:List cH} {x:cH} (hq:seqB es) {p:Prod} (hp:p=(g8 es x.pid).getD ⟨x.ver,-1,-1,-1⟩):(p.mark= -1∨ ∃ (k:Nat) (y:cH),p.mark=k/\es[k]? =some y)/\ -1000000000000000<=p.seq/\p.seq<=1000000000000000:=by
 cases h:g8 es x.pid with
 |none=>rw[h]at hp;subst hp;exact⟨.inl Z,by simp⟩
 |some q=>
  rw[h]at hp
  simp at hp
  subst hp
  have hi:=(na es x.pid).1 p h
  refine⟨?_,?_⟩
  rcases hi.mark with h|⟨k,e,h1,h2,_⟩
  exact .inl h
  exact .inr ⟨k,e,h1,h2⟩
  rcases hi.seq with h|⟨e,he,_,_,h,_⟩
  omega
  have:=hq e he;omega
theorem FO {es:List cH} {x:cH} (h: ∀ j e,j<es.length->es[j]? =some e->mZ x e=false):es.findIdx? (mZ x)=none:=by
 rw[dp]
 intro e he
 obtain⟨j,hj⟩:=aK.1 he
 exact h j e (cD hj).1 hj
theorem FN {es:List cH} {x y:cH} {k:Nat} (hk:es[k]? =some y) (hy:mZ x y=true) (h: ∀ j e,j<k->es[j]? =some e->mZ x e=false):es.findIdx? (mZ x)=some k:=by
 rw[bg]
 obtain⟨hl,rfl⟩:=cD hk
 exact⟨hl,hy,fun j hj=>by rw[h j _ hj (ah I)];simp⟩
theorem QC (S:List PB) (pid:Int) {w:World} {b:Nat} (hn:(S.map (·.1)).Nodup) (hb:w.heap[b]? =some (tA (qR S))): ∃ q:Option Addr,((q=none/\ ∀ r∈S,r.1≠pid)∨ ∃ (j c:Nat) (p:Prod),S[j]? =some (pid,c,p)/\q=some ⟨c,0,none⟩)/\ ∀ {ρ:gG} {dst:Option Nat} {x y:Operand} {t:TypeId} {p:String} {af:Array Edge} {g:Option (Nat×Bool)},ev ρ x=.map (some b)->ev ρ y=J pid->(execOp (ev ρ) (Og dst (.lookup In x y false) t p af g)).run aa w=.ok (.value (.pointer q)) w:=by
 rcases z0 S pid with h|⟨j,c,p,h⟩
 exact⟨none,.inl ⟨rfl,h⟩,fun hx hy=>NJ rE qy hx hy hb (by intro q hq;obtain⟨a,ha,rfl⟩:=bv.1 hq;exact h a ha)⟩
 exact⟨some ⟨c,0,none⟩,.inr ⟨j,c,p,h,rfl⟩,fun hx hy=>NI rE qy hx hy hb (by rw[uk];exact hn) (ET h)⟩
theorem Iu (es:List cH) (A:Option Addr) (c:Nat) (x:cH) (w:World) (hr:Rd gz 0 w.heap.size A es w) (hb:es.length<=1000000) (hq:seqB es):
  dd aa Dx [.slice A es.length c,x.v] w fun v w2=>v=.tuple #[J (gM es x).1,J (gM es x).2]/\Below w.heap.size w w2:=by
 refine aE BG Z Z ?_
 have H:=Hp.startRd hr
 refine W<|Zr<|fS H Z Z fun w1 b3 H=>G (Wi Z)<|G (Wi Z)<|U<|W<|W<|Zr<|G (Zf eS Z)<|G (Zd aj H 0 Z Z Z) ?_
 refine cR (bh Z Z) Z Z Z (fun h11=> ?_) (fun h11=> ?_)
 refine U<|ZT Z<|W<|Zr<|G (Wi Z)<|G (Wi Z)<|U<|Zt ?_
 have hv:gM es x=(-1,0):=by unfold gM;rw[if_pos h11]
 exact l9 (v:=J (-1)) (v2:=J 0) Z Z Z ⟨by rw[hv],H.below⟩
 refine U<|ZF Z<|Zk<|W ?_
 refine bD bZ [0,2,3,1] [4,5] [1] [0,2] (sp [(1,Pr w1 es)]) N N N N Nq (cI _) ?_
 refine aw Z Z Z Z Z (fun w' hw'=>Ys Z)<|aw Z Z Z Z Z (fun w' hw'=>Zf eS Z)<|aw Z Z Z Z Z (fun w' hw'=>aV aj Z (aB ((H.later hw').ent (i:=0) Z) Z)) ?_
 refine yC tY Z Z Z Z (fun w' hw'=>(Cq es _ _ w' ((H.later hw').rd0 0 Z) hb).mono (fun v w2 ⟨S,bm,h1,h2,h3⟩=>⟨h3.below,S,bm,h1,h2,Hp.base hw' h3⟩)) Z ?_;rintro v13-
 refine aU ?_
 intro w2 hw' hF
 obtain⟨-,S,bm,rfl,hS,hj⟩:=hF
 replace H:=H.join hj;clear hj hw'
 have hb3:=H.ent (i:=S.length+1) (b:=b3) (o:=.cells (cH.c x).toArray dh (0,0)) (by simp[ju])
 obtain⟨P16,hP16,hx16⟩:=QC S x.pid hS.1 (H.ent (i:=0) Z)
 refine G (hx16 Z Z)<|G (Wp Z)<|U<|W ?_
 refine eu (τ:=Nat×Int×Int×Int×Int×List (Nat×Obj)) [6,17,18,19,20,21,22] (fun(b,_,_,_,_,_)=>[(6,Bs b)]) (fun(b,pv_,ps,po,pm,K) w'=>(⟨pv_,ps,po,pm⟩:Prod)=(g8 es x.pid).getD ⟨x.ver,-1,-1,-1⟩/\Hp w w' ((b,.cells #[J pv_,J ps,J po,J pm] lI (0,0))::(b3,.cells (cH.c x).toArray dh (0,0))::K) [dG gz 0 w.heap.size A es]) ?_ ?_
 refine W<|Zr ?_
 rcases hP16 with⟨rfl,hno⟩|⟨j,b,p,hj,rfl⟩
 refine G (Yp Z)<|G (xw nO Z)<|U<|ZT Z<|Zr<|G (Zf ei Z)<|G (aV aj Z (aB hb3 Z))<|G (bj (cs:= #[J x.ver,J (-1),J (-1),J (-1)]) yf zm N)<|fS H Z Z fun w3 b22 H=>G (Wp Z)<|U ?_
 refine⟨(b22,x.ver,-1,-1,-1,ju bm S),⟨by rw[<-hS.2,Cy hno];rfl,H.perm ((s6 _ _).symm.cons _)⟩,dF Z,Qg⟩
 refine G (Yp Z)<|G (vD nO Z)<|U<|ZF Z<|Zk ?_
 have hP:=E3 hj
 refine⟨(b,p.ver,p.seq,p.open_,p.mark,(bm,tA (qR S))::(S.eraseIdx j).map xx),⟨by rw[<-hS.2,ur hS.1 hj];rfl,H.perm ?_⟩,dF Z,Qg⟩
 exact(qn (l₁:=[_,_])).symm.trans (((hP.cons _).cons _).trans (s6 _ _).symm)
 rintro⟨b,pv_,ps,po,pm,K⟩ ρ2 w4 ⟨hp,H⟩
 show CW _ _ _ _ (dv (gk _ _ ρ2) [(6,Bs b)]) w4
 obtain⟨hmark,hsq1,hsq2⟩:=ES hq hp
 dsimp only at hsq1 hsq2
 refine W<|Zb<|W ?_
 refine bD bZ [0,1,2,3,4,5,6,7] [] [] [0,2,3,4,6,7] (sp []) N N N N Nq (cI _) ?_
 refine aw Z Z Z Z Z (fun w' hw'=>Zf ei Z)<|aw Z Z Z Z Z (fun w' hw'=>aV aj Z (aB ((H.later hw').ent (i:=1) Z) Z))<|aw Z Z Z Z Z (fun w' hw'=>Yp Z)<|aw Z Z Z Z Z (fun w' hw'=>aI Z)<|aw Z Z Z Z Z (fun w' hw'=>Zf jN Z)<|aw Z Z Z Z Z (fun w' hw'=>aV aj Z (aB ((H.later hw').ent (i:=0) Z) Z)) ?_
 refine Bi Z Z Z Z Z (fun w' hw'=>cG Z Z) (fun h30=> ?_) (fun h30=> ?_)
 refine aw Z Z Z Z Z (fun w' hw'=>Wb Z)<|aU ?_
 intro w5 hw' hF
 replace H:=H.later hw';clear hw' hF
 refine U<|ZT Z<|W<|Zr<|G (Wi Z)<|G (Wi Z)<|U<|Zt ?_
 have hv:gM es x=(0,10):=by
  unfold gM;rw[if_neg h11,<-hp];unfold oV;simp[h30]
 exact l9 (v:=J (0)) (v2:=J 10) Z Z Z ⟨by rw[hv],H.below⟩
 refine aw Z Z Z Z Z (fun w' hw'=>Wb Z)<|aU ?_
 intro w6 hw' hF
 replace H:=H.later hw';clear hw' hF
 refine U<|ZF Z<|W<|Zr<|G (Zf eB Z)<|G (Zd aj H 1 Z Z Z) ?_
 refine qU (i6 Z Z) Z Z Z (fun h34=> ?_) (fun h34=> ?_)
 refine G (Wb Z)<|U<|ZT Z<|W<|W ?_
 refine bD bZ [0,1,2,3,4,5,6,7,8,9,10,11,12,13,14,15,16,17,18,19,20,21,22,23,24,25,26,27,28,29,30,31,32,33,34,35,36,37] [] [] [0,1,2,4,5,6,7,8,10,11,12,13,14,15,16,18,19,21,23,24,25,26,27,28,29,31,32,34,36,37] (sp []) N N N N Nq (cI _) ?_
 refine aw Z Z Z Z Z (fun w' hw'=>Yp Z)<|aw Z Z Z Z Z (fun w' hw'=>aI Z)<|aw Z Z Z Z Z (fun w' hw'=>Zf dY Z)<|aw Z Z Z Z Z (fun w' hw'=>aV aj Z (aB ((H.later hw').ent (i:=0) Z) Z)) ?_
 refine Bi Z Z Z Z Z (fun w' hw'=>cG Z Z) (fun h39=> ?_) (fun h39=> ?_)
 refine aw Z Z Z Z Z (fun w' hw'=>Yb Z)<|aw Z Z Z Z Z (fun w' hw'=>Yp Z)<|aw Z Z Z Z Z (fun w' hw'=>aI Z)<|aw Z Z Z Z Z (fun w' hw'=>Zf hN Z)<|aw Z Z Z Z Z (fun w' hw'=>aV aj Z (aB ((H.later hw').ent (i:=0) Z) Z)) ?_
 refine Bi Z Z Z Z Z (fun w' hw'=>ke Z Z) (fun h45=> ?_) (fun h45=> ?_)
 rcases hmark with hm1|⟨k,y,hmk,hyk⟩
 exfalso;dsimp only at hm1 h45;omega
 dsimp only at hmk
 subst hmk
 have hkl:=(cD hyk).1
 refine aw Z Z Z Z Z (fun w' hw'=>Kt Z Z)<|aw Z Z Z Z Z (fun w' hw'=>Yb Z)<|aw Z Z Z Z Z (fun w' hw'=>Ys Z)<|aw Z Z Z Z Z (fun w' hw'=>Yp Z)<|aw Z Z Z Z Z (fun w' hw'=>aI Z)<|aw Z Z Z Z Z (fun w' hw'=>Zf hN Z)<|aw Z Z Z Z Z (fun w' hw'=>aV aj Z (aB ((H.later hw').ent (i:=0) Z) Z))<|qg H 0 Z Z Z Z Z dN Z Z I I fun b7 o7 x7 e7=> ?_
 obtain rfl:y=x7:=by have:=e7.at_;rw[hyk]at this;injection this
 refine aw Z Z Z Z Z (fun w' hw'=>Zf eB Z)<|aw Z Z Z Z Z (fun w' hw'=>aV aj Z (e7.later hw' 4 _ Z))<|aw Z Z Z Z Z (fun w' hw'=>Zf eB Z)<|aw Z Z Z Z Z (fun w' hw'=>aV aj Z (aB ((H.later hw').ent (i:=1) Z) Z)) ?_
 refine Bi Z Z Z Z Z (fun w' hw'=>bh Z Z) (fun h58=> ?_) (fun h58=> ?_)
 refine aw Z Z Z Z Z (fun w' hw'=>Kt Z Z)<|aw Z Z Z Z Z (fun w' hw'=>Yb Z)<|aw Z Z Z Z Z (fun w' hw'=>Ys Z)<|aw Z Z Z Z Z (fun w' hw'=>Yp Z)<|aw Z Z Z Z Z (fun w' hw'=>aI Z)<|aw Z Z Z Z Z (fun w' hw'=>Zf hN Z)<|aw Z Z Z Z Z (fun w' hw'=>aV aj Z (aB ((H.later hw').ent (i:=0) Z) Z))<|qg H 0 Z Z Z Z Z dN Z Z I I fun b8 o8 x8 e8=> ?_
 obtain rfl:y=x8:=by have:=e8.at_;rw[hyk]at this;injection this
 refine aw Z Z Z Z Z (fun w' hw'=>Zf ei Z)<|aw Z Z Z Z Z (fun w' hw'=>aV aj Z (e8.later hw' 2 _ Z))<|aw Z Z Z Z Z (fun w' hw'=>Zf ei Z)<|aw Z Z Z Z Z (fun w' hw'=>aV aj Z (aB ((H.later hw').ent (i:=1) Z) Z)) ?_
 refine Bi Z Z Z Z Z (fun w' hw'=>bh Z Z) (fun h71=> ?_) (fun h71=> ?_)
 refine aw Z Z Z Z Z (fun w' hw'=>Kt Z Z)<|aU ?_
 intro w9 hw' hF
 replace H:=H.later hw';clear hw' hF
 refine U<|ZT Z<|W<|Zr<|G (Yp Z)<|G (aI Z)<|G (Zf hN Z)<|G (Zd aj H 0 Z Z Z)<|G (Wi Z)<|G (Wi Z)<|U<|Zt ?_
 have hmk:vG es (k:Nat) x=true:=by
  unfold vG;rw[show((k:Nat):Int).toNat=k from rfl,hyk];simp[h58,h71]
 have hv:gM es x=((k:Int),0):=by
  unfold gM;rw[if_neg h11,<-hp];unfold oV;simp[h30,h34,h39,h45,h58,h71,hmk]
 exact l9 (v:=J ((k:Int))) (v2:=J 0) Z Z Z ⟨by rw[hv],H.below⟩
 refine aw Z Z Z Z Z (fun w' hw'=>Kt Z Z)<|aU ?_
 intro w10 hw' hF
 replace H:=H.later hw';clear hw' hF
 refine U<|ZF Z<|Zk<|W<|Zr<|G (Wi Z)<|G (Wi Z)<|U<|Zt ?_
 have hmk:vG es (k:Nat) x=false:=by
  unfold vG;rw[show((k:Nat):Int).toNat=k from rfl,hyk];simp[h58,h71]
 have hv:gM es x=(-1,0):=by
  unfold gM;rw[if_neg h11,<-hp];unfold oV;simp[h30,h34,h39,h45,h58,h71,hmk]
 exact l9 (v:=J (-1)) (v2:=J 0) Z Z Z ⟨by rw[hv],H.below⟩
 refine aw Z Z Z Z Z (fun w' hw'=>Kt Z Z)<|aw Z Z Z Z Z (fun w' hw'=>Yb Z)<|eU Z Z Z Z<|eU Z Z Z Z<|eU Z Z Z Z<|eU Z Z Z Z<|eU Z Z Z Z<|eU Z Z Z Z<|eU Z Z Z Z<|eU Z Z Z Z<|eU Z Z Z Z<|eU Z Z Z Z<|eU Z Z Z Z<|aw Z Z Z Z Z (fun w' hw'=>N Z Z)<|aU ?_
 intro w11 hw' hF
 replace H:=H.later hw';clear hw' hF
 refine U<|ZF Z<|Zk<|W<|Zr<|G (Wi Z)<|G (Wi Z)<|U<|Zt ?_
 have hmk:vG es (k:Nat) x=false:=by
  unfold vG;rw[show((k:Nat):Int).toNat=k from rfl,hyk];simp[h58]
 have hv:gM es x=(-1,0):=by
  unfold gM;rw[if_neg h11,<-hp];unfold oV;simp[h30,h34,h39,h45,h58,hmk]
 exact l9 (v:=J (-1)) (v2:=J 0) Z Z Z ⟨by rw[hv],H.below⟩
 refine aw Z Z Z Z Z (fun w' hw'=>Kt Z Z)<|aw Z Z Z Z Z (fun w' hw'=>Yb Z)<|eU Z Z Z Z<|eU Z Z Z Z<|eU Z Z Z Z<|eU Z Z Z Z<|eU Z Z Z Z<|eU Z Z Z Z<|eU Z Z Z Z<|eU Z Z Z Z<|eU Z Z Z Z<|eU Z Z Z Z<|eU Z Z Z Z<|aw Z Z Z Z Z (fun w' hw'=>N Z Z)<|aw Z Z Z Z Z (fun w' hw'=>Yb Z)<|eU Z Z Z Z<|eU Z Z Z Z<|eU Z Z Z Z<|eU Z Z Z Z<|eU Z Z Z Z<|eU Z Z Z Z<|eU Z Z Z Z<|eU Z Z Z Z<|eU Z Z Z Z<|eU Z Z Z Z<|eU Z Z Z Z<|aw Z Z Z Z Z (fun w' hw'=>N Z Z)<|aU ?_
 intro w12 hw' hF
 replace H:=H.later hw';clear hw' hF
 refine U<|ZF Z<|Zk<|W<|Zr<|G (Wi Z)<|G (Wi Z)<|U<|Zt ?_
 have hv:gM es x=(-1,0):=by
  unfold gM;rw[if_neg h11,<-hp];unfold oV;simp[h30,h34,h39,h45]
 exact l9 (v:=J (-1)) (v2:=J 0) Z Z Z ⟨by rw[hv],H.below⟩
 refine aw Z Z Z Z Z (fun w' hw'=>Yb Z)<|eU Z Z Z Z<|eU Z Z Z Z<|eU Z Z Z Z<|eU Z Z Z Z<|eU Z Z Z Z<|aw Z Z Z Z Z (fun w' hw'=>N Z Z)<|aw Z Z Z Z Z (fun w' hw'=>Yb Z)<|eU Z Z Z Z<|eU Z Z Z Z<|eU Z Z Z Z<|eU Z Z Z Z<|eU Z Z Z Z<|eU Z Z Z Z<|eU Z Z Z Z<|eU Z Z Z Z<|eU Z Z Z Z<|eU Z Z Z Z<|eU Z Z Z Z<|aw Z Z Z Z Z (fun w' hw'=>N Z Z)<|aw Z Z Z Z Z (fun w' hw'=>Yb Z)<|eU Z Z Z Z<|eU Z Z Z Z<|eU Z Z Z Z<|eU Z Z Z Z<|eU Z Z Z Z<|eU Z Z Z Z<|eU Z Z Z Z<|eU Z Z Z Z<|eU Z Z Z Z<|eU Z Z Z Z<|eU Z Z Z Z<|aw Z Z Z Z Z (fun w' hw'=>N Z Z)<|aU ?_
 intro w13 hw' hF
 replace H:=H.later hw';clear hw' hF
 refine U<|ZF Z<|Zk<|W<|Zr<|G (Wi Z)<|G (Wi Z)<|U<|Zt ?_
 have hv:gM es x=(-1,0):=by
  unfold gM;rw[if_neg h11,<-hp];unfold oV;simp[h30,h34,h39]
 exact l9 (v:=J (-1)) (v2:=J 0) Z Z Z ⟨by rw[hv],H.below⟩
 refine G (Wb Z)<|U<|ZF Z<|W ?_
 refine bD bZ [0,1,2,3,4,5,6,7] [] [] [0,2,3,4,6,7] (sp []) N N N N Nq (cI _) ?_
 refine aw Z Z Z Z Z (fun w' hw'=>Zf ei Z)<|aw Z Z Z Z Z (fun w' hw'=>aV aj Z (aB ((H.later hw').ent (i:=1) Z) Z))<|aw Z Z Z Z Z (fun w' hw'=>Yp Z)<|aw Z Z Z Z Z (fun w' hw'=>aI Z)<|aw Z Z Z Z Z (fun w' hw'=>Zf jN Z)<|aw Z Z Z Z Z (fun w' hw'=>aV aj Z (aB ((H.later hw').ent (i:=0) Z) Z)) ?_
 refine Bi Z Z Z Z Z (fun w' hw'=>jV Z Z) (fun h84=> ?_) (fun h84=> ?_)
 refine aw Z Z Z Z Z (fun w' hw'=>Wb Z)<|aU ?_
 intro w14 hw' hF
 replace H:=H.later hw';clear hw' hF
 refine U<|ZT Z<|Zr<|G (Yp Z)<|G (aI Z)<|G (Zf fl Z)<|bl H 0 (#[J pv_,J (-1),J po,J pm]) bI Z Z Z Z Z N N fun w15 H=>U<|W<|W ?_
 refine bD bZ [0,1,2,3,4,5,6,7] [] [] [0,2,3,4,6,7] (sp []) N N N N Nq (cI _) ?_
 refine aw Z Z Z Z Z (fun w' hw'=>Zf eR Z)<|aw Z Z Z Z Z (fun w' hw'=>aV aj Z (aB ((H.later hw').ent (i:=1) Z) Z))<|aw Z Z Z Z Z (fun w' hw'=>Yp Z)<|aw Z Z Z Z Z (fun w' hw'=>aI Z)<|aw Z Z Z Z Z (fun w' hw'=>Zf fl Z)<|aw Z Z Z Z Z (fun w' hw'=>aV aj Z (aB ((H.later hw').ent (i:=0) Z) Z))<|aw Z Z Z Z Z (fun w' hw'=>bp Z Z I I) ?_
 refine Bi Z Z Z Z Z (fun w' hw'=>jV Z Z) (fun h95=> ?_) (fun h95=> ?_)
 refine aU ?_
 intro w16 hw' hF
 replace H:=H.later hw';clear hw' hF
 refine U<|ZT Z<|W<|Zr<|G (Wi Z)<|G (Wi Z)<|U<|Zt ?_
 replace h95:0<x.seq:=by omega
 have hv:gM es x=(0,11):=by
  unfold gM;rw[if_neg h11,<-hp];unfold oV;simp[h30,h34,h84,h95]
 exact l9 (v:=J (0)) (v2:=J 11) Z Z Z ⟨by rw[hv],H.below⟩
 refine aU ?_
 intro w17 hw' hF
 replace H:=H.later hw';clear hw' hF
 refine U<|ZF Z<|Zk<|W<|W ?_
 refine bD bZ [0,1,2,3,4,5,6,7] [] [] [0,2,3,4,6,7] (sp []) N N N N Nq (cI _) ?_
 refine aw Z Z Z Z Z (fun w' hw'=>Zf eR Z)<|aw Z Z Z Z Z (fun w' hw'=>aV aj Z (aB ((H.later hw').ent (i:=1) Z) Z))<|aw Z Z Z Z Z (fun w' hw'=>Yp Z)<|aw Z Z Z Z Z (fun w' hw'=>aI Z)<|aw Z Z Z Z Z (fun w' hw'=>Zf fl Z)<|aw Z Z Z Z Z (fun w' hw'=>aV aj Z (aB ((H.later hw').ent (i:=0) Z) Z))<|aw Z Z Z Z Z (fun w' hw'=>bp Z Z I I) ?_
 refine Bi Z Z Z Z Z (fun w' hw'=>bh Z Z) (fun h103=> ?_) (fun h103=> ?_)
 refine aU ?_
 intro w18 hw' hF
 replace H:=H.later hw';clear hw' hF
 refine U<|ZT Z<|W<|Zr<|G (Wi Z)<|G (Wi Z)<|U<|Zt ?_
 replace h95: ¬ 0<x.seq:=by omega
 replace h103:x.seq=0:=by omega
 have hv:gM es x=(-1,0):=by
  unfold gM;rw[if_neg h11,<-hp];unfold oV;simp[h30,h34,h84,h95,h103]
 exact l9 (v:=J (-1)) (v2:=J 0) Z Z Z ⟨by rw[hv],H.below⟩
 refine aU ?_
 intro w19 hw' hF
 replace H:=H.later hw';clear hw' hF
 refine U<|ZF Z<|Zk<|W<|W<|Zr<|G (Ys Z)<|G (bn eh Z)<|G (Yi Z)<|U<|Zb ?_
 refine cf (τ:=Nat) [4,5,7,8,106,107,108,109,110,111,112,113,114,115,116,117,118,119,120,121,122,123,124,125,126,127,128,129,130,131,132,133,134,135,136] (fun i=>[(106,J (i:Nat))]) (fun i w'=>i<=es.length/\(∀ j e,j<i->es[j]? =some e->mZ x e=false)/\Hp w w' ((b,.cells #[J pv_,J (-1),J po,J pm] lI (0,0))::(b3,.cells (cH.c x).toArray dh (0,0))::K) [dG gz 0 w.heap.size A es]) (fun i=>es.length-i) 0 ⟨by omega,by intro j e hj;omega,H⟩ (dF Z) ?_
 rintro i ρ3 w20 ⟨hi,hno,H⟩
 show CW _ _ _ _ (dv (gk _ _ ρ3) [(106,J (i:Nat))]) w20
 refine W<|Zr ?_
 refine cR (cG Z Z) Z Z Z (fun h107=> ?_) (fun h107=> ?_)
 refine U<|W<|ZT Z<|Zk<|W<|Zb<|W<|Zr<|G (Yi Z)<|pK H 0 Z dN Z Z I I Z fun b21 o21 x21 e21=>G (jd (xs:=cH.c x21) dB Z Z e21.cl)<|eC H fU Z fun w22 b8 H=>G (Wi Z)<|Kk H 0 eM Z Z Z Z Z Z fun w23 H=>U<|W<|Zr<|G (Zf eB Z)<|G (Zd aj H 0 Z Z Z) ?_
 refine cR (bh Z Z) Z Z Z (fun h113=> ?_) (fun h113=> ?_)
 refine G (Yb Z)<|ZG<|G (Zf eS Z)<|ZG<|G (Zd aj H 0 Z Z Z)<|ZG<|G (Zf eS Z)<|ZG<|G (Zd aj H 2 Z Z Z)<|ZG ?_
 refine cR (bh Z Z) Z Z Z (fun h119=> ?_) (fun h119=> ?_)
 refine G (Kt Z Z)<|G (Yb Z)<|ZG<|G (Zf ei Z)<|ZG<|G (Zd aj H 0 Z Z Z)<|ZG<|G (Zf ei Z)<|ZG<|G (Zd aj H 2 Z Z Z)<|ZG ?_
 refine cR (bh Z Z) Z Z Z (fun h126=> ?_) (fun h126=> ?_)
 refine G (Kt Z Z)<|G (Yb Z)<|ZG<|G (Zf eR Z)<|ZG<|G (Zd aj H 0 Z Z Z)<|ZG<|G (Zf eR Z)<|ZG<|G (Zd aj H 2 Z Z Z)<|ZG ?_
 refine cR (bh Z Z) Z Z Z (fun h133=> ?_) (fun h133=> ?_)
 refine G (Kt Z Z)<|U<|ZT Z<|W<|Zr<|G (Yi Z)<|G (Wi Z)<|G (Wi Z)<|U<|Zt ?_
 replace h95: ¬ 0<x.seq:=by omega
 replace h103: ¬ x.seq=0:=by omega
 have hdup:=FN e21.at_ (by simp[mZ,h113,h119,h126,h133]) hno
 have hv:gM es x=((i:Int),0):=by
  unfold gM;rw[if_neg h11,<-hp];unfold oV;simp[h30,h34,h84,h95,h103,hdup]
 exact l9 (v:=J ((i:Int))) (v2:=J 0) Z Z Z ⟨by rw[hv],H.below⟩
 refine G (Kt Z Z)<|U<|ZF Z<|Zk<|Zr<|G (bp Z Z I I)<|G (Yi Z)<|U ?_
 refine⟨i+1,⟨by omega,fun j e hj he=> ?_,H.forget (aX _ _) (fun _ h=>h)⟩,dF Z,Qg,by show es.length- (i+1)<es.length-i;omega⟩
 by_cases hji:j<i
 exact hno j e hji he
 have:j=i:=by omega
 subst this;have he2:=e21.at_;rw[he]at he2;injection he2 with he2;subst he2
 simp[mZ,h113,h119,h126,h133]
 refine G (Kt Z Z)<|G (Yb Z)<|ZN<|ZN<|ZN<|ZN<|ZN<|G (N Z Z)<|U<|ZF Z<|Zk<|Zr<|G (bp Z Z I I)<|G (Yi Z)<|U ?_
 refine⟨i+1,⟨by omega,fun j e hj he=> ?_,H.forget (aX _ _) (fun _ h=>h)⟩,dF Z,Qg,by show es.length- (i+1)<es.length-i;omega⟩
 by_cases hji:j<i
 exact hno j e hji he
 have:j=i:=by omega
 subst this;have he2:=e21.at_;rw[he]at he2;injection he2 with he2;subst he2
 simp[mZ,h113,h119,h126]
 refine G (Kt Z Z)<|G (Yb Z)<|ZN<|ZN<|ZN<|ZN<|ZN<|G (N Z Z)<|G (Yb Z)<|ZN<|ZN<|ZN<|ZN<|ZN<|G (N Z Z)<|U<|ZF Z<|Zk<|Zr<|G (bp Z Z I I)<|G (Yi Z)<|U ?_
 refine⟨i+1,⟨by omega,fun j e hj he=> ?_,H.forget (aX _ _) (fun _ h=>h)⟩,dF Z,Qg,by show es.length- (i+1)<es.length-i;omega⟩
 by_cases hji:j<i
 exact hno j e hji he
 have:j=i:=by omega
 subst this;have he2:=e21.at_;rw[he]at he2;injection he2 with he2;subst he2
 simp[mZ,h113,h119]
 refine G (Yb Z)<|ZN<|ZN<|ZN<|ZN<|ZN<|G (N Z Z)<|G (Yb Z)<|ZN<|ZN<|ZN<|ZN<|ZN<|G (N Z Z)<|G (Yb Z)<|ZN<|ZN<|ZN<|ZN<|ZN<|G (N Z Z)<|U<|ZF Z<|Zk<|Zr<|G (bp Z Z I I)<|G (Yi Z)<|U ?_
 refine⟨i+1,⟨by omega,fun j e hj he=> ?_,H.forget (aX _ _) (fun _ h=>h)⟩,dF Z,Qg,by show es.length- (i+1)<es.length-i;omega⟩
 by_cases hji:j<i
 exact hno j e hji he
 have:j=i:=by omega
 subst this;have he2:=e21.at_;rw[he]at he2;injection he2 with he2;subst he2
 simp[mZ,h113]
 refine U<|W<|ZF Z<|Zx<|W<|Zr<|G (Wi Z)<|G (Wi Z)<|U<|Zt ?_
 replace h95: ¬ 0<x.seq:=by omega
 replace h103: ¬ x.seq=0:=by omega
 have hdup:=FO (x:=x) (es:=es) (fun j e hj he=>hno j e I he)
 have hv:gM es x=(0,11):=by
  unfold gM;rw[if_neg h11,<-hp];unfold oV;simp[h30,h34,h84,h95,h103,hdup]
 exact l9 (v:=J (0)) (v2:=J 11) Z Z Z ⟨by rw[hv],H.below⟩
 refine aw Z Z Z Z Z (fun w' hw'=>Wb Z)<|aU ?_
 intro w24 hw' hF
 replace H:=H.later hw';clear hw' hF
 refine U<|ZF Z<|Zk<|W<|W ?_
 refine bD bZ [0,1,2,3,4,5,6,7] [] [] [0,2,3,4,6,7] (sp []) N N N N Nq (cI _) ?_
 refine aw Z Z Z Z Z (fun w' hw'=>Zf eR Z)<|aw Z Z Z Z Z (fun w' hw'=>aV aj Z (aB ((H.later hw').ent (i:=1) Z) Z))<|aw Z Z Z Z Z (fun w' hw'=>Yp Z)<|aw Z Z Z Z Z (fun w' hw'=>aI Z)<|aw Z Z Z Z Z (fun w' hw'=>Zf fl Z)<|aw Z Z Z Z Z (fun w' hw'=>aV aj Z (aB ((H.later hw').ent (i:=0) Z) Z))<|aw Z Z Z Z Z (fun w' hw'=>bp Z Z I I) ?_
 refine Bi Z Z Z Z Z (fun w' hw'=>jV Z Z) (fun h95=> ?_) (fun h95=> ?_)
 refine aU ?_
 intro w25 hw' hF
 replace H:=H.later hw';clear hw' hF
 refine U<|ZT Z<|W<|Zr<|G (Wi Z)<|G (Wi Z)<|U<|Zt ?_
 have hv:gM es x=(0,11):=by
  unfold gM;rw[if_neg h11,<-hp];unfold oV;simp[h30,h34,h84,h95]
 exact l9 (v:=J (0)) (v2:=J 11) Z Z Z ⟨by rw[hv],H.below⟩
 refine aU ?_
 intro w26 hw' hF
 replace H:=H.later hw';clear hw' hF
 refine U<|ZF Z<|Zk<|W<|W ?_
 refine bD bZ [0,1,2,3,4,5,6,7] [] [] [0,2,3,4,6,7] (sp []) N N N N Nq (cI _) ?_
 refine aw Z Z Z Z Z (fun w' hw'=>Zf eR Z)<|aw Z Z Z Z Z (fun w' hw'=>aV aj Z (aB ((H.later hw').ent (i:=1) Z) Z))<|aw Z Z Z Z Z (fun w' hw'=>Yp Z)<|aw Z Z Z Z Z (fun w' hw'=>aI Z)<|aw Z Z Z Z Z (fun w' hw'=>Zf fl Z)<|aw Z Z Z Z Z (fun w' hw'=>aV aj Z (aB ((H.later hw').ent (i:=0) Z) Z))<|aw Z Z Z Z Z (fun w' hw'=>bp Z Z I I) ?_
 refine Bi Z Z Z Z Z (fun w' hw'=>bh Z Z) (fun h103=> ?_) (fun h103=> ?_)
 refine aU ?_
 intro w27 hw' hF
 replace H:=H.later hw';clear hw' hF
 refine U<|ZT Z<|W<|Zr<|G (Wi Z)<|G (Wi Z)<|U<|Zt ?_
 have hv:gM es x=(-1,0):=by
  unfold gM;rw[if_neg h11,<-hp];unfold oV;simp[h30,h34,h84,h95,h103]
 exact l9 (v:=J (-1)) (v2:=J 0) Z Z Z ⟨by rw[hv],H.below⟩
 refine aU ?_
 intro w28 hw' hF
 replace H:=H.later hw';clear hw' hF
 refine U<|ZF Z<|Zk<|W<|W<|Zr<|G (Ys Z)<|G (bn eh Z)<|G (Yi Z)<|U<|Zb ?_
 refine cf (τ:=Nat) [4,5,7,8,106,107,108,109,110,111,112,113,114,115,116,117,118,119,120,121,122,123,124,125,126,127,128,129,130,131,132,133,134,135,136] (fun i=>[(106,J (i:Nat))]) (fun i w'=>i<=es.length/\(∀ j e,j<i->es[j]? =some e->mZ x e=false)/\Hp w w' ((b,.cells #[J pv_,J ps,J po,J pm] lI (0,0))::(b3,.cells (cH.c x).toArray dh (0,0))::K) [dG gz 0 w.heap.size A es]) (fun i=>es.length-i) 0 ⟨by omega,by intro j e hj;omega,H⟩ (dF Z) ?_
 rintro i ρ3 w29 ⟨hi,hno,H⟩
 show CW _ _ _ _ (dv (gk _ _ ρ3) [(106,J (i:Nat))]) w29
 refine W<|Zr ?_
 refine cR (cG Z Z) Z Z Z (fun h107=> ?_) (fun h107=> ?_)
 refine U<|W<|ZT Z<|Zk<|W<|Zb<|W<|Zr<|G (Yi Z)<|pK H 0 Z dN Z Z I I Z fun b30 o30 x30 e30=>G (jd (xs:=cH.c x30) dB Z Z e30.cl)<|eC H fU Z fun w31 b8 H=>G (Wi Z)<|Kk H 0 eM Z Z Z Z Z Z fun w32 H=>U<|W<|Zr<|G (Zf eB Z)<|G (Zd aj H 0 Z Z Z) ?_
 refine cR (bh Z Z) Z Z Z (fun h113=> ?_) (fun h113=> ?_)
 refine G (Yb Z)<|ZG<|G (Zf eS Z)<|ZG<|G (Zd aj H 0 Z Z Z)<|ZG<|G (Zf eS Z)<|ZG<|G (Zd aj H 2 Z Z Z)<|ZG ?_
 refine cR (bh Z Z) Z Z Z (fun h119=> ?_) (fun h119=> ?_)
 refine G (Kt Z Z)<|G (Yb Z)<|ZG<|G (Zf ei Z)<|ZG<|G (Zd aj H 0 Z Z Z)<|ZG<|G (Zf ei Z)<|ZG<|G (Zd aj H 2 Z Z Z)<|ZG ?_
 refine cR (bh Z Z) Z Z Z (fun h126=> ?_) (fun h126=> ?_)
 refine G (Kt Z Z)<|G (Yb Z)<|ZG<|G (Zf eR Z)<|ZG<|G (Zd aj H 0 Z Z Z)<|ZG<|G (Zf eR Z)<|ZG<|G (Zd aj H 2 Z Z Z)<|ZG ?_
 refine cR (bh Z Z) Z Z Z (fun h133=> ?_) (fun h133=> ?_)
 refine G (Kt Z Z)<|U<|ZT Z<|W<|Zr<|G (Yi Z)<|G (Wi Z)<|G (Wi Z)<|U<|Zt ?_
 have hdup:=FN e30.at_ (by simp[mZ,h113,h119,h126,h133]) hno
 have hv:gM es x=((i:Int),0):=by
  unfold gM;rw[if_neg h11,<-hp];unfold oV;simp[h30,h34,h84,h95,h103,hdup]
 exact l9 (v:=J ((i:Int))) (v2:=J 0) Z Z Z ⟨by rw[hv],H.below⟩
 refine G (Kt Z Z)<|U<|ZF Z<|Zk<|Zr<|G (bp Z Z I I)<|G (Yi Z)<|U ?_
 refine⟨i+1,⟨by omega,fun j e hj he=> ?_,H.forget (aX _ _) (fun _ h=>h)⟩,dF Z,Qg,by show es.length- (i+1)<es.length-i;omega⟩
 by_cases hji:j<i
 exact hno j e hji he
 have:j=i:=by omega
 subst this;have he2:=e30.at_;rw[he]at he2;injection he2 with he2;subst he2
 simp[mZ,h113,h119,h126,h133]
 refine G (Kt Z Z)<|G (Yb Z)<|ZN<|ZN<|ZN<|ZN<|ZN<|G (N Z Z)<|U<|ZF Z<|Zk<|Zr<|G (bp Z Z I I)<|G (Yi Z)<|U ?_
 refine⟨i+1,⟨by omega,fun j e hj he=> ?_,H.forget (aX _ _) (fun _ h=>h)⟩,dF Z,Qg,by show es.length- (i+1)<es.length-i;omega⟩
 by_cases hji:j<i
 exact hno j e hji he
 have:j=i:=by omega
 subst this;have he2:=e30.at_;rw[he]at he2;injection he2 with he2;subst he2
 simp[mZ,h113,h119,h126]
 refine G (Kt Z Z)<|G (Yb Z)<|ZN<|ZN<|ZN<|ZN<|ZN<|G (N Z Z)<|G (Yb Z)<|ZN<|ZN<|ZN<|ZN<|ZN<|G (N Z Z)<|U<|ZF Z<|Zk<|Zr<|G (bp Z Z I I)<|G (Yi Z)<|U ?_
 refine⟨i+1,⟨by omega,fun j e hj he=> ?_,H.forget (aX _ _) (fun _ h=>h)⟩,dF Z,Qg,by show es.length- (i+1)<es.length-i;omega⟩
 by_cases hji:j<i
 exact hno j e hji he
 have:j=i:=by omega
 subst this;have he2:=e30.at_;rw[he]at he2;injection he2 with he2;subst he2
 simp[mZ,h113,h119]
 refine G (Yb Z)<|ZN<|ZN<|ZN<|ZN<|ZN<|G (N Z Z)<|G (Yb Z)<|ZN<|ZN<|ZN<|ZN<|ZN<|G (N Z Z)<|G (Yb Z)<|ZN<|ZN<|ZN<|ZN<|ZN<|G (N Z Z)<|U<|ZF Z<|Zk<|Zr<|G (bp Z Z I I)<|G (Yi Z)<|U ?_
 refine⟨i+1,⟨by omega,fun j e hj he=> ?_,H.forget (aX _ _) (fun _ h=>h)⟩,dF Z,Qg,by show es.length- (i+1)<es.length-i;omega⟩
 by_cases hji:j<i
 exact hno j e hji he
 have:j=i:=by omega
 subst this;have he2:=e30.at_;rw[he]at he2;injection he2 with he2;subst he2
 simp[mZ,h113]
 refine U<|W<|ZF Z<|Zx<|W<|Zr<|G (Wi Z)<|G (Wi Z)<|U<|Zt ?_
 have hdup:=FO (x:=x) (es:=es) (fun j e hj he=>hno j e I he)
 have hv:gM es x=(0,11):=by
  unfold gM;rw[if_neg h11,<-hp];unfold oV;simp[h30,h34,h84,h95,h103,hdup]
 exact l9 (v:=J (0)) (v2:=J 11) Z Z Z ⟨by rw[hv],H.below⟩
def Es (es:List cH) (n i:Nat):List ByteArray:=match es[i]? with
 |some e=>if e.kind=1/\yr (es.take n) i e=true then [e.text]else []
 |none=>[]
def texts (es:List cH) (n a b:Nat):List ByteArray:=(List.range' a (b-a)).flatMap (Es es n)
theorem Gg (es:List cH) (n a:Nat):texts es n a a=[]:=by simp[texts]
theorem vz {es:List cH} {n a b:Nat} (h:a<=b):texts es n a (b+1)=texts es n a b++Es es n b:=by
 unfold texts
 have e:b+1-a=(b-a)+1:=by omega
 rw[e,List.range'_1_concat,mQ]
 have e2:a+(b-a)=b:=by omega
 simp[e2]
def Bc (es:List cH) (n st a most:Nat) (out:List ByteArray) (b:Nat):Prop:=a<=b/\(b=a∨b<=st)/\out=texts es n a b/\out.length<=most/\(st<=b∨out.length=most)/\ ∀ bq_,a<=bq_->bq_<b->(texts es n a bq_).length<most
theorem MF (es:List cH) (A:Option Addr) (c n a most:Nat) (w:World) (hr:Rd gz 0 w.heap.size A es w) (hc:es.length<=c) (hb:es.length<=1000000) (hn:n<=es.length) (ha:a<=es.length) (hm1:1<=most) (hm2:most<=20):
  dd aa yu [.slice A es.length c,J (n:Nat),J (a:Nat),J (most:Nat)] w fun v w2=> ∃ (st:Nat) (out:List ByteArray) (b:Nat) (A':Option Addr) (c':Nat),tH (es.take n) st/\Bc es n st a most out b/\v=.tuple #[.slice A' out.length c',J (b:Nat),J 0]/\Rd m8 w.heap.size w2.heap.size A' out w2/\out.length<=c'/\Below w.heap.size w w2:=by
 refine aE wI Z Z ?_
 have H:=Hp.startRd hr
 refine W<|Zr<|G (Ws Z)<|G (Wi Z)<|G (Wi Z)<|U<|W<|Zr<|G (Ys Z)<|G (Yi Z)<|cd tZ (Ck es _ _ n _ (H.rd0 0 Z) hc hb hn) Z Z ?_
 rintro _ w1 ⟨st,hst,rfl,hb2⟩;replace H:=H.later hb2;clear hb2
 have hstl:st<=n:=by have:=hst.1;simp at this;omega
 refine G (Yu Z)<|G (Xi Z Z)<|G (Xi Z Z)<|G (Wi Z)<|G (Wi Z)<|U<|W<|W<|Zr<|G (Yi Z)<|G (bX Z Z Z)<|U<|ZF Z<|Zk<|W<|W<|Zr<|G (Yi Z)<|G (cY Z Z I)<|G (Yb Z)<|ZG<|G (Yi Z)<|ZG<|G (Ys Z)<|ZG<|G (bn eh Z)<|ZG<|G (er Z Z I)<|G (N Z Z)<|G (Yb Z)<|ZG<|G (Yi Z)<|ZG<|G (cY Z Z I)<|G (N Z Z)<|G (Yb Z)<|ZG<|G (Yi Z)<|ZG<|G (er Z Z I) ?_
 refine G (N Z Z)<|U<|ZF Z<|Zk<|W<|Zr<|G (Ws Z)<|U<|W<|Zr<|G (Yi Z)<|G (Wi Z)<|U<|W<|Zb ?_
 refine cf (τ:=Nat×List ByteArray×Option Addr×Nat) [13,14,41,42,43,44,45,46,47,48,49,50,51,52,53,54,55,56,57,58,59,60,61,62,63,64,65,66,67,68,69,70,71,72] (fun(at_,out,A1,c1)=>[(13,.slice A1 out.length c1),(14,J (at_:Nat))]) (fun(at_,out,A1,c1) w'=>a<=at_/\(at_=a∨at_<=st)/\out=texts es n a at_/\out.length<=most/\(∀ bq_,a<=bq_->bq_<at_->(texts es n a bq_).length<most)/\ ∃ L',gi m8 (.slice A1 out.length c1) kD out L'/\Hp w w' ([]++L'++[]) [dG gz 0 w.heap.size A es]) (fun(at_,_,_,_)=>st-at_) (a,[],none,0) ⟨by omega,.inl Z,(Gg _ _ _).symm,by simp,(fun _ _ _=>by omega),[],gi.nil,H⟩ (kZ Z Z) ?_
 rintro⟨at_,out,A1,c1⟩ ρ1 w2 ⟨hat1,hat2,hout,hol,hmin,L1,ho,H⟩
 show CW _ _ _ _ (dv (gk _ _ ρ1) [(13,.slice A1 out.length c1),(14,J (at_:Nat))]) w2
 refine W<|W<|Zr<|G (Yi Z)<|G (Yi Z) ?_
 refine cR (cG Z Z) Z Z Z (fun h43=> ?_) (fun h43=> ?_)
 refine G (Yb Z)<|ZG<|G (Ys Z)<|ZG<|G (bn lM Z)<|ZG<|G (Yi Z)<|ZG ?_
 refine cR (cG Z Z) Z Z Z (fun h48=> ?_) (fun h48=> ?_)
 refine G (Kt Z Z)<|U<|ZT Z<|Zk<|W<|Zb<|W<|Zr<|G (Ys Z)<|G (Yi Z)<|pK H 0 Z dN Z Z I I Z fun b3 o3 x3 e3=> ?_
 have hxt:(es.take n)[at_]? =some x3:=by rw[fD I];exact e3.at_
 refine G (Zf eB Z)<|G (aV aj Z (e3.cl 4 _ Z)) ?_
 refine cR (bh Z Z) Z Z Z (fun h57=> ?_) (fun h57=> ?_)
 refine G (Yb Z)<|ZG<|G (Ys Z)<|ZG<|G (Yi Z)<|ZG<|sd (k:=n) H 0 Z dN Z Z hc I Z fun A61 H=>ZG ?_
 have hK:=M7 (es.take n) A61 c at_ x3 _ (H.rd0 0 Z) hxt (by simp;omega) (by simp;omega)
 rw[show(es.take n).length=n by simp;omega]at hK
 refine G (Yi Z)<|ZG<|cd D3 (hK) Z Z ?_
 rintro _ w4 ⟨rfl,hb2⟩;replace H:=H.later hb2;clear hb2
 refine G (Kt Z Z)<|U ?_
 refine jm Z (fun hc64=> ?_) (fun hc64=> ?_)
 refine Zr<|G (Ys Z)<|G (Ys Z)<|G (Yi Z)<|pK H 1 Z dN Z Z I I Z fun b5 o5 x5 e5=>G (Zf qa Z)<|G (aV ba Z (e5.cl 6 _ Z))<|sY (vs:=[.string x5.text]) H ig v7 Z Z Z Z Z Z fun w6 b71 H=> ?_
 have hxx:x5=x3:=by have h1:=e3.at_;rw[e5.at_]at h1;injection h1
 refine vU (Y:=m8) vS (K:=[(b71,_)]) (L:=L1) (M:=[]) H ho (news:=[x5.text]) Z Z Z (vY.row (m:=1) (sz:=1) (H.ent (i:=0) Z) Z) (by simp only[bP];omega) Z ?_
 intro A3 c3 w7 L3 h3a _ ho3 H
 refine G (Ws Z)<|U<|Zr<|G (Yi Z)<|G (bp Z Z I I)<|G (Wi Z)<|U ?_
 have hvis:Es es n at_=[x5.text]:=by unfold Es;rw[e3.at_];simp only;rw[if_pos ⟨h57,hc64⟩,hxx]
 refine⟨(at_+1,out++[x5.text],A3,c3),⟨by omega,.inr I,by rw[vz hat1,hvis,hout],by simp;omega,(fun bq_ h1 h2=>by rcases iI bq_ at_ with h3|h3;exact hmin bq_ h1 h3;rw[show bq_=at_ by omega,<-hout];omega),L3,ho3,H.forget (by simp) (by simp)⟩,kZ Z Z,Qg,by show st- (at_+1)<st-at_;omega⟩
 refine Zk<|Zr<|G (Yi Z)<|G (bp Z Z I I)<|G (Wi Z)<|U ?_
 have hvis:Es es n at_=[]:=by unfold Es;rw[e3.at_];simp only;rw[if_neg (by rintro⟨p,q⟩;first|exact h57 p|(rw[hc64]at q;cases q))]
 refine⟨(at_+1,out,A1,c1),⟨by omega,.inr I,by rw[vz hat1,hvis,hout,aY],hol,(fun bq_ h1 h2=>by rcases iI bq_ at_ with h3|h3;exact hmin bq_ h1 h3;rw[show bq_=at_ by omega,<-hout];omega),L1,ho,H.forget (by simp) (by simp)⟩,kZ Z Z,Qg,by show st- (at_+1)<st-at_;omega⟩
 refine G (Yb Z)<|ZN<|ZN<|ZN<|ZN<|ZN<|G (N Z Z)<|U<|ZF Z<|Zk<|Zr<|G (Yi Z)<|G (bp Z Z I I)<|G (Wi Z)<|U ?_
 have hvis:Es es n at_=[]:=by unfold Es;rw[e3.at_];simp only;rw[if_neg (by rintro⟨p,q⟩;first|exact h57 p|(rw[hc64]at q;cases q))]
 refine⟨(at_+1,out,A1,c1),⟨by omega,.inr I,by rw[vz hat1,hvis,hout,aY],hol,(fun bq_ h1 h2=>by rcases iI bq_ at_ with h3|h3;exact hmin bq_ h1 h3;rw[show bq_=at_ by omega,<-hout];omega),L1,ho,H.forget (by simp) (by simp)⟩,kZ Z Z,Qg,by show st- (at_+1)<st-at_;omega⟩
 refine G (Kt Z Z)<|U<|ZF Z<|Zx<|W<|Zr<|G (Ys Z)<|G (Yi Z)<|G (Ws Z)<|G (Wi Z)<|G (Wi Z)<|U<|Zt ?_
 obtain⟨A2,c2,he,hlc,-⟩:=ho.form
 injection he with h1 h2 h3
 subst h3
 exact G8 Z Z Z Z ⟨st,out,at_,A1,c1,hst,⟨hat1,hat2,hout,hol,by omega,hmin⟩,rfl,ho.rd H,hlc,H.below⟩
 refine G (Yb Z)<|ZN<|ZN<|ZN<|ZN<|G (N Z Z)<|U<|ZF Z<|Zx<|W<|Zr<|G (Ys Z)<|G (Yi Z)<|G (Ws Z)<|G (Wi Z)<|G (Wi Z)<|U<|Zt ?_
 obtain⟨A2,c2,he,hlc,-⟩:=ho.form
 injection he with h1 h2 h3
 subst h3
 exact G8 Z Z Z Z ⟨st,out,at_,A1,c1,hst,⟨hat1,hat2,hout,hol,by omega,hmin⟩,rfl,ho.rd H,hlc,H.below⟩
/-- what IndexFunc answers -/
def lB:Option Nat->Int
 |some i=>i
 |none=> -1
theorem Rd.blk {α:Type} {Y:fj α} {w:World} {b:Nat} {cs:Array Value} {T:TypeId} {fr:Nat×Nat} {es:List α} (h:w.heap[b]? =some (.cells cs T fr)) (hc:cs.toList=Y.all es):Rd Y 0 w.heap.size (Qd b) es w:=
 fun _=>⟨b,0,rfl,bA _,ce h,fun j u hj=>by rw[cE];exact aB h (by rw[<-hc]at hj;simpa using hj)⟩
def Ow:cH:=⟨0,0,0,0,1,false,⟨#[97]⟩⟩
inductive yb:List cH->Prop
 |nil:yb []
 |snoc {es:List cH} {x:cH}:yb es->(gM es x).2=0->(gM es x).1<0->yb (es++[x])
theorem yb.take {es:List cH} (h:yb es): ∀ k,yb (es.take k):=by
 induction h with
 |nil=>intro k;simp;exact .nil
 |@snoc es x h h1 h2 ih=>
  intro k
  by_cases hk:k<=es.length
  rw[ib hk];exact ih k
  rw[f6 (by simp;omega)];exact .snoc h h1 h2
def F8 (es:List cH) (pid ver:Int):Nat:=(es.filter fun e=>decide (e.kind=1)&&decide (e.pid=pid)&&decide (e.ver=ver)).length
theorem wS (es:List cH) (x:cH) (pid ver:Int):F8 (es++[x]) pid ver=F8 es pid ver+if x.kind=1/\x.pid=pid/\x.ver=ver then 1 else 0:=by
 unfold F8
 rw[i8,ay]
 congr 1
 by_cases h1:x.kind=1<;>by_cases h2:x.pid=pid<;>by_cases h3:x.ver=ver<;>simp[h1,h2,h3]
theorem LR {es:List cH} {a b:Nat} (h:a<=b) (pid ver:Int):F8 (es.take a) pid ver<=F8 (es.take b) pid ver:=by
 unfold F8
 refine List.Sublist.length_le (List.Sublist.filter _ ?_)
 have:es.take a=(es.take b).take a:=by rw[de,br h]
 rw[this]
 exact List.take_sublist _ _
theorem wR {es:List cH} {pid ver:Int} (h: ∀ e∈es,e.pid=pid->e.ver≠ver):F8 es pid ver=0:=by
 unfold F8
 rw[List.length_eq_zero_iff,v6]
 intro e he hc
 simp at hc
 exact h e he hc.1.2 hc.2
theorem J7 {es:List cH} {x:cH} (h0:x.pid≠0) (h1:(gM es x).2=0) (h2:(gM es x).1<0) {p:Prod} (hp:p=(g8 es x.pid).getD ⟨x.ver,-1,-1,-1⟩):p.ver<=x.ver/\(x.kind=1->x.seq=(if p.ver<x.ver then-1 else p.seq)+1):=by
 unfold gM at h1 h2
 rw[if_neg h0,<-hp]at h1 h2
 unfold oV at h1 h2
 split at h1
 simp at h1
 rename_i hv
 rw[if_neg hv]at h2
 refine⟨by omega,fun hk=> ?_⟩
 rw[if_neg (fun h=>h hk)]at h1 h2
 generalize (if p.ver<x.ver then(-1:Int)else p.seq)=s at h1 h2⊢
 split at h1
 simp at h1
 rename_i hg
 rw[if_neg hg]at h2
 split at h1
 assumption
 rename_i hs
 rw[if_neg hs]at h2
 exfalso
 split at h1
 rename_i i hi
 rw[hi]at h2
 simp at h2
 omega
 simp at h1
theorem II {es:List cH} (h:yb es): ∀ pid,pid≠0->(∀ p,g8 es pid=some p->(∀ e∈es,e.pid=pid->e.ver<=p.ver)/\p.seq=(F8 es pid p.ver:Int)-1):=by
 induction h with
 |nil=>intro pid _ p hp;cases hp
 |@snoc es x h h1 h2 ih=>
  intro pid h0 p hp
  rw[si]at hp
  by_cases hx:x.pid=pid
  subst hx
  rw[if_pos ⟨h0,rfl⟩]at hp
  injection hp with hp
  obtain⟨v1,v2⟩:=J7 h0 h1 h2 Z
  have hver:p.ver=x.ver:=by
   rw[<-hp];unfold ff pv
   split<;>(split<;>(try split)<;>simp_all)
  have hle: ∀ e∈es,e.pid=x.pid->e.ver<=x.ver:=fun e he hpe=>by
   cases hq:g8 es x.pid with
   |none=>exact absurd hpe.symm (fun h=>h0 ((na es x.pid).2 hq e he hpe))
   |some q=>
    rw[hq]at v1
    have:=(ih x.pid h0 q hq).1 e he hpe
    simp at v1
    omega
  refine⟨fun e he hpe=> ?_,?_⟩
  rw[hver]
  rcases ar.1 he with he|he
  exact hle e he hpe
  rw[aq.1 he];exact ic _
  rw[hver,wS]
  have hold:(pv x ((g8 es x.pid).getD p0)).seq=(F8 es x.pid x.ver:Int)-1:=by
   cases hq:g8 es x.pid with
   |none=>
    have hz:F8 es x.pid x.ver=0:=wR fun e he hpe=>absurd ((na es x.pid).2 hq e he hpe) h0
    rw[hz];unfold pv;simp only[Option.getD_none];split<;>simp[p0]
   |some q=>
    obtain⟨i1,i2⟩:=ih x.pid h0 q hq
    unfold pv
    simp only[Option.getD_some]
    split
    rename_i hne
    rw[hq]at v1
    simp at v1
    have hz:F8 es x.pid x.ver=0:=wR fun e he hpe hev=>by have:=i1 e he hpe;omega
    rw[hz];rfl
    rename_i heq
    have:x.ver=q.ver:=Classical.not_not.1 heq
    rw[i2,this]
  by_cases hk:x.kind=1
  rw[if_pos ⟨hk,rfl,rfl⟩]
  have hs:=v2 hk
  have hseq:p.seq=x.seq:=by
   rw[<-hp];unfold ff
   rw[if_neg (fun h=>h hk)]
   split<;>rfl
  have hcnt:x.seq=(F8 es x.pid x.ver:Int):=by
   cases hq:g8 es x.pid with
   |none=>
    have hz:F8 es x.pid x.ver=0:=wR fun e he hpe=>absurd ((na es x.pid).2 hq e he hpe) h0
    rw[hq]at hs;simp at hs;omega
   |some q=>
    obtain⟨i1,i2⟩:=ih x.pid h0 q hq
    rw[hq]at hs v1
    simp at hs v1
    by_cases hlt:q.ver<x.ver
    rw[if_pos hlt]at hs
    have hz:F8 es x.pid x.ver=0:=wR fun e he hpe hev=>by have:=i1 e he hpe;omega
    omega
    rw[if_neg hlt]at hs
    have:q.ver=x.ver:=by omega
    rw[this]at i2
    omega
  omega
  rw[if_neg (fun h=>hk h.1)]
  have hseq:p.seq=(pv x ((g8 es x.pid).getD p0)).seq:=by
   rw[<-hp];unfold ff
   rw[if_pos hk]
  rw[hseq,hold];simp
  rw[if_neg (fun h=>hx h.2)]at hp
  obtain⟨i1,i2⟩:=ih pid h0 p hp
  refine⟨fun e he hpe=> ?_,?_⟩
  rcases ar.1 he with he|he
  exact i1 e he hpe
  rw[aq.1 he]at hpe;exact absurd hpe hx
  rw[wS,if_neg (fun h=>hx h.2.1),i2];simp
theorem EK {es:List cH} (h:yb es) {j:Nat} {f:cH} (hj:es[j]? =some f) (h0:f.pid≠0) (hk:f.kind=1):f.seq=(F8 (es.take j) f.pid f.ver:Int):=by
 have h1:=h.take (j+1)
 rw[eL hj]at h1
 have h2:=II h1 f.pid h0 _ (by rw[si,if_pos ⟨h0,rfl⟩])
 have hver:(ff (es.take j).length f ((g8 (es.take j) f.pid).getD p0)).ver=f.ver:=by
  unfold ff pv
  split<;>(split<;>(try split)<;>simp_all)
 have hseq:(ff (es.take j).length f ((g8 (es.take j) f.pid).getD p0)).seq=f.seq:=by
  unfold ff
  rw[if_neg (fun h=>h hk)]
  split<;>rfl
 rw[hver,hseq,wS,if_pos ⟨hk,rfl,rfl⟩]at h2
 omega
theorem IG {es:List cH} (h: ∀ e∈es,ql e):seqB es:=fun e he=>by
 obtain⟨_,_,h3,_⟩:=ov (h e he)
 have:=h3 e.seq (by simp[cH.nums])
 omega
def later (es:List cH) (k:Nat) (x:cH):Bool:=(es.drop k).any fun y=>decide (y.pid=x.pid)&&decide (x.ver<y.ver)
theorem BU (es:List UInt8) (A:Option Addr) (c:Nat) (w:World) (hr:Rd dA 0 w.heap.size A es w) (hb:es.length*1<=140737488355328):
  dd aa kL [.slice A es.length c] w fun v w2=> ∃ A' c' L',v=.slice A' es.length c'/\es.length<=c'/\c'<=maxLen/\gi dA (.slice A' es.length c') mL es L'/\Hp w w2 L' []:=by
 refine aE pZ Z Z ?_
 have H:=Hp.startRd hr
 refine W<|Zr<|G (Ws Z)<|U<|W<|W<|Zr<|G (Ys Z) ?_
 refine wu (qA eN Z) Z Z Z (fun h4=> ?_) (fun h4=> ?_)
 refine U<|ZT Z<|W<|Zr<|G (Ws Z)<|U<|Zt ?_
 have he:es=[]:=by
  cases es with
  |nil=>rfl
  |cons e es=>obtain⟨b,o,hA,_⟩:=hr (by simp);subst hA;cases h4
 subst he
 exact cF Z Z ⟨none,0,[],rfl,by simp,by decide,gi.nil,H.forget (by simp) (by simp)⟩
 refine U<|ZF Z<|Zk<|W<|Zr<|NP H d5 Z fun w1 b5 H=>G (Ys Z)<|vU (Y:=dA) oD (K:=[]) (L:=[(b5,_)]) (M:=[]) H (rU.lit (by decide) (by rfl)) (es:=[]) (news:=es) Z Z Z (Rd.src (H.fact (i:=0) Z)) (by simpa using hb) Z ?_
 intro A3 c3 w3 L3 h3a h3b ho3 H
 refine G (Ws Z)<|U<|Zt ?_
 exact cF Z Z ⟨A3,c3,L3,rfl,h3a,h3b,ho3,H.forget (by simp) (by simp)⟩
theorem sK (es:List Int) (A:Option Addr) (c:Nat) (w:World) (hr:Rd bS 0 w.heap.size A es w) (hb:es.length*8<=140737488355328):
  dd aa lN [.slice A es.length c] w fun v w2=> ∃ A' c' L',v=.slice A' es.length c'/\es.length<=c'/\c'<=maxLen/\gi bS (.slice A' es.length c') cW es L'/\Hp w w2 L' []:=by
 refine aE rg Z Z ?_
 have H:=Hp.startRd hr
 refine W<|Zr<|G (Ws Z)<|U<|W<|W<|Zr<|G (Ys Z) ?_
 refine wu (qA eF Z) Z Z Z (fun h4=> ?_) (fun h4=> ?_)
 refine U<|ZT Z<|W<|Zr<|G (Ws Z)<|U<|Zt ?_
 have he:es=[]:=by
  cases es with
  |nil=>rfl
  |cons e es=>obtain⟨b,o,hA,_⟩:=hr (by simp);subst hA;cases h4
 subst he
 exact cF Z Z ⟨none,0,[],rfl,by simp,by decide,gi.nil,H.forget (by simp) (by simp)⟩
 refine U<|ZF Z<|Zk<|W<|Zr<|NP H aZ Z fun w1 b5 H=>G (Ys Z)<|vU (Y:=bS) zf (K:=[]) (L:=[(b5,_)]) (M:=[]) H (rU.lit (by decide) (by rfl)) (es:=[]) (news:=es) Z Z Z (Rd.src (H.fact (i:=0) Z)) (by simpa using hb) Z ?_
 intro A3 c3 w3 L3 h3a h3b ho3 H
 refine G (Ws Z)<|U<|Zt ?_
 exact cF Z Z ⟨A3,c3,L3,rfl,h3a,h3b,ho3,H.forget (by simp) (by simp)⟩

/-- a row of rows of bytes -/
abbrev RB:=Option Addr×List UInt8×Nat
def Ku:fj RB:=⟨fun p=>[.slice p.1 p.2.1.length p.2.2],1,fun _=>rfl,by decide,fun a u hu=>by
 simp only[av,bx,or_false]at hu
 subst hu;rfl⟩
def xl (ps:List RB):List UInt8:=ps.flatMap fun p=>p.2.1
theorem t8 {ps:List RB} {k:Nat} {p:RB} (h:ps[k]? =some p):xl (ps.take (k+1))=xl (ps.take k)++p.2.1:=by
 rw[eL h];simp[xl]
theorem Eb (ps:List RB) (k:Nat):(xl (ps.take k)).length<=(xl ps).length:=by
 have:xl ps=xl (ps.take k)++xl (ps.drop k):=by unfold xl;rw[<-mQ,gL]
 rw[this];simp
theorem I1 {g cp:Nat} {cur:Array Value} (h:cur.size=cp*1) (hm:cp<=maxLen):gi dA (.slice (Qd g) 0 cp) mL [] [(g,.cells cur mL (0,0))]:=
 ⟨by simp[fj.all],.inr ⟨g,cp,cur,rfl,rfl,bA _,hm,h,by simp[fj.all]⟩⟩
theorem Nf (n:Nat) (w:World) (hn:n<=1000000):dd aa qX [.slice none 0 0,J (n:Nat)] w fun v w2=> ∃ A' c' L',v=.slice A' 0 c'/\gi dA (.slice A' 0 c') mL [] L'/\Hp w w2 L' []:=by
 refine aE qt Z Z ?_
 have H:=Hp.start w
 refine W<|Zr<|G (Ws Z)<|U<|W<|W<|Zr<|G (Yi Z)<|G (cY Z Z I)<|U<|ZF Z<|Zk<|W<|W<|Zr<|G (Yi Z)<|G (Ys Z)<|G (Ec eN Z)<|G (Ys Z)<|G (bn eN Z)<|G (mX Z Z I I)<|G (mX Z Z I I)<|G (Wi Z)<|U<|W<|Zr<|G (Yi Z) ?_
 refine cR (jV Z Z) Z Z Z (fun h16=> ?_) (fun h16=> ?_)
 refine U<|ZT Z<|Zr<|G (Ys Z)<|G (Ys Z)<|G (Ec eN Z)<|G (Df (i:=0) d5 Z Z I I)<|G (Yi Z)<|QI (m:=n) oD ip H Z (by show Value.int .i64 _=_;congr 1) I I Z fun w1 g cp cur hcs hncp hcpm H=>G (Ys Z)<|G (bn eN Z)<|zy d5 Z Z I I Z fun A25 hA25=> ?_
 obtain rfl:=hA25 I
 refine G (Ws Z)<|U<|W<|Zr<|G (Ys Z)<|G (Ws Z)<|U<|Zt ?_
 exact cF Z Z ⟨_,_,_,rfl,I1 hcs hcpm,H⟩
 refine U<|ZF Z<|Zk<|W<|Zr<|G (Ys Z)<|G (Ws Z)<|U<|Zt ?_
 exact cF Z Z ⟨none,0,[],rfl,gi.nil,H⟩
theorem uB (ps:List RB) (A:Option Addr) (c:Nat) (w:World) (hr:Rd Ku 0 w.heap.size A ps w) (hp: ∀ p∈ps,Rd dA 0 w.heap.size p.1 p.2.1 w) (hb:(xl ps).length<=1000000) (hl:ps.length<=1000):
  dd aa pW [.slice A ps.length c] w fun v w2=> ∃ A' c' L',v=.slice A' (xl ps).length c'/\(xl ps).length<=c'/\c'<=maxLen/\gi dA (.slice A' (xl ps).length c') mL (xl ps) L'/\Hp w w2 L' []:=by
 refine aE pD Z Z ?_
 have H:=Hp.startRd hr
 refine W<|Zr<|G (Ws Z)<|U<|W<|Zr<|G (Wi Z)<|U<|W<|W<|Zr<|G (Ys Z)<|G (bn z4 Z)<|G (Yi Z)<|U<|Zb ?_
 refine cf (τ:=Nat) [3,5,11,12,13,14,15,16,17,18,19,20,21,22] (fun k=>[(3,J ((xl (ps.take k)).length:Nat)),(11,J (k:Nat))]) (fun k w'=>k<=ps.length/\Hp w w' [] [dG Ku 0 w.heap.size A ps]) (fun k=>ps.length-k) 0 ⟨by omega,H⟩ (kZ Z Z) ?_
 rintro k ρ1 w1 ⟨hk,H⟩
 show CW _ _ _ _ (dv (gk _ _ ρ1) [(3,J ((xl (ps.take k)).length:Nat)),(11,J (k:Nat))]) w1
 have hle:=Eb ps k
 refine W<|Zr ?_
 refine cR (cG Z Z) Z Z Z (fun h12=> ?_) (fun h12=> ?_)
 refine U<|W<|ZT Z<|Zk<|W<|Zb<|W<|Zr<|pK H 0 Z rB Z Z I I Z fun b2 o2 x2 e2=> ?_
 have hle2:=Eb ps (k+1)
 rw[t8 e2.at_,ay]at hle2
 refine G (aV d3 Z (e2.cl 0 _ Z))<|G (Ws Z)<|U<|W<|Zr<|G (Yi Z)<|G (Ys Z)<|G (bn eN Z)<|G (bp Z Z I I)<|G (Wi Z)<|U<|W<|Zr<|G (Yi Z)<|G (cY Z Z I)<|U<|ZF Z<|Zk<|Zr<|G (bp Z Z I I)<|G (Yi Z)<|U ?_
 refine⟨k+1,⟨by omega,H⟩,kZ (by rw[t8 e2.at_,ay];rfl) Z,Qg,by show ps.length- (k+1)<ps.length-k;omega⟩
 refine U<|W<|ZF Z<|Zx<|W<|Zr<|G (Yi Z)<|cd qw (Nf (xl (ps.take k)).length _ I) Z Z ?_
 rintro _ w3 ⟨A24,c24,L24,rfl,ho24,hj24⟩;replace H:=H.join hj24;clear hj24
 refine G (Ws Z)<|U<|W<|W<|Zr<|G (Ys Z)<|G (bn z4 Z)<|G (Yi Z)<|U<|Zb ?_
 refine cf (τ:=Nat×Option Addr×Nat) [6,8,27,28,29,30,31,32,33,34] (fun(j,Ag,cg)=>[(6,.slice Ag (xl (ps.take j)).length cg),(27,J (j:Nat))]) (fun(j,Ag,cg) w'=>j<=ps.length/\ ∃ L',gi dA (.slice Ag (xl (ps.take j)).length cg) mL (xl (ps.take j)) L'/\Hp w w' ([]++L'++[]) [dG Ku 0 w.heap.size A ps]) (fun(j,_,_)=>ps.length-j) (0,A24,c24) ⟨by omega,L24,ho24,by simpa using H⟩ (kZ Z Z) ?_
 rintro⟨j,Ag,cg⟩ ρ2 w4 ⟨hj,L1,ho,H⟩
 show CW _ _ _ _ (dv (gk _ _ ρ2) [(6,.slice Ag (xl (ps.take j)).length cg),(27,J (j:Nat))]) w4
 have hle:=Eb ps j
 refine W<|Zr ?_
 refine cR (cG Z Z) Z Z Z (fun h28=> ?_) (fun h28=> ?_)
 refine U<|W<|ZT Z<|Zk<|W<|Zb<|W<|Zr<|pK H 0 Z rB Z Z I I Z fun b5 o5 x5 e5=> ?_
 have hle2:=Eb ps (j+1)
 rw[t8 e5.at_,ay]at hle2
 have hpx:=(hp _ (ae e5.at_)).below H.below
 refine G (aV d3 Z (e5.cl 0 _ Z))<|G (Ws Z)<|U<|Zr<|G (Ys Z)<|G (Ys Z)<|vU (Y:=dA) oD (K:=[]) (L:=L1) (M:=[]) H ho (news:=x5.2.1) Z Z Z (Rd.src hpx) I Z ?_
 intro A3 c3 w6 L3 h3a _ ho3 H
 refine G (Ws Z)<|U<|Zr<|G (bp Z Z I I)<|G (Yi Z)<|U ?_
 refine⟨(j+1,A3,c3),⟨by omega,L3,by rw[t8 e5.at_];exact ho3,H⟩,kZ (by rw[t8 e5.at_];rfl) Z,Qg,by show ps.length- (j+1)<ps.length-j;omega⟩
 refine U<|W<|ZF Z<|Zx<|W<|Zr<|G (Ys Z)<|G (Ws Z)<|U<|Zt ?_
 have hjp:j=ps.length:=by omega
 subst hjp
 rw[bV]at ho
 obtain⟨A2,c2,he,hlc,hmx⟩:=ho.form
 injection he with h1 h2 h3
 subst h3
 exact cF (v:=.slice Ag (xl (ps.take ps.length)).length cg) Z Z ⟨Ag,cg,L1,by rw[bV],hlc,hmx,ho,H.forget (by simp) (by simp)⟩
theorem Iz {n:UInt8} {r:List UInt8} {e:cH} {k:Nat} (h:tq (n::r)=some (e,k)):k=n.toNat+3:=by
 simp only[tq]at h
 split at h;· cases h
 split at h;· cases h
 split at h
 injection h with h;injection h with h1 h2;exact h2.symm
 cases h
theorem Ju {e:cH} (hg:ql e): ∃ n r,iB e=n::r/\n.toNat+3=(iB e).length:=by
 obtain⟨hl,_⟩:=uC hg
 refine⟨UInt8.ofNat (eO e).length,_,rfl,?_⟩
 rw[AI,zr _ I]
theorem Kh {e:cH} (hg:ql e) {k:Nat} (hk:k<(iB e).length) (rest:List UInt8):tq ((iB e++rest).take k)=none:=by
 obtain⟨n,r,he,hn⟩:=Ju hg
 rw[ib I,he]
 cases k with
 |zero=>rfl
 |succ k=>
  rw[mP]
  cases hs:tq (n::r.take k)with
  |none=>rfl
  |some p=>
   obtain⟨e',j⟩:=p
   have h1:=Iz hs
   have h2:=(Mu hs).2
   simp at h2
   omega
def tm:List cH->Nat->Nat
 |[],_=>0
 |e::es,k=>if(iB e).length<=k then 1+tm es (k- (iB e).length)else 0
theorem uw (e:cH) (es:List cH):bd (e::es)=iB e++bd es:=by simp[bd]
theorem FQ: ∀ (es:List cH) (k:Nat),(∀ e∈es,ql e)->Iq ((bd es).take k) (es.take (tm es k)) (bd (es.take (tm es k))).length
 |[],k,_=>by
  have:(bd []).take k=[]:=by simp[bd]
  rw[this]
  exact .stop Z
 |e::es,k,hg=>by
  have hge:=hg e (aA ..)
  rw[uw]
  unfold tm
  by_cases h:(iB e).length<=k
  rw[if_pos h,r3,mP,uw,ay]
  have hd:=FQ es (k- (iB e).length) fun x hx=>hg x (ak _ hx)
  have e1:(iB e++bd es).take k=iB e++(bd es).take (k- (iB e).length):=by
   rw[List.take_append,f6 h]
  rw[e1]
  exact .go (EE hge _) (by rw[List.drop_left];exact hd)
  rw[if_neg h]
  exact .stop (Kh hge I _)
theorem Eo: ∀ (es:List cH) (k:Nat),tm es k<=es.length
 |[],_=>ao _
 |e::es,k=>by
  unfold tm
  split
  have:=Eo es (k- (iB e).length);simp;omega
  exact bA _
theorem uW: ∀ (es:List cH) (k:Nat),(bd (es.take (tm es k))).length<=k
 |[],k=>by simp[bd]
 |e::es,k=>by
  unfold tm
  split
  rename_i h
  rw[r3,mP,uw,ay]
  have:=uW es (k- (iB e).length)
  omega
  simp[bd]
theorem Ep: ∀ (es:List cH) (k s:Nat),s<=es.length->(bd (es.take s)).length<=k->s<=tm es k
 |_,_,0,_,_=>bA _
 |[],_,s+1,h,_=>by simp at h
 |e::es,k,s+1,h,hk=>by
  rw[mP,uw,ay]at hk
  unfold tm
  rw[if_pos I]
  have:=Ep es (k- (iB e).length) s (by simpa using h) I
  omega
theorem G7 (es:List cH) (s:Nat):bd es=bd (es.take s)++bd (es.drop s):=by
 unfold bd;rw[<-mQ,gL]
theorem ug (es:List cH) (s:Nat):(bd es).take (bd (es.take s)).length=bd (es.take s):=by
 rw[G7 es s]
 exact List.take_left' Z
theorem Ll (a b:List cH):bd (a++b)=bd a++bd b:=by simp[bd]
structure mM where
 A:Option Addr
 cap:Nat
 es:List cH
 s:Nat
abbrev fC (es:List cH) (s:Nat):Nat:=(bd (es.take s)).length
def mM.c (l:mM):List Value:=[.slice l.A (bd l.es).length l.cap,J (fC l.es l.s:Nat)]
structure GL (es:List cH) (s:Nat):Prop where
 good: ∀ e∈es,ql e
 len:es.length<=400
 sz:(bd es).length<=40000
 sle:s<=es.length
structure mM.ok (l:mM) (w:World):Prop where
 gl:GL l.es l.s
 cap:(bd l.es).length<=l.cap
 rd:Rd dA 0 w.heap.size l.A (bd l.es) w
theorem wQ {es:List cH} {s:Nat} (h:GL es s):Iq (bd (es.take s)) (es.take s) (fC es s):=tW _ fun e he=>h.good e (qm _ _ he)
theorem yh (l:mM) (w:World) (h:l.ok w):dd aa yv [.agg l.c.toArray] w fun v w2=>v=J 0/\Below w.heap.size w w2:=by
 refine aE DN Z Z ?_
 have hgl:=h.gl
 have hcap:=h.cap
 have hsz:=hgl.sz
 have hln:=hgl.len
 have hsle:=hgl.sle
 have hss:fC l.es l.s<=(bd l.es).length:=fe l.es l.s
 have H:=Hp.startRd h.rd
 obtain⟨lA,lc,es,s⟩:=l
 dsimp only at hgl hcap hsz hln hsle hss H
 have hss2:(bd (es.take s)).length<=(bd es).length:=hss
 show CW _ _ _ _ (args [.agg #[.slice lA (bd es).length lc,J (fC es s:Nat)]]) w
 refine W<|Zr<|fS H Z Z fun w1 b1 H=>G (Wi Z)<|U<|W<|W<|Zr<|G (Zf gy Z)<|G (Zd d3 H 0 Z Z Z)<|G (bn eN Z)<|G (er Z Z I)<|U<|ZF Z<|Zk<|W<|Zr<|G (Zf gy Z)<|G (Zd d3 H 0 Z Z Z)<|cd ks (rM (bd es) _ _ _ (H.rd0 0 Z) hcap I) Z Z ?_
 have hlo14:=H.size
 rintro _ w2 ⟨ds,nd,A14,c14,rfl,hd,hr14,hc14,hb14⟩;replace H:=H.learnRd hb14 hr14;clear hr14 hb14
 have hde:=(pG hd (tW es hgl.good)).1.symm
 have hdn:=(pG hd (tW es hgl.good)).2.symm
 subst hde;subst hdn;clear hd
 refine G (Yu Z)<|G (Xs Z Z)<|G (Xi Z Z)<|G (Ws Z)<|G (Wi Z)<|U<|W<|W<|Zr<|G (Yi Z)<|G (Zf gy Z)<|G (Zd d3 H 0 Z Z Z)<|G (bn eN Z)<|G (bX Z Z Z)<|G (Yb Z)<|ZG<|G (Ys Z)<|ZG<|G (bn eh Z)<|ZG<|G (er Z Z I)<|G (N Z Z)<|U<|ZF Z<|Zk<|W<|W<|Zr<|G (Zf lk Z)<|G (Zd aj H 0 Z Z Z)<|G (cY Z Z I)<|G (Yb Z)<|ZG<|G (Zf lk Z)<|ZG<|G (Zd aj H 0 Z Z Z)<|ZG<|G (Yi Z)<|ZG<|G (er Z Z I) ?_
 refine G (N Z Z)<|U<|ZF Z<|Zk<|W<|W<|Zr<|G (Zf gy Z)<|G (Zd d3 H 0 Z Z Z)<|G (Zf lk Z)<|G (Zd aj H 0 Z Z Z)<|sd (k:=fC es s) H 1 Z d5 Z Z hcap I Z fun A41 H=> ?_
 rw[ug]at H
 refine cd ks (rM (bd (es.take s)) _ _ _ (H.rd0 0 Z) I I) Z Z ?_
 have hlo42:=H.size
 rintro _ w3 ⟨ds,nd,A42,c42,rfl,hd,hr42,hc42,hb42⟩;replace H:=H.learnRd hb42 hr42;clear hr42 hb42
 have hde:=(pG hd (wQ hgl)).1.symm
 have hdn:=(pG hd (wQ hgl)).2.symm
 subst hde;subst hdn;clear hd
 refine G (Yu Z)<|G (Xs Z Z)<|G (Xi Z Z)<|G (Ws Z)<|G (Wi Z)<|U<|W<|Zr<|G (Yi Z)<|G (Zf lk Z)<|G (Zd aj H 0 Z Z Z)<|G (bX Z Z Z)<|U<|ZF Z<|Zk<|W<|Zr<|G (Wi Z)<|U<|Zt ?_
 exact cF Z Z ⟨rfl,H.below⟩
theorem Bq (l:mM) (w:World) (h:l.ok w):dd aa u7 [.agg l.c.toArray] w fun v w2=> ∃ A' c',v=.tuple #[.slice A' l.es.length c',J (l.s:Nat),J 0]/\Rd gz w.heap.size w2.heap.size A' l.es w2/\l.es.length<=c'/\Below w.heap.size w w2:=by
 refine aE Ax Z Z ?_
 have hgl:=h.gl
 have hcap:=h.cap
 have hsz:=hgl.sz
 have hln:=hgl.len
 have hsle:=hgl.sle
 have hss:fC l.es l.s<=(bd l.es).length:=fe l.es l.s
 have H:=Hp.startRd h.rd
 obtain⟨lA,lc,es,s⟩:=l
 dsimp only at hgl hcap hsz hln hsle hss H
 have hss2:(bd (es.take s)).length<=(bd es).length:=hss
 show CW _ _ _ _ (args [.agg #[.slice lA (bd es).length lc,J (fC es s:Nat)]]) w
 refine W<|Zr<|fS H Z Z fun w1 b1 H=>G (Ws Z)<|G (Wi Z)<|G (Wi Z)<|U<|W<|W<|Zr<|G (Zw eK H 0 Z Z Z)<|cd mH (yh ⟨lA,lc,es,s⟩ _ ⟨hgl,hcap,H.rd0 0 Z⟩) Z Z ?_
 rintro _ w2 ⟨rfl,hb⟩;replace H:=H.later hb;clear hb
 refine G (Wi Z)<|U<|W<|Zr<|G (Yi Z)<|G (bX Z Z Z)<|U<|ZF Z<|Zk<|W<|Zr<|G (Zf gy Z)<|G (Zd d3 H 0 Z Z Z)<|cd ks (rM (bd es) _ _ _ (H.rd0 0 Z) hcap I) Z Z ?_
 have hlo18:=H.size
 rintro _ w3 ⟨ds,nd,A18,c18,rfl,hd,hr18,hc18,hb18⟩;replace H:=H.learnRd hb18 hr18;clear hr18 hb18
 have hde:=(pG hd (tW es hgl.good)).1.symm
 have hdn:=(pG hd (tW es hgl.good)).2.symm
 subst hde;subst hdn;clear hd
 refine G (Yu Z)<|G (Xs Z Z)<|G (Xi Z Z)<|G (Ws Z)<|G (Wi Z)<|U<|W<|Zr<|G (Zf gy Z)<|G (Zd d3 H 0 Z Z Z)<|G (Zf lk Z)<|G (Zd aj H 0 Z Z Z)<|sd (k:=fC es s) H 1 Z d5 Z Z hcap I Z fun A26 H=> ?_
 rw[ug]at H
 refine cd ks (rM (bd (es.take s)) _ _ _ (H.rd0 0 Z) I I) Z Z ?_
 have hlo27:=H.size
 rintro _ w4 ⟨ds,nd,A27,c27,rfl,hd,hr27,hc27,hb27⟩;replace H:=H.learnRd hb27 hr27;clear hr27 hb27
 have hde:=(pG hd (wQ hgl)).1.symm
 have hdn:=(pG hd (wQ hgl)).2.symm
 subst hde;subst hdn;clear hd
 refine G (Yu Z)<|G (Xs Z Z)<|G (Xi Z Z)<|G (Ws Z)<|G (Wi Z)<|U<|W<|Zr<|G (Ys Z)<|G (Ys Z)<|G (bn eh Z)<|G (Ws Z)<|G (Wi Z)<|G (Wi Z)<|U<|Zt ?_
 have hls:(es.take s).length=s:=by simp;omega
 have hrd:=Rd.mono (H.fact (i:=2) Z) hlo18 (H.facts _ (ae (i:=2) Z)).2.1
 exact G8 (v:=.slice A18 es.length c18) (v2:=J ((es.take s).length:Nat)) (v3:=J 0) Z Z Z Z ⟨A18,c18,by rw[hls],hrd,hc18,H.below⟩
theorem gb (A:Option Addr) (c:Nat) (es:List cH) (s:Nat) (w:World) (h:(⟨A,c,es,s⟩:mM).ok w):dd aa u7 [.agg #[.slice A (bd es).length c,J (fC es s:Nat)]] w fun v w2=> ∃ A' c',v=.tuple #[.slice A' es.length c',J (s:Nat),J 0]/\Rd gz w.heap.size w2.heap.size A' es w2/\es.length<=c'/\Below w.heap.size w w2:=Bq ⟨A,c,es,s⟩ w h
theorem qC (A:Option Addr) (c:Nat) (es:List cH) (s:Nat) (w:World) (h:(⟨A,c,es,s⟩:mM).ok w):dd aa yv [.agg #[.slice A (bd es).length c,J (fC es s:Nat)]] w fun v w2=>v=J 0/\Below w.heap.size w w2:=yh ⟨A,c,es,s⟩ w h
theorem ln (es:List UInt8) (A:Option Addr) (c:Nat) (w:World) (hr:Rd dA 0 w.heap.size A es w) (hb:es.length*1<=140737488355328):
  dd aa kL [.slice A es.length c] w fun v w2=> ∃ A' c',v=.slice A' es.length c'/\es.length<=c'/\Rd dA w.heap.size w2.heap.size A' es w2/\Below w.heap.size w w2:=
 (BU es A c w hr hb).mono fun v w2 ⟨A',c',L',h1,h2,_,h4,h5⟩=>⟨A',c',h1,h2,h4.rd (K:=[]) (M:=[]) (by simpa using h5),h5.below⟩
theorem wT (es:List Int) (A:Option Addr) (c:Nat) (w:World) (hr:Rd bS 0 w.heap.size A es w) (hb:es.length*8<=140737488355328):
  dd aa lN [.slice A es.length c] w fun v w2=> ∃ A' c',v=.slice A' es.length c'/\es.length<=c'/\Rd bS w.heap.size w2.heap.size A' es w2/\Below w.heap.size w w2:=
 (sK es A c w hr hb).mono fun v w2 ⟨A',c',L',h1,h2,_,h4,h5⟩=>⟨A',c',h1,h2,h4.rd (K:=[]) (M:=[]) (by simpa using h5),h5.below⟩
def yc (w w2:World) (A:Option Addr) (c:Nat) (es:List cH) (s:Nat):Prop:=GL es s/\(bd es).length<=c/\Rd dA w.heap.size w2.heap.size A (bd es) w2
theorem yc.ok {w w2:World} {A:Option Addr} {c:Nat} {es:List cH} {s:Nat} (h:yc w w2 A c es s):(⟨A,c,es,s⟩:mM).ok w2:=⟨h.1,h.2.1,h.2.2.mono (bA _) (ao _)⟩
theorem kI (es:List cH) (x:cH):bd (es++[x])=bd es++iB x:=by rw[Ll,Lk]
theorem wv {es:List cH} {s:Nat} (x:cH) (h:s<=es.length):fC (es++[x]) s=fC es s:=by unfold fC;rw[ib h]
def BE (es:List cH) (x:cH):Prop:=es.length=400∨40000<(bd es).length+(iB x).length
theorem GL.snoc {es:List cH} {s:Nat} {x:cH} (h:GL es s) (hx:ql x) (hf: ¬ BE es x):GL (es++[x]) s:=by
 unfold BE at hf
 refine⟨fun e he=> ?_,by simp;have:=h.len;omega,by rw[kI,ay];omega,by simp;have:=h.sle;omega⟩
 rcases ar.1 he with he|he
 exact h.good e he
 rw[aq.1 he];exact hx
theorem GL.all {es:List cH} {s:Nat} (h:GL es s):GL es es.length:=⟨h.good,h.len,h.sz,ao _⟩
theorem GL.take {es:List cH} {s:Nat} (h:GL es s) (n:Nat) {t:Nat} (ht:t<=(es.take n).length):GL (es.take n) t:=⟨fun e he=>h.good e (qm _ _ he),by simp;have:=h.len;omega,by have:=fe es n;have:=h.sz;omega,ht⟩
theorem Di (l:mM) (x:cH) (w:World) (h:l.ok w) (hx:ql x) (hf: ¬ BE l.es x):dd aa wA [.agg l.c.toArray,x.v] w fun v w2=> ∃ A' c',v=.tuple #[.agg (mM.c ⟨A',c',l.es++[x],l.s⟩).toArray,J 0]/\yc w w2 A' c' (l.es++[x]) l.s/\Below w.heap.size w w2:=by
 refine aE BH Z Z ?_
 have hgl:=h.gl
 have hcap:=h.cap
 have hsz:=hgl.sz
 have hln:=hgl.len
 have hsle:=hgl.sle
 have hss:fC l.es l.s<=(bd l.es).length:=fe l.es l.s
 have H:=Hp.startRd h.rd
 obtain⟨lA,lc,es,s⟩:=l
 dsimp only at hgl hcap hsz hln hsle hss H
 have hss2:(bd (es.take s)).length<=(bd es).length:=hss
 show CW _ _ _ _ (args [.agg #[.slice lA (bd es).length lc,J (fC es s:Nat)],x.v]) w
 unfold BE at hf
 dsimp only at hf
 have hel:=HZ hx
 refine W<|Zr<|fS H Z Z fun w1 b2 H=>fS H Z Z fun w2 b3 H=>eC H pM Z fun w3 b4 H=>G (Wi Z)<|U<|W<|Zr<|G (Zw eK H 2 Z Z Z)<|cd fL (gb lA lc es s _ ⟨hgl,hcap,H.rd0 0 Z⟩) Z Z ?_
 rintro _ w4 ⟨A12,c12,rfl,hr12,hc12,hb12⟩;replace H:=H.learnRd hb12 hr12;clear hr12 hb12
 refine G (Yu Z)<|G (Xs Z Z)<|G (Xi Z Z)<|G (Xi Z Z)<|G (Ws Z)<|G (Wi Z)<|G (Wi Z)<|U<|W<|W<|Zr<|G (Yi Z)<|G (bX Z Z Z)<|U<|ZF Z<|Zk<|W<|Zr<|G (Zw dB H 1 Z Z Z)<|cd tX (CK x _ hx) Z Z ?_
 rintro _ w6 ⟨A5,c5,rfl,hr5,hc5,hb5⟩;replace H:=H.learnRd hb5 hr5;clear hr5 hb5
 refine G (Yu Z)<|G (Xs Z Z)<|G (Xi Z Z)<|G (Ws Z)<|G (Wi Z)<|U<|W<|W<|Zr<|G (Yi Z)<|G (bX Z Z Z)<|U<|ZF Z<|Zk<|W<|W<|Zr<|G (Ys Z)<|G (bn eh Z)<|G (nC Z Z I)<|G (Yb Z)<|ZG<|G (Zf gy Z)<|ZG<|G (Zd d3 H 2 Z Z Z)<|ZG<|G (bn eN Z)<|ZG<|G (Ys Z)<|ZG<|G (bn eN Z)<|ZG<|G (bp Z Z I I)<|ZG<|G (er Z Z I)<|G (N Z Z)<|U<|ZF Z<|Zk<|W ?_
 refine qI bZ [0,2,5] [1,3,4,6,7,8,9] [0,2,5] 7 N N N Nq ?_
 refine aw Z Z Z Z Z (fun w' hw'=>Zf gy Z)<|aw Z Z Z Z Z (fun w' hw'=>Ys Z)<|aw Z Z Z Z Z (fun w' hw'=>Zf lk Z)<|aU ?_
 intro w7 hw';replace H:=H.later hw';clear hw'
 refine tj 1 6 N Z Z ?_ ?_
 refine G (Zd d3 H 2 Z Z Z)<|U ?_
 refine tj 3 6 N Z Z ?_ ?_
 refine sY (vs:=[.slice lA (bd es).length lc,.slice A5 (iB x).length c5]) H rB C4 Z Z Z Z Z Z fun w8 b45 H=> ?_
 have hcat:xl [(lA,bd es,lc),(A5,iB x,c5)]=bd (es++[x]):=by rw[kI];simp[xl]
 refine U ?_
 refine tj 4 6 N Z Z ?_ ?_
 have hC:=uB [(lA,bd es,lc),(A5,iB x,c5)] (Qd b45) 2 _ (Rd.blk (H.ent (i:=0) Z) Z) (by intro p hp;simp at hp;rcases hp with rfl|rfl;exact H.rd0 2 Z;exact H.rd0 0 Z) (by rw[hcat,kI,ay];omega) (by simp)
 rw[hcat]at hC
 have hloX:=H.size
 refine cd fB hC Z Z ?_;rintro _ w9 ⟨AX,cX,LX,rfl,hcX,-,hoX,hjX⟩;replace H:=H.learnOwn hjX hoX
 refine U<|da 6 N Z<|G (Zd aj H 3 Z Z Z)<|U<|da 7 N Z<|G (bj (cs:= #[.slice AX (bd (es++[x])).length cX,J (fC es s:Nat)]) tr pM N)<|U<|da 8 N Z<|bl H 1 (#[.slice AX (bd (es++[x])).length cX,J (fC es s:Nat)]) ja Z Z Z Z Z N N fun w10 H=>U<|da 9 N Z<|G (Wi Z)<|U<|cz N<|Zt ?_
 exact bG (cs0:= #[.slice AX (bd (es++[x])).length cX,J (fC es s:Nat)]) (v1:=J 0) Z eK Z (H.ent (i:=1) Z) Z Z ⟨AX,cX,by unfold mM.c;rw[wv _ hsle],⟨hgl.snoc hx (by unfold BE;omega),hcX,Rd.mono (H.fact (i:=0) Z) hloX (H.facts _ (ae (i:=0) Z)).2.1⟩,H.below⟩
 refine G (Zd aj H 3 Z Z Z)<|U<|da 4 N Z ?_
 have hC:=uB [(lA,bd es,lc),(A5,iB x,c5)] (Qd b45) 2 _ (Rd.blk (H.ent (i:=0) Z) Z) (by intro p hp;simp at hp;rcases hp with rfl|rfl;exact H.rd0 2 Z;exact H.rd0 0 Z) (by rw[hcat,kI,ay];omega) (by simp)
 rw[hcat]at hC
 have hloX:=H.size
 refine cd fB hC Z Z ?_;rintro _ w11 ⟨AX,cX,LX,rfl,hcX,-,hoX,hjX⟩;replace H:=H.learnOwn hjX hoX
 refine U<|da 7 N Z<|G (bj (cs:= #[.slice AX (bd (es++[x])).length cX,J (fC es s:Nat)]) tr pM N)<|U<|da 8 N Z<|bl H 1 (#[.slice AX (bd (es++[x])).length cX,J (fC es s:Nat)]) ja Z Z Z Z Z N N fun w12 H=>U<|da 9 N Z<|G (Wi Z)<|U<|cz N<|Zt ?_
 exact bG (cs0:= #[.slice AX (bd (es++[x])).length cX,J (fC es s:Nat)]) (v1:=J 0) Z eK Z (H.ent (i:=1) Z) Z Z ⟨AX,cX,by unfold mM.c;rw[wv _ hsle],⟨hgl.snoc hx (by unfold BE;omega),hcX,Rd.mono (H.fact (i:=0) Z) hloX (H.facts _ (ae (i:=0) Z)).2.1⟩,H.below⟩
 refine G (Zd aj H 2 Z Z Z)<|U<|da 3 N Z<|sY (vs:=[.slice lA (bd es).length lc,.slice A5 (iB x).length c5]) H rB C4 Z Z Z Z Z Z fun w13 b45 H=> ?_
 have hcat:xl [(lA,bd es,lc),(A5,iB x,c5)]=bd (es++[x]):=by rw[kI];simp[xl]
 refine U<|da 4 N Z ?_
 have hC:=uB [(lA,bd es,lc),(A5,iB x,c5)] (Qd b45) 2 _ (Rd.blk (H.ent (i:=0) Z) Z) (by intro p hp;simp at hp;rcases hp with rfl|rfl;exact H.rd0 2 Z;exact H.rd0 0 Z) (by rw[hcat,kI,ay];omega) (by simp)
 rw[hcat]at hC
 have hloX:=H.size
 refine cd fB hC Z Z ?_;rintro _ w14 ⟨AX,cX,LX,rfl,hcX,-,hoX,hjX⟩;replace H:=H.learnOwn hjX hoX
 refine U<|da 7 N Z<|G (bj (cs:= #[.slice AX (bd (es++[x])).length cX,J (fC es s:Nat)]) tr pM N)<|U<|da 8 N Z<|bl H 1 (#[.slice AX (bd (es++[x])).length cX,J (fC es s:Nat)]) ja Z Z Z Z Z N N fun w15 H=>U<|da 9 N Z<|G (Wi Z)<|U<|cz N<|Zt ?_
 exact bG (cs0:= #[.slice AX (bd (es++[x])).length cX,J (fC es s:Nat)]) (v1:=J 0) Z eK Z (H.ent (i:=1) Z) Z Z ⟨AX,cX,by unfold mM.c;rw[wv _ hsle],⟨hgl.snoc hx (by unfold BE;omega),hcX,Rd.mono (H.fact (i:=0) Z) hloX (H.facts _ (ae (i:=0) Z)).2.1⟩,H.below⟩
 refine G (Zd aj H 2 Z Z Z)<|U<|da 1 N Z<|G (Zd d3 H 2 Z Z Z)<|U<|da 3 N Z<|sY (vs:=[.slice lA (bd es).length lc,.slice A5 (iB x).length c5]) H rB C4 Z Z Z Z Z Z fun w16 b45 H=> ?_
 have hcat:xl [(lA,bd es,lc),(A5,iB x,c5)]=bd (es++[x]):=by rw[kI];simp[xl]
 refine U<|da 4 N Z ?_
 have hC:=uB [(lA,bd es,lc),(A5,iB x,c5)] (Qd b45) 2 _ (Rd.blk (H.ent (i:=0) Z) Z) (by intro p hp;simp at hp;rcases hp with rfl|rfl;exact H.rd0 2 Z;exact H.rd0 0 Z) (by rw[hcat,kI,ay];omega) (by simp)
 rw[hcat]at hC
 have hloX:=H.size
 refine cd fB hC Z Z ?_;rintro _ w17 ⟨AX,cX,LX,rfl,hcX,-,hoX,hjX⟩;replace H:=H.learnOwn hjX hoX
 refine U<|da 7 N Z<|G (bj (cs:= #[.slice AX (bd (es++[x])).length cX,J (fC es s:Nat)]) tr pM N)<|U<|da 8 N Z<|bl H 1 (#[.slice AX (bd (es++[x])).length cX,J (fC es s:Nat)]) ja Z Z Z Z Z N N fun w18 H=>U<|da 9 N Z<|G (Wi Z)<|U<|cz N<|Zt ?_
 exact bG (cs0:= #[.slice AX (bd (es++[x])).length cX,J (fC es s:Nat)]) (v1:=J 0) Z eK Z (H.ent (i:=1) Z) Z Z ⟨AX,cX,by unfold mM.c;rw[wv _ hsle],⟨hgl.snoc hx (by unfold BE;omega),hcX,Rd.mono (H.fact (i:=0) Z) hloX (H.facts _ (ae (i:=0) Z)).2.1⟩,H.below⟩
theorem M2 (es:List cH):fC es es.length=(bd es).length:=by unfold fC;rw[bV]
theorem Fe {es:List cH} {a b:Nat} (h:a<=b):fC es a<=fC es b:=by
 have:=fe (es.take b) a
 unfold fC
 rwa[de,br h]at this
theorem M1 (es:List cH) (s n:Nat):min ((fC es s:Nat):Int) ((fC es n:Nat):Int)=(fC (es.take n) (min s n):Nat):=by
 have e:fC (es.take n) (min s n)=fC es (min s n):=by
  unfold fC;rw[de,br (Nat.min_le_right _ _)]
 rw[e]
 by_cases h:s<=n
 have:=Fe (es:=es) h
 rw[br h];omega
 have:=Fe (es:=es) (show n<=s by omega)
 rw[Nat.min_eq_right I];omega
theorem Rd.cut0 {α:Type} {Y:fj α} {lo hi cap sz:Nat} {A:Option Addr} {es:List α} {w:World} (h:Rd Y lo hi A es w) (k:Nat):Rd Y lo hi (cut A cap 0 sz) (es.take k) w:=by
 have e:cut A cap 0 sz=A:=by
  unfold cut
  split
  rfl
  cases A<;>simp[Addr.add]
 rw[e]
 exact h.take k
def jT (es:List cH) (s keep:Nat):Nat:=tm es (fC es s+min keep ((bd es).length-fC es s))
theorem JB {es:List cH} {s keep:Nat} (h:s<=es.length):s<=jT es s keep:=Ep es _ s h (by unfold fC;omega)
theorem CO (es:List cH) (s keep:Nat):jT es s keep<=es.length:=Eo _ _
theorem Gq (l:mM) (w:World) (h:l.ok w):dd aa Af [.agg l.c.toArray] w fun v w2=> ∃ A' c',v=.tuple #[.agg (mM.c ⟨A',c',l.es,l.es.length⟩).toArray,J 0]/\yc w w2 A' c' l.es l.es.length/\Below w.heap.size w w2:=by
 refine aE FC Z Z ?_
 have hgl:=h.gl
 have hcap:=h.cap
 have hsz:=hgl.sz
 have hln:=hgl.len
 have hsle:=hgl.sle
 have hss:fC l.es l.s<=(bd l.es).length:=fe l.es l.s
 have H:=Hp.startRd h.rd
 obtain⟨lA,lc,es,s⟩:=l
 dsimp only at hgl hcap hsz hln hsle hss H
 have hss2:(bd (es.take s)).length<=(bd es).length:=hss
 show CW _ _ _ _ (args [.agg #[.slice lA (bd es).length lc,J (fC es s:Nat)]]) w
 refine W<|Zr<|fS H Z Z fun w1 b1 H=>eC H pM Z fun w2 b2 H=>G (Wi Z)<|U<|W<|W<|Zr<|G (Zw eK H 1 Z Z Z)<|cd mH (qC lA lc es s _ ⟨hgl,hcap,H.rd0 0 Z⟩) Z Z ?_
 rintro _ w3 ⟨rfl,hb⟩;replace H:=H.later hb;clear hb
 refine G (Wi Z)<|U<|W<|Zr<|G (Yi Z)<|G (bX Z Z Z)<|U<|ZF Z<|Zk<|W ?_
 have hlo:=H.size
 refine bD bZ [0,1,3,4,5,2,6] [7,8] [2] [0,3,5,6] (sp [(2,Sp.row w3.heap.size dA (bd es))]) N N N N Nq (cI _) ?_
 refine aw Z Z Z Z Z (fun w' hw'=>Zf gy Z)<|aw Z Z Z Z Z (fun w' hw'=>aV d3 Z (aB ((H.later hw').ent (i:=1) Z) Z))<|aw Z Z Z Z Z (fun w' hw'=>Zf gy Z)<|aw Z Z Z Z Z (fun w' hw'=>aV d3 Z (aB ((H.later hw').ent (i:=1) Z) Z))<|aw Z Z Z Z Z (fun w' hw'=>bn eN Z)<|CR fc Z Z Z Z Z (fun w' hw'=>hw'.size) (fun w' hw'=>ln (bd es) _ _ w' ((H.later hw').rd0 0 Z) I) Z fun A13 c13 hc13=>aw Z Z Z Z Z (fun w' hw'=>bj (cs:= #[.slice A13 (bd es).length c13,J ((bd es).length:Nat)]) tr pM N)<|aU ?_
 intro w4 hw' hF
 obtain⟨hF,Aq,cq,eq,hcq,hrw13⟩:=hF;cases eq;clear hcq
 replace H:=H.learnRd hw' hrw13
 clear hw' hF
 refine bl H 0 (#[.slice A13 (bd es).length c13,J ((bd es).length:Nat)]) ja Z Z Z Z Z N N fun w5 H=>G (Wi Z)<|U<|Zt ?_
 exact bG (cs0:= #[.slice A13 (bd es).length c13,J ((bd es).length:Nat)]) (v1:=J 0) Z eK Z (H.ent (i:=0) Z) Z Z ⟨A13,c13,by unfold mM.c;rw[M2],⟨hgl.all,hc13,Rd.mono (H.fact (i:=0) Z) hlo (H.facts _ (ae (i:=0) Z)).2.1⟩,H.below⟩
theorem IL (l:mM) (n:Nat) (w:World) (h:l.ok w) (hn:n<=l.es.length):dd aa CC [.agg l.c.toArray,J (n:Nat)] w fun v w2=> ∃ A' c',v=.tuple #[.agg (mM.c ⟨A',c',l.es.take n,min l.s n⟩).toArray,J 0]/\yc w w2 A' c' (l.es.take n) (min l.s n)/\Below w.heap.size w w2:=by
 refine aE G5 Z Z ?_
 have hgl:=h.gl
 have hcap:=h.cap
 have hsz:=hgl.sz
 have hln:=hgl.len
 have hsle:=hgl.sle
 have hss:fC l.es l.s<=(bd l.es).length:=fe l.es l.s
 have H:=Hp.startRd h.rd
 obtain⟨lA,lc,es,s⟩:=l
 dsimp only at hgl hcap hsz hln hsle hss H
 have hss2:(bd (es.take s)).length<=(bd es).length:=hss
 show CW _ _ _ _ (args [.agg #[.slice lA (bd es).length lc,J (fC es s:Nat)],J (n:Nat)]) w
 dsimp only at hn
 refine W<|Zr<|fS H Z Z fun w1 b2 H=>eC H pM Z fun w2 b4 H=>G (Wi Z)<|U<|W<|Zr<|G (Zw eK H 1 Z Z Z)<|cd fL (gb lA lc es s _ ⟨hgl,hcap,H.rd0 0 Z⟩) Z Z ?_
 rintro _ w3 ⟨A16,c16,rfl,hr16,hc16,hb16⟩;replace H:=H.learnRd hb16 hr16;clear hr16 hb16
 refine G (Yu Z)<|G (Xs Z Z)<|G (Xi Z Z)<|G (Xi Z Z)<|G (Ws Z)<|G (Wi Z)<|G (Wi Z)<|U<|W<|W<|Zr<|G (Yi Z)<|G (bX Z Z Z)<|U<|ZF Z<|Zk<|W<|W<|Zr<|G (Yi Z)<|G (cY Z Z I)<|G (Yb Z)<|ZG<|G (Yi Z)<|ZG<|G (Ys Z)<|ZG<|G (bn eh Z)<|ZG<|G (er Z Z I)<|G (N Z Z)<|U<|ZF Z<|Zk<|W<|W<|Zr<|G (Yi Z)<|G (Ys Z)<|G (bn eh Z) ?_
 refine cR (bh Z Z) Z Z Z (fun h36=> ?_) (fun h36=> ?_)
 refine U<|ZT Z<|W ?_
 have hlo:=H.size
 refine bD bZ [0,1,3,4,2,5] [6,7] [2] [0,3,5] (sp [(2,Sp.row w3.heap.size dA (bd es))]) N N N N Nq (cI _) ?_
 refine aw Z Z Z Z Z (fun w' hw'=>Zf gy Z)<|aw Z Z Z Z Z (fun w' hw'=>aV d3 Z (aB ((H.later hw').ent (i:=1) Z) Z))<|aw Z Z Z Z Z (fun w' hw'=>Zf lk Z)<|aw Z Z Z Z Z (fun w' hw'=>aV aj Z (aB ((H.later hw').ent (i:=1) Z) Z))<|CR fc Z Z Z Z Z (fun w' hw'=>hw'.size) (fun w' hw'=>ln (bd es) _ _ w' ((H.later hw').rd0 1 Z) I) Z fun A39 c39 hc39=>aw Z Z Z Z Z (fun w' hw'=>bj (cs:= #[.slice A39 (bd es).length c39,J (fC es s:Nat)]) tr pM N)<|aU ?_
 intro w4 hw' hF
 obtain⟨hF,Aq,cq,eq,hcq,hrw39⟩:=hF;cases eq;clear hcq
 replace H:=H.learnRd hw' hrw39
 clear hw' hF
 refine bl H 0 (#[.slice A39 (bd es).length c39,J (fC es s:Nat)]) ja Z Z Z Z Z N N fun w5 H=>G (Wi Z)<|U<|Zt ?_
 have hnl:n=es.length:=by omega
 subst hnl
 exact bG (cs0:= #[.slice A39 (bd es).length c39,J (fC es s:Nat)]) (v1:=J 0) Z eK Z (H.ent (i:=0) Z) Z Z ⟨A39,c39,by unfold mM.c;rw[br hsle,bV],⟨by rw[br hsle,bV];exact hgl,by rw[bV];exact hc39,by rw[bV];exact Rd.mono (H.fact (i:=0) Z) hlo (H.facts _ (ae (i:=0) Z)).2.1⟩,H.below⟩
 refine U<|ZF Z<|Zk<|W<|Zr<|G (Wi Z)<|U<|W<|W<|Zr<|G (Ys Z)<|G (Yi Z)<|sd (k:=n) H 0 Z dN Z Z hc16 I Z fun A45 H=>G (bn eh Z)<|G (Yi Z)<|U<|Zb ?_
 refine cf (τ:=Nat) [9,11,12,13,47,48,49,50,51,52,53,54,55,56,57,58,59,60] (fun k=>[(9,J (fC es k:Nat)),(47,J (k:Nat))]) (fun k w'=>k<=n/\Hp w w' [(b4,.cells #[.slice none 0 0,J 0] Bb (0,0)),(b2,.cells #[.slice lA (bd es).length lc,J (fC es s:Nat)] Bb (0,0))] [dG gz w2.heap.size w3.heap.size A45 (es.take n),dG gz w2.heap.size w3.heap.size A16 es,dG dA 0 w.heap.size lA (bd es)]) (fun k=>n-k) 0 ⟨by omega,H⟩ (kZ Z Z) ?_
 rintro k ρ1 w6 ⟨hk,H⟩
 show CW _ _ _ _ (dv (gk _ _ ρ1) [(9,J (fC es k:Nat)),(47,J (k:Nat))]) w6
 have hsk0:fC es k<=(bd es).length:=fe es k
 refine W<|Zr ?_
 refine cR (cG Z Z) Z Z Z (fun h48=> ?_) (fun h48=> ?_)
 refine U<|W<|ZT Z<|Zk<|W<|Zb<|W<|Zr ?_
 have htl:(es.take n).length=n:=by simp;omega
 refine pK H 0 Z dN Z Z I I Z fun b7 o7 x7 e7=> ?_
 have hxk:es[k]? =some x7:=by have:=e7.at_;rwa[fD I]at this
 have hg:=hgl.good _ (ae hxk)
 have hsk:=fe es (k+1)
 rw[tS hxk,ay]at hsk
 have hsk2:fC es k+(iB x7).length<=(bd es).length:=hsk
 refine G (jd (xs:=cH.c x7) dB Z Z e7.cl)<|eC H fU Z fun w8 b11 H=>Kk H 0 eM Z Z Z Z Z Z fun w9 H=>U<|W<|Zr<|G (Zw dB H 0 Z Z Z)<|cd tX (CK x7 _ hg) Z Z ?_
 rintro _ w11 ⟨A10,c10,rfl,hr10,hc10,hb10⟩;replace H:=H.learnRd hb10 hr10;clear hr10 hb10
 refine G (Yu Z)<|G (Xs Z Z)<|G (Xi Z Z)<|G (Ws Z)<|G (Wi Z)<|U<|Zr<|G (Yi Z)<|G (Ys Z)<|G (bn eN Z)<|G (bp Z Z I I)<|G (Wi Z)<|U<|Zr<|G (bp Z Z I I)<|G (Yi Z)<|U ?_
 refine⟨k+1,⟨by omega,H.forget (aX _ _) (fun _ h=>ak _ h)⟩,kZ (by show _=Value.int .i64 ((fC es (k+1):Nat):Int);unfold fC;rw[tS hxk,ay];rfl) Z,Qg,by show n- (k+1)<n-k;omega⟩
 have hkn:n=k:=by omega
 subst hkn
 refine U<|W<|ZF Z<|Zx<|W ?_
 have hlo:=H.size
 refine bD bZ [0,1,2,3,5,6,7,8,4,9] [10,11] [4] [0,2,3,5,7,8,9] (sp [(4,Sp.row w6.heap.size dA (bd (es.take n)))]) N N N N Nq (cI _) ?_
 refine aw Z Z Z Z Z (fun w' hw'=>Zf gy Z)<|aw Z Z Z Z Z (fun w' hw'=>aV d3 Z (aB ((H.later hw').ent (i:=1) Z) Z))<|aw Z Z Z Z Z (fun w' hw'=>Yi Z)<|aw Z Z Z Z Z (fun w' hw'=>Df (i:=((fC es n:Nat):Int)) d5 Z Z I (by have:=fe es n;show((fC es n:Nat):Int)<=_;unfold fC;omega))<|aw Z Z Z Z Z (fun w' hw'=>Zf lk Z)<|aw Z Z Z Z Z (fun w' hw'=>aV aj Z (aB ((H.later hw').ent (i:=1) Z) Z))<|aw Z Z Z Z Z (fun w' hw'=>Yi Z)<|aw Z Z Z Z Z (fun w' hw'=>tz Z Z)<|CR fc Z Z Z Z Z (fun w' hw'=>hw'.size) (fun w' hw'=>ln (bd (es.take n)) _ _ w' (by have:=Rd.cut0 (cap:=lc) (sz:=1) ((H.later hw').rd0 2 Z) (fC es n);rwa[ug]at this) (by have:=fe es n;omega)) Z fun A65 c65 hc65=>aw Z Z Z Z Z (fun w' hw'=>bj (cs:= #[.slice A65 (bd (es.take n)).length c65,J (min ((fC es s:Nat):Int) ((fC es n:Nat):Int))]) tr pM N)<|aU ?_
 intro w12 hw' hF
 obtain⟨hF,Aq,cq,eq,hcq,hrw65⟩:=hF;cases eq;clear hcq
 replace H:=H.learnRd hw' hrw65
 clear hw' hF
 refine bl H 0 (#[.slice A65 (bd (es.take n)).length c65,J (min ((fC es s:Nat):Int) ((fC es n:Nat):Int))]) ja Z Z Z Z Z N N fun w13 H=>G (Wi Z)<|U<|Zt ?_
 exact bG (cs0:= #[.slice A65 (bd (es.take n)).length c65,J (min ((fC es s:Nat):Int) ((fC es n:Nat):Int))]) (v1:=J 0) Z eK Z (H.ent (i:=0) Z) Z Z ⟨A65,c65,by unfold mM.c;rw[M1],⟨hgl.take n (by simp;omega),hc65,Rd.mono (H.fact (i:=0) Z) hlo (H.facts _ (ae (i:=0) Z)).2.1⟩,H.below⟩
theorem EN (l:mM) (keep:Nat) (w:World) (h:l.ok w) (hkb:keep<=1000000000000):dd aa Fo [.agg l.c.toArray,J (keep:Nat)] w fun v w2=> ∃ A' c',v=.tuple #[.agg (mM.c ⟨A',c',l.es.take (jT l.es l.s keep),jT l.es l.s keep⟩).toArray,J 0]/\yc w w2 A' c' (l.es.take (jT l.es l.s keep)) (jT l.es l.s keep)/\Below w.heap.size w w2:=by
 refine aE DM Z Z ?_
 have hgl:=h.gl
 have hcap:=h.cap
 have hsz:=hgl.sz
 have hln:=hgl.len
 have hsle:=hgl.sle
 have hss:fC l.es l.s<=(bd l.es).length:=fe l.es l.s
 have H:=Hp.startRd h.rd
 obtain⟨lA,lc,es,s⟩:=l
 dsimp only at hgl hcap hsz hln hsle hss H
 have hss2:(bd (es.take s)).length<=(bd es).length:=hss
 show CW _ _ _ _ (args [.agg #[.slice lA (bd es).length lc,J (fC es s:Nat)],J (keep:Nat)]) w
 dsimp only
 have hmle:=CO es s keep
 have hfl:=uW es (fC es s+min keep ((bd es).length-fC es s))
 have hdt:=FQ es (fC es s+min keep ((bd es).length-fC es s)) hgl.good
 change Iq _ (es.take (jT es s keep)) (bd (es.take (jT es s keep))).length at hdt
 change (bd (es.take (jT es s keep))).length<=_ at hfl
 generalize jT es s keep=m at*
 have hfm:=fe es m
 have hlk:((bd es).take (fC es s+min keep ((bd es).length-fC es s))).length=(fC es s+min keep ((bd es).length-fC es s)):=by rw[aH];omega
 refine W<|Zr<|fS H Z Z fun w1 b2 H=>eC H pM Z fun w2 b4 H=>G (Wi Z)<|U<|W<|W<|Zr<|G (Zw eK H 1 Z Z Z)<|cd mH (qC lA lc es s _ ⟨hgl,hcap,H.rd0 0 Z⟩) Z Z ?_
 rintro _ w3 ⟨rfl,hb⟩;replace H:=H.later hb;clear hb
 refine G (Wi Z)<|U<|W<|Zr<|G (Yi Z)<|G (bX Z Z Z)<|U<|ZF Z<|Zk<|W<|W<|Zr<|G (Yi Z)<|G (cY Z Z I)<|U<|ZF Z<|Zk<|W<|Zr<|G (Zf gy Z)<|G (Zd d3 H 1 Z Z Z)<|G (bn eN Z)<|G (Zf lk Z)<|G (Zd aj H 1 Z Z Z)<|G (mX Z Z I I)<|G (Wi Z)<|U<|W<|Zr<|G (Zf gy Z)<|G (Zd d3 H 1 Z Z Z)<|G (Zf lk Z)<|G (Zd aj H 1 Z Z Z)<|G (Yi Z)<|G (Yi Z)<|G (tz Z Z)<|G (bp Z Z I I)<|sd (k:=(fC es s+min keep ((bd es).length-fC es s))) H 0 Z d5 Z (show Value.int .i64 (((fC es s:Nat):Int)+min ((keep:Nat):Int) ((((bd es).length:Nat):Int)- ((fC es s:Nat):Int)))=J ((fC es s+min keep ((bd es).length-fC es s)):Nat) by congr 1;omega) hcap I Z fun A34 H=> ?_
 have hD:=rM ((bd es).take (fC es s+min keep ((bd es).length-fC es s))) A34 lc _ (H.rd0 0 Z) I I
 rw[hlk]at hD
 refine cd ks hD Z Z ?_;rintro _ w4 ⟨fs,n,A35,c35,rfl,hd35,hr35,hc35,hb35⟩;replace H:=H.learnRd hb35 hr35;clear hr35 hb35
 obtain⟨rfl,rfl⟩:=pG hdt hd35
 refine G (Yu Z)<|G (Xs Z Z)<|G (Xi Z Z)<|G (Ws Z)<|G (Wi Z)<|U<|W<|Zr<|G (Zf gy Z)<|G (Zd d3 H 1 Z Z Z)<|G (Yi Z)<|sd (k:=(bd (es.take m)).length) H 2 Z d5 Z Z hcap I Z fun A41 H=> ?_
 rw[ug]at H
 have hlo:=H.size
 refine cd fc (ln (bd (es.take m)) A41 lc _ (H.rd0 0 Z) I) Z Z ?_;rintro _ w5 ⟨A42,c42,rfl,hc42,hr42,hb42⟩;replace H:=H.learnRd hb42 hr42;clear hr42 hb42
 refine G (Yi Z)<|G (bj (cs:= #[.slice A42 (bd (es.take m)).length c42,J ((bd (es.take m)).length:Nat)]) tr pM N)<|bl H 0 (#[.slice A42 (bd (es.take m)).length c42,J ((bd (es.take m)).length:Nat)]) ja Z Z Z Z Z N N fun w6 H=>G (Wi Z)<|U<|Zt ?_
 exact bG (cs0:= #[.slice A42 (bd (es.take m)).length c42,J ((bd (es.take m)).length:Nat)]) (v1:=J 0) Z eK Z (H.ent (i:=0) Z) Z Z ⟨A42,c42,by unfold mM.c;rw[show fC (es.take m) m=(bd (es.take m)).length from by unfold fC;rw[f6 (by rw[aH];omega)]],⟨hgl.take m (by simp;omega),hc42,Rd.mono (H.fact (i:=0) Z) hlo (H.facts _ (ae (i:=0) Z)).2.1⟩,H.below⟩
/-- a replica, and where its log's bytes lie -/
structure eW where
 up:Bool
 A:Option Addr
 cap:Nat
 es:List cH
 s:Nat
 high:Int
 lo:Nat
 hi:Nat
def eW.c (r:eW):List Value:=[.bool r.up,.slice r.A (bd r.es).length r.cap,J (fC r.es r.s:Nat),J r.high]
def gd:fj eW:=⟨eW.c,4,fun _=>rfl,by decide,fun a u hu=>by
 simp only[eW.c,av,bx,or_false]at hu
 rcases hu with h|h|h|h<;>subst h<;>rfl⟩
def eV:fj Bool:=⟨fun n=>[.bool n],1,fun _=>rfl,by decide,fun a u hu=>by
 simp only[aq]at hu;subst hu;rfl⟩
abbrev eW.log (r:eW):mM:=⟨r.A,r.cap,r.es,r.s⟩
abbrev Br (r:eW):ci:=dG dA r.lo r.hi r.A (bd r.es)
abbrev sR (rs:List eW):List ci:=rs.map Br
structure RA where
 up:Bool
 es:List cH
 s:Nat
 high:Int
def eW.a (r:eW):RA:=⟨r.up,r.es,r.s,r.high⟩
structure gD where
 epoch:Int
 leader:Int
 isr:List Bool
 known:List Int
 reps:List RA
 few:Int
 base:Int
structure Pa where
 epoch:Int
 leader:Int
 isr:List Bool
 iA:Option Addr
 iC:Nat
 known:List Int
 kA:Option Addr
 kC:Nat
 reps:List eW
 rA:Option Addr
 rC:Nat
 few:Int
 base:Int
def Pa.c (p:Pa):List Value:=[J p.epoch,J p.leader,.slice p.iA p.isr.length p.iC,.slice p.kA p.known.length p.kC,.slice p.rA p.reps.length p.rC,J p.few,J p.base]
abbrev Pa.v (p:Pa):Value:=.agg p.c.toArray
def Pa.a (p:Pa):gD:=⟨p.epoch,p.leader,p.isr,p.known,p.reps.map eW.a,p.few,p.base⟩
structure Pa.rd (p:Pa) (lo hi:Nat) (w:World):Prop where
 isr:Rd eV lo hi p.iA p.isr w
 known:Rd bS lo hi p.kA p.known w
 reps:Rd gd lo hi p.rA p.reps w
 logs: ∀ r∈p.reps,Rd dA lo hi r.A (bd r.es) w
 iC:p.isr.length<=p.iC
 kC:p.known.length<=p.kC
 rC:p.reps.length<=p.rC
 cap: ∀ r∈p.reps,(bd r.es).length<=r.cap
 few:p.isr.length<=1000000/\p.known.length<=1000000/\p.reps.length<=1000000
theorem Pa.rd.st {p:Pa} {lo hi:Nat} {w w':World} (hk: ∀ k,lo<=k->k<hi->w'.heap[k]? =w.heap[k]?) (h:p.rd lo hi w):p.rd lo hi w':=
 ⟨h.isr.st hk,h.known.st hk,h.reps.st hk,fun r hr=>(h.logs r hr).st hk,h.iC,h.kC,h.rC,h.cap,h.few⟩
theorem Pa.rd.mono {p:Pa} {lo hi lo' hi':Nat} {w:World} (h:p.rd lo hi w) (hl:lo'<=lo) (hh:hi<=hi'):p.rd lo' hi' w:=
 ⟨h.isr.mono hl hh,h.known.mono hl hh,h.reps.mono hl hh,fun r hr=>(h.logs r hr).mono hl hh,h.iC,h.kC,h.rC,h.cap,h.few⟩
def C2 (lo hi:Nat) (p:Pa):ci:=⟨lo,hi,p.rd lo hi,fun _ _ hk h=>h.st hk⟩
structure RA.ok (r:RA):Prop where
 gl:GL r.es r.s
 high0:0<=r.high
 high1:r.high<=r.es.length
structure gD.ok (p:gD):Prop where
 n1:1<=p.reps.length
 n2:p.reps.length<=5
 isrl:p.isr.length=p.reps.length
 knownl:p.known.length=p.reps.length
 few1:1<=p.few
 few2:p.few<=p.reps.length
 ep0:0<=p.epoch
 ep1:p.epoch<=1073741824
 ld0: -1<=p.leader
 ld1:p.leader<p.reps.length
 base0:0<=p.base
 base1:p.base<=400
 some_:true∈p.isr
 lead: ∀ (l:Nat) (r:RA),p.leader=l->p.reps[l]? =some r->p.isr[l]? =some true/\r.up=true
 reps: ∀ r∈p.reps,r.ok
 known: ∀ n∈p.known,0<=n/\n<=400
theorem Hp.startPa {p:Pa} {w:World} (h:p.rd 0 w.heap.size w):Hp w w [] [C2 0 w.heap.size p,dG eV 0 w.heap.size p.iA p.isr,dG bS 0 w.heap.size p.kA p.known,dG gd 0 w.heap.size p.rA p.reps]:=
 ((((Hp.start w).learnOld (dG gd 0 w.heap.size p.rA p.reps) h.reps (ao _)).learnOld (dG bS 0 w.heap.size p.kA p.known) h.known (ao _)).learnOld (dG eV 0 w.heap.size p.iA p.isr) h.isr (ao _)).learnOld (C2 0 w.heap.size p) h (ao _)
theorem Hp.pa {w0 w:World} {L:List (Nat×Obj)} {F:List ci} {lo hi:Nat} {p:Pa} (H:Hp w0 w L F) (i:Nat) (hF:F[i]? =some (C2 lo hi p)):p.rd 0 w.heap.size w:=
 Pa.rd.mono (H.fact hF) (bA _) (H.facts _ (ae hF)).2.1
theorem Pa.rd.nil (lo hi:Nat) (w:World):Pa.rd ⟨0,0,[],none,0,[],none,0,[],none,0,0,0⟩ lo hi w:=
 ⟨Rd.nil,Rd.nil,Rd.nil,fun r hr=>by simp at hr,by simp,by simp,by simp,fun r hr=>by simp at hr,by simp⟩
def zo:Pa:=⟨0,0,[],none,0,[],none,0,[],none,0,0,0⟩
def gF:gD:=⟨0,0,[],[],[],0,0⟩
def eo (w w2:World) (p:Pa):Prop:=p.rd w.heap.size w2.heap.size w2/\Below w.heap.size w w2
theorem eo.zero {w w2:World} (h:Below w.heap.size w w2):eo w w2 zo:=⟨Pa.rd.nil _ _ _,h⟩
structure F5 (w w2:World) (p:Pa) (g1 g2 g3:Nat) (c1 c2 c3:Array Value):Prop where
 i:p.iA=some ⟨g1,0,none⟩
 k:p.kA=some ⟨g2,0,none⟩
 r:p.rA=some ⟨g3,0,none⟩
 ri:dU eV p.isr p.iC c1
 rk:dU bS p.known p.kC c2
 rr:dU gd p.reps p.rC c3
 cap: ∀ r∈p.reps,(bd r.es).length<=r.cap
 los: ∀ r∈p.reps,w.heap.size<=r.lo
 few:p.isr.length<=1000000/\p.known.length<=1000000/\p.reps.length<=1000000
 hp:Hp w w2 [(g1,.cells c1 jh (0,0)),(g2,.cells c2 cW (0,0)),(g3,.cells c3 fi (0,0))] (sR p.reps)
theorem F5.new {w w2:World} {p:Pa} {g1 g2 g3:Nat} {c1 c2 c3:Array Value} (h:F5 w w2 p g1 g2 g3 c1 c2 c3):eo w w2 p:=by
 have H:=h.hp
 have e1:=H.ents _ (fF _)
 have e2:=H.ents _ (qx _ (fF _))
 have e3:=H.ents _ (qx _ (qx _ (fF _)))
 refine⟨⟨?_,?_,?_,fun r hr=> ?_,h.ri.le,h.rk.le,h.rr.le,h.cap,h.few⟩,H.below⟩
 rw[h.i];exact(h.ri.rd e1.1).mono e1.2 (ce e1.1)
 rw[h.k];exact(h.rk.rd e2.1).mono e2.2 (ce e2.1)
 rw[h.r];exact(h.rr.rd e3.1).mono e3.2 (ce e3.1)
 obtain⟨f1,f2,-⟩:=H.facts (Br r) (bL hr)
 exact Rd.mono f1 (h.los r hr) f2
theorem BV (es:List Bool) (A:Option Addr) (c:Nat) (w:World) (hr:Rd eV 0 w.heap.size A es w) (hb:es.length*1<=140737488355328):
  dd aa qq [.slice A es.length c] w fun v w2=> ∃ A' c' L',v=.slice A' es.length c'/\es.length<=c'/\c'<=maxLen/\gi eV (.slice A' es.length c') jh es L'/\Hp w w2 L' []:=by
 refine aE p5 Z Z ?_
 have H:=Hp.startRd hr
 refine W<|Zr<|G (Ws Z)<|U<|W<|W<|Zr<|G (Ys Z) ?_
 refine wu (qA xE Z) Z Z Z (fun h4=> ?_) (fun h4=> ?_)
 refine U<|ZT Z<|W<|Zr<|G (Ws Z)<|U<|Zt ?_
 have he:es=[]:=by
  cases es with
  |nil=>rfl
  |cons e es=>obtain⟨b,o,hA,_⟩:=hr (by simp);subst hA;cases h4
 subst he
 exact cF Z Z ⟨none,0,[],rfl,by simp,by decide,gi.nil,H.forget (by simp) (by simp)⟩
 refine U<|ZF Z<|Zk<|W<|Zr<|NP H d6 Z fun w1 b5 H=>G (Ys Z)<|vU (Y:=eV) L7 (K:=[]) (L:=[(b5,_)]) (M:=[]) H (rU.lit (by decide) (by rfl)) (es:=[]) (news:=es) Z Z Z (Rd.src (H.fact (i:=0) Z)) (by simpa using hb) Z ?_
 intro A3 c3 w3 L3 h3a h3b ho3 H
 refine G (Ws Z)<|U<|Zt ?_
 exact cF Z Z ⟨A3,c3,L3,rfl,h3a,h3b,ho3,H.forget (by simp) (by simp)⟩
theorem xR (es:List eW) (A:Option Addr) (c:Nat) (w:World) (hr:Rd gd 0 w.heap.size A es w) (hb:es.length*48<=140737488355328):
  dd aa mS [.slice A es.length c] w fun v w2=> ∃ A' c' L',v=.slice A' es.length c'/\es.length<=c'/\c'<=maxLen/\gi gd (.slice A' es.length c') fi es L'/\Hp w w2 L' []:=by
 refine aE my Z Z ?_
 have H:=Hp.startRd hr
 refine W<|Zr<|G (Ws Z)<|U<|W<|W<|Zr<|G (Ys Z) ?_
 refine wu (qA gf Z) Z Z Z (fun h4=> ?_) (fun h4=> ?_)
 refine U<|ZT Z<|W<|Zr<|G (Ws Z)<|U<|Zt ?_
 have he:es=[]:=by
  cases es with
  |nil=>rfl
  |cons e es=>obtain⟨b,o,hA,_⟩:=hr (by simp);subst hA;cases h4
 subst he
 exact cF Z Z ⟨none,0,[],rfl,by simp,by decide,gi.nil,H.forget (by simp) (by simp)⟩
 refine U<|ZF Z<|Zk<|W<|Zr<|NP H bu Z fun w1 b5 H=>G (Ys Z)<|vU (Y:=gd) FY (K:=[]) (L:=[(b5,_)]) (M:=[]) H (rU.lit (by decide) (by rfl)) (es:=[]) (news:=es) Z Z Z (Rd.src (H.fact (i:=0) Z)) (by simpa using hb) Z ?_
 intro A3 c3 w3 L3 h3a h3b ho3 H
 refine G (Ws Z)<|U<|Zt ?_
 exact cF Z Z ⟨A3,c3,L3,rfl,h3a,h3b,ho3,H.forget (by simp) (by simp)⟩
theorem Bv (es:List Bool) (A:Option Addr) (c:Nat) (w:World) (hr:Rd eV 0 w.heap.size A es w) (hb:es.length<=1000000):
  dd aa qp [.slice A es.length c,.bool true] w fun v w2=>(∃ n:Int,v=J n/\(0<=n↔true∈es))/\Below w.heap.size w w2:=by
 refine aE pY Z Z ?_
 have H:=Hp.startRd hr
 refine W<|Zr<|G (Wi Z)<|U<|W<|W<|Zr<|G (Ys Z)<|G (bn xE Z)<|G (Yi Z)<|U<|Zb ?_
 refine cf (τ:=Nat) [4,5,8,9,10,11,12,13,14,15,16,17,18] (fun k=>[(8,J (k:Nat))]) (fun k w'=>k<=es.length/\(∀ j,j<k->es[j]? =some false)/\Hp w w' [] [dG eV 0 w.heap.size A es]) (fun k=>es.length-k) 0 ⟨by omega,by intro j hj;omega,H⟩ (dF Z) ?_
 rintro k ρ1 w1 ⟨hk,hno,H⟩
 show CW _ _ _ _ (dv (gk _ _ ρ1) [(8,J (k:Nat))]) w1
 refine W<|Zr ?_
 refine cR (cG Z Z) Z Z Z (fun h9=> ?_) (fun h9=> ?_)
 refine U<|W<|ZT Z<|Zk<|W<|Zb<|W<|Zr<|G (Yi Z)<|G (Wi Z)<|U<|W<|Zr<|G (Yb Z)<|G (Ys Z)<|G (Yi Z)<|pK H 0 Z d6 Z Z I I Z fun b2 o2 x2 e2=>G (aV dR Z (e2.cl 0 _ Z))<|G (Ed wg Z Z) ?_
 refine mq 16 Z (fun h16=> ?_) (fun h16=> ?_)
 refine U<|ZT Z<|W<|Zr<|G (Yi Z)<|G (Wi Z)<|U<|Zt ?_
 exact cF Z Z ⟨⟨_,rfl,⟨fun _=>by have:=ae e2.at_;simp at h16;rwa[h16]at this,fun _=>by omega⟩⟩,H.below⟩
 refine U<|ZF Z<|Zk<|Zr<|G (bp Z Z I I)<|G (Yi Z)<|U ?_
 refine⟨k+1,⟨by omega,fun j hj=> ?_,H⟩,dF Z,Qg,by show es.length- (k+1)<es.length-k;omega⟩
 by_cases hji:j<k
 exact hno j hji
 have:j=k:=by omega
 subst this;rw[e2.at_];simpa using h16
 refine U<|W<|ZF Z<|Zx<|W<|Zr<|G (Wi Z)<|U<|Zt ?_
 exact cF Z Z ⟨⟨-1,rfl,⟨fun h=>by omega,fun h=>by obtain⟨j,hj⟩:=aK.1 h;have:=hno j (by have:=(cD hj).1;omega);rw[hj]at this;cases this⟩⟩,H.below⟩
theorem rO (es:List Bool) (A:Option Addr) (c:Nat) (w:World) (hr:Rd eV 0 w.heap.size A es w) (hb:es.length<=1000000):
  dd aa oR [.slice A es.length c,.bool true] w fun v w2=>v=.bool (decide (true∈es))/\Below w.heap.size w w2:=by
 refine aE ol Z Z ?_
 have H:=Hp.start w
 refine W<|Zr<|G (Wb Z)<|U<|W<|Zr<|G (Ys Z)<|G (Yb Z)<|cd qd (Bv es _ _ _ hr hb) Z Z ?_
 rintro _ w1 ⟨⟨n,rfl,hn⟩,hb⟩;replace H:=H.later hb;clear hb
 refine G (ke Z Z)<|G (Wb Z)<|U<|Zt ?_
 exact cF (v:=.bool (decide (0<=n))) Z Z ⟨by rw[decide_eq_decide.2 hn],H.below⟩
theorem pP (p:Pa) (i:Nat) (r:eW) (w:World) (hR:Rd gd 0 w.heap.size p.rA p.reps w) (hr:p.reps[i]? =some r) (hl:r.log.ok w):dd aa Fp [p.v,J (i:Nat)] w fun v w2=>v=.tuple #[J (r.es.length:Nat),J (r.s:Nat)]/\Below w.heap.size w w2:=by
 refine aE DO Z Z ?_
 obtain⟨ep,ld,isr,iA,iC,kn,kA,kC,reps,rA,rC,fw,bs⟩:=p
 dsimp only at hR hr
 have H:=Hp.startRd hR
 have hil:=(cD hr).1
 show CW _ _ _ _ (args [.agg #[J (ep),J (ld),.slice iA isr.length iC,.slice kA kn.length kC,.slice rA reps.length rC,J (fw),J (bs)],J (((i:Nat):Int))]) w
 refine W<|Zr<|fS H Z Z fun w1 b2 H=>G (Wi Z)<|G (Wi Z)<|U<|W<|Zr<|G (Zf cP Z)<|G (Zd bR H 0 Z Z Z)<|G (Yi Z)<|pK H 0 Z bu Z Z I I Z fun b2 o2 x2 e2=> ?_
 obtain rfl:x2=r:=by have:=e2.at_;rw[hr]at this;exact(bB this).symm
 refine G (Zf dq Z)<|G (jd (xs:=[.slice x2.A ((bd x2.es).length) x2.cap,J (((fC x2.es x2.s:Nat):Int))]) eK Z Z (D1 e2.cl 1 Z))<|cd fL (gb x2.A x2.cap x2.es x2.s _ ⟨hl.gl,hl.cap,hl.rd.below H.below|>.mono (ao _) H.size⟩) Z Z ?_
 rintro _ w3 ⟨Aen,cen,rfl,hren,hcen,hben⟩;replace H:=H.learnRd hben hren;clear hren hben
 refine G (Yu Z)<|G (Xs Z Z)<|G (Xi Z Z)<|G (Xi Z Z)<|G (Ws Z)<|G (Wi Z)<|G (Wi Z)<|U<|W<|Zr<|G (Ys Z)<|G (bn eh Z)<|G (Yi Z)<|G (Wi Z)<|G (Wi Z)<|U<|Zt ?_
 exact l9 Z Z Z ⟨rfl,H.below⟩
theorem Pa.facts {p:Pa} (h:p.a.ok):1<=p.reps.length/\p.reps.length<=5/\p.isr.length=p.reps.length/\p.known.length=p.reps.length/\1<=p.few/\p.few<=p.reps.length/\0<=p.epoch/\p.epoch<=1073741824/\ -1<=p.leader/\p.leader<p.reps.length/\0<=p.base/\p.base<=400/\true∈p.isr:=by
 have h1:=h.n1;have h2:=h.n2;have h3:=h.isrl;have h4:=h.knownl;have h6:=h.few2;have h7:=h.ld1
 simp only[Pa.a,bC]at h1 h2 h3 h4 h6 h7
 exact⟨h1,h2,h3,h4,h.few1,h6,h.ep0,h.ep1,h.ld0,h7,h.base0,h.base1,h.some_⟩
theorem Pa.repOk {p:Pa} (h:p.a.ok) {i:Nat} {r:eW} (hr:p.reps[i]? =some r):GL r.es r.s/\0<=r.high/\r.high<=r.es.length:=by
 have h1:=h.reps r.a (bL (ae hr))
 exact⟨h1.gl,h1.high0,h1.high1⟩
theorem Pa.leads {p:Pa} (h:p.a.ok) {l:Nat} {r:eW} (hl:p.leader=l) (hr:p.reps[l]? =some r):p.isr[l]? =some true/\r.up=true:=
 h.lead l r.a hl (by simp[Pa.a,hr])
theorem Pa.log {p:Pa} {w:World} (hd:p.rd 0 w.heap.size w) (h:p.a.ok) {i:Nat} {r:eW} (hr:p.reps[i]? =some r):r.log.ok w:=
 ⟨(Pa.repOk h hr).1,hd.cap r (ae hr),hd.logs r (ae hr)⟩
theorem rD (p:Pa) (w:World) (h:p.rd 0 w.heap.size w) (hok:p.a.ok):dd aa DB [p.v] w fun v w2=>v=J 0/\Below w.heap.size w w2:=by
 refine aE BL Z Z ?_
 obtain⟨hn1,hn2,hil,hkl,hf1,hf2,he0,he1,hl0,hl1,hb0,hb1,hsm⟩:=Pa.facts hok
 have hkn:=hok.known
 have hiC:=h.iC
 have hkC:=h.kC
 have hrC:=h.rC
 have hfew:=h.few
 have H:=Hp.startPa h
 obtain⟨ep,ld,isr,iA,iC,kn,kA,kC,reps,rA,rC,fw,bs⟩:=p
 simp only[Pa.a]at hkn
 dsimp only at H hn1 hn2 hil hkl hf1 hf2 he0 he1 hl0 hl1 hb0 hb1 hsm hiC hkC hrC hfew
 show CW _ _ _ _ (args [.agg #[J (ep),J (ld),.slice iA isr.length iC,.slice kA kn.length kC,.slice rA reps.length rC,J (fw),J (bs)]]) w
 refine W<|Zr<|fS H Z Z fun w1 b1 H=>G (Wi Z)<|U<|W<|Zr<|G (Zf cP Z)<|G (Zd bR H 0 Z Z Z)<|G (bn gf Z)<|G (Wi Z)<|U<|W<|W<|Zr<|G (Yi Z)<|G (cY Z Z I)<|G (Yb Z)<|ZG<|G (Yi Z)<|ZG<|G (er Z Z I)<|G (N Z Z)<|G (Yb Z)<|ZG<|G (Zf fZ Z)<|ZG<|G (Zd gI H 0 Z Z Z)<|ZG<|G (bn xE Z)<|ZG<|G (Yi Z)<|ZG<|G (bX Z Z I)<|G (N Z Z)<|G (Yb Z)<|ZG<|G (Zf fY Z)<|ZG<|G (Zd cr H 0 Z Z Z) ?_
 refine ZG<|G (bn eF Z)<|ZG<|G (Yi Z)<|ZG<|G (bX Z Z I)<|G (N Z Z)<|G (Yb Z)<|ZG<|G (Zf xP Z)<|ZG<|G (Zd aj H 0 Z Z Z)<|ZG<|G (cY Z Z I)<|G (N Z Z)<|G (Yb Z)<|ZG<|G (Zf xP Z)<|ZG<|G (Zd aj H 0 Z Z Z)<|ZG<|G (Yi Z)<|ZG<|G (er Z Z I)<|G (N Z Z)<|G (Yb Z)<|ZG<|G (Zf pL Z)<|ZG<|G (Zd aj H 0 Z Z Z)<|ZG<|G (cY Z Z I)<|G (N Z Z)<|G (Yb Z)<|ZG<|G (Zf pL Z)<|ZG<|G (Zd aj H 0 Z Z Z)<|ZG<|G (er Z Z I) ?_
 refine G (N Z Z)<|G (Yb Z)<|ZG<|G (Zf dr Z)<|ZG<|G (Zd aj H 0 Z Z Z)<|ZG<|G (cY Z Z I)<|G (N Z Z)<|G (Yb Z)<|ZG<|G (Zf dr Z)<|ZG<|G (Zd aj H 0 Z Z Z)<|ZG<|G (Yi Z)<|ZG<|G (rc Z Z I)<|G (N Z Z)<|G (Yb Z)<|ZG<|G (Zf uz Z)<|ZG<|G (Zd aj H 0 Z Z Z)<|ZG<|G (cY Z Z I)<|G (N Z Z)<|G (Yb Z)<|ZG<|G (Zf uz Z)<|ZG<|G (Zd aj H 0 Z Z Z)<|ZG<|G (er Z Z I)<|G (N Z Z)<|U<|ZF Z<|Zk<|W<|W ?_
 refine Zr<|G (Zf fZ Z)<|G (Zd gI H 0 Z Z Z)<|cd jn (rO isr iA iC _ (H.rd0 1 Z) I) Z Z ?_
 rintro _ w2 ⟨rfl,hb⟩;replace H:=H.later hb;clear hb
 rw[decide_eq_true hsm]
 refine G (dO Z)<|G (Yb Z)<|ZG<|G (Zf dr Z)<|ZG<|G (Zd aj H 0 Z Z Z)<|ZG ?_
 refine cR (ke Z Z) Z Z Z (fun h80=> ?_) (fun h80=> ?_)
 obtain⟨l,hld⟩: ∃ l:Nat,ld=l:=⟨ld.toNat,by omega⟩
 refine ZG<|G (Yb Z)<|ZG<|G (Zf fZ Z)<|ZG<|G (Zd gI H 0 Z Z Z)<|ZG<|G (Zf dr Z)<|ZG<|G (Zd aj H 0 Z Z Z)<|ZG<|pK (k:=l) H 1 Z d6 Z (congrArg (Value.int .i64) hld) I I Z fun b3 o3 x3 e3=>ZG ?_
 obtain⟨hI,-⟩:=Pa.leads hok (l:=l) hld (show(Pa.reps ⟨ep,ld,isr,iA,iC,kn,kA,kC,reps,rA,rC,fw,bs⟩)[l]? =_ from ah (by show l<reps.length;omega))
 obtain rfl:x3=true:=by have:=e3.at_;rw[show isr[l]? =_ from hI]at this;exact(bB this).symm
 refine G (aV (v:=.bool true) dR Z (e3.cl 0 _ Z))<|ZG<|G (dO Z)<|ZG<|G (Yb Z)<|ZG<|G (Zf cP Z)<|ZG<|G (Zd bR H 0 Z Z Z)<|ZG<|G (Zf dr Z)<|ZG<|G (Zd aj H 0 Z Z Z)<|ZG<|pK (k:=l) H 3 Z bu Z (congrArg (Value.int .i64) hld) I I Z fun b4 o4 x4 e4=>ZG<|G (Zf ft Z)<|ZG ?_
 obtain⟨-,hU⟩:=Pa.leads hok (l:=l) hld (show(Pa.reps ⟨ep,ld,isr,iA,iC,kn,kA,kC,reps,rA,rC,fw,bs⟩)[l]? =_ from e4.at_)
 refine G (aV (v:=.bool true) dR Z (e4.cl 0 _ (by rw[<-hU];rfl)))<|ZG<|G (dO Z)<|ZG<|G (N Z Z)<|ZG<|G (Kt Z Z)<|G (N Z Z)<|U<|ZF Z<|Zk<|W<|W<|Zr<|G (Zf cP Z)<|G (Zd bR H 0 Z Z Z)<|G (bn gf Z)<|G (Yi Z)<|U<|Zb ?_
 refine cf (τ:=Nat) [2,4,5,6,7,104,105,106,107,108,109,110,111,112,113,114,115,116,117,118,119,120,121,122,123,124,125,126,127,128,129,130,131,132,133,134,135,136,137,138,139,140,141,142,143,144,145,146] (fun k=>[(104,J (k:Nat))]) (fun k w'=>k<=reps.length/\Hp w w' [(b1,.cells #[J (ep),J (ld),.slice iA isr.length iC,.slice kA kn.length kC,.slice rA reps.length rC,J (fw),J (bs)] bz (0,0))] [C2 0 w.heap.size ⟨ep,ld,isr,iA,iC,kn,kA,kC,reps,rA,rC,fw,bs⟩,dG eV 0 w.heap.size iA isr,dG bS 0 w.heap.size kA kn,dG gd 0 w.heap.size rA reps]) (fun k=>reps.length-k) 0 ⟨by omega,H⟩ (dF Z) ?_
 rintro k ρ1 w5 ⟨hk,H⟩
 show CW _ _ _ _ (dv (gk _ _ ρ1) [(104,J (k:Nat))]) w5
 refine W<|Zr ?_
 refine cR (cG Z Z) Z Z Z (fun h105=> ?_) (fun h105=> ?_)
 refine U<|W<|ZT Z<|Zk<|W<|Zb<|W<|Zr<|G (Yi Z)<|pK H 3 Z bu Z Z I I Z fun b6 o6 x6 e6=>G (jd (xs:=eW.c x6) lV Z Z e6.cl)<|eC H m7 Z fun w7 b5 H=>G (Wi Z)<|bl H 0 (#[.bool (x6.up),.slice x6.A ((bd x6.es).length) x6.cap,J (((fC x6.es x6.s:Nat):Int)),J (x6.high)]) j5 Z Z Z Z Z N N fun w8 H=>U<|W<|Zr<|G (Zw aG H 1 Z Z Z)<|G (Yi Z)<|cd jB (pP ⟨ep,ld,isr,iA,iC,kn,kA,kC,reps,rA,rC,fw,bs⟩ k x6 _ (H.rd0 3 Z) e6.at_ (Pa.log (Hp.pa H 0 Z) hok (i:=k) e6.at_)) Z Z ?_
 rintro _ w9 ⟨rfl,hb⟩;replace H:=H.later hb;clear hb
 refine G (Yu Z)<|G (Xi Z Z)<|G (Xi Z Z)<|G (Wi Z)<|G (Wi Z)<|U<|W<|Zr<|G (Zf dq Z)<|G (jG 1 [.slice x6.A ((bd x6.es).length) x6.cap,J (((fC x6.es x6.s:Nat):Int))] eK Z Z (H.ent (i:=0) Z) Z)<|cd mH (qC x6.A x6.cap x6.es x6.s _ (Pa.log (Hp.pa H 0 Z) hok (i:=k) e6.at_)) Z Z ?_
 rintro _ w10 ⟨rfl,hb⟩;replace H:=H.later hb;clear hb
 refine G (bX Z Z Z)<|G (Yb Z)<|ZG<|G (Zf dV Z)<|ZG<|G (Zd aj H 0 Z Z Z)<|ZG<|G (cY Z Z (by have:=(Pa.repOk hok (show(Pa.reps ⟨ep,ld,isr,iA,iC,kn,kA,kC,reps,rA,rC,fw,bs⟩)[k]? =_ from e6.at_)).2.1;omega))<|G (N Z Z)<|G (Yb Z)<|ZG<|G (Zf dV Z)<|ZG<|G (Zd aj H 0 Z Z Z)<|ZG<|G (Yi Z)<|ZG<|G (er Z Z (by have:=(Pa.repOk hok (show(Pa.reps ⟨ep,ld,isr,iA,iC,kn,kA,kC,reps,rA,rC,fw,bs⟩)[k]? =_ from e6.at_)).2.2;omega))<|G (N Z Z)<|G (Yb Z)<|ZG<|G (Zf fY Z)<|ZG<|G (Zd cr H 1 Z Z Z)<|ZG<|G (Yi Z)<|ZG<|pK H 2 Z aZ Z Z I I Z fun b11 o11 x11 e11=>ZG<|G (aV aj Z (e11.cl 0 _ Z))<|ZG<|G (cY Z Z (by have:=(hkn _ (ae e11.at_)).1;omega))<|G (N Z Z)<|G (Yb Z)<|ZG<|G (Zf fY Z)<|ZG<|G (Zd cr H 1 Z Z Z)<|ZG<|G (Yi Z) ?_
 refine ZG<|pK H 2 Z aZ Z Z I I Z fun b12 o12 x12 e12=>ZG<|G (aV aj Z (e12.cl 0 _ Z))<|ZG<|G (er Z Z (by have:=(hkn _ (ae e12.at_)).2;omega))<|G (N Z Z)<|U<|ZF Z<|Zk<|Zr<|G (bp Z Z I I)<|G (Yi Z)<|U ?_
 refine⟨k+1,⟨by omega,H.forget (.cons _ (ap _)) (fun _ h=>h)⟩,dF Z,Qg,by show reps.length- (k+1)<reps.length-k;omega⟩
 refine U<|W<|ZF Z<|Zx<|W<|Zr<|G (Wi Z)<|U<|Zt ?_
 exact cF Z Z ⟨rfl,H.below⟩
 refine ZG<|G (Yb Z)<|ZN<|ZN<|ZN<|ZN<|ZN<|ZN<|ZN<|ZN<|ZN<|ZN<|ZN<|ZN<|ZN<|ZN<|ZN<|ZN<|ZN<|ZG<|G (N Z Z)<|G (N Z Z)<|U<|ZF Z<|Zk<|W<|W<|Zr<|G (Zf cP Z)<|G (Zd bR H 0 Z Z Z)<|G (bn gf Z)<|G (Yi Z)<|U<|Zb ?_
 refine cf (τ:=Nat) [2,4,5,6,7,104,105,106,107,108,109,110,111,112,113,114,115,116,117,118,119,120,121,122,123,124,125,126,127,128,129,130,131,132,133,134,135,136,137,138,139,140,141,142,143,144,145,146] (fun k=>[(104,J (k:Nat))]) (fun k w'=>k<=reps.length/\Hp w w' [(b1,.cells #[J (ep),J (ld),.slice iA isr.length iC,.slice kA kn.length kC,.slice rA reps.length rC,J (fw),J (bs)] bz (0,0))] [C2 0 w.heap.size ⟨ep,ld,isr,iA,iC,kn,kA,kC,reps,rA,rC,fw,bs⟩,dG eV 0 w.heap.size iA isr,dG bS 0 w.heap.size kA kn,dG gd 0 w.heap.size rA reps]) (fun k=>reps.length-k) 0 ⟨by omega,H⟩ (dF Z) ?_
 rintro k ρ1 w13 ⟨hk,H⟩
 show CW _ _ _ _ (dv (gk _ _ ρ1) [(104,J (k:Nat))]) w13
 refine W<|Zr ?_
 refine cR (cG Z Z) Z Z Z (fun h105=> ?_) (fun h105=> ?_)
 refine U<|W<|ZT Z<|Zk<|W<|Zb<|W<|Zr<|G (Yi Z)<|pK H 3 Z bu Z Z I I Z fun b14 o14 x14 e14=>G (jd (xs:=eW.c x14) lV Z Z e14.cl)<|eC H m7 Z fun w15 b5 H=>G (Wi Z)<|bl H 0 (#[.bool (x14.up),.slice x14.A ((bd x14.es).length) x14.cap,J (((fC x14.es x14.s:Nat):Int)),J (x14.high)]) j5 Z Z Z Z Z N N fun w16 H=>U<|W<|Zr<|G (Zw aG H 1 Z Z Z)<|G (Yi Z)<|cd jB (pP ⟨ep,ld,isr,iA,iC,kn,kA,kC,reps,rA,rC,fw,bs⟩ k x14 _ (H.rd0 3 Z) e14.at_ (Pa.log (Hp.pa H 0 Z) hok (i:=k) e14.at_)) Z Z ?_
 rintro _ w17 ⟨rfl,hb⟩;replace H:=H.later hb;clear hb
 refine G (Yu Z)<|G (Xi Z Z)<|G (Xi Z Z)<|G (Wi Z)<|G (Wi Z)<|U<|W<|Zr<|G (Zf dq Z)<|G (jG 1 [.slice x14.A ((bd x14.es).length) x14.cap,J (((fC x14.es x14.s:Nat):Int))] eK Z Z (H.ent (i:=0) Z) Z)<|cd mH (qC x14.A x14.cap x14.es x14.s _ (Pa.log (Hp.pa H 0 Z) hok (i:=k) e14.at_)) Z Z ?_
 rintro _ w18 ⟨rfl,hb⟩;replace H:=H.later hb;clear hb
 refine G (bX Z Z Z)<|G (Yb Z)<|ZG<|G (Zf dV Z)<|ZG<|G (Zd aj H 0 Z Z Z)<|ZG<|G (cY Z Z (by have:=(Pa.repOk hok (show(Pa.reps ⟨ep,ld,isr,iA,iC,kn,kA,kC,reps,rA,rC,fw,bs⟩)[k]? =_ from e14.at_)).2.1;omega))<|G (N Z Z)<|G (Yb Z)<|ZG<|G (Zf dV Z)<|ZG<|G (Zd aj H 0 Z Z Z)<|ZG<|G (Yi Z)<|ZG<|G (er Z Z (by have:=(Pa.repOk hok (show(Pa.reps ⟨ep,ld,isr,iA,iC,kn,kA,kC,reps,rA,rC,fw,bs⟩)[k]? =_ from e14.at_)).2.2;omega))<|G (N Z Z)<|G (Yb Z)<|ZG<|G (Zf fY Z)<|ZG<|G (Zd cr H 1 Z Z Z)<|ZG<|G (Yi Z)<|ZG<|pK H 2 Z aZ Z Z I I Z fun b19 o19 x19 e19=>ZG<|G (aV aj Z (e19.cl 0 _ Z))<|ZG<|G (cY Z Z (by have:=(hkn _ (ae e19.at_)).1;omega))<|G (N Z Z)<|G (Yb Z)<|ZG<|G (Zf fY Z)<|ZG<|G (Zd cr H 1 Z Z Z)<|ZG<|G (Yi Z) ?_
 refine ZG<|pK H 2 Z aZ Z Z I I Z fun b20 o20 x20 e20=>ZG<|G (aV aj Z (e20.cl 0 _ Z))<|ZG<|G (er Z Z (by have:=(hkn _ (ae e20.at_)).2;omega))<|G (N Z Z)<|U<|ZF Z<|Zk<|Zr<|G (bp Z Z I I)<|G (Yi Z)<|U ?_
 refine⟨k+1,⟨by omega,H.forget (.cons _ (ap _)) (fun _ h=>h)⟩,dF Z,Qg,by show reps.length- (k+1)<reps.length-k;omega⟩
 refine U<|W<|ZF Z<|Zx<|W<|Zr<|G (Wi Z)<|U<|Zt ?_
 exact cF Z Z ⟨rfl,H.below⟩
theorem zS {f:ci} {l:List eW} {x:eW} {F:List ci} (h:f∈F++sR (l++[x])):f∈Br x::(F++sR l):=by
 simp only[sR,bk,eI,mg,ar,aq]at h
 simp only[av,ar,sR]
 rcases h with h|h|h
 exact .inr (.inl h)
 exact .inr (.inr h)
 exact .inl h
theorem zL (p:Pa) (w:World) (h:p.rd 0 w.heap.size w) (hok:p.a.ok):dd aa yw [p.v] w fun v w2=> ∃ (p':Pa) (g1 g2 g3:Nat) (c1 c2 c3:Array Value),v=p'.v/\p'.a=p.a/\F5 w w2 p' g1 g2 g3 c1 c2 c3:=by
 refine aE DS Z Z ?_
 obtain⟨hn1,hn2,hil,hkl,hf1,hf2,he0,he1,hl0,hl1,hb0,hb1,hsm⟩:=Pa.facts hok
 have hkn:=hok.known
 have hiC:=h.iC
 have hkC:=h.kC
 have hrC:=h.rC
 have hfew:=h.few
 have H:=Hp.startPa h
 obtain⟨ep,ld,isr,iA,iC,kn,kA,kC,reps,rA,rC,fw,bs⟩:=p
 simp only[Pa.a]at hkn
 dsimp only at H hn1 hn2 hil hkl hf1 hf2 he0 he1 hl0 hl1 hb0 hb1 hsm hiC hkC hrC hfew
 show CW _ _ _ _ (args [.agg #[J (ep),J (ld),.slice iA isr.length iC,.slice kA kn.length kC,.slice rA reps.length rC,J (fw),J (bs)]]) w
 refine W<|Zr<|fS H Z Z fun w1 b1 H=>eC H bo Z fun w2 b2 H=>U<|W ?_
 refine bD bZ [0,1,3,4,6,7,2,9,5,8] [10,11,12,13,14] [2,5,8] [0,3,6,9] (sp [(2,Sp.orow w2.heap.size eV jh isr),(5,Sp.orow w2.heap.size bS cW kn),(8,Sp.orow w2.heap.size gd fi reps)]) N N N N Nq (cI _) ?_
 refine aw Z Z Z Z Z (fun w' hw'=>Zf fZ Z)<|aw Z Z Z Z Z (fun w' hw'=>aV gI Z (aB ((H.later hw').ent (i:=1) Z) Z))<|aw Z Z Z Z Z (fun w' hw'=>Zf fY Z)<|aw Z Z Z Z Z (fun w' hw'=>aV cr Z (aB ((H.later hw').ent (i:=1) Z) Z))<|aw Z Z Z Z Z (fun w' hw'=>Zf cP Z)<|aw Z Z Z Z Z (fun w' hw'=>aV bR Z (aB ((H.later hw').ent (i:=1) Z) Z))<|xW qe Z Z Z Z Z (fun w' hw'=>hw'.size) (fun w' hw'=>BV isr _ _ w' ((H.later hw').rd0 1 Z) I) Z fun A6 c6 hc6=>aw Z Z Z Z Z (fun w' hw'=>Zf fZ Z)<|xW gg Z Z Z Z Z (fun w' hw'=>hw'.size) (fun w' hw'=>sK kn _ _ w' ((H.later hw').rd0 2 Z) I) Z fun A9 c9 hc9=>xW mG Z Z Z Z Z (fun w' hw'=>hw'.size) (fun w' hw'=>xR reps _ _ w' ((H.later hw').rd0 3 Z) I) Z fun A12 c12 hc12=>aU ?_
 intro w3 hw' hF
 obtain⟨hF,Aq,cq,L12,eq,hcq,hm12,ho12,he12,hn12⟩:=hF;cases eq;clear hcq
 obtain⟨hF,Aq,cq,L9,eq,hcq,hm9,ho9,he9,hn9⟩:=hF;cases eq;clear hcq
 obtain⟨hF,Aq,cq,L6,eq,hcq,hm6,ho6,he6,hn6⟩:=hF;cases eq;clear hcq
 obtain⟨g1,cur1,rfl,rfl,row1⟩:=ho6.row I
 obtain⟨g2,cur2,rfl,rfl,row2⟩:=ho9.row I
 obtain⟨g3,cur3,rfl,rfl,row3⟩:=ho12.row I
 have e6:=he6 _ (dH _)
 have e9:=he9 _ (dH _)
 have e12:=he12 _ (dH _)
 replace H:=H.adopt3 hw' e6 e9 e12 (rP e6.1 e9.1 Z) (rP e6.1 e12.1 Z) (rP e9.1 e12.1 Z)
 clear hw' hF
 refine bl H 4 (#[J (ep),J (ld),.slice (Qd g1) isr.length c6,.slice kA kn.length kC,.slice rA reps.length rC,J (fw),J (bs)]) ID Z Z Z Z Z N N fun w4 H=>G (Zf fY Z)<|bl H 4 (#[J (ep),J (ld),.slice (Qd g1) isr.length c6,.slice (Qd g2) kn.length c9,.slice rA reps.length rC,J (fw),J (bs)]) jF Z Z Z Z Z N N fun w5 H=>G (Zf cP Z)<|bl H 4 (#[J (ep),J (ld),.slice (Qd g1) isr.length c6,.slice (Qd g2) kn.length c9,.slice (Qd g3) reps.length c12,J (fw),J (bs)]) Dg Z Z Z Z Z N N fun w6 H=>U<|W<|W<|Zr<|G (Zf cP Z)<|G (Zd bR H 4 Z Z Z)<|G (bn gf Z)<|G (Yi Z)<|U<|Zb ?_
 refine cf (τ:=Nat×List eW×Array Value) [3,19,20,21,22,23,24,25,26,27,28,29,30,31,32,33,34,35,36] (fun(k,_)=>[(19,J (k:Nat))]) (fun(k,rs,c3) w'=>k<=rs.length/\rs.length=reps.length/\rs.map eW.a=reps.map eW.a/\rs.drop k=reps.drop k/\(∀ r∈rs.take k,(bd r.es).length<=r.cap/\w.heap.size<=r.lo)/\dU gd rs c12 c3/\Hp w w' [(g1,.cells cur1 jh (0,0)),(g2,.cells cur2 cW (0,0)),(g3,.cells c3 fi (0,0)),(b2,.cells #[J 0,J 0,.slice none 0 0,.slice none 0 0,.slice none 0 0,J 0,J 0] bz (0,0)),(b1,.cells #[J ep,J ld,.slice (Qd g1) isr.length c6,.slice (Qd g2) kn.length c9,.slice (Qd g3) reps.length c12,J fw,J bs] bz (0,0))] ([C2 0 w.heap.size ⟨ep,ld,isr,iA,iC,kn,kA,kC,reps,rA,rC,fw,bs⟩,dG eV 0 w.heap.size iA isr,dG bS 0 w.heap.size kA kn,dG gd 0 w.heap.size rA reps]++sR (rs.take k))) (fun(k,rs,_)=>rs.length-k) (0,reps,cur3) ⟨by omega,rfl,rfl,rfl,by simp,row3,H⟩ (dF Z) ?_
 rintro⟨k,rs,c3⟩ ρ1 w7 ⟨hk,hrl,hma,hdr,hcp,row,H⟩
 show CW _ _ _ _ (dv (gk _ _ ρ1) [(19,J (k:Nat))]) w7
 refine W<|Zr ?_
 refine cR (cG Z Z) Z Z Z (fun h20=> ?_) (fun h20=> ?_)
 refine U<|W<|ZT Z<|Zk<|W<|Zb<|W ?_
 obtain⟨x,hx⟩: ∃ x,rs[k]? =some x:=⟨_,ah I⟩
 have hxt:=ze hdr hx
 have hsz:=(Pa.repOk hok (show(Pa.reps ⟨ep,ld,isr,iA,iC,kn,kA,kC,reps,rA,rC,fw,bs⟩)[k]? =_ from hxt)).1.sz
 refine Zr<|G (Yi Z)<|G (Wi Z)<|U ?_
 have hlo:=H.size
 refine bD bZ [0,1,2,3,4,5,6,7,8,9,10,11,12,13] [14] [10] [0,2,3,5,6,7,8,11,12,13] (sp [(10,Sp.row w7.heap.size dA (bd x.es))]) N N N N Nq (cI _) ?_
 refine aw Z Z Z Z Z (fun w' hw'=>Zf cP Z)<|aw Z Z Z Z Z (fun w' hw'=>aV bR Z (aB ((H.later hw').ent (i:=4) Z) Z))<|aw Z Z Z Z Z (fun w' hw'=>Yi Z)<|aw Z Z Z Z Z (fun w' hw'=>Zf cP Z)<|aw Z Z Z Z Z (fun w' hw'=>aV bR Z (aB ((H.later hw').ent (i:=4) Z) Z))<|aw Z Z Z Z Z (fun w' hw'=>Yi Z)<|aw Z Z Z Z Z (fun w' hw'=>cC bu Z Z (by first|omega|(simp only[ab];omega)))<|aw Z Z Z Z Z (fun w' hw'=>Zf dq Z)<|aw Z Z Z Z Z (fun w' hw'=>Zf gy Z)<|aw Z Z Z Z Z (fun w' hw'=>bQ d3 row hx 1 Z ((H.later hw').ent (i:=2) Z) Z)<|CR fc Z Z Z Z Z (fun w' hw'=>hw'.size) (fun w' hw'=>ln (bd x.es) _ _ w' ((Hp.pa (H.later hw') 0 Z).logs x (ae hxt)) I) Z fun A32 c32 hc32=>aw Z Z Z Z Z (fun w' hw'=>cC bu Z Z (by first|omega|(simp only[ab];omega)))<|aw Z Z Z Z Z (fun w' hw'=>Zf dq Z)<|aw Z Z Z Z Z (fun w' hw'=>Zf gy Z)<|aU ?_
 intro w8 hw' hF
 obtain⟨hF,Aq,cq,eq,hcq,hrw32⟩:=hF;cases eq;clear hcq
 replace H:=H.learnRd hw' hrw32
 clear hw' hF
 refine kQ H 2 ({x with A:=A32,cap:=c32,lo:=w7.heap.size,hi:=w8.heap.size}) Cn row hx 1 Z Z Z Z Z Z N fun w10 cur9 row9 H=>U<|Zr<|G (bp Z Z I I)<|G (Yi Z)<|U ?_
 obtain⟨z1,z2,z3⟩:=NN (x':={x with A:=A32,cap:=c32,lo:=w7.heap.size,hi:=w8.heap.size}) hx hma hdr Z
 refine⟨(k+1,rs.set k {x with A:=A32,cap:=c32,lo:=w7.heap.size,hi:=w8.heap.size},cur9),⟨by rw[ab];omega,by rw[ab];exact hrl,z1,z2,?_,row9,H.forget (ap _) (fun f hf=>by rw[z3]at hf;exact zS hf)⟩,dF Z,Qg,by show(rs.set k _).length- (k+1)<rs.length-k;rw[ab];omega⟩
 rw[z3];intro t ht;rcases ar.1 ht with ht|ht;exact hcp t ht;rw[aq.1 ht];exact⟨hc32,hlo⟩
 refine U<|W<|ZF Z<|Zx<|W<|Zr<|G (Zw aG H 4 Z Z Z)<|bl H 3 (#[J (ep),J (ld),.slice (Qd g1) isr.length c6,.slice (Qd g2) kn.length c9,.slice (Qd g3) reps.length c12,J (fw),J (bs)]) aL Z Z Z Z Z N N fun w11 H=>U<|Zt ?_
 have hke:k=rs.length:=by omega
 rw[hke,bV]at H hcp
 exact eQ (cs0:= #[J ep,J ld,.slice (Qd g1) isr.length c6,.slice (Qd g2) kn.length c9,.slice (Qd g3) reps.length c12,J fw,J bs]) Z aG Z (H.ent (i:=3) Z) Z ⟨⟨ep,ld,isr,some ⟨g1,0,none⟩,c6,kn,some ⟨g2,0,none⟩,c9,rs,some ⟨g3,0,none⟩,c12,fw,bs⟩,g1,g2,g3,cur1,cur2,c3,by unfold Pa.v Pa.c;dsimp only;rw[hrl],by unfold Pa.a;dsimp only;rw[hma],⟨rfl,rfl,rfl,row1,row2,row,fun r hr=>(hcp r hr).1,fun r hr=>(hcp r hr).2,by dsimp only;omega,H.forget (.cons_cons _ (.cons_cons _ (.cons_cons _ (vt _)))) (fun f hf=>bW _ hf)⟩⟩
/-- the least of what is known of those that keep up -/
def du:List Bool->List Int->Int->Int
 |b::bs,n::ns,m=>du bs ns (if b then min m n else m)
 |_,_,m=>m
theorem z6 {isr:List Bool} {kn:List Int} {k:Nat} {b:Bool} {n m:Int} (hb:isr[k]? =some b) (hn:kn[k]? =some n):du (isr.drop k) (kn.drop k) m=du (isr.drop (k+1)) (kn.drop (k+1)) (if b then min m n else m):=by
 rw[cN hb,cN hn]
 rfl
theorem E2 {w0 w:World} {L:List (Nat×Obj)} {F:List ci} {r:eW} (H:Hp w0 w L F) (hF:Br r∈F) (hg:GL r.es r.s) (hc:(bd r.es).length<=r.cap):r.log.ok w:=by
 obtain⟨h1,h2,-⟩:=H.facts (Br r) hF
 exact⟨hg,hc,Rd.mono h1 (bA _) h2⟩
theorem tw (p:Pa) (r:Nat) (w:World) (h:p.rd 0 w.heap.size w) (hok:p.a.ok) (hr:r<p.reps.length):dd aa Jj [p.v,J (r:Nat)] w fun v w2=> ∃ (p':Pa) (g1 g2 g3:Nat) (c1 c2 c3:Array Value),v=.tuple #[p'.v,J 0]/\p'.a=p.a/\F5 w w2 p' g1 g2 g3 c1 c2 c3:=by
 refine aE G6 Z Z ?_
 obtain⟨hn1,hn2,hil,hkl,hf1,hf2,he0,he1,hl0,hl1,hb0,hb1,hsm⟩:=Pa.facts hok
 have hkn:=hok.known
 have hiC:=h.iC
 have hkC:=h.kC
 have hrC:=h.rC
 have hfew:=h.few
 have H:=Hp.startPa h
 obtain⟨ep,ld,isr,iA,iC,kn,kA,kC,reps,rA,rC,fw,bs⟩:=p
 simp only[Pa.a]at hkn
 dsimp only at H hn1 hn2 hil hkl hf1 hf2 he0 he1 hl0 hl1 hb0 hb1 hsm hiC hkC hrC hfew
 dsimp only at hr
 show CW _ _ _ _ (args [.agg #[J (ep),J (ld),.slice iA isr.length iC,.slice kA kn.length kC,.slice rA reps.length rC,J (fw),J (bs)],J (((r:Nat):Int))]) w
 refine W<|Zr<|fS H Z Z fun w1 b2 H=>eC H bo Z fun w2 b4 H=>G (Wi Z)<|U<|W<|W<|Zr<|G (Zw aG H 1 Z Z Z)<|cd lr (rD ⟨ep,ld,isr,iA,iC,kn,kA,kC,reps,rA,rC,fw,bs⟩ _ (Hp.pa H 0 Z) hok) Z Z ?_
 rintro _ w3 ⟨rfl,hb⟩;replace H:=H.later hb;clear hb
 refine G (Wi Z)<|U<|W<|Zr<|G (Yi Z)<|G (bX Z Z Z)<|U<|ZF Z<|Zk<|W<|W<|Zr<|G (Yi Z)<|G (cY Z Z I)<|G (Yb Z)<|ZG<|G (Yi Z)<|ZG<|G (Zf cP Z)<|ZG<|G (Zd bR H 1 Z Z Z)<|ZG<|G (bn gf Z)<|ZG<|G (rc Z Z I)<|G (N Z Z)<|U<|ZF Z<|Zk<|W<|Zr<|G (Zw aG H 1 Z Z Z)<|cd mI (zL ⟨ep,ld,isr,iA,iC,kn,kA,kC,reps,rA,rC,fw,bs⟩ _ (Hp.pa H 0 Z) hok) Z Z ?_
 rintro _ w4 ⟨⟨ep2,ld2,is2,iA2,c1,kn2,kA2,c2,rs,rA2,c3,fw2,bs2⟩,g1,g2,g3,u1,u2,u3,rfl,ha2,ho⟩
 simp only[Pa.a,gD.mk.injEq]at ha2
 obtain⟨e1,e2,e3,e4,hma,e6,e7⟩:=ha2
 obtain rfl:ep=ep2:=e1.symm
 obtain rfl:ld=ld2:=e2.symm
 obtain rfl:isr=is2:=e3.symm
 obtain rfl:kn=kn2:=e4.symm
 obtain rfl:fw=fw2:=e6.symm
 obtain rfl:bs=bs2:=e7.symm
 have hrl:rs.length=reps.length:=by have:=congrArg cv hma;simpa using this
 obtain⟨i1,i2,i3,row1,row2,row3,hcp,hlos,-,hjn⟩:=ho
 dsimp only at i1 i2 i3 row1 row2 row3 hcp hlos hjn
 subst i1;subst i2;subst i3
 have hlo0:=H.size
 replace H:=H.joinF hjn (by intro f hf;obtain⟨r,hr,rfl⟩:=bv.1 hf;exact hlos r hr)
 replace hlos: ∀ r∈rs,w.heap.size<=r.lo:=fun r hr=>aT hlo0 (hlos r hr)
 clear hjn
 refine bl H 3 (#[J (ep),J (ld),.slice (Qd g1) isr.length c1,.slice (Qd g2) kn.length c2,.slice (Qd g3) rs.length c3,J (fw),J (bs)]) aL Z Z Z Z Z N N fun w5 H=>G (Wi Z)<|U<|Zt ?_
 exact bG (cs0:= #[J (ep),J (ld),.slice (Qd g1) isr.length c1,.slice (Qd g2) kn.length c2,.slice (Qd g3) rs.length c3,J (fw),J (bs)]) (v1:=J 0) Z aG Z (H.ent (i:=3) Z) Z Z ⟨⟨ep,ld,isr,_,c1,kn,_,c2,rs,_,c3,fw,bs⟩,g1,g2,g3,u1,u2,u3,rfl,by simp only[Pa.a,hma],⟨rfl,rfl,rfl,row1,row2,row3,hcp,hlos,by dsimp only;omega,H.forget (.cons_cons _ (.cons_cons _ (.cons_cons _ (vt _)))) (fun f hf=>bW _ hf)⟩⟩
theorem HL (p:Pa) (r:Nat) (w:World) (h:p.rd 0 w.heap.size w) (hok:p.a.ok) (hr:r<p.reps.length) (hl:0<=p.leader) (hne:p.leader≠r):dd aa Ah [p.v,J (r:Nat)] w fun v w2=> ∃ (p':Pa) (g1 g2 g3:Nat) (c1 c2 c3:Array Value),v=.tuple #[p'.v,J 0]/\p'.a=p.a/\F5 w w2 p' g1 g2 g3 c1 c2 c3:=by
 refine aE yx Z Z ?_
 obtain⟨hn1,hn2,hil,hkl,hf1,hf2,he0,he1,hl0,hl1,hb0,hb1,hsm⟩:=Pa.facts hok
 have hkn:=hok.known
 have hiC:=h.iC
 have hkC:=h.kC
 have hrC:=h.rC
 have hfew:=h.few
 have H:=Hp.startPa h
 obtain⟨ep,ld,isr,iA,iC,kn,kA,kC,reps,rA,rC,fw,bs⟩:=p
 simp only[Pa.a]at hkn
 dsimp only at H hn1 hn2 hil hkl hf1 hf2 he0 he1 hl0 hl1 hb0 hb1 hsm hiC hkC hrC hfew
 dsimp only at hr hl hne
 show CW _ _ _ _ (args [.agg #[J (ep),J (ld),.slice iA isr.length iC,.slice kA kn.length kC,.slice rA reps.length rC,J (fw),J (bs)],J (((r:Nat):Int))]) w
 refine W<|Zr<|fS H Z Z fun w1 b2 H=>eC H bo Z fun w2 b4 H=>G (Wi Z)<|U<|W<|Zr<|G (Zw aG H 1 Z Z Z)<|G (Yi Z)<|cd ku (tw ⟨ep,ld,isr,iA,iC,kn,kA,kC,reps,rA,rC,fw,bs⟩ r _ (Hp.pa H 0 Z) hok hr) Z Z ?_
 rintro _ w3 ⟨⟨ep2,ld2,is2,iA2,c1,kn2,kA2,c2,rs,rA2,c3,fw2,bs2⟩,g1,g2,g3,u1,u2,u3,rfl,ha2,ho⟩
 simp only[Pa.a,gD.mk.injEq]at ha2
 obtain⟨e1,e2,e3,e4,hma,e6,e7⟩:=ha2
 obtain rfl:ep=ep2:=e1.symm
 obtain rfl:ld=ld2:=e2.symm
 obtain rfl:isr=is2:=e3.symm
 obtain rfl:kn=kn2:=e4.symm
 obtain rfl:fw=fw2:=e6.symm
 obtain rfl:bs=bs2:=e7.symm
 have hrl:rs.length=reps.length:=by have:=congrArg cv hma;simpa using this
 obtain⟨i1,i2,i3,row1,row2,row3,hcp,hlos,-,hjn⟩:=ho
 dsimp only at i1 i2 i3 row1 row2 row3 hcp hlos hjn
 subst i1;subst i2;subst i3
 have hlo0:=H.size
 replace H:=H.joinF hjn (by intro f hf;obtain⟨r,hr,rfl⟩:=bv.1 hf;exact hlos r hr)
 replace hlos: ∀ r∈rs,w.heap.size<=r.lo:=fun r hr=>aT hlo0 (hlos r hr)
 clear hjn
 refine G (Yu Z)<|G (Xa Z Z)<|G (Xi Z Z)<|bl H 4 (#[J (ep),J (ld),.slice (Qd g1) isr.length c1,.slice (Qd g2) kn.length c2,.slice (Qd g3) rs.length c3,J (fw),J (bs)]) aL Z Z Z Z Z N N fun w4 H=>G (Wi Z)<|U<|W<|W<|Zr<|G (Yi Z)<|G (bX Z Z Z)<|U<|ZF Z<|Zk<|W<|W<|Zr<|G (Zf dr Z)<|G (Zd aj H 4 Z Z Z)<|G (cY Z Z I)<|G (Yb Z)<|ZG<|G (Zf dr Z)<|ZG<|G (Zd aj H 4 Z Z Z)<|ZG<|G (Yi Z)<|ZG<|G (nC Z Z hne)<|G (N Z Z)<|U<|ZF Z<|Zk<|W<|Zr<|G (Zw aG H 4 Z Z Z)<|bl H 3 (#[J (ep),J (ld),.slice (Qd g1) isr.length c1,.slice (Qd g2) kn.length c2,.slice (Qd g3) rs.length c3,J (fw),J (bs)]) aL Z Z Z Z Z N N fun w5 H=>G (Wi Z)<|U<|Zt ?_
 exact bG (cs0:= #[J (ep),J (ld),.slice (Qd g1) isr.length c1,.slice (Qd g2) kn.length c2,.slice (Qd g3) rs.length c3,J (fw),J (bs)]) (v1:=J 0) Z aG Z (H.ent (i:=3) Z) Z Z ⟨⟨ep,ld,isr,_,c1,kn,_,c2,rs,_,c3,fw,bs⟩,g1,g2,g3,u1,u2,u3,rfl,by simp only[Pa.a,hma],⟨rfl,rfl,rfl,row1,row2,row3,hcp,hlos,by dsimp only;omega,H.forget (.cons_cons _ (.cons_cons _ (.cons_cons _ (vt _)))) (fun f hf=>bW _ hf)⟩⟩
theorem EY (p:Pa) (r:Nat) (w:World) (h:p.rd 0 w.heap.size w) (hok:p.a.ok) (hr:r<p.reps.length) (hl:p.leader<0∨p.leader=r):dd aa Ah [p.v,J (r:Nat)] w fun v w2=>v=.tuple #[.agg #[J 0,J 0,.slice none 0 0,.slice none 0 0,.slice none 0 0,J 0,J 0],J 8]/\Below w.heap.size w w2:=by
 refine aE yx Z Z ?_
 obtain⟨hn1,hn2,hil,hkl,hf1,hf2,he0,he1,hl0,hl1,hb0,hb1,hsm⟩:=Pa.facts hok
 have hkn:=hok.known
 have hiC:=h.iC
 have hkC:=h.kC
 have hrC:=h.rC
 have hfew:=h.few
 have H:=Hp.startPa h
 obtain⟨ep,ld,isr,iA,iC,kn,kA,kC,reps,rA,rC,fw,bs⟩:=p
 simp only[Pa.a]at hkn
 dsimp only at H hn1 hn2 hil hkl hf1 hf2 he0 he1 hl0 hl1 hb0 hb1 hsm hiC hkC hrC hfew
 dsimp only at hr hl
 show CW _ _ _ _ (args [.agg #[J (ep),J (ld),.slice iA isr.length iC,.slice kA kn.length kC,.slice rA reps.length rC,J (fw),J (bs)],J (((r:Nat):Int))]) w
 refine W<|Zr<|fS H Z Z fun w1 b2 H=>eC H bo Z fun w2 b4 H=>G (Wi Z)<|U<|W<|Zr<|G (Zw aG H 1 Z Z Z)<|G (Yi Z)<|cd ku (tw ⟨ep,ld,isr,iA,iC,kn,kA,kC,reps,rA,rC,fw,bs⟩ r _ (Hp.pa H 0 Z) hok hr) Z Z ?_
 rintro _ w3 ⟨⟨ep2,ld2,is2,iA2,c1,kn2,kA2,c2,rs,rA2,c3,fw2,bs2⟩,g1,g2,g3,u1,u2,u3,rfl,ha2,ho⟩
 simp only[Pa.a,gD.mk.injEq]at ha2
 obtain⟨e1,e2,e3,e4,hma,e6,e7⟩:=ha2
 obtain rfl:ep=ep2:=e1.symm
 obtain rfl:ld=ld2:=e2.symm
 obtain rfl:isr=is2:=e3.symm
 obtain rfl:kn=kn2:=e4.symm
 obtain rfl:fw=fw2:=e6.symm
 obtain rfl:bs=bs2:=e7.symm
 have hrl:rs.length=reps.length:=by have:=congrArg cv hma;simpa using this
 obtain⟨i1,i2,i3,row1,row2,row3,hcp,hlos,-,hjn⟩:=ho
 dsimp only at i1 i2 i3 row1 row2 row3 hcp hlos hjn
 subst i1;subst i2;subst i3
 have hlo0:=H.size
 replace H:=H.joinF hjn (by intro f hf;obtain⟨r,hr,rfl⟩:=bv.1 hf;exact hlos r hr)
 replace hlos: ∀ r∈rs,w.heap.size<=r.lo:=fun r hr=>aT hlo0 (hlos r hr)
 clear hjn
 refine G (Yu Z)<|G (Xa Z Z)<|G (Xi Z Z)<|bl H 4 (#[J (ep),J (ld),.slice (Qd g1) isr.length c1,.slice (Qd g2) kn.length c2,.slice (Qd g3) rs.length c3,J (fw),J (bs)]) aL Z Z Z Z Z N N fun w4 H=>G (Wi Z)<|U<|W<|W<|Zr<|G (Yi Z)<|G (bX Z Z Z)<|U<|ZF Z<|Zk<|W<|W<|Zr<|G (Zf dr Z)<|G (Zd aj H 4 Z Z Z) ?_
 refine cR (cG Z Z) Z Z Z (fun h19=> ?_) (fun h19=> ?_)
 refine G (Yb Z)<|ZN<|ZN<|ZN<|ZN<|G (Kt Z Z)<|U<|ZT Z<|W<|Zr<|G (bj (cs:= #[J (0),J (0),.slice none 0 0,.slice none 0 0,.slice none 0 0,J (0),J (0)]) cL bo N)<|bl H 3 (#[J (0),J (0),.slice none 0 0,.slice none 0 0,.slice none 0 0,J (0),J (0)]) aL Z Z Z Z Z N N fun w5 H=>G (Wi Z)<|U<|Zt ?_
 exact bG (cs0:= #[J 0,J 0,.slice none 0 0,.slice none 0 0,.slice none 0 0,J 0,J 0]) (v1:=J 8) Z aG Z (H.ent (i:=3) Z) Z Z ⟨rfl,H.below⟩
 refine G (Yb Z)<|ZG<|G (Zf dr Z)<|ZG<|G (Zd aj H 4 Z Z Z)<|ZG<|G (Yi Z)<|ZG ?_
 refine cR (bh Z Z) Z Z Z (fun h24=> ?_) (fun h24=> ?_)
 refine G (N Z Z)<|U<|ZT Z<|W<|Zr<|G (bj (cs:= #[J (0),J (0),.slice none 0 0,.slice none 0 0,.slice none 0 0,J (0),J (0)]) cL bo N)<|bl H 3 (#[J (0),J (0),.slice none 0 0,.slice none 0 0,.slice none 0 0,J (0),J (0)]) aL Z Z Z Z Z N N fun w6 H=>G (Wi Z)<|U<|Zt ?_
 exact bG (cs0:= #[J 0,J 0,.slice none 0 0,.slice none 0 0,.slice none 0 0,J 0,J 0]) (v1:=J 8) Z aG Z (H.ent (i:=3) Z) Z Z ⟨rfl,H.below⟩
 exfalso;omega
theorem y6 {w0 w:World} {M:List (Nat×Obj)} {F:List ci} {g1 g2 g3:Nat} {u1 u2 u3:Array Value} (ep ld:Int) (isr:List Bool) (iC:Nat) (kn:List Int) (kC:Nat) (reps:List eW) (rC:Nat) (fw bs:Int) (l:Nat) (r:eW)
  (H:Hp w0 w ((g1,.cells u1 jh (0,0))::(g2,.cells u2 cW (0,0))::(g3,.cells u3 fi (0,0))::M) F) (row1:dU eV isr iC u1) (row2:dU bS kn kC u2) (row3:dU gd reps rC u3) (hil:isr.length=reps.length) (hkl:kn.length=reps.length) (hn:reps.length<=5) (hld:ld=l) (hr:reps[l]? =some r) (hF:Br r∈F) (hg:GL r.es r.s) (hc:(bd r.es).length<=r.cap):
  dd aa Ai [.agg #[J (ep),J (ld),.slice (Qd g1) isr.length iC,.slice (Qd g2) kn.length kC,.slice (Qd g3) reps.length rC,J (fw),J (bs)]] w fun v w2=> ∃ u4,v=.agg #[J (ep),J (ld),.slice (Qd g1) isr.length iC,.slice (Qd g2) kn.length kC,.slice (Qd g3) reps.length rC,J (fw),J (bs)]/\dU gd (reps.set l {r with high:=max r.high (min (du isr kn 400) (r.es.length:Nat))}) rC u4/\Hp w0 w2 ((g1,.cells u1 jh (0,0))::(g2,.cells u2 cW (0,0))::(g3,.cells u4 fi (0,0))::M) F:=by
 refine aE yO Z Z ?_
 have hll:=(cD hr).1
 refine W<|Zr<|fS H Z Z fun w1 b1 H=>eC H bo Z fun w2 b2 H=>U<|W<|W<|Zr<|G (Zf dr Z)<|G (Zd aj H 1 Z Z Z)<|G (cY Z Z I)<|U<|ZF Z<|Zk<|W<|Zr<|G (Wi Z)<|U<|W<|W<|Zr<|G (Zf fY Z)<|G (Zd cr H 1 Z Z Z)<|G (bn eF Z)<|G (Yi Z)<|U<|Zb ?_
 refine cf (τ:=Nat×Int) [3,4,5,16,17,18,19,20,21,22,23,24,25,26,27,28,29] (fun(k,m)=>[(16,J (k:Nat)),(3,J m)]) (fun(k,m) w'=>k<=kn.length/\du (isr.drop k) (kn.drop k) m=du isr kn 400/\Hp w0 w' ((b2,.cells #[J 0,J 0,.slice none 0 0,.slice none 0 0,.slice none 0 0,J 0,J 0] bz (0,0))::(b1,.cells #[J (ep),J (ld),.slice (Qd g1) isr.length iC,.slice (Qd g2) kn.length kC,.slice (Qd g3) reps.length rC,J (fw),J (bs)] bz (0,0))::(g1,.cells u1 jh (0,0))::(g2,.cells u2 cW (0,0))::(g3,.cells u3 fi (0,0))::M) F) (fun(k,_)=>kn.length-k) (0,400) ⟨by omega,rfl,H⟩ (kZ Z Z) ?_
 rintro⟨k,m⟩ ρ1 w3 ⟨hk,hm,H⟩
 show CW _ _ _ _ (dv (gk _ _ ρ1) [(16,J (k:Nat)),(3,J m)]) w3
 refine W<|Zr ?_
 refine cR (cG Z Z) Z Z Z (fun h17=> ?_) (fun h17=> ?_)
 refine U<|W<|ZT Z<|Zk<|W<|Zb<|W ?_
 obtain⟨n,hn_⟩: ∃ n,kn[k]? =some n:=⟨_,ah I⟩
 obtain⟨b,hb_⟩: ∃ b,isr[k]? =some b:=⟨_,ah I⟩
 refine Zr<|G (Yi Z)<|G (cC aZ Z Z (by first|omega|(simp only[ab];omega)))<|G (bQ aj row2 hn_ 0 Z (H.ent (i:=3) Z) Z)<|G (Wi Z)<|G (Wi Z)<|U<|W<|Zr<|G (Zf fZ Z)<|G (Zd gI H 1 Z Z Z)<|G (Yi Z)<|G (cC d6 Z Z (by first|omega|(simp only[ab];omega))) ?_
 refine wu (bQ dR row1 hb_ 0 Z (H.ent (i:=2) Z) Z) Z Z Z (fun h25=> ?_) (fun h25=> ?_)
 refine U<|ZT Z<|Zr<|G (Yi Z)<|G (Yi Z)<|G (tz Z Z)<|G (Wi Z)<|U<|Zr<|G (bp Z Z I I)<|G (Yi Z)<|U ?_
 refine⟨(k+1,min m n),⟨by omega,by rw[<-hm,z6 hb_ hn_];rw[if_pos h25],H⟩,kZ Z Z,Qg,by show kn.length- (k+1)<kn.length-k;omega⟩
 refine U<|ZF Z<|Zk<|Zr<|G (bp Z Z I I)<|G (Yi Z)<|U ?_
 refine⟨(k+1,m),⟨by omega,by rw[<-hm,z6 hb_ hn_];rw[if_neg (by simp[h25])],H⟩,kZ Z Z,Qg,by show kn.length- (k+1)<kn.length-k;omega⟩
 have hke:k=kn.length:=by omega
 have hm2:m=du isr kn 400:=by rw[<-hm,hke,fq];cases(isr.drop kn.length)<;>rfl
 refine U<|W<|ZF Z<|Zx<|W<|Zr<|G (Zw aG H 1 Z Z Z)<|G (Zf dr Z)<|G (Zd aj H 1 Z Z Z)<|cd jB (by have hE:=pP ⟨ep,ld,isr,some ⟨g1,0,none⟩,iC,kn,some ⟨g2,0,none⟩,kC,reps,some ⟨g3,0,none⟩,rC,fw,bs⟩ l r _ (row3.rd0 (H.ent (i:=4) Z)) hr (E2 H hF hg hc);rw[<-hld]at hE;exact hE) Z Z ?_
 rintro _ w4 ⟨rfl,hb⟩;replace H:=H.later hb;clear hb
 refine G (Yu Z)<|G (Xi Z Z)<|G (Xi Z Z)<|G (Wi Z)<|G (Wi Z)<|U<|W<|Zr<|G (Zf cP Z)<|G (Zd bR H 1 Z Z Z)<|G (Zf dr Z)<|G (Zd aj H 1 Z Z Z)<|G (cC (k:=l) bu Z (congrArg (Value.int .i64) hld) (by first|omega|(simp only[ab];omega)))<|G (Wp Z)<|U<|W<|Zr<|G (Yp Z)<|G (Yp Z)<|G (aI Z)<|G (Zf dV Z)<|G (bQ aj row3 hr 3 Z (H.ent (i:=4) Z) Z)<|G (Yi Z)<|G (Yi Z)<|G (tz Z Z)<|G (zX Z Z)<|G (aI Z)<|G (Zf dV Z)<|kQ H 4 ({r with high:=max r.high (min m (r.es.length:Nat))}) bI row3 hr 3 Z Z Z Z Z Z N fun w6 cur5 row5 H=> ?_
 have hs7:(reps.set l ({r with high:=max r.high (min m (r.es.length:Nat))}))[l]? =some ({r with high:=max r.high (min m (r.es.length:Nat))}):=am (cD hr).1
 refine U<|W<|Zr<|G (Zw aG H 1 Z Z Z)<|bl H 0 (#[J (ep),J (ld),.slice (Qd g1) isr.length iC,.slice (Qd g2) kn.length kC,.slice (Qd g3) reps.length rC,J (fw),J (bs)]) aL Z Z Z Z Z N N fun w8 H=>U<|Zt ?_
 exact eQ (cs0:= #[J (ep),J (ld),.slice (Qd g1) isr.length iC,.slice (Qd g2) kn.length kC,.slice (Qd g3) reps.length rC,J (fw),J (bs)]) Z aG Z (H.ent (i:=0) Z) Z ⟨_,rfl,hm2▸row5,H.forget (.cons _ (.cons _ (ap _))) (fun _ h=>h)⟩
/-- the logs of replicas that a call has made -/
def qj (w:World) (F:List ci) (rs:List eW):Prop:= ∀ r∈rs,(bd r.es).length<=r.cap/\w.heap.size<=r.lo/\Br r∈F
theorem qj.of {w:World} {F:List ci} {rs:List eW} (h1: ∀ r∈rs,(bd r.es).length<=r.cap) (h2: ∀ r∈rs,w.heap.size<=r.lo):qj w (F++sR rs) rs:=fun r hr=>⟨h1 r hr,h2 r hr,bW _ (bL hr)⟩
theorem qj.cons {w:World} {F:List ci} {f:ci} {rs:List eW} (h:qj w F rs):qj w (f::F) rs:=fun r hr=>⟨(h r hr).1,(h r hr).2.1,ak _ (h r hr).2.2⟩
theorem qj.set {w:World} {F:List ci} {rs:List eW} (h:qj w F rs) (i:Nat) {x:eW} (hx:(bd x.es).length<=x.cap/\w.heap.size<=x.lo/\Br x∈F):qj w F (rs.set i x):=fun r hr=>by
 rcases bH hr with hr|rfl
 exact h r hr
 exact hx
theorem qj.same {w:World} {F:List ci} {rs:List eW} (h:qj w F rs) (i:Nat) {x x':eW} (hx:rs[i]? =some x) (h1:x'.A=x.A) (h2:x'.cap=x.cap) (h3:x'.es=x.es) (h4:x'.lo=x.lo) (h5:x'.hi=x.hi):qj w F (rs.set i x'):=h.set i (by
 have:=h x (ae hx)
 unfold Br at this⊢
 rw[h1,h2,h3,h4,h5];exact this)
theorem qj.log {w w0 w':World} {L:List (Nat×Obj)} {F:List ci} {rs:List eW} (h:qj w F rs) (H:Hp w0 w' L F) {i:Nat} {x:eW} (hx:rs[i]? =some x) (hg:GL x.es x.s):x.log.ok w':=by
 have h1:=h x (ae hx)
 exact E2 H h1.2.2 hg h1.1
theorem eo.mk_ {w w2:World} {L:List (Nat×Obj)} {F:List ci} {p:Pa} {g1 g2 g3:Nat} {u1 u2 u3:Array Value} (i:p.iA=some ⟨g1,0,none⟩) (k:p.kA=some ⟨g2,0,none⟩) (r:p.rA=some ⟨g3,0,none⟩) (ri:dU eV p.isr p.iC u1) (rk:dU bS p.known p.kC u2) (rr:dU gd p.reps p.rC u3) (hl:qj w F p.reps)
  (few:p.isr.length<=1000000/\p.known.length<=1000000/\p.reps.length<=1000000) (H:Hp w w2 L F) (hL:(g1,Obj.cells u1 jh (0,0))∈L/\(g2,Obj.cells u2 cW (0,0))∈L/\(g3,Obj.cells u3 fi (0,0))∈L):eo w w2 p:=by
 have e1:=H.ents _ hL.1
 have e2:=H.ents _ hL.2.1
 have e3:=H.ents _ hL.2.2
 refine⟨⟨?_,?_,?_,fun r hr=> ?_,ri.le,rk.le,rr.le,fun r hr=>(hl r hr).1,few⟩,H.below⟩
 rw[i];exact(ri.rd e1.1).mono e1.2 (ce e1.1)
 rw[k];exact(rk.rd e2.1).mono e2.2 (ce e2.1)
 rw[r];exact(rr.rd e3.1).mono e3.2 (ce e3.1)
 obtain⟨h1,h2,h3⟩:=hl r hr
 obtain⟨f1,f2,-⟩:=H.facts (Br r) h3
 exact Rd.mono f1 h2 f2
theorem vH {rs reps:List eW} (hma:rs.map eW.a=reps.map eW.a) {i:Nat} {x:eW} (hx:rs[i]? =some x):(reps.map eW.a)[i]? =some x.a:=by
 rw[<-hma,aM,hx];rfl
theorem wr {rs reps:List eW} {ep ld:Int} {isr:List Bool} {iA kA rA:Option Addr} {iC kC rC:Nat} {kn:List Int} {fw bs:Int} (hma:rs.map eW.a=reps.map eW.a) (hok:(Pa.a ⟨ep,ld,isr,iA,iC,kn,kA,kC,reps,rA,rC,fw,bs⟩).ok) {i:Nat} {x:eW} (hx:rs[i]? =some x):GL x.es x.s/\0<=x.high/\x.high<=x.es.length:=by
 have h1:=hok.reps x.a (ae (show(reps.map eW.a)[i]? =_ from vH hma hx))
 exact⟨h1.gl,h1.high0,h1.high1⟩
def nK (p:gD):gD:=match p.reps[p.leader.toNat]? with
 |some r=>if p.leader<0 then p else{p with reps:=p.reps.set p.leader.toNat {r with high:=max r.high (min (du p.isr p.known 400) r.es.length)}}
 |none=>p
theorem xf {p:gD} {l:Nat} {r:RA} (hl:p.leader=l) (hr:p.reps[l]? =some r):nK p={p with reps:=p.reps.set l {r with high:=max r.high (min (du p.isr p.known 400) r.es.length)}}:=by
 have h1:p.leader.toNat=l:=by omega
 unfold nK
 rw[h1,hr];dsimp only;rw[if_neg I]
def nV (p:gD) (r:Nat):gD×Int:=match p.reps[r]? with
 |none=>(gF,5)
 |some x=>if x.up=false then(gF,7)else
  if p.leader=r then(nK {p with reps:=p.reps.set r {x with s:=x.es.length},known:=p.known.set r x.es.length},0)else({p with reps:=p.reps.set r {x with s:=x.es.length}},0)
def pO (p:gD) (r:Nat):gD×Int:=match p.reps[r]? with
 |none=>(gF,5)
 |some x=>if x.up=true then(gF,6)else({p with reps:=p.reps.set r {x with up:=true}},0)
theorem EM (l:mM) (w:World) (h:l.ok w):dd aa Af [.agg l.c.toArray] w fun v w2=> ∃ A' c',v=.tuple #[.agg #[.slice A' (bd l.es).length c',J (fC l.es l.es.length:Nat)],J 0]/\(bd l.es).length<=c'/\Rd dA w.heap.size w2.heap.size A' (bd l.es) w2/\Below w.heap.size w w2:=
 (Gq l w h).mono fun _ _ ⟨A',c',h1,h2,h3⟩=>⟨A',c',h1,h2.2.1,h2.2.2,h3⟩
theorem KH (p:Pa) (r:Nat) (w:World) (h:p.rd 0 w.heap.size w) (hok:p.a.ok) (hr:r<p.reps.length):dd aa Fs [p.v,J (r:Nat)] w fun v w2=> ∃ p':Pa,v=.tuple #[p'.v,J (pO p.a r).2]/\p'.a=(pO p.a r).1/\eo w w2 p':=by
 refine aE DR Z Z ?_
 obtain⟨hn1,hn2,hil,hkl,hf1,hf2,he0,he1,hl0,hl1,hb0,hb1,hsm⟩:=Pa.facts hok
 have hkn:=hok.known
 have hiC:=h.iC
 have hkC:=h.kC
 have hrC:=h.rC
 have hfew:=h.few
 have H:=Hp.startPa h
 obtain⟨ep,ld,isr,iA,iC,kn,kA,kC,reps,rA,rC,fw,bs⟩:=p
 simp only[Pa.a]at hkn
 dsimp only at H hn1 hn2 hil hkl hf1 hf2 he0 he1 hl0 hl1 hb0 hb1 hsm hiC hkC hrC hfew
 dsimp only at hr
 show CW _ _ _ _ (args [.agg #[J (ep),J (ld),.slice iA isr.length iC,.slice kA kn.length kC,.slice rA reps.length rC,J (fw),J (bs)],J (((r:Nat):Int))]) w
 refine W<|Zr<|fS H Z Z fun w1 b2 H=>eC H bo Z fun w2 b4 H=>G (Wi Z)<|U<|W<|Zr<|G (Zw aG H 1 Z Z Z)<|G (Yi Z)<|cd ku (tw ⟨ep,ld,isr,iA,iC,kn,kA,kC,reps,rA,rC,fw,bs⟩ r _ (Hp.pa H 0 Z) hok hr) Z Z ?_
 rintro _ w3 ⟨⟨ep2,ld2,is2,iA2,c1,kn2,kA2,c2,rs,rA2,c3,fw2,bs2⟩,g1,g2,g3,u1,u2,u3,rfl,ha2,ho⟩
 simp only[Pa.a,gD.mk.injEq]at ha2
 obtain⟨e1,e2,e3,e4,hma,e6,e7⟩:=ha2
 obtain rfl:ep=ep2:=e1.symm
 obtain rfl:ld=ld2:=e2.symm
 obtain rfl:isr=is2:=e3.symm
 obtain rfl:kn=kn2:=e4.symm
 obtain rfl:fw=fw2:=e6.symm
 obtain rfl:bs=bs2:=e7.symm
 have hrl:rs.length=reps.length:=by have:=congrArg cv hma;simpa using this
 obtain⟨i1,i2,i3,row1,row2,row3,hcp,hlos,-,hjn⟩:=ho
 dsimp only at i1 i2 i3 row1 row2 row3 hcp hlos hjn
 subst i1;subst i2;subst i3
 have hlo0:=H.size
 replace H:=H.joinF hjn (by intro f hf;obtain⟨r,hr,rfl⟩:=bv.1 hf;exact hlos r hr)
 replace hlos: ∀ r∈rs,w.heap.size<=r.lo:=fun r hr=>aT hlo0 (hlos r hr)
 clear hjn
 have hlg:=qj.of (F:=[C2 0 w.heap.size ⟨ep,ld,isr,iA,iC,kn,kA,kC,reps,rA,rC,fw,bs⟩,dG eV 0 w.heap.size iA isr,dG bS 0 w.heap.size kA kn,dG gd 0 w.heap.size rA reps]) hcp hlos
 have hok2: ∀ {i:Nat} {x:eW},rs[i]? =some x->GL x.es x.s/\0<=x.high/\x.high<=x.es.length:=fun hx=>wr hma hok hx
 obtain⟨x,hx⟩: ∃ x,rs[r]? =some x:=⟨_,ah I⟩
 have hxa:=vH hma hx
 refine G (Yu Z)<|G (Xa Z Z)<|G (Xi Z Z)<|bl H 4 (#[J (ep),J (ld),.slice (Qd g1) isr.length c1,.slice (Qd g2) kn.length c2,.slice (Qd g3) rs.length c3,J (fw),J (bs)]) aL Z Z Z Z Z N N fun w4 H=>G (Wi Z)<|U<|W<|W<|Zr<|G (Yi Z)<|G (bX Z Z Z)<|U<|ZF Z<|Zk<|W<|W<|Zr<|G (Zf cP Z)<|G (Zd bR H 4 Z Z Z)<|G (Yi Z)<|G (cC bu Z Z (by first|omega|(simp only[ab];omega)))<|G (Zf ft Z) ?_
 refine wu (bQ dR row3 hx 0 Z (H.ent (i:=2) Z) Z) Z Z Z (fun h22=> ?_) (fun h22=> ?_)
 have hS:pO (Pa.a ⟨ep,ld,isr,iA,iC,kn,kA,kC,reps,rA,rC,fw,bs⟩) r=(gF,6):=by simp[pO,Pa.a,hxa,eW.a,h22]
 rw[hS]
 refine U<|ZT Z<|W<|Zr<|G (bj (cs:= #[J (0),J (0),.slice none 0 0,.slice none 0 0,.slice none 0 0,J (0),J (0)]) cL bo N)<|bl H 3 (#[J (0),J (0),.slice none 0 0,.slice none 0 0,.slice none 0 0,J (0),J (0)]) aL Z Z Z Z Z N N fun w5 H=>G (Wi Z)<|U<|Zt ?_
 exact bG (cs0:= #[J 0,J 0,.slice none 0 0,.slice none 0 0,.slice none 0 0,J 0,J 0]) (v1:=J 6) Z aG Z (H.ent (i:=3) Z) Z Z ⟨zo,rfl,rfl,eo.zero H.below⟩
 have hS:pO (Pa.a ⟨ep,ld,isr,iA,iC,kn,kA,kC,reps,rA,rC,fw,bs⟩) r=({Pa.a ⟨ep,ld,isr,iA,iC,kn,kA,kC,reps,rA,rC,fw,bs⟩with reps:=(reps.map eW.a).set r {x.a with up:=true}},0):=by simp[pO,Pa.a,hxa,eW.a,h22]
 rw[hS]
 refine U<|ZF Z<|Zk<|W<|Zr<|G (Zf cP Z)<|G (Zd bR H 4 Z Z Z)<|G (Yi Z)<|G (cC bu Z Z (by first|omega|(simp only[ab];omega)))<|G (Zf ft Z)<|kQ H 2 ({x with up:=true}) iJ row3 hx 0 Z Z Z Z Z Z N fun w7 cur6 row6 H=> ?_
 have hs8:(rs.set r ({x with up:=true}))[r]? =some ({x with up:=true}):=am (cD hx).1
 refine U<|W<|Zr<|G (Zw aG H 4 Z Z Z)<|bl H 3 (#[J (ep),J (ld),.slice (Qd g1) isr.length c1,.slice (Qd g2) kn.length c2,.slice (Qd g3) rs.length c3,J (fw),J (bs)]) aL Z Z Z Z Z N N fun w9 H=>G (Wi Z)<|U<|Zt ?_
 have hlg2:=hlg.same r (x':={x with up:=true}) hx Z Z Z Z Z
 exact bG (cs0:= #[J (ep),J (ld),.slice (Qd g1) isr.length c1,.slice (Qd g2) kn.length c2,.slice (Qd g3) rs.length c3,J (fw),J (bs)]) (v1:=J 0) Z aG Z (H.ent (i:=3) Z) Z Z ⟨_,by simp[Pa.c],by simp[Pa.a,cy,hma,eW.a],(eo.mk_ (p:=⟨ep,ld,isr,some ⟨g1,0,none⟩,c1,kn,some ⟨g2,0,none⟩,c2,rs.set r {x with up:=true},some ⟨g3,0,none⟩,c3,fw,bs⟩) Z Z Z row1 row2 row6 hlg2 (by dsimp only;try simp only[ab];omega) H ⟨by simp,by simp,by simp⟩)⟩
theorem KG (p:Pa) (r:Nat) (w:World) (h:p.rd 0 w.heap.size w) (hok:p.a.ok) (hr:r<p.reps.length):dd aa Fr [p.v,J (r:Nat)] w fun v w2=> ∃ p':Pa,v=.tuple #[p'.v,J (nV p.a r).2]/\p'.a=(nV p.a r).1/\eo w w2 p':=by
 refine aE DQ Z Z ?_
 obtain⟨hn1,hn2,hil,hkl,hf1,hf2,he0,he1,hl0,hl1,hb0,hb1,hsm⟩:=Pa.facts hok
 have hkn:=hok.known
 have hiC:=h.iC
 have hkC:=h.kC
 have hrC:=h.rC
 have hfew:=h.few
 have H:=Hp.startPa h
 obtain⟨ep,ld,isr,iA,iC,kn,kA,kC,reps,rA,rC,fw,bs⟩:=p
 simp only[Pa.a]at hkn
 dsimp only at H hn1 hn2 hil hkl hf1 hf2 he0 he1 hl0 hl1 hb0 hb1 hsm hiC hkC hrC hfew
 dsimp only at hr
 show CW _ _ _ _ (args [.agg #[J (ep),J (ld),.slice iA isr.length iC,.slice kA kn.length kC,.slice rA reps.length rC,J (fw),J (bs)],J (((r:Nat):Int))]) w
 refine W<|Zr<|fS H Z Z fun w1 b2 H=>eC H bo Z fun w2 b4 H=>G (Wi Z)<|U<|W<|Zr<|G (Zw aG H 1 Z Z Z)<|G (Yi Z)<|cd ku (tw ⟨ep,ld,isr,iA,iC,kn,kA,kC,reps,rA,rC,fw,bs⟩ r _ (Hp.pa H 0 Z) hok hr) Z Z ?_
 rintro _ w3 ⟨⟨ep2,ld2,is2,iA2,c1,kn2,kA2,c2,rs,rA2,c3,fw2,bs2⟩,g1,g2,g3,u1,u2,u3,rfl,ha2,ho⟩
 simp only[Pa.a,gD.mk.injEq]at ha2
 obtain⟨e1,e2,e3,e4,hma,e6,e7⟩:=ha2
 obtain rfl:ep=ep2:=e1.symm
 obtain rfl:ld=ld2:=e2.symm
 obtain rfl:isr=is2:=e3.symm
 obtain rfl:kn=kn2:=e4.symm
 obtain rfl:fw=fw2:=e6.symm
 obtain rfl:bs=bs2:=e7.symm
 have hrl:rs.length=reps.length:=by have:=congrArg cv hma;simpa using this
 obtain⟨i1,i2,i3,row1,row2,row3,hcp,hlos,-,hjn⟩:=ho
 dsimp only at i1 i2 i3 row1 row2 row3 hcp hlos hjn
 subst i1;subst i2;subst i3
 have hlo0:=H.size
 replace H:=H.joinF hjn (by intro f hf;obtain⟨r,hr,rfl⟩:=bv.1 hf;exact hlos r hr)
 replace hlos: ∀ r∈rs,w.heap.size<=r.lo:=fun r hr=>aT hlo0 (hlos r hr)
 clear hjn
 have hlg:=qj.of (F:=[C2 0 w.heap.size ⟨ep,ld,isr,iA,iC,kn,kA,kC,reps,rA,rC,fw,bs⟩,dG eV 0 w.heap.size iA isr,dG bS 0 w.heap.size kA kn,dG gd 0 w.heap.size rA reps]) hcp hlos
 have hok2: ∀ {i:Nat} {x:eW},rs[i]? =some x->GL x.es x.s/\0<=x.high/\x.high<=x.es.length:=fun hx=>wr hma hok hx
 obtain⟨x,hx⟩: ∃ x,rs[r]? =some x:=⟨_,ah I⟩
 have hxa:=vH hma hx
 refine G (Yu Z)<|G (Xa Z Z)<|G (Xi Z Z)<|bl H 4 (#[J (ep),J (ld),.slice (Qd g1) isr.length c1,.slice (Qd g2) kn.length c2,.slice (Qd g3) rs.length c3,J (fw),J (bs)]) aL Z Z Z Z Z N N fun w4 H=>G (Wi Z)<|U<|W<|W<|Zr<|G (Yi Z)<|G (bX Z Z Z)<|U<|ZF Z<|Zk<|W<|W<|Zr<|G (Zf cP Z)<|G (Zd bR H 4 Z Z Z)<|G (Yi Z)<|G (cC bu Z Z (by first|omega|(simp only[ab];omega)))<|G (Zf ft Z) ?_
 refine wu (bQ dR row3 hx 0 Z (H.ent (i:=2) Z) Z) Z Z Z (fun h22=> ?_) (fun h22=> ?_)
 refine G (dO Z)<|U<|ZF Z<|Zk<|W ?_
 have hlo:=H.size
 refine bD bZ [0,1,2,3,4,5,6,7,8,9,10,11,12,13,14] [15] [9] [0,2,3,5,6,7,10,11,12,13,14] (sp [(9,Sp.nrow w4.heap.size dA (bd x.es) (fun A c=> .tuple #[.agg #[.slice A (bd x.es).length c,J (fC x.es x.es.length:Nat)],J 0]))]) N N N N Nq (cI _) ?_
 refine aw Z Z Z Z Z (fun w' hw'=>Zf cP Z)<|aw Z Z Z Z Z (fun w' hw'=>aV bR Z (aB ((H.later hw').ent (i:=4) Z) Z))<|aw Z Z Z Z Z (fun w' hw'=>Yi Z)<|aw Z Z Z Z Z (fun w' hw'=>Zf cP Z)<|aw Z Z Z Z Z (fun w' hw'=>aV bR Z (aB ((H.later hw').ent (i:=4) Z) Z))<|aw Z Z Z Z Z (fun w' hw'=>Yi Z)<|aw Z Z Z Z Z (fun w' hw'=>cC bu Z Z (by first|omega|(simp only[ab];omega)))<|aw Z Z Z Z Z (fun w' hw'=>Zf dq Z)<|aw Z Z Z Z Z (fun w' hw'=>tE 1 [.slice x.A ((bd x.es).length) x.cap,J (((fC x.es x.s:Nat):Int))] eK row3 hx Z Z ((H.later hw').ent (i:=2) Z) Z)<|Hl (gv:=(fun A c=> .tuple #[.agg #[.slice A (bd x.es).length c,J (fC x.es x.es.length:Nat)],J 0])) FV Z Z Z Z Z (fun w' hw'=>hw'.size) (fun w' hw'=>EM (eW.log x) w' (hlg.log (H.later hw') hx (hok2 hx).1)) Z fun A35 c35 hc35=>aw Z Z Z Z Z (fun w' hw'=>Yu Z)<|aw Z Z Z Z Z (fun w' hw'=>Xa Z Z)<|aw Z Z Z Z Z (fun w' hw'=>Xi Z Z)<|aw Z Z Z Z Z (fun w' hw'=>cC bu Z Z (by first|omega|(simp only[ab];omega)))<|aw Z Z Z Z Z (fun w' hw'=>Zf dq Z)<|aU ?_
 intro w5 hw' hF
 obtain⟨hF,Aq,cq,eq,hcq,hrw35⟩:=hF;cases eq;clear hcq
 replace H:=H.learnRd hw' hrw35
 clear hw' hF
 refine kQ H 2 ({x with A:=A35,cap:=c35,s:=x.es.length,lo:=w4.heap.size,hi:=w5.heap.size}) ja row3 hx 1 Z Z Z Z Z Z N fun w7 cur6 row6 H=> ?_
 have hs8:(rs.set r ({x with A:=A35,cap:=c35,s:=x.es.length,lo:=w4.heap.size,hi:=w5.heap.size}))[r]? =some ({x with A:=A35,cap:=c35,s:=x.es.length,lo:=w4.heap.size,hi:=w5.heap.size}):=am (cD hx).1
 refine U<|W<|W ?_
 have hlg1:=(hlg.cons (f:=dG dA w4.heap.size w5.heap.size A35 (bd x.es))).set r (x:={x with A:=A35,cap:=c35,s:=x.es.length,lo:=w4.heap.size,hi:=w5.heap.size}) ⟨hc35,hlo,fF _⟩
 have hs9:(rs.set r {x with A:=A35,cap:=c35,s:=x.es.length,lo:=w4.heap.size,hi:=w5.heap.size})[r]? =some {x with A:=A35,cap:=c35,s:=x.es.length,lo:=w4.heap.size,hi:=w5.heap.size}:=am I
 have hF9:=(hlg1 _ (ae hs9)).2.2
 have hc9:=(hlg1 _ (ae hs9)).1
 refine Zr<|G (Yi Z)<|G (Zf dr Z)<|G (Zd aj H 4 Z Z Z) ?_
 refine cR (bh Z Z) Z Z Z (fun h43=> ?_) (fun h43=> ?_)
 refine U<|ZT Z<|W ?_
 obtain⟨kx,hkx⟩: ∃ kx,kn[r]? =some kx:=⟨_,ah I⟩
 refine bD bZ [0,1,2,3,4,5,6,7,8,9] [10] [5] [0,2,4,6,7,8,9] (sp [(5,Sp.one (.tuple #[J ((x.es.length:Nat):Int),J ((x.es.length:Nat):Int)]))]) N N N N Nq (cI _) ?_
 refine aw Z Z Z Z Z (fun w' hw'=>Zf fY Z)<|aw Z Z Z Z Z (fun w' hw'=>aV cr Z (aB ((H.later hw').ent (i:=4) Z) Z))<|aw Z Z Z Z Z (fun w' hw'=>Yi Z)<|aw Z Z Z Z Z (fun w' hw'=>iP aG Z ((H.later hw').ent (i:=4) Z) Z)<|aw Z Z Z Z Z (fun w' hw'=>Yi Z)<|g7 jB Z Z Z Z Z (fun w' hw'=>(by have hA:=pP ⟨ep,ld,isr,some ⟨g1,0,none⟩,c1,kn,some ⟨g2,0,none⟩,c2,rs.set r {x with A:=A35,cap:=c35,s:=x.es.length,lo:=w4.heap.size,hi:=w5.heap.size},some ⟨g3,0,none⟩,c3,fw,bs⟩ r {x with A:=A35,cap:=c35,s:=x.es.length,lo:=w4.heap.size,hi:=w5.heap.size} w' (row6.rd0 ((H.later hw').ent (i:=2) Z)) hs9 (hlg1.log (H.later hw') hs9 (hok2 hx).1.all);simp only[Pa.v,Pa.c,ab]at hA;exact hA)) Z<|aw Z Z Z Z Z (fun w' hw'=>Yu Z)<|aw Z Z Z Z Z (fun w' hw'=>Xi Z Z)<|aw Z Z Z Z Z (fun w' hw'=>Xi Z Z)<|aw Z Z Z Z Z (fun w' hw'=>cC aZ Z Z (by first|omega|(simp only[ab];omega)))<|aU ?_
 intro w9 hw' hF
 replace H:=H.later hw';clear hw' hF
 refine kQ H 1 ((((x.es.length:Nat):Int))) bI row2 hkx 0 Z Z Z Z Z Z N fun w11 cur10 row10 H=> ?_
 have hs12:(kn.set r ((((x.es.length:Nat):Int))))[r]? =some ((((x.es.length:Nat):Int))):=am (cD hkx).1
 refine U<|Zr<|G (Zw aG H 4 Z Z Z)<|cd lx ((by have hA:=y6 ep ld isr c1 (kn.set r ((x.es.length:Nat):Int)) c2 (rs.set r {x with A:=A35,cap:=c35,s:=x.es.length,lo:=w4.heap.size,hi:=w5.heap.size}) c3 fw bs r ({x with A:=A35,cap:=c35,s:=x.es.length,lo:=w4.heap.size,hi:=w5.heap.size}) H row1 row10 row6 (by simp only[ab];omega) (by simp only[ab,bJ];omega) (by simp only[ab];omega) h43.symm hs9 hF9 (hok2 hx).1.all hc9;simp only[Pa.v,Pa.c,ab]at hA;exact hA)) Z Z ?_
 rintro _ w13 ⟨u9,rfl,row9,H⟩
 refine bl H 4 (#[J (ep),J (ld),.slice (Qd g1) isr.length c1,.slice (Qd g2) kn.length c2,.slice (Qd g3) rs.length c3,J (fw),J (bs)]) aL Z Z Z Z Z N N fun w14 H=>U<|W<|Zr<|G (Zw aG H 4 Z Z Z)<|bl H 3 (#[J (ep),J (ld),.slice (Qd g1) isr.length c1,.slice (Qd g2) kn.length c2,.slice (Qd g3) rs.length c3,J (fw),J (bs)]) aL Z Z Z Z Z N N fun w15 H=>G (Wi Z)<|U<|Zt ?_
 have hS:nV (Pa.a ⟨ep,ld,isr,iA,iC,kn,kA,kC,reps,rA,rC,fw,bs⟩) r=(nK {Pa.a ⟨ep,ld,isr,iA,iC,kn,kA,kC,reps,rA,rC,fw,bs⟩with reps:=(reps.map eW.a).set r {x.a with s:=x.es.length},known:=kn.set r ((x.es.length:Nat):Int)},0):=by simp[nV,Pa.a,hxa,eW.a,h22,<-h43]
 rw[hS]
 rw[xf (l:=r) (r:={x.a with s:=x.es.length}) h43.symm (am (by simp;omega))]
 have hlg2:=hlg1.same r (x':={x with A:=A35,cap:=c35,s:=x.es.length,lo:=w4.heap.size,hi:=w5.heap.size,high:=max x.high (min (du isr (kn.set r ((x.es.length:Nat):Int)) 400) (x.es.length:Nat))}) hs9 Z Z Z Z Z
 exact bG (cs0:= #[J (ep),J (ld),.slice (Qd g1) isr.length c1,.slice (Qd g2) kn.length c2,.slice (Qd g3) rs.length c3,J (fw),J (bs)]) (v1:=J 0) Z aG Z (H.ent (i:=3) Z) Z Z ⟨_,by simp[Pa.c],by simp[Pa.a,cy,hma,eW.a],(eo.mk_ (p:=⟨ep,ld,isr,some ⟨g1,0,none⟩,c1,kn.set r ((x.es.length:Nat):Int),some ⟨g2,0,none⟩,c2,_,some ⟨g3,0,none⟩,c3,fw,bs⟩) Z Z Z row1 row10 row9 hlg2 (by dsimp only;try simp only[ab];omega) H ⟨by simp,by simp,by simp⟩)⟩
 refine U<|ZF Z<|Zk<|W<|Zr<|G (Zw aG H 4 Z Z Z)<|bl H 3 (#[J (ep),J (ld),.slice (Qd g1) isr.length c1,.slice (Qd g2) kn.length c2,.slice (Qd g3) rs.length c3,J (fw),J (bs)]) aL Z Z Z Z Z N N fun w16 H=>G (Wi Z)<|U<|Zt ?_
 have hS:nV (Pa.a ⟨ep,ld,isr,iA,iC,kn,kA,kC,reps,rA,rC,fw,bs⟩) r=({Pa.a ⟨ep,ld,isr,iA,iC,kn,kA,kC,reps,rA,rC,fw,bs⟩with reps:=(reps.map eW.a).set r {x.a with s:=x.es.length}},0):=by simp[nV,Pa.a,hxa,eW.a,h22,show¬ ld=(r:Int)from fun h=>h43 h.symm]
 rw[hS]
 exact bG (cs0:= #[J (ep),J (ld),.slice (Qd g1) isr.length c1,.slice (Qd g2) kn.length c2,.slice (Qd g3) rs.length c3,J (fw),J (bs)]) (v1:=J 0) Z aG Z (H.ent (i:=3) Z) Z Z ⟨_,by simp[Pa.c],by simp[Pa.a,cy,hma,eW.a],(eo.mk_ (p:=⟨ep,ld,isr,some ⟨g1,0,none⟩,c1,kn,some ⟨g2,0,none⟩,c2,rs.set r {x with A:=A35,cap:=c35,s:=x.es.length,lo:=w4.heap.size,hi:=w5.heap.size},some ⟨g3,0,none⟩,c3,fw,bs⟩) Z Z Z row1 row2 row6 hlg1 (by dsimp only;try simp only[ab];omega) H ⟨by simp,by simp,by simp⟩)⟩
 refine G (dO Z)<|U<|ZT Z<|W<|Zr<|G (bj (cs:= #[J (0),J (0),.slice none 0 0,.slice none 0 0,.slice none 0 0,J (0),J (0)]) cL bo N)<|bl H 3 (#[J (0),J (0),.slice none 0 0,.slice none 0 0,.slice none 0 0,J (0),J (0)]) aL Z Z Z Z Z N N fun w17 H=>G (Wi Z)<|U<|Zt ?_
 have hS:nV (Pa.a ⟨ep,ld,isr,iA,iC,kn,kA,kC,reps,rA,rC,fw,bs⟩) r=(gF,7):=by simp[nV,Pa.a,hxa,eW.a,h22]
 rw[hS]
 exact bG (cs0:= #[J 0,J 0,.slice none 0 0,.slice none 0 0,.slice none 0 0,J 0,J 0]) (v1:=J 7) Z aG Z (H.ent (i:=3) Z) Z Z ⟨zo,rfl,rfl,eo.zero H.below⟩
end Go.Proofs.YtclibalpdhhhfaaGreat
