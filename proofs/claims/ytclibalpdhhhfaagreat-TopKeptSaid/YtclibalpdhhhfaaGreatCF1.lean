/- Part 1 of the proofs over this seat: what its theorems say holds for every input that they name. -/
import Derived.Test.YtclibalpdhhhfaaGreatCE0
namespace Go.Proofs.YtclibalpdhhhfaaGreat
open Go Go.Eng Go.RowKit
open Go.Eng renaming mD→U, ye→W, JK→Zr, Nz→Zk, PO→Zt, Pd→Zb, Pw→Zx, PX→Yi, PY→Yb, PV→Ys, PW→Yp, PU→Yt, PT→Yu, Qe→Wi, Qf→Wb, Qb→Ws, Qc→Wp, Qa→Wt, P1→Zf, P6→Xi, P8→Xa, P7→Xb, P3→Xs, PF→Kt, PG→N, n6→ZT, mP→ZF
open Go.Proofs.Tryz renaming prog→aa
open _root_.List renaming length_set→ab,mem_of_getElem?→ae,getElem?_eq_getElem→ah,mem_cons_of_mem→ak,getElem?_set_self→am,mem_singleton→aq,mem_append→ar,mem_cons→av,length_append→ay,getElem?_eq_some_iff→aA,mem_cons_self→aB,append_assoc→aD,length_take→aI,getElem?_map→aJ,mem_iff_getElem?→aU,sublist_cons_self→aX,append_nil→aY,findIdx?_eq_some_iff_getElem→bh,map_append→bj,mem_nil_iff→bo,length_map→bw,mem_map→bz,mem_or_eq_of_mem_set→bH,mem_map_of_mem→bI,length_replicate→bJ,take_length→bL,length_singleton→bQ,eq_nil_of_length_eq_zero→bU,mem_append_right→bX,getD_eq_getElem?_getD→bZ,getElem?_append_left→cj,length→cu,getElem?_append_right→cv,map_set→cz,length_cons→cE,take_take→di,findIdx?_eq_none_iff→du,length_drop→dL,getElem?_drop→dO,mem_singleton_self→dZ,all_eq_true→ef,drop_of_length_le→en,map_cons→eJ,ext_getElem?→eK,drop_length→fq,take_append_of_le_length→fA,getElem?_take_of_lt→fE,mem_append_left→fU,take_of_length_le→gg,flatMap_cons→gh,take_append_drop→gQ,take_left→i8,take_succ_eq_append_getElem→js,drop_drop→j5,nodup_cons→kU,nil_append→kV,getElem?_set→lE,map_nil→mr,drop_eq_getElem_cons→mY,take_succ_cons→mZ,flatMap_append→m0,getElem?_cons_succ→oO,nodup_append→pj,find?_cons_of_neg→pp,take_subset→qw,perm_middle→qx,cons_append→qy,perm_append_singleton→tl,nil_sublist→vJ,length_nil→xy,mem_of_mem_take→yW,set_cons_zero→By,range→Bz,find?_eq_none→BA
open _root_.List.Perm renaming swap→al
open _root_.Nat renaming le_refl→ao,le_trans→aS,min_eq_left→bv,zero_le→bD,zero_add→cI,add_mul→cR,mul_le_mul_right→dp,le_of_ble_eq_true→fd,mod_eq_of_lt→gX,lt_or_ge→iJ,mod_lt→jF,add_assoc→lf,sub_self→mp,le_of_lt→mq,add_sub_cancel_left→oN,two_pow_add_eq_or_of_lt→sj,add_zero→sk,add_comm→sm,div_lt_of_lt_mul→yU,mul_comm→Db
open _root_.List.Sublist renaming refl→ap
open _root_.Bool renaming and_eq_true→aP,true_and→gZ
open _root_.Option.some renaming inj→bx
open _root_.Array renaming length_toList→ch
open _root_.List.Mem renaming head→fG,tail→qG
open _root_.Int renaming le_refl→iV,toNat_natCast→uv
set_option maxHeartbeats 4000000
set_option maxRecDepth 20000
set_option linter.unusedSimpArgs false
set_option linter.unusedVariables false
set_option linter.unusedSectionVars false
section
open Go Go.Eng
theorem bY:aa.follows .mixedOrders=true:=by kernel_rfl
abbrev cY:TypeId:=3
theorem aj:oV aa 3=true:=by kernel_rfl
theorem bK:(aa.info? 3).map (·.size)=some 1:=by kernel_rfl
theorem iq:oY aa 3 .i64=true:=by kernel_rfl
theorem wx:(aa.info? 3).bind (·.zero)=some (.int .i64 0):=by kernel_rfl
abbrev jm:TypeId:=4
theorem dT:oV aa 4=true:=by kernel_rfl
theorem iK:(aa.info? 4).map (·.size)=some 1:=by kernel_rfl
theorem wB:aa.underlying 4=some .bool:=by kernel_rfl
abbrev mU:TypeId:=5
theorem mz:oV aa 5=true:=by kernel_rfl
theorem im:oY aa 5 .u8=true:=by kernel_rfl
theorem zA:(aa.info? 5).bind (·.zero)=some (.int .u8 0):=by kernel_rfl
abbrev kH:TypeId:=9
theorem bc:oV aa 9=true:=by kernel_rfl
theorem zM:(aa.info? 9).map (·.size)=some 1:=by kernel_rfl
theorem ju:wC aa 9=true:=by kernel_rfl
theorem ww:(aa.info? 9).bind (·.zero)=some (.string ⟨#[]⟩):=by kernel_rfl
theorem CO:oY aa 21 .i32=true:=by kernel_rfl
theorem MH:d4 aa 22 76 4=true:=by kernel_rfl
theorem Lf:pH aa 22=true:=by kernel_rfl
abbrev je:TypeId:=24
theorem nT:lB aa 24 4=true:=by kernel_rfl
theorem CB:(aa.info? 24).map (·.size)=some 4:=by kernel_rfl
theorem Kq:g7 aa 24 [(0,1),(1,1),(2,1),(3,1)]=true:=by kernel_rfl
theorem nK:cn aa 24 0 0=true:=by kernel_rfl
theorem lO:cn aa 24 1 1=true:=by kernel_rfl
theorem Hr:cn aa 24 2 2=true:=by kernel_rfl
theorem AS:cn aa 24 3 3=true:=by kernel_rfl
theorem Dg:(aa.info? 24).bind (·.zero)=some (.agg #[.int .i64 0,.int .i64 0,.int .i64 0,.int .i64 0]):=by kernel_rfl
theorem pE:d4 aa 26 72 7=true:=by kernel_rfl
theorem wL:pH aa 26=true:=by kernel_rfl
theorem uV:Eu aa 26 72 7 72=true:=by kernel_rfl
theorem GD:d4 aa 28 63 3=true:=by kernel_rfl
theorem Fu:pH aa 28=true:=by kernel_rfl
theorem HH:Eu aa 28 63 3 40=true:=by kernel_rfl
theorem dX:oV aa 29=true:=by kernel_rfl
theorem uB:(aa.info? 29).map (·.size)=some 1:=by kernel_rfl
theorem gw:d4 aa 29 47 7=true:=by kernel_rfl
theorem kM:pH aa 29=true:=by kernel_rfl
theorem xv:Eu aa 29 47 7 104=true:=by kernel_rfl
theorem dP:oV aa 30=true:=by kernel_rfl
theorem zP:(aa.info? 30).map (·.size)=some 1:=by kernel_rfl
theorem gL:d4 aa 30 89 7=true:=by kernel_rfl
theorem lk:pH aa 30=true:=by kernel_rfl
theorem Iw:Eu aa 30 89 7 80=true:=by kernel_rfl
abbrev bf:TypeId:=32
theorem ax:lB aa 32 4=true:=by kernel_rfl
theorem aH:(aa.info? 32).map (·.size)=some 4:=by kernel_rfl
theorem fx:g7 aa 32 [(0,1),(1,1),(2,1),(3,1)]=true:=by kernel_rfl
theorem kr:cn aa 32 0 0=true:=by kernel_rfl
theorem kp:cn aa 32 1 1=true:=by kernel_rfl
theorem wc:cn aa 32 2 2=true:=by kernel_rfl
theorem cQ:cn aa 32 3 3=true:=by kernel_rfl
theorem cK:(aa.info? 32).bind (·.zero)=some (.agg #[.int .i64 0,.int .i64 0,.int .i64 0,.slice none 0 0]):=by kernel_rfl
theorem dx:oV aa 33=true:=by kernel_rfl
theorem tJ:(aa.info? 33).map (·.size)=some 1:=by kernel_rfl
theorem eA:d4 aa 33 94 3=true:=by kernel_rfl
theorem gz:pH aa 33=true:=by kernel_rfl
theorem Bm:Eu aa 33 94 3 48=true:=by kernel_rfl
abbrev yr:TypeId:=34
theorem ex:oV aa 34=true:=by kernel_rfl
theorem od:(aa.info? 34).map (·.size)=some 1:=by kernel_rfl
theorem cW:d4 aa 34 99 2=true:=by kernel_rfl
theorem hN:pH aa 34=true:=by kernel_rfl
theorem wl:Eu aa 34 99 2 16=true:=by kernel_rfl
abbrev cM:TypeId:=36
theorem aR:lB aa 36 5=true:=by kernel_rfl
theorem bF:(aa.info? 36).map (·.size)=some 5:=by kernel_rfl
theorem j6:g7 aa 36 [(0,1),(1,1),(2,1),(3,1),(4,1)]=true:=by kernel_rfl
theorem jC:cn aa 36 0 0=true:=by kernel_rfl
theorem v9:cn aa 36 1 1=true:=by kernel_rfl
theorem ko:cn aa 36 2 2=true:=by kernel_rfl
theorem dN:cn aa 36 3 3=true:=by kernel_rfl
theorem dV:cn aa 36 4 4=true:=by kernel_rfl
theorem d6:(aa.info? 36).bind (·.zero)=some (.agg #[.int .i64 0,.int .i64 0,.int .i64 0,.slice none 0 0,.slice none 0 0]):=by kernel_rfl
theorem kb:oV aa 37=true:=by kernel_rfl
theorem EU:(aa.info? 37).map (·.size)=some 1:=by kernel_rfl
theorem sy:d4 aa 37 140 6=true:=by kernel_rfl
theorem tR:pH aa 37=true:=by kernel_rfl
theorem HG:Eu aa 37 140 6 88=true:=by kernel_rfl
abbrev jd:TypeId:=39
theorem nS:lB aa 39 11=true:=by kernel_rfl
theorem iG:(aa.info? 39).map (·.size)=some 11:=by kernel_rfl
theorem Kp:g7 aa 39 [(0,1),(1,4),(5,5),(10,1)]=true:=by kernel_rfl
theorem dz:cn aa 39 0 0=true:=by kernel_rfl
theorem eB:cn aa 39 1 1=true:=by kernel_rfl
theorem jB:cn aa 39 2 5=true:=by kernel_rfl
theorem km:cn aa 39 3 10=true:=by kernel_rfl
theorem kJ:(aa.info? 39).bind (·.zero)=some (.agg #[.slice none 0 0,.int .i64 0,.int .i64 0,.int .i64 0,.slice none 0 0,.int .i64 0,.int .i64 0,.int .i64 0,.slice none 0 0,.slice none 0 0,.slice none 0 0]):=by kernel_rfl
theorem gM:oV aa 43=true:=by kernel_rfl
theorem IQ:(aa.info? 43).map (·.size)=some 1:=by kernel_rfl
theorem d9:d4 aa 43 4 1=true:=by kernel_rfl
theorem xS:pH aa 43=true:=by kernel_rfl
theorem Mh:Eu aa 43 4 1 1=true:=by kernel_rfl
abbrev yq:TypeId:=44
theorem cm:oV aa 44=true:=by kernel_rfl
theorem jH:(aa.info? 44).map (·.size)=some 1:=by kernel_rfl
theorem ba:d4 aa 44 3 1=true:=by kernel_rfl
theorem eG:pH aa 44=true:=by kernel_rfl
theorem zt:Eu aa 44 3 1 8=true:=by kernel_rfl
theorem bN:oV aa 45=true:=by kernel_rfl
theorem Dt:(aa.info? 45).map (·.size)=some 1:=by kernel_rfl
theorem br:d4 aa 45 56 4=true:=by kernel_rfl
theorem gj:pH aa 45=true:=by kernel_rfl
theorem Gf:Eu aa 45 56 4 48=true:=by kernel_rfl
abbrev bC:TypeId:=47
theorem aG:lB aa 47 7=true:=by kernel_rfl
theorem aL:(aa.info? 47).map (·.size)=some 7:=by kernel_rfl
theorem cL:g7 aa 47 [(0,1),(1,1),(2,1),(3,1),(4,1),(5,1),(6,1)]=true:=by kernel_rfl
theorem pV:cn aa 47 0 0=true:=by kernel_rfl
theorem dh:cn aa 47 1 1=true:=by kernel_rfl
theorem f8:cn aa 47 2 2=true:=by kernel_rfl
theorem f7:cn aa 47 3 3=true:=by kernel_rfl
theorem cP:cn aa 47 4 4=true:=by kernel_rfl
theorem yd:cn aa 47 5 5=true:=by kernel_rfl
theorem uQ:cn aa 47 6 6=true:=by kernel_rfl
theorem bp:(aa.info? 47).bind (·.zero)=some (.agg #[.int .i64 0,.int .i64 0,.slice none 0 0,.slice none 0 0,.slice none 0 0,.int .i64 0,.int .i64 0]):=by kernel_rfl
theorem nv:oV aa 48=true:=by kernel_rfl
theorem dg:d4 aa 48 59 7=true:=by kernel_rfl
theorem dM:pH aa 48=true:=by kernel_rfl
theorem JV:Eu aa 48 59 7 64=true:=by kernel_rfl
theorem d7:oV aa 52=true:=by kernel_rfl
theorem CC:(aa.info? 52).map (·.size)=some 1:=by kernel_rfl
theorem d8:d4 aa 52 5 1=true:=by kernel_rfl
theorem eL:pH aa 52=true:=by kernel_rfl
theorem oK:Eu aa 52 5 1 1=true:=by kernel_rfl
theorem Dh:(aa.info? 52).bind (·.zero)=some (.slice none 0 0):=by kernel_rfl
abbrev Bq:TypeId:=54
theorem eE:lB aa 54 2=true:=by kernel_rfl
theorem ja:(aa.info? 54).map (·.size)=some 2:=by kernel_rfl
theorem tI:g7 aa 54 [(0,1),(1,1)]=true:=by kernel_rfl
theorem gE:cn aa 54 0 0=true:=by kernel_rfl
theorem lu:cn aa 54 1 1=true:=by kernel_rfl
theorem pW:(aa.info? 54).bind (·.zero)=some (.agg #[.slice none 0 0,.int .i64 0]):=by kernel_rfl
abbrev fz:TypeId:=56
theorem l9:lB aa 56 4=true:=by kernel_rfl
theorem j7:(aa.info? 56).map (·.size)=some 4:=by kernel_rfl
theorem GA:g7 aa 56 [(0,1),(1,2),(3,1)]=true:=by kernel_rfl
theorem ft:cn aa 56 0 0=true:=by kernel_rfl
theorem dn:cn aa 56 1 1=true:=by kernel_rfl
theorem dv:cn aa 56 2 3=true:=by kernel_rfl
theorem nj:(aa.info? 56).bind (·.zero)=some (.agg #[.bool false,.slice none 0 0,.int .i64 0,.int .i64 0]):=by kernel_rfl
abbrev cZ:TypeId:=59
theorem dw:lB aa 59 7=true:=by kernel_rfl
theorem eS:(aa.info? 59).map (·.size)=some 7:=by kernel_rfl
theorem oc:g7 aa 59 [(0,1),(1,1),(2,1),(3,1),(4,1),(5,1),(6,1)]=true:=by kernel_rfl
theorem nL:cn aa 59 0 0=true:=by kernel_rfl
theorem fg:cn aa 59 1 1=true:=by kernel_rfl
theorem eC:cn aa 59 2 2=true:=by kernel_rfl
theorem fa:cn aa 59 3 3=true:=by kernel_rfl
theorem eZ:cn aa 59 4 4=true:=by kernel_rfl
theorem iZ:cn aa 59 5 5=true:=by kernel_rfl
theorem qj:cn aa 59 6 6=true:=by kernel_rfl
theorem gi:(aa.info? 59).bind (·.zero)=some (.agg #[.int .i64 0,.int .i64 0,.int .i64 0,.int .i64 0,.int .i64 0,.bool false,.string ⟨#[]⟩]):=by kernel_rfl
abbrev ma:TypeId:=61
theorem jn:oV aa 61=true:=by kernel_rfl
theorem ET:(aa.info? 61).map (·.size)=some 1:=by kernel_rfl
theorem ik:d4 aa 61 9 1=true:=by kernel_rfl
theorem lV:pH aa 61=true:=by kernel_rfl
theorem wk:Eu aa 61 9 1 16=true:=by kernel_rfl
abbrev ee:TypeId:=63
theorem aN:lB aa 63 3=true:=by kernel_rfl
theorem aQ:(aa.info? 63).map (·.size)=some 3:=by kernel_rfl
theorem iF:g7 aa 63 [(0,1),(1,1),(2,1)]=true:=by kernel_rfl
theorem yO:cn aa 63 2 2=true:=by kernel_rfl
theorem dt:(aa.info? 63).bind (·.zero)=some (.agg #[.int .i64 0,.int .i64 0,.slice none 0 0]):=by kernel_rfl
abbrev fS:TypeId:=72
theorem dR:lB aa 72 7=true:=by kernel_rfl
theorem iL:(aa.info? 72).map (·.size)=some 7:=by kernel_rfl
theorem jv:g7 aa 72 [(0,1),(1,1),(2,1),(3,1),(4,1),(5,1),(6,1)]=true:=by kernel_rfl
theorem mN:cn aa 72 0 0=true:=by kernel_rfl
theorem fb:cn aa 72 1 1=true:=by kernel_rfl
theorem dU:cn aa 72 2 2=true:=by kernel_rfl
theorem eP:cn aa 72 3 3=true:=by kernel_rfl
theorem FV:cn aa 72 4 4=true:=by kernel_rfl
theorem AT:cn aa 72 5 5=true:=by kernel_rfl
theorem jL:cn aa 72 6 6=true:=by kernel_rfl
theorem jG:(aa.info? 72).bind (·.zero)=some (.agg #[.int .i64 0,.string ⟨#[]⟩,.int .i64 0,.int .i64 0,.int .i64 0,.string ⟨#[]⟩,.int .i64 0]):=by kernel_rfl
abbrev vH:TypeId:=76
theorem NK:lB aa 76 4=true:=by kernel_rfl
theorem MI:(aa.info? 76).map (·.size)=some 4:=by kernel_rfl
theorem LK:cn aa 76 0 0=true:=by kernel_rfl
theorem mM:cn aa 76 1 1=true:=by kernel_rfl
theorem LJ:cn aa 76 2 2=true:=by kernel_rfl
theorem ls:cn aa 76 3 3=true:=by kernel_rfl
theorem OX:(aa.info? 76).bind (·.zero)=some (.agg #[.int .i64 0,.int .i64 0,.int .i64 0,.int .i64 0]):=by kernel_rfl
abbrev dJ:TypeId:=89
theorem zu:lB aa 89 7=true:=by kernel_rfl
theorem HS:(aa.info? 89).map (·.size)=some 7:=by kernel_rfl
theorem N9:g7 aa 89 [(0,1),(1,1),(2,1),(3,1),(4,1),(5,1),(6,1)]=true:=by kernel_rfl
theorem oB:cn aa 89 0 0=true:=by kernel_rfl
theorem lr:cn aa 89 1 1=true:=by kernel_rfl
theorem gD:cn aa 89 2 2=true:=by kernel_rfl
theorem cS:cn aa 89 3 3=true:=by kernel_rfl
theorem dD:cn aa 89 4 4=true:=by kernel_rfl
theorem ub:cn aa 89 5 5=true:=by kernel_rfl
theorem jk:cn aa 89 6 6=true:=by kernel_rfl
theorem HN:(aa.info? 89).bind (·.zero)=some (.agg #[.string ⟨#[]⟩,.int .i64 0,.int .i64 0,.int .i64 0,.slice none 0 0,.int .i64 0,.int .i64 0]):=by kernel_rfl
abbrev df:TypeId:=94
theorem nU:lB aa 94 3=true:=by kernel_rfl
theorem sB:(aa.info? 94).map (·.size)=some 3:=by kernel_rfl
theorem IP:g7 aa 94 [(0,1),(1,1),(2,1)]=true:=by kernel_rfl
theorem oG:cn aa 94 0 0=true:=by kernel_rfl
theorem qP:cn aa 94 1 1=true:=by kernel_rfl
theorem iS:cn aa 94 2 2=true:=by kernel_rfl
theorem tE:(aa.info? 94).bind (·.zero)=some (.agg #[.string ⟨#[]⟩,.int .i64 0,.slice none 0 0]):=by kernel_rfl
abbrev ed:TypeId:=99
theorem Bo:lB aa 99 2=true:=by kernel_rfl
theorem zO:(aa.info? 99).map (·.size)=some 2:=by kernel_rfl
theorem uA:g7 aa 99 [(0,1),(1,1)]=true:=by kernel_rfl
theorem jp:cn aa 99 0 0=true:=by kernel_rfl
theorem oF:cn aa 99 1 1=true:=by kernel_rfl
theorem li:(aa.info? 99).bind (·.zero)=some (.agg #[.int .i64 0,.int .i64 0]):=by kernel_rfl
abbrev bM:TypeId:=104
theorem IN:g7 aa 104 [(0,11)]=true:=by kernel_rfl
theorem aW:cn aa 104 0 0=true:=by kernel_rfl
theorem J8:(aa.info? 104).bind (·.zero)=some (.agg #[.slice none 0 0,.int .i64 0,.int .i64 0,.int .i64 0,.slice none 0 0,.int .i64 0,.int .i64 0,.int .i64 0,.slice none 0 0,.slice none 0 0,.slice none 0 0]):=by kernel_rfl
theorem Fw:oY aa 108 .u64=true:=by kernel_rfl
abbrev ut:TypeId:=127
theorem IM:g7 aa 127 [(0,1),(1,1)]=true:=by kernel_rfl
theorem l6:cn aa 127 0 0=true:=by kernel_rfl
theorem kk:cn aa 127 1 1=true:=by kernel_rfl
theorem J7:(aa.info? 127).bind (·.zero)=some (.agg #[.slice none 0 0,.bool false]):=by kernel_rfl
theorem iO:GO aa 137=true:=by kernel_rfl
abbrev fy:TypeId:=140
theorem zN:(aa.info? 140).map (·.size)=some 6:=by kernel_rfl
theorem xJ:g7 aa 140 [(0,1),(1,1),(2,1),(3,1),(4,1),(5,1)]=true:=by kernel_rfl
theorem oE:cn aa 140 0 0=true:=by kernel_rfl
theorem FU:cn aa 140 1 1=true:=by kernel_rfl
theorem uc:cn aa 140 2 2=true:=by kernel_rfl
theorem oD:cn aa 140 3 3=true:=by kernel_rfl
theorem yN:cn aa 140 4 4=true:=by kernel_rfl
theorem l7:cn aa 140 5 5=true:=by kernel_rfl
theorem wy:(aa.info? 140).bind (·.zero)=some (.agg #[.string ⟨#[]⟩,.int .i64 0,.int .i64 0,.bool false,.slice none 0 0,.slice none 0 0]):=by kernel_rfl
abbrev Gi:TypeId:=187
theorem nX:GO aa 187=true:=by kernel_rfl
theorem qH:(aa.info? 187).bind (·.zero)=some (.pointer none):=by kernel_rfl
abbrev lR:TypeId:=191
theorem yw:g7 aa 191 [(0,1),(1,1),(2,1),(3,1)]=true:=by kernel_rfl
theorem jQ:cn aa 191 0 0=true:=by kernel_rfl
theorem fk:cn aa 191 1 1=true:=by kernel_rfl
theorem d5:cn aa 191 2 2=true:=by kernel_rfl
theorem ia:cn aa 191 3 3=true:=by kernel_rfl
theorem zz:(aa.info? 191).bind (·.zero)=some (.agg #[.int .i64 0,.int .i64 0,.int .i64 0,.int .i64 0]):=by kernel_rfl
theorem wE:d4 aa 199 44 1=true:=by kernel_rfl
theorem Jh:pH aa 199=true:=by kernel_rfl
theorem rS:d4 aa 209 52 1=true:=by kernel_rfl
theorem Aj:pH aa 209=true:=by kernel_rfl
abbrev tp:FuncId:=3
theorem sO:aa.funcs[(3:Nat)]? =some Tryz.f3:=Tryz.func3
abbrev oq:FuncId:=9
theorem tw:aa.funcs[(9:Nat)]? =some Tryz.f9:=Tryz.func9
theorem tA:bg aa 9=true:=by kernel_rfl
abbrev u5:FuncId:=10
theorem t6:aa.funcs[(10:Nat)]? =some Tryz.f10:=Tryz.func10
theorem kB:bg aa 10=true:=by kernel_rfl
abbrev wR:FuncId:=11
theorem v6:aa.funcs[(11:Nat)]? =some Tryz.f11:=Tryz.func11
theorem gd:bg aa 11=true:=by kernel_rfl
abbrev vZ:FuncId:=12
theorem u7:aa.funcs[(12:Nat)]? =some Tryz.f12:=Tryz.func12
theorem jc:bg aa 12=true:=by kernel_rfl
abbrev vt:FuncId:=13
theorem AL:aa.funcs[(13:Nat)]? =some Tryz.f13:=Tryz.func13
theorem fl:bg aa 13=true:=by kernel_rfl
abbrev pK:FuncId:=14
theorem pe:aa.funcs[(14:Nat)]? =some Tryz.f14:=Tryz.func14
theorem jM:bg aa 14=true:=by kernel_rfl
abbrev DO:FuncId:=17
theorem BY:aa.funcs[(17:Nat)]? =some Tryz.f17:=Tryz.func17
theorem ly:bg aa 17=true:=by kernel_rfl
abbrev BQ:FuncId:=18
theorem AN:aa.funcs[(18:Nat)]? =some Tryz.f18:=Tryz.func18
theorem kE:bg aa 18=true:=by kernel_rfl
abbrev BP:FuncId:=19
theorem AM:aa.funcs[(19:Nat)]? =some Tryz.f19:=Tryz.func19
theorem uk:bg aa 19=true:=by kernel_rfl
abbrev tq:FuncId:=20
theorem sP:aa.funcs[(20:Nat)]? =some Tryz.f20:=Tryz.func20
theorem aM:bg aa 20=true:=by kernel_rfl
abbrev uZ:FuncId:=21
theorem t5:aa.funcs[(21:Nat)]? =some Tryz.f21:=Tryz.func21
theorem uj:bg aa 21=true:=by kernel_rfl
abbrev uY:FuncId:=22
theorem t0:aa.funcs[(22:Nat)]? =some Tryz.f22:=Tryz.func22
theorem ui:bg aa 22=true:=by kernel_rfl
abbrev DU:FuncId:=23
theorem B6:aa.funcs[(23:Nat)]? =some Tryz.f23:=Tryz.func23
theorem Ci:bg aa 23=true:=by kernel_rfl
abbrev rZ:FuncId:=24
theorem rz:aa.funcs[(24:Nat)]? =some Tryz.f24:=Tryz.func24
theorem rJ:bg aa 24=true:=by kernel_rfl
abbrev yK:FuncId:=25
theorem D0:aa.funcs[(25:Nat)]? =some Tryz.f25:=Tryz.func25
theorem mR:bg aa 25=true:=by kernel_rfl
abbrev BM:FuncId:=26
theorem AI:aa.funcs[(26:Nat)]? =some Tryz.f26:=Tryz.func26
theorem kz:bg aa 26=true:=by kernel_rfl
abbrev pb:FuncId:=27
theorem oz:aa.funcs[(27:Nat)]? =some Tryz.f27:=Tryz.func27
theorem jr:bg aa 27=true:=by kernel_rfl
abbrev FA:FuncId:=28
theorem D1:aa.funcs[(28:Nat)]? =some Tryz.f28:=Tryz.func28
theorem jE:bg aa 28=true:=by kernel_rfl
abbrev AB:FuncId:=29
theorem y5:aa.funcs[(29:Nat)]? =some Tryz.f29:=Tryz.func29
theorem te:bg aa 29=true:=by kernel_rfl
abbrev FF:FuncId:=30
theorem D7:aa.funcs[(30:Nat)]? =some Tryz.f30:=Tryz.func30
theorem En:bg aa 30=true:=by kernel_rfl
abbrev nB:FuncId:=31
theorem m5:aa.funcs[(31:Nat)]? =some Tryz.f31:=Tryz.func31
theorem m7:bg aa 31=true:=by kernel_rfl
abbrev r5:FuncId:=32
theorem xd:aa.funcs[(32:Nat)]? =some Tryz.f32:=Tryz.func32
theorem xo:bg aa 32=true:=by kernel_rfl
abbrev DP:FuncId:=33
theorem BZ:aa.funcs[(33:Nat)]? =some Tryz.f33:=Tryz.func33
theorem vC:bg aa 33=true:=by kernel_rfl
abbrev kZ:FuncId:=34
theorem kN:aa.funcs[(34:Nat)]? =some Tryz.f34:=Tryz.func34
theorem kP:bg aa 34=true:=by kernel_rfl
abbrev r4:FuncId:=35
theorem xc:aa.funcs[(35:Nat)]? =some Tryz.f35:=Tryz.func35
theorem xm:bg aa 35=true:=by kernel_rfl
abbrev AD:FuncId:=36
theorem y7:aa.funcs[(36:Nat)]? =some Tryz.f36:=Tryz.func36
theorem zf:bg aa 36=true:=by kernel_rfl
abbrev u6:FuncId:=37
theorem t9:aa.funcs[(37:Nat)]? =some Tryz.f37:=Tryz.func37
theorem um:bg aa 37=true:=by kernel_rfl
abbrev jo:FuncId:=38
theorem nE:aa.funcs[(38:Nat)]? =some Tryz.f38:=Tryz.func38
theorem nO:bg aa 38=true:=by kernel_rfl
abbrev Hg:FuncId:=39
theorem FM:aa.funcs[(39:Nat)]? =some Tryz.f39:=Tryz.func39
theorem yP:bg aa 39=true:=by kernel_rfl
abbrev Fx:FuncId:=40
theorem DX:aa.funcs[(40:Nat)]? =some Tryz.f40:=Tryz.func40
theorem Ef:bg aa 40=true:=by kernel_rfl
abbrev qz:FuncId:=41
theorem qd:aa.funcs[(41:Nat)]? =some Tryz.f41:=Tryz.func41
theorem qn:bg aa 41=true:=by kernel_rfl
abbrev DT:FuncId:=42
theorem B3:aa.funcs[(42:Nat)]? =some Tryz.f42:=Tryz.func42
theorem rK:bg aa 42=true:=by kernel_rfl
abbrev pJ:FuncId:=43
theorem pd:aa.funcs[(43:Nat)]? =some Tryz.f43:=Tryz.func43
theorem dH:bg aa 43=true:=by kernel_rfl
abbrev mG:FuncId:=44
theorem mi:aa.funcs[(44:Nat)]? =some Tryz.f44:=Tryz.func44
theorem iy:bg aa 44=true:=by kernel_rfl
abbrev tc:FuncId:=45
theorem xW:aa.funcs[(45:Nat)]? =some Tryz.f45:=Tryz.func45
theorem yi:bg aa 45=true:=by kernel_rfl
abbrev mg:FuncId:=46
theorem lN:aa.funcs[(46:Nat)]? =some Tryz.f46:=Tryz.func46
theorem dr:bg aa 46=true:=by kernel_rfl
abbrev Hi:FuncId:=47
theorem FP:aa.funcs[(47:Nat)]? =some Tryz.f47:=Tryz.func47
theorem Gc:bg aa 47=true:=by kernel_rfl
abbrev FG:FuncId:=48
theorem D8:aa.funcs[(48:Nat)]? =some Tryz.f48:=Tryz.func48
theorem Eo:bg aa 48=true:=by kernel_rfl
abbrev FE:FuncId:=49
theorem D6:aa.funcs[(49:Nat)]? =some Tryz.f49:=Tryz.func49
theorem Em:bg aa 49=true:=by kernel_rfl
abbrev yL:FuncId:=50
theorem D5:aa.funcs[(50:Nat)]? =some Tryz.f50:=Tryz.func50
theorem mS:bg aa 50=true:=by kernel_rfl
abbrev kf:FuncId:=51
theorem nc:aa.funcs[(51:Nat)]? =some Tryz.f51:=Tryz.func51
theorem tB:bg aa 51=true:=by kernel_rfl
abbrev jU:FuncId:=52
theorem mK:aa.funcs[(52:Nat)]? =some Tryz.f52:=Tryz.func52
theorem s0:bg aa 52=true:=by kernel_rfl
abbrev iR:FuncId:=53
theorem jV:aa.funcs[(53:Nat)]? =some Tryz.f53:=Tryz.func53
theorem ng:bg aa 53=true:=by kernel_rfl
abbrev jA:FuncId:=54
theorem l5:aa.funcs[(54:Nat)]? =some Tryz.f54:=Tryz.func54
theorem l8:bg aa 54=true:=by kernel_rfl
abbrev ke:FuncId:=55
theorem nb:aa.funcs[(55:Nat)]? =some Tryz.f55:=Tryz.func55
theorem nh:bg aa 55=true:=by kernel_rfl
abbrev ox:FuncId:=56
theorem tz:aa.funcs[(56:Nat)]? =some Tryz.f56:=Tryz.func56
theorem nf:bg aa 56=true:=by kernel_rfl
abbrev ln:FuncId:=57
theorem qE:aa.funcs[(57:Nat)]? =some Tryz.f57:=Tryz.func57
theorem fZ:bg aa 57=true:=by kernel_rfl
abbrev lY:FuncId:=58
theorem rF:aa.funcs[(58:Nat)]? =some Tryz.f58:=Tryz.func58
theorem dQ:bg aa 58=true:=by kernel_rfl
abbrev gB:FuncId:=59
theorem ir:aa.funcs[(59:Nat)]? =some Tryz.f59:=Tryz.func59
theorem ei:bg aa 59=true:=by kernel_rfl
abbrev xV:FuncId:=60
theorem xe:aa.funcs[(60:Nat)]? =some Tryz.f60:=Tryz.func60
theorem bP:bg aa 60=true:=by kernel_rfl
abbrev tX:FuncId:=61
theorem tv:aa.funcs[(61:Nat)]? =some Tryz.f61:=Tryz.func61
theorem iu:bg aa 61=true:=by kernel_rfl
abbrev DJ:FuncId:=62
theorem BS:aa.funcs[(62:Nat)]? =some Tryz.f62:=Tryz.func62
theorem rH:bg aa 62=true:=by kernel_rfl
abbrev td:FuncId:=63
theorem ya:aa.funcs[(63:Nat)]? =some Tryz.f63:=Tryz.func63
theorem yk:bg aa 63=true:=by kernel_rfl
abbrev ot:FuncId:=64
theorem nD:aa.funcs[(64:Nat)]? =some Tryz.f64:=Tryz.func64
theorem nN:bg aa 64=true:=by kernel_rfl
abbrev qA:FuncId:=65
theorem qf:aa.funcs[(65:Nat)]? =some Tryz.f65:=Tryz.func65
theorem qo:bg aa 65=true:=by kernel_rfl
abbrev lW:FuncId:=66
theorem rx:aa.funcs[(66:Nat)]? =some Tryz.f66:=Tryz.func66
theorem gm:bg aa 66=true:=by kernel_rfl
abbrev m3:FuncId:=67
theorem mJ:aa.funcs[(67:Nat)]? =some Tryz.f67:=Tryz.func67
theorem mQ:bg aa 67=true:=by kernel_rfl
abbrev kS:FuncId:=68
theorem qe:aa.funcs[(68:Nat)]? =some Tryz.f68:=Tryz.func68
theorem fc:bg aa 68=true:=by kernel_rfl
abbrev mH:FuncId:=69
theorem nZ:aa.funcs[(69:Nat)]? =some Tryz.f69:=Tryz.func69
theorem n8:bg aa 69=true:=by kernel_rfl
abbrev jz:FuncId:=70
theorem lZ:aa.funcs[(70:Nat)]? =some Tryz.f70:=Tryz.func70
theorem dE:bg aa 70=true:=by kernel_rfl
abbrev tu:FuncId:=71
theorem sS:aa.funcs[(71:Nat)]? =some Tryz.f71:=Tryz.func71
theorem dY:bg aa 71=true:=by kernel_rfl
abbrev vu:FuncId:=72
theorem AO:aa.funcs[(72:Nat)]? =some Tryz.f72:=Tryz.func72
theorem kF:bg aa 72=true:=by kernel_rfl
abbrev r6:FuncId:=73
theorem rG:aa.funcs[(73:Nat)]? =some Tryz.f73:=Tryz.func73
theorem lz:bg aa 73=true:=by kernel_rfl
abbrev lX:FuncId:=74
theorem pQ:aa.funcs[(74:Nat)]? =some Tryz.f74:=Tryz.func74
theorem xn:bg aa 74=true:=by kernel_rfl
abbrev wV:FuncId:=75
theorem B4:aa.funcs[(75:Nat)]? =some Tryz.f75:=Tryz.func75
theorem vF:bg aa 75=true:=by kernel_rfl
abbrev Hh:FuncId:=76
theorem FO:aa.funcs[(76:Nat)]? =some Tryz.f76:=Tryz.func76
theorem qU:bg aa 76=true:=by kernel_rfl
abbrev wW:FuncId:=77
theorem B5:aa.funcs[(77:Nat)]? =some Tryz.f77:=Tryz.func77
theorem Ch:bg aa 77=true:=by kernel_rfl
abbrev sL:FuncId:=78
theorem vx:aa.funcs[(78:Nat)]? =some Tryz.f78:=Tryz.func78
theorem vE:bg aa 78=true:=by kernel_rfl
abbrev DR:FuncId:=79
theorem B1:aa.funcs[(79:Nat)]? =some Tryz.f79:=Tryz.func79
theorem vD:bg aa 79=true:=by kernel_rfl
abbrev DL:FuncId:=80
theorem BV:aa.funcs[(80:Nat)]? =some Tryz.f80:=Tryz.func80
theorem Cc:bg aa 80=true:=by kernel_rfl
abbrev FC:FuncId:=81
theorem D3:aa.funcs[(81:Nat)]? =some Tryz.f81:=Tryz.func81
theorem Ej:bg aa 81=true:=by kernel_rfl
abbrev DN:FuncId:=82
theorem BX:aa.funcs[(82:Nat)]? =some Tryz.f82:=Tryz.func82
theorem Ce:bg aa 82=true:=by kernel_rfl
abbrev FD:FuncId:=83
theorem D4:aa.funcs[(83:Nat)]? =some Tryz.f83:=Tryz.func83
theorem Ek:bg aa 83=true:=by kernel_rfl
abbrev FB:FuncId:=84
theorem D2:aa.funcs[(84:Nat)]? =some Tryz.f84:=Tryz.func84
theorem Ei:bg aa 84=true:=by kernel_rfl
abbrev DM:FuncId:=85
theorem BW:aa.funcs[(85:Nat)]? =some Tryz.f85:=Tryz.func85
theorem Cd:bg aa 85=true:=by kernel_rfl
abbrev rp:FuncId:=86
theorem t7:aa.funcs[(86:Nat)]? =some Tryz.f86:=Tryz.func86
theorem Be:bg aa 86=true:=by kernel_rfl
abbrev rq:FuncId:=87
theorem t8:aa.funcs[(87:Nat)]? =some Tryz.f87:=Tryz.func87
theorem Bf:bg aa 87=true:=by kernel_rfl
abbrev pL:FuncId:=88
theorem rD:aa.funcs[(88:Nat)]? =some Tryz.f88:=Tryz.func88
theorem Cf:bg aa 88=true:=by kernel_rfl
abbrev pM:FuncId:=90
theorem rE:aa.funcs[(90:Nat)]? =some Tryz.f90:=Tryz.func90
theorem Cg:bg aa 90=true:=by kernel_rfl
abbrev jP:FuncId:=91
theorem ki:aa.funcs[(91:Nat)]? =some Tryz.f91:=Tryz.func91
theorem Bg:bg aa 91=true:=by kernel_rfl
abbrev nY:FuncId:=92
theorem qg:aa.funcs[(92:Nat)]? =some Tryz.f92:=Tryz.func92
theorem mT:bg aa 92=true:=by kernel_rfl
abbrev tY:FuncId:=93
theorem sR:aa.funcs[(93:Nat)]? =some Tryz.f93:=Tryz.func93
theorem sZ:bg aa 93=true:=by kernel_rfl
abbrev wU:FuncId:=94
theorem vw:aa.funcs[(94:Nat)]? =some Tryz.f94:=Tryz.func94
theorem ic:bg aa 94=true:=by kernel_rfl
abbrev ow:FuncId:=95
theorem pR:aa.funcs[(95:Nat)]? =some Tryz.f95:=Tryz.func95
theorem xp:bg aa 95=true:=by kernel_rfl
abbrev rt:FuncId:=96
theorem qh:aa.funcs[(96:Nat)]? =some Tryz.f96:=Tryz.func96
theorem gH:bg aa 96=true:=by kernel_rfl
abbrev DK:FuncId:=97
theorem BT:aa.funcs[(97:Nat)]? =some Tryz.f97:=Tryz.func97
theorem Cb:bg aa 97=true:=by kernel_rfl
abbrev wS:FuncId:=98
theorem BU:aa.funcs[(98:Nat)]? =some Tryz.f98:=Tryz.func98
theorem vB:bg aa 98=true:=by kernel_rfl
abbrev nC:FuncId:=99
theorem m6:aa.funcs[(99:Nat)]? =some Tryz.f99:=Tryz.func99
theorem ec:bg aa 99=true:=by kernel_rfl
abbrev ro:FuncId:=100
theorem qD:aa.funcs[(100:Nat)]? =some Tryz.f100:=Tryz.func100
theorem kT:bg aa 100=true:=by kernel_rfl
abbrev wX:FuncId:=101
theorem vy:aa.funcs[(101:Nat)]? =some Tryz.f101:=Tryz.func101
theorem i5:bg aa 101=true:=by kernel_rfl
abbrev y0:FuncId:=102
theorem xY:aa.funcs[(102:Nat)]? =some Tryz.f102:=Tryz.func102
theorem kQ:bg aa 102=true:=by kernel_rfl
abbrev DS:FuncId:=103
theorem B2:aa.funcs[(103:Nat)]? =some Tryz.f103:=Tryz.func103
theorem n7:bg aa 103=true:=by kernel_rfl
abbrev fv:FuncId:=104
theorem hZ:aa.funcs[(104:Nat)]? =some Tryz.f104:=Tryz.func104
theorem lw:bg aa 104=true:=by kernel_rfl
abbrev y1:FuncId:=105
theorem xZ:aa.funcs[(105:Nat)]? =some Tryz.f105:=Tryz.func105
theorem yj:bg aa 105=true:=by kernel_rfl
abbrev xU:FuncId:=106
theorem xb:aa.funcs[(106:Nat)]? =some Tryz.f106:=Tryz.func106
theorem qV:bg aa 106=true:=by kernel_rfl
abbrev Jr:FuncId:=107
theorem Hm:aa.funcs[(107:Nat)]? =some Tryz.f107:=Tryz.func107
theorem kD:bg aa 107=true:=by kernel_rfl
abbrev CR:FuncId:=108
theorem Hl:aa.funcs[(108:Nat)]? =some Tryz.f108:=Tryz.func108
theorem Hy:bg aa 108=true:=by kernel_rfl
abbrev Az:FuncId:=109
theorem y3:aa.funcs[(109:Nat)]? =some Tryz.f109:=Tryz.func109
theorem lH:bg aa 109=true:=by kernel_rfl
abbrev Ax:FuncId:=110
theorem FN:aa.funcs[(110:Nat)]? =some Tryz.f110:=Tryz.func110
theorem Gb:bg aa 110=true:=by kernel_rfl
abbrev Fz:FuncId:=111
theorem DZ:aa.funcs[(111:Nat)]? =some Tryz.f111:=Tryz.func111
theorem Eh:bg aa 111=true:=by kernel_rfl
abbrev Ay:FuncId:=112
theorem yM:aa.funcs[(112:Nat)]? =some Tryz.f112:=Tryz.func112
theorem qT:bg aa 112=true:=by kernel_rfl
abbrev DQ:FuncId:=113
theorem B0:aa.funcs[(113:Nat)]? =some Tryz.f113:=Tryz.func113
theorem gp:bg aa 113=true:=by kernel_rfl
abbrev sK:FuncId:=115
theorem rB:aa.funcs[(115:Nat)]? =some Tryz.f115:=Tryz.func115
theorem ib:bg aa 115=true:=by kernel_rfl
abbrev qa:FuncId:=116
theorem pO:aa.funcs[(116:Nat)]? =some Tryz.f116:=Tryz.func116
theorem fB:bg aa 116=true:=by kernel_rfl
abbrev nA:FuncId:=117
theorem m4:aa.funcs[(117:Nat)]? =some Tryz.f117:=Tryz.func117
theorem eW:bg aa 117=true:=by kernel_rfl
abbrev yJ:FuncId:=118
theorem xa:aa.funcs[(118:Nat)]? =some Tryz.f118:=Tryz.func118
theorem xl:bg aa 118=true:=by kernel_rfl
abbrev gU:FuncId:=119
theorem yb:aa.funcs[(119:Nat)]? =some Tryz.f119:=Tryz.func119
theorem ig:bg aa 119=true:=by kernel_rfl
abbrev rj:FuncId:=120
theorem qB:aa.funcs[(120:Nat)]? =some Tryz.f120:=Tryz.func120
theorem iD:bg aa 120=true:=by kernel_rfl
abbrev BN:FuncId:=121
theorem AJ:aa.funcs[(121:Nat)]? =some Tryz.f121:=Tryz.func121
theorem ug:bg aa 121=true:=by kernel_rfl
abbrev BL:FuncId:=122
theorem AH:aa.funcs[(122:Nat)]? =some Tryz.f122:=Tryz.func122
theorem uf:bg aa 122=true:=by kernel_rfl
abbrev qb:FuncId:=123
theorem pP:aa.funcs[(123:Nat)]? =some Tryz.f123:=Tryz.func123
theorem fC:bg aa 123=true:=by kernel_rfl
abbrev AC:FuncId:=124
theorem y6:aa.funcs[(124:Nat)]? =some Tryz.f124:=Tryz.func124
theorem ze:bg aa 124=true:=by kernel_rfl
abbrev v5:FuncId:=125
theorem va:aa.funcs[(125:Nat)]? =some Tryz.f125:=Tryz.func125
theorem vd:bg aa 125=true:=by kernel_rfl
abbrev rY:FuncId:=126
theorem ry:aa.funcs[(126:Nat)]? =some Tryz.f126:=Tryz.func126
theorem lx:bg aa 126=true:=by kernel_rfl
abbrev ov:FuncId:=127
theorem nG:aa.funcs[(127:Nat)]? =some Tryz.f127:=Tryz.func127
theorem nQ:bg aa 127=true:=by kernel_rfl
abbrev ou:FuncId:=128
theorem nF:aa.funcs[(128:Nat)]? =some Tryz.f128:=Tryz.func128
theorem nP:bg aa 128=true:=by kernel_rfl
abbrev AA:FuncId:=129
theorem y4:aa.funcs[(129:Nat)]? =some Tryz.f129:=Tryz.func129
theorem zd:bg aa 129=true:=by kernel_rfl
abbrev lF:FuncId:=130
theorem xX:aa.funcs[(130:Nat)]? =some Tryz.f130:=Tryz.func130
theorem nR:bg aa 130=true:=by kernel_rfl
abbrev rX:FuncId:=131
theorem rv:aa.funcs[(131:Nat)]? =some Tryz.f131:=Tryz.func131
theorem rI:bg aa 131=true:=by kernel_rfl
abbrev oZ:FuncId:=132
abbrev BO:FuncId:=134
theorem AK:aa.funcs[(134:Nat)]? =some Tryz.f134:=Tryz.func134
theorem uh:bg aa 134=true:=by kernel_rfl
abbrev Fy:FuncId:=135
theorem DY:aa.funcs[(135:Nat)]? =some Tryz.f135:=Tryz.func135
theorem Eg:bg aa 135=true:=by kernel_rfl
abbrev tr:FuncId:=136
abbrev BK:FuncId:=138
theorem AG:aa.funcs[(138:Nat)]? =some Tryz.f138:=Tryz.func138
theorem Bd:bg aa 138=true:=by kernel_rfl
abbrev rm:FuncId:=139
theorem qC:aa.funcs[(139:Nat)]? =some Tryz.f139:=Tryz.func139
theorem qF:bg aa 139=true:=by kernel_rfl
abbrev y2:FuncId:=140
theorem yc:aa.funcs[(140:Nat)]? =some Tryz.f140:=Tryz.func140
theorem yl:bg aa 140=true:=by kernel_rfl
abbrev mF:FuncId:=141
theorem mh:aa.funcs[(141:Nat)]? =some Tryz.f141:=Tryz.func141
theorem ml:bg aa 141=true:=by kernel_rfl
abbrev wT:FuncId:=142
theorem v7:aa.funcs[(142:Nat)]? =some Tryz.f142:=Tryz.func142
theorem wh:bg aa 142=true:=by kernel_rfl
abbrev p9:FuncId:=145
theorem pN:aa.funcs[(145:Nat)]? =some Tryz.f145:=Tryz.func145
theorem pT:bg aa 145=true:=by kernel_rfl
abbrev mf:FuncId:=148
theorem lM:aa.funcs[(148:Nat)]? =some Tryz.f148:=Tryz.func148
theorem lQ:bg aa 148=true:=by kernel_rfl
end
structure cN where
 epoch:Int
 pid:Int
 ver:Int
 seq:Int
 kind:Int
 txn:Bool
 text:ByteArray
 deriving DecidableEq
def cN.c (e:cN):List Value:=[.int .i64 e.epoch,.int .i64 e.pid,.int .i64 e.ver,.int .i64 e.seq,.int .i64 e.kind,.bool e.txn,.string e.text]
abbrev cN.v (e:cN):Value:=.agg e.c.toArray
def gk:fi cN:=⟨cN.c,7,fun _=>rfl,by decide,fun a u hu=>by
 simp only[cN.c,av,bo,or_false]at hu
 rcases hu with h|h|h|h|h|h|h<;>subst h<;>rfl⟩
def bS:fi Int:=⟨fun n=>[.int .i64 n],1,fun _=>rfl,by decide,fun a u hu=>by
 simp only[av,bo,or_false]at hu
 subst hu;rfl⟩
def dF:fi UInt8:=⟨fun n=>[.int .u8 n.toNat],1,fun _=>rfl,by decide,fun a u hu=>by
 simp only[av,bo,or_false]at hu
 subst hu;rfl⟩
def nk:fi ByteArray:=⟨fun s=>[.string s],1,fun _=>rfl,by decide,fun a u hu=>by
 simp only[av,bo,or_false]at hu
 subst hu;rfl⟩
def Cx:Nat->Nat->List UInt8->Nat
 |_,n,[]=>n
 |i,n,c::l=>Cx (i+1) ((n+(i+1)*c.toNat)%65521) l
def mu (l:List UInt8):Nat:=Cx 0 0 l
theorem EM: ∀ (l:List UInt8) (i n:Nat),n<65521->Cx i n l<65521
 |[],_,_,h=>h
 |_::l,i,_,_=>EM l (i+1) _ (jF _ (by decide))
theorem Dn (l:List UInt8):mu l<65521:=EM l 0 0 (by decide)
theorem Km (l:List UInt8) (A:Option Addr) (c:Nat) (w:World) (hr:Rd dF 0 w.heap.size A l w) (hb:l.length<=1000000000000000):
  dd aa Hg [.slice A l.length c] w fun v w2=>v=J (mu l:Nat)/\Below w.heap.size w w2:=by
 refine aF FM Z Z ?_
 have H:=Hp.start w
 refine W ?_
 refine Zr ?_
 refine oR Z Z ?_
 refine U<|W ?_
 refine Zr ?_
 refine oR Z Z ?_
 refine U<|W<|W ?_
 refine Zr ?_
 refine lK Z Z ?_
 refine sI eL Z Z ?_
 refine ij Z Z ?_
 refine U<|Zb ?_
 refine ce (τ:=Nat×Nat) [3,4,5,8,9,10,11,12,13,14,15,16,17,18,19,20,21] (fun x=>[(3,J x.1),(8,J x.2)]) (fun x w'=>x.1<65521/\x.2<=l.length/\Hp w w' [] []/\Cx x.2 x.1 (l.drop x.2)=mu l) (fun x=>l.length-x.2) (0,0) ⟨by decide,by simp,H,rfl⟩ (lh Z Z) ?_
 rintro⟨m,k⟩ ρ1 w1 ⟨hm,hk,H,hs⟩
 show CW _ _ _ _ (dB (gJ _ _ ρ1) [(3,J (m:Nat)),(8,J (k:Nat))]) w1
 refine W ?_
 refine Zr ?_
 refine Fr Z Z Z (fun h9=> ?_) (fun h9=> ?_)
 all_goals refine mD ?_
 all_goals refine ye ?_
 ·refine n6 Z ?_
  refine Zk ?_
  have hkl:k<l.length:=by omega
  obtain⟨b,o,rfl,-,hbl,hcl⟩:=hr.at_ hkl
  have hd:l.drop k=l[k]::l.drop (k+1):=mY hkl
  have h256:l[k].toNat<256:=UInt8.toNat_lt _
  generalize hc:l[k]=x at*
  have hmul:(k+1)*x.toNat<=(k+1)*256:=Nat.mul_le_mul_left _ I
  have hmul2:((k:Int)+1)*(x.toNat:Int)=(((k+1)*x.toNat:Nat):Int):=by simp
  refine W<|Zb<|W ?_
  refine Zr ?_
  refine ij Z Z ?_
  refine OV d8 Z Z I I Z ?_
  refine ld mz Z ((H.below.cell (p:=⟨b,_,none⟩) hbl).trans (hcl 0 _ Z)) Z ?_
  refine oR Z Z ?_
  refine oR Z Z ?_
  refine U ?_
  refine Zr ?_
  refine ij Z Z ?_
  refine ij Z Z ?_
  refine add Z Z I I Z ?_
  refine ij Z Z ?_
  refine NB im iq Z (vh I) Z ?_
  refine mul Z Z I I Z ?_
  refine add Z Z I I Z ?_
  refine rem Z Z I I Z ?_
  refine oR Z Z ?_
  refine U ?_
  refine Zr ?_
  refine add Z Z I I Z ?_
  refine ij Z Z ?_
  refine U ?_
  refine⟨((m+(k+1)*x.toNat)%65521,k+1),⟨jF _ (by decide),by omega,H,?_⟩,?_,by repeat (first|exact lI|refine kR Z ?_|refine jl _ Z ?_),by show l.length- (k+1)<l.length-k;omega⟩
  ·rw[<-hs,hd,Cx]
  ·intro p hp
   simp only[av,bo,or_false]at hp
   rcases hp with rfl|rfl
   ·show Value.int .i64 _=Value.int .i64 _
    congr 1
   ·rfl
 ·refine mP Z ?_
  refine Zx ?_
  have hkl:k=l.length:=by omega
  subst hkl
  simp only[fq,Cx]at hs
  subst hs
  refine W ?_
  refine Zr ?_
  refine ij Z Z ?_
  refine oR Z Z ?_
  refine U<|Zt ?_
  exact cy Z Z ⟨rfl,H.below⟩
/-- a number in as few bytes as may be -/
def yZ (n:Nat):List UInt8:=if h:n<=127 then [UInt8.ofNat n]else UInt8.ofNat (n%128+128)::yZ (n/128)
termination_by n
decreasing_by omega
theorem uF {n:Nat} (h:n<=127):yZ n=[UInt8.ofNat n]:=by rw[yZ,dif_pos h]
theorem DA {n:Nat} (h:127<n):yZ n=UInt8.ofNat (n%128+128)::yZ (n/128):=by rw[yZ,dif_neg I]
theorem Mj (n:Nat):n&&&127=n%128:=Nat.and_two_pow_sub_one_eq_mod n 7
theorem O3 (n:Nat) (h:n<128):n|||128=n+128:=by
 have:=sj (i:=7) (b:=n) (by simpa using h) 1
 rw[Nat.or_comm];simp at this;omega
theorem OT (n:Nat) (h:n<256):((UInt8.ofNat n).toNat:Int)=n:=by
 simp[gX h]
theorem Ib: ∀ (k n:Nat),n<128 ^ k->(yZ n).length<=max k 1
 |0,n,h=>by
  have:n=0:=by simpa using h
  subst this;rw[uF I];simp
 |k+1,n,h=>by
  by_cases hn:n<=127
  rw[uF hn];simp
  have:=Ib k (n/128) (by rw[Nat.pow_succ]at h;exact yU I)
  rw[DA I]
  simp only[cE]
  have hk:k≠0:=by
   rintro rfl
   simp at h;omega
  omega
theorem Jc {w0 w:World} {F:List cr} {K M L:List (Nat×Obj)} {es:List UInt8} {A:Option Addr} {c:Nat} (n:Nat) (H:Hp w0 w (K++L++M) F) (ho:f4 dF (.slice A es.length c) mU es L) (hn:n<4611686018427387904) (hb:es.length+n<140737488355328):
  dd aa BK [.slice A es.length c,J n] w fun v w2=> ∃ A' c' L',v=.slice A' (es++yZ n).length c'/\f4 dF (.slice A' (es++yZ n).length c') mU (es++yZ n) L'/\Hp w0 w2 (K++L'++M) F:=by
 refine aF AG Z Z ?_
 refine W ?_
 refine Zr ?_
 refine ve Z Z ?_
 refine U<|W<|Zb ?_
 refine ce (τ:=Option Addr×Nat×List UInt8×Nat) [0,1,5,6,7,8,9,10,11,12,13,15,14] (fun(A,c,l,m)=>[(0,.slice A l.length c),(1,J m)])
  (fun(A,c,l,m) w'=>m<4611686018427387904/\l.length+m<140737488355328/\l++yZ m=es++yZ n/\ ∃ L',f4 dF (.slice A l.length c) mU l L'/\Hp w0 w' (K++L'++M) F) (fun(_,_,_,m)=>m) (A,c,es,n) ⟨hn,hb,rfl,L,ho,H⟩ (lh Z Z) ?_
 rintro⟨A1,c1,l,m⟩ ρ1 w1 ⟨hm,hb1,hl,L1,ho1,H1⟩
 show CW _ _ _ _ (dB (gJ _ _ ρ1) [(0,.slice A1 l.length c1),(1,J (m:Nat))]) w1
 refine W<|W ?_
 refine Zr ?_
 refine ij Z Z ?_
 refine Js Z Z Z (fun h6=> ?_) (fun h6=> ?_)
 all_goals refine mD ?_
 ·refine n6 Z ?_
  refine Zk ?_
  have hmod:m%128<128:=jF _ (by decide)
  refine Zb<|W ?_
  refine Zr ?_
  refine lK Z Z ?_
  refine ij Z Z ?_
  refine G (N2 (b:=127) Z Z I I) ?_
  rw[Mj]
  refine G (MW (b:=128) Z Z I I) ?_
  rw[O3 _ hmod]
  refine NB iq im Z (Cm I) Z ?_
  refine tf (vs:=[.int .u8 _]) H1 d8 zA Z Z Z Z Z Z ?_;intro w2 b12 H2
  refine vf (Y:=dF) oK (K:=(b12,_)::K) (L:=L1) (M:=M) H2 ho1 (news:=[UInt8.ofNat (m%128+128)]) Z Z Z ?_ ?_ Z ?_
  ·have:=wr.row (m:=1) (sz:=1) (H2.ent (i:=0) Z) Z
   have e:dF.all [UInt8.ofNat (m%128+128)]=[.int .u8 ((m%128+128:Nat):Int)]:=by
    show [Value.int .u8 _]=_
    rw[OT _ I]
   rw[e]
   exact this
  ·simp only[bQ];omega
  intro A3 c3 w3 L3 _ _ ho3 H3
  refine ve Z Z ?_
  refine U ?_
  refine Zr ?_
  refine ij Z Z ?_
  refine G (NQ (b:=7) Z Z I) ?_
  refine oR Z Z ?_
  refine U ?_
  refine⟨(A3,c3,l++[UInt8.ofNat (m%128+128)],m/2 ^ 7),⟨by omega,by simp;omega,?_,L3,ho3,H3.forget (by simp) (fun _ h=>h)⟩,lh Z Z,by repeat (first|exact lI|refine kR Z ?_|refine jl _ Z ?_),by show m/2 ^ 7<m;omega⟩
  rw[<-hl,DA (n:=m) I];simp
 ·refine mP Z ?_
  refine Zx<|W ?_
  refine Zr ?_
  refine lK Z Z ?_
  refine ij Z Z ?_
  refine NB iq im Z (Cm I) Z ?_
  refine tf (vs:=[.int .u8 _]) H1 d8 zA Z Z Z Z Z Z ?_;intro w2 b19 H2
  refine vf (Y:=dF) oK (K:=(b19,_)::K) (L:=L1) (M:=M) H2 ho1 (news:=[UInt8.ofNat m]) Z Z Z ?_ ?_ Z ?_
  ·have:=wr.row (m:=1) (sz:=1) (H2.ent (i:=0) Z) Z
   have e:dF.all [UInt8.ofNat m]=[.int .u8 (m:Int)]:=by
    show [Value.int .u8 _]=_
    rw[OT _ I]
   rw[e]
   exact this
  ·simp only[bQ];omega
  intro A3 c3 w3 L3 _ _ ho3 H3
  refine ve Z Z ?_
  refine U<|Zt ?_
  rw[uF I]at hl
  rw[hl]at ho3
  refine cy Z (v:=.slice A3 (es++yZ n).length c3) (by rw[<-hl];rfl) ⟨A3,c3,L3,rfl,ho3,H3.forget (by simp) (fun _ h=>h)⟩
def iQ (n:Int):Bool:=decide (0<=n)&&decide (n<=1073741824)
theorem uL {n:Int} (h:iQ n=true):0<=n/\n<=1073741824:=by simpa [iQ]using h
theorem Nm {n:Int} (h: ¬ iQ n=true):n<0∨1073741824<n:=by
 simp[iQ]at h;omega
def cN.nums (e:cN):List Int:=[e.epoch,e.pid,e.ver,e.seq]
def cN.noForm (e:cN):Prop:=(e.kind≠1/\(e.pid=0∨e.txn=false∨e.seq≠0∨e.text≠⟨#[]⟩))∨(e.pid=0/\(e.txn=true∨0<e.ver+e.seq))
instance (e:cN):Decidable e.noForm:=by unfold cN.noForm;infer_instance
def eH (e:cN):Int:=
 if e.kind<1∨3<e.kind then 3
 else if¬ e.nums.all iQ=true then 2
 else if 40<e.text.size then 1
 else if e.noForm then 4 else 0
theorem xG (e:cN) (w:World):dd aa DJ [e.v] w fun v w2=>v=J (eH e)/\Below w.heap.size w w2:=by
 refine aF BS Z Z ?_
 have H:=Hp.start w
 refine W ?_
 refine Zr ?_
 refine fX H Z Z ?_;intro w1 b1 H
 refine oR Z Z ?_
 refine U<|W<|W ?_
 refine Zr ?_
 refine si eZ Z Z ?_
 refine vY H 0 aj Z Z Z Z ?_
 refine Fr Z Z Z (fun h7=> ?_) (fun h7=> ?_)
 ·have hE:eH e=3:=by unfold eH;rw[if_pos (.inl h7)]
  refine z6 Z Z ?_
  iterate 3 refine rW Z Z Z ?_
  refine wI Z Z Z ?_
  refine U<|ZT Z<|W ?_
  refine Zr ?_
  refine oR Z Z ?_
  refine U<|Zt ?_
  exact cy (v:=J 3) Z Z ⟨by rw[hE],H.below⟩
 refine z6 Z Z ?_
 refine ZG ?_
 refine si eZ Z Z ?_
 refine ZG ?_
 refine vY H 0 aj Z Z Z Z ?_
 refine ZG ?_
 refine Js Z Z Z (fun h11=> ?_) (fun h11=> ?_)
 ·have hE:eH e=3:=by unfold eH;rw[if_pos (.inr h11)]
  refine sF Z Z Z ?_
  refine U<|ZT Z<|W ?_
  refine Zr ?_
  refine oR Z Z ?_
  refine U<|Zt ?_
  exact cy (v:=J 3) Z Z ⟨by rw[hE],H.below⟩
 refine sF Z Z Z ?_
 refine U<|ZF Z<|Zk ?_
 have hk0: ¬ (e.kind<1∨3<e.kind):=by omega
 refine W<|W ?_
 refine Zr ?_
 refine si nL Z Z ?_
 refine vY H 0 aj Z Z Z Z ?_
 refine si fg Z Z ?_
 refine vY H 0 aj Z Z Z Z ?_
 refine si eC Z Z ?_
 refine vY H 0 aj Z Z Z Z ?_
 refine si fa Z Z ?_
 refine vY H 0 aj Z Z Z Z ?_
 refine tf (vs:=[J _,J _,J _,J _]) H ba wx Z Z Z Z Z Z ?_;intro w2 b21 H
 refine sI eG Z Z ?_
 refine ij Z Z ?_
 refine U<|Zb ?_
 have hns: ∀ k,k<4->(qi [J e.epoch,J e.pid,J e.ver,J e.seq]).toArray[0+k*1]? =some (J (e.nums.getD k 0)):=by
  intro k hk
  have:k=0∨k=1∨k=2∨k=3:=by omega
  rcases this with rfl|rfl|rfl|rfl<;>rfl
 have hmem: ∀ k,k<4->e.nums.getD k 0∈e.nums:=by
  intro k hk
  have:k=0∨k=1∨k=2∨k=3:=by omega
  rcases this with rfl|rfl|rfl|rfl<;>simp[cN.nums]
 refine ce (τ:=Nat) [4,23,24,25,26,27,28,29,30,31,32,33,2] (fun k=>[(23,J k)]) (fun k w'=>k<=4/\(∀ j,j<k->(e.nums.getD j 0|>iQ)=true)/\Hp w w' [(b21,_),(b1,_)] []) (fun k=>4-k) 0 ⟨by omega,by simp,H⟩ (dK Z) ?_
 rintro k ρ1 w1 ⟨hk4,hgood,H⟩
 refine W ?_
 refine Zr ?_
 refine Fr Z Z Z (fun h24=> ?_) (fun h24=> ?_)
 all_goals refine mD ?_
 all_goals refine ye ?_
 ·refine n6 Z ?_
  refine Zk ?_
  have hk:k<4:=by omega
  have hns:=hns k hk
  have hm:=hmem k hk
  generalize hx:e.nums.getD k 0=x at hns hm
  refine W<|Zb<|W ?_
  refine Zr ?_
  refine OV ba Z Z I I Z ?_
  refine vY H 0 aj Z Z hns Z ?_
  refine oR Z Z ?_
  refine U<|W ?_
  refine Zr ?_
  refine ij Z Z ?_
  by_cases hin:iQ x=true
  ·obtain⟨h0,h1⟩:=uL hin
   refine Ot Z Z I Z ?_
   refine z6 Z Z ?_
   refine ZG ?_
   refine ij Z Z ?_
   refine ZG ?_
   refine Oz Z Z I Z ?_
   refine sF Z Z Z ?_
   refine U<|ZF Z<|Zk ?_
   refine Zr ?_
   refine add Z Z I I Z ?_
   refine ij Z Z ?_
   refine U ?_
   refine⟨k+1,⟨by omega,fun j hj=> ?_,H⟩,dK Z,by repeat (first|exact lI|refine kR Z ?_|refine jl _ Z ?_),by show 4- (k+1)<4-k;omega⟩
   by_cases hjk:j=k
   ·subst hjk;rw[hx];exact hin
   ·exact hgood j I
  ·have hE:eH e=2:=by
    unfold eH
    rw[if_neg hk0,if_pos]
    intro ha
    exact hin (ef.1 ha x hm)
   have hbad:=Nm hin
   by_cases h0:x<0
   ·refine O5 Z Z h0 Z ?_
    refine z6 Z Z ?_
    iterate 2 refine rW Z Z Z ?_
    refine wI Z Z Z ?_
    refine U<|ZT Z<|W ?_
    refine Zr ?_
    refine oR Z Z ?_
    refine U<|Zt ?_
    exact cy (v:=J 2) Z Z ⟨by rw[hE],H.below⟩
   ·refine Ot Z Z h0 Z ?_
    refine z6 Z Z ?_
    refine ZG ?_
    refine ij Z Z ?_
    refine ZG ?_
    refine Oy Z Z I Z ?_
    refine sF Z Z Z ?_
    refine U<|ZT Z<|W ?_
    refine Zr ?_
    refine oR Z Z ?_
    refine U<|Zt ?_
    exact cy (v:=J 2) Z Z ⟨by rw[hE],H.below⟩
 ·refine mP Z ?_
  refine Zx ?_
  have hk:k=4:=by omega
  subst hk
  have hall:e.nums.all iQ=true:=by
   have g0:=hgood 0 I
   have g1:=hgood 1 I
   have g2:=hgood 2 I
   have g3:=hgood 3 I
   simp only[cN.nums,List.getD_cons_zero,List.getD_cons_succ]at g0 g1 g2 g3
   simp[cN.nums,g0,g1,g2,g3]
  have hv:=uL (ef.1 hall e.ver (by simp[cN.nums]))
  have hs:=uL (ef.1 hall e.seq (by simp[cN.nums]))
  refine W<|W ?_
  refine Zr ?_
  refine si qj Z Z ?_
  refine vY H 1 bc Z Z Z Z ?_
  refine PJ ju Z Z ?_
  refine Js Z Z Z (fun h37=> ?_) (fun h37=> ?_)
  all_goals refine mD ?_
  ·refine n6 Z ?_
   refine W ?_
   refine Zr ?_
   refine oR Z Z ?_
   refine U<|Zt ?_
   have hE:eH e=1:=by
    unfold eH
    rw[if_neg hk0,if_neg (by simpa using hall),if_pos I]
   exact cy (v:=J 1) Z Z ⟨by rw[hE],H.below⟩
  refine ZF Z<|Zk ?_
  have hE:eH e=if e.noForm then 4 else 0:=by
   unfold eH
   rw[if_neg hk0,if_neg (by simpa using hall),if_neg I]
  refine W<|W ?_
  refine Zr ?_
  by_cases hx:e.text=⟨#[]⟩
  all_goals cases ht:e.txn
  all_goals (have h5:e.c.toArray[0+5]? =some (.bool e.txn):=rfl;rw[ht]at h5)
  all_goals (refine si eZ Z Z ?_)
  all_goals (refine vY H 1 aj Z Z Z Z ?_)
  all_goals (refine O4 Z Z Z (fun _=> ?_) (fun _=> ?_))
  all_goals (refine z6 Z Z ?_)
  all_goals first|refine rW Z Z Z ?_|(refine tQ Z ?_;(refine si fg Z Z ?_))
  all_goals first|refine rW Z Z Z ?_|(refine tQ Z ?_;(refine vY H 1 aj Z Z Z Z ?_))
  all_goals first|refine rW Z Z Z ?_|(refine tQ Z ?_;(refine LN Z Z Z (fun _=> ?_) (fun _=> ?_)))
  all_goals first|refine rW Z Z Z ?_|(refine tQ Z ?_;(refine z6 Z Z ?_))
  all_goals first|refine rW Z Z Z ?_|(refine tQ Z ?_;(refine si iZ Z Z ?_))
  all_goals first|refine rW Z Z Z ?_|(refine tQ Z ?_;(refine vY H 1 dT Z Z h5 Z ?_))
  all_goals first|refine rW Z Z Z ?_|(refine tQ Z ?_;(refine not Z Z ?_))
  all_goals first|refine rW Z Z Z ?_|(refine tQ Z ?_;(first|refine wI Z Z Z ?_|refine sF Z Z Z ?_))
  all_goals first|refine rW Z Z Z ?_|(refine tQ Z ?_;(refine z6 Z Z ?_))
  all_goals first|refine rW Z Z Z ?_|(refine tQ Z ?_;(refine si fa Z Z ?_))
  all_goals first|refine rW Z Z Z ?_|(refine tQ Z ?_;(refine vY H 1 aj Z Z Z Z ?_))
  all_goals first|refine rW Z Z Z ?_|(refine tQ Z ?_;(refine O4 Z Z Z (fun _=> ?_) (fun _=> ?_)))
  all_goals first|refine rW Z Z Z ?_|(refine tQ Z ?_;(first|refine wI Z Z Z ?_|refine sF Z Z Z ?_))
  all_goals first|refine rW Z Z Z ?_|(refine tQ Z ?_;(refine z6 Z Z ?_))
  all_goals first|refine rW Z Z Z ?_|(refine tQ Z ?_;(refine si qj Z Z ?_))
  all_goals first|refine rW Z Z Z ?_|(refine tQ Z ?_;(refine vY H 1 bc Z Z Z Z ?_))
  all_goals first|refine rW Z Z Z ?_|(refine tQ Z ?_;(first|refine l1 (MF Z Z hx) Z Z Z ?_|refine l1 (MG Z Z hx) Z Z Z ?_))
  all_goals first|refine rW Z Z Z ?_|(refine tQ Z ?_;(first|refine wI Z Z Z ?_|refine sF Z Z Z ?_))
  all_goals (first|refine wI Z Z Z ?_|refine sF Z Z Z ?_)
  all_goals (refine z6 Z Z ?_)
  all_goals first|refine rW Z Z Z ?_|(refine tQ Z ?_;(refine si fg Z Z ?_))
  all_goals first|refine rW Z Z Z ?_|(refine tQ Z ?_;(refine vY H 1 aj Z Z Z Z ?_))
  all_goals first|refine rW Z Z Z ?_|(refine tQ Z ?_;(refine LN Z Z Z (fun _=> ?_) (fun _=> ?_)))
  all_goals first|refine rW Z Z Z ?_|(refine tQ Z ?_;(refine z6 Z Z ?_))
  all_goals first|refine rW Z Z Z ?_|(refine tQ Z ?_;(refine si iZ Z Z ?_))
  all_goals first|refine rW Z Z Z ?_|(refine tQ Z ?_;(refine vY H 1 dT Z Z h5 Z ?_))
  all_goals first|refine rW Z Z Z ?_|(refine tQ Z ?_;(refine z6 Z Z ?_))
  all_goals first|refine rW Z Z Z ?_|(refine tQ Z ?_;(refine si eC Z Z ?_))
  all_goals first|refine rW Z Z Z ?_|(refine tQ Z ?_;(refine vY H 1 aj Z Z Z Z ?_))
  all_goals first|refine rW Z Z Z ?_|(refine tQ Z ?_;(refine si fa Z Z ?_))
  all_goals first|refine rW Z Z Z ?_|(refine tQ Z ?_;(refine vY H 1 aj Z Z Z Z ?_))
  all_goals first|refine rW Z Z Z ?_|(refine tQ Z ?_;(refine add Z Z I I Z ?_))
  all_goals first|refine rW Z Z Z ?_|(refine tQ Z ?_;(refine Js Z Z Z (fun _=> ?_) (fun _=> ?_)))
  all_goals first|refine rW Z Z Z ?_|(refine tQ Z ?_;(first|refine wI Z Z Z ?_|refine sF Z Z Z ?_))
  all_goals first|refine rW Z Z Z ?_|(refine tQ Z ?_;(first|refine wI Z Z Z ?_|refine sF Z Z Z ?_))
  all_goals (first|refine wI Z Z Z ?_|refine sF Z Z Z ?_)
  all_goals refine mD ?_
  all_goals first
   |(
     refine n6 Z ?_
     refine W ?_
     refine Zr ?_
     refine oR Z Z<|U<|Zt ?_
     exact cy (v:=J 4) Z Z ⟨by rw[hE,if_pos (by simp[cN.noForm, *])],H.below⟩)
   |(
     refine mP Z ?_
     refine Zk<|W ?_
     refine Zr ?_
     refine oR Z Z<|U<|Zt ?_
     exact cy (v:=J 0) Z Z ⟨by rw[hE,if_neg (by simp[cN.noForm, *]<;>omega)],H.below⟩)
def oo (e:cN):UInt8:=UInt8.ofNat (e.kind.toNat+if e.txn then 16 else 0)
def ol (l:List Int):List UInt8:=l.flatMap fun n=>yZ n.toNat
def eM (e:cN):List UInt8:=oo e::ol e.nums++e.text.data.toList
def iB (e:cN):List UInt8:=UInt8.ofNat (eM e).length::eM e++[UInt8.ofNat (mu (eM e)/256),UInt8.ofNat (mu (eM e)%256)]
theorem N4 (n:Nat):IntKind.u8.wrap (n:Int)=(n%256:Nat):=by
 simp[IntKind.wrap,IntKind.signed,IntKind.bits]
theorem Pi (s:ByteArray):dF.all s.data.toList=Lib.strCells s:=by
 unfold fi.all Lib.strCells
 show List.flatMap (fun n:UInt8=>[Value.int .u8 n.toNat]) _=_
 induction s.data.toList with
 |nil=>rfl
 |cons a l ih=>simp only[gh,eJ,ih];rfl
theorem qQ {e:cN} (h:eH e=0):1<=e.kind/\e.kind<=3/\(∀ n∈e.nums,0<=n/\n<=1073741824)/\e.text.size<=40/\ ¬ e.noForm:=by
 unfold eH at h
 split at h;· omega
 split at h;· omega
 split at h;· omega
 split at h;· omega
 rename_i h1 h2 h3 h4
 refine⟨by omega,by omega,fun n hn=> ?_,by omega,h4⟩
 have:=ef.1 (Classical.not_not.1 h2) n hn
 exact uL this
theorem xP: ∀ (l:List Int),(∀ n∈l,0<=n/\n<=1073741824)->(ol l).length<=5*l.length
 |[],_=>by simp[ol]
 |n::l,h=>by
  have h1:=xP l fun m hm=>h m (ak _ hm)
  have h2:=h n (aB ..)
  have h3:=Ib 5 n.toNat I
  simp only[ol,gh,ay,cE]at*
  omega
theorem uU {e:cN} (h:eH e=0):(eM e).length<=61/\0<(eM e).length:=by
 obtain⟨_,_,h3,h4,_⟩:=qQ h
 have:=xP _ h3
 have hs:e.text.data.toList.length=e.text.size:=by rw[ch];rfl
 simp only[eM,ay,cE,hs]
 have h4':e.nums.length=4:=rfl
 omega
theorem C0 (e:cN) (w:World) (h:eH e=0):dd aa BL [e.v] w fun v w2=> ∃ A c,v=.tuple #[.slice A (iB e).length c,J 0]/\Rd dF w.heap.size w2.heap.size A (iB e) w2/\(iB e).length<=c/\Below w.heap.size w w2:=by
 obtain⟨hk1,hk3,hnn,htx,-⟩:=qQ h
 obtain⟨hl61,hl0⟩:=uU h
 refine aF AH Z Z ?_
 have H:=Hp.start w
 refine W ?_
 refine Zr ?_
 refine fX H Z Z ?_;intro w1 b1 H
 refine ve Z Z ?_
 refine oR Z Z ?_
 refine U<|W<|W ?_
 refine Zr ?_
 refine P0 H 0 dw Z Z Z Z ?_
 refine bW rH (xG e _) Z Z ?_;rintro _ w2 ⟨rfl,hb2⟩;replace H:=H.later hb2
 refine oR Z Z ?_
 refine U<|W ?_
 refine Zr ?_
 refine ij Z Z ?_
 refine G (bV Z Z h)<|U<|ZF Z<|Zk<|W ?_
 refine Zr ?_
 refine si eZ Z Z ?_
 refine vY H 0 aj Z Z Z Z ?_
 refine oR Z Z ?_
 refine U<|W ?_
 obtain⟨k,hk⟩: ∃ k:Nat,e.kind=k:=⟨e.kind.toNat,by omega⟩
 have hkB:oo e=UInt8.ofNat (k+if e.txn then 16 else 0):=by unfold oo;rw[hk];rfl
 refine eD (τ:=Unit) [17,18,19,20,5] (fun _=>[(5,J (k+if e.txn then 16 else 0:Nat))]) (fun _ w'=>Hp w w' [(b1,.cells e.c.toArray cZ)] []) ?_ ?_
 ·refine ye ?_
  refine Zr ?_
  refine si iZ Z Z ?_
  refine vY H 0 dT Z Z Z Z ?_
  refine U ?_
  refine jq (b:=e.txn) Z (fun ht=> ?_) (fun ht=> ?_)
  ·refine JK ?_
   refine ij Z Z ?_
   have h16:k|||16=k+16:=by
    have:k=1∨k=2∨k=3:=by omega
    rcases this with rfl|rfl|rfl<;>rfl
   rw[hk]
   refine G (MW (a:=k) (b:=16) Z Z I I) ?_
   rw[h16]
   refine oR Z Z ?_
   refine U ?_
   refine⟨(),H,dK (by rw[ht];rfl),by repeat (first|exact Ez.refl _ _|exact lI|refine kR Z ?_|refine jl _ Z ?_)⟩
  ·refine Nz ?_
   rw[hk]
   refine⟨(),H,dK (by rw[ht];rfl),by repeat (first|exact Ez.refl _ _|exact lI|refine kR Z ?_|refine jl _ Z ?_)⟩
 rintro _ ρ1 w3 H
 show CW _ _ _ _ (dB (gJ _ _ ρ1) [(5,J (k+if e.txn then 16 else 0:Nat))]) w3
 have hk19:(k+if e.txn then 16 else 0)<256:=by split<;>omega
 refine W ?_
 refine Zr ?_
 refine ij Z Z ?_
 refine NB iq im Z (Cm hk19) Z ?_
 refine tf (vs:=[.int .u8 _]) H d8 zA Z Z Z Z Z Z ?_;intro w4 b23 H
 refine ve Z Z ?_
 refine U ?_
 replace H:=H.swap
 have ho:f4 dF (.slice (Qd b23) 1 1) mU [oo e] [(b23,.cells (qi [.int .u8 (k+if e.txn then 16 else 0:Nat)]).toArray mU)]:=by
  have e1:dF.all [oo e]=(qi [.int .u8 (k+if e.txn then 16 else 0:Nat)]).toArray.toList:=by
   show [Value.int .u8 _]=_
   rw[hkB,OT _ hk19]
   rfl
  unfold f4
  rw[e1]
  exact rL.lit (n:=1) (by decide) Z
 refine W<|W ?_
 refine Zr ?_
 refine si nL Z Z ?_
 refine vY H 0 aj Z Z Z Z ?_
 refine si fg Z Z ?_
 refine vY H 0 aj Z Z Z Z ?_
 refine si eC Z Z ?_
 refine vY H 0 aj Z Z Z Z ?_
 refine si fa Z Z ?_
 refine vY H 0 aj Z Z Z Z ?_
 refine tf (vs:=[J _,J _,J _,J _]) H ba wx Z Z Z Z Z Z ?_;intro w5 b32 H
 refine sI eG Z Z ?_
 refine ij Z Z ?_
 refine U<|Zb ?_
 have hns: ∀ k,k<4->(qi [J e.epoch,J e.pid,J e.ver,J e.seq]).toArray[0+k*1]? =some (J (e.nums.getD k 0)):=by
  intro k hk
  have:k=0∨k=1∨k=2∨k=3:=by omega
  rcases this with rfl|rfl|rfl|rfl<;>rfl
 have hmem: ∀ k,k<4->e.nums.getD k 0∈e.nums:=by
  intro k hk
  have:k=0∨k=1∨k=2∨k=3:=by omega
  rcases this with rfl|rfl|rfl|rfl<;>simp[cN.nums]
 have hstep: ∀ k,k<4->e.nums.take (k+1)=e.nums.take k++[e.nums.getD k 0]:=by
  intro k hk
  have:k=0∨k=1∨k=2∨k=3:=by omega
  rcases this with rfl|rfl|rfl|rfl<;>rfl
 have hnlen: ∀ k,k<=4->(ol (e.nums.take k)).length<=20:=by
  intro k hk
  have:=xP (e.nums.take k) fun n hn=>hnn n (yW hn)
  have h2:(e.nums.take k).length<=4:=by simp[cN.nums];omega
  omega
 refine ce (τ:=Nat×Option Addr×Nat) [6,8,34,35,36,37,38,39,40,41] (fun(k,A,c)=>[(6,.slice A (oo e::ol (e.nums.take k)).length c),(34,J k)])
  (fun(k,A,c) w'=>k<=4/\ ∃ L',f4 dF (.slice A (oo e::ol (e.nums.take k)).length c) mU (oo e::ol (e.nums.take k)) L'/\Hp w w' ([(b32,.cells (qi [J e.epoch,J e.pid,J e.ver,J e.seq]).toArray cY),(b1,.cells e.c.toArray cZ)]++L'++[]) []) (fun(k,_,_)=>4-k) (0,_,1) ⟨by omega,_,ho,H⟩ (lh Z Z) ?_
 rintro⟨j,A1,c1⟩ ρ1 w1 ⟨hj4,L1,ho,H⟩
 show CW _ _ _ _ (dB (gJ _ _ ρ1) [(6,.slice A1 (oo e::ol (e.nums.take j)).length c1),(34,J j)]) w1
 refine W ?_
 refine Zr ?_
 refine Fr Z Z Z (fun h35=> ?_) (fun h35=> ?_)
 all_goals refine mD ?_
 all_goals refine ye ?_
 ·refine n6 Z ?_
  refine Zk ?_
  have hj:j<4:=by omega
  have hns:=hns j hj
  obtain⟨hm0,hm1⟩:=hnn _ (hmem j hj)
  have hstep:=hstep j hj
  have hnl:=hnlen j hj4
  generalize e.nums.getD j 0=x at*
  obtain⟨m,rfl⟩: ∃ m:Nat,x=m:=⟨x.toNat,by omega⟩
  refine W<|Zb<|W ?_
  refine Zr ?_
  refine OV ba Z Z I I Z ?_
  refine vY H 0 aj Z Z hns Z ?_
  refine oR Z Z ?_
  refine U ?_
  refine Zr ?_
  refine lK Z Z ?_
  refine ij Z Z ?_
  refine bW Bd (Jc m H ho I (by simp only[cE];omega)) Z Z ?_;rintro _ w5 ⟨A2,c2,L2,rfl,ho2,H2⟩
  refine ve Z Z ?_
  refine U ?_
  refine Zr ?_
  refine add Z Z I I Z ?_
  refine ij Z Z ?_
  refine U ?_
  have hnx:oo e::ol (e.nums.take (j+1))=oo e::ol (e.nums.take j)++yZ m:=by
   rw[hstep];simp[ol]
  rw[<-hnx]at ho2
  refine⟨(j+1,A2,c2),⟨by omega,L2,ho2,H2⟩,lh (by rw[hnx];rfl) Z,by repeat (first|exact lI|refine kR Z ?_|refine jl _ Z ?_),by show 4- (j+1)<4-j;omega⟩
 ·refine mP Z ?_
  refine Zx ?_
  have hj:j=4:=by omega
  subst hj
  have h20:=hnlen 4 I
  have e4:e.nums.take 4=e.nums:=rfl
  rw[e4]at*
  have hne:oo e::ol e.nums≠[]:=by simp
  refine W ?_
  refine Zr ?_
  refine lK Z Z ?_
  refine si qj Z Z ?_
  refine vY H 1 bc Z Z Z Z ?_
  refine QC (Y:=dF) oK ju Z Pi H ho hne Z Z (by simp only[cE];omega) Z ?_
  intro A2 c2 w2 L2 hc1 hc2 ho H
  refine ve Z Z ?_
  refine U ?_
  have eb:oo e::ol e.nums++e.text.data.toList=eM e:=rfl
  rw[eb]at*
  refine W ?_
  refine Zr ?_
  refine lK Z Z ?_
  refine bW yP (Km (eM e) A2 c2 w2 ((ho.rd H).mono (bD _) (ao _)) I) Z Z ?_;rintro _ w6 ⟨rfl,hb6⟩;replace H:=H.later hb6
  refine oR Z Z ?_
  refine U ?_
  have hs:=Dn (eM e)
  refine W ?_
  refine Zr ?_
  refine lK Z Z ?_
  refine sI eL Z Z ?_
  refine NB iq im Z (Cm (n:=(eM e).length) I) Z ?_
  refine tf (vs:=[.int .u8 _]) H d8 zA Z Z Z Z Z Z ?_;intro w7 b51 H7
  refine lK Z Z ?_
  have ho5:f4 dF (.slice (Qd b51) 1 1) mU [UInt8.ofNat (eM e).length] [(b51,.cells (qi [.int .u8 ((eM e).length:Nat)]).toArray mU)]:=by
   have e1:dF.all [UInt8.ofNat (eM e).length]=(qi [.int .u8 ((eM e).length:Nat)]).toArray.toList:=by
    show [Value.int .u8 _]=_
    rw[OT _ I]
    rfl
   unfold f4
   rw[e1]
   exact rL.lit (n:=1) (by decide) Z
  refine vf (Y:=dF) oK (K:=[]) (M:=_) H7 ho5 (news:=eM e) Z Z Z (ho.rd (K:=(b51,_)::[_,_]) (M:=[]) H7).src (by simp only[cE,xy];omega) Z ?_
  intro A8 c8 w8 L8 _ _ ho8 H8
  refine ij Z Z ?_
  refine G (NQ (b:=8) Z Z I) ?_
  refine NB iq im Z (Cm (n:=mu (eM e)/2 ^ 8) I) Z ?_
  refine ij Z Z ?_
  refine NB iq im Z (N4 (mu (eM e))) Z ?_
  refine tf (vs:=[.int .u8 _,.int .u8 _]) H8 d8 zA Z Z Z Z Z Z ?_;intro w9 b59 H9
  refine vf (Y:=dF) oK (K:=[_]) (M:=_) H9 ho8 (news:=[UInt8.ofNat (mu (eM e)/256),UInt8.ofNat (mu (eM e)%256)]) Z Z Z ?_ (by simp only[ay,cE,xy];omega) Z ?_
  ·have:=wr.row (m:=2) (sz:=1) (H9.ent (i:=0) Z) Z
   have e1:dF.all [UInt8.ofNat (mu (eM e)/256),UInt8.ofNat (mu (eM e)%256)]=[.int .u8 (mu (eM e)/256:Nat),.int .u8 (mu (eM e)%256:Nat)]:=by
    show [Value.int .u8 _,Value.int .u8 _]=_
    rw[OT _ I,OT _ I]
   rw[e1]
   exact this
  intro A9 c9 w10 L9 hc9 _ ho9 H10
  refine ve Z Z ?_
  refine oR Z Z ?_
  refine U<|Zt ?_
  refine mj Z Z Z ⟨A9,c9,rfl,?_,hc9,H10.below⟩
  exact ho9.rd H10
/-- the number that is next, from its i-th byte on -/
def rn:Nat->Nat->List UInt8->Nat×List UInt8×Bool
 |_,_,[]=>(0,[],true)
 |i,n,c::l=>if i=5 then(0,c::l,true)else if c.toNat<128 then(n+c.toNat%128*2 ^ (7*i),l,decide (c.toNat=0)&&decide (0<i))else rn (i+1) (n+c.toNat%128*2 ^ (7*i)) l
def E0 (l:List UInt8) (bad:Bool):Nat×List UInt8×Bool:=if bad then(0,l,true)else rn 0 0 l
theorem Ok {n x i:Nat} (hn:n<2 ^ (7*i)):n|||x*2 ^ (7*i)=n+x*2 ^ (7*i):=by
 have:=sj hn x
 rw[Nat.or_comm,Db,<-this,sm]
theorem sE {w0 w:World} {F:List cr} {M:List (Nat×Obj)} {b:Nat} {l:List UInt8} {A:Option Addr} {c:Nat} {bad:Bool} (H:Hp w0 w ((b,.cells #[.slice A l.length c,.bool bad] ut)::M) F) (hr:Rd dF 0 w0.heap.size A l w0) (hc:l.length<=c):
  dd aa tX [.pointer (Qd b)] w fun v w2=>v=J ((E0 l bad).1:Nat)/\ ∃ A' c',Hp w0 w2 ((b,.cells #[.slice A' (E0 l bad).2.1.length c',.bool (E0 l bad).2.2] ut)::M) F/\Rd dF 0 w0.heap.size A' (E0 l bad).2.1 w0/\(E0 l bad).2.1.length<=c':=by
 refine aF tv Z Z ?_
 refine W ?_
 refine Zr ?_
 refine oR Z Z ?_
 refine U<|W ?_
 refine Zr ?_
 refine oR Z Z ?_
 refine U<|W ?_
 refine Zr ?_
 refine oR Z Z ?_
 refine U<|Zb ?_
 refine ce (τ:=Nat×Nat×List UInt8×Bool) [2,3,4,5,6,7,8,9,10,11,12,13,14,15,16,17,18,19,20,21,22,23,24,25,26,27,28,29,30,31,32,33,34,35,36,37,38,39,40,41,42,43,44,45,46,47,48,49,50,51,52,53,54,55,56,57,58,59,60]
  (fun(i,n,_,_)=>[(3,J (n:Nat)),(4,J (i:Nat))])
  (fun(i,n,l1,bad1) w'=>i<=5/\n<2 ^ (7*i)/\(if bad1 then(0,l1,true)else rn i n l1)=E0 l bad/\ ∃ A c,Hp w0 w' ((b,.cells #[.slice A l1.length c,.bool bad1] ut)::M) F/\Rd dF 0 w0.heap.size A l1 w0/\l1.length<=c) (fun(_,_,l1,_)=>l1.length) (0,0,l,bad) ⟨by omega,by decide,rfl,A,c,H,hr,hc⟩ (lh Z Z) ?_
 rintro⟨i,n,l1,bad1⟩ ρ1 w1 ⟨hi5,hn,hrn,A1,c1,H,hr,hc⟩
 show CW _ _ _ _ (dB (gJ _ _ ρ1) [(3,J (n:Nat)),(4,J (i:Nat))]) w1
 refine W<|Zb<|W<|W ?_
 refine Zr ?_
 refine G0 Z Z ?_
 refine J3 Z Z ?_
 refine si kk Z Z ?_
 refine vY H 0 dT Z Z Z Z ?_
 refine z6 Z Z ?_
 by_cases hstop:bad1=true∨l1=[]∨i=5
 ·have hres:E0 l bad=(0,l1,true):=by
   rw[<-hrn]
   rcases hstop with h|h|h
   ·rw[if_pos h]
   ·subst h;split<;>rfl
   ·subst h;split
    ·rfl
    ·cases l1<;>simp[rn]
  cases bad1
  ·refine tQ Z ?_
   refine G0 Z Z ?_
   refine ZG ?_
   refine J3 Z Z ?_
   refine ZG ?_
   refine si l6 Z Z ?_
   refine ZG ?_
   refine vY H 0 d7 Z Z Z Z ?_
   refine ZG ?_
   refine sI eL Z Z ?_
   refine ZG ?_
   by_cases hl:l1=[]
   ·refine LM Z Z (by rw[hl];rfl) Z ?_
    refine sF Z Z Z ?_
    refine z6 Z Z ?_
    iterate 2 refine rW Z Z Z ?_
    refine wI Z Z Z ?_
    refine U<|ZT Z<|W ?_
    refine Zr ?_
    refine G0 Z Z ?_
    refine J3 Z Z ?_
    refine si kk Z Z ?_
    refine OZ H 0 iK Z Z Z (by simp) fun w2 H2=>U<|W ?_
    refine Zr ?_
    refine oR Z Z ?_
    refine U<|Zt ?_
    rw[hres]
    exact cy (v:=J 0) Z Z ⟨rfl,A1,c1,H2,hr,hc⟩
   ·have hi:i=5:=by
     rcases hstop with h|h|h
     ·cases h
     ·exact absurd h hl
     ·exact h
    have hl0:l1.length≠0:=fun h=>hl (bU h)
    refine Hs Z Z I Z ?_
    refine sF Z Z Z ?_
    refine z6 Z Z ?_
    refine ZG ?_
    refine ij Z Z ?_
    refine ZG<|LM Z Z I Z ?_
    refine sF Z Z Z ?_
    refine U<|ZT Z<|W ?_
    refine Zr ?_
    refine G0 Z Z ?_
    refine J3 Z Z ?_
    refine si kk Z Z ?_
    refine OZ H 0 iK Z Z Z (by simp) fun w2 H2=>U<|W ?_
    refine Zr ?_
    refine oR Z Z ?_
    refine U<|Zt ?_
    rw[hres]
    exact cy (v:=J 0) Z Z ⟨rfl,A1,c1,H2,hr,hc⟩
  ·iterate 6 refine rW Z Z Z ?_
   refine wI Z Z Z ?_
   refine z6 Z Z ?_
   iterate 2 refine rW Z Z Z ?_
   refine wI Z Z Z ?_
   refine U<|ZT Z<|W ?_
   refine Zr ?_
   refine G0 Z Z ?_
   refine J3 Z Z ?_
   refine si kk Z Z ?_
   refine OZ H 0 iK Z Z Z (by simp) fun w2 H2=>U<|W ?_
   refine Zr ?_
   refine oR Z Z ?_
   refine U<|Zt ?_
   rw[hres]
   exact cy (v:=J 0) Z Z ⟨rfl,A1,c1,H2,hr,hc⟩
 ·have hb1:bad1=false:=by
   cases bad1
   ·rfl
   ·exact absurd (.inl Z) hstop
  subst hb1
  have hi:i<5:=by
   have:i≠5:=fun h=>hstop (.inr (.inr h))
   omega
  obtain⟨x,l2,rfl⟩: ∃ x l2,l1=x::l2:=by
   cases l1 with
   |nil=>exact absurd (.inr (.inl Z)) hstop
   |cons x l2=>exact⟨x,l2,rfl⟩
  have hx:x.toNat<256:=UInt8.toNat_lt _
  obtain⟨bb,o,rfl,-,hbl,hcl⟩:=hr.at_ (k:=0) (by simp)
  rw[if_neg (by decide),rn,if_neg I]at hrn
  have h7:2 ^ (7*i)<=2 ^ 28:=Nat.pow_le_pow_right (by decide) I
  have hmod:x.toNat%128<128:=jF _ (by decide)
  have hmul:x.toNat%128*2 ^ (7*i)<=128*2 ^ 28:=Nat.mul_le_mul I h7
  have h71:2 ^ (7*(i+1))=128*2 ^ (7*i):=by rw[Nat.mul_add,Nat.pow_add];omega
  have hmul2:x.toNat%128*2 ^ (7*i)<=127*2 ^ (7*i):=dp _ I
  refine ZG ?_
  refine G0 Z Z ?_
  refine ZG ?_
  refine J3 Z Z ?_
  refine ZG ?_
  refine si l6 Z Z ?_
  refine ZG ?_
  refine vY H 0 d7 Z Z Z Z ?_
  refine ZG ?_
  refine sI eL Z Z ?_
  refine ZG<|Hs Z Z (by simp;omega) Z ?_
  refine sF Z Z Z ?_
  refine z6 Z Z ?_
  refine ZG ?_
  refine ij Z Z ?_
  refine ZG<|Hs Z Z I Z ?_
  refine sF Z Z Z ?_
  refine U<|ZF Z<|Zk<|W ?_
  refine Zr ?_
  refine G0 Z Z ?_
  refine J3 Z Z ?_
  refine si l6 Z Z ?_
  refine vY H 0 d7 Z Z Z Z ?_
  refine OV d8 Z Z I (by simp) Z ?_
  refine ld mz Z ((H.below.cell (p:=⟨bb,_,none⟩) hbl).trans (hcl 0 _ Z)) Z ?_
  refine NB im iq Z (vh (n:=x.toNat) I) Z ?_
  refine oR Z Z ?_
  refine U<|W ?_
  refine Zr ?_
  refine G0 Z Z ?_
  refine G0 Z Z ?_
  refine J3 Z Z ?_
  refine si l6 Z Z ?_
  refine vY H 0 d7 Z Z Z Z ?_
  refine s8 d8 Z Z I (by simp;omega) hc Z ?_;intro A39 hA39
  refine J3 Z Z ?_
  refine si l6 Z Z ?_
  refine Ql H 0 CC Z Z Z (by simp) fun w2 H2=> ?_
  have hr2:Rd dF 0 w0.heap.size A39 l2 w0:=hr.from_ (k:=1) hA39 (fun h=>h)
  have H:Hp w0 w2 ((b,.cells #[.slice A39 l2.length (c1-1),.bool false] ut)::M) F:=H2
  have hc2:l2.length<=c1-1:=by simp only[cE]at hc;omega
  refine U<|W ?_
  refine Zr ?_
  refine ij Z Z ?_
  refine ij Z Z ?_
  refine G (N2 (a:=x.toNat) (b:=127) Z Z I I) ?_
  rw[Mj]
  refine ij Z Z ?_
  refine mul Z Z I I Z ?_
  refine G (NR (a:=x.toNat%128) (b:=7*i) (k:=.i64) Z (by simp;rfl) I I)<|G (MW (a:=n) (b:=x.toNat%128*2 ^ (7*i)) Z Z I I) ?_
  rw[Ok hn]
  refine oR Z Z ?_
  refine U<|W ?_
  refine Zr ?_
  refine ij Z Z ?_
  refine Fr Z Z Z (fun h50=> ?_) (fun h50=> ?_)
  all_goals refine mD ?_
  ·rw[if_pos I]at hrn
   refine ZT Z<|W ?_
   refine Zr ?_
   refine G0 Z Z ?_
   refine ij Z Z ?_
   by_cases hx0:x.toNat=0
   ·refine LM Z Z I Z ?_
    refine z6 Z Z ?_
    refine ZG ?_
    refine ij Z Z ?_
    refine ZG<|G (kg (a:=(i:Int)) (b:=0) Z Z) ?_
    refine wI Z Z Z ?_
    refine J3 Z Z ?_
    refine si kk Z Z ?_
    refine OZ H 0 iK Z Z Z (by simp) fun w3 H3=>U<|W ?_
    refine Zr ?_
    refine ij Z Z ?_
    refine oR Z Z ?_
    refine U<|Zt ?_
    rw[<-hrn]
    have e:(decide (x.toNat=0)&&decide (0<i))=decide ((0:Int)<i):=by
     rw[decide_eq_true hx0,gZ];exact decide_eq_decide.2 I
    rw[e]
    exact cy (v:=J (n+x.toNat%128*2 ^ (7*i):Nat)) Z Z ⟨rfl,A39,c1-1,H3,hr2,hc2⟩
   ·refine Hs Z Z I Z ?_
    refine z6 Z Z ?_
    iterate 2 refine rW Z Z Z ?_
    refine sF Z Z Z ?_
    refine J3 Z Z ?_
    refine si kk Z Z ?_
    refine OZ H 0 iK Z Z Z (by simp) fun w3 H3=>U<|W ?_
    refine Zr ?_
    refine ij Z Z ?_
    refine oR Z Z ?_
    refine U<|Zt ?_
    rw[<-hrn]
    have e:(decide (x.toNat=0)&&decide (0<i))=false:=by rw[decide_eq_false hx0];rfl
    rw[e]
    exact cy (v:=J (n+x.toNat%128*2 ^ (7*i):Nat)) Z Z ⟨rfl,A39,c1-1,H3,hr2,hc2⟩
  ·rw[if_neg I]at hrn
   refine ZF Z<|Zk ?_
   refine Zr ?_
   refine ij Z Z ?_
   refine add Z Z I I Z ?_
   refine oR Z Z ?_
   refine U ?_
   refine⟨(i+1,n+x.toNat%128*2 ^ (7*i),l2,false),⟨by omega,by rw[h71];omega,by rw[<-hrn];rfl,A39,c1-1,H,hr2,hc2⟩,lh Z Z,by repeat (first|exact lI|refine kR Z ?_|refine jl _ Z ?_),by show l2.length<l2.length+1;omega⟩
/-- an entry out of a body -/
def tg (c:UInt8) (l:List UInt8):cN×Bool:=
 let q1:=E0 l false
 let q2:=E0 q1.2.1 q1.2.2
 let q3:=E0 q2.2.1 q2.2.2
 let q4:=E0 q3.2.1 q3.2.2
 (⟨(q1.1:Nat),(q2.1:Nat),(q3.1:Nat),(q4.1:Nat),(c.toNat&&&15:Nat),!decide (((c.toNat&&&16:Nat):Int)=0),⟨q4.2.1.toArray⟩⟩,q4.2.2)
def uo (c:UInt8) (l:List UInt8):Bool:=!(tg c l).2&&decide (c.toNat<32)&&decide (eH (tg c l).1=0)
theorem NG (c0:UInt8) (l:List UInt8) (A:Option Addr) (c:Nat) (w:World) (hr:Rd dF 0 w.heap.size A (c0::l) w) (hc:(c0::l).length<=c):
  dd aa Fx [.slice A (c0::l).length c] w fun v w2=>v=.tuple #[(tg c0 l).1.v,.bool (uo c0 l)]/\Below w.heap.size w w2:=by
 obtain⟨bb,o,rfl,-,hbl,hcl⟩:=hr.at_ (k:=0) (by simp)
 have hc0:c0.toNat<256:=UInt8.toNat_lt _
 refine aF DX Z Z ?_
 have H:=Hp.start w
 refine W ?_
 refine Zr ?_
 refine ey H gi Z ?_;intro w1 b2 H
 refine NJ Z Z ?_
 refine U<|W ?_
 refine Zr ?_
 refine lK Z Z ?_
 refine s8 d8 Z Z I (by simp;omega) hc Z ?_;intro A7 hA7
 have hr7:Rd dF 0 w.heap.size A7 l w:=hr.from_ (k:=1) hA7 (fun h=>h)
 have hc7:l.length<=c-1:=by simp only[cE]at hc;omega
 refine G (v:=.agg #[.slice A7 l.length (c-1),.bool false]) (bi IM J7 Z) ?_
 refine fX H Z Z ?_;intro w2 b9 H
 refine QA Z Z ?_
 refine U<|W ?_
 have hcl2:=fun(w':World) (hw':oQ w2 w')=>((H.later hw').below.cell (p:=⟨bb,_,none⟩) hbl).trans (hcl 0 _ Z)
 refine bB bY [0,1,2,3,4,5,6,7,8,9,10,11] [12] [11] [0,1,3,4,5,6,8,9,10] (sp [(11,Sp.blk w2.heap.size (.agg #[J 0,J 0,J 0,J 0,J 0,.bool false,.string ⟨#[]⟩]) cZ)]) N N N N Nq (cH _) ?_
 refine aw Z Z Z Z Z (fun _ _=>gT Z) ?_
 refine aw Z Z Z Z Z (fun _ _=>qM d8 Z Z I (by simp)) ?_
 refine aw Z Z Z Z Z (fun w' hw'=>aV mz Z (hcl2 w' hw')) ?_
 refine aw Z Z Z Z Z (fun _ _=>Mi (a:=c0.toNat) (b:=15) Z Z I I) ?_
 refine aw Z Z Z Z Z (fun _ _=>C2 im iq Z (vh (n:=c0.toNat&&&15) (mq (HK I)))) ?_
 refine aw Z Z Z Z Z (fun _ _=>gT Z) ?_
 refine aw Z Z Z Z Z (fun _ _=>qM d8 Z Z I (by simp)) ?_
 refine aw Z Z Z Z Z (fun w' hw'=>aV mz Z (hcl2 w' hw')) ?_
 refine aw Z Z Z Z Z (fun _ _=>Mi (a:=c0.toNat) (b:=16) Z Z I I) ?_
 refine aw Z Z Z Z Z (fun _ _=>i7 (k:=.u8) (a:=((c0.toNat&&&16:Nat):Int)) (b:=0) Z Z) ?_
 refine aw (v:=.agg (cN.c ⟨0,0,0,0,(c0.toNat&&&15:Nat),!decide (((c0.toNat&&&16:Nat):Int)=0),⟨#[]⟩⟩).toArray) Z Z Z Z Z (fun _ _=>bi oc gi Z)<|N1 gi Z Z Z Z (fun w' w2 b hC hb hh=>⟨b,rfl,aS hC.size hb,hh⟩) ?_
 rintro _ ⟨_,_,b5,rfl,_,_⟩
 refine aT ?_
 rintro w3 hw3 ⟨-,b,he,hge,hb5⟩
 cases he
 replace H:=(H.adoptNew hw3 hb5 hge).swap
 refine Kr H 1 eS Z Z Z Z Z Z ?_;intro w4 H
 refine U<|W ?_
 refine Zr ?_
 refine G0 Z Z ?_
 refine bW iu (sE (l:=l) (bad:=false) H hr7 hc7) Z Z ?_;rintro _ w5 ⟨rfl,A1,c1,H1,hr1,hc1⟩
 refine G0 Z Z ?_
 refine bW iu (sE H1 hr1 hc1) Z Z ?_;rintro _ w6 ⟨rfl,A2,c2,H2,hr2,hc2⟩
 refine G0 Z Z ?_
 refine bW iu (sE H2 hr2 hc2) Z Z ?_;rintro _ w7 ⟨rfl,A3,c3,H3,hr3,hc3⟩
 refine G0 Z Z ?_
 refine bW iu (sE H3 hr3 hc3) Z Z ?_;rintro _ w8 ⟨rfl,A4,c4,H4,hr4,hc4⟩
 generalize hE:tg c0 l=E
 have hEE:E=_:=hE.symm
 unfold tg at hEE
 simp only at hEE
 generalize hq1:E0 l false=q1 at*
 generalize hq2:E0 q1.2.1 q1.2.2=q2 at*
 generalize hq3:E0 q2.2.1 q2.2.2=q3 at*
 generalize hq4:E0 q3.2.1 q3.2.2=q4 at*
 obtain⟨n1,l1,x1⟩:=q1
 obtain⟨n2,l2,x2⟩:=q2
 obtain⟨n3,l3,x3⟩:=q3
 obtain⟨n4,l4,x4⟩:=q4
 dsimp only at*
 clear H H1 H2 H3 hr1 hr2 hr3 hc1 hc2 hc3 hq1 hq2 hq3 hq4
 refine si nL Z Z ?_
 refine Pr H4 1 bK Z Z Z (fd Z) ?_;intro w9 H
 refine si fg Z Z ?_
 refine Pr H 1 bK Z Z Z (fd Z) ?_;intro w10 H
 refine si eC Z Z ?_
 refine Pr H 1 bK Z Z Z (fd Z) ?_;intro w11 H
 refine si fa Z Z ?_
 refine Pr H 1 bK Z Z Z (fd Z) ?_;intro w12 H
 refine U<|W ?_
 refine Zr ?_
 refine G0 Z Z ?_
 refine J3 Z Z ?_
 refine si l6 Z Z ?_
 refine vY H 0 d7 Z Z Z Z ?_
 refine Go.Eng.l1 (OF d8 im ju Z Z (fun _=>rfl) (hr4.below H.below)) Z Z Z ?_
 refine si qj Z Z ?_
 refine Qk H 1 zM Z Z Z (fd Z) ?_;intro w13 H
 refine U ?_
 have H:Hp w w13 [(b9,.cells #[.slice A4 l4.length c4,.bool x4] ut),(b5,.cells E.1.c.toArray cZ),(b2,.cells (cN.c ⟨0,0,0,0,0,false,⟨#[]⟩⟩).toArray cZ)] []:=by rw[hEE];exact H
 have hx4:E.2=x4:=by rw[hEE]
 have hcl3:=fun(w':World) (hw':oQ w13 w')=>((H.later hw').below.cell (p:=⟨bb,_,none⟩) hbl).trans (hcl 0 _ Z)
 obtain⟨E,x5⟩:=E
 dsimp only at*
 subst hx4
 clear hEE
 refine W ?_
 refine bB bY [0,1,2,3,4,5,6,7,8,9,10,11,12,13,14,15,16] [17,18] [14] [1,2,3,5,6,7,8,10,11,12,15,16] (sp [(14,Sp.one (J (eH E)))]) N N N N Nq (cH _) ?_
 refine aw Z Z Z Z Z (fun w' hw'=>jh dw Z ((H.later hw').ent (i:=1) Z) Z) ?_
 refine aw Z Z Z Z Z (fun _ _=>gT Z) ?_
 refine aw Z Z Z Z Z (fun _ _=>aK Z) ?_
 refine aw Z Z Z Z Z (fun _ _=>Zf kk Z) ?_
 refine aw Z Z Z Z Z (fun w' hw'=>aV dT Z (aC ((H.later hw').ent (i:=0) Z) Z)) ?_
 refine aw Z Z Z Z Z (fun _ _=>dI Z) ?_
 refine aw Z Z Z Z Z (fun _ _=>gT Z) ?_
 have hob:uo c0 l=(!x5&&decide (c0.toNat<32)&&decide (eH E=0)):=by unfold uo;rw[hE]
 rw[hob]
 cases x5
 ·refine aw Z Z Z Z Z (fun _ _=>gT Z) ?_
  refine aw Z Z Z Z Z (fun _ _=>qM d8 Z Z I (by simp)) ?_
  refine aw Z Z Z Z Z (fun w' hw'=>aV mz Z (hcl3 w' hw')) ?_
  refine aw Z Z Z Z Z (fun _ _=>cG (k:=.u8) (a:=(c0.toNat:Int)) (b:=32) Z Z) ?_
  refine aw Z Z Z Z Z (fun _ _=>KJ Z Z) ?_
  refine aw Z Z Z Z Z (fun _ _=>gT Z) ?_
  have h32:decide ((c0.toNat:Int)<32)=decide (c0.toNat<32):=decide_eq_decide.2 I
  rw[h32]
  cases h:decide (c0.toNat<32)
  ·iterate 3 refine eQ Z Z Z Z ?_
   refine aw Z Z Z Z Z (fun _ _=>HY Z Z) ?_
   refine aT ?_
   intro w' hw' hF;replace H:=H.later hw';clear hw'
   refine Kr H 2 eS Z Z Z Z Z Z ?_;intro w15 H
   refine NJ Z Z<|U<|Zt ?_
   exact LF Z dw Z (H.ent (i:=2) Z) Z Z ⟨rfl,H.below⟩
  ·refine aw Z Z Z Z Z (fun w' hw'=>jh dw Z ((H.later hw').ent (i:=1) Z) Z) ?_
   refine yR rH Z Z Z Z (fun w' _=>(xG E w').mono (fun v w2 ⟨h1,h2⟩=>⟨h2,h1⟩)) Z ?_
   rintro _ ⟨_,_,rfl⟩
   refine aw Z Z Z Z Z (fun _ _=>bl Z Z) ?_
   refine aw Z Z Z Z Z (fun _ _=>KJ Z Z) ?_
   refine aT ?_
   intro w' hw' hF;replace H:=H.later hw';clear hw'
   refine Kr H 2 eS Z Z Z Z Z Z ?_;intro w15 H
   refine NJ Z Z<|U<|Zt ?_
   exact LF Z dw Z (H.ent (i:=2) Z) Z Z ⟨rfl,H.below⟩
 ·iterate 4 refine eQ Z Z Z Z ?_
  refine aw Z Z Z Z Z (fun _ _=>HY Z Z) ?_
  refine aw Z Z Z Z Z (fun _ _=>gT Z) ?_
  iterate 3 refine eQ Z Z Z Z ?_
  refine aw Z Z Z Z Z (fun _ _=>HY Z Z) ?_
  refine aT ?_
  intro w' hw' hF;replace H:=H.later hw';clear hw'
  refine Kr H 2 eS Z Z Z Z Z Z ?_;intro w15 H
  refine NJ Z Z<|U<|Zt ?_
  exact LF Z dw Z (H.ent (i:=2) Z) Z Z ⟨rfl,H.below⟩
/-- the entry that is first, and how many bytes it takes -/
def tH:List UInt8->Option (cN×Nat)
 |[]=>none
 |n::r=>
  if n.toNat=0∨r.length<n.toNat+2 then none
  else if mu (r.take n.toNat)≠(r.getD n.toNat 0).toNat*256+(r.getD (n.toNat+1) 0).toNat then none
  else if uo (r.headD 0) (r.take n.toNat).tail=true then some ((tg (r.headD 0) (r.take n.toNat).tail).1,n.toNat+3)else none
inductive ID:List UInt8->List cN->Nat->Prop
 |stop {l:List UInt8} (h:tH l=none):ID l [] 0
 |go {l:List UInt8} {e:cN} {k n:Nat} {es:List cN} (h:tH l=some (e,k)) (hd:ID (l.drop k) es n):ID l (e::es) (k+n)
theorem O2 {a b:Nat} (hb:b<256):a*2 ^ 8|||b=a*256+b:=by
 have:=sj (i:=8) (b:=b) (by simpa using hb) a
 rw[Db,<-this]
theorem ME {l:List UInt8} {e:cN} {k:Nat} (h:tH l=some (e,k)):4<=k/\k<=l.length:=by
 cases l with
 |nil=>cases h
 |cons n r=>
  simp only[tH]at h
  split at h;· cases h
  split at h;· cases h
  split at h
  injection h with h;injection h with h1 h2
  rename_i h3 _ _
  simp only[cE]
  omega
  cases h
theorem r7 (l:List UInt8) (A:Option Addr) (c:Nat) (w:World) (hr:Rd dF 0 w.heap.size A l w) (hc:l.length<=c) (hbd:l.length<=1000000000000):
  dd aa BM [.slice A l.length c] w fun v w2=> ∃ es n A' c',v=.tuple #[.slice A' es.length c',J (n:Nat)]/\ID l es n/\Rd gk w.heap.size w2.heap.size A' es w2/\es.length<=c'/\Below w.heap.size w w2:=by
 refine aF AI Z Z ?_
 have H:=Hp.start w
 refine W ?_
 refine Zr ?_
 refine ve Z Z ?_
 refine oR Z Z ?_
 refine U<|W ?_
 refine Zr ?_
 refine ve Z Z ?_
 refine U<|W ?_
 refine Zr ?_
 refine oR Z Z ?_
 refine U<|W<|Zb ?_
 refine ce (τ:=Nat×List cN×Option Addr×Nat) [4,5,6,7,8,9,10,11,12,13,14,15,16,17,18,19,20,21,22,23,24,25,26,27,28,29,30,31,32,33,34,35,36,37,38,39,40,41,42,43,44,45,46,47,48,49,50,51,52,53,54,55,56,57,58,59,60,61,62,63,64,65,66,67,68,69,70,71,72,73]
  (fun(at_,out,A1,c1)=>[(4,.slice A1 out.length c1),(5,J (at_:Nat))])
  (fun(at_,out,A1,c1) w'=>at_<=l.length/\out.length<=at_/\(∀ es n,ID (l.drop at_) es n->ID l (out++es) (at_+n))/\ ∃ L',f4 gk (.slice A1 out.length c1) cZ out L'/\Hp w w' ([]++L'++[]) [])
  (fun(at_,_,_,_)=>l.length-at_) (0,[],none,0) ⟨by omega,by simp,fun es n h=>by simpa using h,[],f4.nil,H⟩ (lh Z Z) ?_
 rintro⟨at_,out,A1,c1⟩ ρ1 w1 ⟨hat,hout,hdec,L1,ho,H⟩
 show CW _ _ _ _ (dB (gJ _ _ ρ1) [(4,.slice A1 out.length c1),(5,J (at_:Nat))]) w1
 have hfin: ∀ {w2:World},tH (l.drop at_)=none->Hp w w2 ([]++L1++[]) []-> ∃ es n A' c',(Value.tuple #[.slice A1 out.length c1,J (at_:Nat)])=.tuple #[.slice A' es.length c',J (n:Nat)]/\ID l es n/\Rd gk w.heap.size w2.heap.size A' es w2/\es.length<=c'/\Below w.heap.size w w2:=fun hs H=>by
  have hd:=hdec [] 0 (.stop hs)
  rw[aY,sk]at hd
  obtain⟨A2,c2,he,hlc,-⟩:=ho.form
  injection he with h1 h2 h3
  subst h3
  exact⟨out,at_,A1,c1,rfl,hd,ho.rd H,hlc,H.below⟩
 refine W<|W ?_
 refine Zr ?_
 refine ij Z Z ?_
 refine lK Z Z ?_
 refine sI eL Z Z ?_
 refine Fr Z Z Z (fun h13=> ?_) (fun h13=> ?_)
 all_goals refine mD ?_
 ·refine n6 Z ?_
  refine Zk ?_
  have hlt:at_<l.length:=by omega
  obtain⟨bb,o,hA,-,hbl,hcl0⟩:=hr.at_ hlt
  subst hA
  have hcl: ∀ {k:Nat} (hk:k<l.length) (w':World),Below w.heap.size w w'->w'.cell? ⟨bb,o+k*1,none⟩=some (.int .u8 (l[k].toNat:Nat)):=fun{k} hk w' hb=>by
   obtain⟨bb',o',hA,-,hbl,hcl⟩:=hr.at_ hk
   injection hA with hA
   injection hA with h1 h2
   subst h1;subst h2
   exact(hb.cell (p:=⟨bb,_,none⟩) hbl).trans (hcl 0 _ Z)
  have hd0:l.drop at_=l[at_]::l.drop (at_+1):=mY hlt
  have hx:=hcl hlt
  have h256:l[at_].toNat<256:=UInt8.toNat_lt _
  generalize hn:l[at_].toNat=n at*
  refine Zb<|W ?_
  refine Zr ?_
  refine lK Z Z ?_
  refine ij Z Z ?_
  refine OV d8 Z Z I I Z ?_
  refine ld mz Z (hx _ H.below) Z ?_
  refine NB im iq Z (vh (n:=n) I) Z ?_
  refine oR Z Z ?_
  refine U<|W<|W ?_
  refine Zr ?_
  refine ij Z Z ?_
  by_cases hstop:n=0∨l.length<at_+n+3
  ·have hs:tH (l.drop at_)=none:=by
    rw[hd0,tH,hn,if_pos]
    rw[dL];omega
   by_cases hn0:n=0
   ·refine LM Z Z I Z ?_
    refine z6 Z Z ?_
    iterate 7 refine rW Z Z Z ?_
    refine wI Z Z Z ?_
    refine U<|ZT Z<|Zx<|W ?_
    refine Zr ?_
    refine lK Z Z ?_
    refine ij Z Z ?_
    refine ve Z Z ?_
    refine oR Z Z ?_
    refine U<|Zt ?_
    exact mj Z Z Z (hfin hs H)
   ·refine Hs Z Z I Z ?_
    refine z6 Z Z ?_
    refine ZG ?_
    refine ij Z Z ?_
    refine ZG ?_
    refine ij Z Z ?_
    refine ZG ?_
    refine add Z Z I I Z ?_
    refine ZG ?_
    refine add Z Z I I Z ?_
    refine ZG ?_
    refine lK Z Z ?_
    refine ZG ?_
    refine sI eL Z Z ?_
    refine ZG<|Oy Z Z I Z ?_
    refine sF Z Z Z ?_
    refine U<|ZT Z<|Zx<|W ?_
    refine Zr ?_
    refine lK Z Z ?_
    refine ij Z Z ?_
    refine ve Z Z ?_
    refine oR Z Z ?_
    refine U<|Zt ?_
    exact mj Z Z Z (hfin hs H)
  have hn0:n≠0:=fun h=>hstop (.inl h)
  have hlen:at_+n+3<=l.length:=by omega
  refine Hs Z Z I Z ?_
  refine z6 Z Z ?_
  refine ZG ?_
  refine ij Z Z ?_
  refine ZG ?_
  refine ij Z Z ?_
  refine ZG ?_
  refine add Z Z I I Z ?_
  refine ZG ?_
  refine add Z Z I I Z ?_
  refine ZG ?_
  refine lK Z Z ?_
  refine ZG ?_
  refine sI eL Z Z ?_
  refine ZG<|Oz Z Z I Z ?_
  refine sF Z Z Z ?_
  refine U<|ZF Z<|Zk<|W ?_
  refine Zr ?_
  refine lK Z Z ?_
  refine ij Z Z ?_
  refine add Z Z I I Z ?_
  refine ij Z Z ?_
  refine add Z Z I I Z ?_
  refine ij Z Z ?_
  refine add Z Z I I Z ?_
  refine NP d8 Z Z Z I I I Z ?_;intro A37 hA37
  have e1:((at_:Int)+1).toNat=at_+1:=by omega
  have e2:((at_:Int)+1+n).toNat- (at_+1)=n:=by omega
  rw[e1]at hA37⊢
  rw[e2]
  have hrx:Rd dF 0 w.heap.size A37 ((l.drop (at_+1)).take n) w:=(hr.from_ hA37 (fun h=>by omega)).take n
  have hxl:((l.drop (at_+1)).take n).length=n:=by rw[aI,dL];omega
  refine ve Z Z ?_
  refine U ?_
  have hg1:(l.drop (at_+1)).getD n 0=l[at_+n+1]:=by
   rw[bZ,dO,show at_+1+n=at_+n+1 by omega,ah I];rfl
  have hg2:(l.drop (at_+1)).getD (n+1) 0=l[at_+n+2]:=by
   rw[bZ,dO,show at_+1+(n+1)=at_+n+2 by omega,ah I];rfl
  have hc1:=hcl (k:=at_+n+1) I
  have hc2:=hcl (k:=at_+n+2) I
  have hb1:l[at_+n+1].toNat<256:=UInt8.toNat_lt _
  have hb2:l[at_+n+2].toNat<256:=UInt8.toNat_lt _
  generalize l[at_+n+1]=x1 at*
  generalize l[at_+n+2]=x2 at*
  generalize hX:(l.drop (at_+1)).take n=X at*
  have hstep:tH (l.drop at_)=if mu X≠x1.toNat*256+x2.toNat then none else if uo (X.headD 0) X.tail=true then some ((tg (X.headD 0) X.tail).1,n+3)else none:=by
   rw[hd0,tH,hn,if_neg (by rw[dL];omega),hX,hg1,hg2]
   have:(l.drop (at_+1)).headD 0=X.headD 0:=by
    rw[<-hX]
    cases h:l.drop (at_+1)with
    |nil=>simp
    |cons a r=>
     cases n with
     |zero=>exact absurd Z hn0
     |succ n=>rfl
   rw[this]
  have hcy1:((at_:Int)+n+1).toNat=at_+n+1:=by omega
  have hcy2:((at_:Int)+n+2).toNat=at_+n+2:=by omega
  rw[<-hcy1]at hc1
  rw[<-hcy2]at hc2
  have hor:x1.toNat*2 ^ 8|||x2.toNat=x1.toNat*256+x2.toNat:=O2 hb2
  have hslt:=Dn X
  refine W<|W ?_
  refine bB bY [0,2,3,4,5,6,7,8,9,10,11,12,13,14,15,16,17,18,19,1,20] [] [1] [0,2,3,4,5,6,7,9,10,11,12,13,14,15,16,18,19,20] (sp [(1,Sp.one (J (mu X:Nat)))]) N N N N Nq (cH _) ?_
  refine aw Z Z Z Z Z (fun _ _=>gT Z) ?_
  refine aw Z Z Z Z Z (fun _ _=>gT Z) ?_
  refine aw Z Z Z Z Z (fun _ _=>gT Z) ?_
  refine aw Z Z Z Z Z (fun _ _=>gT Z) ?_
  refine aw Z Z Z Z Z (fun _ _=>bu Z Z I I) ?_
  refine aw Z Z Z Z Z (fun _ _=>bu Z Z I I) ?_
  refine aw Z Z Z Z Z (fun _ _=>qM d8 Z Z I I) ?_
  refine aw Z Z Z Z Z (fun w' hw'=>aV mz Z (hc1 w' (H.later hw').below)) ?_
  refine aw Z Z Z Z Z (fun _ _=>C2 im iq Z (vh (n:=x1.toNat) I)) ?_
  refine aw Z Z Z Z Z (fun _ _=>NR (a:=x1.toNat) (b:=8) (k:=.u64) Z Z I I) ?_
  refine aw Z Z Z Z Z (fun _ _=>gT Z) ?_
  refine aw Z Z Z Z Z (fun _ _=>gT Z) ?_
  refine aw Z Z Z Z Z (fun _ _=>gT Z) ?_
  refine aw Z Z Z Z Z (fun _ _=>bu Z Z I I) ?_
  refine aw Z Z Z Z Z (fun _ _=>bu Z Z I I) ?_
  refine aw Z Z Z Z Z (fun _ _=>qM d8 Z Z I I) ?_
  refine aw Z Z Z Z Z (fun w' hw'=>aV mz Z (hc2 w' (H.later hw').below)) ?_
  refine aw Z Z Z Z Z (fun _ _=>C2 im iq Z (vh (n:=x2.toNat) I)) ?_
  refine aw Z Z Z Z Z (fun _ _=>MW (a:=x1.toNat*2 ^ 8) (b:=x2.toNat) Z Z I I) ?_
  rw[hor]
  refine yR yP Z Z Z Z (fun w' hw'=>(Km X A37 (c- (at_+1)) w' ((hrx.below (H.later hw').below).mono (ao _) (H.later hw').size) I).mono (fun v w2 ⟨h1,h2⟩=>⟨h2,h1⟩)) (by rw[hxl];rfl) ?_
  rintro _ ⟨_,_,rfl⟩
  by_cases hsum:mu X=x1.toNat*256+x2.toNat
  ·refine aw Z Z Z Z Z (fun _ _=>bV Z Z I) ?_
   refine aT ?_
   intro w' hw' hF;replace H:=H.later hw';clear hw' hF
   refine U<|ZF Z<|Zk ?_
   obtain⟨c0,X',rfl⟩: ∃ c0 X',X=c0::X':=by
    cases X with
    |nil=>simp at hxl;omega
    |cons a X=>exact⟨a,X,rfl⟩
   rw[if_neg I]at hstep
   refine W ?_
   refine Zr ?_
   refine lK Z Z ?_
   rw[<-hxl]
   refine bW Ef (NG c0 X' A37 _ _ ((hrx.below H.below).mono (ao _) H.size) (by rw[hxl];omega)) Z Z ?_;rintro _ w2 ⟨rfl,hb2⟩;replace H:=H.later hb2
   rw[hxl]
   refine Qr Z Z ?_
   refine P2 Z Z Z ?_
   refine P2 Z Z Z ?_
   refine ey H gi Z ?_;intro w3 b8 H
   refine Kr H 0 eS Z Z Z Z Z Z ?_;intro w4 H
   refine NJ Z Z ?_
   refine U<|W<|W ?_
   refine Zr ?_
   refine z6 Z Z ?_
   refine not Z Z ?_
   refine U ?_
   refine jq (b:=!uo c0 X') Z (fun hb=> ?_) (fun hb=> ?_)
   ·rw[if_neg (by simpa using hb)]at hstep
    refine Zx<|W ?_
    refine Zr ?_
    refine lK Z Z ?_
    refine ij Z Z ?_
    refine ve Z Z ?_
    refine oR Z Z ?_
    refine U<|Zt ?_
    exact mj Z Z Z (hfin hstep (H.forget (by simp) (fun _ h=>h)))
   ·rw[if_pos (by simpa using hb)]at hstep
    refine Zk<|W ?_
    refine Zr ?_
    refine lK Z Z ?_
    refine P0 H 0 dw Z Z Z Z ?_
    refine tf (vs:=[.agg _]) H dg gi Z Z Z Z Z Z ?_;intro w5 b68 H5
    refine vf (Y:=gk) JV (K:=[_,_]) (L:=L1) (M:=[]) H5 ho (news:=[(tg c0 X').1]) Z Z Z ?_ (by simp only[bQ];omega) Z ?_
    ·exact wr.row (m:=1) (sz:=7) (H5.ent (i:=0) Z) Z
    intro A6 c6 w6 L6 _ _ ho6 H6
    refine ve Z Z ?_
    refine U ?_
    refine Zr ?_
    refine ij Z Z ?_
    refine ij Z Z ?_
    refine add Z Z I I Z ?_
    refine add Z Z I I Z ?_
    refine oR Z Z ?_
    refine U ?_
    refine⟨(at_+(n+3),out++[(tg c0 X').1],A6,c6),⟨by omega,by simp;omega,fun es m hD=> ?_,L6,ho6,H6.forget (by simp) (fun _ h=>h)⟩,lh Z ?_,by repeat (first|exact lI|refine kR Z ?_|refine jl _ Z ?_),by show l.length- (at_+(n+3))<l.length-at_;omega⟩
    ·have:=hdec _ _ (.go hstep (by rw[j5];exact hD))
     rw[aD,lf]
     exact this
    ·show Value.int .i64 _=Value.int .i64 _
     congr 1
  ·rw[if_pos hsum]at hstep
   refine aw Z Z Z Z Z (fun _ _=>jS Z Z I) ?_
   refine aT ?_
   intro w' hw' hF;replace H:=H.later hw';clear hw'
   refine U<|ZT Z<|Zx<|W ?_
   refine Zr ?_
   refine lK Z Z ?_
   refine ij Z Z ?_
   refine ve Z Z ?_
   refine oR Z Z ?_
   refine U<|Zt ?_
   exact mj Z Z Z (hfin hstep H)
 ·refine mP Z ?_
  refine Zx ?_
  have hs:tH (l.drop at_)=none:=by rw[en I];rfl
  refine W ?_
  refine Zr ?_
  refine lK Z Z ?_
  refine ij Z Z ?_
  refine ve Z Z ?_
  refine oR Z Z ?_
  refine U<|Zt ?_
  exact mj Z Z Z (hfin hs H)
def rM (e:cN):Prop:=eH e=0
def bd (es:List cN):List UInt8:=es.flatMap iB
theorem zE (n:Nat) (h:n<256):(UInt8.ofNat n).toNat=n:=by simp[gX h]
theorem KA: ∀ (k n i m:Nat) (rest:List UInt8),n<128 ^ k->i+k<=5->(0<k)->(n≠0∨i=0)->rn i m (yZ n++rest)=(m+n*2 ^ (7*i),rest,false)
 |0,_,_,_,_,_,_,h0,_=>absurd h0 (by decide)
 |k+1,n,i,m,rest,hn,hi,_,hz=>by
  by_cases h:n<=127
  rw[uF h]
  simp only[qy,kV,rn]
  rw[if_neg I,zE n I,if_pos I,gX I]
  have:(decide (n=0)&&decide (0<i))=false:=by
   rcases hz with h|h
   simp[h]
   simp[h]
  rw[this]
  rw[DA I]
  simp only[qy,rn]
  have hm:n%128<128:=jF _ (by decide)
  rw[if_neg I,zE _ I,if_neg I]
  have hk:k≠0:=by rintro rfl;simp at hn;omega
  rw[KA k (n/128) (i+1) _ rest (by rw[Nat.pow_succ]at hn;exact yU I) I I (.inl I)]
  congr 1
  have e1:(n%128+128)%128=n%128:=by omega
  have e2:2 ^ (7*(i+1))=128*2 ^ (7*i):=by rw[Nat.mul_add,Nat.pow_add];omega
  rw[e1,e2]
  have e3:n/128*(128*2 ^ (7*i))=(n/128*128)*2 ^ (7*i):=(Nat.mul_assoc _ _ _).symm
  rw[e3,lf,<-cR]
  congr 2
  omega
theorem zk {n:Nat} (hn:n<=1073741824) (rest:List UInt8):E0 (yZ n++rest) false=(n,rest,false):=by
 unfold E0
 rw[if_neg (by decide),KA 5 n 0 0 rest I I I (.inr Z)]
 simp
theorem Ji: ∀ k:Nat,k<4-> ∀ t:Bool,let c:=k+if t then 16 else 0;c<32/\(c&&&15)=k/\(!decide (((c&&&16:Nat):Int)=0))=t:=by decide
theorem L7 {e:cN} (h:rM e): ∃ c x,eM e=c::x/\uo c x=true/\(tg c x).1=e:=by
 obtain⟨h1,h2,h3,h4,-⟩:=qQ h
 refine⟨oo e,ol e.nums++e.text.data.toList,rfl,?_⟩
 obtain⟨ep,pid,ver,seq,kind,txn,text⟩:=e
 simp only[cN.nums,av,bo,or_false,forall_eq_or_imp,forall_eq]at h3
 dsimp only at h1 h2
 obtain⟨a1,a2,a3,a4⟩:=h3
 obtain⟨n1,rfl⟩: ∃ n:Nat,ep=n:=⟨ep.toNat,by omega⟩
 obtain⟨n2,rfl⟩: ∃ n:Nat,pid=n:=⟨pid.toNat,by omega⟩
 obtain⟨n3,rfl⟩: ∃ n:Nat,ver=n:=⟨ver.toNat,by omega⟩
 obtain⟨n4,rfl⟩: ∃ n:Nat,seq=n:=⟨seq.toNat,by omega⟩
 obtain⟨k,rfl⟩: ∃ n:Nat,kind=n:=⟨kind.toNat,by omega⟩
 have hb:ol (cN.nums ⟨(n1:Nat),(n2:Nat),(n3:Nat),(n4:Nat),(k:Nat),txn,text⟩)++text.data.toList=yZ n1++(yZ n2++(yZ n3++(yZ n4++text.data.toList))):=by
  simp[ol,cN.nums]
 obtain⟨j1,j2,j3⟩:=Ji k I txn
 have hkb:(oo ⟨(n1:Nat),(n2:Nat),(n3:Nat),(n4:Nat),(k:Nat),txn,text⟩).toNat=k+if txn then 16 else 0:=by
  unfold oo
  exact zE _ (by simp only[uv];exact Nat.lt_trans j1 (by decide))
 have hE:tg (oo ⟨(n1:Nat),(n2:Nat),(n3:Nat),(n4:Nat),(k:Nat),txn,text⟩) (yZ n1++(yZ n2++(yZ n3++(yZ n4++text.data.toList))))=(⟨(n1:Nat),(n2:Nat),(n3:Nat),(n4:Nat),(k:Nat),txn,text⟩,false):=by
  unfold tg
  simp only[zk (show n1<=1073741824 by omega),zk (show n2<=1073741824 by omega),zk (show n3<=1073741824 by omega),zk (show n4<=1073741824 by omega),hkb,j2,j3]
 dsimp only
 rw[hb]
 refine⟨?_,by rw[hE]⟩
 unfold uo
 rw[hE,hkb]
 simp[j1,show eH _=0 from h]
theorem AY (e:cN):(iB e).length=(eM e).length+3:=by simp[iB]
theorem ER {e:cN} (h:rM e) (rest:List UInt8):tH (iB e++rest)=some (e,(iB e).length):=by
 obtain⟨hl,h0⟩:=uU h
 have hs:=Dn (eM e)
 obtain⟨c,x,h1,h2,h3⟩:=L7 h
 have e1:iB e++rest=UInt8.ofNat (eM e).length::(eM e++(UInt8.ofNat (mu (eM e)/256)::UInt8.ofNat (mu (eM e)%256)::rest)):=by simp[iB]
 rw[e1,tH,zE _ I,if_neg (by simp only[ay,cE];omega)]
 have t1:(eM e++(UInt8.ofNat (mu (eM e)/256)::UInt8.ofNat (mu (eM e)%256)::rest)).take (eM e).length=eM e:=i8
 have t2:(eM e++(UInt8.ofNat (mu (eM e)/256)::UInt8.ofNat (mu (eM e)%256)::rest)).getD (eM e).length 0=UInt8.ofNat (mu (eM e)/256):=by
  rw[bZ,cv (ao _),mp];rfl
 have t3:(eM e++(UInt8.ofNat (mu (eM e)/256)::UInt8.ofNat (mu (eM e)%256)::rest)).getD ((eM e).length+1) 0=UInt8.ofNat (mu (eM e)%256):=by
  rw[bZ,cv I,oN];rfl
 rw[t1,t2,t3,zE _ I,zE _ I,if_neg (fun h=>h (Nat.div_add_mod' _ _).symm)]
 have t4:(eM e++(UInt8.ofNat (mu (eM e)/256)::UInt8.ofNat (mu (eM e)%256)::rest)).headD 0=c:=by rw[h1];rfl
 rw[t4,AY]
 rw[h1]
 simp[h2,h3]
theorem Ir: ∀ (es:List cN) (rest:List UInt8),(∀ e∈es,rM e)->tH rest=none->ID (bd es++rest) es (bd es).length
 |[],rest,_,h=> .stop h
 |e::es,rest,hg,h=>by
  have h1:=ER (hg e (aB ..)) (bd es++rest)
  have h2:=Ir es rest (fun x hx=>hg x (ak _ hx)) h
  have e1:bd (e::es)++rest=iB e++(bd es++rest):=by simp[bd]
  have e2:(bd (e::es)).length=(iB e).length+(bd es).length:=by simp[bd]
  rw[e1,e2]
  exact .go h1 (by rw[List.drop_left];exact h2)
theorem pS {l:List UInt8} {es es':List cN} {n n':Nat} (h:ID l es n) (h':ID l es' n'):es=es'/\n=n':=by
 induction h generalizing es' n' with
 |stop h=>cases h' with
  |stop=>exact⟨rfl,rfl⟩
  |go h1 _=>rw[h]at h1;cases h1
 |go h hd ih=>cases h' with
  |stop h1=>rw[h]at h1;cases h1
  |go h1 hd1=>
   rw[h]at h1
   injection h1 with h1;injection h1 with h1 h2
   subst h1;subst h2
   obtain⟨a,b⟩:=ih hd1
   exact⟨by rw[a],by rw[b]⟩
theorem LA (e:cN):bd [e]=iB e:=by simp[bd]
theorem Ju {es:List cN} {k:Nat} (h:k<es.length):bd (es.take (k+1))=bd (es.take k)++iB es[k]:=by
 unfold bd
 rw[js h,m0,List.flatMap_singleton]
theorem ff (es:List cN) (k:Nat):(bd (es.take k)).length<=(bd es).length:=by
 have:bd es=bd (es.take k)++bd (es.drop k):=by
  unfold bd;rw[<-m0,gQ]
 rw[this,ay];omega
def e0:cN:=⟨0,1,0,0,2,true,⟨#[]⟩⟩
section
open Go.ChangeShapes Go.WideShapes Go.ChangeAt Go.RowKit Go.Eng
/-- the row's end, out of a function's contract -/
theorem IX {f:FuncId} {vs:List Value} {w:World} (h:dd aa f vs w fun v w2=>v=.bool true/\Below w.heap.size w w2):Calls aa f vs.toArray w fun e w'=>e=.returned (.bool true)/\Below w.heap.size w w':=
 Calls.mono h fun _ _ ⟨_,he,hv,hb⟩=>⟨by rw[he,hv],hb⟩
end
theorem Ht:aa.underlying cZ=some (.struct (aa.fieldsOf cZ)):=by kernel_rfl
theorem Jz:aa.stoodInHeld cZ=false:=by kernel_rfl
theorem JA:aa.eqGuardType aa.depth cZ=false:=by kernel_rfl
theorem Nv (e f:cN):B7 aa 0 (aa.fieldsOf cZ).toList e.c f.c=true:=by kernel_rfl
theorem Nu (e f:cN):decide (e=f)=true↔e.c=f.c:=by
 rw[decide_eq_true_iff]
 obtain⟨_,_,_,_,_,_,_⟩:=e
 obtain⟨_,_,_,_,_,_,_⟩:=f
 simp[cN.c]
theorem FW (es fs:List cN) (A B:Option Addr) (c d:Nat) (w:World) (hr:Rd gk 0 w.heap.size A es w) (hs:Rd gk 0 w.heap.size B fs w) (hb:es.length<=1000000000000):
  dd aa pK [.slice A es.length c,.slice B fs.length d] w fun v w2=>v=.bool (decide (es=fs))/\Below w.heap.size w w2:=by
 refine aF pe Z Z ?_
 have H:=Hp.start w
 refine W ?_
 refine Zr ?_
 refine NJ Z Z ?_
 refine U<|W<|W ?_
 refine Zr ?_
 refine lK Z Z ?_
 refine sI dM Z Z ?_
 refine lK Z Z ?_
 refine sI dM Z Z ?_
 by_cases hlen:es.length=fs.length
 ·refine l1 (bV Z Z I) Z Z Z ?_
  refine U<|ZF Z<|Zk<|W<|W ?_
  refine Zr ?_
  refine lK Z Z ?_
  refine sI dM Z Z ?_
  refine ij Z Z ?_
  refine U<|Zb ?_
  refine ce (τ:=Nat) [4,5,13,14,15,16,17,18,19,20,21,22,23,24,25] (fun k=>[(13,J (k:Nat))]) (fun k w'=>k<=es.length/\es.take k=fs.take k/\Hp w w' [] []) (fun k=>es.length-k) 0 ⟨by omega,rfl,H⟩ (dK Z) ?_
  rintro k ρ1 w1 ⟨hk,heq,H⟩
  show CW _ _ _ _ (dB (gJ _ _ ρ1) [(13,J (k:Nat))]) w1
  refine W ?_
  refine Zr ?_
  refine Fr Z Z Z (fun h14=> ?_) (fun h14=> ?_)
  all_goals refine mD ?_
  all_goals refine ye ?_
  ·refine n6 Z ?_
   refine Zk ?_
   have hk1:k<es.length:=by omega
   have hk2:k<fs.length:=by omega
   obtain⟨b1,o1,rfl,-,hbl1,hcl1⟩:=hr.at_ hk1
   obtain⟨b2,o2,rfl,-,hbl2,hcl2⟩:=hs.at_ hk2
   have t1:es.take (k+1)=es.take k++[es[k]]:=js hk1
   have t2:fs.take (k+1)=fs.take k++[fs[k]]:=js hk2
   have hne:es[k]≠fs[k]->es≠fs:=fun h e=>by subst e;exact h Z
   generalize es[k]=e at*
   generalize fs[k]=f at*
   refine W<|Zb<|W ?_
   refine Zr ?_
   refine ij Z Z ?_
   refine oR Z Z ?_
   refine U<|W ?_
   refine bB bY [0,1,2,3,4,5,6,7,8] [] [] [0,1,2,4,5,6,8] (sp []) N N N N Nq (cH _) ?_
   refine aw Z Z Z Z Z (fun _ _=>gT Z) ?_
   refine aw Z Z Z Z Z (fun _ _=>gT Z) ?_
   refine aw Z Z Z Z Z (fun _ _=>qM dg Z Z I I) ?_
   refine aw Z Z Z Z Z (fun w' hw'=>iw (xs:=e.c) dw Z Z (fun j v hj=>((H.later hw').below.cell (p:=⟨b1,_,none⟩) hbl1).trans (hcl1 j v hj))) ?_
   refine aw Z Z Z Z Z (fun _ _=>gT Z) ?_
   refine aw Z Z Z Z Z (fun _ _=>gT Z) ?_
   refine aw Z Z Z Z Z (fun _ _=>qM dg Z Z I I) ?_
   refine aw Z Z Z Z Z (fun w' hw'=>iw (xs:=f.c) dw Z Z (fun j v hj=>((H.later hw').below.cell (p:=⟨b2,_,none⟩) hbl2).trans (hcl2 j v hj)))<|aw Z Z Z Z Z (fun _ _=>ON (r:=decide (e=f)) Ht Jz JA Z Z (Nv e f) (Nu e f))<|aT ?_
   intro w' hw' hF;replace H:=H.later hw';clear hw'
   refine U ?_
   by_cases hef:e=f
   ·have hd:(!decide (e=f))=false:=by simp[hef]
    rw[hd]
    refine ZF Z<|Zk ?_
    refine Zr ?_
    refine add Z Z I I Z ?_
    refine ij Z Z ?_
    refine U ?_
    refine⟨k+1,⟨by omega,by rw[t1,t2,heq,hef],H⟩,dK Z,by repeat (first|exact lI|refine kR Z ?_|refine jl _ Z ?_),by show es.length- (k+1)<es.length-k;omega⟩
   ·have hd:(!decide (e=f))=true:=by simp[hef]
    rw[hd]
    refine ZT Z<|W ?_
    refine Zr ?_
    refine NJ Z Z ?_
    refine U<|Zt ?_
    exact cy (v:=.bool false) Z Z ⟨by rw[decide_eq_false (hne hef)],H.below⟩
  ·refine mP Z ?_
   refine Zx ?_
   have hke:k=es.length:=by omega
   subst hke
   rw[bL,hlen,bL]at heq
   refine W ?_
   refine Zr ?_
   refine NJ Z Z ?_
   refine U<|Zt ?_
   exact cy (v:=.bool true) Z Z ⟨by rw[decide_eq_true heq],H.below⟩
 ·refine l1 (jS Z Z I) Z Z Z ?_
  refine U<|ZT Z<|W ?_
  refine Zr ?_
  refine NJ Z Z ?_
  refine U<|Zt ?_
  exact cy (v:=.bool false) Z Z ⟨by rw[decide_eq_false (fun h=>hlen (by rw[h]))],H.below⟩
/-- picked -/
def pk (n:Int) (m:Nat):Nat:=(if n<0 then(-(n+1)).toNat else n.toNat)%m
theorem i6 (n:Int) {m:Nat} (h:0<m):pk n m<m:=jF _ h
theorem dq (n:Int) (m:Nat) (w:World) (h1: -9223372036854775808<=n) (h2:n<=9223372036854775807) (hm:0<m) (hm2:m<=1000000000000):
  dd aa tq [J n,J (m:Nat)] w fun v w2=>v=J (pk n m:Nat)/\Below w.heap.size w w2:=by
 refine aF sP Z Z ?_
 have H:=Hp.start w
 refine W ?_
 refine Zr ?_
 refine oR Z Z ?_
 refine U<|W ?_
 obtain⟨a,ha⟩: ∃ a:Nat,(if n<0 then(-(n+1)).toNat else n.toNat)=a:=⟨_,rfl⟩
 refine eD (τ:=Unit) [5,6,7,8,9,0] (fun _=>[(0,J (a:Nat))]) (fun _ w'=>Hp w w' [] []) ?_ ?_
 ·refine ye ?_
  refine Zr ?_
  refine ij Z Z ?_
  refine Fr Z Z Z (fun h6=> ?_) (fun h6=> ?_)
  all_goals refine mD ?_
  ·refine n6 Z ?_
   refine Zr ?_
   refine ij Z Z ?_
   refine G (OP Z Z I I)<|G (Oo Z I I) ?_
   refine oR Z Z ?_
   refine U ?_
   have e: -(n+1)=(a:Nat):=by rw[if_pos h6]at ha;omega
   rw[e]
   refine⟨(),H,dK Z,by repeat (first|exact Ez.refl _ _|exact lI|refine kR Z ?_|refine jl _ Z ?_)⟩
  ·refine mP Z ?_
   refine Zk ?_
   have e:n=(a:Nat):=by rw[if_neg h6]at ha;omega
   subst e
   refine⟨(),H,dK Z,by repeat (first|exact Ez.refl _ _|exact lI|refine kR Z ?_|refine jl _ Z ?_)⟩
 rintro _ ρ1 w1 H
 show CW _ _ _ _ (dB (gJ _ _ ρ1) [(0,J (a:Nat))]) w1
 refine W ?_
 refine Zr ?_
 refine ij Z Z ?_
 refine ij Z Z ?_
 refine rem Z Z I I Z ?_
 refine oR Z Z ?_
 refine U<|Zt ?_
 have e:((a:Int)%(m:Int))=(pk n m:Nat):=by unfold pk;rw[ha];rfl
 rw[e]
 exact cy (v:=J (pk n m:Nat)) Z Z ⟨rfl,H.below⟩
structure Gk where
 kind:Int
 a:Int
 b:Int
 c:Int
def Gk.cs (r:Gk):List Value:=[J r.kind,J r.a,J r.b,J r.c]
def rT:fi Gk:=⟨Gk.cs,4,fun _=>rfl,by decide,fun a u hu=>by
 simp only[Gk.cs,av,bo,or_false]at hu
 rcases hu with h|h|h|h<;>subst h<;>rfl⟩
def i64 (n:Int):Prop:= -9223372036854775808<=n/\n<=9223372036854775807
def Gk.ok (r:Gk):Prop:=i64 r.kind/\i64 r.a/\i64 r.b/\i64 r.c
def vj (n:Nat):List UInt8:=if h:n=0 then []else UInt8.ofNat (97+n%10)::vj (n/10)
termination_by n
decreasing_by omega
theorem Cp {n:Nat} (h:0<n):vj n=UInt8.ofNat (97+n%10)::vj (n/10):=by rw[vj,dif_neg I]
theorem vN:vj 0=[]:=by rw[vj];simp
theorem xE: ∀ (k n:Nat),n<10 ^ k->(vj n).length<=k
 |0,n,h=>by
  have:n=0:=by simpa using h
  subst this;rw[vN];simp
 |k+1,n,h=>by
  by_cases hn:n=0
  subst hn;rw[vN];simp
  rw[Cp I]
  have:=xE k (n/10) (by rw[Nat.pow_succ]at h;omega)
  simp;omega
def vi (n:Int):ByteArray:=⟨(vj (pk n 10000)).toArray⟩
theorem OL (a b:List UInt8):(⟨a.toArray⟩:ByteArray)++⟨b.toArray⟩=⟨(a++b).toArray⟩:=by
 apply ByteArray.ext
 simp
theorem IE (n:Int):(vi n).size<=4:=by
 have:=xE 4 (pk n 10000) (i6 n (by decide))
 simpa [vi,ByteArray.size]using this
theorem Mx (n:Int) (w:World) (hn:i64 n):dd aa uY [J n] w fun v w2=>v=.string (vi n)/\Below w.heap.size w w2:=by
 refine aF t0 Z Z ?_
 have H:=Hp.start w
 obtain⟨hn1,hn2⟩:=hn
 have hpk:=i6 n (show 0<10000 by decide)
 refine W<|Zr<|G (Wt Z)<|U<|W<|Zr<|G (Wt Z)<|U<|W<|W<|Zr<|G (Yi Z)<|bW aM (dq _ 10000 _ I I (by decide) (by decide)) Z Z ?_
 rintro _ w1 ⟨rfl,hb⟩;replace H:=H.later hb;clear hb
 refine G (Wi Z)<|U<|Zb ?_
 refine ce (τ:=Nat×List UInt8) [0,3,6,7,8,9,10,11,12,13,14,15,16] (fun(m,s)=>[(0,J (m:Nat)),(3,.string ⟨s.toArray⟩)]) (fun(m,s) w'=>m<10000/\s++vj m=vj (pk n 10000)/\Hp w w' [] []) (fun(m,_)=>m) (pk n 10000,[]) ⟨hpk,rfl,H⟩ (lh Z Z) ?_
 rintro⟨m,s⟩ ρ1 w1 ⟨hm,hs,H⟩
 show CW _ _ _ _ (dB (gJ _ _ ρ1) [(0,J (m:Nat)),(3,.string ⟨s.toArray⟩)]) w1
 have hsl:(⟨s.toArray⟩:ByteArray).size<=4:=by
  have h4:=xE 4 (pk n 10000) (by simpa using hpk)
  rw[<-hs,ay]at h4
  show s.toArray.size<=4
  simp;omega
 refine W<|W<|Zr<|G (Yi Z) ?_
 refine cU (kg Z Z) Z Z Z (fun h7=> ?_) (fun h7=> ?_)
 ·
  refine U<|ZT Z<|Zk<|W<|Zb<|Zr<|G (Yt Z)<|G (Yi Z)<|G (NS Z Z I I)<|G (bu Z Z I I) ?_
  have e13:(97:Int)+(m:Int)%10=(97+m%10:Nat):=by omega
  rw[e13]
  refine G (C2 iq CO Z (N5 I))<|G (OE CO ju Z Z I)<|G (Od Z Z (by simp only[ByteArray.size]at hsl⊢;simp at hsl⊢;omega)) ?_
  rw[show(⟨#[UInt8.ofNat (97+m%10)]⟩:ByteArray)=⟨[UInt8.ofNat (97+m%10)].toArray⟩from rfl,OL]
  refine G (Wt Z)<|U<|Zr<|G (Yi Z)<|G (O1 Z Z I I I)<|G (Wi Z)<|U ?_
  refine⟨(m/10,s++[UInt8.ofNat (97+m%10)]),⟨by omega,by rw[<-hs,Cp (n:=m) I];simp,H⟩,lh Z Z,by repeat (first|exact Ez.refl _ _|exact lI|refine kR Z ?_|refine jl _ Z ?_),by show m/10<m;omega⟩
 ·
  refine U<|ZF Z<|Zx<|W<|Zr<|G (Yt Z)<|G (Wt Z)<|U<|Zt ?_
  have hm0:m=0:=by omega
  subst hm0
  rw[vN,aY]at hs
  subst hs
  exact cy (v:=.string (vi n)) Z Z ⟨rfl,H.below⟩
def Gk.entry (r:Gk):cN:=
 let p:=pk r.b 4
 if p=0 then⟨pk r.a 4,0,0,0,1,false,vi r.c⟩
 else if pk r.kind 6=0∨pk r.kind 6=1 then⟨pk r.a 4,p,pk r.a 3,0,2+pk r.c 2,true,⟨#[]⟩⟩
 else⟨pk r.a 4,p,pk r.a 3,pk r.c 5,1,decide (((pk r.c 2:Nat):Int)=0),vi r.c⟩
section
open Go.ChangeShapes Go.WideShapes Go.ChangeAt Go.RowKit Go.Eng
theorem xF {n:Int} (h:(Lit.int .i64 n).wf=true):i64 n:=by
 have: -9223372036854775808<=n/\n<=9223372036854775807:=by simpa [Lit.wf,IntKind.min,IntKind.max,IntKind.signed,IntKind.bits]using h
 exact this
theorem MA:aa.underlying vH=some (.struct (aa.fieldsOf vH)):=by kernel_rfl
theorem GN:(aa.fieldsOf vH).toList.map (fun f=>(f.offset,aa.cellsOf f.type))=[(0,1),(1,1),(2,1),(3,1)]:=by kernel_rfl
theorem KF:((aa.fieldsOf vH).toList.all fun f=>oY aa f.type .i64)=true:=by kernel_rfl
theorem tL:aa.cellsOf vH=4:=by kernel_rfl
theorem wO {P:Program} {t:TypeId} {k:IntKind} (h:oY P t k=true):P.underlying t=some (.int k):=by
 unfold oY at h
 split at h
 rename_i k' hk;rw[hk,of_decide_eq_true h]
 cases h
section
variable {H:Type} {enc:TypeId×Value->H} {w:World} {base:Nat} {sp:Nat->Bool} {held:Bool}
theorem Dw {P:Program} {t:TypeId} {fs:Array Field} (hu:P.underlying t=some (.struct fs)) (hp:fs.toList.map (fun f=>(f.offset,P.cellsOf f.type))=[(0,1),(1,1),(2,1),(3,1)]) (hi:(fs.toList.all fun f=>oY P f.type .i64)=true) (hce:P.cellsOf t=4)
  {n:Nat} {cs:List Value} {x:DataW H×List MemPlace} (h:DataW.trod enc P w base sp held n t cs=some x): ∃ r:Gk,cs=r.cs/\r.ok:=by
 obtain⟨xs,k,_,_,hl,hlen,hf⟩:=DataW.trod_struct hu h
 rw[hce]at hl
 obtain⟨fs⟩:=fs
 have hl4:fs.length=4:=by have:=congrArg cu hp;simpa using this
 obtain⟨f0,f1,f2,f3,rfl⟩: ∃ a b c d,fs=[a,b,c,d]:=by
  match fs,hl4 with
  |[a,b,c,d],_=>exact⟨a,b,c,d,rfl⟩
 simp only[eJ,mr,List.cons.injEq,Prod.mk.injEq,and_true]at hp
 obtain⟨⟨o0,c0⟩,⟨o1,c1⟩,⟨o2,c2⟩,o3,c3⟩:=hp
 simp only[List.all_cons,List.all_nil,aP,and_true]at hi
 obtain⟨i0,i1,i2,i3⟩:=hi
 obtain⟨v0,v1,v2,v3,rfl⟩: ∃ a b c d,cs=[a,b,c,d]:=by
  match cs,hl with
  |[a,b,c,d],_=>exact⟨a,b,c,d,rfl⟩
 have g0:=hf 0 f0 rfl
 have g1:=hf 1 f1 rfl
 have g2:=hf 2 f2 rfl
 have g3:=hf 3 f3 rfl
 rw[o0,c0]at g0;rw[o1,c1]at g1;rw[o2,c2]at g2;rw[o3,c3]at g3
 have hx:xs.length=4:=by simpa using hlen
 obtain⟨x0,h0⟩: ∃ y,xs[0]? =some y:=⟨_,ah (by omega)⟩
 obtain⟨x1,h1⟩: ∃ y,xs[1]? =some y:=⟨_,ah (by omega)⟩
 obtain⟨x2,h2⟩: ∃ y,xs[2]? =some y:=⟨_,ah (by omega)⟩
 obtain⟨x3,h3⟩: ∃ y,xs[3]? =some y:=⟨_,ah (by omega)⟩
 rw[h0]at g0;rw[h1]at g1;rw[h2]at g2;rw[h3]at g3
 obtain⟨n0,e0,_,w0⟩:=DataW.trod_int (wO i0) g0
 obtain⟨n1,e1,_,w1⟩:=DataW.trod_int (wO i1) g1
 obtain⟨n2,e2,_,w2⟩:=DataW.trod_int (wO i2) g2
 obtain⟨n3,e3,_,w3⟩:=DataW.trod_int (wO i3) g3
 simp at e0 e1 e2 e3
 subst e0 e1 e2 e3
 exact⟨⟨n0,n1,n2,n3⟩,rfl,xF w0,xF w1,xF w2,xF w3⟩
theorem CF {n:Nat} {cs:List Value} {x:DataW H×List MemPlace} (h:DataW.trod enc aa w base sp held n vH cs=some x): ∃ r:Gk,cs=r.cs/\r.ok:=
 Dw MA GN KF tL h
theorem ES {α:Type} {Y:fi α} {T e:TypeId} (hT:aa.underlying T=some (.slice e)) (hce:aa.cellsOf e=Y.sz) (ok:α->Prop) (hel: ∀ n cs x,DataW.trod enc aa w base sp held n e cs=some x-> ∃ r:α,cs=Y.f r/\ok r)
  {A:Option Addr} {l c:Nat} {d:DataW H} {ps:List MemPlace} (h:DataW.Trod enc aa w base sp held T (.slice A l c) d ps):
  ∃ rs:List α,rs.length=l/\l<=c/\c<=maxLen/\Rd Y 0 w.heap.size A rs w/\ ∀ r∈rs,ok r:=by
 obtain⟨fuel,hf⟩:=h
 rcases Go.Deep.open_slice hT hf with⟨hcs,_⟩|⟨a,len,cap,m,n,D,Pl,hcs,_,hl,hm,hmm,_,hx⟩
 simp[Value.cells]at hcs
 obtain⟨rfl,rfl,rfl⟩:=hcs
 exact⟨[],rfl,ao _,bD _,Rd.nil,by simp⟩
 simp[Value.cells]at hcs
 obtain⟨rfl,rfl,rfl⟩:=hcs
 have hlm:l<=m:=by rw[hmm];split<;>omega
 have each: ∀ i,i<l-> ∃ r:α,ok r/\ ∀ j u,(Y.f r)[j]? =some u->w.cell? ((a.add (i*Y.sz)).add j)=some u:=by
  intro i hi
  obtain⟨cs',h1,h2⟩:=hx i (by omega)
  obtain⟨r,hr,hok⟩:=hel _ _ _ h2
  rw[hce]at h1
  obtain⟨_,hlen,hcell⟩:=World.cells?_some h1
  refine⟨r,hok,fun j u hj=> ?_⟩
  have hjl:j<Y.sz:=by
   have:=(aA.1 hj).1
   rwa[Y.len]at this
  rw[hcell j hjl,hr,hj]
 have build: ∀ k,k<=l-> ∃ rs:List α,rs.length=k/\(∀ r∈rs,ok r)/\ ∀ i r,rs[i]? =some r-> ∀ j u,(Y.f r)[j]? =some u->w.cell? ((a.add (i*Y.sz)).add j)=some u:=by
  intro k
  induction k with
  |zero=>intro _;exact⟨[],rfl,by simp,by simp⟩
  |succ k ih=>
   intro hk
   obtain⟨rs,h1,h2,h3⟩:=ih (by omega)
   obtain⟨r,hok,hr⟩:=each k (by omega)
   refine⟨rs++[r],by simp[h1],?_,?_⟩
   intro q hq
   rcases ar.1 hq with hq|hq
   exact h2 q hq
   rw[aq.1 hq];exact hok
   intro i q hq
   by_cases hi:i<rs.length
   rw[cj hi]at hq;exact h3 i q hq
   rw[cv (by omega)]at hq
   have:i=k:=by
    have:=(aA.1 hq).1
    simp at this;omega
   subst this
   rw[<-h1]at hq hr⊢
   simp at hq
   rw[<-hq];exact hr
 obtain⟨rs,h1,h2,h3⟩:=build l (ao _)
 refine⟨rs,h1,hl,hm,fun h0=> ?_,h2⟩
 obtain⟨r0,hr0e⟩: ∃ r,rs[0]? =some r:=⟨_,ah h0⟩
 have hpos:0<(Y.f r0).length:=by rw[Y.len];exact Y.pos
 obtain⟨u0,hu0⟩: ∃ u,(Y.f r0)[0]? =some u:=⟨_,ah hpos⟩
 have hc0:=h3 0 r0 hr0e 0 u0 hu0
 have hz:(a.add (0*Y.sz)).add 0=a:=by simp[Addr.add]
 rw[hz]at hc0
 have hs:=World.cell?_spot hc0
 obtain⟨b,o,s⟩:=a
 simp only at hs
 subst hs
 refine⟨b,o,rfl,bD _,?_,fun j u hj=> ?_⟩
 unfold World.cell? at hc0
 split at hc0
 rename_i hb;exact cd hb
 cases hc0
 have hjl:j<rs.length*Y.sz:=by
  have:=(aA.1 hj).1
  rwa[fi.length]at this
 have hq:j/Y.sz<rs.length:=by rw[Nat.div_lt_iff_lt_mul Y.pos];exact hjl
 have hm2:j%Y.sz<Y.sz:=jF _ Y.pos
 have hdm:j/Y.sz*Y.sz+j%Y.sz=j:=Nat.div_add_mod' j Y.sz
 have hg:=fi.get (Y:=Y) hq hm2
 rw[hdm,hj]at hg
 have:=h3 (j/Y.sz) _ (ah hq) (j%Y.sz) u hg.symm
 rw[Addr.add_lit,Addr.add_lit,lf,hdm]at this
 exact this
end
end
section
open Go.ChangeShapes Go.WideShapes Go.ChangeAt Go.RowKit
theorem Kc (r:List Char):wordsSigns (' '::r)=[]::wordsSigns r:=by rw[wordsSigns]
theorem Kd (c:Char) (hc:c≠' ') (l w:List Char) (ws:List (List Char)) (h:wordsSigns l=w::ws):wordsSigns (c::l)=(c::w)::ws:=by
 rw[wordsSigns,h]
 exact hc
theorem su: ∀ (a r:List Char),(∀ c∈a,c≠' ')->wordsSigns (a++' '::r)=a::wordsSigns r
 |[],r,_=>Kc r
 |c::a,r,h=>Kd c (h c (aB ..)) _ _ _ (su a r fun x hx=>h x (ak _ hx))
def wY:List Char:=['a','t',' ','t','a','i','l','r','a','c','e','/','t','a','i','l','r','a','c','e','t','o','p','.','T','o','p','K','e','p','t',' ','t','a','i','l','r','a','c','e','/','t','a','i','l','r','a','c','e','t','o','p','.','T','o','p','T','w','i','c','e',' ','t','a','i','l','r','a','c','e','/','t','a','i','l','r','a','c','e','t','o','p','.','T','o','p','L','a','t','e','r',' ','t','a','i','l','r','a','c','e','/','t','a','i','l','r','a','c','e','k','e','e','p','.','W','o','r','l','d','G','o','o','d',' ','t','a','i','l','r','a','c','e','/','t','a','i','l','r','a','c','e','k','e','e','p','.','L','o','g','s','O','n','c','e',' ','t','a','i','l','r','a','c','e','/','t','a','i','l','r','a','c','e','k','e','e','p','.','A','g','a','i','n','S','a','m','e']
def Ik:List Char:=['e','6','a','a','d','7','b','0','2','3','5','2','c','b','a','b','7','0','5','d','6','f','f','1','1','e','2','f','7','d','a','d','1','1','d','2','8','6','0','3','5','a','9','8','1','d','4','3','d','b','e','b','0','7','6','5','4','2','a','9','c','d','6','c']
theorem Nr:Tryz.checked.prog.initOrder=String.ofList (['h','a','r','n','e','s','s']++' '::(Ik++' '::(['c','u','t']++' '::wY))):=by kernel_rfl
theorem sN:behindMainWord (wordsSigns Tryz.checked.prog.initOrder.toList)=['c','u','t']::wordsSigns wY:=by
 rw[Nr,String.toList_ofList,su _ _ (by decide),su _ _ (by decide+kernel),su _ _ (by decide)]
 have hs:isSumSigns Ik=true:=by decide+kernel
 simp[behindMainWord,hs]
theorem PC: "gc".toList=['g','c']:=by simp
theorem N7: "spec".toList=['s','p','e','c']:=by simp
theorem NO: "cut".toList=['c','u','t']:=by simp
theorem Nb {P:Program} {c:List Char} {r:List (List Char)} (h:behindMainWord (wordsSigns P.initOrder.toList)=c::r) (hg:(c== "gc".toList||c== "spec".toList)=false) (hc:(c== "cut".toList||(c== "finals".toList&&r.head? ==some "cut".toList))=true):P.make=some .cut:=by
 unfold Program.make
 rw[h]
 simp only[hg,hc]
 rfl
theorem OH:(['c','u','t']== "gc".toList||['c','u','t']== "spec".toList)=false:=by rw[PC,N7];decide
theorem Pf (r:List (List Char)):(['c','u','t']== "cut".toList||(['c','u','t']== "finals".toList&&r.head? ==some "cut".toList))=true:=by rw[NO];rfl
theorem Cy (ws:List (List Char)):stripLifts liftWords (['c','u','t']::ws)=([],['c','u','t']::ws):=by
 simp[stripLifts,liftWords]
theorem LO {P:Program} {c:List Char} {r:List (List Char)} (h:behindMainWord (wordsSigns P.initOrder.toList)=c::r) (hs:stripLifts liftWords (c::r)=([],c::r)) (hc:(c== "cut".toList)=true) (hl:P.laysLater=false) (hb:P.bearsReflect=false) (hd:P.doorFits []=true):P.mayEnter=true:=by
 have e:((c::r).head? ==some "cut".toList)=true:=by
  rw[eq_of_beq hc];simp
 unfold Program.mayEnter
 rw[h]
 simp only[hs,hl,hb,hd,e]
 simp
theorem NC:(['c','u','t']== "cut".toList)=true:=by rw[NO];rfl
theorem Hj:Tryz.checked.prog.headLifts=[]:=by
 unfold Program.headLifts
 rw[sN]
 generalize wordsSigns wY=ws
 simp[Cy]
theorem Fs:Tryz.checked.prog.liftsFinal=false:=by
 unfold Program.liftsFinal
 rw[sN,Hj]
 generalize wordsSigns wY=ws
 simp
theorem K8:Tryz.checked.prog.make=some .cut:=Nb sN OH (Pf _)
theorem G7:Tryz.checked.prog.laysLater=false:=by kernel_rfl
theorem Cj:Tryz.checked.prog.bearsReflect=false:=by kernel_rfl
theorem JF:Tryz.checked.prog.doorFits []=true:=by kernel_rfl
theorem Jd:Tryz.checked.prog.mayEnter=true:=LO sN (Cy _) NC G7 Cj JF
theorem GV:ownKnob aa.godebug=none:=by kernel_rfl
theorem wM:laidOutB Tryz.checked.prog=true:=by kernel_rfl
theorem G4:mapsRowed Tryz.checked.prog=true:=by kernel_rfl
theorem KX:(Tryz.checked.prog.stops==[])=true:=by kernel_rfl
theorem KY:(Tryz.checked.prog.stopKnobs==[])=true:=by kernel_rfl
theorem GQ:Tryz.checked.prog.plainKeys=false:=by kernel_rfl
theorem EQ:Tryz.checked.prog.stopsHeard=true:=by kernel_rfl
end
theorem Iq {e:cN} (h:rM e):(iB e).length<=64:=by
 have:=(uU h).1
 rw[AY];omega
theorem D9: ∀ (es:List cN),(∀ e∈es,rM e)->(bd es).length<=64*es.length
 |[],_=>by simp[bd]
 |e::es,h=>by
  have h1:=Iq (h e (aB ..))
  have h2:=D9 es fun x hx=>h x (ak _ hx)
  have:bd (e::es)=iB e++bd es:=by simp[bd]
  rw[this];simp;omega
theorem ue (es:List cN) (h: ∀ e∈es,rM e):ID (bd es) es (bd es).length:=by
 have:=Ir es [] h Z
 rwa[aY]at this
theorem cF {α:Type} {l:List α} {k:Nat} {e:α} (h:l[k]? =some e): ∃ hk:k<l.length,l[k]=e:=aA.1 h
theorem ua {es:List cN} {k:Nat} {e:cN} (h:es[k]? =some e):bd (es.take (k+1))=bd (es.take k)++iB e:=by
 obtain⟨hk,rfl⟩:=cF h
 exact Ju hk
structure Prod where
 ver:Int
 seq:Int
 open_:Int
 mark:Int
def Prod.c (p:Prod):List Value:=[J p.ver,J p.seq,J p.open_,J p.mark]
def p0:Prod:=⟨0,-1,-1,-1⟩
abbrev IA:TypeId:=188
theorem rV:Fo aa IA cY Gi=true:=by kernel_rfl
def pv (e:cN) (p:Prod):Prod:=if e.ver≠p.ver then⟨e.ver,-1,p.open_,p.mark⟩else p
def fR (i:Nat) (e:cN) (p:Prod):Prod:=
 if e.kind≠1 then⟨(pv e p).ver,(pv e p).seq,-1,i⟩
 else if e.txn=true/\(pv e p).open_<0 then⟨(pv e p).ver,e.seq,i,(pv e p).mark⟩
 else⟨(pv e p).ver,e.seq,(pv e p).open_,(pv e p).mark⟩
def j9 (es:List cN) (pid:Int):Option Prod:=
 es.zipIdx.foldl (fun a q=>if q.1.pid≠0/\q.1.pid=pid then some (fR q.2 q.1 (a.getD p0))else a) none
theorem I2 (pid:Int):j9 [] pid=none:=rfl
theorem zY (es:List cN) (e:cN) (pid:Int):j9 (es++[e]) pid=if e.pid≠0/\e.pid=pid then some (fR es.length e ((j9 es pid).getD p0))else j9 es pid:=by
 unfold j9
 rw[List.zipIdx_append,List.foldl_append]
 simp
theorem fe {α:Type} {l:List α} {k:Nat} {e:α} (h:l[k]? =some e):l.take (k+1)=l.take k++[e]:=by
 obtain⟨hk,rfl⟩:=cF h
 exact js hk
theorem zX {es:List cN} {k:Nat} {e:cN} (h:es[k]? =some e) (pid:Int):j9 (es.take (k+1)) pid=if e.pid≠0/\e.pid=pid then some (fR k e ((j9 (es.take k) pid).getD p0))else j9 (es.take k) pid:=by
 obtain⟨hk,-⟩:=cF h
 rw[fe h,zY,aI,bv I]
abbrev PB:=Int×Nat×Prod
abbrev BG (b:Nat):Value:=.pointer (Qd b)
def rb (S:List PB):List (Int×Value):=S.map fun q=>(q.1,BG q.2.1)
def xL (q:PB):Nat×Obj:=(q.2.1,.cells q.2.2.c.toArray lR (0,0))
def jx (bm:Nat) (S:List PB):List (Nat×Obj):=(bm,tO (rb S))::S.map xL
def uX (S:List PB) (pid:Int):Option Prod:=(S.find? (fun q=>decide (q.1=pid))).map (·.2.2)
theorem uE (S:List PB):(rb S).map (·.1)=S.map (·.1):=by simp[rb]
theorem E4 {S:List PB} {j:Nat} {pid:Int} {b:Nat} {p:Prod} (h:S[j]? =some (pid,b,p)):(rb S)[j]? =some (pid,BG b):=by simp[rb,h]
theorem gy {S:List PB} {j:Nat} {pid:Int} {b:Nat} {p p':Prod} (h:S[j]? =some (pid,b,p)):rb (S.set j (pid,b,p'))=rb S:=by
 unfold rb
 apply eK
 intro i
 rw[aJ,aJ,lE]
 split
 rename_i hij;subst hij
 obtain⟨hlt,hg⟩:=cF h
 simp[hlt,hg]
 rfl
theorem Li {S:List PB} {j:Nat} {pid:Int} {b:Nat} {p p':Prod} (h:S[j]? =some (pid,b,p)):(S.set j (pid,b,p')).map (·.1)=S.map (·.1):=by
 rw[<-uE,gy h,uE]
theorem Ff {S:List PB} {j:Nat} {q:PB} (h:S[j]? =some q):(xL q::(S.eraseIdx j).map xL).Perm (S.map xL):=by
 obtain⟨hlt,rfl⟩:=cF h
 have:=Go.ChangeMaps.set_perm S j hlt S[j]
 rw[List.set_getElem_self]at this
 exact(this.map xL).symm
theorem jb {S:List PB} {j:Nat} {q q':PB} (h:S[j]? =some q):((S.set j q').map xL).Perm (xL q'::(S.eraseIdx j).map xL):=by
 obtain⟨hlt,-⟩:=cF h
 exact(Go.ChangeMaps.set_perm S j hlt q').map xL
theorem CN {S:List PB} {pid:Int} (h: ∀ q∈S,q.1≠pid):uX S pid=none:=by
 unfold uX
 rw[BA.2 (fun q hq=>by simpa using h q hq)];rfl
theorem uI {S:List PB} (hn:(S.map (·.1)).Nodup) {j:Nat} {pid:Int} {b:Nat} {p:Prod} (h:S[j]? =some (pid,b,p)):uX S pid=some p:=by
 unfold uX
 induction S generalizing j with
 |nil=>simp at h
 |cons q r ih=>
  simp only[eJ,kU]at hn
  cases j with
  |zero=>simp at h;subst h;simp
  |succ j=>
   simp only[oO]at h
   have hne: ¬ q.1=pid:=fun e=>hn.1 (bz.2 ⟨_,ae h,e.symm⟩)
   rw[pp (by simpa using hne)]
   exact ih hn.2 h
theorem Ai (S:List PB) (pid:Int):(∀ q∈S,q.1≠pid)∨ ∃ (j b:Nat) (p:Prod),S[j]? =some (pid,b,p):=by
 by_cases h: ∃ q∈S,q.1=pid
 obtain⟨⟨a,b,p⟩,hq,rfl⟩:=h
 obtain⟨j,hj⟩:=aU.1 hq
 exact .inr ⟨j,b,p,hj⟩
 exact .inl fun q hq e=>h ⟨q,hq,e⟩
theorem Ld (S:List PB) (q:PB) {pid:Int} (h:q.1≠pid):uX (S++[q]) pid=uX S pid:=by
 unfold uX
 rw[List.find?_append,pp (by simpa using h)]
 simp
theorem Lc {S:List PB} {j:Nat} {k:Int} {b:Nat} {p p':Prod} (h:S[j]? =some (k,b,p)) {pid:Int} (hp:k≠pid):uX (S.set j (k,b,p')) pid=uX S pid:=by
 unfold uX
 induction S generalizing j with
 |nil=>simp at h
 |cons q r ih=>
  cases j with
  |zero=>
   simp at h;subst h
   simp only[By]
   rw[pp (by simpa using hp),pp (by simpa using hp)]
  |succ j=>
   simp only[oO]at h
   simp only[List.set_cons_succ,List.find?_cons]
   split
   rfl
   exact ih h
def PS (S:List PB) (es:List cN):Prop:=(S.map (·.1)).Nodup/\ ∀ pid,uX S pid=j9 es pid
theorem MS {S:List PB} {es:List cN} {k:Nat} {e:cN} (h:es[k]? =some e) (h0:e.pid=0) (hs:PS S (es.take k)):PS S (es.take (k+1)):=
 ⟨hs.1,fun pid=>by rw[zX h,if_neg (fun x=>x.1 h0)];exact hs.2 pid⟩
theorem kY {S:List PB} {es:List cN} {k j:Nat} {e:cN} {b:Nat} {p:Prod} (h:es[k]? =some e) (h0:e.pid≠0) (hn:(S.map (·.1)).Nodup) (hj:S[j]? =some (e.pid,b,p)) (hp:p=(j9 (es.take k) e.pid).getD p0) (ho: ∀ pid,pid≠e.pid->uX S pid=j9 (es.take k) pid) {p':Prod} (hp':p'=fR k e p):
  PS (S.set j (e.pid,b,p')) (es.take (k+1)):=by
 have hn':((S.set j (e.pid,b,p')).map (·.1)).Nodup:=by rw[Li hj];exact hn
 refine⟨hn',fun pid=> ?_⟩
 rw[zX h]
 by_cases hpid:e.pid=pid
 subst hpid
 obtain⟨hlt,-⟩:=cF hj
 rw[if_pos ⟨h0,rfl⟩,uI hn' (am hlt),hp',<-hp]
 rw[if_neg (fun x=>hpid x.2),Lc hj hpid]
 exact ho pid (Ne.symm hpid)
theorem CE (es:List cN) (A:Option Addr) (c:Nat) (w:World) (hr:Rd gk 0 w.heap.size A es w) (hb:es.length<=1000000):
  dd aa BN [.slice A es.length c] w fun v w2=> ∃ S bm,v=.map (some bm)/\PS S es/\Hp w w2 (jx bm S) []:=by
 refine aF AJ Z Z ?_
 have H:=Hp.startRd hr
 refine W<|Zr<|G (Mf Z)<|U<|W<|Zr<|Qu H Z fun w1 bm H=>G (Mf Z)<|U<|W<|W<|Zr<|G (Ys Z)<|G (bn dM Z)<|G (Yi Z)<|U<|Zb ?_
 refine ce (τ:=Nat×List PB) [4,5,6,10,11,12,13,14,15,16,17,18,19,20,21,22,23,24,25,26,27,28,29,30,31,32,33,34,35,36,37,38,39,40,41,42,43,44,45,46,47,48,49,50,51,52,53,54,55,56,57,58,59,60,61,62,63,64,65,66,67,68,69,70,71,72,73,74] (fun(k,S)=>[(10,J (k:Nat))]) (fun(k,S) w'=>k<=es.length/\PS S (es.take k)/\Hp w w' (jx bm S) [dA gk 0 w.heap.size A es]) (fun(k,_)=>es.length-k) (0,[]) ⟨by omega,⟨List.nodup_nil,fun pid=>rfl⟩,H⟩ (dK Z) ?_
 rintro⟨k,S⟩ ρ1 w2 ⟨hk,hS,H⟩
 show CW _ _ _ _ (dB (gJ _ _ ρ1) [(10,J (k:Nat))]) w2
 refine W<|Zr ?_
 refine cU (cG Z Z) Z Z Z (fun h11=> ?_) (fun h11=> ?_)
 ·
  refine U<|W<|ZT Z<|Zk<|W<|Zb<|W<|Zr<|G (Yi Z)<|pI H 0 Z dg Z Z I I Z fun b3 o3 x3 e3=>G (iw (xs:=cN.c x3) dw Z Z e3.cl)<|ey H gi Z fun w4 b5 H=>G (Wi Z)<|Kr H 0 eS Z Z Z Z Z Z fun w5 H=>U<|W<|W<|Zr<|G (Zf fg Z)<|G (Zd aj H 0 Z Z Z) ?_
  refine cU (bl Z Z) Z Z Z (fun h17=> ?_) (fun h17=> ?_)
  ·
   refine U<|ZT Z<|Zx<|Zr<|G (bu Z Z I I)<|G (Yi Z)<|U ?_
   refine⟨(k+1,S),⟨by have:=(cF e3.at_).1;omega,MS e3.at_ h17 hS,H.forget (aX _ _) (fun _ h=>h)⟩,dK Z,Qg,by show es.length- (k+1)<es.length-k;omega⟩
  ·
   refine U<|ZF Z<|Zk<|W<|Zr<|G (K6 Z)<|G (Zf fg Z)<|G (Zd aj H 0 Z Z Z) ?_
   rcases Ai S x3.pid with hno|⟨j,b,p,hj⟩
   ·
    refine G (NW rV qH Z Z (H.ent (i:=1) Z) (by intro q hq;obtain⟨a,ha,rfl⟩:=bz.1 hq;exact hno a ha))<|G (Wp Z)<|U<|W ?_
    refine eD (τ:=List PB×Nat×Nat×Prod) [6,22,23,24,25,26,27,28,29] (fun(S1,j,b,p)=>[(6,BG b)]) (fun(S1,j,b,p) w'=>(S1.map (·.1)).Nodup/\S1[j]? =some (x3.pid,b,p)/\p=(j9 (es.take k) x3.pid).getD p0/\(∀ pid,pid≠x3.pid->uX S1 pid=j9 (es.take k) pid)/\Hp w w' ((b,.cells p.c.toArray lR (0,0))::(b5,.cells (cN.c x3).toArray cZ (0,0))::(bm,tO (rb S1))::(S1.eraseIdx j).map xL) [dA gk 0 w.heap.size A es]) ?_ ?_
    ·skip
     refine W<|Zr<|G (Yp Z)<|G (xK nX Z)<|U<|ZT Z<|W<|Zr<|G (bi (cs:=(Prod.c p0).toArray) yw zz N)<|fX H Z Z fun w6 b25 H=>G (Wp Z)<|U<|Zr<|G (K6 Z)<|G (Zf fg Z)<|G (Zd aj H 1 Z Z Z)<|G (Yp Z)<|Qs H 2 rV Z Z Z Z (by intro q hq;obtain⟨a,ha,rfl⟩:=bz.1 hq;exact hno a ha) fun w7 H=>U ?_
     have hj:(S++[(x3.pid,b25,p0)])[S.length]? =some (x3.pid,b25,p0):=by simp
     have hkn:uX S x3.pid=none:=CN hno
     rw[hS.2]at hkn
     refine⟨(S++[(x3.pid,b25,p0)],S.length,b25,p0),⟨?_,hj,by rw[hkn];rfl,fun pid hpid=>by rw[Ld _ _ (Ne.symm hpid)];exact hS.2 pid,?_⟩,dK Z,Qg⟩
     ·rw[bj];exact pj.2 ⟨hS.1,by simp,by intro a ha c hc;simp at hc;subst hc;obtain⟨q,hq,rfl⟩:=bz.1 ha;exact hno q hq⟩
     ·have hmm:rb (S++[(x3.pid,b25,p0)])=rb S++[(x3.pid,BG b25)]:=by simp[rb]
      have hee:(S++[(x3.pid,b25,p0)]).eraseIdx S.length=S:=by rw[List.eraseIdx_append_of_length_le (ao _)];simp
      rw[hmm,hee];exact H
    rintro⟨S1,j,b,p⟩ ρ2 w8 ⟨hn,hj,hp,ho,H⟩
    show CW _ _ _ _ (dB (gJ _ _ ρ2) [(6,BG b)]) w8
    refine W<|W ?_
    refine bB bY [0,1,2,3,4,5,6] [] [] [0,2,3,4,6] (sp []) N N N N Nq (cH _) ?_
    refine aw Z Z Z Z Z (fun w' hw'=>Zf eC Z)<|aw Z Z Z Z Z (fun w' hw'=>aV aj Z (aC ((H.later hw').ent (i:=1) Z) Z))<|aw Z Z Z Z Z (fun w' hw'=>Yp Z)<|aw Z Z Z Z Z (fun w' hw'=>aK Z)<|aw Z Z Z Z Z (fun w' hw'=>Zf jQ Z)<|aw Z Z Z Z Z (fun w' hw'=>aV aj Z (aC ((H.later hw').ent (i:=0) Z) Z)) ?_
    refine OM Z Z Z Z Z (fun w' hw'=>i7 Z Z) (fun h36=> ?_) (fun h36=> ?_)
    ·
     refine aT ?_
     intro w9 hw' hF
     replace H:=H.later hw';clear hw' hF
     refine U<|ZT Z<|Zr<|G (Yp Z)<|G (Yp Z)<|G (Zf eC Z)<|G (Zd aj H 1 Z Z Z)<|G (aK Z)<|G (Zf jQ Z)<|bk H 0 ((Prod.c ⟨x3.ver,p.seq,p.open_,p.mark⟩).toArray) bK Z Z Z Z Z N N fun w10 H=>G (aK Z)<|G (Zf fk Z)<|bk H 0 ((Prod.c ⟨x3.ver,-1,p.open_,p.mark⟩).toArray) bK Z Z Z Z Z N N fun w11 H=>U<|Zb<|W<|Zr<|G (Zf eZ Z)<|G (Zd aj H 1 Z Z Z) ?_
     refine rg (i7 Z Z) Z Z Z (fun h66=> ?_) (fun h66=> ?_)
     ·
      refine G (Wb Z)<|U<|ZT Z<|Zr<|G (Yp Z)<|G (Yp Z)<|G (Yi Z)<|G (aK Z)<|G (Zf d5 Z)<|bk H 0 ((Prod.c ⟨x3.ver,-1,-1,p.mark⟩).toArray) bK Z Z Z Z Z N N fun w12 H=>G (aK Z)<|G (Zf ia Z)<|bk H 0 ((Prod.c ⟨x3.ver,-1,-1,k⟩).toArray) bK Z Z Z Z Z N N fun w13 H=>U<|Zr<|G (bu Z Z I I)<|G (Yi Z)<|U ?_
      have hst:(⟨x3.ver,-1,-1,k⟩:Prod)=fR k x3 p:=by
       simp[fR,pv,h36,h66]
      have hP:=jb (q':=(x3.pid,b,(⟨x3.ver,-1,-1,k⟩:Prod))) hj
      refine⟨(k+1,S1.set j (x3.pid,b,(⟨x3.ver,-1,-1,k⟩:Prod))),⟨by omega,kY e3.at_ h17 hn hj hp ho hst,(H.perm (L':=(b5,_)::jx bm (S1.set j (x3.pid,b,_))) (by unfold jx;rw[gy hj];exact((hP.cons _).cons _).trans (((al _ _ _).cons _).trans (al _ _ _)))).forget (aX _ _) (fun _ h=>h)⟩,dK Z,Qg,by show es.length- (k+1)<es.length-k;omega⟩
     ·
      refine G (Wb Z)<|U<|ZF Z<|W<|Zr<|G (Yp Z)<|G (Zf fa Z)<|G (Zd aj H 1 Z Z Z)<|G (aK Z)<|G (Zf fk Z)<|bk H 0 ((Prod.c ⟨x3.ver,x3.seq,p.open_,p.mark⟩).toArray) bK Z Z Z Z Z N N fun w14 H=>U<|W<|Zr<|G (Zf iZ Z) ?_
      refine wq (aV dT Z (aC (H.ent (i:=1) Z) Z)) Z Z Z (fun h51=> ?_) (fun h51=> ?_)
      ·
       refine G (Yb Z)<|ZG<|G (Yp Z)<|ZG<|G (aK Z)<|ZG<|G (Zf d5 Z)<|ZG<|G (Zd aj H 0 Z Z Z)<|ZG ?_
       refine cU (cG Z Z) Z Z Z (fun h57=> ?_) (fun h57=> ?_)
       ·
        refine G (Kt Z Z)<|U<|ZT Z<|Zr<|G (Yp Z)<|G (Yi Z)<|G (aK Z)<|G (Zf d5 Z)<|bk H 0 ((Prod.c ⟨x3.ver,x3.seq,k,p.mark⟩).toArray) bK Z Z Z Z Z N N fun w15 H=>U<|Zr<|G (bu Z Z I I)<|G (Yi Z)<|U ?_
        replace h57:p.open_<0:=h57
        have hst:(⟨x3.ver,x3.seq,k,p.mark⟩:Prod)=fR k x3 p:=by
         simp[fR,pv,h36,h66,h51,h57]
        have hP:=jb (q':=(x3.pid,b,(⟨x3.ver,x3.seq,k,p.mark⟩:Prod))) hj
        refine⟨(k+1,S1.set j (x3.pid,b,(⟨x3.ver,x3.seq,k,p.mark⟩:Prod))),⟨by omega,kY e3.at_ h17 hn hj hp ho hst,(H.perm (L':=(b5,_)::jx bm (S1.set j (x3.pid,b,_))) (by unfold jx;rw[gy hj];exact((hP.cons _).cons _).trans (((al _ _ _).cons _).trans (al _ _ _)))).forget (aX _ _) (fun _ h=>h)⟩,dK Z,Qg,by show es.length- (k+1)<es.length-k;omega⟩
       ·
        refine G (Kt Z Z)<|U<|ZF Z<|Zk<|Zr<|G (bu Z Z I I)<|G (Yi Z)<|U ?_
        replace h57: ¬ p.open_<0:=h57
        have hst:(⟨x3.ver,x3.seq,p.open_,p.mark⟩:Prod)=fR k x3 p:=by
         simp[fR,pv,h36,h66,h51,h57]
        have hP:=jb (q':=(x3.pid,b,(⟨x3.ver,x3.seq,p.open_,p.mark⟩:Prod))) hj
        refine⟨(k+1,S1.set j (x3.pid,b,(⟨x3.ver,x3.seq,p.open_,p.mark⟩:Prod))),⟨by omega,kY e3.at_ h17 hn hj hp ho hst,(H.perm (L':=(b5,_)::jx bm (S1.set j (x3.pid,b,_))) (by unfold jx;rw[gy hj];exact((hP.cons _).cons _).trans (((al _ _ _).cons _).trans (al _ _ _)))).forget (aX _ _) (fun _ h=>h)⟩,dK Z,Qg,by show es.length- (k+1)<es.length-k;omega⟩
      ·
       refine G (Yb Z)<|ZN<|ZN<|ZN<|ZN<|ZN<|G (N Z Z)<|U<|ZF Z<|Zk<|Zr<|G (bu Z Z I I)<|G (Yi Z)<|U ?_
       have hst:(⟨x3.ver,x3.seq,p.open_,p.mark⟩:Prod)=fR k x3 p:=by
        simp[fR,pv,h36,h66,h51]
       have hP:=jb (q':=(x3.pid,b,(⟨x3.ver,x3.seq,p.open_,p.mark⟩:Prod))) hj
       refine⟨(k+1,S1.set j (x3.pid,b,(⟨x3.ver,x3.seq,p.open_,p.mark⟩:Prod))),⟨by omega,kY e3.at_ h17 hn hj hp ho hst,(H.perm (L':=(b5,_)::jx bm (S1.set j (x3.pid,b,_))) (by unfold jx;rw[gy hj];exact((hP.cons _).cons _).trans (((al _ _ _).cons _).trans (al _ _ _)))).forget (aX _ _) (fun _ h=>h)⟩,dK Z,Qg,by show es.length- (k+1)<es.length-k;omega⟩
    ·
     refine aT ?_
     intro w16 hw' hF
     replace H:=H.later hw';clear hw' hF
     refine U<|ZF Z<|Zk<|Zb<|W<|Zr<|G (Zf eZ Z)<|G (Zd aj H 1 Z Z Z) ?_
     refine rg (i7 Z Z) Z Z Z (fun h66=> ?_) (fun h66=> ?_)
     ·
      refine G (Wb Z)<|U<|ZT Z<|Zr<|G (Yp Z)<|G (Yp Z)<|G (Yi Z)<|G (aK Z)<|G (Zf d5 Z)<|bk H 0 ((Prod.c ⟨p.ver,p.seq,-1,p.mark⟩).toArray) bK Z Z Z Z Z N N fun w17 H=>G (aK Z)<|G (Zf ia Z)<|bk H 0 ((Prod.c ⟨p.ver,p.seq,-1,k⟩).toArray) bK Z Z Z Z Z N N fun w18 H=>U<|Zr<|G (bu Z Z I I)<|G (Yi Z)<|U ?_
      have hst:(⟨p.ver,p.seq,-1,k⟩:Prod)=fR k x3 p:=by
       simp[fR,pv,h36,h66]
      have hP:=jb (q':=(x3.pid,b,(⟨p.ver,p.seq,-1,k⟩:Prod))) hj
      refine⟨(k+1,S1.set j (x3.pid,b,(⟨p.ver,p.seq,-1,k⟩:Prod))),⟨by omega,kY e3.at_ h17 hn hj hp ho hst,(H.perm (L':=(b5,_)::jx bm (S1.set j (x3.pid,b,_))) (by unfold jx;rw[gy hj];exact((hP.cons _).cons _).trans (((al _ _ _).cons _).trans (al _ _ _)))).forget (aX _ _) (fun _ h=>h)⟩,dK Z,Qg,by show es.length- (k+1)<es.length-k;omega⟩
     ·
      refine G (Wb Z)<|U<|ZF Z<|W<|Zr<|G (Yp Z)<|G (Zf fa Z)<|G (Zd aj H 1 Z Z Z)<|G (aK Z)<|G (Zf fk Z)<|bk H 0 ((Prod.c ⟨p.ver,x3.seq,p.open_,p.mark⟩).toArray) bK Z Z Z Z Z N N fun w19 H=>U<|W<|Zr<|G (Zf iZ Z) ?_
      refine wq (aV dT Z (aC (H.ent (i:=1) Z) Z)) Z Z Z (fun h51=> ?_) (fun h51=> ?_)
      ·
       refine G (Yb Z)<|ZG<|G (Yp Z)<|ZG<|G (aK Z)<|ZG<|G (Zf d5 Z)<|ZG<|G (Zd aj H 0 Z Z Z)<|ZG ?_
       refine cU (cG Z Z) Z Z Z (fun h57=> ?_) (fun h57=> ?_)
       ·
        refine G (Kt Z Z)<|U<|ZT Z<|Zr<|G (Yp Z)<|G (Yi Z)<|G (aK Z)<|G (Zf d5 Z)<|bk H 0 ((Prod.c ⟨p.ver,x3.seq,k,p.mark⟩).toArray) bK Z Z Z Z Z N N fun w20 H=>U<|Zr<|G (bu Z Z I I)<|G (Yi Z)<|U ?_
        replace h57:p.open_<0:=h57
        have hst:(⟨p.ver,x3.seq,k,p.mark⟩:Prod)=fR k x3 p:=by
         simp[fR,pv,h36,h66,h51,h57]
        have hP:=jb (q':=(x3.pid,b,(⟨p.ver,x3.seq,k,p.mark⟩:Prod))) hj
        refine⟨(k+1,S1.set j (x3.pid,b,(⟨p.ver,x3.seq,k,p.mark⟩:Prod))),⟨by omega,kY e3.at_ h17 hn hj hp ho hst,(H.perm (L':=(b5,_)::jx bm (S1.set j (x3.pid,b,_))) (by unfold jx;rw[gy hj];exact((hP.cons _).cons _).trans (((al _ _ _).cons _).trans (al _ _ _)))).forget (aX _ _) (fun _ h=>h)⟩,dK Z,Qg,by show es.length- (k+1)<es.length-k;omega⟩
       ·
        refine G (Kt Z Z)<|U<|ZF Z<|Zk<|Zr<|G (bu Z Z I I)<|G (Yi Z)<|U ?_
        replace h57: ¬ p.open_<0:=h57
        have hst:(⟨p.ver,x3.seq,p.open_,p.mark⟩:Prod)=fR k x3 p:=by
         simp[fR,pv,h36,h66,h51,h57]
        have hP:=jb (q':=(x3.pid,b,(⟨p.ver,x3.seq,p.open_,p.mark⟩:Prod))) hj
        refine⟨(k+1,S1.set j (x3.pid,b,(⟨p.ver,x3.seq,p.open_,p.mark⟩:Prod))),⟨by omega,kY e3.at_ h17 hn hj hp ho hst,(H.perm (L':=(b5,_)::jx bm (S1.set j (x3.pid,b,_))) (by unfold jx;rw[gy hj];exact((hP.cons _).cons _).trans (((al _ _ _).cons _).trans (al _ _ _)))).forget (aX _ _) (fun _ h=>h)⟩,dK Z,Qg,by show es.length- (k+1)<es.length-k;omega⟩
      ·
       refine G (Yb Z)<|ZN<|ZN<|ZN<|ZN<|ZN<|G (N Z Z)<|U<|ZF Z<|Zk<|Zr<|G (bu Z Z I I)<|G (Yi Z)<|U ?_
       have hst:(⟨p.ver,x3.seq,p.open_,p.mark⟩:Prod)=fR k x3 p:=by
        simp[fR,pv,h36,h66,h51]
       have hP:=jb (q':=(x3.pid,b,(⟨p.ver,x3.seq,p.open_,p.mark⟩:Prod))) hj
       refine⟨(k+1,S1.set j (x3.pid,b,(⟨p.ver,x3.seq,p.open_,p.mark⟩:Prod))),⟨by omega,kY e3.at_ h17 hn hj hp ho hst,(H.perm (L':=(b5,_)::jx bm (S1.set j (x3.pid,b,_))) (by unfold jx;rw[gy hj];exact((hP.cons _).cons _).trans (((al _ _ _).cons _).trans (al _ _ _)))).forget (aX _ _) (fun _ h=>h)⟩,dK Z,Qg,by show es.length- (k+1)<es.length-k;omega⟩
   ·
    refine G (NV rV qH Z Z (H.ent (i:=1) Z) (by rw[uE];exact hS.1) (E4 hj))<|G (Wp Z)<|U<|W ?_
    refine eD (τ:=List PB×Nat×Nat×Prod) [6,22,23,24,25,26,27,28,29] (fun(S1,j,b,p)=>[(6,BG b)]) (fun(S1,j,b,p) w'=>(S1.map (·.1)).Nodup/\S1[j]? =some (x3.pid,b,p)/\p=(j9 (es.take k) x3.pid).getD p0/\(∀ pid,pid≠x3.pid->uX S1 pid=j9 (es.take k) pid)/\Hp w w' ((b,.cells p.c.toArray lR (0,0))::(b5,.cells (cN.c x3).toArray cZ (0,0))::(bm,tO (rb S1))::(S1.eraseIdx j).map xL) [dA gk 0 w.heap.size A es]) ?_ ?_
    ·skip
     refine W<|Zr<|G (Yp Z)<|G (vT nX Z)<|U<|ZF Z<|Zk ?_
     refine⟨(S,j,b,p),⟨hS.1,hj,by rw[<-hS.2,uI hS.1 hj];rfl,fun pid _=>hS.2 pid,H.perm ?_⟩,dK Z,Qg⟩
     have hP:=Ff hj
     exact((al _ _ _).trans ((al _ _ _).cons _)).trans ((hP.cons _).cons _)
    rintro⟨S1,j,b,p⟩ ρ2 w21 ⟨hn,hj,hp,ho,H⟩
    show CW _ _ _ _ (dB (gJ _ _ ρ2) [(6,BG b)]) w21
    refine W<|W ?_
    refine bB bY [0,1,2,3,4,5,6] [] [] [0,2,3,4,6] (sp []) N N N N Nq (cH _) ?_
    refine aw Z Z Z Z Z (fun w' hw'=>Zf eC Z)<|aw Z Z Z Z Z (fun w' hw'=>aV aj Z (aC ((H.later hw').ent (i:=1) Z) Z))<|aw Z Z Z Z Z (fun w' hw'=>Yp Z)<|aw Z Z Z Z Z (fun w' hw'=>aK Z)<|aw Z Z Z Z Z (fun w' hw'=>Zf jQ Z)<|aw Z Z Z Z Z (fun w' hw'=>aV aj Z (aC ((H.later hw').ent (i:=0) Z) Z)) ?_
    refine OM Z Z Z Z Z (fun w' hw'=>i7 Z Z) (fun h36=> ?_) (fun h36=> ?_)
    ·
     refine aT ?_
     intro w22 hw' hF
     replace H:=H.later hw';clear hw' hF
     refine U<|ZT Z<|Zr<|G (Yp Z)<|G (Yp Z)<|G (Zf eC Z)<|G (Zd aj H 1 Z Z Z)<|G (aK Z)<|G (Zf jQ Z)<|bk H 0 ((Prod.c ⟨x3.ver,p.seq,p.open_,p.mark⟩).toArray) bK Z Z Z Z Z N N fun w23 H=>G (aK Z)<|G (Zf fk Z)<|bk H 0 ((Prod.c ⟨x3.ver,-1,p.open_,p.mark⟩).toArray) bK Z Z Z Z Z N N fun w24 H=>U<|Zb<|W<|Zr<|G (Zf eZ Z)<|G (Zd aj H 1 Z Z Z) ?_
     refine rg (i7 Z Z) Z Z Z (fun h66=> ?_) (fun h66=> ?_)
     ·
      refine G (Wb Z)<|U<|ZT Z<|Zr<|G (Yp Z)<|G (Yp Z)<|G (Yi Z)<|G (aK Z)<|G (Zf d5 Z)<|bk H 0 ((Prod.c ⟨x3.ver,-1,-1,p.mark⟩).toArray) bK Z Z Z Z Z N N fun w25 H=>G (aK Z)<|G (Zf ia Z)<|bk H 0 ((Prod.c ⟨x3.ver,-1,-1,k⟩).toArray) bK Z Z Z Z Z N N fun w26 H=>U<|Zr<|G (bu Z Z I I)<|G (Yi Z)<|U ?_
      have hst:(⟨x3.ver,-1,-1,k⟩:Prod)=fR k x3 p:=by
       simp[fR,pv,h36,h66]
      have hP:=jb (q':=(x3.pid,b,(⟨x3.ver,-1,-1,k⟩:Prod))) hj
      refine⟨(k+1,S1.set j (x3.pid,b,(⟨x3.ver,-1,-1,k⟩:Prod))),⟨by omega,kY e3.at_ h17 hn hj hp ho hst,(H.perm (L':=(b5,_)::jx bm (S1.set j (x3.pid,b,_))) (by unfold jx;rw[gy hj];exact((hP.cons _).cons _).trans (((al _ _ _).cons _).trans (al _ _ _)))).forget (aX _ _) (fun _ h=>h)⟩,dK Z,Qg,by show es.length- (k+1)<es.length-k;omega⟩
     ·
      refine G (Wb Z)<|U<|ZF Z<|W<|Zr<|G (Yp Z)<|G (Zf fa Z)<|G (Zd aj H 1 Z Z Z)<|G (aK Z)<|G (Zf fk Z)<|bk H 0 ((Prod.c ⟨x3.ver,x3.seq,p.open_,p.mark⟩).toArray) bK Z Z Z Z Z N N fun w27 H=>U<|W<|Zr<|G (Zf iZ Z) ?_
      refine wq (aV dT Z (aC (H.ent (i:=1) Z) Z)) Z Z Z (fun h51=> ?_) (fun h51=> ?_)
      ·
       refine G (Yb Z)<|ZG<|G (Yp Z)<|ZG<|G (aK Z)<|ZG<|G (Zf d5 Z)<|ZG<|G (Zd aj H 0 Z Z Z)<|ZG ?_
       refine cU (cG Z Z) Z Z Z (fun h57=> ?_) (fun h57=> ?_)
       ·
        refine G (Kt Z Z)<|U<|ZT Z<|Zr<|G (Yp Z)<|G (Yi Z)<|G (aK Z)<|G (Zf d5 Z)<|bk H 0 ((Prod.c ⟨x3.ver,x3.seq,k,p.mark⟩).toArray) bK Z Z Z Z Z N N fun w28 H=>U<|Zr<|G (bu Z Z I I)<|G (Yi Z)<|U ?_
        replace h57:p.open_<0:=h57
        have hst:(⟨x3.ver,x3.seq,k,p.mark⟩:Prod)=fR k x3 p:=by
         simp[fR,pv,h36,h66,h51,h57]
        have hP:=jb (q':=(x3.pid,b,(⟨x3.ver,x3.seq,k,p.mark⟩:Prod))) hj
        refine⟨(k+1,S1.set j (x3.pid,b,(⟨x3.ver,x3.seq,k,p.mark⟩:Prod))),⟨by omega,kY e3.at_ h17 hn hj hp ho hst,(H.perm (L':=(b5,_)::jx bm (S1.set j (x3.pid,b,_))) (by unfold jx;rw[gy hj];exact((hP.cons _).cons _).trans (((al _ _ _).cons _).trans (al _ _ _)))).forget (aX _ _) (fun _ h=>h)⟩,dK Z,Qg,by show es.length- (k+1)<es.length-k;omega⟩
       ·
        refine G (Kt Z Z)<|U<|ZF Z<|Zk<|Zr<|G (bu Z Z I I)<|G (Yi Z)<|U ?_
        replace h57: ¬ p.open_<0:=h57
        have hst:(⟨x3.ver,x3.seq,p.open_,p.mark⟩:Prod)=fR k x3 p:=by
         simp[fR,pv,h36,h66,h51,h57]
        have hP:=jb (q':=(x3.pid,b,(⟨x3.ver,x3.seq,p.open_,p.mark⟩:Prod))) hj
        refine⟨(k+1,S1.set j (x3.pid,b,(⟨x3.ver,x3.seq,p.open_,p.mark⟩:Prod))),⟨by omega,kY e3.at_ h17 hn hj hp ho hst,(H.perm (L':=(b5,_)::jx bm (S1.set j (x3.pid,b,_))) (by unfold jx;rw[gy hj];exact((hP.cons _).cons _).trans (((al _ _ _).cons _).trans (al _ _ _)))).forget (aX _ _) (fun _ h=>h)⟩,dK Z,Qg,by show es.length- (k+1)<es.length-k;omega⟩
      ·
       refine G (Yb Z)<|ZN<|ZN<|ZN<|ZN<|ZN<|G (N Z Z)<|U<|ZF Z<|Zk<|Zr<|G (bu Z Z I I)<|G (Yi Z)<|U ?_
       have hst:(⟨x3.ver,x3.seq,p.open_,p.mark⟩:Prod)=fR k x3 p:=by
        simp[fR,pv,h36,h66,h51]
       have hP:=jb (q':=(x3.pid,b,(⟨x3.ver,x3.seq,p.open_,p.mark⟩:Prod))) hj
       refine⟨(k+1,S1.set j (x3.pid,b,(⟨x3.ver,x3.seq,p.open_,p.mark⟩:Prod))),⟨by omega,kY e3.at_ h17 hn hj hp ho hst,(H.perm (L':=(b5,_)::jx bm (S1.set j (x3.pid,b,_))) (by unfold jx;rw[gy hj];exact((hP.cons _).cons _).trans (((al _ _ _).cons _).trans (al _ _ _)))).forget (aX _ _) (fun _ h=>h)⟩,dK Z,Qg,by show es.length- (k+1)<es.length-k;omega⟩
    ·
     refine aT ?_
     intro w29 hw' hF
     replace H:=H.later hw';clear hw' hF
     refine U<|ZF Z<|Zk<|Zb<|W<|Zr<|G (Zf eZ Z)<|G (Zd aj H 1 Z Z Z) ?_
     refine rg (i7 Z Z) Z Z Z (fun h66=> ?_) (fun h66=> ?_)
     ·
      refine G (Wb Z)<|U<|ZT Z<|Zr<|G (Yp Z)<|G (Yp Z)<|G (Yi Z)<|G (aK Z)<|G (Zf d5 Z)<|bk H 0 ((Prod.c ⟨p.ver,p.seq,-1,p.mark⟩).toArray) bK Z Z Z Z Z N N fun w30 H=>G (aK Z)<|G (Zf ia Z)<|bk H 0 ((Prod.c ⟨p.ver,p.seq,-1,k⟩).toArray) bK Z Z Z Z Z N N fun w31 H=>U<|Zr<|G (bu Z Z I I)<|G (Yi Z)<|U ?_
      have hst:(⟨p.ver,p.seq,-1,k⟩:Prod)=fR k x3 p:=by
       simp[fR,pv,h36,h66]
      have hP:=jb (q':=(x3.pid,b,(⟨p.ver,p.seq,-1,k⟩:Prod))) hj
      refine⟨(k+1,S1.set j (x3.pid,b,(⟨p.ver,p.seq,-1,k⟩:Prod))),⟨by omega,kY e3.at_ h17 hn hj hp ho hst,(H.perm (L':=(b5,_)::jx bm (S1.set j (x3.pid,b,_))) (by unfold jx;rw[gy hj];exact((hP.cons _).cons _).trans (((al _ _ _).cons _).trans (al _ _ _)))).forget (aX _ _) (fun _ h=>h)⟩,dK Z,Qg,by show es.length- (k+1)<es.length-k;omega⟩
     ·
      refine G (Wb Z)<|U<|ZF Z<|W<|Zr<|G (Yp Z)<|G (Zf fa Z)<|G (Zd aj H 1 Z Z Z)<|G (aK Z)<|G (Zf fk Z)<|bk H 0 ((Prod.c ⟨p.ver,x3.seq,p.open_,p.mark⟩).toArray) bK Z Z Z Z Z N N fun w32 H=>U<|W<|Zr<|G (Zf iZ Z) ?_
      refine wq (aV dT Z (aC (H.ent (i:=1) Z) Z)) Z Z Z (fun h51=> ?_) (fun h51=> ?_)
      ·
       refine G (Yb Z)<|ZG<|G (Yp Z)<|ZG<|G (aK Z)<|ZG<|G (Zf d5 Z)<|ZG<|G (Zd aj H 0 Z Z Z)<|ZG ?_
       refine cU (cG Z Z) Z Z Z (fun h57=> ?_) (fun h57=> ?_)
       ·
        refine G (Kt Z Z)<|U<|ZT Z<|Zr<|G (Yp Z)<|G (Yi Z)<|G (aK Z)<|G (Zf d5 Z)<|bk H 0 ((Prod.c ⟨p.ver,x3.seq,k,p.mark⟩).toArray) bK Z Z Z Z Z N N fun w33 H=>U<|Zr<|G (bu Z Z I I)<|G (Yi Z)<|U ?_
        replace h57:p.open_<0:=h57
        have hst:(⟨p.ver,x3.seq,k,p.mark⟩:Prod)=fR k x3 p:=by
         simp[fR,pv,h36,h66,h51,h57]
        have hP:=jb (q':=(x3.pid,b,(⟨p.ver,x3.seq,k,p.mark⟩:Prod))) hj
        refine⟨(k+1,S1.set j (x3.pid,b,(⟨p.ver,x3.seq,k,p.mark⟩:Prod))),⟨by omega,kY e3.at_ h17 hn hj hp ho hst,(H.perm (L':=(b5,_)::jx bm (S1.set j (x3.pid,b,_))) (by unfold jx;rw[gy hj];exact((hP.cons _).cons _).trans (((al _ _ _).cons _).trans (al _ _ _)))).forget (aX _ _) (fun _ h=>h)⟩,dK Z,Qg,by show es.length- (k+1)<es.length-k;omega⟩
       ·
        refine G (Kt Z Z)<|U<|ZF Z<|Zk<|Zr<|G (bu Z Z I I)<|G (Yi Z)<|U ?_
        replace h57: ¬ p.open_<0:=h57
        have hst:(⟨p.ver,x3.seq,p.open_,p.mark⟩:Prod)=fR k x3 p:=by
         simp[fR,pv,h36,h66,h51,h57]
        have hP:=jb (q':=(x3.pid,b,(⟨p.ver,x3.seq,p.open_,p.mark⟩:Prod))) hj
        refine⟨(k+1,S1.set j (x3.pid,b,(⟨p.ver,x3.seq,p.open_,p.mark⟩:Prod))),⟨by omega,kY e3.at_ h17 hn hj hp ho hst,(H.perm (L':=(b5,_)::jx bm (S1.set j (x3.pid,b,_))) (by unfold jx;rw[gy hj];exact((hP.cons _).cons _).trans (((al _ _ _).cons _).trans (al _ _ _)))).forget (aX _ _) (fun _ h=>h)⟩,dK Z,Qg,by show es.length- (k+1)<es.length-k;omega⟩
      ·
       refine G (Yb Z)<|ZN<|ZN<|ZN<|ZN<|ZN<|G (N Z Z)<|U<|ZF Z<|Zk<|Zr<|G (bu Z Z I I)<|G (Yi Z)<|U ?_
       have hst:(⟨p.ver,x3.seq,p.open_,p.mark⟩:Prod)=fR k x3 p:=by
        simp[fR,pv,h36,h66,h51]
       have hP:=jb (q':=(x3.pid,b,(⟨p.ver,x3.seq,p.open_,p.mark⟩:Prod))) hj
       refine⟨(k+1,S1.set j (x3.pid,b,(⟨p.ver,x3.seq,p.open_,p.mark⟩:Prod))),⟨by omega,kY e3.at_ h17 hn hj hp ho hst,(H.perm (L':=(b5,_)::jx bm (S1.set j (x3.pid,b,_))) (by unfold jx;rw[gy hj];exact((hP.cons _).cons _).trans (((al _ _ _).cons _).trans (al _ _ _)))).forget (aX _ _) (fun _ h=>h)⟩,dK Z,Qg,by show es.length- (k+1)<es.length-k;omega⟩
 ·
  refine U<|W<|ZF Z<|Zx<|W<|Zr<|G (K6 Z)<|G (Mf Z)<|U<|Zt ?_
  have hke:k=es.length:=by omega
  subst hke
  rw[bL]at hS
  exact cy (v:=.map (some bm)) Z Z ⟨S,bm,rfl,hS,H.forget (ap _) (by simp)⟩
/-- an entry of a transaction that has no end yet -/
def nu (es:List cN) (k:Nat) (pid:Int):Prop:= ∃ e,es[k]? =some e/\e.kind=1/\e.txn=true/\e.pid=pid/\pid≠0/\ ∀ j f,k<j->es[j]? =some f->f.pid=pid->f.kind=1
theorem lU {es:List cN} {x:cN} {k:Nat} {pid:Int}:nu (es++[x]) k pid↔(k<es.length/\nu es k pid/\(x.pid=pid->x.kind=1))∨(k=es.length/\x.kind=1/\x.txn=true/\x.pid=pid/\pid≠0):=by
 constructor
 rintro⟨e,h1,h2,h3,h4,h5,h6⟩
 have hk:=(aA.1 h1).1
 simp at hk
 by_cases hkl:k<es.length
 left
 rw[cj hkl]at h1
 refine⟨hkl,⟨e,h1,h2,h3,h4,h5,fun j f hj hf hp=>h6 j f hj (by rw[cj (aA.1 hf).1];exact hf) hp⟩,fun hp=>h6 es.length x hkl (by simp) hp⟩
 right
 have:k=es.length:=by omega
 subst this
 simp at h1
 subst h1
 exact⟨rfl,h2,h3,h4,h5⟩
 rintro(⟨hk,⟨e,h1,h2,h3,h4,h5,h6⟩,hx⟩|⟨rfl,h2,h3,h4,h5⟩)
 refine⟨e,by rw[cj hk];exact h1,h2,h3,h4,h5,fun j f hj hf hp=> ?_⟩
 by_cases hjl:j<es.length
 rw[cj hjl]at hf;exact h6 j f hj hf hp
 have hj2:=(aA.1 hf).1
 simp at hj2
 have:j=es.length:=by omega
 subst this
 simp at hf
 subst hf
 exact hx hp
 refine⟨x,by simp,h2,h3,h4,h5,fun j f hj hf _=> ?_⟩
 have hj2:=(aA.1 hf).1
 simp at hj2
 omega
structure JZ (es:List cN) (pid:Int) (p:Prod):Prop where
 opn:p.open_= -1∨ ∃ k:Nat,p.open_=k/\nu es k pid
 least: ∀ k,nu es k pid->0<=p.open_/\p.open_<=k
 mark:p.mark= -1∨ ∃ (k:Nat) (e:cN),p.mark=k/\es[k]? =some e/\e.pid=pid/\e.kind≠1
 seq:p.seq= -1∨ ∃ e∈es,e.pid=pid/\e.kind=1/\p.seq=e.seq/\p.ver=e.ver
 ver: ∃ e∈es,e.pid=pid/\p.ver=e.ver
theorem CG {es:List cN} {x:cN} {p:Prod} (h0:x.pid≠0) (h:p=p0/\(∀ k,¬ nu es k x.pid)∨JZ es x.pid p):JZ (es++[x]) x.pid (fR es.length x p):=by
 have hpv:(pv x p).ver=x.ver/\(pv x p).open_=p.open_/\(pv x p).mark=p.mark/\((pv x p).seq= -1∨((pv x p).seq=p.seq/\p.ver=x.ver)):=by
  unfold pv
  split
  exact⟨rfl,rfl,rfl,.inl Z⟩
  rename_i hv
  have hv':x.ver=p.ver:=Classical.not_not.1 hv
  exact⟨hv'.symm,rfl,rfl,.inr ⟨rfl,hv'.symm⟩⟩
 obtain⟨v1,v2,v3,v4⟩:=hpv
 have hxm:x∈es++[x]:=by simp
 have hmark:p.mark= -1∨ ∃ (k:Nat) (e:cN),p.mark=k/\(es++[x])[k]? =some e/\e.pid=x.pid/\e.kind≠1:=by
  rcases h with⟨rfl,_⟩|h
  exact .inl Z
  rcases h.mark with h|⟨k,e,h1,h2,h3,h4⟩
  exact .inl h
  exact .inr ⟨k,e,h1,by rw[cj (aA.1 h2).1];exact h2,h3,h4⟩
 have hseq:(pv x p).seq= -1∨ ∃ e∈es++[x],e.pid=x.pid/\e.kind=1/\(pv x p).seq=e.seq/\x.ver=e.ver:=by
  rcases v4 with h1|⟨h1,h2⟩
  exact .inl h1
  rcases h with⟨rfl,_⟩|h
  exact .inl h1
  rcases h.seq with h|⟨e,he,a1,a2,a3,a4⟩
  exact .inl (h1.trans h)
  exact .inr ⟨e,fU _ he,a1,a2,h1.trans a3,h2.symm.trans a4⟩
 unfold fR
 split
 rename_i hk
 refine⟨.inl Z,fun k hok=> ?_,.inr ⟨es.length,x,rfl,by simp,rfl,hk⟩,?_,⟨x,hxm,rfl,v1⟩⟩
 rcases lU.1 hok with⟨_,_,h⟩|⟨_,h,_⟩
 exact absurd (h Z) hk
 exact absurd h hk
 rcases hseq with h|⟨e,he,a1,a2,a3,a4⟩
 exact .inl h
 exact .inr ⟨e,he,a1,a2,a3,v1.trans a4⟩
 rename_i hk
 have hk1:x.kind=1:=Classical.not_not.1 hk
 have hold: ∀ k,nu es k x.pid->nu (es++[x]) k x.pid:=fun k hok=>lU.2 (.inl ⟨by obtain⟨e,h,_⟩:=hok;exact(aA.1 h).1,hok,fun _=>hk1⟩)
 split
 rename_i ht
 rw[v2]at ht
 refine⟨.inr ⟨es.length,rfl,lU.2 (.inr ⟨rfl,hk1,ht.1,rfl,h0⟩)⟩,fun k hok=> ?_,by rw[v3];exact hmark,.inr ⟨x,hxm,rfl,hk1,rfl,v1⟩,⟨x,hxm,rfl,v1⟩⟩
 rcases lU.1 hok with⟨_,h1,_⟩|⟨rfl,_⟩
 rcases h with⟨_,hn⟩|h
 exact absurd h1 (hn k)
 have:=h.least k h1;omega
 exact⟨by simp,iV _⟩
 rename_i ht
 rw[v2]at ht
 refine⟨?_,fun k hok=> ?_,by rw[v3];exact hmark,.inr ⟨x,hxm,rfl,hk1,rfl,v1⟩,⟨x,hxm,rfl,v1⟩⟩
 rw[v2]
 rcases h with⟨rfl,_⟩|h
 exact .inl Z
 rcases h.opn with h|⟨k,h1,h2⟩
 exact .inl h
 exact .inr ⟨k,h1,hold k h2⟩
 rw[v2]
 rcases lU.1 hok with⟨_,h1,_⟩|⟨rfl,_,h2,_⟩
 rcases h with⟨_,hn⟩|h
 exact absurd h1 (hn k)
 exact h.least k h1
 rcases h with⟨rfl,_⟩|h
 exact absurd ⟨h2,by decide⟩ ht
 rcases h.opn with h|⟨k,h1,hok2⟩
 exact absurd ⟨h2,by omega⟩ ht
 obtain⟨_,hok3,_⟩:=hok2
 have:=(aA.1 hok3).1
 omega
theorem I5 {es:List cN} {x:cN} {pid:Int} {p:Prod} (h0:x.pid≠pid) (h:JZ es pid p):JZ (es++[x]) pid p:=by
 have hold: ∀ k,nu (es++[x]) k pid↔nu es k pid:=fun k=>by
  rw[lU]
  constructor
  rintro(⟨_,h,_⟩|⟨_,_,_,h,_⟩)
  exact h
  exact absurd h h0
  intro h
  exact .inl ⟨by obtain⟨e,h,_⟩:=h;exact(aA.1 h).1,h,fun h=>absurd h h0⟩
 refine⟨?_,fun k hk=>h.least k ((hold k).1 hk),?_,?_,?_⟩
 rcases h.opn with h|⟨k,h1,h2⟩
 exact .inl h
 exact .inr ⟨k,h1,(hold k).2 h2⟩
 rcases h.mark with h|⟨k,e,h1,h2,h3⟩
 exact .inl h
 exact .inr ⟨k,e,h1,by rw[cj (aA.1 h2).1];exact h2,h3⟩
 rcases h.seq with h|⟨e,he,h⟩
 exact .inl h
 exact .inr ⟨e,fU _ he,h⟩
 obtain⟨e,he,h⟩:=h.ver
 exact⟨e,fU _ he,h⟩
theorem uD (es:List cN) (pid:Int):(∀ p,j9 es pid=some p->JZ es pid p)/\(j9 es pid=none-> ∀ e∈es,e.pid=pid->pid=0):=by
 induction es using Ku with
 |h0=>exact⟨fun p h=>by simp[I2]at h,fun _ e he=>by cases he⟩
 |h1 es x ih=>
  obtain⟨ih1,ih2⟩:=ih
  rw[zY]
  by_cases hc:x.pid≠0/\x.pid=pid
  obtain⟨h0,rfl⟩:=hc
  rw[if_pos ⟨h0,rfl⟩]
  refine⟨fun p hp=> ?_,fun h=>by cases h⟩
  injection hp with hp
  subst hp
  cases hq:j9 es x.pid with
  |none=>
   refine CG h0 (.inl ⟨rfl,fun k hok=> ?_⟩)
   obtain⟨e,h1,_,_,h4,h5,_⟩:=hok
   exact h5 (ih2 hq e (ae h1) h4)
  |some q=>exact CG h0 (.inr (ih1 q hq))
  rw[if_neg hc]
  refine⟨fun p hp=> ?_,fun h e he hpe=> ?_⟩
  by_cases hx:x.pid=pid
  have h0:x.pid=0:=Classical.byContradiction fun h=>hc ⟨h,hx⟩
  obtain⟨e,he,h1,h1v⟩:=(ih1 p hp).ver
  have h:=ih1 p hp
  have hz:pid=0:=hx▸h0
  have hnone: ∀ l k,¬ nu l k pid:=fun l k ⟨_,_,_,_,_,h,_⟩=>h hz
  refine⟨?_,fun k hk=>absurd hk (hnone _ k),?_,?_,?_⟩
  rcases h.opn with h|⟨k,_,h2⟩
  exact .inl h
  exact absurd h2 (hnone _ k)
  rcases h.mark with h|⟨k,e,h1,h2,h3⟩
  exact .inl h
  exact .inr ⟨k,e,h1,by rw[cj (aA.1 h2).1];exact h2,h3⟩
  rcases h.seq with h|⟨e,he,h⟩
  exact .inl h
  exact .inr ⟨e,fU _ he,h⟩
  exact⟨e,fU _ he,h1,h1v⟩
  exact I5 hx (ih1 p hp)
  rcases ar.1 he with he|he
  exact ih2 h e he hpe
  rw[aq.1 he]at hpe
  exact Classical.byContradiction fun h0=>hc ⟨fun h=>h0 (hpe▸h),hpe⟩
def tV (es:List cN) (n:Nat):Prop:=n<=es.length/\(∀ k pid,nu es k pid->n<=k)/\(n=es.length∨ ∃ pid,nu es n pid)
theorem Ha {es:List cN} {n m:Nat} (h:tV es n) (h':tV es m):n=m:=by
 obtain⟨a1,a2,a3⟩:=h
 obtain⟨b1,b2,b3⟩:=h'
 have h1:n<=m:=by
  rcases b3 with h|⟨pid,h⟩
  omega
  exact a2 _ _ h
 have h2:m<=n:=by
  rcases a3 with h|⟨pid,h⟩
  omega
  exact b2 _ _ h
 omega
theorem Jl {es:List cN} {S:List PB} (hS:PS S es) {out:Int} (h1:out<=es.length) (h2: ∀ q∈S,0<=q.2.2.open_->out<=q.2.2.open_) (h3:out=es.length∨ ∃ q∈S,0<=q.2.2.open_/\out=q.2.2.open_): ∃ n:Nat,out=n/\tV es n:=by
 have hq: ∀ q∈S,JZ es q.1 q.2.2:=fun q hq=>by
  obtain⟨a,b,p⟩:=q
  obtain⟨j,hj⟩:=aU.1 hq
  have:=uI hS.1 hj
  rw[hS.2]at this
  exact(uD es a).1 p this
 have h4: ∀ k pid,nu es k pid->out<=k:=fun k pid hok=>by
  cases hp:j9 es pid with
  |none=>
   obtain⟨e,e1,_,_,e4,e5,_⟩:=hok
   exact absurd ((uD es pid).2 hp e (ae e1) e4) e5
  |some p=>
   have hl:=(((uD es pid).1 p hp).least k hok)
   have hlk:=hS.2 pid
   rw[hp]at hlk
   unfold uX at hlk
   cases hf:S.find? (fun q=>decide (q.1=pid))with
   |none=>rw[hf]at hlk;cases hlk
   |some q=>
    rw[hf]at hlk
    simp at hlk
    have hm:=List.mem_of_find?_eq_some hf
    have:=h2 q hm (by rw[hlk];exact hl.1)
    rw[hlk]at this
    omega
 rcases h3 with rfl|⟨q,hqm,q0,rfl⟩
 exact⟨es.length,rfl,ao _,fun k pid h=>by have:=h4 k pid h;omega,.inl Z⟩
 rcases(hq q hqm).opn with h|⟨k,hk,hok⟩
 omega
 refine⟨k,hk,by omega,fun j pid h=>by have:=h4 j pid h;omega,.inr ⟨_,hok⟩⟩
def xT (es:List cN) (p:Int):Bool:=
 match es.find? (fun e=>!decide (e.kind=1)&&decide (e.pid=p))with
 |some e=>decide (e.kind=2)
 |none=>false
def yH (es:List cN) (i:Nat) (e:cN):Bool:=!e.txn||xT (es.drop (i+1)) e.pid
theorem tT (e:cN) (es:List cN) (p:Int):xT (e::es) p=if¬ e.kind=1/\e.pid=p then decide (e.kind=2)else xT es p:=by
 unfold xT
 rw[List.find?_cons]
 by_cases h1:e.kind=1<;>by_cases h2:e.pid=p<;>simp[h1,h2]
theorem cO {α:Type} {l:List α} {k:Nat} {e:α} (h:l[k]? =some e):l.drop k=e::l.drop (k+1):=by
 obtain⟨hk,rfl⟩:=cF h
 exact mY hk
theorem Ni (es:List cN) (A:Option Addr) (c i:Nat) (x:cN) (w:World) (hr:Rd gk 0 w.heap.size A es w) (hi:es[i]? =some x) (hc:es.length<=c) (hb:es.length<=1000000):
  dd aa Fy [.slice A es.length c,J (i:Nat)] w fun v w2=>v=.bool (yH es i x)/\Below w.heap.size w w2:=by
 refine aF DY Z Z ?_
 have H:=Hp.startRd hr
 have hil:=(cF hi).1
 refine W<|Zr<|G (Wb Z)<|U<|W<|W<|Zr<|G (Ys Z)<|G (Yi Z)<|pI H 0 Z dg Z Z I I Z fun b1 o1 x1 e1=> ?_
 obtain rfl:x=x1:=by have:=e1.at_;rw[hi]at this;injection this
 refine G (Zf iZ Z) ?_
 refine wq (aV dT Z (e1.cl 5 _ Z)) Z Z Z (fun h11=> ?_) (fun h11=> ?_)
 refine G (dI Z)<|U<|ZF Z<|Zk<|W<|W<|Zr<|G (Ys Z)<|G (Yi Z)<|G (bu Z Z I I) ?_
 have h15:(i:Int)+1=((i+1:Nat):Int):=by omega
 rw[h15]
 refine Dr (k:=i+1) H 0 Z dg Z Z Z hc I Z fun A16 H=> ?_
 generalize hds:es.drop (i+1)=ds at H
 have hdl:es.length- (i+1)=ds.length:=by rw[<-hds];simp
 rw[hdl]
 refine G (bn dM Z)<|G (Yi Z)<|U<|Zb ?_
 refine ce (τ:=Nat) [4,6,18,19,20,21,22,23,24,25,26,27,28,29,30,31,32,33,34,35,36,37,38] (fun k=>[(18,J (k:Nat))]) (fun k w'=>k<=ds.length/\xT ds x.pid=xT (ds.drop k) x.pid/\Hp w w' [] [dA gk 0 w.heap.size A16 ds,dA gk 0 w.heap.size A es]) (fun k=>ds.length-k) 0 ⟨by omega,rfl,H⟩ (dK Z) ?_
 rintro k ρ1 w2 ⟨hk,hkp,H⟩
 show CW _ _ _ _ (dB (gJ _ _ ρ1) [(18,J (k:Nat))]) w2
 refine W<|Zr ?_
 refine cU (cG Z Z) Z Z Z (fun h19=> ?_) (fun h19=> ?_)
 refine U<|W<|ZT Z<|Zk<|W<|Zb<|W<|Zr<|pI H 0 Z dg Z Z I I Z fun b3 o3 x3 e3=>G (iw (xs:=cN.c x3) dw Z Z e3.cl)<|ey H gi Z fun w4 b6 H=>Kr H 0 eS Z Z Z Z Z Z fun w5 H=>U<|W ?_
 refine bB bY [0,1,2,3,4,5,6,7,8,9,10,11,12] [] [] [0,2,3,4,6,7,8,9,11,12] (sp []) N N N N Nq (cH _) ?_
 refine aw Z Z Z Z Z (fun w' hw'=>Zf eZ Z)<|aw Z Z Z Z Z (fun w' hw'=>aV aj Z (aC ((H.later hw').ent (i:=0) Z) Z)) ?_
 refine OM Z Z Z Z Z (fun w' hw'=>i7 Z Z) (fun h24=> ?_) (fun h24=> ?_)
 refine aw Z Z Z Z Z (fun w' hw'=>Yb Z)<|aw Z Z Z Z Z (fun w' hw'=>Zf fg Z)<|aw Z Z Z Z Z (fun w' hw'=>aV aj Z (aC ((H.later hw').ent (i:=0) Z) Z))<|aw Z Z Z Z Z (fun w' hw'=>Ys Z)<|aw Z Z Z Z Z (fun w' hw'=>Yi Z)<|qq H 1 Z Z Z Z Z dg Z Z I I fun b6 o6 x6 e6=> ?_
 obtain rfl:x=x6:=by have:=e6.at_;rw[hi]at this;injection this
 refine aw Z Z Z Z Z (fun w' hw'=>Zf fg Z)<|aw Z Z Z Z Z (fun w' hw'=>aV aj Z (e6.later hw' 1 _ Z)) ?_
 refine Bx Z Z Z Z Z (fun w' hw'=>bl Z Z) (fun h33=> ?_) (fun h33=> ?_)
 refine aw Z Z Z Z Z (fun w' hw'=>Kt Z Z)<|aT ?_
 intro w7 hw' hF
 replace H:=H.later hw';clear hw' hF
 refine U<|ZT Z<|W<|Zr<|G (Zf eZ Z)<|G (Zd aj H 0 Z Z Z)<|G (bl Z Z)<|G (Wb Z)<|U<|Zt ?_
 have hdk:=cO e3.at_
 have hx:yH es i x=decide (x3.kind=2):=by
  unfold yH;rw[h11,hds,hkp,hdk,tT,if_pos ⟨h24,h33⟩];rfl
 exact cy (v:=.bool (decide (x3.kind=2))) Z Z ⟨by rw[hx],H.below⟩
 refine aw Z Z Z Z Z (fun w' hw'=>Kt Z Z)<|aT ?_
 intro w8 hw' hF
 replace H:=H.later hw';clear hw' hF
 refine U<|ZF Z<|Zk<|Zr<|G (bu Z Z I I)<|G (Yi Z)<|U ?_
 have hdk:=cO e3.at_
 rw[hdk,tT]at hkp
 rw[if_neg (by rintro⟨a,b⟩;first|exact a h24|exact h33 b)]at hkp
 refine⟨k+1,⟨by omega,hkp,H.forget (by simp) (fun _ h=>h)⟩,dK Z,Qg,by show ds.length- (k+1)<ds.length-k;omega⟩
 refine aw Z Z Z Z Z (fun w' hw'=>Yb Z)<|eQ Z Z Z Z<|eQ Z Z Z Z<|eQ Z Z Z Z<|eQ Z Z Z Z<|eQ Z Z Z Z<|eQ Z Z Z Z<|eQ Z Z Z Z<|eQ Z Z Z Z<|aw Z Z Z Z Z (fun w' hw'=>N Z Z)<|aT ?_
 intro w9 hw' hF
 replace H:=H.later hw';clear hw' hF
 refine U<|ZF Z<|Zk<|Zr<|G (bu Z Z I I)<|G (Yi Z)<|U ?_
 have hdk:=cO e3.at_
 rw[hdk,tT]at hkp
 rw[if_neg (by rintro⟨a,b⟩;first|exact a h24|exact h33 b)]at hkp
 refine⟨k+1,⟨by omega,hkp,H.forget (by simp) (fun _ h=>h)⟩,dK Z,Qg,by show ds.length- (k+1)<ds.length-k;omega⟩
 refine U<|W<|ZF Z<|Zx<|W<|Zr<|G (Wb Z)<|U<|Zt ?_
 have hx:yH es i x=false:=by
  unfold yH;rw[h11,hds,hkp,en I];rfl
 exact cy (v:=.bool false) Z Z ⟨by rw[hx],H.below⟩
 refine G (dI Z)<|U<|ZT Z<|W<|Zr<|G (Wb Z)<|U<|Zt ?_
 have hx:yH es i x=true:=by simp[yH,h11]
 exact cy (v:=.bool true) Z Z ⟨by rw[hx],H.below⟩
theorem KI {S:List PB} {m:Nat} {k:Int} {v:Value} (h:(rb S)[m]? =some (k,v)): ∃ (b:Nat) (p:Prod),S[m]? =some (k,b,p)/\v=BG b:=by
 unfold rb at h
 rw[aJ]at h
 cases hs:S[m]? with
 |none=>rw[hs]at h;cases h
 |some q=>
  rw[hs]at h
  obtain⟨a,b,p⟩:=q
  simp at h
  exact⟨b,p,by rw[h.1],h.2.symm⟩
def Dl (n:Nat) (seen:Array Nat):Nat:=((Bz n).filter fun m=>!seen.contains m).length
theorem Cs {n m:Nat} {seen:Array Nat} (hm:m<n) (hs:seen.contains m=false):Dl n (seen.push m)<Dl n seen:=by
 unfold Dl
 refine filter_lt _ _ (fun x hx=> ?_) m (by rw[hs];rfl) (by simp) _ (List.mem_range.2 hm)
 simp at hx⊢
 exact hx.1
theorem Cz (es:List cN) (A:Option Addr) (c n:Nat) (w:World) (hr:Rd gk 0 w.heap.size A es w) (hc:es.length<=c) (hb:es.length<=1000000) (hn:n<=es.length):
  dd aa BO [.slice A es.length c,J (n:Nat)] w fun v w2=> ∃ m:Nat,tV (es.take n) m/\v=.tuple #[J (m:Nat),J 0]/\Below w.heap.size w w2:=by
 refine aF AK Z Z ?_
 have H:=Hp.startRd hr
 refine W<|Zr<|G (Wi Z)<|G (Wi Z)<|U<|W<|W<|Zr<|G (Yi Z)<|G (da Z Z I)<|G (Yb Z)<|ZG<|G (Yi Z)<|ZG<|G (Ys Z)<|ZG<|G (bn dM Z)<|ZG<|G (eh Z Z I)<|G (N Z Z)<|U<|ZF Z<|Zk<|W<|Zr<|G (Yi Z)<|G (Wi Z)<|U<|W<|W<|Zr<|G (Ys Z)<|G (Yi Z)<|nn (k:=n) H 0 Z dg Z Z hc I Z fun A20 H=> ?_
 obtain⟨ds,hds⟩: ∃ ds,es.take n=ds:=⟨_,rfl⟩
 have hdl:n=ds.length:=by rw[<-hds];simp;omega
 rw[hds]at H⊢
 subst hdl
 refine bW ug (CE ds _ _ _ (H.rd0 0 Z) I) Z Z ?_
 rintro _ w1 ⟨S,bm,rfl,hS,hj⟩;replace H:=H.join hj;clear hj
 refine Qn H 0 rV Z Z Z fun w2 it H=>U<|Zb ?_
 refine ce (τ:=Array Nat×Int) [6,8,23,24,25,26,27,28,29,30,31,32,33,34,35,36,37] (fun(seen,out)=>[(6,J out)]) (fun(seen,out) w'=>out<=ds.length/\(∀ m q,S[m]? =some q->seen.contains m=true->0<=q.2.2.open_->out<=q.2.2.open_)/\(out=ds.length∨ ∃ q∈S,0<=q.2.2.open_/\out=q.2.2.open_)/\Hp w w' ((it,.mapIter (some bm) (rb S).length seen (rb S).length)::(jx bm S++[])) [dA gk 0 w.heap.size A20 ds,dA gk 0 w.heap.size A es]) (fun(seen,_)=>Dl S.length seen) (#[],(ds.length:Int)) ⟨by omega,by simp,.inl Z,H⟩ (dK Z) ?_
 rintro⟨seen,out⟩ ρ1 w3 ⟨ho1,ho2,ho3,H⟩
 show CW _ _ _ _ (dB (gJ _ _ ρ1) [(6,J out)]) w3
 refine W<|Zr ?_
 refine Qq H 0 1 Z Z Z Z ?_ ?_
 intro hall
 refine G (Xb Z Z)<|U<|W<|ZF Z<|Zx<|W<|Zr<|G (Yi Z)<|G (Wi Z)<|G (Wi Z)<|U<|Zt ?_
 have hpl:(rb S).length=S.length:=by simp[rb]
 obtain⟨m,rfl,hst⟩:=Jl hS ho1 (fun q hq h0=>by obtain⟨m,hm⟩:=aU.1 hq;exact ho2 m q hm (hall m (by rw[hpl];exact(cF hm).1)) h0) ho3
 exact mj Z Z Z ⟨m,by first|exact hst|(rw[hds];exact hst),rfl,H.below⟩
 intro m k v w4 hm hsn H
 obtain⟨b,p,hmS,rfl⟩:=KI hm
 have hbk:=H.ent (i:=m+2) (b:=b) (o:=.cells p.c.toArray lR (0,0)) (by simp[jx,xL,hmS])
 have hml:=(cF hmS).1
 refine G (Xb Z Z)<|U<|W<|ZT Z<|Zk<|Zb<|W<|Zr<|G (Pc Z (H.ent (i:=0) Z) (H.ent (i:=1) Z) hm)<|G (Pb Z Z)<|G (Wp Z)<|U<|W<|Zr<|G (Yp Z)<|G (aK Z)<|G (Zf d5 Z)<|G (aV aj Z (aC hbk Z)) ?_
 refine cU (kh Z Z) Z Z Z (fun h31=> ?_) (fun h31=> ?_)
 refine U<|ZT Z<|Zr<|G (Yi Z)<|G (Yp Z)<|G (aK Z)<|G (Zf d5 Z)<|G (aV aj Z (aC hbk Z))<|G (tN Z Z)<|G (Wi Z)<|U ?_
 refine⟨(seen.push m,min out p.open_),⟨by omega,fun m2 q hq hs h0=> ?_,?_,H⟩,dK Z,Qg,Cs hml hsn⟩
 rw[Array.contains_push]at hs
 rcases Bool.or_eq_true_iff.1 hs with hs|hs
 have:=ho2 m2 q hq hs h0;omega
 have hmm:m2=m:=by simpa using hs
 subst hmm;rw[hmS]at hq;injection hq with hq;subst hq;try dsimp only at h0⊢
 omega
 by_cases hmin:out<=p.open_
 rw[Int.min_eq_left hmin];exact ho3
 exact .inr ⟨_,ae hmS,h31,by dsimp only;omega⟩
 refine U<|ZF Z<|Zk ?_
 refine⟨(seen.push m,out),⟨by omega,fun m2 q hq hs h0=> ?_,?_,H⟩,dK Z,Qg,Cs hml hsn⟩
 rw[Array.contains_push]at hs
 rcases Bool.or_eq_true_iff.1 hs with hs|hs
 have:=ho2 m2 q hq hs h0;omega
 have hmm:m2=m:=by simpa using hs
 subst hmm;rw[hmS]at hq;injection hq with hq;subst hq;try dsimp only at h0⊢
 exfalso;exact h31 h0
 exact ho3
def vW (es:List cN) (m:Int) (x:cN):Bool:=match es[m.toNat]? with
 |some e=>decide (e.kind=x.kind)&&decide (e.ver=x.ver)
 |none=>false
def na (x e:cN):Bool:=decide (e.kind=1)&&decide (e.pid=x.pid)&&decide (e.ver=x.ver)&&decide (e.seq=x.seq)
def pX (es:List cN) (x:cN) (p:Prod):Int×Int:=
 if x.ver<p.ver then(0,10)
 else if¬ x.kind=1 then(if p.open_<0/\0<=p.mark/\vW es p.mark x=true then(p.mark,0)else(-1,0))
 else if(if p.ver<x.ver then-1 else p.seq)+1<x.seq then(0,11)
 else if x.seq=(if p.ver<x.ver then-1 else p.seq)+1 then(-1,0)
 else match es.findIdx? (na x)with
  |some i=>((i:Int),0)
  |none=>(0,11)
def ie (es:List cN) (x:cN):Int×Int:=if x.pid=0 then(-1,0)else pX es x ((j9 es x.pid).getD ⟨x.ver,-1,-1,-1⟩)
def Pm (w:World) (es:List cN):Sp:=⟨fun v w2=> ∃ S bm,v=.map (some bm)/\PS S es/\Hp w w2 (jx bm S) [],fun _ _ _ hb ⟨S,bm,h1,h2,h3⟩=>⟨S,bm,h1,h2,h3.later hb⟩⟩
def seqB (es:List cN):Prop:= ∀ e∈es,-1000000000000000<=e.seq/\e.seq<=1000000000000000
theorem E3 {es:List cN} {x:cN} (hq:seqB es) {p:Prod} (hp:p=(j9 es x.pid).getD ⟨x.ver,-1,-1,-1⟩):(p.mark= -1∨ ∃ (k:Nat) (y:cN),p.mark=k/\es[k]? =some y)/\ -1000000000000000<=p.seq/\p.seq<=1000000000000000:=by
 cases h:j9 es x.pid with
 |none=>rw[h]at hp;subst hp;exact⟨.inl Z,by simp⟩
 |some q=>
  rw[h]at hp
  simp at hp
  subst hp
  have hi:=(uD es x.pid).1 p h
  refine⟨?_,?_⟩
  rcases hi.mark with h|⟨k,e,h1,h2,_⟩
  exact .inl h
  exact .inr ⟨k,e,h1,h2⟩
  rcases hi.seq with h|⟨e,he,_,_,h,_⟩
  omega
  have:=hq e he;omega
theorem F3 {es:List cN} {x:cN} (h: ∀ j e,j<es.length->es[j]? =some e->na x e=false):es.findIdx? (na x)=none:=by
 rw[du]
 intro e he
 obtain⟨j,hj⟩:=aU.1 he
 exact h j e (cF hj).1 hj
theorem FZ {es:List cN} {x y:cN} {k:Nat} (hk:es[k]? =some y) (hy:na x y=true) (h: ∀ j e,j<k->es[j]? =some e->na x e=false):es.findIdx? (na x)=some k:=by
 rw[bh]
 obtain⟨hl,rfl⟩:=cF hk
 exact⟨hl,hy,fun j hj=>by rw[h j _ hj (ah I)];simp⟩
theorem Qv (S:List PB) (pid:Int) {w:World} {b:Nat} (hn:(S.map (·.1)).Nodup) (hb:w.heap[b]? =some (tO (rb S))): ∃ q:Option Addr,((q=none/\ ∀ r∈S,r.1≠pid)∨ ∃ (j c:Nat) (p:Prod),S[j]? =some (pid,c,p)/\q=some ⟨c,0,none⟩)/\ ∀ {ρ:gW} {dst:Option Nat} {x y:Operand} {t:TypeId} {p:String} {af:Array Edge} {g:Option (Nat×Bool)},ev ρ x=.map (some b)->ev ρ y=J pid->(execOp (ev ρ) (Og dst (.lookup IA x y false) t p af g)).run aa w=.ok (.value (.pointer q)) w:=by
 rcases Ai S pid with h|⟨j,c,p,h⟩
 exact⟨none,.inl ⟨rfl,h⟩,fun hx hy=>NW rV qH hx hy hb (by intro q hq;obtain⟨a,ha,rfl⟩:=bz.1 hq;exact h a ha)⟩
 exact⟨some ⟨c,0,none⟩,.inr ⟨j,c,p,h,rfl⟩,fun hx hy=>NV rV qH hx hy hb (by rw[uE];exact hn) (E4 h)⟩
theorem IH (es:List cN) (A:Option Addr) (c:Nat) (x:cN) (w:World) (hr:Rd gk 0 w.heap.size A es w) (hb:es.length<=1000000) (hq:seqB es):
  dd aa DK [.slice A es.length c,x.v] w fun v w2=>v=.tuple #[J (ie es x).1,J (ie es x).2]/\Below w.heap.size w w2:=by
 refine aF BT Z Z ?_
 have H:=Hp.startRd hr
 refine W<|Zr<|fX H Z Z fun w1 b3 H=>G (Wi Z)<|G (Wi Z)<|U<|W<|W<|Zr<|G (Zf fg Z)<|G (Zd aj H 0 Z Z Z) ?_
 refine cU (bl Z Z) Z Z Z (fun h11=> ?_) (fun h11=> ?_)
 refine U<|ZT Z<|W<|Zr<|G (Wi Z)<|G (Wi Z)<|U<|Zt ?_
 have hv:ie es x=(-1,0):=by unfold ie;rw[if_pos h11]
 exact mj (v:=J (-1)) (v2:=J 0) Z Z Z ⟨by rw[hv],H.below⟩
 refine U<|ZF Z<|Zk<|W ?_
 refine bB bY [0,2,3,1] [4,5] [1] [0,2] (sp [(1,Pm w1 es)]) N N N N Nq (cH _) ?_
 refine aw Z Z Z Z Z (fun w' hw'=>Ys Z)<|aw Z Z Z Z Z (fun w' hw'=>Zf fg Z)<|aw Z Z Z Z Z (fun w' hw'=>aV aj Z (aC ((H.later hw').ent (i:=0) Z) Z)) ?_
 refine yR ug Z Z Z Z (fun w' hw'=>(CE es _ _ w' ((H.later hw').rd0 0 Z) hb).mono (fun v w2 ⟨S,bm,h1,h2,h3⟩=>⟨h3.below,S,bm,h1,h2,Hp.base hw' h3⟩)) Z ?_;rintro v13-
 refine aT ?_
 intro w2 hw' hF
 obtain⟨-,S,bm,rfl,hS,hj⟩:=hF
 replace H:=H.join hj;clear hj hw'
 have hb3:=H.ent (i:=S.length+1) (b:=b3) (o:=.cells (cN.c x).toArray cZ (0,0)) (by simp[jx])
 obtain⟨P16,hP16,hx16⟩:=Qv S x.pid hS.1 (H.ent (i:=0) Z)
 refine G (hx16 Z Z)<|G (Wp Z)<|U<|W ?_
 refine eD (τ:=Nat×Int×Int×Int×Int×List (Nat×Obj)) [6,17,18,19,20,21,22] (fun(b,_,_,_,_,_)=>[(6,BG b)]) (fun(b,pv_,ps,po,pm,K) w'=>(⟨pv_,ps,po,pm⟩:Prod)=(j9 es x.pid).getD ⟨x.ver,-1,-1,-1⟩/\Hp w w' ((b,.cells #[J pv_,J ps,J po,J pm] lR (0,0))::(b3,.cells (cN.c x).toArray cZ (0,0))::K) [dA gk 0 w.heap.size A es]) ?_ ?_
 refine W<|Zr ?_
 rcases hP16 with⟨rfl,hno⟩|⟨j,b,p,hj,rfl⟩
 refine G (Yp Z)<|G (xK nX Z)<|U<|ZT Z<|Zr<|G (Zf eC Z)<|G (aV aj Z (aC hb3 Z))<|G (bi (cs:= #[J x.ver,J (-1),J (-1),J (-1)]) yw zz N)<|fX H Z Z fun w3 b22 H=>G (Wp Z)<|U ?_
 refine⟨(b22,x.ver,-1,-1,-1,jx bm S),⟨by rw[<-hS.2,CN hno];rfl,H.perm ((tl _ _).symm.cons _)⟩,dK Z,Qg⟩
 refine G (Yp Z)<|G (vT nX Z)<|U<|ZF Z<|Zk ?_
 have hP:=Ff hj
 refine⟨(b,p.ver,p.seq,p.open_,p.mark,(bm,tO (rb S))::(S.eraseIdx j).map xL),⟨by rw[<-hS.2,uI hS.1 hj];rfl,H.perm ?_⟩,dK Z,Qg⟩
 exact(qx (l₁:=[_,_])).symm.trans (((hP.cons _).cons _).trans (tl _ _).symm)
 rintro⟨b,pv_,ps,po,pm,K⟩ ρ2 w4 ⟨hp,H⟩
 show CW _ _ _ _ (dB (gJ _ _ ρ2) [(6,BG b)]) w4
 obtain⟨hmark,hsq1,hsq2⟩:=E3 hq hp
 dsimp only at hsq1 hsq2
 refine W<|Zb<|W ?_
 refine bB bY [0,1,2,3,4,5,6,7] [] [] [0,2,3,4,6,7] (sp []) N N N N Nq (cH _) ?_
 refine aw Z Z Z Z Z (fun w' hw'=>Zf eC Z)<|aw Z Z Z Z Z (fun w' hw'=>aV aj Z (aC ((H.later hw').ent (i:=1) Z) Z))<|aw Z Z Z Z Z (fun w' hw'=>Yp Z)<|aw Z Z Z Z Z (fun w' hw'=>aK Z)<|aw Z Z Z Z Z (fun w' hw'=>Zf jQ Z)<|aw Z Z Z Z Z (fun w' hw'=>aV aj Z (aC ((H.later hw').ent (i:=0) Z) Z)) ?_
 refine Bx Z Z Z Z Z (fun w' hw'=>cG Z Z) (fun h30=> ?_) (fun h30=> ?_)
 refine aw Z Z Z Z Z (fun w' hw'=>Wb Z)<|aT ?_
 intro w5 hw' hF
 replace H:=H.later hw';clear hw' hF
 refine U<|ZT Z<|W<|Zr<|G (Wi Z)<|G (Wi Z)<|U<|Zt ?_
 have hv:ie es x=(0,10):=by
  unfold ie;rw[if_neg h11,<-hp];unfold pX;simp[h30]
 exact mj (v:=J (0)) (v2:=J 10) Z Z Z ⟨by rw[hv],H.below⟩
 refine aw Z Z Z Z Z (fun w' hw'=>Wb Z)<|aT ?_
 intro w6 hw' hF
 replace H:=H.later hw';clear hw' hF
 refine U<|ZF Z<|W<|Zr<|G (Zf eZ Z)<|G (Zd aj H 1 Z Z Z) ?_
 refine rg (i7 Z Z) Z Z Z (fun h34=> ?_) (fun h34=> ?_)
 refine G (Wb Z)<|U<|ZT Z<|W<|W ?_
 refine bB bY [0,1,2,3,4,5,6,7,8,9,10,11,12,13,14,15,16,17,18,19,20,21,22,23,24,25,26,27,28,29,30,31,32,33,34,35,36,37] [] [] [0,1,2,4,5,6,7,8,10,11,12,13,14,15,16,18,19,21,23,24,25,26,27,28,29,31,32,34,36,37] (sp []) N N N N Nq (cH _) ?_
 refine aw Z Z Z Z Z (fun w' hw'=>Yp Z)<|aw Z Z Z Z Z (fun w' hw'=>aK Z)<|aw Z Z Z Z Z (fun w' hw'=>Zf d5 Z)<|aw Z Z Z Z Z (fun w' hw'=>aV aj Z (aC ((H.later hw').ent (i:=0) Z) Z)) ?_
 refine Bx Z Z Z Z Z (fun w' hw'=>cG Z Z) (fun h39=> ?_) (fun h39=> ?_)
 refine aw Z Z Z Z Z (fun w' hw'=>Yb Z)<|aw Z Z Z Z Z (fun w' hw'=>Yp Z)<|aw Z Z Z Z Z (fun w' hw'=>aK Z)<|aw Z Z Z Z Z (fun w' hw'=>Zf ia Z)<|aw Z Z Z Z Z (fun w' hw'=>aV aj Z (aC ((H.later hw').ent (i:=0) Z) Z)) ?_
 refine Bx Z Z Z Z Z (fun w' hw'=>kh Z Z) (fun h45=> ?_) (fun h45=> ?_)
 rcases hmark with hm1|⟨k,y,hmk,hyk⟩
 exfalso;dsimp only at hm1 h45;omega
 dsimp only at hmk
 subst hmk
 have hkl:=(cF hyk).1
 refine aw Z Z Z Z Z (fun w' hw'=>Kt Z Z)<|aw Z Z Z Z Z (fun w' hw'=>Yb Z)<|aw Z Z Z Z Z (fun w' hw'=>Ys Z)<|aw Z Z Z Z Z (fun w' hw'=>Yp Z)<|aw Z Z Z Z Z (fun w' hw'=>aK Z)<|aw Z Z Z Z Z (fun w' hw'=>Zf ia Z)<|aw Z Z Z Z Z (fun w' hw'=>aV aj Z (aC ((H.later hw').ent (i:=0) Z) Z))<|qq H 0 Z Z Z Z Z dg Z Z I I fun b7 o7 x7 e7=> ?_
 obtain rfl:y=x7:=by have:=e7.at_;rw[hyk]at this;injection this
 refine aw Z Z Z Z Z (fun w' hw'=>Zf eZ Z)<|aw Z Z Z Z Z (fun w' hw'=>aV aj Z (e7.later hw' 4 _ Z))<|aw Z Z Z Z Z (fun w' hw'=>Zf eZ Z)<|aw Z Z Z Z Z (fun w' hw'=>aV aj Z (aC ((H.later hw').ent (i:=1) Z) Z)) ?_
 refine Bx Z Z Z Z Z (fun w' hw'=>bl Z Z) (fun h58=> ?_) (fun h58=> ?_)
 refine aw Z Z Z Z Z (fun w' hw'=>Kt Z Z)<|aw Z Z Z Z Z (fun w' hw'=>Yb Z)<|aw Z Z Z Z Z (fun w' hw'=>Ys Z)<|aw Z Z Z Z Z (fun w' hw'=>Yp Z)<|aw Z Z Z Z Z (fun w' hw'=>aK Z)<|aw Z Z Z Z Z (fun w' hw'=>Zf ia Z)<|aw Z Z Z Z Z (fun w' hw'=>aV aj Z (aC ((H.later hw').ent (i:=0) Z) Z))<|qq H 0 Z Z Z Z Z dg Z Z I I fun b8 o8 x8 e8=> ?_
 obtain rfl:y=x8:=by have:=e8.at_;rw[hyk]at this;injection this
 refine aw Z Z Z Z Z (fun w' hw'=>Zf eC Z)<|aw Z Z Z Z Z (fun w' hw'=>aV aj Z (e8.later hw' 2 _ Z))<|aw Z Z Z Z Z (fun w' hw'=>Zf eC Z)<|aw Z Z Z Z Z (fun w' hw'=>aV aj Z (aC ((H.later hw').ent (i:=1) Z) Z)) ?_
 refine Bx Z Z Z Z Z (fun w' hw'=>bl Z Z) (fun h71=> ?_) (fun h71=> ?_)
 refine aw Z Z Z Z Z (fun w' hw'=>Kt Z Z)<|aT ?_
 intro w9 hw' hF
 replace H:=H.later hw';clear hw' hF
 refine U<|ZT Z<|W<|Zr<|G (Yp Z)<|G (aK Z)<|G (Zf ia Z)<|G (Zd aj H 0 Z Z Z)<|G (Wi Z)<|G (Wi Z)<|U<|Zt ?_
 have hmk:vW es (k:Nat) x=true:=by
  unfold vW;rw[show((k:Nat):Int).toNat=k from rfl,hyk];simp[h58,h71]
 have hv:ie es x=((k:Int),0):=by
  unfold ie;rw[if_neg h11,<-hp];unfold pX;simp[h30,h34,h39,h45,h58,h71,hmk]
 exact mj (v:=J ((k:Int))) (v2:=J 0) Z Z Z ⟨by rw[hv],H.below⟩
 refine aw Z Z Z Z Z (fun w' hw'=>Kt Z Z)<|aT ?_
 intro w10 hw' hF
 replace H:=H.later hw';clear hw' hF
 refine U<|ZF Z<|Zk<|W<|Zr<|G (Wi Z)<|G (Wi Z)<|U<|Zt ?_
 have hmk:vW es (k:Nat) x=false:=by
  unfold vW;rw[show((k:Nat):Int).toNat=k from rfl,hyk];simp[h58,h71]
 have hv:ie es x=(-1,0):=by
  unfold ie;rw[if_neg h11,<-hp];unfold pX;simp[h30,h34,h39,h45,h58,h71,hmk]
 exact mj (v:=J (-1)) (v2:=J 0) Z Z Z ⟨by rw[hv],H.below⟩
 refine aw Z Z Z Z Z (fun w' hw'=>Kt Z Z)<|aw Z Z Z Z Z (fun w' hw'=>Yb Z)<|eQ Z Z Z Z<|eQ Z Z Z Z<|eQ Z Z Z Z<|eQ Z Z Z Z<|eQ Z Z Z Z<|eQ Z Z Z Z<|eQ Z Z Z Z<|eQ Z Z Z Z<|eQ Z Z Z Z<|eQ Z Z Z Z<|eQ Z Z Z Z<|aw Z Z Z Z Z (fun w' hw'=>N Z Z)<|aT ?_
 intro w11 hw' hF
 replace H:=H.later hw';clear hw' hF
 refine U<|ZF Z<|Zk<|W<|Zr<|G (Wi Z)<|G (Wi Z)<|U<|Zt ?_
 have hmk:vW es (k:Nat) x=false:=by
  unfold vW;rw[show((k:Nat):Int).toNat=k from rfl,hyk];simp[h58]
 have hv:ie es x=(-1,0):=by
  unfold ie;rw[if_neg h11,<-hp];unfold pX;simp[h30,h34,h39,h45,h58,hmk]
 exact mj (v:=J (-1)) (v2:=J 0) Z Z Z ⟨by rw[hv],H.below⟩
 refine aw Z Z Z Z Z (fun w' hw'=>Kt Z Z)<|aw Z Z Z Z Z (fun w' hw'=>Yb Z)<|eQ Z Z Z Z<|eQ Z Z Z Z<|eQ Z Z Z Z<|eQ Z Z Z Z<|eQ Z Z Z Z<|eQ Z Z Z Z<|eQ Z Z Z Z<|eQ Z Z Z Z<|eQ Z Z Z Z<|eQ Z Z Z Z<|eQ Z Z Z Z<|aw Z Z Z Z Z (fun w' hw'=>N Z Z)<|aw Z Z Z Z Z (fun w' hw'=>Yb Z)<|eQ Z Z Z Z<|eQ Z Z Z Z<|eQ Z Z Z Z<|eQ Z Z Z Z<|eQ Z Z Z Z<|eQ Z Z Z Z<|eQ Z Z Z Z<|eQ Z Z Z Z<|eQ Z Z Z Z<|eQ Z Z Z Z<|eQ Z Z Z Z<|aw Z Z Z Z Z (fun w' hw'=>N Z Z)<|aT ?_
 intro w12 hw' hF
 replace H:=H.later hw';clear hw' hF
 refine U<|ZF Z<|Zk<|W<|Zr<|G (Wi Z)<|G (Wi Z)<|U<|Zt ?_
 have hv:ie es x=(-1,0):=by
  unfold ie;rw[if_neg h11,<-hp];unfold pX;simp[h30,h34,h39,h45]
 exact mj (v:=J (-1)) (v2:=J 0) Z Z Z ⟨by rw[hv],H.below⟩
 refine aw Z Z Z Z Z (fun w' hw'=>Yb Z)<|eQ Z Z Z Z<|eQ Z Z Z Z<|eQ Z Z Z Z<|eQ Z Z Z Z<|eQ Z Z Z Z<|aw Z Z Z Z Z (fun w' hw'=>N Z Z)<|aw Z Z Z Z Z (fun w' hw'=>Yb Z)<|eQ Z Z Z Z<|eQ Z Z Z Z<|eQ Z Z Z Z<|eQ Z Z Z Z<|eQ Z Z Z Z<|eQ Z Z Z Z<|eQ Z Z Z Z<|eQ Z Z Z Z<|eQ Z Z Z Z<|eQ Z Z Z Z<|eQ Z Z Z Z<|aw Z Z Z Z Z (fun w' hw'=>N Z Z)<|aw Z Z Z Z Z (fun w' hw'=>Yb Z)<|eQ Z Z Z Z<|eQ Z Z Z Z<|eQ Z Z Z Z<|eQ Z Z Z Z<|eQ Z Z Z Z<|eQ Z Z Z Z<|eQ Z Z Z Z<|eQ Z Z Z Z<|eQ Z Z Z Z<|eQ Z Z Z Z<|eQ Z Z Z Z<|aw Z Z Z Z Z (fun w' hw'=>N Z Z)<|aT ?_
 intro w13 hw' hF
 replace H:=H.later hw';clear hw' hF
 refine U<|ZF Z<|Zk<|W<|Zr<|G (Wi Z)<|G (Wi Z)<|U<|Zt ?_
 have hv:ie es x=(-1,0):=by
  unfold ie;rw[if_neg h11,<-hp];unfold pX;simp[h30,h34,h39]
 exact mj (v:=J (-1)) (v2:=J 0) Z Z Z ⟨by rw[hv],H.below⟩
 refine G (Wb Z)<|U<|ZF Z<|W ?_
 refine bB bY [0,1,2,3,4,5,6,7] [] [] [0,2,3,4,6,7] (sp []) N N N N Nq (cH _) ?_
 refine aw Z Z Z Z Z (fun w' hw'=>Zf eC Z)<|aw Z Z Z Z Z (fun w' hw'=>aV aj Z (aC ((H.later hw').ent (i:=1) Z) Z))<|aw Z Z Z Z Z (fun w' hw'=>Yp Z)<|aw Z Z Z Z Z (fun w' hw'=>aK Z)<|aw Z Z Z Z Z (fun w' hw'=>Zf jQ Z)<|aw Z Z Z Z Z (fun w' hw'=>aV aj Z (aC ((H.later hw').ent (i:=0) Z) Z)) ?_
 refine Bx Z Z Z Z Z (fun w' hw'=>kg Z Z) (fun h84=> ?_) (fun h84=> ?_)
 refine aw Z Z Z Z Z (fun w' hw'=>Wb Z)<|aT ?_
 intro w14 hw' hF
 replace H:=H.later hw';clear hw' hF
 refine U<|ZT Z<|Zr<|G (Yp Z)<|G (aK Z)<|G (Zf fk Z)<|bk H 0 (#[J pv_,J (-1),J po,J pm]) bK Z Z Z Z Z N N fun w15 H=>U<|W<|W ?_
 refine bB bY [0,1,2,3,4,5,6,7] [] [] [0,2,3,4,6,7] (sp []) N N N N Nq (cH _) ?_
 refine aw Z Z Z Z Z (fun w' hw'=>Zf fa Z)<|aw Z Z Z Z Z (fun w' hw'=>aV aj Z (aC ((H.later hw').ent (i:=1) Z) Z))<|aw Z Z Z Z Z (fun w' hw'=>Yp Z)<|aw Z Z Z Z Z (fun w' hw'=>aK Z)<|aw Z Z Z Z Z (fun w' hw'=>Zf fk Z)<|aw Z Z Z Z Z (fun w' hw'=>aV aj Z (aC ((H.later hw').ent (i:=0) Z) Z))<|aw Z Z Z Z Z (fun w' hw'=>bu Z Z I I) ?_
 refine Bx Z Z Z Z Z (fun w' hw'=>kg Z Z) (fun h95=> ?_) (fun h95=> ?_)
 refine aT ?_
 intro w16 hw' hF
 replace H:=H.later hw';clear hw' hF
 refine U<|ZT Z<|W<|Zr<|G (Wi Z)<|G (Wi Z)<|U<|Zt ?_
 replace h95:0<x.seq:=by omega
 have hv:ie es x=(0,11):=by
  unfold ie;rw[if_neg h11,<-hp];unfold pX;simp[h30,h34,h84,h95]
 exact mj (v:=J (0)) (v2:=J 11) Z Z Z ⟨by rw[hv],H.below⟩
 refine aT ?_
 intro w17 hw' hF
 replace H:=H.later hw';clear hw' hF
 refine U<|ZF Z<|Zk<|W<|W ?_
 refine bB bY [0,1,2,3,4,5,6,7] [] [] [0,2,3,4,6,7] (sp []) N N N N Nq (cH _) ?_
 refine aw Z Z Z Z Z (fun w' hw'=>Zf fa Z)<|aw Z Z Z Z Z (fun w' hw'=>aV aj Z (aC ((H.later hw').ent (i:=1) Z) Z))<|aw Z Z Z Z Z (fun w' hw'=>Yp Z)<|aw Z Z Z Z Z (fun w' hw'=>aK Z)<|aw Z Z Z Z Z (fun w' hw'=>Zf fk Z)<|aw Z Z Z Z Z (fun w' hw'=>aV aj Z (aC ((H.later hw').ent (i:=0) Z) Z))<|aw Z Z Z Z Z (fun w' hw'=>bu Z Z I I) ?_
 refine Bx Z Z Z Z Z (fun w' hw'=>bl Z Z) (fun h103=> ?_) (fun h103=> ?_)
 refine aT ?_
 intro w18 hw' hF
 replace H:=H.later hw';clear hw' hF
 refine U<|ZT Z<|W<|Zr<|G (Wi Z)<|G (Wi Z)<|U<|Zt ?_
 replace h95: ¬ 0<x.seq:=by omega
 replace h103:x.seq=0:=by omega
 have hv:ie es x=(-1,0):=by
  unfold ie;rw[if_neg h11,<-hp];unfold pX;simp[h30,h34,h84,h95,h103]
 exact mj (v:=J (-1)) (v2:=J 0) Z Z Z ⟨by rw[hv],H.below⟩
 refine aT ?_
 intro w19 hw' hF
 replace H:=H.later hw';clear hw' hF
 refine U<|ZF Z<|Zk<|W<|W<|Zr<|G (Ys Z)<|G (bn dM Z)<|G (Yi Z)<|U<|Zb ?_
 refine ce (τ:=Nat) [4,5,7,8,106,107,108,109,110,111,112,113,114,115,116,117,118,119,120,121,122,123,124,125,126,127,128,129,130,131,132,133,134,135,136] (fun i=>[(106,J (i:Nat))]) (fun i w'=>i<=es.length/\(∀ j e,j<i->es[j]? =some e->na x e=false)/\Hp w w' ((b,.cells #[J pv_,J (-1),J po,J pm] lR (0,0))::(b3,.cells (cN.c x).toArray cZ (0,0))::K) [dA gk 0 w.heap.size A es]) (fun i=>es.length-i) 0 ⟨by omega,by intro j e hj;omega,H⟩ (dK Z) ?_
 rintro i ρ3 w20 ⟨hi,hno,H⟩
 show CW _ _ _ _ (dB (gJ _ _ ρ3) [(106,J (i:Nat))]) w20
 refine W<|Zr ?_
 refine cU (cG Z Z) Z Z Z (fun h107=> ?_) (fun h107=> ?_)
 refine U<|W<|ZT Z<|Zk<|W<|Zb<|W<|Zr<|G (Yi Z)<|pI H 0 Z dg Z Z I I Z fun b21 o21 x21 e21=>G (iw (xs:=cN.c x21) dw Z Z e21.cl)<|ey H gi Z fun w22 b8 H=>G (Wi Z)<|Kr H 0 eS Z Z Z Z Z Z fun w23 H=>U<|W<|Zr<|G (Zf eZ Z)<|G (Zd aj H 0 Z Z Z) ?_
 refine cU (bl Z Z) Z Z Z (fun h113=> ?_) (fun h113=> ?_)
 refine G (Yb Z)<|ZG<|G (Zf fg Z)<|ZG<|G (Zd aj H 0 Z Z Z)<|ZG<|G (Zf fg Z)<|ZG<|G (Zd aj H 2 Z Z Z)<|ZG ?_
 refine cU (bl Z Z) Z Z Z (fun h119=> ?_) (fun h119=> ?_)
 refine G (Kt Z Z)<|G (Yb Z)<|ZG<|G (Zf eC Z)<|ZG<|G (Zd aj H 0 Z Z Z)<|ZG<|G (Zf eC Z)<|ZG<|G (Zd aj H 2 Z Z Z)<|ZG ?_
 refine cU (bl Z Z) Z Z Z (fun h126=> ?_) (fun h126=> ?_)
 refine G (Kt Z Z)<|G (Yb Z)<|ZG<|G (Zf fa Z)<|ZG<|G (Zd aj H 0 Z Z Z)<|ZG<|G (Zf fa Z)<|ZG<|G (Zd aj H 2 Z Z Z)<|ZG ?_
 refine cU (bl Z Z) Z Z Z (fun h133=> ?_) (fun h133=> ?_)
 refine G (Kt Z Z)<|U<|ZT Z<|W<|Zr<|G (Yi Z)<|G (Wi Z)<|G (Wi Z)<|U<|Zt ?_
 replace h95: ¬ 0<x.seq:=by omega
 replace h103: ¬ x.seq=0:=by omega
 have hdup:=FZ e21.at_ (by simp[na,h113,h119,h126,h133]) hno
 have hv:ie es x=((i:Int),0):=by
  unfold ie;rw[if_neg h11,<-hp];unfold pX;simp[h30,h34,h84,h95,h103,hdup]
 exact mj (v:=J ((i:Int))) (v2:=J 0) Z Z Z ⟨by rw[hv],H.below⟩
 refine G (Kt Z Z)<|U<|ZF Z<|Zk<|Zr<|G (bu Z Z I I)<|G (Yi Z)<|U ?_
 refine⟨i+1,⟨by omega,fun j e hj he=> ?_,H.forget (aX _ _) (fun _ h=>h)⟩,dK Z,Qg,by show es.length- (i+1)<es.length-i;omega⟩
 by_cases hji:j<i
 exact hno j e hji he
 have:j=i:=by omega
 subst this;have he2:=e21.at_;rw[he]at he2;injection he2 with he2;subst he2
 simp[na,h113,h119,h126,h133]
 refine G (Kt Z Z)<|G (Yb Z)<|ZN<|ZN<|ZN<|ZN<|ZN<|G (N Z Z)<|U<|ZF Z<|Zk<|Zr<|G (bu Z Z I I)<|G (Yi Z)<|U ?_
 refine⟨i+1,⟨by omega,fun j e hj he=> ?_,H.forget (aX _ _) (fun _ h=>h)⟩,dK Z,Qg,by show es.length- (i+1)<es.length-i;omega⟩
 by_cases hji:j<i
 exact hno j e hji he
 have:j=i:=by omega
 subst this;have he2:=e21.at_;rw[he]at he2;injection he2 with he2;subst he2
 simp[na,h113,h119,h126]
 refine G (Kt Z Z)<|G (Yb Z)<|ZN<|ZN<|ZN<|ZN<|ZN<|G (N Z Z)<|G (Yb Z)<|ZN<|ZN<|ZN<|ZN<|ZN<|G (N Z Z)<|U<|ZF Z<|Zk<|Zr<|G (bu Z Z I I)<|G (Yi Z)<|U ?_
 refine⟨i+1,⟨by omega,fun j e hj he=> ?_,H.forget (aX _ _) (fun _ h=>h)⟩,dK Z,Qg,by show es.length- (i+1)<es.length-i;omega⟩
 by_cases hji:j<i
 exact hno j e hji he
 have:j=i:=by omega
 subst this;have he2:=e21.at_;rw[he]at he2;injection he2 with he2;subst he2
 simp[na,h113,h119]
 refine G (Yb Z)<|ZN<|ZN<|ZN<|ZN<|ZN<|G (N Z Z)<|G (Yb Z)<|ZN<|ZN<|ZN<|ZN<|ZN<|G (N Z Z)<|G (Yb Z)<|ZN<|ZN<|ZN<|ZN<|ZN<|G (N Z Z)<|U<|ZF Z<|Zk<|Zr<|G (bu Z Z I I)<|G (Yi Z)<|U ?_
 refine⟨i+1,⟨by omega,fun j e hj he=> ?_,H.forget (aX _ _) (fun _ h=>h)⟩,dK Z,Qg,by show es.length- (i+1)<es.length-i;omega⟩
 by_cases hji:j<i
 exact hno j e hji he
 have:j=i:=by omega
 subst this;have he2:=e21.at_;rw[he]at he2;injection he2 with he2;subst he2
 simp[na,h113]
 refine U<|W<|ZF Z<|Zx<|W<|Zr<|G (Wi Z)<|G (Wi Z)<|U<|Zt ?_
 replace h95: ¬ 0<x.seq:=by omega
 replace h103: ¬ x.seq=0:=by omega
 have hdup:=F3 (x:=x) (es:=es) (fun j e hj he=>hno j e I he)
 have hv:ie es x=(0,11):=by
  unfold ie;rw[if_neg h11,<-hp];unfold pX;simp[h30,h34,h84,h95,h103,hdup]
 exact mj (v:=J (0)) (v2:=J 11) Z Z Z ⟨by rw[hv],H.below⟩
 refine aw Z Z Z Z Z (fun w' hw'=>Wb Z)<|aT ?_
 intro w24 hw' hF
 replace H:=H.later hw';clear hw' hF
 refine U<|ZF Z<|Zk<|W<|W ?_
 refine bB bY [0,1,2,3,4,5,6,7] [] [] [0,2,3,4,6,7] (sp []) N N N N Nq (cH _) ?_
 refine aw Z Z Z Z Z (fun w' hw'=>Zf fa Z)<|aw Z Z Z Z Z (fun w' hw'=>aV aj Z (aC ((H.later hw').ent (i:=1) Z) Z))<|aw Z Z Z Z Z (fun w' hw'=>Yp Z)<|aw Z Z Z Z Z (fun w' hw'=>aK Z)<|aw Z Z Z Z Z (fun w' hw'=>Zf fk Z)<|aw Z Z Z Z Z (fun w' hw'=>aV aj Z (aC ((H.later hw').ent (i:=0) Z) Z))<|aw Z Z Z Z Z (fun w' hw'=>bu Z Z I I) ?_
 refine Bx Z Z Z Z Z (fun w' hw'=>kg Z Z) (fun h95=> ?_) (fun h95=> ?_)
 refine aT ?_
 intro w25 hw' hF
 replace H:=H.later hw';clear hw' hF
 refine U<|ZT Z<|W<|Zr<|G (Wi Z)<|G (Wi Z)<|U<|Zt ?_
 have hv:ie es x=(0,11):=by
  unfold ie;rw[if_neg h11,<-hp];unfold pX;simp[h30,h34,h84,h95]
 exact mj (v:=J (0)) (v2:=J 11) Z Z Z ⟨by rw[hv],H.below⟩
 refine aT ?_
 intro w26 hw' hF
 replace H:=H.later hw';clear hw' hF
 refine U<|ZF Z<|Zk<|W<|W ?_
 refine bB bY [0,1,2,3,4,5,6,7] [] [] [0,2,3,4,6,7] (sp []) N N N N Nq (cH _) ?_
 refine aw Z Z Z Z Z (fun w' hw'=>Zf fa Z)<|aw Z Z Z Z Z (fun w' hw'=>aV aj Z (aC ((H.later hw').ent (i:=1) Z) Z))<|aw Z Z Z Z Z (fun w' hw'=>Yp Z)<|aw Z Z Z Z Z (fun w' hw'=>aK Z)<|aw Z Z Z Z Z (fun w' hw'=>Zf fk Z)<|aw Z Z Z Z Z (fun w' hw'=>aV aj Z (aC ((H.later hw').ent (i:=0) Z) Z))<|aw Z Z Z Z Z (fun w' hw'=>bu Z Z I I) ?_
 refine Bx Z Z Z Z Z (fun w' hw'=>bl Z Z) (fun h103=> ?_) (fun h103=> ?_)
 refine aT ?_
 intro w27 hw' hF
 replace H:=H.later hw';clear hw' hF
 refine U<|ZT Z<|W<|Zr<|G (Wi Z)<|G (Wi Z)<|U<|Zt ?_
 have hv:ie es x=(-1,0):=by
  unfold ie;rw[if_neg h11,<-hp];unfold pX;simp[h30,h34,h84,h95,h103]
 exact mj (v:=J (-1)) (v2:=J 0) Z Z Z ⟨by rw[hv],H.below⟩
 refine aT ?_
 intro w28 hw' hF
 replace H:=H.later hw';clear hw' hF
 refine U<|ZF Z<|Zk<|W<|W<|Zr<|G (Ys Z)<|G (bn dM Z)<|G (Yi Z)<|U<|Zb ?_
 refine ce (τ:=Nat) [4,5,7,8,106,107,108,109,110,111,112,113,114,115,116,117,118,119,120,121,122,123,124,125,126,127,128,129,130,131,132,133,134,135,136] (fun i=>[(106,J (i:Nat))]) (fun i w'=>i<=es.length/\(∀ j e,j<i->es[j]? =some e->na x e=false)/\Hp w w' ((b,.cells #[J pv_,J ps,J po,J pm] lR (0,0))::(b3,.cells (cN.c x).toArray cZ (0,0))::K) [dA gk 0 w.heap.size A es]) (fun i=>es.length-i) 0 ⟨by omega,by intro j e hj;omega,H⟩ (dK Z) ?_
 rintro i ρ3 w29 ⟨hi,hno,H⟩
 show CW _ _ _ _ (dB (gJ _ _ ρ3) [(106,J (i:Nat))]) w29
 refine W<|Zr ?_
 refine cU (cG Z Z) Z Z Z (fun h107=> ?_) (fun h107=> ?_)
 refine U<|W<|ZT Z<|Zk<|W<|Zb<|W<|Zr<|G (Yi Z)<|pI H 0 Z dg Z Z I I Z fun b30 o30 x30 e30=>G (iw (xs:=cN.c x30) dw Z Z e30.cl)<|ey H gi Z fun w31 b8 H=>G (Wi Z)<|Kr H 0 eS Z Z Z Z Z Z fun w32 H=>U<|W<|Zr<|G (Zf eZ Z)<|G (Zd aj H 0 Z Z Z) ?_
 refine cU (bl Z Z) Z Z Z (fun h113=> ?_) (fun h113=> ?_)
 refine G (Yb Z)<|ZG<|G (Zf fg Z)<|ZG<|G (Zd aj H 0 Z Z Z)<|ZG<|G (Zf fg Z)<|ZG<|G (Zd aj H 2 Z Z Z)<|ZG ?_
 refine cU (bl Z Z) Z Z Z (fun h119=> ?_) (fun h119=> ?_)
 refine G (Kt Z Z)<|G (Yb Z)<|ZG<|G (Zf eC Z)<|ZG<|G (Zd aj H 0 Z Z Z)<|ZG<|G (Zf eC Z)<|ZG<|G (Zd aj H 2 Z Z Z)<|ZG ?_
 refine cU (bl Z Z) Z Z Z (fun h126=> ?_) (fun h126=> ?_)
 refine G (Kt Z Z)<|G (Yb Z)<|ZG<|G (Zf fa Z)<|ZG<|G (Zd aj H 0 Z Z Z)<|ZG<|G (Zf fa Z)<|ZG<|G (Zd aj H 2 Z Z Z)<|ZG ?_
 refine cU (bl Z Z) Z Z Z (fun h133=> ?_) (fun h133=> ?_)
 refine G (Kt Z Z)<|U<|ZT Z<|W<|Zr<|G (Yi Z)<|G (Wi Z)<|G (Wi Z)<|U<|Zt ?_
 have hdup:=FZ e30.at_ (by simp[na,h113,h119,h126,h133]) hno
 have hv:ie es x=((i:Int),0):=by
  unfold ie;rw[if_neg h11,<-hp];unfold pX;simp[h30,h34,h84,h95,h103,hdup]
 exact mj (v:=J ((i:Int))) (v2:=J 0) Z Z Z ⟨by rw[hv],H.below⟩
 refine G (Kt Z Z)<|U<|ZF Z<|Zk<|Zr<|G (bu Z Z I I)<|G (Yi Z)<|U ?_
 refine⟨i+1,⟨by omega,fun j e hj he=> ?_,H.forget (aX _ _) (fun _ h=>h)⟩,dK Z,Qg,by show es.length- (i+1)<es.length-i;omega⟩
 by_cases hji:j<i
 exact hno j e hji he
 have:j=i:=by omega
 subst this;have he2:=e30.at_;rw[he]at he2;injection he2 with he2;subst he2
 simp[na,h113,h119,h126,h133]
 refine G (Kt Z Z)<|G (Yb Z)<|ZN<|ZN<|ZN<|ZN<|ZN<|G (N Z Z)<|U<|ZF Z<|Zk<|Zr<|G (bu Z Z I I)<|G (Yi Z)<|U ?_
 refine⟨i+1,⟨by omega,fun j e hj he=> ?_,H.forget (aX _ _) (fun _ h=>h)⟩,dK Z,Qg,by show es.length- (i+1)<es.length-i;omega⟩
 by_cases hji:j<i
 exact hno j e hji he
 have:j=i:=by omega
 subst this;have he2:=e30.at_;rw[he]at he2;injection he2 with he2;subst he2
 simp[na,h113,h119,h126]
 refine G (Kt Z Z)<|G (Yb Z)<|ZN<|ZN<|ZN<|ZN<|ZN<|G (N Z Z)<|G (Yb Z)<|ZN<|ZN<|ZN<|ZN<|ZN<|G (N Z Z)<|U<|ZF Z<|Zk<|Zr<|G (bu Z Z I I)<|G (Yi Z)<|U ?_
 refine⟨i+1,⟨by omega,fun j e hj he=> ?_,H.forget (aX _ _) (fun _ h=>h)⟩,dK Z,Qg,by show es.length- (i+1)<es.length-i;omega⟩
 by_cases hji:j<i
 exact hno j e hji he
 have:j=i:=by omega
 subst this;have he2:=e30.at_;rw[he]at he2;injection he2 with he2;subst he2
 simp[na,h113,h119]
 refine G (Yb Z)<|ZN<|ZN<|ZN<|ZN<|ZN<|G (N Z Z)<|G (Yb Z)<|ZN<|ZN<|ZN<|ZN<|ZN<|G (N Z Z)<|G (Yb Z)<|ZN<|ZN<|ZN<|ZN<|ZN<|G (N Z Z)<|U<|ZF Z<|Zk<|Zr<|G (bu Z Z I I)<|G (Yi Z)<|U ?_
 refine⟨i+1,⟨by omega,fun j e hj he=> ?_,H.forget (aX _ _) (fun _ h=>h)⟩,dK Z,Qg,by show es.length- (i+1)<es.length-i;omega⟩
 by_cases hji:j<i
 exact hno j e hji he
 have:j=i:=by omega
 subst this;have he2:=e30.at_;rw[he]at he2;injection he2 with he2;subst he2
 simp[na,h113]
 refine U<|W<|ZF Z<|Zx<|W<|Zr<|G (Wi Z)<|G (Wi Z)<|U<|Zt ?_
 have hdup:=F3 (x:=x) (es:=es) (fun j e hj he=>hno j e I he)
 have hv:ie es x=(0,11):=by
  unfold ie;rw[if_neg h11,<-hp];unfold pX;simp[h30,h34,h84,h95,h103,hdup]
 exact mj (v:=J (0)) (v2:=J 11) Z Z Z ⟨by rw[hv],H.below⟩
def EG (es:List cN) (n i:Nat):List ByteArray:=match es[i]? with
 |some e=>if e.kind=1/\yH (es.take n) i e=true then [e.text]else []
 |none=>[]
def texts (es:List cN) (n a b:Nat):List ByteArray:=(List.range' a (b-a)).flatMap (EG es n)
theorem Gx (es:List cN) (n a:Nat):texts es n a a=[]:=by simp[texts]
theorem vQ {es:List cN} {n a b:Nat} (h:a<=b):texts es n a (b+1)=texts es n a b++EG es n b:=by
 unfold texts
 have e:b+1-a=(b-a)+1:=by omega
 rw[e,List.range'_1_concat,m0]
 have e2:a+(b-a)=b:=by omega
 simp[e2]
def Br (es:List cN) (n st a most:Nat) (out:List ByteArray) (b:Nat):Prop:=a<=b/\(b=a∨b<=st)/\out=texts es n a b/\out.length<=most/\(st<=b∨out.length=most)/\ ∀ bq_,a<=bq_->bq_<b->(texts es n a bq_).length<most
theorem MQ (es:List cN) (A:Option Addr) (c n a most:Nat) (w:World) (hr:Rd gk 0 w.heap.size A es w) (hc:es.length<=c) (hb:es.length<=1000000) (hn:n<=es.length) (ha:a<=es.length) (hm1:1<=most) (hm2:most<=20):
  dd aa yJ [.slice A es.length c,J (n:Nat),J (a:Nat),J (most:Nat)] w fun v w2=> ∃ (st:Nat) (out:List ByteArray) (b:Nat) (A':Option Addr) (c':Nat),tV (es.take n) st/\Br es n st a most out b/\v=.tuple #[.slice A' out.length c',J (b:Nat),J 0]/\Rd nk w.heap.size w2.heap.size A' out w2/\out.length<=c'/\Below w.heap.size w w2:=by
 refine aF xa Z Z ?_
 have H:=Hp.startRd hr
 refine W<|Zr<|G (Ws Z)<|G (Wi Z)<|G (Wi Z)<|U<|W<|Zr<|G (Ys Z)<|G (Yi Z)<|bW uh (Cz es _ _ n _ (H.rd0 0 Z) hc hb hn) Z Z ?_
 rintro _ w1 ⟨st,hst,rfl,hb2⟩;replace H:=H.later hb2;clear hb2
 have hstl:st<=n:=by have:=hst.1;simp at this;omega
 refine G (Yu Z)<|G (Xi Z Z)<|G (Xi Z Z)<|G (Wi Z)<|G (Wi Z)<|U<|W<|W<|Zr<|G (Yi Z)<|G (bV Z Z Z)<|U<|ZF Z<|Zk<|W<|W<|Zr<|G (Yi Z)<|G (da Z Z I)<|G (Yb Z)<|ZG<|G (Yi Z)<|ZG<|G (Ys Z)<|ZG<|G (bn dM Z)<|ZG<|G (eh Z Z I)<|G (N Z Z)<|G (Yb Z)<|ZG<|G (Yi Z)<|ZG<|G (da Z Z I)<|G (N Z Z)<|G (Yb Z)<|ZG<|G (Yi Z)<|ZG<|G (eh Z Z I) ?_
 refine G (N Z Z)<|U<|ZF Z<|Zk<|W<|Zr<|G (Ws Z)<|U<|W<|Zr<|G (Yi Z)<|G (Wi Z)<|U<|W<|Zb ?_
 refine ce (τ:=Nat×List ByteArray×Option Addr×Nat) [13,14,41,42,43,44,45,46,47,48,49,50,51,52,53,54,55,56,57,58,59,60,61,62,63,64,65,66,67,68,69,70,71,72] (fun(at_,out,A1,c1)=>[(13,.slice A1 out.length c1),(14,J (at_:Nat))]) (fun(at_,out,A1,c1) w'=>a<=at_/\(at_=a∨at_<=st)/\out=texts es n a at_/\out.length<=most/\(∀ bq_,a<=bq_->bq_<at_->(texts es n a bq_).length<most)/\ ∃ L',f4 nk (.slice A1 out.length c1) kH out L'/\Hp w w' ([]++L'++[]) [dA gk 0 w.heap.size A es]) (fun(at_,_,_,_)=>st-at_) (a,[],none,0) ⟨by omega,.inl Z,(Gx _ _ _).symm,by simp,(fun _ _ _=>by omega),[],f4.nil,H⟩ (lh Z Z) ?_
 rintro⟨at_,out,A1,c1⟩ ρ1 w2 ⟨hat1,hat2,hout,hol,hmin,L1,ho,H⟩
 show CW _ _ _ _ (dB (gJ _ _ ρ1) [(13,.slice A1 out.length c1),(14,J (at_:Nat))]) w2
 refine W<|W<|Zr<|G (Yi Z)<|G (Yi Z) ?_
 refine cU (cG Z Z) Z Z Z (fun h43=> ?_) (fun h43=> ?_)
 refine G (Yb Z)<|ZG<|G (Ys Z)<|ZG<|G (bn lV Z)<|ZG<|G (Yi Z)<|ZG ?_
 refine cU (cG Z Z) Z Z Z (fun h48=> ?_) (fun h48=> ?_)
 refine G (Kt Z Z)<|U<|ZT Z<|Zk<|W<|Zb<|W<|Zr<|G (Ys Z)<|G (Yi Z)<|pI H 0 Z dg Z Z I I Z fun b3 o3 x3 e3=> ?_
 have hxt:(es.take n)[at_]? =some x3:=by rw[fE I];exact e3.at_
 refine G (Zf eZ Z)<|G (aV aj Z (e3.cl 4 _ Z)) ?_
 refine cU (bl Z Z) Z Z Z (fun h57=> ?_) (fun h57=> ?_)
 refine G (Yb Z)<|ZG<|G (Ys Z)<|ZG<|G (Yi Z)<|ZG<|nn (k:=n) H 0 Z dg Z Z hc I Z fun A61 H=>ZG ?_
 have hK:=Ni (es.take n) A61 c at_ x3 _ (H.rd0 0 Z) hxt (by simp;omega) (by simp;omega)
 rw[show(es.take n).length=n by simp;omega]at hK
 refine G (Yi Z)<|ZG<|bW Eg (hK) Z Z ?_
 rintro _ w4 ⟨rfl,hb2⟩;replace H:=H.later hb2;clear hb2
 refine G (Kt Z Z)<|U ?_
 refine jq Z (fun hc64=> ?_) (fun hc64=> ?_)
 refine Zr<|G (Ys Z)<|G (Ys Z)<|G (Yi Z)<|pI H 1 Z dg Z Z I I Z fun b5 o5 x5 e5=>G (Zf qj Z)<|G (aV bc Z (e5.cl 6 _ Z))<|tf (vs:=[.string x5.text]) H ik ww Z Z Z Z Z Z fun w6 b71 H=> ?_
 have hxx:x5=x3:=by have h1:=e3.at_;rw[e5.at_]at h1;injection h1
 refine vf (Y:=nk) wk (K:=[(b71,_)]) (L:=L1) (M:=[]) H ho (news:=[x5.text]) Z Z Z (wr.row (m:=1) (sz:=1) (H.ent (i:=0) Z) Z) (by simp only[bQ];omega) Z ?_
 intro A3 c3 w7 L3 h3a _ ho3 H
 refine G (Ws Z)<|U<|Zr<|G (Yi Z)<|G (bu Z Z I I)<|G (Wi Z)<|U ?_
 have hvis:EG es n at_=[x5.text]:=by unfold EG;rw[e3.at_];simp only;rw[if_pos ⟨h57,hc64⟩,hxx]
 refine⟨(at_+1,out++[x5.text],A3,c3),⟨by omega,.inr I,by rw[vQ hat1,hvis,hout],by simp;omega,(fun bq_ h1 h2=>by rcases iJ bq_ at_ with h3|h3;exact hmin bq_ h1 h3;rw[show bq_=at_ by omega,<-hout];omega),L3,ho3,H.forget (by simp) (by simp)⟩,lh Z Z,Qg,by show st- (at_+1)<st-at_;omega⟩
 refine Zk<|Zr<|G (Yi Z)<|G (bu Z Z I I)<|G (Wi Z)<|U ?_
 have hvis:EG es n at_=[]:=by unfold EG;rw[e3.at_];simp only;rw[if_neg (by rintro⟨p,q⟩;first|exact h57 p|(rw[hc64]at q;cases q))]
 refine⟨(at_+1,out,A1,c1),⟨by omega,.inr I,by rw[vQ hat1,hvis,hout,aY],hol,(fun bq_ h1 h2=>by rcases iJ bq_ at_ with h3|h3;exact hmin bq_ h1 h3;rw[show bq_=at_ by omega,<-hout];omega),L1,ho,H.forget (by simp) (by simp)⟩,lh Z Z,Qg,by show st- (at_+1)<st-at_;omega⟩
 refine G (Yb Z)<|ZN<|ZN<|ZN<|ZN<|ZN<|G (N Z Z)<|U<|ZF Z<|Zk<|Zr<|G (Yi Z)<|G (bu Z Z I I)<|G (Wi Z)<|U ?_
 have hvis:EG es n at_=[]:=by unfold EG;rw[e3.at_];simp only;rw[if_neg (by rintro⟨p,q⟩;first|exact h57 p|(rw[hc64]at q;cases q))]
 refine⟨(at_+1,out,A1,c1),⟨by omega,.inr I,by rw[vQ hat1,hvis,hout,aY],hol,(fun bq_ h1 h2=>by rcases iJ bq_ at_ with h3|h3;exact hmin bq_ h1 h3;rw[show bq_=at_ by omega,<-hout];omega),L1,ho,H.forget (by simp) (by simp)⟩,lh Z Z,Qg,by show st- (at_+1)<st-at_;omega⟩
 refine G (Kt Z Z)<|U<|ZF Z<|Zx<|W<|Zr<|G (Ys Z)<|G (Yi Z)<|G (Ws Z)<|G (Wi Z)<|G (Wi Z)<|U<|Zt ?_
 obtain⟨A2,c2,he,hlc,-⟩:=ho.form
 injection he with h1 h2 h3
 subst h3
 exact Ho Z Z Z Z ⟨st,out,at_,A1,c1,hst,⟨hat1,hat2,hout,hol,by omega,hmin⟩,rfl,ho.rd H,hlc,H.below⟩
 refine G (Yb Z)<|ZN<|ZN<|ZN<|ZN<|G (N Z Z)<|U<|ZF Z<|Zx<|W<|Zr<|G (Ys Z)<|G (Yi Z)<|G (Ws Z)<|G (Wi Z)<|G (Wi Z)<|U<|Zt ?_
 obtain⟨A2,c2,he,hlc,-⟩:=ho.form
 injection he with h1 h2 h3
 subst h3
 exact Ho Z Z Z Z ⟨st,out,at_,A1,c1,hst,⟨hat1,hat2,hout,hol,by omega,hmin⟩,rfl,ho.rd H,hlc,H.below⟩
/-- what IndexFunc answers -/
def lL:Option Nat->Int
 |some i=>i
 |none=> -1
theorem Rd.blk {α:Type} {Y:fi α} {w:World} {b:Nat} {cs:Array Value} {T:TypeId} {fr:Nat×Nat} {es:List α} (h:w.heap[b]? =some (.cells cs T fr)) (hc:cs.toList=Y.all es):Rd Y 0 w.heap.size (Qd b) es w:=
 fun _=>⟨b,0,rfl,bD _,cd h,fun j u hj=>by rw[cI];exact aC h (by rw[<-hc]at hj;simpa using hj)⟩
def OD:cN:=⟨0,0,0,0,1,false,⟨#[97]⟩⟩
inductive Gj:List cN->Prop
 |nil:Gj []
 |snoc {es:List cN} {x:cN}:Gj es->(ie es x).2=0->(ie es x).1<0->Gj (es++[x])
theorem Gj.take {es:List cN} (h:Gj es): ∀ k,Gj (es.take k):=by
 induction h with
 |nil=>intro k;simp;exact .nil
 |@snoc es x h h1 h2 ih=>
  intro k
  by_cases hk:k<=es.length
  rw[fA hk];exact ih k
  rw[gg (by simp;omega)];exact .snoc h h1 h2
theorem IT {es:List cN} (h: ∀ e∈es,rM e):seqB es:=fun e he=>by
 obtain⟨_,_,h3,_⟩:=qQ (h e he)
 have:=h3 e.seq (by simp[cN.nums])
 omega
def later (es:List cN) (k:Nat) (x:cN):Bool:=(es.drop k).any fun y=>decide (y.pid=x.pid)&&decide (x.ver<y.ver)
theorem B8 (es:List UInt8) (A:Option Addr) (c:Nat) (w:World) (hr:Rd dF 0 w.heap.size A es w) (hb:es.length*1<=140737488355328):
  dd aa kS [.slice A es.length c] w fun v w2=> ∃ A' c' L',v=.slice A' es.length c'/\es.length<=c'/\c'<=maxLen/\f4 dF (.slice A' es.length c') mU es L'/\Hp w w2 L' []:=by
 refine aF qe Z Z ?_
 have H:=Hp.startRd hr
 refine W<|Zr<|G (Ws Z)<|U<|W<|W<|Zr<|G (Ys Z) ?_
 refine wq (pB eL Z) Z Z Z (fun h4=> ?_) (fun h4=> ?_)
 refine U<|ZT Z<|W<|Zr<|G (Ws Z)<|U<|Zt ?_
 have he:es=[]:=by
  cases es with
  |nil=>rfl
  |cons e es=>obtain⟨b,o,hA,_⟩:=hr (by simp);subst hA;cases h4
 subst he
 exact cy Z Z ⟨none,0,[],rfl,by simp,by decide,f4.nil,H.forget (by simp) (by simp)⟩
 refine U<|ZF Z<|Zk<|W<|Zr<|NF H d8 Z fun w1 b5 H=>G (Ys Z)<|vf (Y:=dF) oK (K:=[]) (L:=[(b5,_)]) (M:=[]) H (rL.lit (by decide) (by rfl)) (es:=[]) (news:=es) Z Z Z (Rd.src (H.fact (i:=0) Z)) (by simpa using hb) Z ?_
 intro A3 c3 w3 L3 h3a h3b ho3 H
 refine G (Ws Z)<|U<|Zt ?_
 exact cy Z Z ⟨A3,c3,L3,rfl,h3a,h3b,ho3,H.forget (by simp) (by simp)⟩
theorem sY (es:List Int) (A:Option Addr) (c:Nat) (w:World) (hr:Rd bS 0 w.heap.size A es w) (hb:es.length*8<=140737488355328):
  dd aa lW [.slice A es.length c] w fun v w2=> ∃ A' c' L',v=.slice A' es.length c'/\es.length<=c'/\c'<=maxLen/\f4 bS (.slice A' es.length c') cY es L'/\Hp w w2 L' []:=by
 refine aF rx Z Z ?_
 have H:=Hp.startRd hr
 refine W<|Zr<|G (Ws Z)<|U<|W<|W<|Zr<|G (Ys Z) ?_
 refine wq (pB eG Z) Z Z Z (fun h4=> ?_) (fun h4=> ?_)
 refine U<|ZT Z<|W<|Zr<|G (Ws Z)<|U<|Zt ?_
 have he:es=[]:=by
  cases es with
  |nil=>rfl
  |cons e es=>obtain⟨b,o,hA,_⟩:=hr (by simp);subst hA;cases h4
 subst he
 exact cy Z Z ⟨none,0,[],rfl,by simp,by decide,f4.nil,H.forget (by simp) (by simp)⟩
 refine U<|ZF Z<|Zk<|W<|Zr<|NF H ba Z fun w1 b5 H=>G (Ys Z)<|vf (Y:=bS) zt (K:=[]) (L:=[(b5,_)]) (M:=[]) H (rL.lit (by decide) (by rfl)) (es:=[]) (news:=es) Z Z Z (Rd.src (H.fact (i:=0) Z)) (by simpa using hb) Z ?_
 intro A3 c3 w3 L3 h3a h3b ho3 H
 refine G (Ws Z)<|U<|Zt ?_
 exact cy Z Z ⟨A3,c3,L3,rfl,h3a,h3b,ho3,H.forget (by simp) (by simp)⟩

/-- a row of rows of bytes -/
abbrev RB:=Option Addr×List UInt8×Nat
def Kz:fi RB:=⟨fun p=>[.slice p.1 p.2.1.length p.2.2],1,fun _=>rfl,by decide,fun a u hu=>by
 simp only[av,bo,or_false]at hu
 subst hu;rfl⟩
def xB (ps:List RB):List UInt8:=ps.flatMap fun p=>p.2.1
theorem un {ps:List RB} {k:Nat} {p:RB} (h:ps[k]? =some p):xB (ps.take (k+1))=xB (ps.take k)++p.2.1:=by
 rw[fe h];simp[xB]
theorem Ep (ps:List RB) (k:Nat):(xB (ps.take k)).length<=(xB ps).length:=by
 have:xB ps=xB (ps.take k)++xB (ps.drop k):=by unfold xB;rw[<-m0,gQ]
 rw[this];simp
theorem Ja {g cp:Nat} {cur:Array Value} (h:cur.size=cp*1) (hm:cp<=maxLen):f4 dF (.slice (Qd g) 0 cp) mU [] [(g,.cells cur mU (0,0))]:=
 ⟨by simp[fi.all],.inr ⟨g,cp,cur,rfl,rfl,bD _,hm,h,by simp[fi.all]⟩⟩
theorem Ns (n:Nat) (w:World) (hn:n<=1000000):dd aa rm [.slice none 0 0,J (n:Nat)] w fun v w2=> ∃ A' c' L',v=.slice A' 0 c'/\f4 dF (.slice A' 0 c') mU [] L'/\Hp w w2 L' []:=by
 refine aF qC Z Z ?_
 have H:=Hp.start w
 refine W<|Zr<|G (Ws Z)<|U<|W<|W<|Zr<|G (Yi Z)<|G (da Z Z I)<|U<|ZF Z<|Zk<|W<|W<|Zr<|G (Yi Z)<|G (Ys Z)<|G (Er eL Z)<|G (Ys Z)<|G (bn eL Z)<|G (m8 Z Z I I)<|G (m8 Z Z I I)<|G (Wi Z)<|U<|W<|Zr<|G (Yi Z) ?_
 refine cU (kg Z Z) Z Z Z (fun h16=> ?_) (fun h16=> ?_)
 refine U<|ZT Z<|Zr<|G (Ys Z)<|G (Ys Z)<|G (Er eL Z)<|G (Ds (i:=0) d8 Z Z I I)<|G (Yi Z)<|QB (m:=n) oK iq H Z (by show Value.int .i64 _=_;congr 1) I I Z fun w1 g cp cur hcs hncp hcpm H=>G (Ys Z)<|G (bn eL Z)<|zL d8 Z Z I I Z fun A25 hA25=> ?_
 obtain rfl:=hA25 I
 refine G (Ws Z)<|U<|W<|Zr<|G (Ys Z)<|G (Ws Z)<|U<|Zt ?_
 exact cy Z Z ⟨_,_,_,rfl,Ja hcs hcpm,H⟩
 refine U<|ZF Z<|Zk<|W<|Zr<|G (Ys Z)<|G (Ws Z)<|U<|Zt ?_
 exact cy Z Z ⟨none,0,[],rfl,f4.nil,H⟩
theorem uT (ps:List RB) (A:Option Addr) (c:Nat) (w:World) (hr:Rd Kz 0 w.heap.size A ps w) (hp: ∀ p∈ps,Rd dF 0 w.heap.size p.1 p.2.1 w) (hb:(xB ps).length<=1000000) (hl:ps.length<=1000):
  dd aa qb [.slice A ps.length c] w fun v w2=> ∃ A' c' L',v=.slice A' (xB ps).length c'/\(xB ps).length<=c'/\c'<=maxLen/\f4 dF (.slice A' (xB ps).length c') mU (xB ps) L'/\Hp w w2 L' []:=by
 refine aF pP Z Z ?_
 have H:=Hp.startRd hr
 refine W<|Zr<|G (Ws Z)<|U<|W<|Zr<|G (Wi Z)<|U<|W<|W<|Zr<|G (Ys Z)<|G (bn Aj Z)<|G (Yi Z)<|U<|Zb ?_
 refine ce (τ:=Nat) [3,5,11,12,13,14,15,16,17,18,19,20,21,22] (fun k=>[(3,J ((xB (ps.take k)).length:Nat)),(11,J (k:Nat))]) (fun k w'=>k<=ps.length/\Hp w w' [] [dA Kz 0 w.heap.size A ps]) (fun k=>ps.length-k) 0 ⟨by omega,H⟩ (lh Z Z) ?_
 rintro k ρ1 w1 ⟨hk,H⟩
 show CW _ _ _ _ (dB (gJ _ _ ρ1) [(3,J ((xB (ps.take k)).length:Nat)),(11,J (k:Nat))]) w1
 have hle:=Ep ps k
 refine W<|Zr ?_
 refine cU (cG Z Z) Z Z Z (fun h12=> ?_) (fun h12=> ?_)
 refine U<|W<|ZT Z<|Zk<|W<|Zb<|W<|Zr<|pI H 0 Z rS Z Z I I Z fun b2 o2 x2 e2=> ?_
 have hle2:=Ep ps (k+1)
 rw[un e2.at_,ay]at hle2
 refine G (aV d7 Z (e2.cl 0 _ Z))<|G (Ws Z)<|U<|W<|Zr<|G (Yi Z)<|G (Ys Z)<|G (bn eL Z)<|G (bu Z Z I I)<|G (Wi Z)<|U<|W<|Zr<|G (Yi Z)<|G (da Z Z I)<|U<|ZF Z<|Zk<|Zr<|G (bu Z Z I I)<|G (Yi Z)<|U ?_
 refine⟨k+1,⟨by omega,H⟩,lh (by rw[un e2.at_,ay];rfl) Z,Qg,by show ps.length- (k+1)<ps.length-k;omega⟩
 refine U<|W<|ZF Z<|Zx<|W<|Zr<|G (Yi Z)<|bW qF (Ns (xB (ps.take k)).length _ I) Z Z ?_
 rintro _ w3 ⟨A24,c24,L24,rfl,ho24,hj24⟩;replace H:=H.join hj24;clear hj24
 refine G (Ws Z)<|U<|W<|W<|Zr<|G (Ys Z)<|G (bn Aj Z)<|G (Yi Z)<|U<|Zb ?_
 refine ce (τ:=Nat×Option Addr×Nat) [6,8,27,28,29,30,31,32,33,34] (fun(j,Ag,cg)=>[(6,.slice Ag (xB (ps.take j)).length cg),(27,J (j:Nat))]) (fun(j,Ag,cg) w'=>j<=ps.length/\ ∃ L',f4 dF (.slice Ag (xB (ps.take j)).length cg) mU (xB (ps.take j)) L'/\Hp w w' ([]++L'++[]) [dA Kz 0 w.heap.size A ps]) (fun(j,_,_)=>ps.length-j) (0,A24,c24) ⟨by omega,L24,ho24,by simpa using H⟩ (lh Z Z) ?_
 rintro⟨j,Ag,cg⟩ ρ2 w4 ⟨hj,L1,ho,H⟩
 show CW _ _ _ _ (dB (gJ _ _ ρ2) [(6,.slice Ag (xB (ps.take j)).length cg),(27,J (j:Nat))]) w4
 have hle:=Ep ps j
 refine W<|Zr ?_
 refine cU (cG Z Z) Z Z Z (fun h28=> ?_) (fun h28=> ?_)
 refine U<|W<|ZT Z<|Zk<|W<|Zb<|W<|Zr<|pI H 0 Z rS Z Z I I Z fun b5 o5 x5 e5=> ?_
 have hle2:=Ep ps (j+1)
 rw[un e5.at_,ay]at hle2
 have hpx:=(hp _ (ae e5.at_)).below H.below
 refine G (aV d7 Z (e5.cl 0 _ Z))<|G (Ws Z)<|U<|Zr<|G (Ys Z)<|G (Ys Z)<|vf (Y:=dF) oK (K:=[]) (L:=L1) (M:=[]) H ho (news:=x5.2.1) Z Z Z (Rd.src hpx) I Z ?_
 intro A3 c3 w6 L3 h3a _ ho3 H
 refine G (Ws Z)<|U<|Zr<|G (bu Z Z I I)<|G (Yi Z)<|U ?_
 refine⟨(j+1,A3,c3),⟨by omega,L3,by rw[un e5.at_];exact ho3,H⟩,lh (by rw[un e5.at_];rfl) Z,Qg,by show ps.length- (j+1)<ps.length-j;omega⟩
 refine U<|W<|ZF Z<|Zx<|W<|Zr<|G (Ys Z)<|G (Ws Z)<|U<|Zt ?_
 have hjp:j=ps.length:=by omega
 subst hjp
 rw[bL]at ho
 obtain⟨A2,c2,he,hlc,hmx⟩:=ho.form
 injection he with h1 h2 h3
 subst h3
 exact cy (v:=.slice Ag (xB (ps.take ps.length)).length cg) Z Z ⟨Ag,cg,L1,by rw[bL],hlc,hmx,ho,H.forget (by simp) (by simp)⟩
theorem IL {n:UInt8} {r:List UInt8} {e:cN} {k:Nat} (h:tH (n::r)=some (e,k)):k=n.toNat+3:=by
 simp only[tH]at h
 split at h;· cases h
 split at h;· cases h
 split at h
 injection h with h;injection h with h1 h2;exact h2.symm
 cases h
theorem JE {e:cN} (hg:rM e): ∃ n r,iB e=n::r/\n.toNat+3=(iB e).length:=by
 obtain⟨hl,_⟩:=uU hg
 refine⟨UInt8.ofNat (eM e).length,_,rfl,?_⟩
 rw[AY,zE _ I]
theorem Ko {e:cN} (hg:rM e) {k:Nat} (hk:k<(iB e).length) (rest:List UInt8):tH ((iB e++rest).take k)=none:=by
 obtain⟨n,r,he,hn⟩:=JE hg
 rw[fA I,he]
 cases k with
 |zero=>rfl
 |succ k=>
  rw[mZ]
  cases hs:tH (n::r.take k)with
  |none=>rfl
  |some p=>
   obtain⟨e',j⟩:=p
   have h1:=IL hs
   have h2:=(ME hs).2
   simp at h2
   omega
def tF:List cN->Nat->Nat
 |[],_=>0
 |e::es,k=>if(iB e).length<=k then 1+tF es (k- (iB e).length)else 0
theorem uM (e:cN) (es:List cN):bd (e::es)=iB e++bd es:=by simp[bd]
theorem F5: ∀ (es:List cN) (k:Nat),(∀ e∈es,rM e)->ID ((bd es).take k) (es.take (tF es k)) (bd (es.take (tF es k))).length
 |[],k,_=>by
  have:(bd []).take k=[]:=by simp[bd]
  rw[this]
  exact .stop Z
 |e::es,k,hg=>by
  have hge:=hg e (aB ..)
  rw[uM]
  unfold tF
  by_cases h:(iB e).length<=k
  rw[if_pos h,sm,mZ,uM,ay]
  have hd:=F5 es (k- (iB e).length) fun x hx=>hg x (ak _ hx)
  have e1:(iB e++bd es).take k=iB e++(bd es).take (k- (iB e).length):=by
   rw[List.take_append,gg h]
  rw[e1]
  exact .go (ER hge _) (by rw[List.drop_left];exact hd)
  rw[if_neg h]
  exact .stop (Ko hge I _)
theorem ED: ∀ (es:List cN) (k:Nat),tF es k<=es.length
 |[],_=>ao _
 |e::es,k=>by
  unfold tF
  split
  have:=ED es (k- (iB e).length);simp;omega
  exact bD _
theorem vk: ∀ (es:List cN) (k:Nat),(bd (es.take (tF es k))).length<=k
 |[],k=>by simp[bd]
 |e::es,k=>by
  unfold tF
  split
  rename_i h
  rw[sm,mZ,uM,ay]
  have:=vk es (k- (iB e).length)
  omega
  simp[bd]
theorem EE: ∀ (es:List cN) (k s:Nat),s<=es.length->(bd (es.take s)).length<=k->s<=tF es k
 |_,_,0,_,_=>bD _
 |[],_,s+1,h,_=>by simp at h
 |e::es,k,s+1,h,hk=>by
  rw[mZ,uM,ay]at hk
  unfold tF
  rw[if_pos I]
  have:=EE es (k- (iB e).length) s (by simpa using h) I
  omega
theorem Hn (es:List cN) (s:Nat):bd es=bd (es.take s)++bd (es.drop s):=by
 unfold bd;rw[<-m0,gQ]
theorem uz (es:List cN) (s:Nat):(bd es).take (bd (es.take s)).length=bd (es.take s):=by
 rw[Hn es s]
 exact List.take_left' Z
theorem LB (a b:List cN):bd (a++b)=bd a++bd b:=by simp[bd]
structure mW where
 A:Option Addr
 cap:Nat
 es:List cN
 s:Nat
abbrev fD (es:List cN) (s:Nat):Nat:=(bd (es.take s)).length
def mW.c (l:mW):List Value:=[.slice l.A (bd l.es).length l.cap,J (fD l.es l.s:Nat)]
structure GL (es:List cN) (s:Nat):Prop where
 good: ∀ e∈es,rM e
 len:es.length<=400
 sz:(bd es).length<=40000
 sle:s<=es.length
structure mW.ok (l:mW) (w:World):Prop where
 gl:GL l.es l.s
 cap:(bd l.es).length<=l.cap
 rd:Rd dF 0 w.heap.size l.A (bd l.es) w
theorem xi {es:List cN} {s:Nat} (h:GL es s):ID (bd (es.take s)) (es.take s) (fD es s):=ue _ fun e he=>h.good e (qw _ _ he)
theorem yy (l:mW) (w:World) (h:l.ok w):dd aa yK [.agg l.c.toArray] w fun v w2=>v=J 0/\Below w.heap.size w w2:=by
 refine aF D0 Z Z ?_
 have hgl:=h.gl
 have hcap:=h.cap
 have hsz:=hgl.sz
 have hln:=hgl.len
 have hsle:=hgl.sle
 have hss:fD l.es l.s<=(bd l.es).length:=ff l.es l.s
 have H:=Hp.startRd h.rd
 obtain⟨lA,lc,es,s⟩:=l
 dsimp only at hgl hcap hsz hln hsle hss H
 have hss2:(bd (es.take s)).length<=(bd es).length:=hss
 show CW _ _ _ _ (args [.agg #[.slice lA (bd es).length lc,J (fD es s:Nat)]]) w
 refine W<|Zr<|fX H Z Z fun w1 b1 H=>G (Wi Z)<|U<|W<|W<|Zr<|G (Zf gE Z)<|G (Zd d7 H 0 Z Z Z)<|G (bn eL Z)<|G (eh Z Z I)<|U<|ZF Z<|Zk<|W<|Zr<|G (Zf gE Z)<|G (Zd d7 H 0 Z Z Z)<|bW kz (r7 (bd es) _ _ _ (H.rd0 0 Z) hcap I) Z Z ?_
 have hlo14:=H.size
 rintro _ w2 ⟨ds,nd,A14,c14,rfl,hd,hr14,hc14,hb14⟩;replace H:=H.learnRd hb14 hr14;clear hr14 hb14
 have hde:=(pS hd (ue es hgl.good)).1.symm
 have hdn:=(pS hd (ue es hgl.good)).2.symm
 subst hde;subst hdn;clear hd
 refine G (Yu Z)<|G (Xs Z Z)<|G (Xi Z Z)<|G (Ws Z)<|G (Wi Z)<|U<|W<|W<|Zr<|G (Yi Z)<|G (Zf gE Z)<|G (Zd d7 H 0 Z Z Z)<|G (bn eL Z)<|G (bV Z Z Z)<|G (Yb Z)<|ZG<|G (Ys Z)<|ZG<|G (bn dM Z)<|ZG<|G (eh Z Z I)<|G (N Z Z)<|U<|ZF Z<|Zk<|W<|W<|Zr<|G (Zf lu Z)<|G (Zd aj H 0 Z Z Z)<|G (da Z Z I)<|G (Yb Z)<|ZG<|G (Zf lu Z)<|ZG<|G (Zd aj H 0 Z Z Z)<|ZG<|G (Yi Z)<|ZG<|G (eh Z Z I) ?_
 refine G (N Z Z)<|U<|ZF Z<|Zk<|W<|W<|Zr<|G (Zf gE Z)<|G (Zd d7 H 0 Z Z Z)<|G (Zf lu Z)<|G (Zd aj H 0 Z Z Z)<|nn (k:=fD es s) H 1 Z d8 Z Z hcap I Z fun A41 H=> ?_
 rw[uz]at H
 refine bW kz (r7 (bd (es.take s)) _ _ _ (H.rd0 0 Z) I I) Z Z ?_
 have hlo42:=H.size
 rintro _ w3 ⟨ds,nd,A42,c42,rfl,hd,hr42,hc42,hb42⟩;replace H:=H.learnRd hb42 hr42;clear hr42 hb42
 have hde:=(pS hd (xi hgl)).1.symm
 have hdn:=(pS hd (xi hgl)).2.symm
 subst hde;subst hdn;clear hd
 refine G (Yu Z)<|G (Xs Z Z)<|G (Xi Z Z)<|G (Ws Z)<|G (Wi Z)<|U<|W<|Zr<|G (Yi Z)<|G (Zf lu Z)<|G (Zd aj H 0 Z Z Z)<|G (bV Z Z Z)<|U<|ZF Z<|Zk<|W<|Zr<|G (Wi Z)<|U<|Zt ?_
 exact cy Z Z ⟨rfl,H.below⟩
theorem BE (l:mW) (w:World) (h:l.ok w):dd aa vt [.agg l.c.toArray] w fun v w2=> ∃ A' c',v=.tuple #[.slice A' l.es.length c',J (l.s:Nat),J 0]/\Rd gk w.heap.size w2.heap.size A' l.es w2/\l.es.length<=c'/\Below w.heap.size w w2:=by
 refine aF AL Z Z ?_
 have hgl:=h.gl
 have hcap:=h.cap
 have hsz:=hgl.sz
 have hln:=hgl.len
 have hsle:=hgl.sle
 have hss:fD l.es l.s<=(bd l.es).length:=ff l.es l.s
 have H:=Hp.startRd h.rd
 obtain⟨lA,lc,es,s⟩:=l
 dsimp only at hgl hcap hsz hln hsle hss H
 have hss2:(bd (es.take s)).length<=(bd es).length:=hss
 show CW _ _ _ _ (args [.agg #[.slice lA (bd es).length lc,J (fD es s:Nat)]]) w
 refine W<|Zr<|fX H Z Z fun w1 b1 H=>G (Ws Z)<|G (Wi Z)<|G (Wi Z)<|U<|W<|W<|Zr<|G (Zw eE H 0 Z Z Z)<|bW mR (yy ⟨lA,lc,es,s⟩ _ ⟨hgl,hcap,H.rd0 0 Z⟩) Z Z ?_
 rintro _ w2 ⟨rfl,hb⟩;replace H:=H.later hb;clear hb
 refine G (Wi Z)<|U<|W<|Zr<|G (Yi Z)<|G (bV Z Z Z)<|U<|ZF Z<|Zk<|W<|Zr<|G (Zf gE Z)<|G (Zd d7 H 0 Z Z Z)<|bW kz (r7 (bd es) _ _ _ (H.rd0 0 Z) hcap I) Z Z ?_
 have hlo18:=H.size
 rintro _ w3 ⟨ds,nd,A18,c18,rfl,hd,hr18,hc18,hb18⟩;replace H:=H.learnRd hb18 hr18;clear hr18 hb18
 have hde:=(pS hd (ue es hgl.good)).1.symm
 have hdn:=(pS hd (ue es hgl.good)).2.symm
 subst hde;subst hdn;clear hd
 refine G (Yu Z)<|G (Xs Z Z)<|G (Xi Z Z)<|G (Ws Z)<|G (Wi Z)<|U<|W<|Zr<|G (Zf gE Z)<|G (Zd d7 H 0 Z Z Z)<|G (Zf lu Z)<|G (Zd aj H 0 Z Z Z)<|nn (k:=fD es s) H 1 Z d8 Z Z hcap I Z fun A26 H=> ?_
 rw[uz]at H
 refine bW kz (r7 (bd (es.take s)) _ _ _ (H.rd0 0 Z) I I) Z Z ?_
 have hlo27:=H.size
 rintro _ w4 ⟨ds,nd,A27,c27,rfl,hd,hr27,hc27,hb27⟩;replace H:=H.learnRd hb27 hr27;clear hr27 hb27
 have hde:=(pS hd (xi hgl)).1.symm
 have hdn:=(pS hd (xi hgl)).2.symm
 subst hde;subst hdn;clear hd
 refine G (Yu Z)<|G (Xs Z Z)<|G (Xi Z Z)<|G (Ws Z)<|G (Wi Z)<|U<|W<|Zr<|G (Ys Z)<|G (Ys Z)<|G (bn dM Z)<|G (Ws Z)<|G (Wi Z)<|G (Wi Z)<|U<|Zt ?_
 have hls:(es.take s).length=s:=by simp;omega
 have hrd:=Rd.mono (H.fact (i:=2) Z) hlo18 (H.facts _ (ae (i:=2) Z)).2.1
 exact Ho (v:=.slice A18 es.length c18) (v2:=J ((es.take s).length:Nat)) (v3:=J 0) Z Z Z Z ⟨A18,c18,by rw[hls],hrd,hc18,H.below⟩
theorem fI (A:Option Addr) (c:Nat) (es:List cN) (s:Nat) (w:World) (h:(⟨A,c,es,s⟩:mW).ok w):dd aa vt [.agg #[.slice A (bd es).length c,J (fD es s:Nat)]] w fun v w2=> ∃ A' c',v=.tuple #[.slice A' es.length c',J (s:Nat),J 0]/\Rd gk w.heap.size w2.heap.size A' es w2/\es.length<=c'/\Below w.heap.size w w2:=BE ⟨A,c,es,s⟩ w h
theorem qK (A:Option Addr) (c:Nat) (es:List cN) (s:Nat) (w:World) (h:(⟨A,c,es,s⟩:mW).ok w):dd aa yK [.agg #[.slice A (bd es).length c,J (fD es s:Nat)]] w fun v w2=>v=J 0/\Below w.heap.size w w2:=yy ⟨A,c,es,s⟩ w h
theorem lv (es:List UInt8) (A:Option Addr) (c:Nat) (w:World) (hr:Rd dF 0 w.heap.size A es w) (hb:es.length*1<=140737488355328):
  dd aa kS [.slice A es.length c] w fun v w2=> ∃ A' c',v=.slice A' es.length c'/\es.length<=c'/\Rd dF w.heap.size w2.heap.size A' es w2/\Below w.heap.size w w2:=
 (B8 es A c w hr hb).mono fun v w2 ⟨A',c',L',h1,h2,_,h4,h5⟩=>⟨A',c',h1,h2,h4.rd (K:=[]) (M:=[]) (by simpa using h5),h5.below⟩
theorem xj (es:List Int) (A:Option Addr) (c:Nat) (w:World) (hr:Rd bS 0 w.heap.size A es w) (hb:es.length*8<=140737488355328):
  dd aa lW [.slice A es.length c] w fun v w2=> ∃ A' c',v=.slice A' es.length c'/\es.length<=c'/\Rd bS w.heap.size w2.heap.size A' es w2/\Below w.heap.size w w2:=
 (sY es A c w hr hb).mono fun v w2 ⟨A',c',L',h1,h2,_,h4,h5⟩=>⟨A',c',h1,h2,h4.rd (K:=[]) (M:=[]) (by simpa using h5),h5.below⟩
def yt (w w2:World) (A:Option Addr) (c:Nat) (es:List cN) (s:Nat):Prop:=GL es s/\(bd es).length<=c/\Rd dF w.heap.size w2.heap.size A (bd es) w2
theorem yt.ok {w w2:World} {A:Option Addr} {c:Nat} {es:List cN} {s:Nat} (h:yt w w2 A c es s):(⟨A,c,es,s⟩:mW).ok w2:=⟨h.1,h.2.1,h.2.2.mono (bD _) (ao _)⟩
theorem kO (es:List cN) (x:cN):bd (es++[x])=bd es++iB x:=by rw[LB,LA]
theorem wK {es:List cN} {s:Nat} (x:cN) (h:s<=es.length):fD (es++[x]) s=fD es s:=by unfold fD;rw[fA h]
def BR (es:List cN) (x:cN):Prop:=es.length=400∨40000<(bd es).length+(iB x).length
theorem GL.snoc {es:List cN} {s:Nat} {x:cN} (h:GL es s) (hx:rM x) (hf: ¬ BR es x):GL (es++[x]) s:=by
 unfold BR at hf
 refine⟨fun e he=> ?_,by simp;have:=h.len;omega,by rw[kO,ay];omega,by simp;have:=h.sle;omega⟩
 rcases ar.1 he with he|he
 exact h.good e he
 rw[aq.1 he];exact hx
theorem GL.all {es:List cN} {s:Nat} (h:GL es s):GL es es.length:=⟨h.good,h.len,h.sz,ao _⟩
theorem GL.take {es:List cN} {s:Nat} (h:GL es s) (n:Nat) {t:Nat} (ht:t<=(es.take n).length):GL (es.take n) t:=⟨fun e he=>h.good e (qw _ _ he),by simp;have:=h.len;omega,by have:=ff es n;have:=h.sz;omega,ht⟩
theorem Dv (l:mW) (x:cN) (w:World) (h:l.ok w) (hx:rM x) (hf: ¬ BR l.es x):dd aa wS [.agg l.c.toArray,x.v] w fun v w2=> ∃ A' c',v=.tuple #[.agg (mW.c ⟨A',c',l.es++[x],l.s⟩).toArray,J 0]/\yt w w2 A' c' (l.es++[x]) l.s/\Below w.heap.size w w2:=by
 refine aF BU Z Z ?_
 have hgl:=h.gl
 have hcap:=h.cap
 have hsz:=hgl.sz
 have hln:=hgl.len
 have hsle:=hgl.sle
 have hss:fD l.es l.s<=(bd l.es).length:=ff l.es l.s
 have H:=Hp.startRd h.rd
 obtain⟨lA,lc,es,s⟩:=l
 dsimp only at hgl hcap hsz hln hsle hss H
 have hss2:(bd (es.take s)).length<=(bd es).length:=hss
 show CW _ _ _ _ (args [.agg #[.slice lA (bd es).length lc,J (fD es s:Nat)],x.v]) w
 unfold BR at hf
 dsimp only at hf
 have hel:=Iq hx
 refine W<|Zr<|fX H Z Z fun w1 b2 H=>fX H Z Z fun w2 b3 H=>ey H pW Z fun w3 b4 H=>G (Wi Z)<|U<|W<|Zr<|G (Zw eE H 2 Z Z Z)<|bW fl (fI lA lc es s _ ⟨hgl,hcap,H.rd0 0 Z⟩) Z Z ?_
 rintro _ w4 ⟨A12,c12,rfl,hr12,hc12,hb12⟩;replace H:=H.learnRd hb12 hr12;clear hr12 hb12
 refine G (Yu Z)<|G (Xs Z Z)<|G (Xi Z Z)<|G (Xi Z Z)<|G (Ws Z)<|G (Wi Z)<|G (Wi Z)<|U<|W<|W<|Zr<|G (Yi Z)<|G (bV Z Z Z)<|U<|ZF Z<|Zk<|W<|Zr<|G (Zw dw H 1 Z Z Z)<|bW uf (C0 x _ hx) Z Z ?_
 rintro _ w6 ⟨A5,c5,rfl,hr5,hc5,hb5⟩;replace H:=H.learnRd hb5 hr5;clear hr5 hb5
 refine G (Yu Z)<|G (Xs Z Z)<|G (Xi Z Z)<|G (Ws Z)<|G (Wi Z)<|U<|W<|W<|Zr<|G (Yi Z)<|G (bV Z Z Z)<|U<|ZF Z<|Zk<|W<|W<|Zr<|G (Ys Z)<|G (bn dM Z)<|G (nM Z Z I)<|G (Yb Z)<|ZG<|G (Zf gE Z)<|ZG<|G (Zd d7 H 2 Z Z Z)<|ZG<|G (bn eL Z)<|ZG<|G (Ys Z)<|ZG<|G (bn eL Z)<|ZG<|G (bu Z Z I I)<|ZG<|G (eh Z Z I)<|G (N Z Z)<|U<|ZF Z<|Zk<|W ?_
 refine qS bY [0,2,5] [1,3,4,6,7,8,9] [0,2,5] 7 N N N Nq ?_
 refine aw Z Z Z Z Z (fun w' hw'=>Zf gE Z)<|aw Z Z Z Z Z (fun w' hw'=>Ys Z)<|aw Z Z Z Z Z (fun w' hw'=>Zf lu Z)<|aT ?_
 intro w7 hw';replace H:=H.later hw';clear hw'
 refine tC 1 6 N Z Z ?_ ?_
 refine G (Zd d7 H 2 Z Z Z)<|U ?_
 refine tC 3 6 N Z Z ?_ ?_
 refine tf (vs:=[.slice lA (bd es).length lc,.slice A5 (iB x).length c5]) H rS Dh Z Z Z Z Z Z fun w8 b45 H=> ?_
 have hcat:xB [(lA,bd es,lc),(A5,iB x,c5)]=bd (es++[x]):=by rw[kO];simp[xB]
 refine U ?_
 refine tC 4 6 N Z Z ?_ ?_
 have hC:=uT [(lA,bd es,lc),(A5,iB x,c5)] (Qd b45) 2 _ (Rd.blk (H.ent (i:=0) Z) Z) (by intro p hp;simp at hp;rcases hp with rfl|rfl;exact H.rd0 2 Z;exact H.rd0 0 Z) (by rw[hcat,kO,ay];omega) (by simp)
 rw[hcat]at hC
 have hloX:=H.size
 refine bW fC hC Z Z ?_;rintro _ w9 ⟨AX,cX,LX,rfl,hcX,-,hoX,hjX⟩;replace H:=H.learnOwn hjX hoX
 refine U<|de 6 N Z<|G (Zd aj H 3 Z Z Z)<|U<|de 7 N Z<|G (bi (cs:= #[.slice AX (bd (es++[x])).length cX,J (fD es s:Nat)]) tI pW N)<|U<|de 8 N Z<|bk H 1 (#[.slice AX (bd (es++[x])).length cX,J (fD es s:Nat)]) ja Z Z Z Z Z N N fun w10 H=>U<|de 9 N Z<|G (Wi Z)<|U<|cB N<|Zt ?_
 exact bG (cs0:= #[.slice AX (bd (es++[x])).length cX,J (fD es s:Nat)]) (v1:=J 0) Z eE Z (H.ent (i:=1) Z) Z Z ⟨AX,cX,by unfold mW.c;rw[wK _ hsle],⟨hgl.snoc hx (by unfold BR;omega),hcX,Rd.mono (H.fact (i:=0) Z) hloX (H.facts _ (ae (i:=0) Z)).2.1⟩,H.below⟩
 refine G (Zd aj H 3 Z Z Z)<|U<|de 4 N Z ?_
 have hC:=uT [(lA,bd es,lc),(A5,iB x,c5)] (Qd b45) 2 _ (Rd.blk (H.ent (i:=0) Z) Z) (by intro p hp;simp at hp;rcases hp with rfl|rfl;exact H.rd0 2 Z;exact H.rd0 0 Z) (by rw[hcat,kO,ay];omega) (by simp)
 rw[hcat]at hC
 have hloX:=H.size
 refine bW fC hC Z Z ?_;rintro _ w11 ⟨AX,cX,LX,rfl,hcX,-,hoX,hjX⟩;replace H:=H.learnOwn hjX hoX
 refine U<|de 7 N Z<|G (bi (cs:= #[.slice AX (bd (es++[x])).length cX,J (fD es s:Nat)]) tI pW N)<|U<|de 8 N Z<|bk H 1 (#[.slice AX (bd (es++[x])).length cX,J (fD es s:Nat)]) ja Z Z Z Z Z N N fun w12 H=>U<|de 9 N Z<|G (Wi Z)<|U<|cB N<|Zt ?_
 exact bG (cs0:= #[.slice AX (bd (es++[x])).length cX,J (fD es s:Nat)]) (v1:=J 0) Z eE Z (H.ent (i:=1) Z) Z Z ⟨AX,cX,by unfold mW.c;rw[wK _ hsle],⟨hgl.snoc hx (by unfold BR;omega),hcX,Rd.mono (H.fact (i:=0) Z) hloX (H.facts _ (ae (i:=0) Z)).2.1⟩,H.below⟩
 refine G (Zd aj H 2 Z Z Z)<|U<|de 3 N Z<|tf (vs:=[.slice lA (bd es).length lc,.slice A5 (iB x).length c5]) H rS Dh Z Z Z Z Z Z fun w13 b45 H=> ?_
 have hcat:xB [(lA,bd es,lc),(A5,iB x,c5)]=bd (es++[x]):=by rw[kO];simp[xB]
 refine U<|de 4 N Z ?_
 have hC:=uT [(lA,bd es,lc),(A5,iB x,c5)] (Qd b45) 2 _ (Rd.blk (H.ent (i:=0) Z) Z) (by intro p hp;simp at hp;rcases hp with rfl|rfl;exact H.rd0 2 Z;exact H.rd0 0 Z) (by rw[hcat,kO,ay];omega) (by simp)
 rw[hcat]at hC
 have hloX:=H.size
 refine bW fC hC Z Z ?_;rintro _ w14 ⟨AX,cX,LX,rfl,hcX,-,hoX,hjX⟩;replace H:=H.learnOwn hjX hoX
 refine U<|de 7 N Z<|G (bi (cs:= #[.slice AX (bd (es++[x])).length cX,J (fD es s:Nat)]) tI pW N)<|U<|de 8 N Z<|bk H 1 (#[.slice AX (bd (es++[x])).length cX,J (fD es s:Nat)]) ja Z Z Z Z Z N N fun w15 H=>U<|de 9 N Z<|G (Wi Z)<|U<|cB N<|Zt ?_
 exact bG (cs0:= #[.slice AX (bd (es++[x])).length cX,J (fD es s:Nat)]) (v1:=J 0) Z eE Z (H.ent (i:=1) Z) Z Z ⟨AX,cX,by unfold mW.c;rw[wK _ hsle],⟨hgl.snoc hx (by unfold BR;omega),hcX,Rd.mono (H.fact (i:=0) Z) hloX (H.facts _ (ae (i:=0) Z)).2.1⟩,H.below⟩
 refine G (Zd aj H 2 Z Z Z)<|U<|de 1 N Z<|G (Zd d7 H 2 Z Z Z)<|U<|de 3 N Z<|tf (vs:=[.slice lA (bd es).length lc,.slice A5 (iB x).length c5]) H rS Dh Z Z Z Z Z Z fun w16 b45 H=> ?_
 have hcat:xB [(lA,bd es,lc),(A5,iB x,c5)]=bd (es++[x]):=by rw[kO];simp[xB]
 refine U<|de 4 N Z ?_
 have hC:=uT [(lA,bd es,lc),(A5,iB x,c5)] (Qd b45) 2 _ (Rd.blk (H.ent (i:=0) Z) Z) (by intro p hp;simp at hp;rcases hp with rfl|rfl;exact H.rd0 2 Z;exact H.rd0 0 Z) (by rw[hcat,kO,ay];omega) (by simp)
 rw[hcat]at hC
 have hloX:=H.size
 refine bW fC hC Z Z ?_;rintro _ w17 ⟨AX,cX,LX,rfl,hcX,-,hoX,hjX⟩;replace H:=H.learnOwn hjX hoX
 refine U<|de 7 N Z<|G (bi (cs:= #[.slice AX (bd (es++[x])).length cX,J (fD es s:Nat)]) tI pW N)<|U<|de 8 N Z<|bk H 1 (#[.slice AX (bd (es++[x])).length cX,J (fD es s:Nat)]) ja Z Z Z Z Z N N fun w18 H=>U<|de 9 N Z<|G (Wi Z)<|U<|cB N<|Zt ?_
 exact bG (cs0:= #[.slice AX (bd (es++[x])).length cX,J (fD es s:Nat)]) (v1:=J 0) Z eE Z (H.ent (i:=1) Z) Z Z ⟨AX,cX,by unfold mW.c;rw[wK _ hsle],⟨hgl.snoc hx (by unfold BR;omega),hcX,Rd.mono (H.fact (i:=0) Z) hloX (H.facts _ (ae (i:=0) Z)).2.1⟩,H.below⟩
theorem Nd (es:List cN):fD es es.length=(bd es).length:=by unfold fD;rw[bL]
theorem Fq {es:List cN} {a b:Nat} (h:a<=b):fD es a<=fD es b:=by
 have:=ff (es.take b) a
 unfold fD
 rwa[di,bv h]at this
theorem Nc (es:List cN) (s n:Nat):min ((fD es s:Nat):Int) ((fD es n:Nat):Int)=(fD (es.take n) (min s n):Nat):=by
 have e:fD (es.take n) (min s n)=fD es (min s n):=by
  unfold fD;rw[di,bv (Nat.min_le_right _ _)]
 rw[e]
 by_cases h:s<=n
 have:=Fq (es:=es) h
 rw[bv h];omega
 have:=Fq (es:=es) (show n<=s by omega)
 rw[Nat.min_eq_right I];omega
theorem Rd.cut0 {α:Type} {Y:fi α} {lo hi cap sz:Nat} {A:Option Addr} {es:List α} {w:World} (h:Rd Y lo hi A es w) (k:Nat):Rd Y lo hi (cut A cap 0 sz) (es.take k) w:=by
 have e:cut A cap 0 sz=A:=by
  unfold cut
  split
  rfl
  cases A<;>simp[Addr.add]
 rw[e]
 exact h.take k
def jW (es:List cN) (s keep:Nat):Nat:=tF es (fD es s+min keep ((bd es).length-fD es s))
theorem JL {es:List cN} {s keep:Nat} (h:s<=es.length):s<=jW es s keep:=EE es _ s h (by unfold fD;omega)
theorem C4 (es:List cN) (s keep:Nat):jW es s keep<=es.length:=ED _ _
theorem GG (l:mW) (w:World) (h:l.ok w):dd aa Ax [.agg l.c.toArray] w fun v w2=> ∃ A' c',v=.tuple #[.agg (mW.c ⟨A',c',l.es,l.es.length⟩).toArray,J 0]/\yt w w2 A' c' l.es l.es.length/\Below w.heap.size w w2:=by
 refine aF FN Z Z ?_
 have hgl:=h.gl
 have hcap:=h.cap
 have hsz:=hgl.sz
 have hln:=hgl.len
 have hsle:=hgl.sle
 have hss:fD l.es l.s<=(bd l.es).length:=ff l.es l.s
 have H:=Hp.startRd h.rd
 obtain⟨lA,lc,es,s⟩:=l
 dsimp only at hgl hcap hsz hln hsle hss H
 have hss2:(bd (es.take s)).length<=(bd es).length:=hss
 show CW _ _ _ _ (args [.agg #[.slice lA (bd es).length lc,J (fD es s:Nat)]]) w
 refine W<|Zr<|fX H Z Z fun w1 b1 H=>ey H pW Z fun w2 b2 H=>G (Wi Z)<|U<|W<|W<|Zr<|G (Zw eE H 1 Z Z Z)<|bW mR (qK lA lc es s _ ⟨hgl,hcap,H.rd0 0 Z⟩) Z Z ?_
 rintro _ w3 ⟨rfl,hb⟩;replace H:=H.later hb;clear hb
 refine G (Wi Z)<|U<|W<|Zr<|G (Yi Z)<|G (bV Z Z Z)<|U<|ZF Z<|Zk<|W ?_
 have hlo:=H.size
 refine bB bY [0,1,3,4,5,2,6] [7,8] [2] [0,3,5,6] (sp [(2,Sp.row w3.heap.size dF (bd es))]) N N N N Nq (cH _) ?_
 refine aw Z Z Z Z Z (fun w' hw'=>Zf gE Z)<|aw Z Z Z Z Z (fun w' hw'=>aV d7 Z (aC ((H.later hw').ent (i:=1) Z) Z))<|aw Z Z Z Z Z (fun w' hw'=>Zf gE Z)<|aw Z Z Z Z Z (fun w' hw'=>aV d7 Z (aC ((H.later hw').ent (i:=1) Z) Z))<|aw Z Z Z Z Z (fun w' hw'=>bn eL Z)<|C7 fc Z Z Z Z Z (fun w' hw'=>hw'.size) (fun w' hw'=>lv (bd es) _ _ w' ((H.later hw').rd0 0 Z) I) Z fun A13 c13 hc13=>aw Z Z Z Z Z (fun w' hw'=>bi (cs:= #[.slice A13 (bd es).length c13,J ((bd es).length:Nat)]) tI pW N)<|aT ?_
 intro w4 hw' hF
 obtain⟨hF,Aq,cq,eq,hcq,hrw13⟩:=hF;cases eq;clear hcq
 replace H:=H.learnRd hw' hrw13
 clear hw' hF
 refine bk H 0 (#[.slice A13 (bd es).length c13,J ((bd es).length:Nat)]) ja Z Z Z Z Z N N fun w5 H=>G (Wi Z)<|U<|Zt ?_
 exact bG (cs0:= #[.slice A13 (bd es).length c13,J ((bd es).length:Nat)]) (v1:=J 0) Z eE Z (H.ent (i:=0) Z) Z Z ⟨A13,c13,by unfold mW.c;rw[Nd],⟨hgl.all,hc13,Rd.mono (H.fact (i:=0) Z) hlo (H.facts _ (ae (i:=0) Z)).2.1⟩,H.below⟩
theorem IW (l:mW) (n:Nat) (w:World) (h:l.ok w) (hn:n<=l.es.length):dd aa CR [.agg l.c.toArray,J (n:Nat)] w fun v w2=> ∃ A' c',v=.tuple #[.agg (mW.c ⟨A',c',l.es.take n,min l.s n⟩).toArray,J 0]/\yt w w2 A' c' (l.es.take n) (min l.s n)/\Below w.heap.size w w2:=by
 refine aF Hl Z Z ?_
 have hgl:=h.gl
 have hcap:=h.cap
 have hsz:=hgl.sz
 have hln:=hgl.len
 have hsle:=hgl.sle
 have hss:fD l.es l.s<=(bd l.es).length:=ff l.es l.s
 have H:=Hp.startRd h.rd
 obtain⟨lA,lc,es,s⟩:=l
 dsimp only at hgl hcap hsz hln hsle hss H
 have hss2:(bd (es.take s)).length<=(bd es).length:=hss
 show CW _ _ _ _ (args [.agg #[.slice lA (bd es).length lc,J (fD es s:Nat)],J (n:Nat)]) w
 dsimp only at hn
 refine W<|Zr<|fX H Z Z fun w1 b2 H=>ey H pW Z fun w2 b4 H=>G (Wi Z)<|U<|W<|Zr<|G (Zw eE H 1 Z Z Z)<|bW fl (fI lA lc es s _ ⟨hgl,hcap,H.rd0 0 Z⟩) Z Z ?_
 rintro _ w3 ⟨A16,c16,rfl,hr16,hc16,hb16⟩;replace H:=H.learnRd hb16 hr16;clear hr16 hb16
 refine G (Yu Z)<|G (Xs Z Z)<|G (Xi Z Z)<|G (Xi Z Z)<|G (Ws Z)<|G (Wi Z)<|G (Wi Z)<|U<|W<|W<|Zr<|G (Yi Z)<|G (bV Z Z Z)<|U<|ZF Z<|Zk<|W<|W<|Zr<|G (Yi Z)<|G (da Z Z I)<|G (Yb Z)<|ZG<|G (Yi Z)<|ZG<|G (Ys Z)<|ZG<|G (bn dM Z)<|ZG<|G (eh Z Z I)<|G (N Z Z)<|U<|ZF Z<|Zk<|W<|W<|Zr<|G (Yi Z)<|G (Ys Z)<|G (bn dM Z) ?_
 refine cU (bl Z Z) Z Z Z (fun h36=> ?_) (fun h36=> ?_)
 refine U<|ZT Z<|W ?_
 have hlo:=H.size
 refine bB bY [0,1,3,4,2,5] [6,7] [2] [0,3,5] (sp [(2,Sp.row w3.heap.size dF (bd es))]) N N N N Nq (cH _) ?_
 refine aw Z Z Z Z Z (fun w' hw'=>Zf gE Z)<|aw Z Z Z Z Z (fun w' hw'=>aV d7 Z (aC ((H.later hw').ent (i:=1) Z) Z))<|aw Z Z Z Z Z (fun w' hw'=>Zf lu Z)<|aw Z Z Z Z Z (fun w' hw'=>aV aj Z (aC ((H.later hw').ent (i:=1) Z) Z))<|C7 fc Z Z Z Z Z (fun w' hw'=>hw'.size) (fun w' hw'=>lv (bd es) _ _ w' ((H.later hw').rd0 1 Z) I) Z fun A39 c39 hc39=>aw Z Z Z Z Z (fun w' hw'=>bi (cs:= #[.slice A39 (bd es).length c39,J (fD es s:Nat)]) tI pW N)<|aT ?_
 intro w4 hw' hF
 obtain⟨hF,Aq,cq,eq,hcq,hrw39⟩:=hF;cases eq;clear hcq
 replace H:=H.learnRd hw' hrw39
 clear hw' hF
 refine bk H 0 (#[.slice A39 (bd es).length c39,J (fD es s:Nat)]) ja Z Z Z Z Z N N fun w5 H=>G (Wi Z)<|U<|Zt ?_
 have hnl:n=es.length:=by omega
 subst hnl
 exact bG (cs0:= #[.slice A39 (bd es).length c39,J (fD es s:Nat)]) (v1:=J 0) Z eE Z (H.ent (i:=0) Z) Z Z ⟨A39,c39,by unfold mW.c;rw[bv hsle,bL],⟨by rw[bv hsle,bL];exact hgl,by rw[bL];exact hc39,by rw[bL];exact Rd.mono (H.fact (i:=0) Z) hlo (H.facts _ (ae (i:=0) Z)).2.1⟩,H.below⟩
 refine U<|ZF Z<|Zk<|W<|Zr<|G (Wi Z)<|U<|W<|W<|Zr<|G (Ys Z)<|G (Yi Z)<|nn (k:=n) H 0 Z dg Z Z hc16 I Z fun A45 H=>G (bn dM Z)<|G (Yi Z)<|U<|Zb ?_
 refine ce (τ:=Nat) [9,11,12,13,47,48,49,50,51,52,53,54,55,56,57,58,59,60] (fun k=>[(9,J (fD es k:Nat)),(47,J (k:Nat))]) (fun k w'=>k<=n/\Hp w w' [(b4,.cells #[.slice none 0 0,J 0] Bq (0,0)),(b2,.cells #[.slice lA (bd es).length lc,J (fD es s:Nat)] Bq (0,0))] [dA gk w2.heap.size w3.heap.size A45 (es.take n),dA gk w2.heap.size w3.heap.size A16 es,dA dF 0 w.heap.size lA (bd es)]) (fun k=>n-k) 0 ⟨by omega,H⟩ (lh Z Z) ?_
 rintro k ρ1 w6 ⟨hk,H⟩
 show CW _ _ _ _ (dB (gJ _ _ ρ1) [(9,J (fD es k:Nat)),(47,J (k:Nat))]) w6
 have hsk0:fD es k<=(bd es).length:=ff es k
 refine W<|Zr ?_
 refine cU (cG Z Z) Z Z Z (fun h48=> ?_) (fun h48=> ?_)
 refine U<|W<|ZT Z<|Zk<|W<|Zb<|W<|Zr ?_
 have htl:(es.take n).length=n:=by simp;omega
 refine pI H 0 Z dg Z Z I I Z fun b7 o7 x7 e7=> ?_
 have hxk:es[k]? =some x7:=by have:=e7.at_;rwa[fE I]at this
 have hg:=hgl.good _ (ae hxk)
 have hsk:=ff es (k+1)
 rw[ua hxk,ay]at hsk
 have hsk2:fD es k+(iB x7).length<=(bd es).length:=hsk
 refine G (iw (xs:=cN.c x7) dw Z Z e7.cl)<|ey H gi Z fun w8 b11 H=>Kr H 0 eS Z Z Z Z Z Z fun w9 H=>U<|W<|Zr<|G (Zw dw H 0 Z Z Z)<|bW uf (C0 x7 _ hg) Z Z ?_
 rintro _ w11 ⟨A10,c10,rfl,hr10,hc10,hb10⟩;replace H:=H.learnRd hb10 hr10;clear hr10 hb10
 refine G (Yu Z)<|G (Xs Z Z)<|G (Xi Z Z)<|G (Ws Z)<|G (Wi Z)<|U<|Zr<|G (Yi Z)<|G (Ys Z)<|G (bn eL Z)<|G (bu Z Z I I)<|G (Wi Z)<|U<|Zr<|G (bu Z Z I I)<|G (Yi Z)<|U ?_
 refine⟨k+1,⟨by omega,H.forget (aX _ _) (fun _ h=>ak _ h)⟩,lh (by show _=Value.int .i64 ((fD es (k+1):Nat):Int);unfold fD;rw[ua hxk,ay];rfl) Z,Qg,by show n- (k+1)<n-k;omega⟩
 have hkn:n=k:=by omega
 subst hkn
 refine U<|W<|ZF Z<|Zx<|W ?_
 have hlo:=H.size
 refine bB bY [0,1,2,3,5,6,7,8,4,9] [10,11] [4] [0,2,3,5,7,8,9] (sp [(4,Sp.row w6.heap.size dF (bd (es.take n)))]) N N N N Nq (cH _) ?_
 refine aw Z Z Z Z Z (fun w' hw'=>Zf gE Z)<|aw Z Z Z Z Z (fun w' hw'=>aV d7 Z (aC ((H.later hw').ent (i:=1) Z) Z))<|aw Z Z Z Z Z (fun w' hw'=>Yi Z)<|aw Z Z Z Z Z (fun w' hw'=>Ds (i:=((fD es n:Nat):Int)) d8 Z Z I (by have:=ff es n;show((fD es n:Nat):Int)<=_;unfold fD;omega))<|aw Z Z Z Z Z (fun w' hw'=>Zf lu Z)<|aw Z Z Z Z Z (fun w' hw'=>aV aj Z (aC ((H.later hw').ent (i:=1) Z) Z))<|aw Z Z Z Z Z (fun w' hw'=>Yi Z)<|aw Z Z Z Z Z (fun w' hw'=>tN Z Z)<|C7 fc Z Z Z Z Z (fun w' hw'=>hw'.size) (fun w' hw'=>lv (bd (es.take n)) _ _ w' (by have:=Rd.cut0 (cap:=lc) (sz:=1) ((H.later hw').rd0 2 Z) (fD es n);rwa[uz]at this) (by have:=ff es n;omega)) Z fun A65 c65 hc65=>aw Z Z Z Z Z (fun w' hw'=>bi (cs:= #[.slice A65 (bd (es.take n)).length c65,J (min ((fD es s:Nat):Int) ((fD es n:Nat):Int))]) tI pW N)<|aT ?_
 intro w12 hw' hF
 obtain⟨hF,Aq,cq,eq,hcq,hrw65⟩:=hF;cases eq;clear hcq
 replace H:=H.learnRd hw' hrw65
 clear hw' hF
 refine bk H 0 (#[.slice A65 (bd (es.take n)).length c65,J (min ((fD es s:Nat):Int) ((fD es n:Nat):Int))]) ja Z Z Z Z Z N N fun w13 H=>G (Wi Z)<|U<|Zt ?_
 exact bG (cs0:= #[.slice A65 (bd (es.take n)).length c65,J (min ((fD es s:Nat):Int) ((fD es n:Nat):Int))]) (v1:=J 0) Z eE Z (H.ent (i:=0) Z) Z Z ⟨A65,c65,by unfold mW.c;rw[Nc],⟨hgl.take n (by simp;omega),hc65,Rd.mono (H.fact (i:=0) Z) hlo (H.facts _ (ae (i:=0) Z)).2.1⟩,H.below⟩
theorem EZ (l:mW) (keep:Nat) (w:World) (h:l.ok w) (hkb:keep<=1000000000000):dd aa Fz [.agg l.c.toArray,J (keep:Nat)] w fun v w2=> ∃ A' c',v=.tuple #[.agg (mW.c ⟨A',c',l.es.take (jW l.es l.s keep),jW l.es l.s keep⟩).toArray,J 0]/\yt w w2 A' c' (l.es.take (jW l.es l.s keep)) (jW l.es l.s keep)/\Below w.heap.size w w2:=by
 refine aF DZ Z Z ?_
 have hgl:=h.gl
 have hcap:=h.cap
 have hsz:=hgl.sz
 have hln:=hgl.len
 have hsle:=hgl.sle
 have hss:fD l.es l.s<=(bd l.es).length:=ff l.es l.s
 have H:=Hp.startRd h.rd
 obtain⟨lA,lc,es,s⟩:=l
 dsimp only at hgl hcap hsz hln hsle hss H
 have hss2:(bd (es.take s)).length<=(bd es).length:=hss
 show CW _ _ _ _ (args [.agg #[.slice lA (bd es).length lc,J (fD es s:Nat)],J (keep:Nat)]) w
 dsimp only
 have hmle:=C4 es s keep
 have hfl:=vk es (fD es s+min keep ((bd es).length-fD es s))
 have hdt:=F5 es (fD es s+min keep ((bd es).length-fD es s)) hgl.good
 change ID _ (es.take (jW es s keep)) (bd (es.take (jW es s keep))).length at hdt
 change (bd (es.take (jW es s keep))).length<=_ at hfl
 generalize jW es s keep=m at*
 have hfm:=ff es m
 have hlk:((bd es).take (fD es s+min keep ((bd es).length-fD es s))).length=(fD es s+min keep ((bd es).length-fD es s)):=by rw[aI];omega
 refine W<|Zr<|fX H Z Z fun w1 b2 H=>ey H pW Z fun w2 b4 H=>G (Wi Z)<|U<|W<|W<|Zr<|G (Zw eE H 1 Z Z Z)<|bW mR (qK lA lc es s _ ⟨hgl,hcap,H.rd0 0 Z⟩) Z Z ?_
 rintro _ w3 ⟨rfl,hb⟩;replace H:=H.later hb;clear hb
 refine G (Wi Z)<|U<|W<|Zr<|G (Yi Z)<|G (bV Z Z Z)<|U<|ZF Z<|Zk<|W<|W<|Zr<|G (Yi Z)<|G (da Z Z I)<|U<|ZF Z<|Zk<|W<|Zr<|G (Zf gE Z)<|G (Zd d7 H 1 Z Z Z)<|G (bn eL Z)<|G (Zf lu Z)<|G (Zd aj H 1 Z Z Z)<|G (m8 Z Z I I)<|G (Wi Z)<|U<|W<|Zr<|G (Zf gE Z)<|G (Zd d7 H 1 Z Z Z)<|G (Zf lu Z)<|G (Zd aj H 1 Z Z Z)<|G (Yi Z)<|G (Yi Z)<|G (tN Z Z)<|G (bu Z Z I I)<|nn (k:=(fD es s+min keep ((bd es).length-fD es s))) H 0 Z d8 Z (show Value.int .i64 (((fD es s:Nat):Int)+min ((keep:Nat):Int) ((((bd es).length:Nat):Int)- ((fD es s:Nat):Int)))=J ((fD es s+min keep ((bd es).length-fD es s)):Nat) by congr 1;omega) hcap I Z fun A34 H=> ?_
 have hD:=r7 ((bd es).take (fD es s+min keep ((bd es).length-fD es s))) A34 lc _ (H.rd0 0 Z) I I
 rw[hlk]at hD
 refine bW kz hD Z Z ?_;rintro _ w4 ⟨fs,n,A35,c35,rfl,hd35,hr35,hc35,hb35⟩;replace H:=H.learnRd hb35 hr35;clear hr35 hb35
 obtain⟨rfl,rfl⟩:=pS hdt hd35
 refine G (Yu Z)<|G (Xs Z Z)<|G (Xi Z Z)<|G (Ws Z)<|G (Wi Z)<|U<|W<|Zr<|G (Zf gE Z)<|G (Zd d7 H 1 Z Z Z)<|G (Yi Z)<|nn (k:=(bd (es.take m)).length) H 2 Z d8 Z Z hcap I Z fun A41 H=> ?_
 rw[uz]at H
 have hlo:=H.size
 refine bW fc (lv (bd (es.take m)) A41 lc _ (H.rd0 0 Z) I) Z Z ?_;rintro _ w5 ⟨A42,c42,rfl,hc42,hr42,hb42⟩;replace H:=H.learnRd hb42 hr42;clear hr42 hb42
 refine G (Yi Z)<|G (bi (cs:= #[.slice A42 (bd (es.take m)).length c42,J ((bd (es.take m)).length:Nat)]) tI pW N)<|bk H 0 (#[.slice A42 (bd (es.take m)).length c42,J ((bd (es.take m)).length:Nat)]) ja Z Z Z Z Z N N fun w6 H=>G (Wi Z)<|U<|Zt ?_
 exact bG (cs0:= #[.slice A42 (bd (es.take m)).length c42,J ((bd (es.take m)).length:Nat)]) (v1:=J 0) Z eE Z (H.ent (i:=0) Z) Z Z ⟨A42,c42,by unfold mW.c;rw[show fD (es.take m) m=(bd (es.take m)).length from by unfold fD;rw[gg (by rw[aI];omega)]],⟨hgl.take m (by simp;omega),hc42,Rd.mono (H.fact (i:=0) Z) hlo (H.facts _ (ae (i:=0) Z)).2.1⟩,H.below⟩
/-- a replica, and where its log's bytes lie -/
structure eR where
 up:Bool
 A:Option Addr
 cap:Nat
 es:List cN
 s:Nat
 high:Int
 lo:Nat
 hi:Nat
def eR.c (r:eR):List Value:=[.bool r.up,.slice r.A (bd r.es).length r.cap,J (fD r.es r.s:Nat),J r.high]
def gx:fi eR:=⟨eR.c,4,fun _=>rfl,by decide,fun a u hu=>by
 simp only[eR.c,av,bo,or_false]at hu
 rcases hu with h|h|h|h<;>subst h<;>rfl⟩
def eT:fi Bool:=⟨fun n=>[.bool n],1,fun _=>rfl,by decide,fun a u hu=>by
 simp only[aq]at hu;subst hu;rfl⟩
abbrev eR.log (r:eR):mW:=⟨r.A,r.cap,r.es,r.s⟩
abbrev BF (r:eR):cr:=dA dF r.lo r.hi r.A (bd r.es)
abbrev s9 (rs:List eR):List cr:=rs.map BF
structure RA where
 up:Bool
 es:List cN
 s:Nat
 high:Int
def eR.a (r:eR):RA:=⟨r.up,r.es,r.s,r.high⟩
structure gu where
 epoch:Int
 leader:Int
 isr:List Bool
 known:List Int
 reps:List RA
 few:Int
 base:Int
structure Pa where
 epoch:Int
 leader:Int
 isr:List Bool
 iA:Option Addr
 iC:Nat
 known:List Int
 kA:Option Addr
 kC:Nat
 reps:List eR
 rA:Option Addr
 rC:Nat
 few:Int
 base:Int
def Pa.c (p:Pa):List Value:=[J p.epoch,J p.leader,.slice p.iA p.isr.length p.iC,.slice p.kA p.known.length p.kC,.slice p.rA p.reps.length p.rC,J p.few,J p.base]
abbrev Pa.v (p:Pa):Value:=.agg p.c.toArray
def Pa.a (p:Pa):gu:=⟨p.epoch,p.leader,p.isr,p.known,p.reps.map eR.a,p.few,p.base⟩
structure Pa.rd (p:Pa) (lo hi:Nat) (w:World):Prop where
 isr:Rd eT lo hi p.iA p.isr w
 known:Rd bS lo hi p.kA p.known w
 reps:Rd gx lo hi p.rA p.reps w
 logs: ∀ r∈p.reps,Rd dF lo hi r.A (bd r.es) w
 iC:p.isr.length<=p.iC
 kC:p.known.length<=p.kC
 rC:p.reps.length<=p.rC
 cap: ∀ r∈p.reps,(bd r.es).length<=r.cap
 few:p.isr.length<=1000000/\p.known.length<=1000000/\p.reps.length<=1000000
theorem Pa.rd.st {p:Pa} {lo hi:Nat} {w w':World} (hk: ∀ k,lo<=k->k<hi->w'.heap[k]? =w.heap[k]?) (h:p.rd lo hi w):p.rd lo hi w':=
 ⟨h.isr.st hk,h.known.st hk,h.reps.st hk,fun r hr=>(h.logs r hr).st hk,h.iC,h.kC,h.rC,h.cap,h.few⟩
theorem Pa.rd.mono {p:Pa} {lo hi lo' hi':Nat} {w:World} (h:p.rd lo hi w) (hl:lo'<=lo) (hh:hi<=hi'):p.rd lo' hi' w:=
 ⟨h.isr.mono hl hh,h.known.mono hl hh,h.reps.mono hl hh,fun r hr=>(h.logs r hr).mono hl hh,h.iC,h.kC,h.rC,h.cap,h.few⟩
def Df (lo hi:Nat) (p:Pa):cr:=⟨lo,hi,p.rd lo hi,fun _ _ hk h=>h.st hk⟩
structure RA.ok (r:RA):Prop where
 gl:GL r.es r.s
 high0:0<=r.high
 high1:r.high<=r.es.length
structure gu.ok (p:gu):Prop where
 n1:1<=p.reps.length
 n2:p.reps.length<=5
 isrl:p.isr.length=p.reps.length
 knownl:p.known.length=p.reps.length
 few1:1<=p.few
 few2:p.few<=p.reps.length
 ep0:0<=p.epoch
 ep1:p.epoch<=1073741824
 ld0: -1<=p.leader
 ld1:p.leader<p.reps.length
 base0:0<=p.base
 base1:p.base<=400
 some_:true∈p.isr
 lead: ∀ (l:Nat) (r:RA),p.leader=l->p.reps[l]? =some r->p.isr[l]? =some true/\r.up=true
 reps: ∀ r∈p.reps,r.ok
 known: ∀ n∈p.known,0<=n/\n<=400
theorem Hp.startPa {p:Pa} {w:World} (h:p.rd 0 w.heap.size w):Hp w w [] [Df 0 w.heap.size p,dA eT 0 w.heap.size p.iA p.isr,dA bS 0 w.heap.size p.kA p.known,dA gx 0 w.heap.size p.rA p.reps]:=
 ((((Hp.start w).learnOld (dA gx 0 w.heap.size p.rA p.reps) h.reps (ao _)).learnOld (dA bS 0 w.heap.size p.kA p.known) h.known (ao _)).learnOld (dA eT 0 w.heap.size p.iA p.isr) h.isr (ao _)).learnOld (Df 0 w.heap.size p) h (ao _)
theorem Hp.pa {w0 w:World} {L:List (Nat×Obj)} {F:List cr} {lo hi:Nat} {p:Pa} (H:Hp w0 w L F) (i:Nat) (hF:F[i]? =some (Df lo hi p)):p.rd 0 w.heap.size w:=
 Pa.rd.mono (H.fact hF) (bD _) (H.facts _ (ae hF)).2.1
theorem Pa.rd.nil (lo hi:Nat) (w:World):Pa.rd ⟨0,0,[],none,0,[],none,0,[],none,0,0,0⟩ lo hi w:=
 ⟨Rd.nil,Rd.nil,Rd.nil,fun r hr=>by simp at hr,by simp,by simp,by simp,fun r hr=>by simp at hr,by simp⟩
def zB:Pa:=⟨0,0,[],none,0,[],none,0,[],none,0,0,0⟩
def gK:gu:=⟨0,0,[],[],[],0,0⟩
def eu (w w2:World) (p:Pa):Prop:=p.rd w.heap.size w2.heap.size w2/\Below w.heap.size w w2
theorem eu.zero {w w2:World} (h:Below w.heap.size w w2):eu w w2 zB:=⟨Pa.rd.nil _ _ _,h⟩
structure Gl (w w2:World) (p:Pa) (g1 g2 g3:Nat) (c1 c2 c3:Array Value):Prop where
 i:p.iA=some ⟨g1,0,none⟩
 k:p.kA=some ⟨g2,0,none⟩
 r:p.rA=some ⟨g3,0,none⟩
 ri:dW eT p.isr p.iC c1
 rk:dW bS p.known p.kC c2
 rr:dW gx p.reps p.rC c3
 cap: ∀ r∈p.reps,(bd r.es).length<=r.cap
 los: ∀ r∈p.reps,w.heap.size<=r.lo
 few:p.isr.length<=1000000/\p.known.length<=1000000/\p.reps.length<=1000000
 hp:Hp w w2 [(g1,.cells c1 jm (0,0)),(g2,.cells c2 cY (0,0)),(g3,.cells c3 fz (0,0))] (s9 p.reps)
theorem Gl.new {w w2:World} {p:Pa} {g1 g2 g3:Nat} {c1 c2 c3:Array Value} (h:Gl w w2 p g1 g2 g3 c1 c2 c3):eu w w2 p:=by
 have H:=h.hp
 have e1:=H.ents _ (fG _)
 have e2:=H.ents _ (qG _ (fG _))
 have e3:=H.ents _ (qG _ (qG _ (fG _)))
 refine⟨⟨?_,?_,?_,fun r hr=> ?_,h.ri.le,h.rk.le,h.rr.le,h.cap,h.few⟩,H.below⟩
 rw[h.i];exact(h.ri.rd e1.1).mono e1.2 (cd e1.1)
 rw[h.k];exact(h.rk.rd e2.1).mono e2.2 (cd e2.1)
 rw[h.r];exact(h.rr.rd e3.1).mono e3.2 (cd e3.1)
 obtain⟨f1,f2,-⟩:=H.facts (BF r) (bI hr)
 exact Rd.mono f1 (h.los r hr) f2
theorem Ca (es:List Bool) (A:Option Addr) (c:Nat) (w:World) (hr:Rd eT 0 w.heap.size A es w) (hb:es.length*1<=140737488355328):
  dd aa qA [.slice A es.length c] w fun v w2=> ∃ A' c' L',v=.slice A' es.length c'/\es.length<=c'/\c'<=maxLen/\f4 eT (.slice A' es.length c') jm es L'/\Hp w w2 L' []:=by
 refine aF qf Z Z ?_
 have H:=Hp.startRd hr
 refine W<|Zr<|G (Ws Z)<|U<|W<|W<|Zr<|G (Ys Z) ?_
 refine wq (pB xS Z) Z Z Z (fun h4=> ?_) (fun h4=> ?_)
 refine U<|ZT Z<|W<|Zr<|G (Ws Z)<|U<|Zt ?_
 have he:es=[]:=by
  cases es with
  |nil=>rfl
  |cons e es=>obtain⟨b,o,hA,_⟩:=hr (by simp);subst hA;cases h4
 subst he
 exact cy Z Z ⟨none,0,[],rfl,by simp,by decide,f4.nil,H.forget (by simp) (by simp)⟩
 refine U<|ZF Z<|Zk<|W<|Zr<|NF H d9 Z fun w1 b5 H=>G (Ys Z)<|vf (Y:=eT) Mh (K:=[]) (L:=[(b5,_)]) (M:=[]) H (rL.lit (by decide) (by rfl)) (es:=[]) (news:=es) Z Z Z (Rd.src (H.fact (i:=0) Z)) (by simpa using hb) Z ?_
 intro A3 c3 w3 L3 h3a h3b ho3 H
 refine G (Ws Z)<|U<|Zt ?_
 exact cy Z Z ⟨A3,c3,L3,rfl,h3a,h3b,ho3,H.forget (by simp) (by simp)⟩
theorem yg (es:List eR) (A:Option Addr) (c:Nat) (w:World) (hr:Rd gx 0 w.heap.size A es w) (hb:es.length*48<=140737488355328):
  dd aa m3 [.slice A es.length c] w fun v w2=> ∃ A' c' L',v=.slice A' es.length c'/\es.length<=c'/\c'<=maxLen/\f4 gx (.slice A' es.length c') fz es L'/\Hp w w2 L' []:=by
 refine aF mJ Z Z ?_
 have H:=Hp.startRd hr
 refine W<|Zr<|G (Ws Z)<|U<|W<|W<|Zr<|G (Ys Z) ?_
 refine wq (pB gj Z) Z Z Z (fun h4=> ?_) (fun h4=> ?_)
 refine U<|ZT Z<|W<|Zr<|G (Ws Z)<|U<|Zt ?_
 have he:es=[]:=by
  cases es with
  |nil=>rfl
  |cons e es=>obtain⟨b,o,hA,_⟩:=hr (by simp);subst hA;cases h4
 subst he
 exact cy Z Z ⟨none,0,[],rfl,by simp,by decide,f4.nil,H.forget (by simp) (by simp)⟩
 refine U<|ZF Z<|Zk<|W<|Zr<|NF H br Z fun w1 b5 H=>G (Ys Z)<|vf (Y:=gx) Gf (K:=[]) (L:=[(b5,_)]) (M:=[]) H (rL.lit (by decide) (by rfl)) (es:=[]) (news:=es) Z Z Z (Rd.src (H.fact (i:=0) Z)) (by simpa using hb) Z ?_
 intro A3 c3 w3 L3 h3a h3b ho3 H
 refine G (Ws Z)<|U<|Zt ?_
 exact cy Z Z ⟨A3,c3,L3,rfl,h3a,h3b,ho3,H.forget (by simp) (by simp)⟩
theorem BJ (es:List Bool) (A:Option Addr) (c:Nat) (w:World) (hr:Rd eT 0 w.heap.size A es w) (hb:es.length<=1000000):
  dd aa qz [.slice A es.length c,.bool true] w fun v w2=>(∃ n:Int,v=J n/\(0<=n↔true∈es))/\Below w.heap.size w w2:=by
 refine aF qd Z Z ?_
 have H:=Hp.startRd hr
 refine W<|Zr<|G (Wi Z)<|U<|W<|W<|Zr<|G (Ys Z)<|G (bn xS Z)<|G (Yi Z)<|U<|Zb ?_
 refine ce (τ:=Nat) [4,5,8,9,10,11,12,13,14,15,16,17,18] (fun k=>[(8,J (k:Nat))]) (fun k w'=>k<=es.length/\(∀ j,j<k->es[j]? =some false)/\Hp w w' [] [dA eT 0 w.heap.size A es]) (fun k=>es.length-k) 0 ⟨by omega,by intro j hj;omega,H⟩ (dK Z) ?_
 rintro k ρ1 w1 ⟨hk,hno,H⟩
 show CW _ _ _ _ (dB (gJ _ _ ρ1) [(8,J (k:Nat))]) w1
 refine W<|Zr ?_
 refine cU (cG Z Z) Z Z Z (fun h9=> ?_) (fun h9=> ?_)
 refine U<|W<|ZT Z<|Zk<|W<|Zb<|W<|Zr<|G (Yi Z)<|G (Wi Z)<|U<|W<|Zr<|G (Yb Z)<|G (Ys Z)<|G (Yi Z)<|pI H 0 Z d9 Z Z I I Z fun b2 o2 x2 e2=>G (aV dT Z (e2.cl 0 _ Z))<|G (Es wB Z Z) ?_
 refine mE 16 Z (fun h16=> ?_) (fun h16=> ?_)
 refine U<|ZT Z<|W<|Zr<|G (Yi Z)<|G (Wi Z)<|U<|Zt ?_
 exact cy Z Z ⟨⟨_,rfl,⟨fun _=>by have:=ae e2.at_;simp at h16;rwa[h16]at this,fun _=>by omega⟩⟩,H.below⟩
 refine U<|ZF Z<|Zk<|Zr<|G (bu Z Z I I)<|G (Yi Z)<|U ?_
 refine⟨k+1,⟨by omega,fun j hj=> ?_,H⟩,dK Z,Qg,by show es.length- (k+1)<es.length-k;omega⟩
 by_cases hji:j<k
 exact hno j hji
 have:j=k:=by omega
 subst this;rw[e2.at_];simpa using h16
 refine U<|W<|ZF Z<|Zx<|W<|Zr<|G (Wi Z)<|U<|Zt ?_
 exact cy Z Z ⟨⟨-1,rfl,⟨fun h=>by omega,fun h=>by obtain⟨j,hj⟩:=aU.1 h;have:=hno j (by have:=(cF hj).1;omega);rw[hj]at this;cases this⟩⟩,H.below⟩
theorem r9 (es:List Bool) (A:Option Addr) (c:Nat) (w:World) (hr:Rd eT 0 w.heap.size A es w) (hb:es.length<=1000000):
  dd aa pb [.slice A es.length c,.bool true] w fun v w2=>v=.bool (decide (true∈es))/\Below w.heap.size w w2:=by
 refine aF oz Z Z ?_
 have H:=Hp.start w
 refine W<|Zr<|G (Wb Z)<|U<|W<|Zr<|G (Ys Z)<|G (Yb Z)<|bW qn (BJ es _ _ _ hr hb) Z Z ?_
 rintro _ w1 ⟨⟨n,rfl,hn⟩,hb⟩;replace H:=H.later hb;clear hb
 refine G (kh Z Z)<|G (Wb Z)<|U<|Zt ?_
 exact cy (v:=.bool (decide (0<=n))) Z Z ⟨by rw[decide_eq_decide.2 hn],H.below⟩
theorem p5 (p:Pa) (i:Nat) (r:eR) (w:World) (hR:Rd gx 0 w.heap.size p.rA p.reps w) (hr:p.reps[i]? =some r) (hl:r.log.ok w):dd aa FA [p.v,J (i:Nat)] w fun v w2=>v=.tuple #[J (r.es.length:Nat),J (r.s:Nat)]/\Below w.heap.size w w2:=by
 refine aF D1 Z Z ?_
 obtain⟨ep,ld,isr,iA,iC,kn,kA,kC,reps,rA,rC,fw,bs⟩:=p
 dsimp only at hR hr
 have H:=Hp.startRd hR
 have hil:=(cF hr).1
 show CW _ _ _ _ (args [.agg #[J (ep),J (ld),.slice iA isr.length iC,.slice kA kn.length kC,.slice rA reps.length rC,J (fw),J (bs)],J (((i:Nat):Int))]) w
 refine W<|Zr<|fX H Z Z fun w1 b2 H=>G (Wi Z)<|G (Wi Z)<|U<|W<|Zr<|G (Zf cP Z)<|G (Zd bN H 0 Z Z Z)<|G (Yi Z)<|pI H 0 Z br Z Z I I Z fun b2 o2 x2 e2=> ?_
 obtain rfl:x2=r:=by have:=e2.at_;rw[hr]at this;exact(bx this).symm
 refine G (Zf dn Z)<|G (iw (xs:=[.slice x2.A ((bd x2.es).length) x2.cap,J (((fD x2.es x2.s:Nat):Int))]) eE Z Z (yh e2.cl 1 Z))<|bW fl (fI x2.A x2.cap x2.es x2.s _ ⟨hl.gl,hl.cap,hl.rd.below H.below|>.mono (ao _) H.size⟩) Z Z ?_
 rintro _ w3 ⟨Aen,cen,rfl,hren,hcen,hben⟩;replace H:=H.learnRd hben hren;clear hren hben
 refine G (Yu Z)<|G (Xs Z Z)<|G (Xi Z Z)<|G (Xi Z Z)<|G (Ws Z)<|G (Wi Z)<|G (Wi Z)<|U<|W<|Zr<|G (Ys Z)<|G (bn dM Z)<|G (Yi Z)<|G (Wi Z)<|G (Wi Z)<|U<|Zt ?_
 exact mj Z Z Z ⟨rfl,H.below⟩
theorem Pa.facts {p:Pa} (h:p.a.ok):1<=p.reps.length/\p.reps.length<=5/\p.isr.length=p.reps.length/\p.known.length=p.reps.length/\1<=p.few/\p.few<=p.reps.length/\0<=p.epoch/\p.epoch<=1073741824/\ -1<=p.leader/\p.leader<p.reps.length/\0<=p.base/\p.base<=400/\true∈p.isr:=by
 have h1:=h.n1;have h2:=h.n2;have h3:=h.isrl;have h4:=h.knownl;have h6:=h.few2;have h7:=h.ld1
 simp only[Pa.a,bw]at h1 h2 h3 h4 h6 h7
 exact⟨h1,h2,h3,h4,h.few1,h6,h.ep0,h.ep1,h.ld0,h7,h.base0,h.base1,h.some_⟩
theorem Pa.repOk {p:Pa} (h:p.a.ok) {i:Nat} {r:eR} (hr:p.reps[i]? =some r):GL r.es r.s/\0<=r.high/\r.high<=r.es.length:=by
 have h1:=h.reps r.a (bI (ae hr))
 exact⟨h1.gl,h1.high0,h1.high1⟩
theorem Pa.leads {p:Pa} (h:p.a.ok) {l:Nat} {r:eR} (hl:p.leader=l) (hr:p.reps[l]? =some r):p.isr[l]? =some true/\r.up=true:=
 h.lead l r.a hl (by simp[Pa.a,hr])
theorem Pa.log {p:Pa} {w:World} (hd:p.rd 0 w.heap.size w) (h:p.a.ok) {i:Nat} {r:eR} (hr:p.reps[i]? =some r):r.log.ok w:=
 ⟨(Pa.repOk h hr).1,hd.cap r (ae hr),hd.logs r (ae hr)⟩
theorem rU (p:Pa) (w:World) (h:p.rd 0 w.heap.size w) (hok:p.a.ok):dd aa DO [p.v] w fun v w2=>v=J 0/\Below w.heap.size w w2:=by
 refine aF BY Z Z ?_
 obtain⟨hn1,hn2,hil,hkl,hf1,hf2,he0,he1,hl0,hl1,hb0,hb1,hsm⟩:=Pa.facts hok
 have hkn:=hok.known
 have hiC:=h.iC
 have hkC:=h.kC
 have hrC:=h.rC
 have hfew:=h.few
 have H:=Hp.startPa h
 obtain⟨ep,ld,isr,iA,iC,kn,kA,kC,reps,rA,rC,fw,bs⟩:=p
 simp only[Pa.a]at hkn
 dsimp only at H hn1 hn2 hil hkl hf1 hf2 he0 he1 hl0 hl1 hb0 hb1 hsm hiC hkC hrC hfew
 show CW _ _ _ _ (args [.agg #[J (ep),J (ld),.slice iA isr.length iC,.slice kA kn.length kC,.slice rA reps.length rC,J (fw),J (bs)]]) w
 refine W<|Zr<|fX H Z Z fun w1 b1 H=>G (Wi Z)<|U<|W<|Zr<|G (Zf cP Z)<|G (Zd bN H 0 Z Z Z)<|G (bn gj Z)<|G (Wi Z)<|U<|W<|W<|Zr<|G (Yi Z)<|G (da Z Z I)<|G (Yb Z)<|ZG<|G (Yi Z)<|ZG<|G (eh Z Z I)<|G (N Z Z)<|G (Yb Z)<|ZG<|G (Zf f8 Z)<|ZG<|G (Zd gM H 0 Z Z Z)<|ZG<|G (bn xS Z)<|ZG<|G (Yi Z)<|ZG<|G (bV Z Z I)<|G (N Z Z)<|G (Yb Z)<|ZG<|G (Zf f7 Z)<|ZG<|G (Zd cm H 0 Z Z Z) ?_
 refine ZG<|G (bn eG Z)<|ZG<|G (Yi Z)<|ZG<|G (bV Z Z I)<|G (N Z Z)<|G (Yb Z)<|ZG<|G (Zf yd Z)<|ZG<|G (Zd aj H 0 Z Z Z)<|ZG<|G (da Z Z I)<|G (N Z Z)<|G (Yb Z)<|ZG<|G (Zf yd Z)<|ZG<|G (Zd aj H 0 Z Z Z)<|ZG<|G (Yi Z)<|ZG<|G (eh Z Z I)<|G (N Z Z)<|G (Yb Z)<|ZG<|G (Zf pV Z)<|ZG<|G (Zd aj H 0 Z Z Z)<|ZG<|G (da Z Z I)<|G (N Z Z)<|G (Yb Z)<|ZG<|G (Zf pV Z)<|ZG<|G (Zd aj H 0 Z Z Z)<|ZG<|G (eh Z Z I) ?_
 refine G (N Z Z)<|G (Yb Z)<|ZG<|G (Zf dh Z)<|ZG<|G (Zd aj H 0 Z Z Z)<|ZG<|G (da Z Z I)<|G (N Z Z)<|G (Yb Z)<|ZG<|G (Zf dh Z)<|ZG<|G (Zd aj H 0 Z Z Z)<|ZG<|G (Yi Z)<|ZG<|G (ru Z Z I)<|G (N Z Z)<|G (Yb Z)<|ZG<|G (Zf uQ Z)<|ZG<|G (Zd aj H 0 Z Z Z)<|ZG<|G (da Z Z I)<|G (N Z Z)<|G (Yb Z)<|ZG<|G (Zf uQ Z)<|ZG<|G (Zd aj H 0 Z Z Z)<|ZG<|G (eh Z Z I)<|G (N Z Z)<|U<|ZF Z<|Zk<|W<|W ?_
 refine Zr<|G (Zf f8 Z)<|G (Zd gM H 0 Z Z Z)<|bW jr (r9 isr iA iC _ (H.rd0 1 Z) I) Z Z ?_
 rintro _ w2 ⟨rfl,hb⟩;replace H:=H.later hb;clear hb
 rw[decide_eq_true hsm]
 refine G (dI Z)<|G (Yb Z)<|ZG<|G (Zf dh Z)<|ZG<|G (Zd aj H 0 Z Z Z)<|ZG ?_
 refine cU (kh Z Z) Z Z Z (fun h80=> ?_) (fun h80=> ?_)
 obtain⟨l,hld⟩: ∃ l:Nat,ld=l:=⟨ld.toNat,by omega⟩
 refine ZG<|G (Yb Z)<|ZG<|G (Zf f8 Z)<|ZG<|G (Zd gM H 0 Z Z Z)<|ZG<|G (Zf dh Z)<|ZG<|G (Zd aj H 0 Z Z Z)<|ZG<|pI (k:=l) H 1 Z d9 Z (congrArg (Value.int .i64) hld) I I Z fun b3 o3 x3 e3=>ZG ?_
 obtain⟨hI,-⟩:=Pa.leads hok (l:=l) hld (show(Pa.reps ⟨ep,ld,isr,iA,iC,kn,kA,kC,reps,rA,rC,fw,bs⟩)[l]? =_ from ah (by show l<reps.length;omega))
 obtain rfl:x3=true:=by have:=e3.at_;rw[show isr[l]? =_ from hI]at this;exact(bx this).symm
 refine G (aV (v:=.bool true) dT Z (e3.cl 0 _ Z))<|ZG<|G (dI Z)<|ZG<|G (Yb Z)<|ZG<|G (Zf cP Z)<|ZG<|G (Zd bN H 0 Z Z Z)<|ZG<|G (Zf dh Z)<|ZG<|G (Zd aj H 0 Z Z Z)<|ZG<|pI (k:=l) H 3 Z br Z (congrArg (Value.int .i64) hld) I I Z fun b4 o4 x4 e4=>ZG<|G (Zf ft Z)<|ZG ?_
 obtain⟨-,hU⟩:=Pa.leads hok (l:=l) hld (show(Pa.reps ⟨ep,ld,isr,iA,iC,kn,kA,kC,reps,rA,rC,fw,bs⟩)[l]? =_ from e4.at_)
 refine G (aV (v:=.bool true) dT Z (e4.cl 0 _ (by rw[<-hU];rfl)))<|ZG<|G (dI Z)<|ZG<|G (N Z Z)<|ZG<|G (Kt Z Z)<|G (N Z Z)<|U<|ZF Z<|Zk<|W<|W<|Zr<|G (Zf cP Z)<|G (Zd bN H 0 Z Z Z)<|G (bn gj Z)<|G (Yi Z)<|U<|Zb ?_
 refine ce (τ:=Nat) [2,4,5,6,7,104,105,106,107,108,109,110,111,112,113,114,115,116,117,118,119,120,121,122,123,124,125,126,127,128,129,130,131,132,133,134,135,136,137,138,139,140,141,142,143,144,145,146] (fun k=>[(104,J (k:Nat))]) (fun k w'=>k<=reps.length/\Hp w w' [(b1,.cells #[J (ep),J (ld),.slice iA isr.length iC,.slice kA kn.length kC,.slice rA reps.length rC,J (fw),J (bs)] bC (0,0))] [Df 0 w.heap.size ⟨ep,ld,isr,iA,iC,kn,kA,kC,reps,rA,rC,fw,bs⟩,dA eT 0 w.heap.size iA isr,dA bS 0 w.heap.size kA kn,dA gx 0 w.heap.size rA reps]) (fun k=>reps.length-k) 0 ⟨by omega,H⟩ (dK Z) ?_
 rintro k ρ1 w5 ⟨hk,H⟩
 show CW _ _ _ _ (dB (gJ _ _ ρ1) [(104,J (k:Nat))]) w5
 refine W<|Zr ?_
 refine cU (cG Z Z) Z Z Z (fun h105=> ?_) (fun h105=> ?_)
 refine U<|W<|ZT Z<|Zk<|W<|Zb<|W<|Zr<|G (Yi Z)<|pI H 3 Z br Z Z I I Z fun b6 o6 x6 e6=>G (iw (xs:=eR.c x6) l9 Z Z e6.cl)<|ey H nj Z fun w7 b5 H=>G (Wi Z)<|bk H 0 (#[.bool (x6.up),.slice x6.A ((bd x6.es).length) x6.cap,J (((fD x6.es x6.s:Nat):Int)),J (x6.high)]) j7 Z Z Z Z Z N N fun w8 H=>U<|W<|Zr<|G (Zw aG H 1 Z Z Z)<|G (Yi Z)<|bW jE (p5 ⟨ep,ld,isr,iA,iC,kn,kA,kC,reps,rA,rC,fw,bs⟩ k x6 _ (H.rd0 3 Z) e6.at_ (Pa.log (Hp.pa H 0 Z) hok (i:=k) e6.at_)) Z Z ?_
 rintro _ w9 ⟨rfl,hb⟩;replace H:=H.later hb;clear hb
 refine G (Yu Z)<|G (Xi Z Z)<|G (Xi Z Z)<|G (Wi Z)<|G (Wi Z)<|U<|W<|Zr<|G (Zf dn Z)<|G (jJ 1 [.slice x6.A ((bd x6.es).length) x6.cap,J (((fD x6.es x6.s:Nat):Int))] eE Z Z (H.ent (i:=0) Z) Z)<|bW mR (qK x6.A x6.cap x6.es x6.s _ (Pa.log (Hp.pa H 0 Z) hok (i:=k) e6.at_)) Z Z ?_
 rintro _ w10 ⟨rfl,hb⟩;replace H:=H.later hb;clear hb
 refine G (bV Z Z Z)<|G (Yb Z)<|ZG<|G (Zf dv Z)<|ZG<|G (Zd aj H 0 Z Z Z)<|ZG<|G (da Z Z (by have:=(Pa.repOk hok (show(Pa.reps ⟨ep,ld,isr,iA,iC,kn,kA,kC,reps,rA,rC,fw,bs⟩)[k]? =_ from e6.at_)).2.1;omega))<|G (N Z Z)<|G (Yb Z)<|ZG<|G (Zf dv Z)<|ZG<|G (Zd aj H 0 Z Z Z)<|ZG<|G (Yi Z)<|ZG<|G (eh Z Z (by have:=(Pa.repOk hok (show(Pa.reps ⟨ep,ld,isr,iA,iC,kn,kA,kC,reps,rA,rC,fw,bs⟩)[k]? =_ from e6.at_)).2.2;omega))<|G (N Z Z)<|G (Yb Z)<|ZG<|G (Zf f7 Z)<|ZG<|G (Zd cm H 1 Z Z Z)<|ZG<|G (Yi Z)<|ZG<|pI H 2 Z ba Z Z I I Z fun b11 o11 x11 e11=>ZG<|G (aV aj Z (e11.cl 0 _ Z))<|ZG<|G (da Z Z (by have:=(hkn _ (ae e11.at_)).1;omega))<|G (N Z Z)<|G (Yb Z)<|ZG<|G (Zf f7 Z)<|ZG<|G (Zd cm H 1 Z Z Z)<|ZG<|G (Yi Z) ?_
 refine ZG<|pI H 2 Z ba Z Z I I Z fun b12 o12 x12 e12=>ZG<|G (aV aj Z (e12.cl 0 _ Z))<|ZG<|G (eh Z Z (by have:=(hkn _ (ae e12.at_)).2;omega))<|G (N Z Z)<|U<|ZF Z<|Zk<|Zr<|G (bu Z Z I I)<|G (Yi Z)<|U ?_
 refine⟨k+1,⟨by omega,H.forget (.cons _ (ap _)) (fun _ h=>h)⟩,dK Z,Qg,by show reps.length- (k+1)<reps.length-k;omega⟩
 refine U<|W<|ZF Z<|Zx<|W<|Zr<|G (Wi Z)<|U<|Zt ?_
 exact cy Z Z ⟨rfl,H.below⟩
 refine ZG<|G (Yb Z)<|ZN<|ZN<|ZN<|ZN<|ZN<|ZN<|ZN<|ZN<|ZN<|ZN<|ZN<|ZN<|ZN<|ZN<|ZN<|ZN<|ZN<|ZG<|G (N Z Z)<|G (N Z Z)<|U<|ZF Z<|Zk<|W<|W<|Zr<|G (Zf cP Z)<|G (Zd bN H 0 Z Z Z)<|G (bn gj Z)<|G (Yi Z)<|U<|Zb ?_
 refine ce (τ:=Nat) [2,4,5,6,7,104,105,106,107,108,109,110,111,112,113,114,115,116,117,118,119,120,121,122,123,124,125,126,127,128,129,130,131,132,133,134,135,136,137,138,139,140,141,142,143,144,145,146] (fun k=>[(104,J (k:Nat))]) (fun k w'=>k<=reps.length/\Hp w w' [(b1,.cells #[J (ep),J (ld),.slice iA isr.length iC,.slice kA kn.length kC,.slice rA reps.length rC,J (fw),J (bs)] bC (0,0))] [Df 0 w.heap.size ⟨ep,ld,isr,iA,iC,kn,kA,kC,reps,rA,rC,fw,bs⟩,dA eT 0 w.heap.size iA isr,dA bS 0 w.heap.size kA kn,dA gx 0 w.heap.size rA reps]) (fun k=>reps.length-k) 0 ⟨by omega,H⟩ (dK Z) ?_
 rintro k ρ1 w13 ⟨hk,H⟩
 show CW _ _ _ _ (dB (gJ _ _ ρ1) [(104,J (k:Nat))]) w13
 refine W<|Zr ?_
 refine cU (cG Z Z) Z Z Z (fun h105=> ?_) (fun h105=> ?_)
 refine U<|W<|ZT Z<|Zk<|W<|Zb<|W<|Zr<|G (Yi Z)<|pI H 3 Z br Z Z I I Z fun b14 o14 x14 e14=>G (iw (xs:=eR.c x14) l9 Z Z e14.cl)<|ey H nj Z fun w15 b5 H=>G (Wi Z)<|bk H 0 (#[.bool (x14.up),.slice x14.A ((bd x14.es).length) x14.cap,J (((fD x14.es x14.s:Nat):Int)),J (x14.high)]) j7 Z Z Z Z Z N N fun w16 H=>U<|W<|Zr<|G (Zw aG H 1 Z Z Z)<|G (Yi Z)<|bW jE (p5 ⟨ep,ld,isr,iA,iC,kn,kA,kC,reps,rA,rC,fw,bs⟩ k x14 _ (H.rd0 3 Z) e14.at_ (Pa.log (Hp.pa H 0 Z) hok (i:=k) e14.at_)) Z Z ?_
 rintro _ w17 ⟨rfl,hb⟩;replace H:=H.later hb;clear hb
 refine G (Yu Z)<|G (Xi Z Z)<|G (Xi Z Z)<|G (Wi Z)<|G (Wi Z)<|U<|W<|Zr<|G (Zf dn Z)<|G (jJ 1 [.slice x14.A ((bd x14.es).length) x14.cap,J (((fD x14.es x14.s:Nat):Int))] eE Z Z (H.ent (i:=0) Z) Z)<|bW mR (qK x14.A x14.cap x14.es x14.s _ (Pa.log (Hp.pa H 0 Z) hok (i:=k) e14.at_)) Z Z ?_
 rintro _ w18 ⟨rfl,hb⟩;replace H:=H.later hb;clear hb
 refine G (bV Z Z Z)<|G (Yb Z)<|ZG<|G (Zf dv Z)<|ZG<|G (Zd aj H 0 Z Z Z)<|ZG<|G (da Z Z (by have:=(Pa.repOk hok (show(Pa.reps ⟨ep,ld,isr,iA,iC,kn,kA,kC,reps,rA,rC,fw,bs⟩)[k]? =_ from e14.at_)).2.1;omega))<|G (N Z Z)<|G (Yb Z)<|ZG<|G (Zf dv Z)<|ZG<|G (Zd aj H 0 Z Z Z)<|ZG<|G (Yi Z)<|ZG<|G (eh Z Z (by have:=(Pa.repOk hok (show(Pa.reps ⟨ep,ld,isr,iA,iC,kn,kA,kC,reps,rA,rC,fw,bs⟩)[k]? =_ from e14.at_)).2.2;omega))<|G (N Z Z)<|G (Yb Z)<|ZG<|G (Zf f7 Z)<|ZG<|G (Zd cm H 1 Z Z Z)<|ZG<|G (Yi Z)<|ZG<|pI H 2 Z ba Z Z I I Z fun b19 o19 x19 e19=>ZG<|G (aV aj Z (e19.cl 0 _ Z))<|ZG<|G (da Z Z (by have:=(hkn _ (ae e19.at_)).1;omega))<|G (N Z Z)<|G (Yb Z)<|ZG<|G (Zf f7 Z)<|ZG<|G (Zd cm H 1 Z Z Z)<|ZG<|G (Yi Z) ?_
 refine ZG<|pI H 2 Z ba Z Z I I Z fun b20 o20 x20 e20=>ZG<|G (aV aj Z (e20.cl 0 _ Z))<|ZG<|G (eh Z Z (by have:=(hkn _ (ae e20.at_)).2;omega))<|G (N Z Z)<|U<|ZF Z<|Zk<|Zr<|G (bu Z Z I I)<|G (Yi Z)<|U ?_
 refine⟨k+1,⟨by omega,H.forget (.cons _ (ap _)) (fun _ h=>h)⟩,dK Z,Qg,by show reps.length- (k+1)<reps.length-k;omega⟩
 refine U<|W<|ZF Z<|Zx<|W<|Zr<|G (Wi Z)<|U<|Zt ?_
 exact cy Z Z ⟨rfl,H.below⟩
theorem Aa {f:cr} {l:List eR} {x:eR} {F:List cr} (h:f∈F++s9 (l++[x])):f∈BF x::(F++s9 l):=by
 simp only[s9,bj,eJ,mr,ar,aq]at h
 simp only[av,ar,s9]
 rcases h with h|h|h
 exact .inr (.inl h)
 exact .inr (.inr h)
 exact .inl h
theorem z0 (p:Pa) (w:World) (h:p.rd 0 w.heap.size w) (hok:p.a.ok):dd aa yL [p.v] w fun v w2=> ∃ (p':Pa) (g1 g2 g3:Nat) (c1 c2 c3:Array Value),v=p'.v/\p'.a=p.a/\Gl w w2 p' g1 g2 g3 c1 c2 c3:=by
 refine aF D5 Z Z ?_
 obtain⟨hn1,hn2,hil,hkl,hf1,hf2,he0,he1,hl0,hl1,hb0,hb1,hsm⟩:=Pa.facts hok
 have hkn:=hok.known
 have hiC:=h.iC
 have hkC:=h.kC
 have hrC:=h.rC
 have hfew:=h.few
 have H:=Hp.startPa h
 obtain⟨ep,ld,isr,iA,iC,kn,kA,kC,reps,rA,rC,fw,bs⟩:=p
 simp only[Pa.a]at hkn
 dsimp only at H hn1 hn2 hil hkl hf1 hf2 he0 he1 hl0 hl1 hb0 hb1 hsm hiC hkC hrC hfew
 show CW _ _ _ _ (args [.agg #[J (ep),J (ld),.slice iA isr.length iC,.slice kA kn.length kC,.slice rA reps.length rC,J (fw),J (bs)]]) w
 refine W<|Zr<|fX H Z Z fun w1 b1 H=>ey H bp Z fun w2 b2 H=>U<|W ?_
 refine bB bY [0,1,3,4,6,7,2,9,5,8] [10,11,12,13,14] [2,5,8] [0,3,6,9] (sp [(2,Sp.orow w2.heap.size eT jm isr),(5,Sp.orow w2.heap.size bS cY kn),(8,Sp.orow w2.heap.size gx fz reps)]) N N N N Nq (cH _) ?_
 refine aw Z Z Z Z Z (fun w' hw'=>Zf f8 Z)<|aw Z Z Z Z Z (fun w' hw'=>aV gM Z (aC ((H.later hw').ent (i:=1) Z) Z))<|aw Z Z Z Z Z (fun w' hw'=>Zf f7 Z)<|aw Z Z Z Z Z (fun w' hw'=>aV cm Z (aC ((H.later hw').ent (i:=1) Z) Z))<|aw Z Z Z Z Z (fun w' hw'=>Zf cP Z)<|aw Z Z Z Z Z (fun w' hw'=>aV bN Z (aC ((H.later hw').ent (i:=1) Z) Z))<|ym qo Z Z Z Z Z (fun w' hw'=>hw'.size) (fun w' hw'=>Ca isr _ _ w' ((H.later hw').rd0 1 Z) I) Z fun A6 c6 hc6=>aw Z Z Z Z Z (fun w' hw'=>Zf f8 Z)<|ym gm Z Z Z Z Z (fun w' hw'=>hw'.size) (fun w' hw'=>sY kn _ _ w' ((H.later hw').rd0 2 Z) I) Z fun A9 c9 hc9=>ym mQ Z Z Z Z Z (fun w' hw'=>hw'.size) (fun w' hw'=>yg reps _ _ w' ((H.later hw').rd0 3 Z) I) Z fun A12 c12 hc12=>aT ?_
 intro w3 hw' hF
 obtain⟨hF,Aq,cq,L12,eq,hcq,hm12,ho12,he12,hn12⟩:=hF;cases eq;clear hcq
 obtain⟨hF,Aq,cq,L9,eq,hcq,hm9,ho9,he9,hn9⟩:=hF;cases eq;clear hcq
 obtain⟨hF,Aq,cq,L6,eq,hcq,hm6,ho6,he6,hn6⟩:=hF;cases eq;clear hcq
 obtain⟨g1,cur1,rfl,rfl,row1⟩:=ho6.row I
 obtain⟨g2,cur2,rfl,rfl,row2⟩:=ho9.row I
 obtain⟨g3,cur3,rfl,rfl,row3⟩:=ho12.row I
 have e6:=he6 _ (dZ _)
 have e9:=he9 _ (dZ _)
 have e12:=he12 _ (dZ _)
 replace H:=H.adopt3 hw' e6 e9 e12 (sa e6.1 e9.1 Z) (sa e6.1 e12.1 Z) (sa e9.1 e12.1 Z)
 clear hw' hF
 refine bk H 4 (#[J (ep),J (ld),.slice (Qd g1) isr.length c6,.slice kA kn.length kC,.slice rA reps.length rC,J (fw),J (bs)]) IQ Z Z Z Z Z N N fun w4 H=>G (Zf f7 Z)<|bk H 4 (#[J (ep),J (ld),.slice (Qd g1) isr.length c6,.slice (Qd g2) kn.length c9,.slice rA reps.length rC,J (fw),J (bs)]) jH Z Z Z Z Z N N fun w5 H=>G (Zf cP Z)<|bk H 4 (#[J (ep),J (ld),.slice (Qd g1) isr.length c6,.slice (Qd g2) kn.length c9,.slice (Qd g3) reps.length c12,J (fw),J (bs)]) Dt Z Z Z Z Z N N fun w6 H=>U<|W<|W<|Zr<|G (Zf cP Z)<|G (Zd bN H 4 Z Z Z)<|G (bn gj Z)<|G (Yi Z)<|U<|Zb ?_
 refine ce (τ:=Nat×List eR×Array Value) [3,19,20,21,22,23,24,25,26,27,28,29,30,31,32,33,34,35,36] (fun(k,_)=>[(19,J (k:Nat))]) (fun(k,rs,c3) w'=>k<=rs.length/\rs.length=reps.length/\rs.map eR.a=reps.map eR.a/\rs.drop k=reps.drop k/\(∀ r∈rs.take k,(bd r.es).length<=r.cap/\w.heap.size<=r.lo)/\dW gx rs c12 c3/\Hp w w' [(g1,.cells cur1 jm (0,0)),(g2,.cells cur2 cY (0,0)),(g3,.cells c3 fz (0,0)),(b2,.cells #[J 0,J 0,.slice none 0 0,.slice none 0 0,.slice none 0 0,J 0,J 0] bC (0,0)),(b1,.cells #[J ep,J ld,.slice (Qd g1) isr.length c6,.slice (Qd g2) kn.length c9,.slice (Qd g3) reps.length c12,J fw,J bs] bC (0,0))] ([Df 0 w.heap.size ⟨ep,ld,isr,iA,iC,kn,kA,kC,reps,rA,rC,fw,bs⟩,dA eT 0 w.heap.size iA isr,dA bS 0 w.heap.size kA kn,dA gx 0 w.heap.size rA reps]++s9 (rs.take k))) (fun(k,rs,_)=>rs.length-k) (0,reps,cur3) ⟨by omega,rfl,rfl,rfl,by simp,row3,H⟩ (dK Z) ?_
 rintro⟨k,rs,c3⟩ ρ1 w7 ⟨hk,hrl,hma,hdr,hcp,row,H⟩
 show CW _ _ _ _ (dB (gJ _ _ ρ1) [(19,J (k:Nat))]) w7
 refine W<|Zr ?_
 refine cU (cG Z Z) Z Z Z (fun h20=> ?_) (fun h20=> ?_)
 refine U<|W<|ZT Z<|Zk<|W<|Zb<|W ?_
 obtain⟨x,hx⟩: ∃ x,rs[k]? =some x:=⟨_,ah I⟩
 have hxt:=zr hdr hx
 have hsz:=(Pa.repOk hok (show(Pa.reps ⟨ep,ld,isr,iA,iC,kn,kA,kC,reps,rA,rC,fw,bs⟩)[k]? =_ from hxt)).1.sz
 refine Zr<|G (Yi Z)<|G (Wi Z)<|U ?_
 have hlo:=H.size
 refine bB bY [0,1,2,3,4,5,6,7,8,9,10,11,12,13] [14] [10] [0,2,3,5,6,7,8,11,12,13] (sp [(10,Sp.row w7.heap.size dF (bd x.es))]) N N N N Nq (cH _) ?_
 refine aw Z Z Z Z Z (fun w' hw'=>Zf cP Z)<|aw Z Z Z Z Z (fun w' hw'=>aV bN Z (aC ((H.later hw').ent (i:=4) Z) Z))<|aw Z Z Z Z Z (fun w' hw'=>Yi Z)<|aw Z Z Z Z Z (fun w' hw'=>Zf cP Z)<|aw Z Z Z Z Z (fun w' hw'=>aV bN Z (aC ((H.later hw').ent (i:=4) Z) Z))<|aw Z Z Z Z Z (fun w' hw'=>Yi Z)<|aw Z Z Z Z Z (fun w' hw'=>cD br Z Z (by first|omega|(simp only[ab];omega)))<|aw Z Z Z Z Z (fun w' hw'=>Zf dn Z)<|aw Z Z Z Z Z (fun w' hw'=>Zf gE Z)<|aw Z Z Z Z Z (fun w' hw'=>bR d7 row hx 1 Z ((H.later hw').ent (i:=2) Z) Z)<|C7 fc Z Z Z Z Z (fun w' hw'=>hw'.size) (fun w' hw'=>lv (bd x.es) _ _ w' ((Hp.pa (H.later hw') 0 Z).logs x (ae hxt)) I) Z fun A32 c32 hc32=>aw Z Z Z Z Z (fun w' hw'=>cD br Z Z (by first|omega|(simp only[ab];omega)))<|aw Z Z Z Z Z (fun w' hw'=>Zf dn Z)<|aw Z Z Z Z Z (fun w' hw'=>Zf gE Z)<|aT ?_
 intro w8 hw' hF
 obtain⟨hF,Aq,cq,eq,hcq,hrw32⟩:=hF;cases eq;clear hcq
 replace H:=H.learnRd hw' hrw32
 clear hw' hF
 refine kX H 2 ({x with A:=A32,cap:=c32,lo:=w7.heap.size,hi:=w8.heap.size}) CC row hx 1 Z Z Z Z Z Z N fun w10 cur9 row9 H=>U<|Zr<|G (bu Z Z I I)<|G (Yi Z)<|U ?_
 obtain⟨z1,z2,z3⟩:=N0 (x':={x with A:=A32,cap:=c32,lo:=w7.heap.size,hi:=w8.heap.size}) hx hma hdr Z
 refine⟨(k+1,rs.set k {x with A:=A32,cap:=c32,lo:=w7.heap.size,hi:=w8.heap.size},cur9),⟨by rw[ab];omega,by rw[ab];exact hrl,z1,z2,?_,row9,H.forget (ap _) (fun f hf=>by rw[z3]at hf;exact Aa hf)⟩,dK Z,Qg,by show(rs.set k _).length- (k+1)<rs.length-k;rw[ab];omega⟩
 rw[z3];intro t ht;rcases ar.1 ht with ht|ht;exact hcp t ht;rw[aq.1 ht];exact⟨hc32,hlo⟩
 refine U<|W<|ZF Z<|Zx<|W<|Zr<|G (Zw aG H 4 Z Z Z)<|bk H 3 (#[J (ep),J (ld),.slice (Qd g1) isr.length c6,.slice (Qd g2) kn.length c9,.slice (Qd g3) reps.length c12,J (fw),J (bs)]) aL Z Z Z Z Z N N fun w11 H=>U<|Zt ?_
 have hke:k=rs.length:=by omega
 rw[hke,bL]at H hcp
 exact eO (cs0:= #[J ep,J ld,.slice (Qd g1) isr.length c6,.slice (Qd g2) kn.length c9,.slice (Qd g3) reps.length c12,J fw,J bs]) Z aG Z (H.ent (i:=3) Z) Z ⟨⟨ep,ld,isr,some ⟨g1,0,none⟩,c6,kn,some ⟨g2,0,none⟩,c9,rs,some ⟨g3,0,none⟩,c12,fw,bs⟩,g1,g2,g3,cur1,cur2,c3,by unfold Pa.v Pa.c;dsimp only;rw[hrl],by unfold Pa.a;dsimp only;rw[hma],⟨rfl,rfl,rfl,row1,row2,row,fun r hr=>(hcp r hr).1,fun r hr=>(hcp r hr).2,by dsimp only;omega,H.forget (.cons_cons _ (.cons_cons _ (.cons_cons _ (vJ _)))) (fun f hf=>bX _ hf)⟩⟩
/-- the least of what is known of those that keep up -/
def dy:List Bool->List Int->Int->Int
 |b::bs,n::ns,m=>dy bs ns (if b then min m n else m)
 |_,_,m=>m
theorem Ak {isr:List Bool} {kn:List Int} {k:Nat} {b:Bool} {n m:Int} (hb:isr[k]? =some b) (hn:kn[k]? =some n):dy (isr.drop k) (kn.drop k) m=dy (isr.drop (k+1)) (kn.drop (k+1)) (if b then min m n else m):=by
 rw[cO hb,cO hn]
 rfl
theorem Fe {w0 w:World} {L:List (Nat×Obj)} {F:List cr} {r:eR} (H:Hp w0 w L F) (hF:BF r∈F) (hg:GL r.es r.s) (hc:(bd r.es).length<=r.cap):r.log.ok w:=by
 obtain⟨h1,h2,-⟩:=H.facts (BF r) hF
 exact⟨hg,hc,Rd.mono h1 (bD _) h2⟩
theorem tM (p:Pa) (r:Nat) (w:World) (h:p.rd 0 w.heap.size w) (hok:p.a.ok) (hr:r<p.reps.length):dd aa Jr [p.v,J (r:Nat)] w fun v w2=> ∃ (p':Pa) (g1 g2 g3:Nat) (c1 c2 c3:Array Value),v=.tuple #[p'.v,J 0]/\p'.a=p.a/\Gl w w2 p' g1 g2 g3 c1 c2 c3:=by
 refine aF Hm Z Z ?_
 obtain⟨hn1,hn2,hil,hkl,hf1,hf2,he0,he1,hl0,hl1,hb0,hb1,hsm⟩:=Pa.facts hok
 have hkn:=hok.known
 have hiC:=h.iC
 have hkC:=h.kC
 have hrC:=h.rC
 have hfew:=h.few
 have H:=Hp.startPa h
 obtain⟨ep,ld,isr,iA,iC,kn,kA,kC,reps,rA,rC,fw,bs⟩:=p
 simp only[Pa.a]at hkn
 dsimp only at H hn1 hn2 hil hkl hf1 hf2 he0 he1 hl0 hl1 hb0 hb1 hsm hiC hkC hrC hfew
 dsimp only at hr
 show CW _ _ _ _ (args [.agg #[J (ep),J (ld),.slice iA isr.length iC,.slice kA kn.length kC,.slice rA reps.length rC,J (fw),J (bs)],J (((r:Nat):Int))]) w
 refine W<|Zr<|fX H Z Z fun w1 b2 H=>ey H bp Z fun w2 b4 H=>G (Wi Z)<|U<|W<|W<|Zr<|G (Zw aG H 1 Z Z Z)<|bW ly (rU ⟨ep,ld,isr,iA,iC,kn,kA,kC,reps,rA,rC,fw,bs⟩ _ (Hp.pa H 0 Z) hok) Z Z ?_
 rintro _ w3 ⟨rfl,hb⟩;replace H:=H.later hb;clear hb
 refine G (Wi Z)<|U<|W<|Zr<|G (Yi Z)<|G (bV Z Z Z)<|U<|ZF Z<|Zk<|W<|W<|Zr<|G (Yi Z)<|G (da Z Z I)<|G (Yb Z)<|ZG<|G (Yi Z)<|ZG<|G (Zf cP Z)<|ZG<|G (Zd bN H 1 Z Z Z)<|ZG<|G (bn gj Z)<|ZG<|G (ru Z Z I)<|G (N Z Z)<|U<|ZF Z<|Zk<|W<|Zr<|G (Zw aG H 1 Z Z Z)<|bW mS (z0 ⟨ep,ld,isr,iA,iC,kn,kA,kC,reps,rA,rC,fw,bs⟩ _ (Hp.pa H 0 Z) hok) Z Z ?_
 rintro _ w4 ⟨⟨ep2,ld2,is2,iA2,c1,kn2,kA2,c2,rs,rA2,c3,fw2,bs2⟩,g1,g2,g3,u1,u2,u3,rfl,ha2,ho⟩
 simp only[Pa.a,gu.mk.injEq]at ha2
 obtain⟨e1,e2,e3,e4,hma,e6,e7⟩:=ha2
 obtain rfl:ep=ep2:=e1.symm
 obtain rfl:ld=ld2:=e2.symm
 obtain rfl:isr=is2:=e3.symm
 obtain rfl:kn=kn2:=e4.symm
 obtain rfl:fw=fw2:=e6.symm
 obtain rfl:bs=bs2:=e7.symm
 have hrl:rs.length=reps.length:=by have:=congrArg cu hma;simpa using this
 obtain⟨i1,i2,i3,row1,row2,row3,hcp,hlos,-,hjn⟩:=ho
 dsimp only at i1 i2 i3 row1 row2 row3 hcp hlos hjn
 subst i1;subst i2;subst i3
 have hlo0:=H.size
 replace H:=H.joinF hjn (by intro f hf;obtain⟨r,hr,rfl⟩:=bz.1 hf;exact hlos r hr)
 replace hlos: ∀ r∈rs,w.heap.size<=r.lo:=fun r hr=>aS hlo0 (hlos r hr)
 clear hjn
 refine bk H 3 (#[J (ep),J (ld),.slice (Qd g1) isr.length c1,.slice (Qd g2) kn.length c2,.slice (Qd g3) rs.length c3,J (fw),J (bs)]) aL Z Z Z Z Z N N fun w5 H=>G (Wi Z)<|U<|Zt ?_
 exact bG (cs0:= #[J (ep),J (ld),.slice (Qd g1) isr.length c1,.slice (Qd g2) kn.length c2,.slice (Qd g3) rs.length c3,J (fw),J (bs)]) (v1:=J 0) Z aG Z (H.ent (i:=3) Z) Z Z ⟨⟨ep,ld,isr,_,c1,kn,_,c2,rs,_,c3,fw,bs⟩,g1,g2,g3,u1,u2,u3,rfl,by simp only[Pa.a,hma],⟨rfl,rfl,rfl,row1,row2,row3,hcp,hlos,by dsimp only;omega,H.forget (.cons_cons _ (.cons_cons _ (.cons_cons _ (vJ _)))) (fun f hf=>bX _ hf)⟩⟩
theorem HZ (p:Pa) (r:Nat) (w:World) (h:p.rd 0 w.heap.size w) (hok:p.a.ok) (hr:r<p.reps.length) (hl:0<=p.leader) (hne:p.leader≠r):dd aa Ay [p.v,J (r:Nat)] w fun v w2=> ∃ (p':Pa) (g1 g2 g3:Nat) (c1 c2 c3:Array Value),v=.tuple #[p'.v,J 0]/\p'.a=p.a/\Gl w w2 p' g1 g2 g3 c1 c2 c3:=by
 refine aF yM Z Z ?_
 obtain⟨hn1,hn2,hil,hkl,hf1,hf2,he0,he1,hl0,hl1,hb0,hb1,hsm⟩:=Pa.facts hok
 have hkn:=hok.known
 have hiC:=h.iC
 have hkC:=h.kC
 have hrC:=h.rC
 have hfew:=h.few
 have H:=Hp.startPa h
 obtain⟨ep,ld,isr,iA,iC,kn,kA,kC,reps,rA,rC,fw,bs⟩:=p
 simp only[Pa.a]at hkn
 dsimp only at H hn1 hn2 hil hkl hf1 hf2 he0 he1 hl0 hl1 hb0 hb1 hsm hiC hkC hrC hfew
 dsimp only at hr hl hne
 show CW _ _ _ _ (args [.agg #[J (ep),J (ld),.slice iA isr.length iC,.slice kA kn.length kC,.slice rA reps.length rC,J (fw),J (bs)],J (((r:Nat):Int))]) w
 refine W<|Zr<|fX H Z Z fun w1 b2 H=>ey H bp Z fun w2 b4 H=>G (Wi Z)<|U<|W<|Zr<|G (Zw aG H 1 Z Z Z)<|G (Yi Z)<|bW kD (tM ⟨ep,ld,isr,iA,iC,kn,kA,kC,reps,rA,rC,fw,bs⟩ r _ (Hp.pa H 0 Z) hok hr) Z Z ?_
 rintro _ w3 ⟨⟨ep2,ld2,is2,iA2,c1,kn2,kA2,c2,rs,rA2,c3,fw2,bs2⟩,g1,g2,g3,u1,u2,u3,rfl,ha2,ho⟩
 simp only[Pa.a,gu.mk.injEq]at ha2
 obtain⟨e1,e2,e3,e4,hma,e6,e7⟩:=ha2
 obtain rfl:ep=ep2:=e1.symm
 obtain rfl:ld=ld2:=e2.symm
 obtain rfl:isr=is2:=e3.symm
 obtain rfl:kn=kn2:=e4.symm
 obtain rfl:fw=fw2:=e6.symm
 obtain rfl:bs=bs2:=e7.symm
 have hrl:rs.length=reps.length:=by have:=congrArg cu hma;simpa using this
 obtain⟨i1,i2,i3,row1,row2,row3,hcp,hlos,-,hjn⟩:=ho
 dsimp only at i1 i2 i3 row1 row2 row3 hcp hlos hjn
 subst i1;subst i2;subst i3
 have hlo0:=H.size
 replace H:=H.joinF hjn (by intro f hf;obtain⟨r,hr,rfl⟩:=bz.1 hf;exact hlos r hr)
 replace hlos: ∀ r∈rs,w.heap.size<=r.lo:=fun r hr=>aS hlo0 (hlos r hr)
 clear hjn
 refine G (Yu Z)<|G (Xa Z Z)<|G (Xi Z Z)<|bk H 4 (#[J (ep),J (ld),.slice (Qd g1) isr.length c1,.slice (Qd g2) kn.length c2,.slice (Qd g3) rs.length c3,J (fw),J (bs)]) aL Z Z Z Z Z N N fun w4 H=>G (Wi Z)<|U<|W<|W<|Zr<|G (Yi Z)<|G (bV Z Z Z)<|U<|ZF Z<|Zk<|W<|W<|Zr<|G (Zf dh Z)<|G (Zd aj H 4 Z Z Z)<|G (da Z Z I)<|G (Yb Z)<|ZG<|G (Zf dh Z)<|ZG<|G (Zd aj H 4 Z Z Z)<|ZG<|G (Yi Z)<|ZG<|G (nM Z Z hne)<|G (N Z Z)<|U<|ZF Z<|Zk<|W<|Zr<|G (Zw aG H 4 Z Z Z)<|bk H 3 (#[J (ep),J (ld),.slice (Qd g1) isr.length c1,.slice (Qd g2) kn.length c2,.slice (Qd g3) rs.length c3,J (fw),J (bs)]) aL Z Z Z Z Z N N fun w5 H=>G (Wi Z)<|U<|Zt ?_
 exact bG (cs0:= #[J (ep),J (ld),.slice (Qd g1) isr.length c1,.slice (Qd g2) kn.length c2,.slice (Qd g3) rs.length c3,J (fw),J (bs)]) (v1:=J 0) Z aG Z (H.ent (i:=3) Z) Z Z ⟨⟨ep,ld,isr,_,c1,kn,_,c2,rs,_,c3,fw,bs⟩,g1,g2,g3,u1,u2,u3,rfl,by simp only[Pa.a,hma],⟨rfl,rfl,rfl,row1,row2,row3,hcp,hlos,by dsimp only;omega,H.forget (.cons_cons _ (.cons_cons _ (.cons_cons _ (vJ _)))) (fun f hf=>bX _ hf)⟩⟩
theorem E9 (p:Pa) (r:Nat) (w:World) (h:p.rd 0 w.heap.size w) (hok:p.a.ok) (hr:r<p.reps.length) (hl:p.leader<0∨p.leader=r):dd aa Ay [p.v,J (r:Nat)] w fun v w2=>v=.tuple #[.agg #[J 0,J 0,.slice none 0 0,.slice none 0 0,.slice none 0 0,J 0,J 0],J 8]/\Below w.heap.size w w2:=by
 refine aF yM Z Z ?_
 obtain⟨hn1,hn2,hil,hkl,hf1,hf2,he0,he1,hl0,hl1,hb0,hb1,hsm⟩:=Pa.facts hok
 have hkn:=hok.known
 have hiC:=h.iC
 have hkC:=h.kC
 have hrC:=h.rC
 have hfew:=h.few
 have H:=Hp.startPa h
 obtain⟨ep,ld,isr,iA,iC,kn,kA,kC,reps,rA,rC,fw,bs⟩:=p
 simp only[Pa.a]at hkn
 dsimp only at H hn1 hn2 hil hkl hf1 hf2 he0 he1 hl0 hl1 hb0 hb1 hsm hiC hkC hrC hfew
 dsimp only at hr hl
 show CW _ _ _ _ (args [.agg #[J (ep),J (ld),.slice iA isr.length iC,.slice kA kn.length kC,.slice rA reps.length rC,J (fw),J (bs)],J (((r:Nat):Int))]) w
 refine W<|Zr<|fX H Z Z fun w1 b2 H=>ey H bp Z fun w2 b4 H=>G (Wi Z)<|U<|W<|Zr<|G (Zw aG H 1 Z Z Z)<|G (Yi Z)<|bW kD (tM ⟨ep,ld,isr,iA,iC,kn,kA,kC,reps,rA,rC,fw,bs⟩ r _ (Hp.pa H 0 Z) hok hr) Z Z ?_
 rintro _ w3 ⟨⟨ep2,ld2,is2,iA2,c1,kn2,kA2,c2,rs,rA2,c3,fw2,bs2⟩,g1,g2,g3,u1,u2,u3,rfl,ha2,ho⟩
 simp only[Pa.a,gu.mk.injEq]at ha2
 obtain⟨e1,e2,e3,e4,hma,e6,e7⟩:=ha2
 obtain rfl:ep=ep2:=e1.symm
 obtain rfl:ld=ld2:=e2.symm
 obtain rfl:isr=is2:=e3.symm
 obtain rfl:kn=kn2:=e4.symm
 obtain rfl:fw=fw2:=e6.symm
 obtain rfl:bs=bs2:=e7.symm
 have hrl:rs.length=reps.length:=by have:=congrArg cu hma;simpa using this
 obtain⟨i1,i2,i3,row1,row2,row3,hcp,hlos,-,hjn⟩:=ho
 dsimp only at i1 i2 i3 row1 row2 row3 hcp hlos hjn
 subst i1;subst i2;subst i3
 have hlo0:=H.size
 replace H:=H.joinF hjn (by intro f hf;obtain⟨r,hr,rfl⟩:=bz.1 hf;exact hlos r hr)
 replace hlos: ∀ r∈rs,w.heap.size<=r.lo:=fun r hr=>aS hlo0 (hlos r hr)
 clear hjn
 refine G (Yu Z)<|G (Xa Z Z)<|G (Xi Z Z)<|bk H 4 (#[J (ep),J (ld),.slice (Qd g1) isr.length c1,.slice (Qd g2) kn.length c2,.slice (Qd g3) rs.length c3,J (fw),J (bs)]) aL Z Z Z Z Z N N fun w4 H=>G (Wi Z)<|U<|W<|W<|Zr<|G (Yi Z)<|G (bV Z Z Z)<|U<|ZF Z<|Zk<|W<|W<|Zr<|G (Zf dh Z)<|G (Zd aj H 4 Z Z Z) ?_
 refine cU (cG Z Z) Z Z Z (fun h19=> ?_) (fun h19=> ?_)
 refine G (Yb Z)<|ZN<|ZN<|ZN<|ZN<|G (Kt Z Z)<|U<|ZT Z<|W<|Zr<|G (bi (cs:= #[J (0),J (0),.slice none 0 0,.slice none 0 0,.slice none 0 0,J (0),J (0)]) cL bp N)<|bk H 3 (#[J (0),J (0),.slice none 0 0,.slice none 0 0,.slice none 0 0,J (0),J (0)]) aL Z Z Z Z Z N N fun w5 H=>G (Wi Z)<|U<|Zt ?_
 exact bG (cs0:= #[J 0,J 0,.slice none 0 0,.slice none 0 0,.slice none 0 0,J 0,J 0]) (v1:=J 8) Z aG Z (H.ent (i:=3) Z) Z Z ⟨rfl,H.below⟩
 refine G (Yb Z)<|ZG<|G (Zf dh Z)<|ZG<|G (Zd aj H 4 Z Z Z)<|ZG<|G (Yi Z)<|ZG ?_
 refine cU (bl Z Z) Z Z Z (fun h24=> ?_) (fun h24=> ?_)
 refine G (N Z Z)<|U<|ZT Z<|W<|Zr<|G (bi (cs:= #[J (0),J (0),.slice none 0 0,.slice none 0 0,.slice none 0 0,J (0),J (0)]) cL bp N)<|bk H 3 (#[J (0),J (0),.slice none 0 0,.slice none 0 0,.slice none 0 0,J (0),J (0)]) aL Z Z Z Z Z N N fun w6 H=>G (Wi Z)<|U<|Zt ?_
 exact bG (cs0:= #[J 0,J 0,.slice none 0 0,.slice none 0 0,.slice none 0 0,J 0,J 0]) (v1:=J 8) Z aG Z (H.ent (i:=3) Z) Z Z ⟨rfl,H.below⟩
 exfalso;omega
theorem zm {w0 w:World} {M:List (Nat×Obj)} {F:List cr} {g1 g2 g3:Nat} {u1 u2 u3:Array Value} (ep ld:Int) (isr:List Bool) (iC:Nat) (kn:List Int) (kC:Nat) (reps:List eR) (rC:Nat) (fw bs:Int) (l:Nat) (r:eR)
  (H:Hp w0 w ((g1,.cells u1 jm (0,0))::(g2,.cells u2 cY (0,0))::(g3,.cells u3 fz (0,0))::M) F) (row1:dW eT isr iC u1) (row2:dW bS kn kC u2) (row3:dW gx reps rC u3) (hil:isr.length=reps.length) (hkl:kn.length=reps.length) (hn:reps.length<=5) (hld:ld=l) (hr:reps[l]? =some r) (hF:BF r∈F) (hg:GL r.es r.s) (hc:(bd r.es).length<=r.cap):
  dd aa Az [.agg #[J (ep),J (ld),.slice (Qd g1) isr.length iC,.slice (Qd g2) kn.length kC,.slice (Qd g3) reps.length rC,J (fw),J (bs)]] w fun v w2=> ∃ u4,v=.agg #[J (ep),J (ld),.slice (Qd g1) isr.length iC,.slice (Qd g2) kn.length kC,.slice (Qd g3) reps.length rC,J (fw),J (bs)]/\dW gx (reps.set l {r with high:=max r.high (min (dy isr kn 400) (r.es.length:Nat))}) rC u4/\Hp w0 w2 ((g1,.cells u1 jm (0,0))::(g2,.cells u2 cY (0,0))::(g3,.cells u4 fz (0,0))::M) F:=by
 refine aF y3 Z Z ?_
 have hll:=(cF hr).1
 refine W<|Zr<|fX H Z Z fun w1 b1 H=>ey H bp Z fun w2 b2 H=>U<|W<|W<|Zr<|G (Zf dh Z)<|G (Zd aj H 1 Z Z Z)<|G (da Z Z I)<|U<|ZF Z<|Zk<|W<|Zr<|G (Wi Z)<|U<|W<|W<|Zr<|G (Zf f7 Z)<|G (Zd cm H 1 Z Z Z)<|G (bn eG Z)<|G (Yi Z)<|U<|Zb ?_
 refine ce (τ:=Nat×Int) [3,4,5,16,17,18,19,20,21,22,23,24,25,26,27,28,29] (fun(k,m)=>[(16,J (k:Nat)),(3,J m)]) (fun(k,m) w'=>k<=kn.length/\dy (isr.drop k) (kn.drop k) m=dy isr kn 400/\Hp w0 w' ((b2,.cells #[J 0,J 0,.slice none 0 0,.slice none 0 0,.slice none 0 0,J 0,J 0] bC (0,0))::(b1,.cells #[J (ep),J (ld),.slice (Qd g1) isr.length iC,.slice (Qd g2) kn.length kC,.slice (Qd g3) reps.length rC,J (fw),J (bs)] bC (0,0))::(g1,.cells u1 jm (0,0))::(g2,.cells u2 cY (0,0))::(g3,.cells u3 fz (0,0))::M) F) (fun(k,_)=>kn.length-k) (0,400) ⟨by omega,rfl,H⟩ (lh Z Z) ?_
 rintro⟨k,m⟩ ρ1 w3 ⟨hk,hm,H⟩
 show CW _ _ _ _ (dB (gJ _ _ ρ1) [(16,J (k:Nat)),(3,J m)]) w3
 refine W<|Zr ?_
 refine cU (cG Z Z) Z Z Z (fun h17=> ?_) (fun h17=> ?_)
 refine U<|W<|ZT Z<|Zk<|W<|Zb<|W ?_
 obtain⟨n,hn_⟩: ∃ n,kn[k]? =some n:=⟨_,ah I⟩
 obtain⟨b,hb_⟩: ∃ b,isr[k]? =some b:=⟨_,ah I⟩
 refine Zr<|G (Yi Z)<|G (cD ba Z Z (by first|omega|(simp only[ab];omega)))<|G (bR aj row2 hn_ 0 Z (H.ent (i:=3) Z) Z)<|G (Wi Z)<|G (Wi Z)<|U<|W<|Zr<|G (Zf f8 Z)<|G (Zd gM H 1 Z Z Z)<|G (Yi Z)<|G (cD d9 Z Z (by first|omega|(simp only[ab];omega))) ?_
 refine wq (bR dT row1 hb_ 0 Z (H.ent (i:=2) Z) Z) Z Z Z (fun h25=> ?_) (fun h25=> ?_)
 refine U<|ZT Z<|Zr<|G (Yi Z)<|G (Yi Z)<|G (tN Z Z)<|G (Wi Z)<|U<|Zr<|G (bu Z Z I I)<|G (Yi Z)<|U ?_
 refine⟨(k+1,min m n),⟨by omega,by rw[<-hm,Ak hb_ hn_];rw[if_pos h25],H⟩,lh Z Z,Qg,by show kn.length- (k+1)<kn.length-k;omega⟩
 refine U<|ZF Z<|Zk<|Zr<|G (bu Z Z I I)<|G (Yi Z)<|U ?_
 refine⟨(k+1,m),⟨by omega,by rw[<-hm,Ak hb_ hn_];rw[if_neg (by simp[h25])],H⟩,lh Z Z,Qg,by show kn.length- (k+1)<kn.length-k;omega⟩
 have hke:k=kn.length:=by omega
 have hm2:m=dy isr kn 400:=by rw[<-hm,hke,fq];cases(isr.drop kn.length)<;>rfl
 refine U<|W<|ZF Z<|Zx<|W<|Zr<|G (Zw aG H 1 Z Z Z)<|G (Zf dh Z)<|G (Zd aj H 1 Z Z Z)<|bW jE (by have hE:=p5 ⟨ep,ld,isr,some ⟨g1,0,none⟩,iC,kn,some ⟨g2,0,none⟩,kC,reps,some ⟨g3,0,none⟩,rC,fw,bs⟩ l r _ (row3.rd0 (H.ent (i:=4) Z)) hr (Fe H hF hg hc);rw[<-hld]at hE;exact hE) Z Z ?_
 rintro _ w4 ⟨rfl,hb⟩;replace H:=H.later hb;clear hb
 refine G (Yu Z)<|G (Xi Z Z)<|G (Xi Z Z)<|G (Wi Z)<|G (Wi Z)<|U<|W<|Zr<|G (Zf cP Z)<|G (Zd bN H 1 Z Z Z)<|G (Zf dh Z)<|G (Zd aj H 1 Z Z Z)<|G (cD (k:=l) br Z (congrArg (Value.int .i64) hld) (by first|omega|(simp only[ab];omega)))<|G (Wp Z)<|U<|W<|Zr<|G (Yp Z)<|G (Yp Z)<|G (aK Z)<|G (Zf dv Z)<|G (bR aj row3 hr 3 Z (H.ent (i:=4) Z) Z)<|G (Yi Z)<|G (Yi Z)<|G (tN Z Z)<|G (Ae Z Z)<|G (aK Z)<|G (Zf dv Z)<|kX H 4 ({r with high:=max r.high (min m (r.es.length:Nat))}) bK row3 hr 3 Z Z Z Z Z Z N fun w6 cur5 row5 H=> ?_
 have hs7:(reps.set l ({r with high:=max r.high (min m (r.es.length:Nat))}))[l]? =some ({r with high:=max r.high (min m (r.es.length:Nat))}):=am (cF hr).1
 refine U<|W<|Zr<|G (Zw aG H 1 Z Z Z)<|bk H 0 (#[J (ep),J (ld),.slice (Qd g1) isr.length iC,.slice (Qd g2) kn.length kC,.slice (Qd g3) reps.length rC,J (fw),J (bs)]) aL Z Z Z Z Z N N fun w8 H=>U<|Zt ?_
 exact eO (cs0:= #[J (ep),J (ld),.slice (Qd g1) isr.length iC,.slice (Qd g2) kn.length kC,.slice (Qd g3) reps.length rC,J (fw),J (bs)]) Z aG Z (H.ent (i:=0) Z) Z ⟨_,rfl,hm2▸row5,H.forget (.cons _ (.cons _ (ap _))) (fun _ h=>h)⟩
/-- the logs of replicas that a call has made -/
def qu (w:World) (F:List cr) (rs:List eR):Prop:= ∀ r∈rs,(bd r.es).length<=r.cap/\w.heap.size<=r.lo/\BF r∈F
theorem qu.of {w:World} {F:List cr} {rs:List eR} (h1: ∀ r∈rs,(bd r.es).length<=r.cap) (h2: ∀ r∈rs,w.heap.size<=r.lo):qu w (F++s9 rs) rs:=fun r hr=>⟨h1 r hr,h2 r hr,bX _ (bI hr)⟩
theorem qu.cons {w:World} {F:List cr} {f:cr} {rs:List eR} (h:qu w F rs):qu w (f::F) rs:=fun r hr=>⟨(h r hr).1,(h r hr).2.1,ak _ (h r hr).2.2⟩
theorem qu.set {w:World} {F:List cr} {rs:List eR} (h:qu w F rs) (i:Nat) {x:eR} (hx:(bd x.es).length<=x.cap/\w.heap.size<=x.lo/\BF x∈F):qu w F (rs.set i x):=fun r hr=>by
 rcases bH hr with hr|rfl
 exact h r hr
 exact hx
theorem qu.same {w:World} {F:List cr} {rs:List eR} (h:qu w F rs) (i:Nat) {x x':eR} (hx:rs[i]? =some x) (h1:x'.A=x.A) (h2:x'.cap=x.cap) (h3:x'.es=x.es) (h4:x'.lo=x.lo) (h5:x'.hi=x.hi):qu w F (rs.set i x'):=h.set i (by
 have:=h x (ae hx)
 unfold BF at this⊢
 rw[h1,h2,h3,h4,h5];exact this)
theorem qu.log {w w0 w':World} {L:List (Nat×Obj)} {F:List cr} {rs:List eR} (h:qu w F rs) (H:Hp w0 w' L F) {i:Nat} {x:eR} (hx:rs[i]? =some x) (hg:GL x.es x.s):x.log.ok w':=by
 have h1:=h x (ae hx)
 exact Fe H h1.2.2 hg h1.1
theorem eu.mk_ {w w2:World} {L:List (Nat×Obj)} {F:List cr} {p:Pa} {g1 g2 g3:Nat} {u1 u2 u3:Array Value} (i:p.iA=some ⟨g1,0,none⟩) (k:p.kA=some ⟨g2,0,none⟩) (r:p.rA=some ⟨g3,0,none⟩) (ri:dW eT p.isr p.iC u1) (rk:dW bS p.known p.kC u2) (rr:dW gx p.reps p.rC u3) (hl:qu w F p.reps)
  (few:p.isr.length<=1000000/\p.known.length<=1000000/\p.reps.length<=1000000) (H:Hp w w2 L F) (hL:(g1,Obj.cells u1 jm (0,0))∈L/\(g2,Obj.cells u2 cY (0,0))∈L/\(g3,Obj.cells u3 fz (0,0))∈L):eu w w2 p:=by
 have e1:=H.ents _ hL.1
 have e2:=H.ents _ hL.2.1
 have e3:=H.ents _ hL.2.2
 refine⟨⟨?_,?_,?_,fun r hr=> ?_,ri.le,rk.le,rr.le,fun r hr=>(hl r hr).1,few⟩,H.below⟩
 rw[i];exact(ri.rd e1.1).mono e1.2 (cd e1.1)
 rw[k];exact(rk.rd e2.1).mono e2.2 (cd e2.1)
 rw[r];exact(rr.rd e3.1).mono e3.2 (cd e3.1)
 obtain⟨h1,h2,h3⟩:=hl r hr
 obtain⟨f1,f2,-⟩:=H.facts (BF r) h3
 exact Rd.mono f1 h2 f2
theorem vX {rs reps:List eR} (hma:rs.map eR.a=reps.map eR.a) {i:Nat} {x:eR} (hx:rs[i]? =some x):(reps.map eR.a)[i]? =some x.a:=by
 rw[<-hma,aJ,hx];rfl
theorem wJ {rs reps:List eR} {ep ld:Int} {isr:List Bool} {iA kA rA:Option Addr} {iC kC rC:Nat} {kn:List Int} {fw bs:Int} (hma:rs.map eR.a=reps.map eR.a) (hok:(Pa.a ⟨ep,ld,isr,iA,iC,kn,kA,kC,reps,rA,rC,fw,bs⟩).ok) {i:Nat} {x:eR} (hx:rs[i]? =some x):GL x.es x.s/\0<=x.high/\x.high<=x.es.length:=by
 have h1:=hok.reps x.a (ae (show(reps.map eR.a)[i]? =_ from vX hma hx))
 exact⟨h1.gl,h1.high0,h1.high1⟩
def nV (p:gu):gu:=match p.reps[p.leader.toNat]? with
 |some r=>if p.leader<0 then p else{p with reps:=p.reps.set p.leader.toNat {r with high:=max r.high (min (dy p.isr p.known 400) r.es.length)}}
 |none=>p
theorem xw {p:gu} {l:Nat} {r:RA} (hl:p.leader=l) (hr:p.reps[l]? =some r):nV p={p with reps:=p.reps.set l {r with high:=max r.high (min (dy p.isr p.known 400) r.es.length)}}:=by
 have h1:p.leader.toNat=l:=by omega
 unfold nV
 rw[h1,hr];dsimp only;rw[if_neg I]
def ob (p:gu) (r:Nat):gu×Int:=match p.reps[r]? with
 |none=>(gK,5)
 |some x=>if x.up=false then(gK,7)else
  if p.leader=r then(nV {p with reps:=p.reps.set r {x with s:=x.es.length},known:=p.known.set r x.es.length},0)else({p with reps:=p.reps.set r {x with s:=x.es.length}},0)
def pZ (p:gu) (r:Nat):gu×Int:=match p.reps[r]? with
 |none=>(gK,5)
 |some x=>if x.up=true then(gK,6)else({p with reps:=p.reps.set r {x with up:=true}},0)
theorem EY (l:mW) (w:World) (h:l.ok w):dd aa Ax [.agg l.c.toArray] w fun v w2=> ∃ A' c',v=.tuple #[.agg #[.slice A' (bd l.es).length c',J (fD l.es l.es.length:Nat)],J 0]/\(bd l.es).length<=c'/\Rd dF w.heap.size w2.heap.size A' (bd l.es) w2/\Below w.heap.size w w2:=
 (GG l w h).mono fun _ _ ⟨A',c',h1,h2,h3⟩=>⟨A',c',h1,h2.2.1,h2.2.2,h3⟩
theorem KM (p:Pa) (r:Nat) (w:World) (h:p.rd 0 w.heap.size w) (hok:p.a.ok) (hr:r<p.reps.length):dd aa FD [p.v,J (r:Nat)] w fun v w2=> ∃ p':Pa,v=.tuple #[p'.v,J (pZ p.a r).2]/\p'.a=(pZ p.a r).1/\eu w w2 p':=by
 refine aF D4 Z Z ?_
 obtain⟨hn1,hn2,hil,hkl,hf1,hf2,he0,he1,hl0,hl1,hb0,hb1,hsm⟩:=Pa.facts hok
 have hkn:=hok.known
 have hiC:=h.iC
 have hkC:=h.kC
 have hrC:=h.rC
 have hfew:=h.few
 have H:=Hp.startPa h
 obtain⟨ep,ld,isr,iA,iC,kn,kA,kC,reps,rA,rC,fw,bs⟩:=p
 simp only[Pa.a]at hkn
 dsimp only at H hn1 hn2 hil hkl hf1 hf2 he0 he1 hl0 hl1 hb0 hb1 hsm hiC hkC hrC hfew
 dsimp only at hr
 show CW _ _ _ _ (args [.agg #[J (ep),J (ld),.slice iA isr.length iC,.slice kA kn.length kC,.slice rA reps.length rC,J (fw),J (bs)],J (((r:Nat):Int))]) w
 refine W<|Zr<|fX H Z Z fun w1 b2 H=>ey H bp Z fun w2 b4 H=>G (Wi Z)<|U<|W<|Zr<|G (Zw aG H 1 Z Z Z)<|G (Yi Z)<|bW kD (tM ⟨ep,ld,isr,iA,iC,kn,kA,kC,reps,rA,rC,fw,bs⟩ r _ (Hp.pa H 0 Z) hok hr) Z Z ?_
 rintro _ w3 ⟨⟨ep2,ld2,is2,iA2,c1,kn2,kA2,c2,rs,rA2,c3,fw2,bs2⟩,g1,g2,g3,u1,u2,u3,rfl,ha2,ho⟩
 simp only[Pa.a,gu.mk.injEq]at ha2
 obtain⟨e1,e2,e3,e4,hma,e6,e7⟩:=ha2
 obtain rfl:ep=ep2:=e1.symm
 obtain rfl:ld=ld2:=e2.symm
 obtain rfl:isr=is2:=e3.symm
 obtain rfl:kn=kn2:=e4.symm
 obtain rfl:fw=fw2:=e6.symm
 obtain rfl:bs=bs2:=e7.symm
 have hrl:rs.length=reps.length:=by have:=congrArg cu hma;simpa using this
 obtain⟨i1,i2,i3,row1,row2,row3,hcp,hlos,-,hjn⟩:=ho
 dsimp only at i1 i2 i3 row1 row2 row3 hcp hlos hjn
 subst i1;subst i2;subst i3
 have hlo0:=H.size
 replace H:=H.joinF hjn (by intro f hf;obtain⟨r,hr,rfl⟩:=bz.1 hf;exact hlos r hr)
 replace hlos: ∀ r∈rs,w.heap.size<=r.lo:=fun r hr=>aS hlo0 (hlos r hr)
 clear hjn
 have hlg:=qu.of (F:=[Df 0 w.heap.size ⟨ep,ld,isr,iA,iC,kn,kA,kC,reps,rA,rC,fw,bs⟩,dA eT 0 w.heap.size iA isr,dA bS 0 w.heap.size kA kn,dA gx 0 w.heap.size rA reps]) hcp hlos
 have hok2: ∀ {i:Nat} {x:eR},rs[i]? =some x->GL x.es x.s/\0<=x.high/\x.high<=x.es.length:=fun hx=>wJ hma hok hx
 obtain⟨x,hx⟩: ∃ x,rs[r]? =some x:=⟨_,ah I⟩
 have hxa:=vX hma hx
 refine G (Yu Z)<|G (Xa Z Z)<|G (Xi Z Z)<|bk H 4 (#[J (ep),J (ld),.slice (Qd g1) isr.length c1,.slice (Qd g2) kn.length c2,.slice (Qd g3) rs.length c3,J (fw),J (bs)]) aL Z Z Z Z Z N N fun w4 H=>G (Wi Z)<|U<|W<|W<|Zr<|G (Yi Z)<|G (bV Z Z Z)<|U<|ZF Z<|Zk<|W<|W<|Zr<|G (Zf cP Z)<|G (Zd bN H 4 Z Z Z)<|G (Yi Z)<|G (cD br Z Z (by first|omega|(simp only[ab];omega)))<|G (Zf ft Z) ?_
 refine wq (bR dT row3 hx 0 Z (H.ent (i:=2) Z) Z) Z Z Z (fun h22=> ?_) (fun h22=> ?_)
 have hS:pZ (Pa.a ⟨ep,ld,isr,iA,iC,kn,kA,kC,reps,rA,rC,fw,bs⟩) r=(gK,6):=by simp[pZ,Pa.a,hxa,eR.a,h22]
 rw[hS]
 refine U<|ZT Z<|W<|Zr<|G (bi (cs:= #[J (0),J (0),.slice none 0 0,.slice none 0 0,.slice none 0 0,J (0),J (0)]) cL bp N)<|bk H 3 (#[J (0),J (0),.slice none 0 0,.slice none 0 0,.slice none 0 0,J (0),J (0)]) aL Z Z Z Z Z N N fun w5 H=>G (Wi Z)<|U<|Zt ?_
 exact bG (cs0:= #[J 0,J 0,.slice none 0 0,.slice none 0 0,.slice none 0 0,J 0,J 0]) (v1:=J 6) Z aG Z (H.ent (i:=3) Z) Z Z ⟨zB,rfl,rfl,eu.zero H.below⟩
 have hS:pZ (Pa.a ⟨ep,ld,isr,iA,iC,kn,kA,kC,reps,rA,rC,fw,bs⟩) r=({Pa.a ⟨ep,ld,isr,iA,iC,kn,kA,kC,reps,rA,rC,fw,bs⟩with reps:=(reps.map eR.a).set r {x.a with up:=true}},0):=by simp[pZ,Pa.a,hxa,eR.a,h22]
 rw[hS]
 refine U<|ZF Z<|Zk<|W<|Zr<|G (Zf cP Z)<|G (Zd bN H 4 Z Z Z)<|G (Yi Z)<|G (cD br Z Z (by first|omega|(simp only[ab];omega)))<|G (Zf ft Z)<|kX H 2 ({x with up:=true}) iK row3 hx 0 Z Z Z Z Z Z N fun w7 cur6 row6 H=> ?_
 have hs8:(rs.set r ({x with up:=true}))[r]? =some ({x with up:=true}):=am (cF hx).1
 refine U<|W<|Zr<|G (Zw aG H 4 Z Z Z)<|bk H 3 (#[J (ep),J (ld),.slice (Qd g1) isr.length c1,.slice (Qd g2) kn.length c2,.slice (Qd g3) rs.length c3,J (fw),J (bs)]) aL Z Z Z Z Z N N fun w9 H=>G (Wi Z)<|U<|Zt ?_
 have hlg2:=hlg.same r (x':={x with up:=true}) hx Z Z Z Z Z
 exact bG (cs0:= #[J (ep),J (ld),.slice (Qd g1) isr.length c1,.slice (Qd g2) kn.length c2,.slice (Qd g3) rs.length c3,J (fw),J (bs)]) (v1:=J 0) Z aG Z (H.ent (i:=3) Z) Z Z ⟨_,by simp[Pa.c],by simp[Pa.a,cz,hma,eR.a],(eu.mk_ (p:=⟨ep,ld,isr,some ⟨g1,0,none⟩,c1,kn,some ⟨g2,0,none⟩,c2,rs.set r {x with up:=true},some ⟨g3,0,none⟩,c3,fw,bs⟩) Z Z Z row1 row2 row6 hlg2 (by dsimp only;try simp only[ab];omega) H ⟨by simp,by simp,by simp⟩)⟩
theorem KL (p:Pa) (r:Nat) (w:World) (h:p.rd 0 w.heap.size w) (hok:p.a.ok) (hr:r<p.reps.length):dd aa FC [p.v,J (r:Nat)] w fun v w2=> ∃ p':Pa,v=.tuple #[p'.v,J (ob p.a r).2]/\p'.a=(ob p.a r).1/\eu w w2 p':=by
 refine aF D3 Z Z ?_
 obtain⟨hn1,hn2,hil,hkl,hf1,hf2,he0,he1,hl0,hl1,hb0,hb1,hsm⟩:=Pa.facts hok
 have hkn:=hok.known
 have hiC:=h.iC
 have hkC:=h.kC
 have hrC:=h.rC
 have hfew:=h.few
 have H:=Hp.startPa h
 obtain⟨ep,ld,isr,iA,iC,kn,kA,kC,reps,rA,rC,fw,bs⟩:=p
 simp only[Pa.a]at hkn
 dsimp only at H hn1 hn2 hil hkl hf1 hf2 he0 he1 hl0 hl1 hb0 hb1 hsm hiC hkC hrC hfew
 dsimp only at hr
 show CW _ _ _ _ (args [.agg #[J (ep),J (ld),.slice iA isr.length iC,.slice kA kn.length kC,.slice rA reps.length rC,J (fw),J (bs)],J (((r:Nat):Int))]) w
 refine W<|Zr<|fX H Z Z fun w1 b2 H=>ey H bp Z fun w2 b4 H=>G (Wi Z)<|U<|W<|Zr<|G (Zw aG H 1 Z Z Z)<|G (Yi Z)<|bW kD (tM ⟨ep,ld,isr,iA,iC,kn,kA,kC,reps,rA,rC,fw,bs⟩ r _ (Hp.pa H 0 Z) hok hr) Z Z ?_
 rintro _ w3 ⟨⟨ep2,ld2,is2,iA2,c1,kn2,kA2,c2,rs,rA2,c3,fw2,bs2⟩,g1,g2,g3,u1,u2,u3,rfl,ha2,ho⟩
 simp only[Pa.a,gu.mk.injEq]at ha2
 obtain⟨e1,e2,e3,e4,hma,e6,e7⟩:=ha2
 obtain rfl:ep=ep2:=e1.symm
 obtain rfl:ld=ld2:=e2.symm
 obtain rfl:isr=is2:=e3.symm
 obtain rfl:kn=kn2:=e4.symm
 obtain rfl:fw=fw2:=e6.symm
 obtain rfl:bs=bs2:=e7.symm
 have hrl:rs.length=reps.length:=by have:=congrArg cu hma;simpa using this
 obtain⟨i1,i2,i3,row1,row2,row3,hcp,hlos,-,hjn⟩:=ho
 dsimp only at i1 i2 i3 row1 row2 row3 hcp hlos hjn
 subst i1;subst i2;subst i3
 have hlo0:=H.size
 replace H:=H.joinF hjn (by intro f hf;obtain⟨r,hr,rfl⟩:=bz.1 hf;exact hlos r hr)
 replace hlos: ∀ r∈rs,w.heap.size<=r.lo:=fun r hr=>aS hlo0 (hlos r hr)
 clear hjn
 have hlg:=qu.of (F:=[Df 0 w.heap.size ⟨ep,ld,isr,iA,iC,kn,kA,kC,reps,rA,rC,fw,bs⟩,dA eT 0 w.heap.size iA isr,dA bS 0 w.heap.size kA kn,dA gx 0 w.heap.size rA reps]) hcp hlos
 have hok2: ∀ {i:Nat} {x:eR},rs[i]? =some x->GL x.es x.s/\0<=x.high/\x.high<=x.es.length:=fun hx=>wJ hma hok hx
 obtain⟨x,hx⟩: ∃ x,rs[r]? =some x:=⟨_,ah I⟩
 have hxa:=vX hma hx
 refine G (Yu Z)<|G (Xa Z Z)<|G (Xi Z Z)<|bk H 4 (#[J (ep),J (ld),.slice (Qd g1) isr.length c1,.slice (Qd g2) kn.length c2,.slice (Qd g3) rs.length c3,J (fw),J (bs)]) aL Z Z Z Z Z N N fun w4 H=>G (Wi Z)<|U<|W<|W<|Zr<|G (Yi Z)<|G (bV Z Z Z)<|U<|ZF Z<|Zk<|W<|W<|Zr<|G (Zf cP Z)<|G (Zd bN H 4 Z Z Z)<|G (Yi Z)<|G (cD br Z Z (by first|omega|(simp only[ab];omega)))<|G (Zf ft Z) ?_
 refine wq (bR dT row3 hx 0 Z (H.ent (i:=2) Z) Z) Z Z Z (fun h22=> ?_) (fun h22=> ?_)
 refine G (dI Z)<|U<|ZF Z<|Zk<|W ?_
 have hlo:=H.size
 refine bB bY [0,1,2,3,4,5,6,7,8,9,10,11,12,13,14] [15] [9] [0,2,3,5,6,7,10,11,12,13,14] (sp [(9,Sp.nrow w4.heap.size dF (bd x.es) (fun A c=> .tuple #[.agg #[.slice A (bd x.es).length c,J (fD x.es x.es.length:Nat)],J 0]))]) N N N N Nq (cH _) ?_
 refine aw Z Z Z Z Z (fun w' hw'=>Zf cP Z)<|aw Z Z Z Z Z (fun w' hw'=>aV bN Z (aC ((H.later hw').ent (i:=4) Z) Z))<|aw Z Z Z Z Z (fun w' hw'=>Yi Z)<|aw Z Z Z Z Z (fun w' hw'=>Zf cP Z)<|aw Z Z Z Z Z (fun w' hw'=>aV bN Z (aC ((H.later hw').ent (i:=4) Z) Z))<|aw Z Z Z Z Z (fun w' hw'=>Yi Z)<|aw Z Z Z Z Z (fun w' hw'=>cD br Z Z (by first|omega|(simp only[ab];omega)))<|aw Z Z Z Z Z (fun w' hw'=>Zf dn Z)<|aw Z Z Z Z Z (fun w' hw'=>tS 1 [.slice x.A ((bd x.es).length) x.cap,J (((fD x.es x.s:Nat):Int))] eE row3 hx Z Z ((H.later hw').ent (i:=2) Z) Z)<|HC (gv:=(fun A c=> .tuple #[.agg #[.slice A (bd x.es).length c,J (fD x.es x.es.length:Nat)],J 0])) Gb Z Z Z Z Z (fun w' hw'=>hw'.size) (fun w' hw'=>EY (eR.log x) w' (hlg.log (H.later hw') hx (hok2 hx).1)) Z fun A35 c35 hc35=>aw Z Z Z Z Z (fun w' hw'=>Yu Z)<|aw Z Z Z Z Z (fun w' hw'=>Xa Z Z)<|aw Z Z Z Z Z (fun w' hw'=>Xi Z Z)<|aw Z Z Z Z Z (fun w' hw'=>cD br Z Z (by first|omega|(simp only[ab];omega)))<|aw Z Z Z Z Z (fun w' hw'=>Zf dn Z)<|aT ?_
 intro w5 hw' hF
 obtain⟨hF,Aq,cq,eq,hcq,hrw35⟩:=hF;cases eq;clear hcq
 replace H:=H.learnRd hw' hrw35
 clear hw' hF
 refine kX H 2 ({x with A:=A35,cap:=c35,s:=x.es.length,lo:=w4.heap.size,hi:=w5.heap.size}) ja row3 hx 1 Z Z Z Z Z Z N fun w7 cur6 row6 H=> ?_
 have hs8:(rs.set r ({x with A:=A35,cap:=c35,s:=x.es.length,lo:=w4.heap.size,hi:=w5.heap.size}))[r]? =some ({x with A:=A35,cap:=c35,s:=x.es.length,lo:=w4.heap.size,hi:=w5.heap.size}):=am (cF hx).1
 refine U<|W<|W ?_
 have hlg1:=(hlg.cons (f:=dA dF w4.heap.size w5.heap.size A35 (bd x.es))).set r (x:={x with A:=A35,cap:=c35,s:=x.es.length,lo:=w4.heap.size,hi:=w5.heap.size}) ⟨hc35,hlo,fG _⟩
 have hs9:(rs.set r {x with A:=A35,cap:=c35,s:=x.es.length,lo:=w4.heap.size,hi:=w5.heap.size})[r]? =some {x with A:=A35,cap:=c35,s:=x.es.length,lo:=w4.heap.size,hi:=w5.heap.size}:=am I
 have hF9:=(hlg1 _ (ae hs9)).2.2
 have hc9:=(hlg1 _ (ae hs9)).1
 refine Zr<|G (Yi Z)<|G (Zf dh Z)<|G (Zd aj H 4 Z Z Z) ?_
 refine cU (bl Z Z) Z Z Z (fun h43=> ?_) (fun h43=> ?_)
 refine U<|ZT Z<|W ?_
 obtain⟨kx,hkx⟩: ∃ kx,kn[r]? =some kx:=⟨_,ah I⟩
 refine bB bY [0,1,2,3,4,5,6,7,8,9] [10] [5] [0,2,4,6,7,8,9] (sp [(5,Sp.one (.tuple #[J ((x.es.length:Nat):Int),J ((x.es.length:Nat):Int)]))]) N N N N Nq (cH _) ?_
 refine aw Z Z Z Z Z (fun w' hw'=>Zf f7 Z)<|aw Z Z Z Z Z (fun w' hw'=>aV cm Z (aC ((H.later hw').ent (i:=4) Z) Z))<|aw Z Z Z Z Z (fun w' hw'=>Yi Z)<|aw Z Z Z Z Z (fun w' hw'=>jh aG Z ((H.later hw').ent (i:=4) Z) Z)<|aw Z Z Z Z Z (fun w' hw'=>Yi Z)<|hJ jE Z Z Z Z Z (fun w' hw'=>(by have hA:=p5 ⟨ep,ld,isr,some ⟨g1,0,none⟩,c1,kn,some ⟨g2,0,none⟩,c2,rs.set r {x with A:=A35,cap:=c35,s:=x.es.length,lo:=w4.heap.size,hi:=w5.heap.size},some ⟨g3,0,none⟩,c3,fw,bs⟩ r {x with A:=A35,cap:=c35,s:=x.es.length,lo:=w4.heap.size,hi:=w5.heap.size} w' (row6.rd0 ((H.later hw').ent (i:=2) Z)) hs9 (hlg1.log (H.later hw') hs9 (hok2 hx).1.all);simp only[Pa.v,Pa.c,ab]at hA;exact hA)) Z<|aw Z Z Z Z Z (fun w' hw'=>Yu Z)<|aw Z Z Z Z Z (fun w' hw'=>Xi Z Z)<|aw Z Z Z Z Z (fun w' hw'=>Xi Z Z)<|aw Z Z Z Z Z (fun w' hw'=>cD ba Z Z (by first|omega|(simp only[ab];omega)))<|aT ?_
 intro w9 hw' hF
 replace H:=H.later hw';clear hw' hF
 refine kX H 1 ((((x.es.length:Nat):Int))) bK row2 hkx 0 Z Z Z Z Z Z N fun w11 cur10 row10 H=> ?_
 have hs12:(kn.set r ((((x.es.length:Nat):Int))))[r]? =some ((((x.es.length:Nat):Int))):=am (cF hkx).1
 refine U<|Zr<|G (Zw aG H 4 Z Z Z)<|bW lH ((by have hA:=zm ep ld isr c1 (kn.set r ((x.es.length:Nat):Int)) c2 (rs.set r {x with A:=A35,cap:=c35,s:=x.es.length,lo:=w4.heap.size,hi:=w5.heap.size}) c3 fw bs r ({x with A:=A35,cap:=c35,s:=x.es.length,lo:=w4.heap.size,hi:=w5.heap.size}) H row1 row10 row6 (by simp only[ab];omega) (by simp only[ab,bJ];omega) (by simp only[ab];omega) h43.symm hs9 hF9 (hok2 hx).1.all hc9;simp only[Pa.v,Pa.c,ab]at hA;exact hA)) Z Z ?_
 rintro _ w13 ⟨u9,rfl,row9,H⟩
 refine bk H 4 (#[J (ep),J (ld),.slice (Qd g1) isr.length c1,.slice (Qd g2) kn.length c2,.slice (Qd g3) rs.length c3,J (fw),J (bs)]) aL Z Z Z Z Z N N fun w14 H=>U<|W<|Zr<|G (Zw aG H 4 Z Z Z)<|bk H 3 (#[J (ep),J (ld),.slice (Qd g1) isr.length c1,.slice (Qd g2) kn.length c2,.slice (Qd g3) rs.length c3,J (fw),J (bs)]) aL Z Z Z Z Z N N fun w15 H=>G (Wi Z)<|U<|Zt ?_
 have hS:ob (Pa.a ⟨ep,ld,isr,iA,iC,kn,kA,kC,reps,rA,rC,fw,bs⟩) r=(nV {Pa.a ⟨ep,ld,isr,iA,iC,kn,kA,kC,reps,rA,rC,fw,bs⟩with reps:=(reps.map eR.a).set r {x.a with s:=x.es.length},known:=kn.set r ((x.es.length:Nat):Int)},0):=by simp[ob,Pa.a,hxa,eR.a,h22,<-h43]
 rw[hS]
 rw[xw (l:=r) (r:={x.a with s:=x.es.length}) h43.symm (am (by simp;omega))]
 have hlg2:=hlg1.same r (x':={x with A:=A35,cap:=c35,s:=x.es.length,lo:=w4.heap.size,hi:=w5.heap.size,high:=max x.high (min (dy isr (kn.set r ((x.es.length:Nat):Int)) 400) (x.es.length:Nat))}) hs9 Z Z Z Z Z
 exact bG (cs0:= #[J (ep),J (ld),.slice (Qd g1) isr.length c1,.slice (Qd g2) kn.length c2,.slice (Qd g3) rs.length c3,J (fw),J (bs)]) (v1:=J 0) Z aG Z (H.ent (i:=3) Z) Z Z ⟨_,by simp[Pa.c],by simp[Pa.a,cz,hma,eR.a],(eu.mk_ (p:=⟨ep,ld,isr,some ⟨g1,0,none⟩,c1,kn.set r ((x.es.length:Nat):Int),some ⟨g2,0,none⟩,c2,_,some ⟨g3,0,none⟩,c3,fw,bs⟩) Z Z Z row1 row10 row9 hlg2 (by dsimp only;try simp only[ab];omega) H ⟨by simp,by simp,by simp⟩)⟩
 refine U<|ZF Z<|Zk<|W<|Zr<|G (Zw aG H 4 Z Z Z)<|bk H 3 (#[J (ep),J (ld),.slice (Qd g1) isr.length c1,.slice (Qd g2) kn.length c2,.slice (Qd g3) rs.length c3,J (fw),J (bs)]) aL Z Z Z Z Z N N fun w16 H=>G (Wi Z)<|U<|Zt ?_
 have hS:ob (Pa.a ⟨ep,ld,isr,iA,iC,kn,kA,kC,reps,rA,rC,fw,bs⟩) r=({Pa.a ⟨ep,ld,isr,iA,iC,kn,kA,kC,reps,rA,rC,fw,bs⟩with reps:=(reps.map eR.a).set r {x.a with s:=x.es.length}},0):=by simp[ob,Pa.a,hxa,eR.a,h22,show¬ ld=(r:Int)from fun h=>h43 h.symm]
 rw[hS]
 exact bG (cs0:= #[J (ep),J (ld),.slice (Qd g1) isr.length c1,.slice (Qd g2) kn.length c2,.slice (Qd g3) rs.length c3,J (fw),J (bs)]) (v1:=J 0) Z aG Z (H.ent (i:=3) Z) Z Z ⟨_,by simp[Pa.c],by simp[Pa.a,cz,hma,eR.a],(eu.mk_ (p:=⟨ep,ld,isr,some ⟨g1,0,none⟩,c1,kn,some ⟨g2,0,none⟩,c2,rs.set r {x with A:=A35,cap:=c35,s:=x.es.length,lo:=w4.heap.size,hi:=w5.heap.size},some ⟨g3,0,none⟩,c3,fw,bs⟩) Z Z Z row1 row2 row6 hlg1 (by dsimp only;try simp only[ab];omega) H ⟨by simp,by simp,by simp⟩)⟩
 refine G (dI Z)<|U<|ZT Z<|W<|Zr<|G (bi (cs:= #[J (0),J (0),.slice none 0 0,.slice none 0 0,.slice none 0 0,J (0),J (0)]) cL bp N)<|bk H 3 (#[J (0),J (0),.slice none 0 0,.slice none 0 0,.slice none 0 0,J (0),J (0)]) aL Z Z Z Z Z N N fun w17 H=>G (Wi Z)<|U<|Zt ?_
 have hS:ob (Pa.a ⟨ep,ld,isr,iA,iC,kn,kA,kC,reps,rA,rC,fw,bs⟩) r=(gK,7):=by simp[ob,Pa.a,hxa,eR.a,h22]
 rw[hS]
 exact bG (cs0:= #[J 0,J 0,.slice none 0 0,.slice none 0 0,.slice none 0 0,J 0,J 0]) (v1:=J 7) Z aG Z (H.ent (i:=3) Z) Z Z ⟨zB,rfl,rfl,eu.zero H.below⟩
end Go.Proofs.YtclibalpdhhhfaaGreat
