/- Walks through the functions that the law reaches (printed by a program). No condition. -/
import Derived.Test.YtckindfllegbgaaGreatW1
namespace Go.Proofs.YtckindfllegbgaaGreat
namespace Fw
set_option linter.unusedVariables false
set_option linter.unusedSimpArgs false
set_option linter.unusedSectionVars false
set_option maxRecDepth 100000
set_option maxHeartbeats 400000
open Go.RowKit
open Go.Proofs.Tryz
variable {Γ:Gh} {w0:World}
abbrev r_code_reader_span_l1(Bo:Gh)(gr_:Nat)(er_:Nat)(r:Ocode_reader×Span)(U:List Rowb)(Γ:Gh)(v:Value):Prop := ∃(rowr_':Rowb),v = .agg #[.int .i64 r.2.s,.int .i64 r.2.f,.int .i64 r.2.t]∧U = [rowr_']∧Ocode_reader.ob er_ Bo gr_ rowr_' r.1∧Span.fits Γ  r.2∧True
theorem t_code_reader_span_l1{Bo:Gh}{gr_ er_:Nat}{rowr_:Rowb}{r_:Ocode_reader}(hr_:Ocode_reader.ob er_ Bo gr_ rowr_ r_)(hp:Pre [rowr_] Γ w0)(hpO:Pre [rowr_] Bo w0){r:Option (Ocode_reader×Span)}(h:m_code_reader_span r_=some r):Calls Tryz.prog 166 #[(pq gr_)] w0 (OutcT [{ v:=(.iface 192 (.agg #[])),recovered:=false }] Γ [rowr_] w0 (λr=>r_code_reader_span_l1 Bo gr_ er_ r) r):=by
 refine calls_of_r (N:=24) (rs:=[.cell 2 93]) (args:=[(pq gr_)]) func166 rfl ntmps166 results166 rfl ?_
 obtain⟨F,hF⟩:∃F:Fm,F=⟨ids [rowr_],w0,Γ⟩:=⟨_,rfl⟩
 refine aw (C:=CC F Γ [rowr_]) ?_ (hF▸hp.start)
 have hO:Lent F Bo:=hF▸Lent.start hpO
 refine ab ?_
 refine alV zeroValue93 λg1=>?_
 refine aa (ab (mV (k:=?_)))
 obtain⟨z2,hz3,h⟩:=bnd h
 rcases z2 with _ | o4
 ·
  have h:=optm_n rfl h
  refine e_callNW (is:=[1]) rfl (caV call164) rfl (λw hw hp=>t_code_reader_int_l1 hr_ hp (hO.pre (is:=[1]) hw rfl) hz3) ?_
  intro Γ5 hl6
  intro w hw
  cases h
  subst hF
  first | exact end_t hw | exact λ_=>end_t hw
 have h:=optm_s rfl h
 refine e_callW (is:=[1]) rfl rfl (caV call164) rfl (λw hw hp=>t_code_reader_int_l1 hr_ hp (hO.pre (is:=[1]) hw rfl) hz3) ?_
 rintro Γ7 _ _ hl8 ⟨row11,rfl,rfl,hr12,hr13,_⟩
 refine cwV 5 [_,_] (sV (q_build' (v:=.agg #[ii o4.2,ii 0,ii 0]) rfl (bargs1 rfl) (λw=>by kernel_rfl)) (k:=?_))
 refine alV zeroValue93 λg14=>?_
 refine stV 0 (.agg #[ii o4.2,ii 0,ii 0]) #[ii o4.2,ii 0,ii 0] sizeOf93 (k:=aa (ab (mV (k:=?_))))
 obtain⟨z15,hz16,h⟩:=bnd h
 rcases z15 with _ | o17
 ·
  have h:=optm_n rfl h
  refine e_callNW (is:=[1]) rfl (caV call163) rfl (λw hw hp=>t_code_reader_num_l1 hr12 hp (hO.pre (is:=[1]) hw rfl) hz16) ?_
  intro Γ18 hl19
  intro w hw
  cases h
  subst hF
  first | exact end_t hw | exact λ_=>end_t hw
 have h:=optm_s rfl h
 refine e_callW (is:=[1]) rfl rfl (caV call163) rfl (λw hw hp=>t_code_reader_num_l1 hr12 hp (hO.pre (is:=[1]) hw rfl) hz16) ?_
 rintro Γ20 _ _ hl21 ⟨row24,rfl,rfl,hr25,hr26,_⟩
 refine cwV 8 [_,_,_] (sV (q_fl 1 fld_93_1) (k:=stV 1 (ii o17.2) #[ii o4.2,ii o17.2,ii 0] sizeOf2 (k:=aa ?_)))
 refine ar (λσ w => ∃(x29:Span), ∃(o31:Ocode_reader), ∃(Γ27:Gh), ∃(row32:Rowb),m_code_reader_span_j1 x29 o31=some r∧slots σ [(2,(pq g1)),(3,(pq g14))]∧CC F Γ27 [row32,[(g14,.cells (Span.cs x29).toArray 93 (0,0))],[(g1,.cells #[ii 0,ii 0,ii 0] 93 (0,0))]] w∧Gh.le Γ20 Γ27∧Span.fits Γ27  x29∧Ocode_reader.ob er_ Bo gr_ row32 o31∧True) ?_ ?_
 ·
  refine leV λh034=>?_
  refine held_ (CC F Γ20 [[(g1,.cells #[ii 0,ii 0,ii 0] 93 (0,0))]]) (bo_ [2] gR h034) λk=>?_
  change WH _ _ _ _ (CC F Γ20 [_,_,_]) _ 7 _ _
  refine hV 0 k (q:=q_fl 1 fld_93_1) (k:=hV 2 k (q:=moV) (k:=?_))
  obtain⟨z35,hz36,h⟩:=bnd h
  refine WH.each (l:=[1,3]) (by kernel_rfl) (by simp) ?_
  intro i hi; simp only [List.mem_cons,List.not_mem_nil,or_false] at hi
  rcases hi with rfl | rfl
  ·
   refine⟨_,rfl,?_⟩
   refine sV (ldV 1 isAgg2) (k:=?_)
   refine ae (nxV (bo_ [2] gR h034) λk=>?_)
   refine wl_ 3 rfl ?_
   rcases z35 with _ | o37
   ·
    have h:=optm_n rfl h
    refine e_callNW (is:=[0]) rfl (caV call163) rfl (λw hw hp=>t_code_reader_num_l1 hr25 hp (hO.pre (is:=[0]) hw rfl) hz36) ?_
    intro Γ38 hl39
    intro w hw
    cases h
    subst hF
    first | exact end_t hw | exact λ_=>end_t hw
   have h:=optm_s rfl h
   refine e_callW (is:=[0]) rfl rfl (caV call163) rfl (λw hw hp=>t_code_reader_num_l1 hr25 hp (hO.pre (is:=[0]) hw rfl) hz36) ?_
   rintro Γ40 _ _ hl41 ⟨row44,rfl,rfl,hr45,hr46,_⟩
   refine cwV 13 [_,_,_] ?_
   refine ae (nxV (bo_ [2] hl41 h034) λk=>?_)
   refine hV 4 k (q:=q_add) (k:=hV 5 k (q:=q_fl 2 fld_93_2) (k:=wl_ 6 rfl (stV 1 (ii (w64 (o17.2+o37.2))) #[ii o4.2,ii o17.2,ii (w64 (o17.2+o37.2))] sizeOf2 (k:=?_))))
   refine ae (nxV (bo_ [2] hl41 h034) λk=>?_)
   refine am (by kernel_rfl) ?_
   intro w hw
   exact⟨(⟨o4.2,o17.2,(w64 (o17.2+o37.2))⟩:Span),o37.1,Γ40,row44,h,slK,hw,hl41,⟨hr13,hr26,(w64_r _)⟩,hr45,trivial⟩
  refine⟨_,rfl,?_⟩
  rcases z35 with _ | o37
  ·
   have h:=optm_n rfl h
   refine e_callNW (is:=[0]) rfl (caV call163) rfl (λw hw hp=>t_code_reader_num_l1 hr25 hp (hO.pre (is:=[0]) hw rfl) hz36) ?_
   intro Γ38 hl39
   intro w hw
   cases h
   subst hF
   first | exact end_t hw | exact λ_=>end_t hw
  have h:=optm_s rfl h
  refine e_callW (is:=[0]) rfl rfl (caV call163) rfl (λw hw hp=>t_code_reader_num_l1 hr25 hp (hO.pre (is:=[0]) hw rfl) hz36) ?_
  rintro Γ40 _ _ hl41 ⟨row44,rfl,rfl,hr45,hr46,_⟩
  refine cwV 13 [_,_,_] ?_
  refine ae (nxV (bo_ [2] hl41 h034) λk=>?_)
  refine wl_ 1 rfl (sV (ldV 1 isAgg2) (k:=?_))
  refine ae (nxV (bo_ [2] hl41 h034) λk=>?_)
  refine hV 4 k (q:=q_add) (k:=hV 5 k (q:=q_fl 2 fld_93_2) (k:=wl_ 6 rfl (stV 1 (ii (w64 (o17.2+o37.2))) #[ii o4.2,ii o17.2,ii (w64 (o17.2+o37.2))] sizeOf2 (k:=?_))))
  refine ae (nxV (bo_ [2] hl41 h034) λk=>?_)
  refine am (by kernel_rfl) ?_
  intro w hw
  exact⟨(⟨o4.2,o17.2,(w64 (o17.2+o37.2))⟩:Span),o37.1,Γ40,row44,h,slK,hw,hl41,⟨hr13,hr26,(w64_r _)⟩,hr45,trivial⟩
 rintro σ w ⟨x29,o31,Γ27,row32,h,hsl,hw,hl28,hf30,ho33,-⟩
 refine slV hsl hw [_,_,_] ?_; clear hw hsl
 refine ar (λσ w=>m_code_reader_span_j2 x29 o31  = some r∧slots σ [(2,(pq g1)),(3,(pq g14))]∧CC F Γ27 [row32,[(g14,.cells (Span.cs x29).toArray 93 (0,0))],[(g1,.cells #[ii 0,ii 0,ii 0] 93 (0,0))]] w∧True) ?_ ?_
 ·
  refine ab (sV (q_fl 2 fld_93_2) (k:=sV (ldV 1 isAgg2) (k:=sV (q_fl 1 fld_93_1) (k:=sV (ldV 1 isAgg2) (k:=sV q_lss (k:=aa ?_))))))
  refine ciV h (λhb47 h=>?_) (λhb47 h=>?_)
  ·
   refine ah ?_
   refine sV (q_build (v:=.agg #[]) rfl (λw=>by kernel_rfl)) (k:=sV (q_iface rfl rfl (λw=>mkif underlying192 w)) (k:=?_))
   refine e_panic (v:=.iface 192 (.agg #[])) rfl (run_panicop rfl rfl) ?_
   intro w hw
   cases h
   subst hF
   first | exact end_t hw | exact λ_=>end_t hw
  exact ag λw hw=>⟨h,slK,hw,trivial⟩
 rintro σ w ⟨h,hsl,hw,-⟩
 refine slV hsl hw [_,_,_] ?_; clear hw hsl
 refine ab (sV (ldaV 1 (Span.cs x29) isAgg93 sizeOf93) (k:=stV 2 (.agg (Span.cs x29).toArray) (Span.cs x29).toArray sizeOf93 (k:=aa ?_)))
 refine af ?_
 intro w hw
 cases h
 subst hF
 exact⟨[.agg (Span.cs x29).toArray],(rr_agg (i:=2) (us:=(Span.cs x29)) hw rfl isAgg93 sizeOf93 (by kernel_rfl) rfl rr_nil),end_e (is:=[0]) (by kernel_rfl) hw rfl ⟨row32,rfl,rfl,ho33,hf30,trivial⟩⟩
abbrev r_code_take_api_Span_l1(Bo:Gh)(gr_:Nat)(er_:Nat)(r:Ocode_reader×(List Span))(U:List Rowb)(Γ:Gh)(v:Value):Prop := ∃(rowr_':Rowb), ∃(A0:Option Addr), ∃(c0:Nat), ∃(row0:Rowb),v = .slice A0 r.2.length c0∧U = [rowr_',row0]∧Ocode_reader.ob er_ Bo gr_ rowr_' r.1∧Own spanT Γ 93 row0 A0 c0 r.2∧True
theorem t_code_take_api_Span_l1{Bo:Gh}{gr_ er_:Nat}{rowr_:Rowb}{r_:Ocode_reader}(hr_:Ocode_reader.ob er_ Bo gr_ rowr_ r_)(hp:Pre [rowr_] Γ w0)(hpO:Pre [rowr_] Bo w0){r:Option (Ocode_reader×(List Span))}(h:m_code_take_api_Span r_=some r):Calls Tryz.prog 165 #[(pq gr_),.func (.func 166) #[(pq gr_)] #[]] w0 (OutcT [{ v:=(.iface 192 (.agg #[])),recovered:=false }] Γ [rowr_] w0 (λr=>r_code_take_api_Span_l1 Bo gr_ er_ r) r):=by
 refine goV [4] func165 ntmps165 results165 hp λF hF=>?_
 have hO:Lent F Bo:=hF▸Lent.start hpO
 refine ab (aV (k:=aa (ab (mV (k:=?_)))))
 obtain⟨z1,hz2,h⟩:=bnd h
 rcases z1 with _ | o3
 ·
  have h:=optm_n rfl h
  refine e_callNW (is:=[0]) rfl (caV call163) rfl (λw hw hp=>t_code_reader_num_l1 hr_ hp (hO.pre (is:=[0]) hw rfl) hz2) ?_
  intro Γ4 hl5
  intro w hw
  cases h
  subst hF
  first | exact end_t hw | exact λ_=>end_t hw
 have h:=optm_s rfl h
 refine e_callW (is:=[0]) rfl rfl (caV call163) rfl (λw hw hp=>t_code_reader_num_l1 hr_ hp (hO.pre (is:=[0]) hw rfl) hz2) ?_
 rintro Γ6 _ _ hl7 ⟨row10,rfl,rfl,hr11,hr12,_⟩
 refine cwV 8 [_] (aV (k:=aa ?_))
 refine ar (λσ w=>m_code_take_api_Span_j1 o3  = some r∧slots σ [(1,.func (.func 166) #[(pq gr_)] #[]),(5,ii o3.2)]∧CC F Γ6 [row10] w∧True) ?_ ?_
 ·
  refine ac ?_
  obtain⟨A0_13,c0_13,hrow_13,ho0_13,ho1_13,ho2_13,-⟩:=id hr11
  refine ufC 0 hrow_13 [_] ?_
  refine drV ?_
  refine zV moV (k:=zV moV (k:=zV nlV (k:=zV (q_fl 0 fld_194_0) (k:=zV (ldV 0 isAgg77) (k:=zV (q_len_slice rfl underlying77) (k:=zV moV (k:=zV nlV (k:=?_))))))))
  refine zV (q_fl 1 fld_194_1) (k:=zV (ldV 0 isAgg3) (k:=zV q_sub (k:=zV q_gtr (k:=?_))))
  refine ao ?_
  change WC _ _ _ _ _ _
  refine ciV h (λhb14 h=>?_) (λhb14 h=>?_)
  ·
   refine ah ?_
   refine sV (q_build (v:=.agg #[]) rfl (λw=>by kernel_rfl)) (k:=sV (q_iface rfl rfl (λw=>mkif underlying192 w)) (k:=?_))
   refine e_panic (v:=.iface 192 (.agg #[])) rfl (run_panicop rfl rfl) ?_
   intro w hw
   cases h
   subst hF
   first | exact end_t hw | exact λ_=>end_t hw
  refine ag ?_
  intro w hw
  have hw:=hw.fold (is:=[0]) rfl hrow_13
  exact⟨h,slK,hw,trivial⟩
 rintro σ w ⟨h,hsl,hw,-⟩
 refine slV hsl hw [_] ?_; clear hw hsl
 refine ab (aV (k:=aa (ac (ab (mV (k:=mV (k:=aa ?_)))))))
 refine ai ?_
 refine ax h (λ(i29:Nat) (s:(List Span)×Ocode_reader) σ w=>match s with | (out_20,o25) => ∃(Γ18:Gh), ∃(A21:Option Addr), ∃(c22:Nat), ∃(row23:Rowb), ∃(row26:Rowb),slots σ [(1,.func (.func 166) #[(pq gr_)] #[]),(6,.slice A21 out_20.length c22),(23,ii o3.2),(24,ii (i29:Int))]∧CC F Γ18 [row23,row26] w∧Gh.le Γ6 Γ18∧Own spanT Γ18 93 row23 A21 c22 out_20∧Ocode_reader.ob er_ Bo gr_ row26 o25∧True) ?_ ?_
 ·
  intro w hw
  have hw:=hw.pad
  exact⟨Γ6,none,0,[],row10,slK,hw,gR,(Own.nil spanT _ 93),hr11,trivial⟩
 rintro f28 i29 ⟨out_20,o25⟩ σ w hi30 hlt31 hge32 ⟨Γ18,A21,c22,row23,row26,hsl,hw,hl19,ho24,ho27,-⟩
 refine slV hsl hw [_,_] ?_; clear hw hsl
 refine ab (sV q_lss (k:=aa (ac ?_)))
 refine coV (λhb33=>?_) (λhb33=>?_)
 ·
  have hl34:=ilti hb33
  have h:=hlt31 hl34
  refine ag (wc_ (ac (ai ?_)))
  refine ah ?_
  refine mV (k:=mU (v:=.func (.func 166) #[(pq gr_)] #[]) (k:=?_))
  obtain⟨z35,hz36,h⟩:=bnd h
  rcases z35 with _ | o37
  ·
   have h:=optm_n rfl h
   refine e_callNW (is:=[1]) rfl (call_run_fb (first:=#[(pq gr_)]) call166 rfl (by kernel_rfl) (by kernel_rfl)) rfl (λw hw hp=>t_code_reader_span_l1 ho27 hp (hO.pre (is:=[1]) hw rfl) hz36) ?_
   intro Γ38 hl39
   intro w hw
   cases h
   subst hF
   first | exact end_t hw | exact λ_=>end_t hw
  have h:=optm_s rfl h
  refine e_callW (is:=[1]) rfl rfl (call_run_fb (first:=#[(pq gr_)]) call166 rfl (by kernel_rfl) (by kernel_rfl)) rfl (λw hw hp=>t_code_reader_span_l1 ho27 hp (hO.pre (is:=[1]) hw rfl) hz36) ?_
  rintro Γ40 _ _ hl41 ⟨row44,rfl,rfl,hr45,hr46,_⟩
  refine cwV 28 [_,_] ?_
  refine bsV (Span.cs o37.2).toArray 93 λg47=>?_
  obtain⟨hk48,h⟩:=chk_some h
  refine apV 2 [o37.2] elem_87 (ho24.mono hl41) (of_decide_eq_true hk48) (λw hw=>src_one (i:=0) rfl (by exact⟨rfl,hr46⟩) hw) ?_
  intro row49 A50 c51 ho52
  refine aV (k:=?_)
  refine ae ?_
  change WC _ _ _ _ _ _
  refine ah ?_
  refine sV (q_add_r rfl rfl rfl (ctr_int hl34 hr12)) (k:=mV (k:=?_))
  exact ae λw hw=>⟨hl34,((out_20++[o37.2]),o37.1),h,Γ40,A50,c51,row49,row44,slK,(hw.on [2,1]),(hl19.trans hl41),ho52,hr45,trivial⟩
 have h:=hge32 (igei hb33)
 refine aj ?_
 change WC _ _ _ _ _ _
 refine ab (mV (k:=aV (k:=aa ?_)))
 refine af ?_
 intro w hw
 cases h
 subst hF
 exact end_e (is:=[1,0]) (by kernel_rfl) hw rfl ⟨row26,A21,c22,row23,rfl,rfl,ho27,ho24,trivial⟩
abbrev r_code_reader_ver_l1(Bo:Gh)(gr_:Nat)(er_:Nat)(r:Ocode_reader×Ver)(U:List Rowb)(Γ:Gh)(v:Value):Prop := ∃(rowr_':Rowb), ∃(A0_2:Option Addr), ∃(c0_2:Nat),v = .agg #[.int .i64 r.2.dot.s,.int .i64 r.2.dot.n,.slice A0_2 r.2.past.length c0_2,.bool r.2.gone,.string r.2.val]∧U = [rowr_']∧Ocode_reader.ob er_ Bo gr_ rowr_' r.1∧Ver.fits Γ A0_2 c0_2 r.2∧True
theorem t_code_reader_ver_l1{Bo:Gh}{gr_ er_:Nat}{rowr_:Rowb}{r_:Ocode_reader}(hr_:Ocode_reader.ob er_ Bo gr_ rowr_ r_)(hp:Pre [rowr_] Γ w0)(hpO:Pre [rowr_] Bo w0){r:Option (Ocode_reader×Ver)}(h:m_code_reader_ver r_=some r):Calls Tryz.prog 128 #[(pq gr_)] w0 (OutcT [{ v:=(.iface 192 (.agg #[])),recovered:=false }] Γ [rowr_] w0 (λr=>r_code_reader_ver_l1 Bo gr_ er_ r) r):=by
 refine calls_of_r (N:=30) (rs:=[.cell 2 89]) (args:=[(pq gr_)]) func128 rfl ntmps128 results128 rfl ?_
 obtain⟨F,hF⟩:∃F:Fm,F=⟨ids [rowr_],w0,Γ⟩:=⟨_,rfl⟩
 refine aw (C:=CC F Γ [rowr_]) ?_ (hF▸hp.start)
 have hO:Lent F Bo:=hF▸Lent.start hpO
 refine ab ?_
 refine alV zeroValue89 λg1=>?_
 refine aa (ab (mV (k:=?_)))
 obtain⟨z2,hz3,h⟩:=bnd h
 rcases z2 with _ | o4
 ·
  have h:=optm_n rfl h
  refine e_callNW (is:=[1]) rfl (caV call164) rfl (λw hw hp=>t_code_reader_int_l1 hr_ hp (hO.pre (is:=[1]) hw rfl) hz3) ?_
  intro Γ5 hl6
  intro w hw
  cases h
  subst hF
  first | exact end_t hw | exact λ_=>end_t hw
 have h:=optm_s rfl h
 refine e_callW (is:=[1]) rfl rfl (caV call164) rfl (λw hw hp=>t_code_reader_int_l1 hr_ hp (hO.pre (is:=[1]) hw rfl) hz3) ?_
 rintro Γ7 _ _ hl8 ⟨row11,rfl,rfl,hr12,hr13,_⟩
 refine cwV 5 [_,_] (sV (q_build' (v:=.agg #[ii o4.2,ii 0]) rfl (bargs1 rfl) (λw=>by kernel_rfl)) (k:=sV (q_build' (v:=.agg #[ii o4.2,ii 0,.slice none 0 0,.bool false,.string ByteArray.empty]) rfl (bargs1 rfl) (λw=>by kernel_rfl)) (k:=?_)))
 refine alV zeroValue89 λg14=>?_
 refine stV 0 (.agg #[ii o4.2,ii 0,.slice none 0 0,.bool false,.string ByteArray.empty]) #[ii o4.2,ii 0,.slice none 0 0,.bool false,.string ByteArray.empty] sizeOf89 (k:=aa (ab (mV (k:=?_))))
 obtain⟨z15,hz16,h⟩:=bnd h
 rcases z15 with _ | o17
 ·
  have h:=optm_n rfl h
  refine e_callNW (is:=[1]) rfl (caV call163) rfl (λw hw hp=>t_code_reader_num_l1 hr12 hp (hO.pre (is:=[1]) hw rfl) hz16) ?_
  intro Γ18 hl19
  intro w hw
  cases h
  subst hF
  first | exact end_t hw | exact λ_=>end_t hw
 have h:=optm_s rfl h
 refine e_callW (is:=[1]) rfl rfl (caV call163) rfl (λw hw hp=>t_code_reader_num_l1 hr12 hp (hO.pre (is:=[1]) hw rfl) hz16) ?_
 rintro Γ20 _ _ hl21 ⟨row24,rfl,rfl,hr25,hr26,_⟩
 refine cwV 9 [_,_,_] (sV (q_fl 0 fld_89_0) (k:=sV (q_fl 1 fld_86_1) (k:=stV 1 (ii o17.2) #[ii o4.2,ii o17.2,.slice none 0 0,.bool false,.string ByteArray.empty] sizeOf2 (k:=aa (ab (mV (k:=mV (k:=?_))))))))
 refine sV (q_mkfn (v:=.func (.func 166) #[(pq gr_)] #[]) rfl (by kernel_rfl)) (k:=?_)
 obtain⟨z27,hz28,h⟩:=bnd h
 rcases z27 with _ | o29
 ·
  have h:=optm_n rfl h
  refine e_callNW (is:=[0]) rfl (caV call165) rfl (λw hw hp=>t_code_take_api_Span_l1 hr25 hp (hO.pre (is:=[0]) hw rfl) hz28) ?_
  intro Γ30 hl31
  intro w hw
  cases h
  subst hF
  first | exact end_t hw | exact λ_=>end_t hw
 have h:=optm_s rfl h
 refine e_callW (is:=[0]) rfl rfl (caV call165) rfl (λw hw hp=>t_code_take_api_Span_l1 hr25 hp (hO.pre (is:=[0]) hw rfl) hz28) ?_
 rintro Γ32 _ _ hl33 ⟨row36,A38,c39,row40,rfl,rfl,hr37,hr41,_⟩
 refine cwV 15 [_,_,_,_] (sV (q_fl 2 fld_89_1) (k:=stV 2 (.slice A38 o29.2.length c39) #[ii o4.2,ii o17.2,.slice A38 o29.2.length c39,.bool false,.string ByteArray.empty] sizeOf87 (k:=aa ?_)))
 refine ar (λσ w => ∃(x44:Bool), ∃(x45:ByteArray), ∃(o47:Ocode_reader), ∃(Γ42:Gh), ∃(row48:Rowb),m_code_reader_ver_j1 o4 o17 o29 x44 x45 o47=some r∧slots σ [(2,(pq g1)),(3,(pq g14))]∧CC F Γ42 [row48,row40,[(g14,.cells #[ii o4.2,ii o17.2,.slice A38 o29.2.length c39,.bool x44,.string x45] 89 (0,0))],[(g1,.cells #[ii 0,ii 0,.slice none 0 0,.bool false,.string ByteArray.empty] 89 (0,0))]] w∧Gh.le Γ32 Γ42∧x45.size≤lim∧Ocode_reader.ob er_ Bo gr_ row48 o47∧True) ?_ ?_
 ·
  refine ab (mV (k:=?_))
  obtain⟨z50,hz51,h⟩:=bnd h
  rcases z50 with _ | o52
  ·
   have h:=optm_n rfl h
   refine e_callNW (is:=[0]) rfl (caV call163) rfl (λw hw hp=>t_code_reader_num_l1 hr37 hp (hO.pre (is:=[0]) hw rfl) hz51) ?_
   intro Γ53 hl54
   intro w hw
   cases h
   subst hF
   first | exact end_t hw | exact λ_=>end_t hw
  have h:=optm_s rfl h
  refine e_callW (is:=[0]) rfl rfl (caV call163) rfl (λw hw hp=>t_code_reader_num_l1 hr37 hp (hO.pre (is:=[0]) hw rfl) hz51) ?_
  rintro Γ55 _ _ hl56 ⟨row59,rfl,rfl,hr60,hr61,_⟩
  refine cwV 18 [_,_,_,_] (aa (ai (ab (sV q_eql (k:=aV (k:=aa ?_))))))
  refine ciV h (λhb62 h=>?_) (λhb62 h=>?_)
  ·
   refine ah ?_
   refine mV (k:=?_)
   obtain⟨z63,hz64,h⟩:=bnd h
   rcases z63 with _ | o65
   ·
    have h:=optm_n rfl h
    refine e_callNW (is:=[0]) rfl (caV call126) rfl (λw hw hp=>t_code_reader_text_l1 hr60 hp (hO.pre (is:=[0]) hw rfl) hz64) ?_
    intro Γ66 hl67
    intro w hw
    cases h
    subst hF
    first | exact end_t hw | exact λ_=>end_t hw
   have h:=optm_s rfl h
   refine e_callW (is:=[0]) rfl rfl (caV call126) rfl (λw hw hp=>t_code_reader_text_l1 hr60 hp (hO.pre (is:=[0]) hw rfl) hz64) ?_
   rintro Γ68 _ _ hl69 ⟨row72,rfl,rfl,hr73,hr74,_⟩
   refine cwV 24 [_,_,_,_] (sV (q_fl 4 fld_89_3) (k:=stV 2 (.string o65.2) #[ii o4.2,ii o17.2,.slice A38 o29.2.length c39,.bool false,.string o65.2] sizeOf9 (k:=?_)))
   exact ae λw hw=>⟨false,o65.2,o65.1,Γ68,row72,h,slK,hw,(hl56.trans hl69),hr74,hr73,trivial⟩
  refine ab (sV q_eql (k:=aV (k:=aa ?_)))
  refine ciV h (λhb75 h=>?_) (λhb75 h=>?_)
  ·
   refine ah ?_
   refine sV (q_fl 3 fld_89_2) (k:=stV 2 (.bool true) #[ii o4.2,ii o17.2,.slice A38 o29.2.length c39,.bool true,.string ByteArray.empty] sizeOf4 (k:=?_))
   exact ae λw hw=>⟨true,ByteArray.empty,o52.1,Γ55,row59,h,slK,hw,hl56,(show (ByteArray.empty:ByteArray).size≤lim by decide),hr60,trivial⟩
  refine ah ?_
  refine sV (q_build (v:=.agg #[]) rfl (λw=>by kernel_rfl)) (k:=sV (q_iface rfl rfl (λw=>mkif underlying192 w)) (k:=?_))
  refine e_panic (v:=.iface 192 (.agg #[])) rfl (run_panicop rfl rfl) ?_
  intro w hw
  cases h
  subst hF
  first | exact end_t hw | exact λ_=>end_t hw
 rintro σ w ⟨x44,x45,o47,Γ42,row48,h,hsl,hw,hl43,hr46,ho49,-⟩
 refine slV hsl hw [_,_,_,_] ?_; clear hw hsl
 refine ab (sV (ldaV 2 [ii o4.2,ii o17.2,.slice A38 o29.2.length c39,.bool x44,.string x45] isAgg89 sizeOf89) (k:=stV 3 (.agg #[ii o4.2,ii o17.2,.slice A38 o29.2.length c39,.bool x44,.string x45]) #[ii o4.2,ii o17.2,.slice A38 o29.2.length c39,.bool x44,.string x45] sizeOf89 (k:=aa ?_)))
 refine af ?_
 intro w hw
 have hc82:=(hr41.mono hl43).capz
 obtain⟨Γ78,hw,hl79,hr80⟩:=hw.seal (i:=1) rfl; have hs81:=(hr41.mono hl43).sl hl79 hr80
 cases h
 subst hF
 exact⟨[.agg #[ii o4.2,ii o17.2,.slice A38 o29.2.length c39,.bool x44,.string x45]],(rr_agg (i:=3) (us:=[ii o4.2,ii o17.2,.slice A38 o29.2.length c39,.bool x44,.string x45]) hw rfl isAgg89 sizeOf89 (by kernel_rfl) rfl rr_nil),end_e (is:=[0]) (by kernel_rfl) hw rfl ⟨row48,A38,c39,rfl,rfl,ho49,⟨hr13,hr26,⟨hc82,hs81⟩,hr46⟩,trivial⟩⟩
abbrev r_code_take_api_Ver_l1(Bo:Gh)(gr_:Nat)(er_:Nat)(r:Ocode_reader×(List Ver))(U:List Rowb)(Γ:Gh)(v:Value):Prop := ∃(rowr_':Rowb), ∃(A0:Option Addr), ∃(c0:Nat), ∃(row0:Rowb),v = .slice A0 r.2.length c0∧U = [rowr_',row0]∧Ocode_reader.ob er_ Bo gr_ rowr_' r.1∧Own verT Γ 89 row0 A0 c0 r.2∧True
theorem t_code_take_api_Ver_l1{Bo:Gh}{gr_ er_:Nat}{rowr_:Rowb}{r_:Ocode_reader}(hr_:Ocode_reader.ob er_ Bo gr_ rowr_ r_)(hp:Pre [rowr_] Γ w0)(hpO:Pre [rowr_] Bo w0){r:Option (Ocode_reader×(List Ver))}(h:m_code_take_api_Ver r_=some r):Calls Tryz.prog 127 #[(pq gr_),.func (.func 128) #[(pq gr_)] #[]] w0 (OutcT [{ v:=(.iface 192 (.agg #[])),recovered:=false }] Γ [rowr_] w0 (λr=>r_code_take_api_Ver_l1 Bo gr_ er_ r) r):=by
 refine goV [4] func127 ntmps127 results127 hp λF hF=>?_
 have hO:Lent F Bo:=hF▸Lent.start hpO
 refine ab (aV (k:=aa (ab (mV (k:=?_)))))
 obtain⟨z1,hz2,h⟩:=bnd h
 rcases z1 with _ | o3
 ·
  have h:=optm_n rfl h
  refine e_callNW (is:=[0]) rfl (caV call163) rfl (λw hw hp=>t_code_reader_num_l1 hr_ hp (hO.pre (is:=[0]) hw rfl) hz2) ?_
  intro Γ4 hl5
  intro w hw
  cases h
  subst hF
  first | exact end_t hw | exact λ_=>end_t hw
 have h:=optm_s rfl h
 refine e_callW (is:=[0]) rfl rfl (caV call163) rfl (λw hw hp=>t_code_reader_num_l1 hr_ hp (hO.pre (is:=[0]) hw rfl) hz2) ?_
 rintro Γ6 _ _ hl7 ⟨row10,rfl,rfl,hr11,hr12,_⟩
 refine cwV 8 [_] (aV (k:=aa ?_))
 refine ar (λσ w=>m_code_take_api_Ver_j1 o3  = some r∧slots σ [(1,.func (.func 128) #[(pq gr_)] #[]),(5,ii o3.2)]∧CC F Γ6 [row10] w∧True) ?_ ?_
 ·
  refine ac ?_
  obtain⟨A0_13,c0_13,hrow_13,ho0_13,ho1_13,ho2_13,-⟩:=id hr11
  refine ufC 0 hrow_13 [_] ?_
  refine drV ?_
  refine zV moV (k:=zV moV (k:=zV nlV (k:=zV (q_fl 0 fld_194_0) (k:=zV (ldV 0 isAgg77) (k:=zV (q_len_slice rfl underlying77) (k:=zV moV (k:=zV nlV (k:=?_))))))))
  refine zV (q_fl 1 fld_194_1) (k:=zV (ldV 0 isAgg3) (k:=zV q_sub (k:=zV q_gtr (k:=?_))))
  refine ao ?_
  change WC _ _ _ _ _ _
  refine ciV h (λhb14 h=>?_) (λhb14 h=>?_)
  ·
   refine ah ?_
   refine sV (q_build (v:=.agg #[]) rfl (λw=>by kernel_rfl)) (k:=sV (q_iface rfl rfl (λw=>mkif underlying192 w)) (k:=?_))
   refine e_panic (v:=.iface 192 (.agg #[])) rfl (run_panicop rfl rfl) ?_
   intro w hw
   cases h
   subst hF
   first | exact end_t hw | exact λ_=>end_t hw
  refine ag ?_
  intro w hw
  have hw:=hw.fold (is:=[0]) rfl hrow_13
  exact⟨h,slK,hw,trivial⟩
 rintro σ w ⟨h,hsl,hw,-⟩
 refine slV hsl hw [_] ?_; clear hw hsl
 refine ab (aV (k:=aa (ac (ab (mV (k:=mV (k:=aa ?_)))))))
 refine ai ?_
 refine ax h (λ(i29:Nat) (s:(List Ver)×Ocode_reader) σ w=>match s with | (out_20,o25) => ∃(Γ18:Gh), ∃(A21:Option Addr), ∃(c22:Nat), ∃(row23:Rowb), ∃(row26:Rowb),slots σ [(1,.func (.func 128) #[(pq gr_)] #[]),(6,.slice A21 out_20.length c22),(23,ii o3.2),(24,ii (i29:Int))]∧CC F Γ18 [row23,row26] w∧Gh.le Γ6 Γ18∧Own verT Γ18 89 row23 A21 c22 out_20∧Ocode_reader.ob er_ Bo gr_ row26 o25∧True) ?_ ?_
 ·
  intro w hw
  have hw:=hw.pad
  exact⟨Γ6,none,0,[],row10,slK,hw,gR,(Own.nil verT _ 89),hr11,trivial⟩
 rintro f28 i29 ⟨out_20,o25⟩ σ w hi30 hlt31 hge32 ⟨Γ18,A21,c22,row23,row26,hsl,hw,hl19,ho24,ho27,-⟩
 refine slV hsl hw [_,_] ?_; clear hw hsl
 refine ab (sV q_lss (k:=aa (ac ?_)))
 refine coV (λhb33=>?_) (λhb33=>?_)
 ·
  have hl34:=ilti hb33
  have h:=hlt31 hl34
  refine ag (wc_ (ac (ai ?_)))
  refine ah ?_
  refine mV (k:=mU (v:=.func (.func 128) #[(pq gr_)] #[]) (k:=?_))
  obtain⟨z35,hz36,h⟩:=bnd h
  rcases z35 with _ | o37
  ·
   have h:=optm_n rfl h
   refine e_callNW (is:=[1]) rfl (call_run_fb (first:=#[(pq gr_)]) call128 rfl (by kernel_rfl) (by kernel_rfl)) rfl (λw hw hp=>t_code_reader_ver_l1 ho27 hp (hO.pre (is:=[1]) hw rfl) hz36) ?_
   intro Γ38 hl39
   intro w hw
   cases h
   subst hF
   first | exact end_t hw | exact λ_=>end_t hw
  have h:=optm_s rfl h
  refine e_callW (is:=[1]) rfl rfl (call_run_fb (first:=#[(pq gr_)]) call128 rfl (by kernel_rfl) (by kernel_rfl)) rfl (λw hw hp=>t_code_reader_ver_l1 ho27 hp (hO.pre (is:=[1]) hw rfl) hz36) ?_
  rintro Γ40 _ _ hl41 ⟨row44,A46,c47,rfl,rfl,hr45,hr48,_⟩
  refine cwV 28 [_,_] ?_
  refine bsV (Ver.cs A46 c47 o37.2).toArray 89 λg49=>?_
  obtain⟨hk50,h⟩:=chk_some h
  refine apV 2 [o37.2] elem_43 (ho24.mono hl41) (of_decide_eq_true hk50) (λw hw=>src_one (i:=0) rfl (by exact⟨A46,c47,rfl,hr48⟩) hw) ?_
  intro row51 A52 c53 ho54
  refine aV (k:=?_)
  refine ae ?_
  change WC _ _ _ _ _ _
  refine ah ?_
  refine sV (q_add_r rfl rfl rfl (ctr_int hl34 hr12)) (k:=mV (k:=?_))
  exact ae λw hw=>⟨hl34,((out_20++[o37.2]),o37.1),h,Γ40,A52,c53,row51,row44,slK,(hw.on [2,1]),(hl19.trans hl41),ho54,hr45,trivial⟩
 have h:=hge32 (igei hb33)
 refine aj ?_
 change WC _ _ _ _ _ _
 refine ab (mV (k:=aV (k:=aa ?_)))
 refine af ?_
 intro w hw
 cases h
 subst hF
 exact end_e (is:=[1,0]) (by kernel_rfl) hw rfl ⟨row26,A21,c22,row23,rfl,rfl,ho27,ho24,trivial⟩
abbrev r_code_reader_rec_l1(Bo:Gh)(gr_:Nat)(er_:Nat)(r:Ocode_reader×Rec)(U:List Rowb)(Γ:Gh)(v:Value):Prop := ∃(rowr_':Rowb), ∃(A0_1:Option Addr), ∃(c0_1:Nat),v = .agg #[.string r.2.key,.slice A0_1 r.2.vers.length c0_1]∧U = [rowr_']∧Ocode_reader.ob er_ Bo gr_ rowr_' r.1∧Rec.fits Γ A0_1 c0_1 r.2∧True
theorem t_code_reader_rec_l1{Bo:Gh}{gr_ er_:Nat}{rowr_:Rowb}{r_:Ocode_reader}(hr_:Ocode_reader.ob er_ Bo gr_ rowr_ r_)(hp:Pre [rowr_] Γ w0)(hpO:Pre [rowr_] Bo w0){r:Option (Ocode_reader×Rec)}(h:m_code_reader_rec r_=some r):Calls Tryz.prog 94 #[(pq gr_)] w0 (OutcT [{ v:=(.iface 192 (.agg #[])),recovered:=false }] Γ [rowr_] w0 (λr=>r_code_reader_rec_l1 Bo gr_ er_ r) r):=by
 refine calls_of_r (N:=12) (rs:=[.cell 2 45]) (args:=[(pq gr_)]) func94 rfl ntmps94 results94 rfl ?_
 obtain⟨F,hF⟩:∃F:Fm,F=⟨ids [rowr_],w0,Γ⟩:=⟨_,rfl⟩
 refine aw (C:=CC F Γ [rowr_]) ?_ (hF▸hp.start)
 have hO:Lent F Bo:=hF▸Lent.start hpO
 refine ab ?_
 refine alV zeroValue45 λg1=>?_
 refine aa (ab (mV (k:=?_)))
 obtain⟨z2,hz3,h⟩:=bnd h
 rcases z2 with _ | o4
 ·
  have h:=optm_n rfl h
  refine e_callNW (is:=[1]) rfl (caV call126) rfl (λw hw hp=>t_code_reader_text_l1 hr_ hp (hO.pre (is:=[1]) hw rfl) hz3) ?_
  intro Γ5 hl6
  intro w hw
  cases h
  subst hF
  first | exact end_t hw | exact λ_=>end_t hw
 have h:=optm_s rfl h
 refine e_callW (is:=[1]) rfl rfl (caV call126) rfl (λw hw hp=>t_code_reader_text_l1 hr_ hp (hO.pre (is:=[1]) hw rfl) hz3) ?_
 rintro Γ7 _ _ hl8 ⟨row11,rfl,rfl,hr12,hr13,_⟩
 refine cwV 5 [_,_] (aV (k:=aa (ab (mV (k:=mV (k:=mV (k:=sV (q_mkfn (v:=.func (.func 128) #[(pq gr_)] #[]) rfl (by kernel_rfl)) (k:=?_))))))))
 obtain⟨z14,hz15,h⟩:=bnd h
 rcases z14 with _ | o16
 ·
  have h:=optm_n rfl h
  refine e_callNW (is:=[0]) rfl (caV call127) rfl (λw hw hp=>t_code_take_api_Ver_l1 hr12 hp (hO.pre (is:=[0]) hw rfl) hz15) ?_
  intro Γ17 hl18
  intro w hw
  cases h
  subst hF
  first | exact end_t hw | exact λ_=>end_t hw
 have h:=optm_s rfl h
 refine e_callW (is:=[0]) rfl rfl (caV call127) rfl (λw hw hp=>t_code_take_api_Ver_l1 hr12 hp (hO.pre (is:=[0]) hw rfl) hz15) ?_
 rintro Γ19 _ _ hl20 ⟨row23,A25,c26,row27,rfl,rfl,hr24,hr28,_⟩
 refine cwV 10 [_,_,_] (sV (q_build' (v:=.agg #[.string o4.2,.slice A25 o16.2.length c26]) rfl (bargs2 rfl rfl) (λw=>by kernel_rfl)) (k:=stV 2 (.agg #[.string o4.2,.slice A25 o16.2.length c26]) #[.string o4.2,.slice A25 o16.2.length c26] sizeOf45 (k:=aa ?_)))
 refine af ?_
 intro w hw
 have hc33:=hr28.capz
 obtain⟨Γ29,hw,hl30,hr31⟩:=hw.seal (i:=1) rfl; have hs32:=hr28.sl hl30 hr31
 cases h
 subst hF
 exact⟨[.agg #[.string o4.2,.slice A25 o16.2.length c26]],(rr_agg (i:=2) (us:=[.string o4.2,.slice A25 o16.2.length c26]) hw rfl isAgg45 sizeOf45 (by kernel_rfl) rfl rr_nil),end_e (is:=[0]) (by kernel_rfl) hw rfl ⟨row23,A25,c26,rfl,rfl,hr24,⟨hr13,⟨hc33,hs32⟩⟩,trivial⟩⟩
abbrev r_code_whole_api_Rec_l1(r:Rec×Int)(U:List Rowb)(Γ:Gh)(v:Value):Prop := ∃(A0_1:Option Addr), ∃(c0_1:Nat),v = .tuple #[.agg #[.string r.1.key,.slice A0_1 r.1.vers.length c0_1],.int .i64 r.2]∧U = []∧Rec.fits Γ A0_1 c0_1 r.1∧I64 r.2∧True
theorem t_code_whole_api_Rec_l1{B:Gh}{Ab:Option Addr}{cb:Nat}{b:List UInt8}(hb:Sl byteT B Ab b)(hbc:b.length≤cb)(hp:Pre [] Γ w0)(hpB:Pre [] B w0){r:Rec×Int}(h:m_code_whole_api_Rec b=some r):Calls Tryz.prog 93 #[.slice Ab b.length cb,.func (.func 94) #[] #[],.func (.func 69) #[] #[]] w0 (Outc Γ [] w0 (r_code_whole_api_Rec_l1 r)):=by
 refine calls_door (n:=32) (args:=[.slice Ab b.length cb,.func (.func 94) #[] #[],.func (.func 69) #[] #[]]) func93 rfl ntmps93 rfl ?_
 obtain⟨F,hF⟩:∃F:Fm,F=⟨ids [],w0,Γ⟩:=⟨_,rfl⟩
 refine WX.here (C:=CC F Γ []) ?_ (hF▸hp.start)
 have hB:Lent F B:=hF▸Lent.start hpB
 refine WX.seq ?_
 refine ah ?_
 refine alV zeroValue45 λg1=>?_
 refine alV zeroValue28 λg2=>?_
 refine ae ?_
 change WX _ _ _ _ _ _ _
 refine WX.defer (v:=.func (.func 125) #[] #[(pq g1),(pq g2)]) (d:=⟨.fn (.func 125) #[(pq g1),(pq g2)], #[]⟩) rfl rfl rfl rfl (q_mkfn (v:=.func (.func 125) #[] #[(pq g1),(pq g2)]) rfl (by kernel_rfl)) (run_defer rfl rfl) ?_
 refine WX.last ?_
 change WC _ _ _ _ _ _
 refine ab (mV (k:=sV (q_build' (v:=.agg #[.slice Ab b.length cb,ii 0]) rfl (bargs1 rfl) (λw=>by kernel_rfl)) (k:=?_)))
 refine bxV (v:=.agg #[.slice Ab b.length cb,ii 0]) λg3=>?_
 refine aV (k:=aa (ab (mU (v:=.func (.func 94) #[] #[]) (k:=mV (k:=?_)))))
 obtain⟨row_4,hrow_4,hob_4⟩:∃rw:Rowb,rw=([[(g3,.cells #[.slice Ab b.length cb,ii 0] 194 (0,0))]]:List Rowb).flatten∧Ocode_reader.ob 194 B g3 rw (⟨b,0⟩:Ocode_reader):=⟨_,rfl,Ab,cb,rfl,hbc,hb,iV,trivial⟩
 refine foR [0] hrow_4 [_,_,_] ?_
 obtain⟨z5,hz6,h⟩:=bnd h
 rcases z5 with _ | o7
 ·
  have h:=optm_n rfl h
  refine e_callNW (is:=[0]) rfl (call_run_fv (caps:=#[]) call94 rfl (by kernel_rfl) (by kernel_rfl)) rfl (λw hw hp=>t_code_reader_rec_l1 hob_4 hp (hB.pre (is:=[0]) hw rfl) hz6) ?_
  intro Γ8 hl9
  change ∀w,CC F Γ8 [[(g2,.cells #[ii 0] 28 (0,0))],[(g1,.cells #[.string ByteArray.empty,.slice none 0 0] 45 (0,0))]] w→_
  obtain⟨z10,hz11,h⟩:=bnd h
  refine door_panic (rs:=[.cell 6 45,.cell 7 28]) (is:=[1,0]) results93 (invoke_fn call125) rfl rfl (λw hp=>t_code_whole_api_Rec_1 ByteArray.empty (show (ByteArray.empty:ByteArray).size≤lim by decide) (Sl.nil verT _ none) (Nat.zero_le 0) 0 iV hp hz11) ?_
  rintro Γ12 _ _ hl13 ⟨A17,c18,rfl,rfl,hr16,hc20,hr19,hr21,_⟩
  change WRt _ _ _ (CC F Γ12 [_,_]) _
  unfold WRt
  intro w hw
  cases h
  subst hF
  exact⟨[.agg #[.string z10.1,.slice A17 z10.2.1.length c18],ii z10.2.2],(rr_agg (i:=0) (us:=[.string z10.1,.slice A17 z10.2.1.length c18]) hw rfl isAgg45 sizeOf45 (by kernel_rfl) rfl (rr_cell (i:=1) hw rfl isAgg28 (by kernel_rfl) rfl rr_nil)),end_e (is:=[]) (by kernel_rfl) hw rfl ⟨A17,c18,rfl,rfl,⟨hr16,⟨hc20,hr19⟩⟩,hr21,trivial⟩⟩
 have h:=optm_s rfl h
 refine e_callW (is:=[0]) rfl rfl (call_run_fv (caps:=#[]) call94 rfl (by kernel_rfl) (by kernel_rfl)) rfl (λw hw hp=>t_code_reader_rec_l1 hob_4 hp (hB.pre (is:=[0]) hw rfl) hz6) ?_
 rintro Γ22 _ _ hl23 ⟨row26,A28,c29,rfl,rfl,hr27,hr30,_⟩
 refine cwV 15 [_,_,_] (stV 2 (.agg (Rec.cs A28 c29 o7.2).toArray) (Rec.cs A28 c29 o7.2).toArray sizeOf45 (k:=aa ?_))
 refine ar (λσ w=>m_code_whole_api_Rec_j1 o7  = some r∧slots σ [(6,(pq g1)),(7,(pq g2))]∧CC F Γ22 [row26,[(g2,.cells #[ii 0] 28 (0,0))],[(g1,.cells (Rec.cs A28 c29 o7.2).toArray 45 (0,0))]] w∧True) ?_ ?_
 ·
  refine ab (mV (k:=sV nlV (k:=sV (q_fl 1 fld_194_1) (k:=?_))))
  obtain⟨A0_31,c0_31,hrow_31,ho0_31,ho1_31,ho2_31,-⟩:=id hr27
  refine ufR 0 hrow_31 [_,_,_] ?_
  refine sV (ldV 0 isAgg3) (k:=mV (k:=sV (q_len_slice rfl underlying77) (k:=sV q_neq (k:=mV (k:=vG0 (h:=λhg32=>q_move (v:=.func (.func 69) #[] #[]) rfl (by kernel_rfl)) (k:=vG0 (h:=λhg33=>ldaV 2 (Rec.cs A28 c29 o7.2) isAgg45 sizeOf45) (k:=?_)))))))
  obtain⟨z35,hz36,h⟩:=bnd h
  refine vC0 (h:=λhg34=>q_call (call_run_fv (caps:=#[]) (args:=#[.agg (Rec.cs A28 c29 o7.2).toArray]) call69 rfl (grV hg34) ((congrArg (· ++ #[]) (args1 (grV hg34))).trans (by kernel_rfl))) (λw hw=>t_code_RightRec (Γ:=Gh.all w) o7.2 (Rec.fits_mono hr30 hw.sat.le_all) (Sat.all w) (gc_of hz36 hg34))) (k:=vG0 (h:=λhg37=>q_not rfl (grV hg37)) (k:=sV pkO (k:=aa ?_)))
  refine ciV h (λhb38 h=>?_) (λhb38 h=>?_)
  ·
   refine ah ?_
   refine sV (q_build (v:=.agg #[]) rfl (λw=>by kernel_rfl)) (k:=sV (q_iface rfl rfl (λw=>mkif underlying192 w)) (k:=?_))
   refine e_panic (v:=.iface 192 (.agg #[])) rfl (run_panicop rfl rfl) ?_
   change ∀w,CC F Γ22 [[(g3,.cells #[.slice A0_31 o7.1.b.length c0_31,ii o7.1.at_] 194 (0,0))],[(g2,.cells #[ii 0] 28 (0,0))],[(g1,.cells (Rec.cs A28 c29 o7.2).toArray 45 (0,0))]] w→_
   obtain⟨z41,hz42,h⟩:=bnd h
   refine door_panic (rs:=[.cell 6 45,.cell 7 28]) (is:=[2,1]) results93 (invoke_fn call125) rfl rfl (λw hp=>t_code_whole_api_Rec_1 o7.2.key hr30.1 hr30.2.2 hr30.2.1 0 iV hp hz42) ?_
   rintro Γ43 _ _ hl44 ⟨A48,c49,rfl,rfl,hr47,hc51,hr50,hr52,_⟩
   change WRt _ _ _ (CC F Γ43 [_,_,_]) _
   unfold WRt
   intro w hw
   cases h
   subst hF
   exact⟨[.agg #[.string z41.1,.slice A48 z41.2.1.length c49],ii z41.2.2],(rr_agg (i:=0) (us:=[.string z41.1,.slice A48 z41.2.1.length c49]) hw rfl isAgg45 sizeOf45 (by kernel_rfl) rfl (rr_cell (i:=1) hw rfl isAgg28 (by kernel_rfl) rfl rr_nil)),end_e (is:=[]) (by kernel_rfl) hw rfl ⟨A48,c49,rfl,rfl,⟨hr47,⟨hc51,hr50⟩⟩,hr52,trivial⟩⟩
  refine ag ?_
  intro w hw
  have hw:=hw.fold (is:=[0]) rfl hrow_31
  exact⟨h,slK,hw,trivial⟩
 rintro σ w ⟨h,hsl,hw,-⟩
 refine slV hsl hw [_,_,_] ?_; clear hw hsl
 refine ab (sV (ldaV 2 (Rec.cs A28 c29 o7.2) isAgg45 sizeOf45) (k:=stV 2 (.agg (Rec.cs A28 c29 o7.2).toArray) (Rec.cs A28 c29 o7.2).toArray sizeOf45 (k:=stV 1 (ii 0) #[ii 0] sizeOf28 (k:=aa ?_))))
 refine af ?_
 refine door_ret (rs:=[.cell 6 45,.cell 7 28]) results93 (invoke_fn call125) (idle_125 ((pq g1)) ((pq g2))) ?_
 unfold WRt
 intro w hw
 cases h
 subst hF
 exact⟨[.agg (Rec.cs A28 c29 o7.2).toArray,ii 0],(rr_agg (i:=2) (us:=(Rec.cs A28 c29 o7.2)) hw rfl isAgg45 sizeOf45 (by kernel_rfl) rfl (rr_cell (i:=1) hw rfl isAgg28 (by kernel_rfl) rfl rr_nil)),end_e (is:=[]) (by kernel_rfl) hw rfl ⟨A28,c29,rfl,rfl,hr30,iV,trivial⟩⟩
abbrev r_code_Rec(r:Rec×Int)(U:List Rowb)(Γ:Gh)(v:Value):Prop := ∃(A0_1:Option Addr), ∃(c0_1:Nat),v = .tuple #[.agg #[.string r.1.key,.slice A0_1 r.1.vers.length c0_1],.int .i64 r.2]∧U = []∧Rec.fits Γ A0_1 c0_1 r.1∧I64 r.2∧True
theorem t_code_Rec{Ab:Option Addr}{cb:Nat}{b:List UInt8}(hb:Sl byteT Γ Ab b)(hbc:b.length≤cb)(hp:Pre [] Γ w0){r:Rec×Int}(h:m_code_Rec b=some r):Calls Tryz.prog 54 #[.slice Ab b.length cb] w0 (Outc Γ [] w0 (r_code_Rec r)):=by
 refine calls_of_r (N:=8) (rs:=[.cell 2 45,.tmp 3]) (args:=[.slice Ab b.length cb]) func54 rfl ntmps54 results54 rfl ?_
 obtain⟨F,hF⟩:∃F:Fm,F=⟨ids [],w0,Γ⟩:=⟨_,rfl⟩
 refine aw (C:=CC F Γ []) ?_ (hF▸hp.start)
 refine ab ?_
 refine alV zeroValue45 λg1=>?_
 refine aV (k:=aa (ab (mV (k:=?_))))
 obtain⟨z2,hz3,h⟩:=bnd h
 refine ecV [] (caV call93) (λw hp=>t_code_whole_api_Rec hb hbc hp hz3) ?_
 rintro Γ4 _ _ hl5 ⟨A8,c9,rfl,rfl,hr10,hr11,_⟩
 refine cwV 5 [_] (sV exV (k:=sV exV (k:=stV 0 (.agg (Rec.cs A8 c9 z2.1).toArray) (Rec.cs A8 c9 z2.1).toArray sizeOf45 (k:=aV (k:=aa ?_)))))
 refine af ?_
 intro w hw
 cases h
 subst hF
 exact⟨[.agg (Rec.cs A8 c9 z2.1).toArray,ii z2.2],(rr_agg (i:=0) (us:=(Rec.cs A8 c9 z2.1)) hw rfl isAgg45 sizeOf45 (by kernel_rfl) rfl (rr_tmp (by kernel_rfl) rr_nil)),end_e (is:=[]) (by kernel_rfl) hw rfl ⟨A8,c9,rfl,rfl,hr10,hr11,trivial⟩⟩
abbrev r_code_Rec_l0(r:Rec×Int)(U:List Rowb)(Γ:Gh)(v:Value):Prop := ∃(A0_1:Option Addr), ∃(c0_1:Nat),v = .tuple #[.agg #[.string r.1.key,.slice A0_1 r.1.vers.length c0_1],.int .i64 r.2]∧U = []∧Rec.fits Γ A0_1 c0_1 r.1∧I64 r.2∧True
theorem t_code_Rec_l0{B:Gh}{Ab:Option Addr}{cb:Nat}{b:List UInt8}(hb:Sl byteT B Ab b)(hbc:b.length≤cb)(hp:Pre [] Γ w0)(hpB:Pre [] B w0){r:Rec×Int}(h:m_code_Rec b=some r):Calls Tryz.prog 54 #[.slice Ab b.length cb] w0 (Outc Γ [] w0 (r_code_Rec_l0 r)):=by
 refine calls_of_r (N:=8) (rs:=[.cell 2 45,.tmp 3]) (args:=[.slice Ab b.length cb]) func54 rfl ntmps54 results54 rfl ?_
 obtain⟨F,hF⟩:∃F:Fm,F=⟨ids [],w0,Γ⟩:=⟨_,rfl⟩
 refine aw (C:=CC F Γ []) ?_ (hF▸hp.start)
 have hB:Lent F B:=hF▸Lent.start hpB
 refine ab ?_
 refine alV zeroValue45 λg1=>?_
 refine aV (k:=aa (ab (mV (k:=?_))))
 obtain⟨z2,hz3,h⟩:=bnd h
 refine e_callB (is:=[]) hB rfl rfl (caV call93) rfl (λw Θ hp hpB hle hleB hR=>t_code_whole_api_Rec_l1 (hb.mono hleB) hbc hp hpB hz3) ?_
 rintro Γ4 _ _ hl5 ⟨A8,c9,rfl,rfl,hr10,hr11,_⟩
 refine cwV 5 [_] (sV exV (k:=sV exV (k:=stV 0 (.agg (Rec.cs A8 c9 z2.1).toArray) (Rec.cs A8 c9 z2.1).toArray sizeOf45 (k:=aV (k:=aa ?_)))))
 refine af ?_
 intro w hw
 cases h
 subst hF
 exact⟨[.agg (Rec.cs A8 c9 z2.1).toArray,ii z2.2],(rr_agg (i:=0) (us:=(Rec.cs A8 c9 z2.1)) hw rfl isAgg45 sizeOf45 (by kernel_rfl) rfl (rr_tmp (by kernel_rfl) rr_nil)),end_e (is:=[]) (by kernel_rfl) hw rfl ⟨A8,c9,rfl,rfl,hr10,hr11,trivial⟩⟩
abbrev r_store_Store_lay(gs_:Nat)(es_:Nat×Nat)(r:Ostore_Store)(U:List Rowb)(Γ:Gh)(v:Value):Prop := ∃(rows_':Rowb),v = .tuple #[]∧U = [rows_']∧Ostore_Store.ob es_ Γ gs_ rows_' r∧True
theorem t_store_Store_lay{gs_:Nat}{es_:Nat×Nat}{rows_:Rowb}{s_:Ostore_Store}(hs_:Ostore_Store.ob es_ Γ gs_ rows_ s_){Ar_1:Option Addr}{cr_1:Nat}(r_:Rec)(hr_:Rec.fits Γ Ar_1 cr_1 r_){Ab:Option Addr}{cb:Nat}{b:List UInt8}(hb:Sl byteT Γ Ab b)(hbc:b.length≤cb)(hp:Pre [rows_] Γ w0){r:Ostore_Store}(h:m_store_Store_lay s_ r_ b=some r):Calls Tryz.prog 55 #[(pq gs_),.agg (Rec.cs Ar_1 cr_1 r_).toArray,.slice Ab b.length cb] w0 (Outc Γ [rows_] w0 (r_store_Store_lay gs_ es_ r)):=by
 refine goV [] func55 ntmps55 results55 hp λF hF=>?_
 refine ab ?_
 refine bxV (v:=.agg (Rec.cs Ar_1 cr_1 r_).toArray) λg1=>?_
 refine aa (ac ?_)
 refine leV λh02=>?_
 refine held_ (CC F Γ [[(g1,.cells (Rec.cs Ar_1 cr_1 r_).toArray 45 (0,0))]]) (bo_ [0] gR h02) λk=>?_
 change WH _ _ _ _ (CC F Γ [_,_]) _ 7 _ _
 refine hV 0 k (q:=moV) (k:=hV 1 k (q:=nlV) (k:=hV 2 k (q:=q_fl 1 fld_107_1) (k:=hV 4 k (q:=q_fl 0 fld_45_0) (k:=hV 5 k (q:=ldV 0 isAgg9) (k:=wl_ 3 rfl ?_)))))
 obtain⟨g0_3,r0_3,m1_3,r1_3,hrow_3,ho0_3,ho1_3,-⟩:=id hs_
 refine ufR 1 hrow_3 [_,_,_,_] ?_
 refine sV (ldV 0 isAgg63) (k:=?_)
 refine ae (nxV (bo_ [3] gR h02) λk=>?_)
 refine wl_ 6 rfl ?_
 refine e_delete (i:=2) (x:=r_.key) rfl ho1_3 rfl rfl rfl underlying63 rfl rfl ?_
 intro row4 hm5
 refine ae (nxV (bo_ [3] gR h02) λk=>?_)
 refine am (by kernel_rfl) ?_
 change WC _ _ _ _ _ _
 refine ab (sV (q_fl 1 fld_45_1) (k:=sV (ldV 3 isAgg43) (k:=sV (q_len_slice rfl underlying43) (k:=sV q_gtr (k:=aa ?_)))))
 refine ciV h (λhb6 h=>?_) (λhb6 h=>?_)
 ·
  refine leV λh07=>?_
  refine held_ (CC F Γ [[(gs_,.cells #[(pq g0_3),.map (some m1_3)] es_.1 (0,0))],[(g1,.cells (Rec.cs Ar_1 cr_1 r_).toArray 45 (0,0))]]) (bo_ [0,2] gR h07) λk=>?_
  change WH _ _ _ _ (CC F Γ [_,_,_,_]) _ 8 _ _
  refine hV 0 k (q:=moV) (k:=hV 1 k (q:=nlV) (k:=hV 2 k (q:=q_fl 1 fld_107_1) (k:=hV 3 k (q:=ldV 0 isAgg63) (k:=hV 4 k (q:=q_fl 0 fld_45_0) (k:=hV 5 k (q:=ldV 1 isAgg9) (k:=hV 6 k (q:=moV) (k:=wl_ 7 rfl ?_)))))))
  refine e_mapUpdate (i:=2) (x:=r_.key) (v:=.slice Ab b.length cb) (a:=b) rfl rfl rfl underlying63 rfl rfl (by kernel_rfl) rfl hm5 (by exact⟨Ab,cb,rfl,hbc,hb⟩) hr_.1 ?_
  intro row8 hm9
  refine ae (nxV (bo_ [0,2] gR h07) λk=>?_)
  refine am (by kernel_rfl) ?_
  intro w hw
  obtain⟨row_10,hrow_10,hob_10⟩:∃rw:Rowb,rw=([[(gs_,.cells #[(pq g0_3),.map (some m1_3)] es_.1 (0,0))],r0_3,row8]:List Rowb).flatten∧Ostore_Store.ob es_ Γ gs_ rw (⟨s_.log,(mput r_.key b (mdel r_.key s_.keys))⟩:Ostore_Store):=⟨_,rfl,g0_3,r0_3,m1_3,row8,rfl,ho0_3,hm9,trivial⟩
  have hw:=hw.fold (is:=[0,0,0]) rfl hrow_10
  cases h
  subst hF
  exact end_e (is:=[0]) (by kernel_rfl) hw rfl ⟨row_10,rfl,rfl,hob_10,trivial⟩
 refine ag ?_
 intro w hw
 obtain⟨row_11,hrow_11,hob_11⟩:∃rw:Rowb,rw=([[(gs_,.cells #[(pq g0_3),.map (some m1_3)] es_.1 (0,0))],r0_3,row4]:List Rowb).flatten∧Ostore_Store.ob es_ Γ gs_ rw (⟨s_.log,(mdel r_.key s_.keys)⟩:Ostore_Store):=⟨_,rfl,g0_3,r0_3,m1_3,row4,rfl,ho0_3,hm5,trivial⟩
 have hw:=hw.fold (is:=[0,0,0]) rfl hrow_11
 cases h
 subst hF
 exact end_e (is:=[0]) (by kernel_rfl) hw rfl ⟨row_11,rfl,rfl,hob_11,trivial⟩
abbrev r_store_Open(gd:Nat)(ed:Nat)(r:Odisk_Disk×(Option Ostore_Store)×Int)(U:List Rowb)(Γ:Gh)(v:Value):Prop := ∃(rowd':Rowb), ∃(g0:Nat), ∃(row0:Rowb),v = .tuple #[optp r.2.1 g0,.int .i64 r.2.2]∧U = [rowd',row0]∧Odisk_Disk.ob ed Γ gd rowd' r.1∧optob (Ostore_Store.ob (107,gd) Γ g0) row0 r.2.1∧I64 r.2.2∧True
theorem t_store_Open{gd ed:Nat}{rowd:Rowb}{d:Odisk_Disk}(hd:Odisk_Disk.ob ed Γ gd rowd d)(name:ByteArray)(hname:name.size≤lim)(size:Int)(hsize:I64 size)(hp:Pre [rowd] Γ w0){r:Odisk_Disk×(Option Ostore_Store)×Int}(h:m_store_Open d name size=some r):Calls Tryz.prog 30 #[(pq gd),.string name,ii size] w0 (Outc Γ [rowd] w0 (r_store_Open gd ed r)):=by
 refine goV [6,7] func30 ntmps30 results30 hp λF hF=>?_
 refine ab (aV (k:=aV (k:=aa (ab (mV (k:=mV (k:=mV (k:=?_))))))))
 obtain⟨z1,hz2,h⟩:=bnd h
 refine ecV [0] (caV call53) (λw hp=>t_seglog_Open hd name hname size hsize hp hz2) ?_
 rintro Γ3 _ _ hl4 ⟨row7,g9,row10,A12,c13,row14,rfl,rfl,hr8,hr11,hr15,hr16,_⟩
 refine cwV 20 [_,_,_] (mV (k:=sV exV (k:=sV exV (k:=sV exV (k:=aU (v:=optp z1.2.1 g9) (k:=aV (k:=aV (k:=?_))))))))
 refine aa (ac (ab (mV (k:=sV q_neq (k:=aa ?_)))))
 refine ciV h (λhb17 h=>?_) (λhb17 h=>?_)
 ·
  refine ab (mV (k:=aV (k:=aV (k:=aa ?_))))
  refine af ?_
  intro w hw
  have hw:=hw.pad
  exact re_ r [1,0] h hF hw ⟨row7,0,[],rfl,rfl,hr8,rfl,hr16,trivial⟩
 refine ag (wc_ (ab (mU (v:=optp z1.2.1 g9) (k:=?_))))
 refine e_makeMap (strK underlying9) (slT byteT).v rfl rfl rfl rfl ?_
 intro g18 row19 hm20
 obtain⟨z21,hz22,h⟩:=bnd h
 have ho23:=optob_some hr11 hz22
 refine sV (q_build' (v:=.agg #[(pq g9),.map (some g18)]) rfl (bargs2 (optp_some rfl hz22) rfl) (λw=>by kernel_rfl)) (k:=?_)
 refine bxV (v:=.agg #[(pq g9),.map (some g18)]) λg24=>?_
 refine aV (k:=aa (ac (ab (mV (k:=sV (q_len_slice rfl underlying103) (k:=mV (k:=aa ?_)))))))
 refine ai ?_
 obtain⟨row_25,hrow_25,hob_25⟩:∃rw:Rowb,rw=([[(g24,.cells #[(pq g9),.map (some g18)] 107 (0,0))],row10,row19]:List Rowb).flatten∧Ostore_Store.ob (107,gd) Γ3 g24 rw (⟨z21,([]:List (ByteArray×(List UInt8)))⟩:Ostore_Store):=⟨_,rfl,g9,row10,g18,row19,rfl,ho23,hm20,trivial⟩
 refine foC [0,2,0] hrow_25 [_,_,_] ?_
 refine al h (λ(i32:Nat) (o28:Ostore_Store) σ w => ∃(Γ26:Gh), ∃(row29:Rowb),slots σ [(11,(pq g24)),(31,.slice A12 z1.2.2.1.length c13),(32,ii (z1.2.2.1.length:Int)),(33,ii (i32:Int))]∧CC F Γ26 [row29,row7,row14] w∧Gh.le Γ3 Γ26∧Ostore_Store.ob (107,gd) Γ26 g24 row29 o28∧True) ?_ ?_
 ·
  intro w hw
  exact⟨Γ3,row_25,slK,hw,gR,hob_25,trivial⟩
 rintro f31 i32 o28 σ w hi33 hlt34 hge35 ⟨Γ26,row29,hsl,hw,hl27,ho30,-⟩
 refine slV hsl hw [_,_,_] ?_; clear hw hsl
 refine ab (sV q_lss (k:=aa (ac ?_)))
 refine coV (λhb36=>?_) (λhb36=>?_)
 ·
  have hl37:=ilt hb36
  have h:=hlt34 hl37
  refine ag (wc_ (ac (ai (ab (sV (q_ixn (i:=i32) underlying103 sizeOf77 rfl rfl rfl hl37 ((hr15.mono hl27).some_ hl37)) (k:=?_))))))
  obtain⟨A38,c39,hx40⟩:=(hr15.mono hl27).slT_at i32
  refine sV (q_ldo (c:=0) (v:=.slice A38 (gt z1.2.2.1 i32).length c39) (i:=2) rfl (hx40 hl37).2 rfl isAgg77 rfl rfl) (k:=aV (k:=aa (ab (mV (k:=?_)))))
  obtain⟨z41,hz42,h⟩:=bnd h
  refine e_callB (is:=[]) (Lent.nil F) rfl rfl (caV call54) rfl (λw Θ hp hpB hle hleB hR=>t_code_Rec_l0 ((hx40 hl37).1.2.mono hle) (hx40 hl37).1.1 hp hpB hz42) ?_
  rintro Γ43 _ _ hl44 ⟨A47,c48,rfl,rfl,hr49,hr50,_⟩
  refine cwV 39 [_,_,_] (mV (k:=sV exV (k:=sV exV (k:=?_))))
  refine alV zeroValue45 λg51=>?_
  refine stV 0 (.agg (Rec.cs A47 c48 z41.1).toArray) (Rec.cs A47 c48 z41.1).toArray sizeOf45 (k:=aV (k:=aa (ac (ab (mV (k:=sV q_neq (k:=aa ?_)))))))
  refine ciV h (λhb52 h=>?_) (λhb52 h=>?_)
  ·
   refine ab (mV (k:=aV (k:=aV (k:=aa ?_))))
   refine af ?_
   intro w hw
   have hw:=hw.pad
   exact re_ r [3,0] h hF hw ⟨row7,0,[],rfl,rfl,(hr8.mono (hl27.trans hl44)),rfl,hr50,trivial⟩
  refine ag (wc_ ?_)
  refine ah ?_
  refine mV (k:=sV (ldaV 0 (Rec.cs A47 c48 z41.1) isAgg45 sizeOf45) (k:=mV (k:=?_)))
  obtain⟨z53,hz54,h⟩:=bnd h
  refine ecV [1] (caV call55) (λw hp=>t_store_Store_lay (ho30.mono hl44) z41.1 hr49 ((hx40 hl37).1.2.mono hl44) (hx40 hl37).1.1 hp hz54) ?_
  rintro Γ55 _ _ hl56 ⟨row59,rfl,rfl,hr60,_⟩
  refine cwV 48 [_,_,_,_] ?_
  refine ae ?_
  change WC _ _ _ _ _ _
  refine ah ?_
  refine sV (q_add_r rfl rfl rfl (ctr_len hl37 (hr15.mono hl27).le)) (k:=mV (k:=?_))
  exact ae λw hw=>⟨hl37,z53,h,Γ55,row59,slK,(hw.on [0,1,1]),((hl27.trans hl44).trans hl56),hr60,trivial⟩
 have h:=hge35 (ige hb36)
 refine aj ?_
 change WC _ _ _ _ _ _
 refine ab (mV (k:=aV (k:=aV (k:=aa ?_))))
 exact af λw hw=>re_ r [1,0] h hF hw ⟨row7,g24,row29,rfl,rfl,(hr8.mono hl27),ho30,iV,trivial⟩
abbrev r_node_Open(gd:Nat)(ed:Nat)(r:Odisk_Disk×(Option Onode_Node)×Int)(U:List Rowb)(Γ:Gh)(v:Value):Prop := ∃(rowd':Rowb), ∃(g0:Nat), ∃(row0:Rowb),v = .tuple #[optp r.2.1 g0,.int .i64 r.2.2]∧U = [rowd',row0]∧Odisk_Disk.ob ed Γ gd rowd' r.1∧optob (Onode_Node.ob (74,gd) Γ g0) row0 r.2.1∧I64 r.2.2∧True
theorem t_node_Open{gd ed:Nat}{rowd:Rowb}{d:Odisk_Disk}(hd:Odisk_Disk.ob ed Γ gd rowd d)(self:Adr)(hself:Adr.fits Γ  self)(size:Int)(hsize:I64 size)(life:Int)(hlife:I64 life)(hp:Pre [rowd] Γ w0){r:Odisk_Disk×(Option Onode_Node)×Int}(h:m_node_Open d self size life=some r):Calls Tryz.prog 10 #[(pq gd),.agg (Adr.cs self).toArray,ii size,ii life] w0 (Outc Γ [rowd] w0 (r_node_Open gd ed r)):=by
 refine goV [8,9] func10 ntmps10 results10 hp λF hF=>?_
 refine ab ?_
 refine bxV (v:=.agg (Adr.cs self).toArray) λg1=>?_
 refine aV (k:=aV (k:=aa (ac (ab (mV (k:=sV q_lss (k:=mV (k:=?_))))))))
 refine vG0 (h:=λhg2=>q_fl 0 fld_32_0) (k:=vG0 (h:=λhg3=>ldV 0 isAgg3 (hx:=grV hg3)) (k:=vG0 (h:=λhg4=>q_lss rfl (grV hg4)) (k:=sV pkO (k:=mV (k:=vG0 (h:=λhg5=>q_fl 0 fld_32_0) (k:=vG0 (h:=λhg6=>ldV 0 isAgg3 (hx:=grV hg6)) (k:=vG0 (h:=λhg7=>q_gtr rfl (grV hg7)) (k:=?_))))))))
 refine sV pkO (k:=mV (k:=vG0 (h:=λhg8=>q_fl 1 fld_32_1) (k:=vG0 (h:=λhg9=>ldV 0 isAgg3 (hx:=grV hg9)) (k:=vG0 (h:=λhg10=>q_lss rfl (grV hg10)) (k:=sV pkO (k:=mV (k:=vG0 (h:=λhg11=>q_fl 1 fld_32_1) (k:=?_))))))))
 refine vG0 (h:=λhg12=>ldV 0 isAgg3 (hx:=grV hg12)) (k:=vG0 (h:=λhg13=>q_gtr rfl (grV hg13)) (k:=sV pkO (k:=aa ?_)))
 refine ciV h (λhb14 h=>?_) (λhb14 h=>?_)
 ·
  refine ab (aV (k:=aV (k:=aa ?_)))
  refine af ?_
  intro w hw
  have hw:=hw.pad
  exact re_ r [2,0] h hF hw ⟨rowd,0,[],rfl,rfl,hd,rfl,iV,trivial⟩
 refine ag (wc_ (ab (mV (k:=mV (k:=?_)))))
 obtain⟨z15,hz16,h⟩:=bnd h
 refine ecV [1] (caV call30) (λw hp=>t_store_Open hd (⟨#[100]⟩:ByteArray) (show (⟨#[100]⟩:ByteArray).size≤lim by decide) size hsize hp hz16) ?_
 rintro Γ17 _ _ hl18 ⟨row21,g23,row24,rfl,rfl,hr22,hr25,hr26,_⟩
 refine cwV 39 [_,_,_] (mV (k:=sV exV (k:=sV exV (k:=aU (v:=optp z15.2.1 g23) (k:=aV (k:=aa (ac ?_)))))))
 refine ab (mV (k:=sV q_neq (k:=aa ?_)))
 refine ciV h (λhb27 h=>?_) (λhb27 h=>?_)
 ·
  refine ab (mV (k:=aV (k:=aV (k:=aa ?_))))
  refine af ?_
  intro w hw
  have hw:=hw.pad
  exact re_ r [1,0] h hF hw ⟨row21,0,[],rfl,rfl,hr22,rfl,hr26,trivial⟩
 refine ag (wc_ (ab (mV (k:=mV (k:=sV (ldaV 2 (Adr.cs self) isAgg32 sizeOf32) (k:=mU (v:=optp z15.2.1 g23) (k:=?_)))))))
 refine e_makeMap (intK underlying3) prefV rfl rfl rfl rfl ?_
 intro g28 row29 hm30
 have hm30:=MapJ.new (T:=(Ostore_Store.tob (107,gd))) hm30
 obtain⟨z31,hz32,h⟩:=bnd h
 have ho33:=optob_some hr25 hz32
 refine sV (q_build' (v:=.agg #[ii life,(pq gd),ii self.site,ii self.node,(pq g23),.map (some g28),.map none]) rfl (bargs5 rfl rfl rfl (optp_some rfl hz32) rfl) (λw=>by kernel_rfl)) (k:=?_)
 refine bxV (v:=.agg #[ii life,(pq gd),ii self.site,ii self.node,(pq g23),.map (some g28),.map none]) λg34=>?_
 refine aV (k:=aa (ac (ab (aV (k:=aa (ai ?_))))))
 refine ay h (λ(s:Int×(List (Int×Ostore_Store))×Odisk_Disk) σ w=>match s with | (f_37,m39,o42) => ∃(Γ35:Gh), ∃(row40:Rowb), ∃(row43:Rowb),slots σ [(0,(pq gd)),(2,ii size),(5,(pq g1)),(12,(pq g34)),(13,ii f_37)]∧CC F Γ35 [[(g34,.cells #[ii life,(pq gd),ii self.site,ii self.node,(pq g23),.map (some g28),.map none] 74 (0,0))],row40,row43,row24,[(g1,.cells (Adr.cs self).toArray 32 (0,0))]] w∧Gh.le Γ17 Γ35∧I64 f_37∧MapJ (intK underlying3) (Ostore_Store.tob (107,gd)) Γ35 row40 g28 m39∧Odisk_Disk.ob ed Γ35 gd row43 o42∧True) ?_ ?_
 ·
  intro w hw
  exact⟨Γ17,row29,row21,slK,hw,gR,iV,hm30,hr22,trivial⟩
 rintro f45 ⟨f_37,m39,o42⟩ σ w h ⟨Γ35,row40,row43,hsl,hw,hl36,hr38,ho41,ho44,-⟩
 refine slV hsl hw [_,_,_,_,_] ?_; clear hw hsl
 refine ac (ab (mV (k:=sV q_leq (k:=aa ?_))))
 refine ciV h (λhb49 h=>?_) (λhb49 h=>?_)
 ·
  refine ag (wc_ ?_)
  refine ar (λσ w => ∃(m52:List (Int×Ostore_Store)), ∃(o55:Odisk_Disk), ∃(Γ50:Gh), ∃(row53:Rowb), ∃(row56:Rowb),m_node_Open_j4 f_37 f45 m52 o55=some r∧slots σ [(0,(pq gd)),(2,ii size),(5,(pq g1)),(12,(pq g34)),(13,ii f_37)]∧CC F Γ50 [[(g34,.cells #[ii life,(pq gd),ii self.site,ii self.node,(pq g23),.map (some g28),.map none] 74 (0,0))],row53,row56,row24,[(g1,.cells (Adr.cs self).toArray 32 (0,0))]] w∧Gh.le Γ35 Γ50∧MapJ (intK underlying3) (Ostore_Store.tob (107,gd)) Γ50 row53 g28 m52∧Odisk_Disk.ob ed Γ50 gd row56 o55∧True) ?_ ?_
  ·
   refine ai (ac (ab (mV (k:=sV (q_fl 1 fld_32_1) (k:=sV (ldV 4 isAgg3) (k:=sV q_eql (k:=aa ?_)))))))
   refine ciV h (λhb58 h=>?_) (λhb58 h=>?_)
   ·
    exact aj λw hw=>⟨m39,o42,Γ35,row40,row43,h,slK,hw,gR,ho41,ho44,trivial⟩
   refine ag (wc_ (ac ?_))
   refine leV λh059=>?_
   refine held_ (CC F Γ35 [[(g34,.cells #[ii life,(pq gd),ii self.site,ii self.node,(pq g23),.map (some g28),.map none] 74 (0,0))],[(g1,.cells (Adr.cs self).toArray 32 (0,0))]]) (bo_ [0,3] gR h059) λk=>?_
   change WH _ _ _ _ (CC F Γ35 [_,_,_,_,_]) _ 16 _ _
   refine hV 0 k (q:=moV) (k:=hV 1 k (q:=nlV) (k:=hV 2 k (q:=q_fl 5 fld_74_4) (k:=hV 3 k (q:=ldV 0 isAgg71) (k:=hV 4 k (q:=moV) (k:=hV 5 k (q:=moV) (k:=hV 6 k (q:=moV) (k:=hV 9 k (q:=moV) (k:=?_))))))))
   refine wl_ 7 rfl ?_
   obtain⟨z60,hz61,h⟩:=bnd h
   refine vqV (caV call31) (λw hw=>t_num_Digits (Γ:=Gh.all w) f_37 hr38 (Sat.all w) hz61) (k:=?_)
   refine ae (nxV (bo_ [0,3] gR h059) λk=>?_)
   obtain⟨hk62,h⟩:=chk_some h
   refine hV 8 k (q:=q_sadd rfl rfl rfl (show (⟨#[104]⟩:ByteArray).size≤lim by decide) (of_decide_eq_true hk62)) (k:=wl_ 10 rfl ?_)
   obtain⟨hk63,h⟩:=chk_some h
   obtain⟨z64,hz65,h⟩:=bnd h
   refine ecV [2] (caV call30) (λw hp=>t_store_Open ho44 ((⟨#[104]⟩:ByteArray)++z60) (of_decide_eq_true hk63) size hsize hp hz65) ?_
   rintro Γ66 _ _ hl67 ⟨row70,g72,row73,rfl,rfl,hr71,hr74,hr75,_⟩
   refine cwV 71 [_,_,_,_,_,_] ?_
   refine ae (nxV (bo_ [2,4] hl67 h059) λk=>?_)
   refine hV 11 k (q:=moV) (k:=hV 12 k (q:=exV) (k:=hV 13 k (q:=exV) (k:=wl_ 14 rfl ?_)))
   obtain⟨z76,hz77,h⟩:=bnd h
   have ho78:=optob_some hr74 hz77
   obtain⟨hk79,h⟩:=chk_some h
   refine e_mjput (i:=3) (j:=1) (x:=f_37) rfl (by decide) rfl (ho41.mono hl67) ho78 (not_t hk79) rfl rfl rfl underlying71 rfl rfl (optp_some rfl hz77) hr38 ?_
   intro row80 hm81
   change WR _ _ _ (CC F Γ66 [_,_,_,_,_]) _ _ _
   refine ae (nxV (bo_ [2,3] hl67 h059) λk=>?_)
   refine hV 15 k (q:=aoV) (k:=?_)
   refine am (by kernel_rfl) ?_
   change WC _ _ _ _ _ _
   refine ab (mV (k:=sV q_neq (k:=aa ?_)))
   refine ciV h (λhb82 h=>?_) (λhb82 h=>?_)
   ·
    refine ab (mV (k:=aV (k:=aV (k:=aa ?_))))
    refine af ?_
    intro w hw
    have hw:=hw.pad
    exact re_ r [2,0] h hF hw ⟨row70,0,[],rfl,rfl,hr71,rfl,hr75,trivial⟩
   exact ag λw hw=>⟨(mput f_37 z76 m39),z64.1,Γ66,row80,row70,h,slK,(hw.on [2,0,0,0,0]),hl67,hm81,hr71,trivial⟩
  rintro σ w ⟨m52,o55,Γ50,row53,row56,h,hsl,hw,hl51,ho54,ho57,-⟩
  refine slV hsl hw [_,_,_,_,_] ?_; clear hw hsl
  refine ah ?_
  refine mV (k:=sV q_add (k:=aV (k:=?_)))
  exact ae λw hw=>⟨((w64 (f_37+1)),m52,o55),h,Γ50,row53,row56,slK,hw,(hl36.trans hl51),(w64_r _),ho54,ho57,trivial⟩
 refine aj ?_
 change WC _ _ _ _ _ _
 refine ab (mV (k:=?_))
 refine e_makeMap (intK underlying3) (fnV g34) rfl rfl rfl rfl ?_
 intro g83 row84 hm85
 refine mV (k:=sV (q_mkfn (v:=.func (.func 32) #[(pq g34)] #[]) rfl (by kernel_rfl)) (k:=?_))
 refine WR.insert rfl rfl rfl (λo' hg' hd' ho'=>?_)
 refine e_mapUpdate (i:=0) (x:=1) (v:=.func (.func 32) #[(pq g34)] #[]) (a:=32) hg' hd' ho' underlying72 rfl rfl (by kernel_rfl) rfl hm85 (by exact rfl) iV ?_
 intro row86 hm87
 refine mV (k:=sV (q_mkfn (v:=.func (.func 33) #[(pq g34)] #[]) rfl (by kernel_rfl)) (k:=?_))
 refine WR.insert rfl rfl rfl (λo' hg' hd' ho'=>?_)
 refine e_mapUpdate (i:=0) (x:=2) (v:=.func (.func 33) #[(pq g34)] #[]) (a:=33) hg' hd' ho' underlying72 rfl rfl (by kernel_rfl) rfl hm87 (by exact rfl) iV ?_
 intro row88 hm89
 refine mV (k:=sV (q_mkfn (v:=.func (.func 34) #[(pq g34)] #[]) rfl (by kernel_rfl)) (k:=?_))
 refine WR.insert rfl rfl rfl (λo' hg' hd' ho'=>?_)
 refine e_mapUpdate (i:=0) (x:=4) (v:=.func (.func 34) #[(pq g34)] #[]) (a:=34) hg' hd' ho' underlying72 rfl rfl (by kernel_rfl) rfl hm89 (by exact rfl) iV ?_
 intro row90 hm91
 refine mV (k:=sV (q_mkfn (v:=.func (.func 35) #[(pq g34)] #[]) rfl (by kernel_rfl)) (k:=?_))
 refine WR.insert rfl rfl rfl (λo' hg' hd' ho'=>?_)
 refine e_mapUpdate (i:=0) (x:=6) (v:=.func (.func 35) #[(pq g34)] #[]) (a:=35) hg' hd' ho' underlying72 rfl rfl (by kernel_rfl) rfl hm91 (by exact rfl) iV ?_
 intro row92 hm93
 refine mV (k:=sV (q_mkfn (v:=.func (.func 36) #[(pq g34)] #[]) rfl (by kernel_rfl)) (k:=?_))
 refine WR.insert rfl rfl rfl (λo' hg' hd' ho'=>?_)
 refine e_mapUpdate (i:=0) (x:=8) (v:=.func (.func 36) #[(pq g34)] #[]) (a:=36) hg' hd' ho' underlying72 rfl rfl (by kernel_rfl) rfl hm93 (by exact rfl) iV ?_
 intro row94 hm95
 refine mV (k:=sV (q_mkfn (v:=.func (.func 37) #[(pq g34)] #[]) rfl (by kernel_rfl)) (k:=?_))
 refine WR.insert rfl rfl rfl (λo' hg' hd' ho'=>?_)
 refine e_mapUpdate (i:=0) (x:=9) (v:=.func (.func 37) #[(pq g34)] #[]) (a:=37) hg' hd' ho' underlying72 rfl rfl (by kernel_rfl) rfl hm95 (by exact rfl) iV ?_
 intro row96 hm97
 refine mV (k:=sV (q_mkfn (v:=.func (.func 38) #[(pq g34)] #[]) rfl (by kernel_rfl)) (k:=?_))
 refine WR.insert rfl rfl rfl (λo' hg' hd' ho'=>?_)
 refine e_mapUpdate (i:=0) (x:=17) (v:=.func (.func 38) #[(pq g34)] #[]) (a:=38) hg' hd' ho' underlying72 rfl rfl (by kernel_rfl) rfl hm97 (by exact rfl) iV ?_
 intro row98 hm99
 refine mU (v:=.map (some g83)) (k:=sV nlV (k:=sV (q_fl 6 fld_74_5) (k:=stV 1 (.map (some g83)) #[ii life,(pq gd),ii self.site,ii self.node,(pq g23),.map (some g28),.map (some g83)] sizeOf72 (k:=aa (ab (mV (k:=aV (k:=?_))))))))
 refine aV (k:=aa ?_)
 refine af ?_
 intro w hw
 obtain⟨row_100,hrow_100,hob_100⟩:∃rw:Rowb,rw=([[(g34,.cells #[ii life,(pq gd),ii self.site,ii self.node,(pq g23),.map (some g28),.map (some g83)] 74 (0,0))],row24,row40,row98]:List Rowb).flatten∧Onode_Node.ob (74,gd) Γ35 g34 rw (⟨life,self.site,self.node,z31,m39,(mput 17 38 (mput 9 37 (mput 8 36 (mput 6 35 (mput 4 34 (mput 2 33 (mput 1 32 ([]:List (Int×Nat)))))))))⟩:Onode_Node):=⟨_,rfl,g23,row24,g28,row40,g83,row98,rfl,hlife,hself.1,hself.2,(ho33.mono hl36),ho41,hm99,trivial⟩
 have hw:=hw.fold (is:=[1,3,1,0]) rfl hrow_100
 cases h
 subst hF
 exact end_e (is:=[1,0]) (by kernel_rfl) hw rfl ⟨row43,g34,row_100,rfl,rfl,ho44,hob_100,iV,trivial⟩
abbrev r_firthlaw15_one(r:Rec)(U:List Rowb)(Γ:Gh)(v:Value):Prop := ∃(A0_1:Option Addr), ∃(c0_1:Nat),v = .agg #[.string r.key,.slice A0_1 r.vers.length c0_1]∧U = []∧Rec.fits Γ A0_1 c0_1 r∧True
theorem t_firthlaw15_one(key:ByteArray)(hkey:key.size≤lim)(s_:Int)(hs_:I64 s_)(n:Int)(hn:I64 n)(hp:Pre [] Γ w0){r:Rec}(h:m_firthlaw15_one key s_ n=some r):Calls Tryz.prog 26 #[.string key,ii s_,ii n] w0 (Outc Γ [] w0 (r_firthlaw15_one r)):=by
 refine calls_of_r (N:=14) (rs:=[.cell 6 45]) (args:=[.string key,ii s_,ii n]) func26 rfl ntmps26 results26 rfl ?_
 obtain⟨F,hF⟩:∃F:Fm,F=⟨ids [],w0,Γ⟩:=⟨_,rfl⟩
 refine aw (C:=CC F Γ []) ?_ (hF▸hp.start)
 refine ab ?_
 refine alV zeroValue45 λg1=>?_
 refine aa (ab (mV (k:=mV (k:=mV (k:=sV (q_build' (v:=.agg #[ii s_,ii n]) rfl (bargs2 rfl rfl) (λw=>by kernel_rfl)) (k:=sV (q_build' (v:=.agg #[ii s_,ii n,.slice none 0 0,.bool false,.string (⟨#[118]⟩:ByteArray)]) rfl (bargs2 rfl rfl) (λw=>by kernel_rfl)) (k:=?_)))))))
 refine bsV #[ii s_,ii n,.slice none 0 0,.bool false,.string (⟨#[118]⟩:ByteArray)] 89 λg2=>?_
 refine sV (q_build' (v:=.agg #[.string key,.slice (some ⟨g2,0,none⟩) 1 1]) rfl (bargs2 rfl rfl) (λw=>by kernel_rfl)) (k:=stV 1 (.agg #[.string key,.slice (some ⟨g2,0,none⟩) 1 1]) #[.string key,.slice (some ⟨g2,0,none⟩) 1 1] sizeOf45 (k:=aa ?_))
 refine af ?_
 intro w hw
 have ho3:Own verT Γ 89 [(g2,.cells #[ii s_,ii n,.slice none 0 0,.bool false,.string (⟨#[118]⟩:ByteArray)] 89 (0,0))] (some ⟨g2,0,none⟩) 1 [(⟨(⟨s_,n⟩:Dot),[],false,(⟨#[118]⟩:ByteArray)⟩:Ver)]:=au (T:=verT) (ys:=[(⟨(⟨s_,n⟩:Dot),[],false,(⟨#[118]⟩:ByteArray)⟩:Ver)]) [[ii s_,ii n,.slice none 0 0,.bool false,.string (⟨#[118]⟩:ByteArray)]] rfl (show 1≤lim by decide) ⟨⟨none,0,rfl,⟨hs_,hn,nilV,(show (⟨#[118]⟩:ByteArray).size≤lim by decide)⟩⟩,trivial⟩
 have hc8:=ho3.capz
 obtain⟨Γ4,hw,hl5,hr6⟩:=hw.seal (i:=0) rfl; have hs7:=ho3.sl hl5 hr6
 cases h
 subst hF
 exact⟨[.agg #[.string key,.slice (some ⟨g2,0,none⟩) [(⟨(⟨s_,n⟩:Dot),[],false,(⟨#[118]⟩:ByteArray)⟩:Ver)].length 1]],(rr_agg (i:=1) (us:=[.string key,.slice (some ⟨g2,0,none⟩) [(⟨(⟨s_,n⟩:Dot),[],false,(⟨#[118]⟩:ByteArray)⟩:Ver)].length 1]) hw rfl isAgg45 sizeOf45 (by kernel_rfl) rfl rr_nil),end_e (is:=[]) (by kernel_rfl) hw rfl ⟨(some ⟨g2,0,none⟩),1,rfl,rfl,⟨hkey,⟨hc8,hs7⟩⟩,trivial⟩⟩
abbrev r_firthlaw15_put(r:Dapi_Msg)(U:List Rowb)(Γ:Gh)(v:Value):Prop := ∃(A0_10:Option Addr), ∃(c0_10:Nat), ∃(A0_11:Option Addr), ∃(c0_11:Nat), ∃(A0_12:Option Addr), ∃(c0_12:Nat), ∃(A0_13:Option Addr), ∃(c0_13:Nat), ∃(A0_14:Option Addr), ∃(c0_14:Nat),v = .agg #[.int .i64 r.kind,.int .i64 r.from_.site,.int .i64 r.from_.node,.int .i64 r.to_.site,.int .i64 r.to_.node,.int .i64 r.id,.int .i64 r.n,.int .i64 r.for_,.int .i64 r.code,.string r.key,.slice A0_10 r.recs.length c0_10,.slice A0_11 r.vec.length c0_11,.slice A0_12 r.path.length c0_12,.slice A0_13 r.hashes.length c0_13,.slice A0_14 r.route.length c0_14]∧U = []∧Dapi_Msg.fits Γ A0_10 c0_10 A0_11 c0_11 A0_12 c0_12 A0_13 c0_13 A0_14 c0_14 r∧True
theorem t_firthlaw15_put(to_:Int)(hto_:I64 to_){Ar_:Option Addr}{cr_:Nat}{r_:List Rec}(hr_:Sl recT Γ Ar_ r_)(hr_c:r_.length≤cr_)(hp:Pre [] Γ w0){r:Dapi_Msg}(h:m_firthlaw15_put to_ r_=some r):Calls Tryz.prog 14 #[ii to_,.slice Ar_ r_.length cr_] w0 (Outc Γ [] w0 (r_firthlaw15_put r)):=by
 refine calls_of_r (N:=10) (rs:=[.cell 4 40]) (args:=[ii to_,.slice Ar_ r_.length cr_]) func14 rfl ntmps14 results14 rfl ?_
 obtain⟨F,hF⟩:∃F:Fm,F=⟨ids [],w0,Γ⟩:=⟨_,rfl⟩
 refine aw (C:=CC F Γ []) ?_ (hF▸hp.start)
 refine ab ?_
 refine alV zeroValue40 λg1=>?_
 refine aa (ab ?_)
 obtain⟨z2,hz3,h⟩:=bnd h
 refine vqV (caV call11) (λw hw=>t_firthlaw15_at (Γ:=Gh.all w) 0 iV (Sat.all w) hz3) (k:=mV (k:=?_))
 obtain⟨z4,hz5,h⟩:=bnd h
 refine vqV (caV call11) (λw hw=>t_firthlaw15_at (Γ:=Gh.all w) to_ hto_ (Sat.all w) hz5) (k:=mV (k:=sV (q_build' (v:=.agg #[ii 1,ii z2.site,ii z2.node,ii z4.site,ii z4.node,ii 5,ii 0,ii 0,ii 0,.string ByteArray.empty,.slice Ar_ r_.length cr_,.slice none 0 0,.slice none 0 0,.slice none 0 0,.slice none 0 0]) rfl (bargs5 rfl rfl rfl rfl rfl) (λw=>by kernel_rfl)) (k:=stV 0 (.agg #[ii 1,ii z2.site,ii z2.node,ii z4.site,ii z4.node,ii 5,ii 0,ii 0,ii 0,.string ByteArray.empty,.slice Ar_ r_.length cr_,.slice none 0 0,.slice none 0 0,.slice none 0 0,.slice none 0 0]) #[ii 1,ii z2.site,ii z2.node,ii z4.site,ii z4.node,ii 5,ii 0,ii 0,ii 0,.string ByteArray.empty,.slice Ar_ r_.length cr_,.slice none 0 0,.slice none 0 0,.slice none 0 0,.slice none 0 0] sizeOf40 (k:=aa ?_))))
 refine af ?_
 intro w hw
 obtain⟨hk6,h⟩:=chk_some h
 obtain⟨hk7,h⟩:=chk_some h
 obtain⟨hk8,h⟩:=chk_some h
 obtain⟨hk9,h⟩:=chk_some h
 cases h
 subst hF
 exact⟨[.agg #[ii 1,ii z2.site,ii z2.node,ii z4.site,ii z4.node,ii 5,ii 0,ii 0,ii 0,.string ByteArray.empty,.slice Ar_ r_.length cr_,.slice none 0 0,.slice none 0 0,.slice none 0 0,.slice none 0 0]],(rr_agg (i:=0) (us:=[ii 1,ii z2.site,ii z2.node,ii z4.site,ii z4.node,ii 5,ii 0,ii 0,ii 0,.string ByteArray.empty,.slice Ar_ r_.length cr_,.slice none 0 0,.slice none 0 0,.slice none 0 0,.slice none 0 0]) hw rfl isAgg40 sizeOf40 (by kernel_rfl) rfl rr_nil),end_e (is:=[]) (by kernel_rfl) hw rfl ⟨Ar_,cr_,none,0,none,0,none,0,none,0,rfl,rfl,⟨iV,(i64b_of hk6),(i64b_of hk7),(i64b_of hk8),(i64b_of hk9),iV,iV,iV,iV,(show (ByteArray.empty:ByteArray).size≤lim by decide),⟨hr_c,hr_⟩,nilV,nilV,nilV,nilV⟩,trivial⟩⟩
theorem t_code_place(a:Adr)(ha:Adr.fits Γ  a)(hs:Sat Γ w0){r:Bool}(h:m_code_place a=some r):CQ Tryz.prog 67 #[.agg (Adr.cs a).toArray] w0 (.bool r):=by
 refine goQ [2] func67 ntmps67 results67 hs λF hF=>?_
 refine ab ?_
 refine bxV (v:=.agg (Adr.cs a).toArray) λg1=>?_
 refine aV (k:=aa (ab (sV (q_fl 0 fld_32_0) (k:=sV (ldV 0 isAgg3) (k:=sV q_geq (k:=mV (k:=vG1 (h:=λhg2=>q_fl 0 fld_32_0) (k:=?_))))))))
 refine vG1 (h:=λhg3=>ldV 0 isAgg3 (hx:=grV hg3)) (k:=vG1 (h:=λhg4=>q_leq rfl (grV hg4)) (k:=sV pkA (k:=mV (k:=vG1 (h:=λhg5=>q_fl 1 fld_32_1) (k:=vG1 (h:=λhg6=>ldV 0 isAgg3 (hx:=grV hg6)) (k:=vG1 (h:=λhg7=>q_geq rfl (grV hg7)) (k:=sV pkA (k:=?_))))))))
 refine mV (k:=vG1 (h:=λhg8=>q_fl 1 fld_32_1) (k:=vG1 (h:=λhg9=>ldV 0 isAgg3 (hx:=grV hg9)) (k:=vG1 (h:=λhg10=>q_leq rfl (grV hg10)) (k:=sV pkA (k:=aV (k:=aa ?_))))))
 exact af λw hw=>rq_ r h hF hw
theorem t_code_all_api_Rec{Al:Option Addr}{cl:Nat}{l:List Rec}(hl:Sl recT Γ Al l)(hlc:l.length≤cl)(most:Int)(hmost:I64 most)(hs:Sat Γ w0){r:Bool}(h:m_code_all_api_Rec l most=some r):CQ Tryz.prog 68 #[.slice Al l.length cl,ii most,.func (.func 69) #[] #[]] w0 (.bool r):=by
 refine goQ [6] func68 ntmps68 results68 hs λF hF=>?_
 refine ab (aV (k:=aa (ac (ab (mV (k:=sV (q_len_slice rfl underlying22) (k:=mV (k:=?_))))))))
 refine aa (ai ?_)
 refine al h (λ(i2:Nat) (s:Unit) σ w=>match s with | ()=>slots σ [(0,.slice Al l.length cl),(1,ii most),(2,.func (.func 69) #[] #[]),(9,.slice Al l.length cl),(10,ii (l.length:Int)),(11,ii (i2:Int))]∧CC F Γ [] w∧True) ?_ ?_
 ·
  intro w hw
  exact⟨slK,hw,trivial⟩
 rintro f1 i2 ⟨⟩ σ w hi3 hlt4 hge5 ⟨hsl,hw,-⟩
 refine slV hsl hw [] ?_; clear hw hsl
 refine ab (sV q_lss (k:=aa (ac ?_)))
 refine coV (λhb6=>?_) (λhb6=>?_)
 ·
  have hl7:=ilt hb6
  have h:=hlt4 hl7
  refine ag (wc_ (ac (ai (ab (sV (q_ixn (i:=i2) underlying22 sizeOf45 rfl rfl rfl hl7 (hl.some_ hl7)) (k:=?_))))))
  obtain⟨A8,c9,hx10⟩:=hl.recT_at i2
  refine sV (q_lda (c:=0) (vs:=(Rec.cs A8 c9 (gt l i2))) (hx10 hl7).2 rfl isAgg45 sizeOf45 rfl rfl rfl) (k:=?_)
  refine alV zeroValue45 λg11=>?_
  refine stV 0 (.agg (Rec.cs A8 c9 (gt l i2)).toArray) (Rec.cs A8 c9 (gt l i2)).toArray sizeOf45 (k:=aa (ab (mU (v:=.func (.func 69) #[] #[]) (k:=sV (ldaV 0 (Rec.cs A8 c9 (gt l i2)) isAgg45 sizeOf45) (k:=?_)))))
  obtain⟨z12,hz13,h⟩:=bnd h
  refine vqV (call_run_fv (caps:=#[]) call69 rfl (by kernel_rfl) (by kernel_rfl)) (λw hw=>t_code_RightRec (Γ:=Gh.all w) (gt l i2) (Rec.fits_mono (hx10 hl7).1 hw.sat.le_all) (Sat.all w) hz13) (k:=sV q_not (k:=aa ?_))
  refine ciV h (λhb14 h=>?_) (λhb14 h=>?_)
  ·
   refine ab (aV (k:=aa ?_))
   exact af λw hw=>rq_ r h hF hw
  refine ag (wc_ ?_)
  refine ah ?_
  refine sV (q_add_r rfl rfl rfl (ctr_len hl7 hl.le)) (k:=mV (k:=?_))
  exact ae λw hw=>⟨hl7,(),h,slK,(hw.on []),trivial⟩
 have h:=hge5 (ige hb6)
 refine aj ?_
 change WC _ _ _ _ _ _
 refine ab (mV (k:=sV (q_len_slice rfl underlying22) (k:=mV (k:=sV q_leq (k:=aV (k:=aa ?_))))))
 exact af λw hw=>rq_ r h hF hw
abbrev r_code_between_int64(r:Int×Int)(U:List Rowb)(Γ:Gh)(v:Value):Prop := ∃(g0_0:Nat), ∃(g0_1:Nat),v = .func (.func 112) #[] #[.pointer (some ⟨g0_0,0,none⟩),.pointer (some ⟨g0_1,0,none⟩)]∧U = [[(g0_0,.cells #[.int .i64 r.1] 2 (0,0))],[(g0_1,.cells #[.int .i64 r.2] 2 (0,0))]]∧I64 r.1∧I64 r.2∧True
theorem t_code_between_int64(lo:Int)(hlo:I64 lo)(hi:Int)(hhi:I64 hi)(hp:Pre [] Γ w0){r:Int×Int}(h:m_code_between_int64 lo hi=some r):Calls Tryz.prog 71 #[ii lo,ii hi] w0 (Outc Γ [] w0 (r_code_between_int64 r)):=by
 refine goV [4] func71 ntmps71 results71 hp λF hF=>?_
 refine ab ?_
 refine bxV (v:=ii lo) λg1=>?_
 refine bxV (v:=ii hi) λg2=>?_
 refine aU (v:=.nilFunc) (k:=aa (ab (sV (q_mkfn (v:=.func (.func 112) #[] #[(pq g1),(pq g2)]) rfl (by kernel_rfl)) (k:=aU (v:=.func (.func 112) #[] #[(pq g1),(pq g2)]) (k:=aa ?_)))))
 exact af λw hw=>re_ r [1,0] h hF hw ⟨g1,g2,rfl,rfl,hlo,hhi,trivial⟩
abbrev r_code_between_int(r:Int×Int)(U:List Rowb)(Γ:Gh)(v:Value):Prop := ∃(g0_0:Nat), ∃(g0_1:Nat),v = .func (.func 113) #[] #[.pointer (some ⟨g0_0,0,none⟩),.pointer (some ⟨g0_1,0,none⟩)]∧U = [[(g0_0,.cells #[.int .i64 r.1] 3 (0,0))],[(g0_1,.cells #[.int .i64 r.2] 3 (0,0))]]∧I64 r.1∧I64 r.2∧True
theorem t_code_between_int(lo:Int)(hlo:I64 lo)(hi:Int)(hhi:I64 hi)(hp:Pre [] Γ w0){r:Int×Int}(h:m_code_between_int lo hi=some r):Calls Tryz.prog 73 #[ii lo,ii hi] w0 (Outc Γ [] w0 (r_code_between_int r)):=by
 refine goV [4] func73 ntmps73 results73 hp λF hF=>?_
 refine ab ?_
 refine bxV (v:=ii lo) λg1=>?_
 refine bxV (v:=ii hi) λg2=>?_
 refine aU (v:=.nilFunc) (k:=aa (ab (sV (q_mkfn (v:=.func (.func 113) #[] #[(pq g1),(pq g2)]) rfl (by kernel_rfl)) (k:=aU (v:=.func (.func 113) #[] #[(pq g1),(pq g2)]) (k:=aa ?_)))))
 exact af λw hw=>re_ r [1,0] h hF hw ⟨g1,g2,rfl,rfl,hlo,hhi,trivial⟩
abbrev r_code_between_int64_1(gb0:Nat)(b0v:Int)(gb1:Nat)(b1v:Int)(r:Bool)(U:List Rowb)(Γ:Gh)(v:Value):Prop:=v = .bool r∧U = [[(gb0,.cells #[.int .i64 b0v] 2 (0,0))],[(gb1,.cells #[.int .i64 b1v] 2 (0,0))]]∧True
theorem t_code_between_int64_1(n:Int)(hn:I64 n){gb0:Nat}(b0v:Int)(hb0v:I64 b0v){gb1:Nat}(b1v:Int)(hb1v:I64 b1v)(hp:Pre [[(gb0,.cells #[ii b0v] 2 (0,0))],[(gb1,.cells #[ii b1v] 2 (0,0))]] Γ w0){r:Bool}(h:m_code_between_int64_1 n b0v b1v=some r):Calls Tryz.prog 112 #[ii n,(pq gb0),(pq gb1)] w0 (Outc Γ [[(gb0,.cells #[ii b0v] 2 (0,0))],[(gb1,.cells #[ii b1v] 2 (0,0))]] w0 (r_code_between_int64_1 gb0 b0v gb1 b1v r)):=by
 refine goV [4] func112 ntmps112 results112 hp λF hF=>?_
 refine ab (aV (k:=aa (ab (mV (k:=sV (ldV 0 isAgg2) (k:=sV q_geq (k:=mV (k:=?_))))))))
 refine vG1 (h:=λhg1=>moV) (k:=vG1 (h:=λhg2=>ldV 1 isAgg2) (k:=vG1 (h:=λhg3=>q_leq rfl (grV hg3) (grV hg3)) (k:=sV pkA (k:=aV (k:=aa ?_)))))
 exact af λw hw=>re_ r [0,0] h hF hw ⟨rfl,rfl,trivial⟩
abbrev r_code_all_int64(gok0:Nat)(ok0v:Int)(gok1:Nat)(ok1v:Int)(r:Bool)(U:List Rowb)(Γ:Gh)(v:Value):Prop:=v = .bool r∧U = [[(gok0,.cells #[.int .i64 ok0v] 2 (0,0))],[(gok1,.cells #[.int .i64 ok1v] 2 (0,0))]]∧True
theorem t_code_all_int64{Al:Option Addr}{cl:Nat}{l:List Int}(hl:Sl intT Γ Al l)(hlc:l.length≤cl)(most:Int)(hmost:I64 most){gok0:Nat}(ok0v:Int)(hok0v:I64 ok0v){gok1:Nat}(ok1v:Int)(hok1v:I64 ok1v)(hp:Pre [[(gok0,.cells #[ii ok0v] 2 (0,0))],[(gok1,.cells #[ii ok1v] 2 (0,0))]] Γ w0){r:Bool}(h:m_code_all_int64 l most ok0v ok1v=some r):Calls Tryz.prog 70 #[.slice Al l.length cl,ii most,.func (.func 112) #[] #[(pq gok0),(pq gok1)]] w0 (Outc Γ [[(gok0,.cells #[ii ok0v] 2 (0,0))],[(gok1,.cells #[ii ok1v] 2 (0,0))]] w0 (r_code_all_int64 gok0 ok0v gok1 ok1v r)):=by
 refine goV [6] func70 ntmps70 results70 hp λF hF=>?_
 refine ab (aV (k:=aa (ac (ab (mV (k:=sV (q_len_slice rfl underlying36) (k:=mV (k:=?_))))))))
 refine aa (ai ?_)
 refine al h (λ(i4:Nat) (s:Unit) σ w=>match s with | () => ∃(Γ1:Gh),slots σ [(0,.slice Al l.length cl),(1,ii most),(2,.func (.func 112) #[] #[(pq gok0),(pq gok1)]),(9,.slice Al l.length cl),(10,ii (l.length:Int)),(11,ii (i4:Int))]∧CC F Γ1 [[(gok0,.cells #[ii ok0v] 2 (0,0))],[(gok1,.cells #[ii ok1v] 2 (0,0))]] w∧Gh.le Γ Γ1∧True) ?_ ?_
 ·
  intro w hw
  exact⟨Γ,slK,hw,gR,trivial⟩
 rintro f3 i4 ⟨⟩ σ w hi5 hlt6 hge7 ⟨Γ1,hsl,hw,hl2,-⟩
 refine slV hsl hw [_,_] ?_; clear hw hsl
 refine ab (sV q_lss (k:=aa (ac ?_)))
 refine coV (λhb8=>?_) (λhb8=>?_)
 ·
  have hl9:=ilt hb8
  have h:=hlt6 hl9
  refine ag (wc_ (ac (ai (ab (sV (q_ixn (i:=i4) underlying36 sizeOf2 rfl rfl rfl hl9 ((hl.mono hl2).some_ hl9)) (k:=sV (q_ld (c:=0) (v:=ii (gt l i4)) ((hl.mono hl2).intT_at hl9).2 rfl isAgg2 rfl rfl) (k:=aV (k:=?_))))))))
  refine aa (ab (mU (v:=.func (.func 112) #[] #[(pq gok0),(pq gok1)]) (k:=mV (k:=?_))))
  obtain⟨z10,hz11,h⟩:=bnd h
  refine ecV [0,0] (call_run_fv (caps:=#[(pq gok0),(pq gok1)]) call112 rfl (by kernel_rfl) (by kernel_rfl)) (λw hp=>t_code_between_int64_1 (gt l i4) ((hl.mono hl2).intT_at hl9).1 ok0v hok0v ok1v hok1v hp hz11) ?_
  rintro Γ12 _ _ hl13 ⟨rfl,rfl,_⟩
  refine cwV 17 [_,_] (sV q_not (k:=aa ?_))
  refine ciV h (λhb16 h=>?_) (λhb16 h=>?_)
  ·
   refine ab (aV (k:=aa ?_))
   exact af λw hw=>re_ r [0,0] h hF hw ⟨rfl,rfl,trivial⟩
  refine ag (wc_ ?_)
  refine ah ?_
  refine sV (q_add_r rfl rfl rfl (ctr_len hl9 (hl.mono hl2).le)) (k:=mV (k:=?_))
  exact ae λw hw=>⟨hl9,(),h,Γ12,slK,hw,(hl2.trans hl13),trivial⟩
 have h:=hge7 (ige hb8)
 refine aj ?_
 change WC _ _ _ _ _ _
 refine ab (mV (k:=sV (q_len_slice rfl underlying36) (k:=mV (k:=sV q_leq (k:=aV (k:=aa ?_))))))
 exact af λw hw=>re_ r [0,0] h hF hw ⟨rfl,rfl,trivial⟩
abbrev r_code_between_int_1(gb0:Nat)(b0v:Int)(gb1:Nat)(b1v:Int)(r:Bool)(U:List Rowb)(Γ:Gh)(v:Value):Prop:=v = .bool r∧U = [[(gb0,.cells #[.int .i64 b0v] 3 (0,0))],[(gb1,.cells #[.int .i64 b1v] 3 (0,0))]]∧True
theorem t_code_between_int_1(n:Int)(hn:I64 n){gb0:Nat}(b0v:Int)(hb0v:I64 b0v){gb1:Nat}(b1v:Int)(hb1v:I64 b1v)(hp:Pre [[(gb0,.cells #[ii b0v] 3 (0,0))],[(gb1,.cells #[ii b1v] 3 (0,0))]] Γ w0){r:Bool}(h:m_code_between_int_1 n b0v b1v=some r):Calls Tryz.prog 113 #[ii n,(pq gb0),(pq gb1)] w0 (Outc Γ [[(gb0,.cells #[ii b0v] 3 (0,0))],[(gb1,.cells #[ii b1v] 3 (0,0))]] w0 (r_code_between_int_1 gb0 b0v gb1 b1v r)):=by
 refine goV [4] func113 ntmps113 results113 hp λF hF=>?_
 refine ab (aV (k:=aa (ab (mV (k:=sV (ldV 0 isAgg3) (k:=sV q_geq (k:=mV (k:=?_))))))))
 refine vG1 (h:=λhg1=>moV) (k:=vG1 (h:=λhg2=>ldV 1 isAgg3) (k:=vG1 (h:=λhg3=>q_leq rfl (grV hg3) (grV hg3)) (k:=sV pkA (k:=aV (k:=aa ?_)))))
 exact af λw hw=>re_ r [0,0] h hF hw ⟨rfl,rfl,trivial⟩
abbrev r_code_all_int(gok0:Nat)(ok0v:Int)(gok1:Nat)(ok1v:Int)(r:Bool)(U:List Rowb)(Γ:Gh)(v:Value):Prop:=v = .bool r∧U = [[(gok0,.cells #[.int .i64 ok0v] 3 (0,0))],[(gok1,.cells #[.int .i64 ok1v] 3 (0,0))]]∧True
theorem t_code_all_int{Al:Option Addr}{cl:Nat}{l:List Int}(hl:Sl intT Γ Al l)(hlc:l.length≤cl)(most:Int)(hmost:I64 most){gok0:Nat}(ok0v:Int)(hok0v:I64 ok0v){gok1:Nat}(ok1v:Int)(hok1v:I64 ok1v)(hp:Pre [[(gok0,.cells #[ii ok0v] 3 (0,0))],[(gok1,.cells #[ii ok1v] 3 (0,0))]] Γ w0){r:Bool}(h:m_code_all_int l most ok0v ok1v=some r):Calls Tryz.prog 72 #[.slice Al l.length cl,ii most,.func (.func 113) #[] #[(pq gok0),(pq gok1)]] w0 (Outc Γ [[(gok0,.cells #[ii ok0v] 3 (0,0))],[(gok1,.cells #[ii ok1v] 3 (0,0))]] w0 (r_code_all_int gok0 ok0v gok1 ok1v r)):=by
 refine goV [6] func72 ntmps72 results72 hp λF hF=>?_
 refine ab (aV (k:=aa (ac (ab (mV (k:=sV (q_len_slice rfl underlying37) (k:=mV (k:=?_))))))))
 refine aa (ai ?_)
 refine al h (λ(i4:Nat) (s:Unit) σ w=>match s with | () => ∃(Γ1:Gh),slots σ [(0,.slice Al l.length cl),(1,ii most),(2,.func (.func 113) #[] #[(pq gok0),(pq gok1)]),(9,.slice Al l.length cl),(10,ii (l.length:Int)),(11,ii (i4:Int))]∧CC F Γ1 [[(gok0,.cells #[ii ok0v] 3 (0,0))],[(gok1,.cells #[ii ok1v] 3 (0,0))]] w∧Gh.le Γ Γ1∧True) ?_ ?_
 ·
  intro w hw
  exact⟨Γ,slK,hw,gR,trivial⟩
 rintro f3 i4 ⟨⟩ σ w hi5 hlt6 hge7 ⟨Γ1,hsl,hw,hl2,-⟩
 refine slV hsl hw [_,_] ?_; clear hw hsl
 refine ab (sV q_lss (k:=aa (ac ?_)))
 refine coV (λhb8=>?_) (λhb8=>?_)
 ·
  have hl9:=ilt hb8
  have h:=hlt6 hl9
  refine ag (wc_ (ac (ai (ab (sV (q_ixn (i:=i4) underlying37 sizeOf3 rfl rfl rfl hl9 ((hl.mono hl2).some_ hl9)) (k:=sV (q_ld (c:=0) (v:=ii (gt l i4)) ((hl.mono hl2).intT_at hl9).2 rfl isAgg3 rfl rfl) (k:=aV (k:=?_))))))))
  refine aa (ab (mU (v:=.func (.func 113) #[] #[(pq gok0),(pq gok1)]) (k:=mV (k:=?_))))
  obtain⟨z10,hz11,h⟩:=bnd h
  refine ecV [0,0] (call_run_fv (caps:=#[(pq gok0),(pq gok1)]) call113 rfl (by kernel_rfl) (by kernel_rfl)) (λw hp=>t_code_between_int_1 (gt l i4) ((hl.mono hl2).intT_at hl9).1 ok0v hok0v ok1v hok1v hp hz11) ?_
  rintro Γ12 _ _ hl13 ⟨rfl,rfl,_⟩
  refine cwV 17 [_,_] (sV q_not (k:=aa ?_))
  refine ciV h (λhb16 h=>?_) (λhb16 h=>?_)
  ·
   refine ab (aV (k:=aa ?_))
   exact af λw hw=>re_ r [0,0] h hF hw ⟨rfl,rfl,trivial⟩
  refine ag (wc_ ?_)
  refine ah ?_
  refine sV (q_add_r rfl rfl rfl (ctr_len hl9 (hl.mono hl2).le)) (k:=mV (k:=?_))
  exact ae λw hw=>⟨hl9,(),h,Γ12,slK,hw,(hl2.trans hl13),trivial⟩
 have h:=hge7 (ige hb8)
 refine aj ?_
 change WC _ _ _ _ _ _
 refine ab (mV (k:=sV (q_len_slice rfl underlying37) (k:=mV (k:=sV q_leq (k:=aV (k:=aa ?_))))))
 exact af λw hw=>re_ r [0,0] h hF hw ⟨rfl,rfl,trivial⟩
theorem t_code_RightMsg{Am10:Option Addr}{cm10:Nat}{Am11:Option Addr}{cm11:Nat}{Am12:Option Addr}{cm12:Nat}{Am13:Option Addr}{cm13:Nat}{Am14:Option Addr}{cm14:Nat}(m:Dapi_Msg)(hm:Dapi_Msg.fits Γ Am10 cm10 Am11 cm11 Am12 cm12 Am13 cm13 Am14 cm14 m)(hs:Sat Γ w0){r:Bool}(h:m_code_RightMsg m=some r):CQ Tryz.prog 40 #[.agg (Dapi_Msg.cs Am10 cm10 Am11 cm11 Am12 cm12 Am13 cm13 Am14 cm14 m).toArray] w0 (.bool r):=by
 refine goQ [2] func40 ntmps40 results40 hs λF hF=>?_
 refine ab ?_
 refine bxV (v:=.agg (Dapi_Msg.cs Am10 cm10 Am11 cm11 Am12 cm12 Am13 cm13 Am14 cm14 m).toArray) λg1=>?_
 refine aV (k:=aa (ac ?_))
 refine leV λh02=>?_
 refine held_ (CC F Γ [[(g1,.cells (Dapi_Msg.cs Am10 cm10 Am11 cm11 Am12 cm12 Am13 cm13 Am14 cm14 m).toArray 40 (0,0))]]) (bo_ [0] gR h02) λk=>?_
 change WH _ _ _ _ (CC F Γ [_]) _ 87 #[false,false,false,false,false,false,false,false,false,false,false,false,false,false,false,false,false,false,false,false,false,false,false,false,false,false,false,false,false,false,false,false,false,false,false,false,false,false,false,false,false,false,false,false,false,false,false,false,false,false,false,false,false,false,false,false,false,false,false,false,false,false,false,false,false,false,false,false,false,false,false,false,false,false,false,false,false,false,false,false,false,false,false,false,false,false,false] _
 refine hV 0 k (q:=q_fl 0 fld_40_0) (k:=hV 1 k (q:=ldV 0 isAgg3) (k:=hV 2 k (q:=q_geq) (k:=hV 3 k (q:=moV) (k:=hV1 4 k (h:=λhg3=>q_fl 0 fld_40_0) (k:=hV1 5 k (h:=λhg4=>ldV 0 isAgg3 (hx:=grV hg4)) (k:=hV1 6 k (h:=λhg5=>q_leq rfl (grV hg5)) (k:=hV 7 k (q:=pkA) (k:=?_))))))))
 refine hV 8 k (q:=moV) (k:=hV1 9 k (h:=λhg6=>q_fl 1 fld_40_1) (k:=hV1 10 k (h:=λhg7=>ldaV 0 (Adr.cs m.from_) isAgg32 sizeOf32 (hx:=grV hg7)) (k:=wl_ 11 rfl ?_)))
 obtain⟨z9,hz10,h⟩:=bnd h
 refine vC1 (h:=λhg8=>q_call (call_run call67 rfl rfl (args1 (grV hg8))) (λw hw=>t_code_place (Γ:=Gh.all w) m.from_ ⟨hm.2.1,hm.2.2.1⟩ (Sat.all w) (gc_of hz10 hg8))) (k:=?_)
 refine ae (nxV (bo_ [0] gR h02) λk=>?_)
 refine hV 12 k (q:=pkA) (k:=hV 13 k (q:=moV) (k:=hV1 14 k (h:=λhg11=>q_fl 3 fld_40_2) (k:=hV1 15 k (h:=λhg12=>ldaV 0 (Adr.cs m.to_) isAgg32 sizeOf32 (hx:=grV hg12)) (k:=wl_ 16 rfl ?_))))
 obtain⟨z14,hz15,h⟩:=bnd h
 refine vC1 (h:=λhg13=>q_call (call_run call67 rfl rfl (args1 (grV hg13))) (λw hw=>t_code_place (Γ:=Gh.all w) m.to_ ⟨hm.2.2.2.1,hm.2.2.2.2.1⟩ (Sat.all w) (gc_of hz15 hg13))) (k:=?_)
 refine ae (nxV (bo_ [0] gR h02) λk=>?_)
 refine hV 17 k (q:=pkA) (k:=hV 18 k (q:=moV) (k:=hV1 19 k (h:=λhg16=>q_fl 5 fld_40_3) (k:=hV1 20 k (h:=λhg17=>ldV 0 isAgg2 (hx:=grV hg17)) (k:=hV1 21 k (h:=λhg18=>q_geq rfl (grV hg18)) (k:=hV 22 k (q:=pkA) (k:=hV 23 k (q:=moV) (k:=hV1 24 k (h:=λhg19=>q_fl 6 fld_40_4) (k:=?_))))))))
 refine hV1 25 k (h:=λhg20=>ldV 0 isAgg2 (hx:=grV hg20)) (k:=hV1 26 k (h:=λhg21=>q_geq rfl (grV hg21)) (k:=hV 27 k (q:=pkA) (k:=hV 28 k (q:=moV) (k:=hV1 29 k (h:=λhg22=>q_fl 7 fld_40_5) (k:=hV1 30 k (h:=λhg23=>ldV 0 isAgg3 (hx:=grV hg23)) (k:=hV1 31 k (h:=λhg24=>q_geq rfl (grV hg24)) (k:=hV 32 k (q:=pkA) (k:=?_))))))))
 refine hV 33 k (q:=moV) (k:=hV1 34 k (h:=λhg25=>q_fl 7 fld_40_5) (k:=hV1 35 k (h:=λhg26=>ldV 0 isAgg3 (hx:=grV hg26)) (k:=hV1 36 k (h:=λhg27=>q_leq rfl (grV hg27)) (k:=hV 37 k (q:=pkA) (k:=hV 38 k (q:=moV) (k:=hV1 39 k (h:=λhg28=>q_fl 8 fld_40_6) (k:=hV1 40 k (h:=λhg29=>ldV 0 isAgg28 (hx:=grV hg29)) (k:=?_))))))))
 refine hV1 41 k (h:=λhg30=>q_geq rfl (grV hg30)) (k:=hV 42 k (q:=pkA) (k:=hV 43 k (q:=moV) (k:=hV1 44 k (h:=λhg31=>q_fl 8 fld_40_6) (k:=hV1 45 k (h:=λhg32=>ldV 0 isAgg28 (hx:=grV hg32)) (k:=hV1 46 k (h:=λhg33=>q_leq rfl (grV hg33)) (k:=hV 47 k (q:=pkA) (k:=hV 48 k (q:=moV) (k:=?_))))))))
 refine hV1 49 k (h:=λhg34=>q_fl 9 fld_40_7) (k:=hV1 50 k (h:=λhg35=>ldV 0 isAgg9 (hx:=grV hg35)) (k:=hV1 51 k (h:=λhg36=>q_len_str rfl underlying9 (grV hg36)) (k:=hV1 52 k (h:=λhg37=>q_leq rfl (grV hg37)) (k:=hV 53 k (q:=pkA) (k:=hV 54 k (q:=moV) (k:=hV1 55 k (h:=λhg38=>q_fl 10 fld_40_8) (k:=hV1 56 k (h:=λhg39=>ldV 0 isAgg22 (hx:=grV hg39)) (k:=?_))))))))
 refine hV1 57 k (h:=λhg40=>q_fl 10 fld_40_8) (k:=hV1 58 k (h:=λhg41=>ldV 0 isAgg22 (hx:=grV hg41)) (k:=hV1 59 k (h:=λhg42=>q_len_slice rfl underlying22 (grV hg42)) (k:=wl_ 60 rfl ?_)))
 obtain⟨z44,hz45,h⟩:=bnd h
 refine vC1 (h:=λhg43=>q_call (call_run call68 rfl rfl (args3 (grV hg43) (grV hg43) rfl)) (λw hw=>t_code_all_api_Rec (Γ:=Gh.all w) (hm.2.2.2.2.2.2.2.2.2.2.1.2.mono hw.sat.le_all) hm.2.2.2.2.2.2.2.2.2.2.1.1 (m.recs.length:Int) (len_r hm.2.2.2.2.2.2.2.2.2.2.1.2.le) (Sat.all w) (gc_of hz45 hg43))) (k:=?_)
 refine ae (nxV (bo_ [0] gR h02) λk=>?_)
 refine hV 61 k (q:=pkA) (k:=hV 62 k (q:=moV) (k:=hV1 63 k (h:=λhg46=>q_fl 11 fld_40_9) (k:=hV1 64 k (h:=λhg47=>ldV 0 isAgg36 (hx:=grV hg47)) (k:=?_))))
 refine(Bool.eq_false_or_eq_true ((((((((((((decide (1≤m.kind))&&(decide (m.kind≤17)))&&z9)&&z14)&&(decide (0≤m.id)))&&(decide (0≤m.n)))&&(decide (0≤m.for_)))&&(decide (m.for_≤8)))&&(decide (0≤m.code)))&&(decide (m.code≤999)))&&(decide ((m.key.size:Int)≤32)))&&z44)).elim (λhb48=>?_) (λhb48=>?_)
 ·
  have h:=bt hb48 h
  refine wl_ 65 rfl ?_
  refine WR.sat (c0:=true) (g:=((((((((((((decide (1≤m.kind))&&(decide (m.kind≤17)))&&z9)&&z14)&&(decide (0≤m.id)))&&(decide (0≤m.n)))&&(decide (0≤m.for_)))&&(decide (m.for_≤8)))&&(decide (0≤m.code)))&&(decide (m.code≤999)))&&(decide ((m.key.size:Int)≤32)))&&z44)) rfl rfl rfl hb48 ?_
  obtain⟨z49,hz50,h⟩:=bnd h
  refine ecV [] (caV call71) (λw hp=>t_code_between_int64 0 iV 4611686018427387904 iV hp hz50) ?_
  rintro Γ51 _ _ hl52 ⟨g55,g57,rfl,rfl,hr56,hr58,_⟩
  refine cwV 68 [_,_,_] ?_
  refine ae (nxV (bo_ [2] hl52 h02) λk=>?_)
  refine wl_ 66 rfl ?_
  refine WR.sat (c0:=true) (g:=((((((((((((decide (1≤m.kind))&&(decide (m.kind≤17)))&&z9)&&z14)&&(decide (0≤m.id)))&&(decide (0≤m.n)))&&(decide (0≤m.for_)))&&(decide (m.for_≤8)))&&(decide (0≤m.code)))&&(decide (m.code≤999)))&&(decide ((m.key.size:Int)≤32)))&&z44)) rfl rfl rfl hb48 ?_
  obtain⟨z59,hz60,h⟩:=bnd h
  refine ecV [0,0] (call_run call70 rfl rfl (args3 (grV hb48) rfl rfl)) (λw hp=>t_code_all_int64 (hm.2.2.2.2.2.2.2.2.2.2.2.1.2.mono hl52) hm.2.2.2.2.2.2.2.2.2.2.2.1.1 16 iV z49.1 hr56 z49.2 hr58 hp hz60) ?_
  rintro Γ61 _ _ hl62 ⟨rfl,rfl,_⟩
  refine cwV 69 [_,_,_] ?_
  refine ae (nxV (bo_ [2] (hl52.trans hl62) h02) λk=>?_)
  refine hV 67 k (q:=q_pick_t (v:=.bool z59) rfl rfl hb48 (by kernel_rfl)) (k:=hV 68 k (q:=moV) (k:=hV1 69 k (h:=λhg65=>q_fl 12 fld_40_10) (k:=hV1 70 k (h:=λhg66=>ldV 0 isAgg37 (hx:=grV hg66)) (k:=?_))))
  refine(Bool.eq_false_or_eq_true z59).elim (λhb67=>?_) (λhb67=>?_)
  ·
   have h:=bt hb67 h
   refine wl_ 71 rfl ?_
   refine WR.sat (c0:=true) (g:=z59) rfl rfl rfl hb67 ?_
   obtain⟨z68,hz69,h⟩:=bnd h
   refine ecV [] (caV call73) (λw hp=>t_code_between_int 0 iV 15 iV hp hz69) ?_
   rintro Γ70 _ _ hl71 ⟨g74,g76,rfl,rfl,hr75,hr77,_⟩
   refine cwV 74 [_,_,_,_,_] ?_
   refine ae (nxV (bo_ [4] ((hl52.trans hl62).trans hl71) h02) λk=>?_)
   refine wl_ 72 rfl ?_
   refine WR.sat (c0:=true) (g:=z59) rfl rfl rfl hb67 ?_
   obtain⟨z78,hz79,h⟩:=bnd h
   refine ecV [0,0] (call_run call72 rfl rfl (args3 (grV hb67) rfl rfl)) (λw hp=>t_code_all_int (hm.2.2.2.2.2.2.2.2.2.2.2.2.1.2.mono ((hl52.trans hl62).trans hl71)) hm.2.2.2.2.2.2.2.2.2.2.2.2.1.1 2 iV z68.1 hr75 z68.2 hr77 hp hz79) ?_
   rintro Γ80 _ _ hl81 ⟨rfl,rfl,_⟩
   refine cwV 75 [_,_,_,_,_] ?_
   refine ae (nxV (bo_ [4] (((hl52.trans hl62).trans hl71).trans hl81) h02) λk=>?_)
   refine hV 73 k (q:=q_pick_t (v:=.bool z78) rfl rfl hb67 (by kernel_rfl)) (k:=hV 74 k (q:=moV) (k:=hV1 75 k (h:=λhg84=>q_fl 13 fld_40_11) (k:=hV1 76 k (h:=λhg85=>ldV 0 isAgg38 (hx:=grV hg85)) (k:=hV1 77 k (h:=λhg86=>q_len_slice rfl underlying38 (grV hg86)) (k:=hV1 78 k (h:=λhg87=>q_leq rfl (grV hg87)) (k:=hV 79 k (q:=pkA) (k:=hV 80 k (q:=moV) (k:=?_))))))))
   refine hV1 81 k (h:=λhg88=>q_fl 14 fld_40_12) (k:=hV1 82 k (h:=λhg89=>ldV 0 isAgg37 (hx:=grV hg89)) (k:=?_))
   refine(Bool.eq_false_or_eq_true (z78&&(decide ((m.hashes.length:Int)≤16)))).elim (λhb90=>?_) (λhb90=>?_)
   ·
    have h:=bt hb90 h
    refine wl_ 83 rfl ?_
    refine WR.sat (c0:=true) (g:=(z78&&(decide ((m.hashes.length:Int)≤16)))) rfl rfl rfl hb90 ?_
    obtain⟨z91,hz92,h⟩:=bnd h
    refine ecV [] (caV call73) (λw hp=>t_code_between_int 1 iV 16 iV hp hz92) ?_
    rintro Γ93 _ _ hl94 ⟨g97,g99,rfl,rfl,hr98,hr100,_⟩
    refine cwV 86 [_,_,_,_,_,_,_] ?_
    refine ae (nxV (bo_ [6] ((((hl52.trans hl62).trans hl71).trans hl81).trans hl94) h02) λk=>?_)
    refine wl_ 84 rfl ?_
    refine WR.sat (c0:=true) (g:=(z78&&(decide ((m.hashes.length:Int)≤16)))) rfl rfl rfl hb90 ?_
    obtain⟨z101,hz102,h⟩:=bnd h
    refine ecV [0,0] (call_run call72 rfl rfl (args3 (grV hb90) rfl rfl)) (λw hp=>t_code_all_int (hm.2.2.2.2.2.2.2.2.2.2.2.2.2.2.2.mono ((((hl52.trans hl62).trans hl71).trans hl81).trans hl94)) hm.2.2.2.2.2.2.2.2.2.2.2.2.2.2.1 16 iV z91.1 hr98 z91.2 hr100 hp hz102) ?_
    rintro Γ103 _ _ hl104 ⟨rfl,rfl,_⟩
    refine cwV 87 [_,_,_,_,_,_,_] ?_
    refine ae (nxV (bk_ (((((hl52.trans hl62).trans hl71).trans hl81).trans hl94).trans hl104) h02 (.cons _ (.cons _ (.cons _ (.cons _ (.cons _ (.cons _ (.cons_cons _ .slnil)))))))) λk=>?_)
    refine hV 85 k (q:=q_pick_t (v:=.bool z101) rfl rfl hb90 (by kernel_rfl)) (k:=hV 86 k (q:=aoV) (k:=?_))
    refine am (by kernel_rfl) ?_
    change WC _ _ _ _ _ _
    exact af λw hw=>rq_ r h hF hw
   have h:=bf hb90 h
   refine hg1 (g:=(z78&&(decide ((m.hashes.length:Int)≤16)))) (i:=83) (v:=undef) rfl (by kernel_rfl) rfl rfl rfl rfl rfl (bo_ [4] (((hl52.trans hl62).trans hl71).trans hl81) h02) (no_tf hb90) ?_
   refine aq (v:=undef) (gv_false hb90) ?_
   refine hg1 (g:=(z78&&(decide ((m.hashes.length:Int)≤16)))) (i:=84) (v:=undef) rfl (by kernel_rfl) rfl rfl rfl rfl rfl (bo_ [4] (((hl52.trans hl62).trans hl71).trans hl81) h02) (no_tf hb90) ?_
   refine aq (v:=undef) (gv_false hb90) ?_
   refine hV 85 (bo_ [4] (((hl52.trans hl62).trans hl71).trans hl81) h02) (q:=q_pick_f (v:=.bool false) rfl rfl hb90 (by kernel_rfl)) (k:=hV 86 (bo_ [4] (((hl52.trans hl62).trans hl71).trans hl81) h02) (q:=aoV) (k:=?_))
   refine am (by kernel_rfl) ?_
   change WC _ _ _ _ _ _
   exact af λw hw=>rq_ r h hF hw
  have h:=bf hb67 h
  refine hg1 (g:=z59) (i:=71) (v:=undef) rfl (by kernel_rfl) rfl rfl rfl rfl rfl (bo_ [2] (hl52.trans hl62) h02) (no_tf hb67) ?_
  refine aq (v:=undef) (gv_false hb67) ?_
  refine hg1 (g:=z59) (i:=72) (v:=undef) rfl (by kernel_rfl) rfl rfl rfl rfl rfl (bo_ [2] (hl52.trans hl62) h02) (no_tf hb67) ?_
  refine aq (v:=undef) (gv_false hb67) ?_
  refine hV 73 (bo_ [2] (hl52.trans hl62) h02) (q:=q_pick_f (v:=.bool false) rfl rfl hb67 (by kernel_rfl)) (k:=hV 74 (bo_ [2] (hl52.trans hl62) h02) (q:=moV) (k:=?_))
  refine hg1 (g:=false) (i:=75) (v:=undef) rfl (by kernel_rfl) rfl rfl rfl rfl rfl (bo_ [2] (hl52.trans hl62) h02) (no_tf rfl) ?_
  refine aq (v:=undef) (gv_false rfl) ?_
  refine hg1 (g:=false) (i:=76) (v:=undef) rfl (by kernel_rfl) rfl rfl rfl rfl rfl (bo_ [2] (hl52.trans hl62) h02) (no_tf rfl) ?_
  refine aq (v:=undef) (gv_false rfl) ?_
  refine hg1 (g:=false) (i:=77) (v:=undef) rfl (by kernel_rfl) rfl rfl rfl rfl rfl (bo_ [2] (hl52.trans hl62) h02) (no_tf rfl) ?_
  refine aq (v:=undef) (gv_false rfl) ?_
  refine hg1 (g:=false) (i:=78) (v:=undef) rfl (by kernel_rfl) rfl rfl rfl rfl rfl (bo_ [2] (hl52.trans hl62) h02) (no_tf rfl) ?_
  refine aq (v:=undef) (gv_false rfl) ?_
  refine hV 79 (bo_ [2] (hl52.trans hl62) h02) (q:=q_pickf (v:=.bool false) rfl rfl rfl) (k:=hV 80 (bo_ [2] (hl52.trans hl62) h02) (q:=moV) (k:=?_))
  refine hg1 (g:=false) (i:=81) (v:=undef) rfl (by kernel_rfl) rfl rfl rfl rfl rfl (bo_ [2] (hl52.trans hl62) h02) (no_tf rfl) ?_
  refine aq (v:=undef) (gv_false rfl) ?_
  refine hg1 (g:=false) (i:=82) (v:=undef) rfl (by kernel_rfl) rfl rfl rfl rfl rfl (bo_ [2] (hl52.trans hl62) h02) (no_tf rfl) ?_
  refine aq (v:=undef) (gv_false rfl) ?_
  refine hg1 (g:=false) (i:=83) (v:=undef) rfl (by kernel_rfl) rfl rfl rfl rfl rfl (bo_ [2] (hl52.trans hl62) h02) (no_tf rfl) ?_
  refine aq (v:=undef) (gv_false rfl) ?_
  refine hg1 (g:=false) (i:=84) (v:=undef) rfl (by kernel_rfl) rfl rfl rfl rfl rfl (bo_ [2] (hl52.trans hl62) h02) (no_tf rfl) ?_
  refine aq (v:=undef) (gv_false rfl) ?_
  refine hV 85 (bo_ [2] (hl52.trans hl62) h02) (q:=q_pickf (v:=.bool false) rfl rfl rfl) (k:=hV 86 (bo_ [2] (hl52.trans hl62) h02) (q:=aoV) (k:=?_))
  refine am (by kernel_rfl) ?_
  change WC _ _ _ _ _ _
  exact af λw hw=>rq_ r h hF hw
 have h:=bf hb48 h
 refine hg1 (g:=((((((((((((decide (1≤m.kind))&&(decide (m.kind≤17)))&&z9)&&z14)&&(decide (0≤m.id)))&&(decide (0≤m.n)))&&(decide (0≤m.for_)))&&(decide (m.for_≤8)))&&(decide (0≤m.code)))&&(decide (m.code≤999)))&&(decide ((m.key.size:Int)≤32)))&&z44)) (i:=65) (v:=undef) rfl (by kernel_rfl) rfl rfl rfl rfl rfl (bo_ [0] gR h02) (no_tf hb48) ?_
 refine aq (v:=undef) (gv_false hb48) ?_
 refine hg1 (g:=((((((((((((decide (1≤m.kind))&&(decide (m.kind≤17)))&&z9)&&z14)&&(decide (0≤m.id)))&&(decide (0≤m.n)))&&(decide (0≤m.for_)))&&(decide (m.for_≤8)))&&(decide (0≤m.code)))&&(decide (m.code≤999)))&&(decide ((m.key.size:Int)≤32)))&&z44)) (i:=66) (v:=undef) rfl (by kernel_rfl) rfl rfl rfl rfl rfl (bo_ [0] gR h02) (no_tf hb48) ?_
 refine aq (v:=undef) (gv_false hb48) ?_
 refine hV 67 (bo_ [0] gR h02) (q:=q_pick_f (v:=.bool false) rfl rfl hb48 (by kernel_rfl)) (k:=hV 68 (bo_ [0] gR h02) (q:=moV) (k:=?_))
 refine hg1 (g:=false) (i:=69) (v:=undef) rfl (by kernel_rfl) rfl rfl rfl rfl rfl (bo_ [0] gR h02) (no_tf rfl) ?_
 refine aq (v:=undef) (gv_false rfl) ?_
 refine hg1 (g:=false) (i:=70) (v:=undef) rfl (by kernel_rfl) rfl rfl rfl rfl rfl (bo_ [0] gR h02) (no_tf rfl) ?_
 refine aq (v:=undef) (gv_false rfl) ?_
 refine hg1 (g:=false) (i:=71) (v:=undef) rfl (by kernel_rfl) rfl rfl rfl rfl rfl (bo_ [0] gR h02) (no_tf rfl) ?_
 refine aq (v:=undef) (gv_false rfl) ?_
 refine hg1 (g:=false) (i:=72) (v:=undef) rfl (by kernel_rfl) rfl rfl rfl rfl rfl (bo_ [0] gR h02) (no_tf rfl) ?_
 refine aq (v:=undef) (gv_false rfl) ?_
 refine hV 73 (bo_ [0] gR h02) (q:=q_pickf (v:=.bool false) rfl rfl rfl) (k:=hV 74 (bo_ [0] gR h02) (q:=moV) (k:=?_))
 refine hg1 (g:=false) (i:=75) (v:=undef) rfl (by kernel_rfl) rfl rfl rfl rfl rfl (bo_ [0] gR h02) (no_tf rfl) ?_
 refine aq (v:=undef) (gv_false rfl) ?_
 refine hg1 (g:=false) (i:=76) (v:=undef) rfl (by kernel_rfl) rfl rfl rfl rfl rfl (bo_ [0] gR h02) (no_tf rfl) ?_
 refine aq (v:=undef) (gv_false rfl) ?_
 refine hg1 (g:=false) (i:=77) (v:=undef) rfl (by kernel_rfl) rfl rfl rfl rfl rfl (bo_ [0] gR h02) (no_tf rfl) ?_
 refine aq (v:=undef) (gv_false rfl) ?_
 refine hg1 (g:=false) (i:=78) (v:=undef) rfl (by kernel_rfl) rfl rfl rfl rfl rfl (bo_ [0] gR h02) (no_tf rfl) ?_
 refine aq (v:=undef) (gv_false rfl) ?_
 refine hV 79 (bo_ [0] gR h02) (q:=q_pickf (v:=.bool false) rfl rfl rfl) (k:=hV 80 (bo_ [0] gR h02) (q:=moV) (k:=?_))
 refine hg1 (g:=false) (i:=81) (v:=undef) rfl (by kernel_rfl) rfl rfl rfl rfl rfl (bo_ [0] gR h02) (no_tf rfl) ?_
 refine aq (v:=undef) (gv_false rfl) ?_
 refine hg1 (g:=false) (i:=82) (v:=undef) rfl (by kernel_rfl) rfl rfl rfl rfl rfl (bo_ [0] gR h02) (no_tf rfl) ?_
 refine aq (v:=undef) (gv_false rfl) ?_
 refine hg1 (g:=false) (i:=83) (v:=undef) rfl (by kernel_rfl) rfl rfl rfl rfl rfl (bo_ [0] gR h02) (no_tf rfl) ?_
 refine aq (v:=undef) (gv_false rfl) ?_
 refine hg1 (g:=false) (i:=84) (v:=undef) rfl (by kernel_rfl) rfl rfl rfl rfl rfl (bo_ [0] gR h02) (no_tf rfl) ?_
 refine aq (v:=undef) (gv_false rfl) ?_
 refine hV 85 (bo_ [0] gR h02) (q:=q_pickf (v:=.bool false) rfl rfl rfl) (k:=hV 86 (bo_ [0] gR h02) (q:=aoV) (k:=?_))
 refine am (by kernel_rfl) ?_
 change WC _ _ _ _ _ _
 exact af λw hw=>rq_ r h hF hw
abbrev r_store_Store_Get(gs_:Nat)(es_:Nat×Nat)(rows_:Rowb)(r:List Ver)(U:List Rowb)(Γ:Gh)(v:Value):Prop := ∃(A0:Option Addr), ∃(c0:Nat),v = .slice A0 r.length c0∧U = [rows_]∧r.length≤c0∧Sl verT Γ A0 r∧True
theorem t_store_Store_Get{gs_:Nat}{es_:Nat×Nat}{rows_:Rowb}{s_:Ostore_Store}(hs_:Ostore_Store.ob es_ Γ gs_ rows_ s_)(key:ByteArray)(hkey:key.size≤lim)(hp:Pre [rows_] Γ w0){r:List Ver}(h:m_store_Store_Get s_ key=some r):Calls Tryz.prog 58 #[(pq gs_),.string key] w0 (Outc Γ [rows_] w0 (r_store_Store_Get gs_ es_ rows_ r)):=by
 refine goV [4] func58 ntmps58 results58 hp λF hF=>?_
 refine ab (aV (k:=aa (ab (mV (k:=sV nlV (k:=sV (q_fl 1 fld_107_1) (k:=?_)))))))
 obtain⟨g0_1,r0_1,m1_1,r1_1,hrow_1,ho0_1,ho1_1,-⟩:=id hs_
 refine ufR 0 hrow_1 [_,_,_] ?_
 refine sV (ldV 0 isAgg63) (k:=mV (k:=?_))
 obtain⟨v2,⟨A5,c6,hv3,hc7,hs8⟩,hat4⟩:=MapO.look ho1_1 key (z:=.slice none 0 0) (zx:=[]) ⟨none,0,rfl,Nat.zero_le _,Sl.nil _ _ _⟩
 obtain rfl:v2=_:=List.cons.inj hv3 |>.1
 refine sV (q_lookup1 (v:=.slice A5 ((mget key s_.keys).getD []).length c6) hat4 rfl underlying63 zeroValue77 rfl rfl (i:=2) rfl) (k:=?_)
 obtain⟨z9,hz10,h⟩:=bnd h
 refine ecV [] (caV call54) (λw hp=>t_code_Rec hs8 hc7 hp hz10) ?_
 rintro Γ11 _ _ hl12 ⟨A15,c16,rfl,rfl,hr17,hr18,_⟩
 refine cwV 14 [_,_,_] (mV (k:=sV exV (k:=sV exV (k:=?_))))
 refine alV zeroValue45 λg19=>?_
 refine stV 0 (.agg (Rec.cs A15 c16 z9.1).toArray) (Rec.cs A15 c16 z9.1).toArray sizeOf45 (k:=aV (k:=aa (ab (sV (q_fl 1 fld_45_1) (k:=sV (ldV 0 isAgg43) (k:=aV (k:=aa ?_)))))))
 refine af ?_
 intro w hw
 have hw:=hw.fold (is:=[1,1,1]) rfl hrow_1
 exact re_ r [0] h hF hw ⟨A15,c16,rfl,rfl,hr17.2.1,hr17.2.2,trivial⟩
abbrev r_vers_clone_api_Span(r:List Span)(U:List Rowb)(Γ:Gh)(v:Value):Prop := ∃(A0:Option Addr), ∃(c0:Nat), ∃(row0:Rowb),v = .slice A0 r.length c0∧U = [row0]∧Own spanT Γ 93 row0 A0 c0 r∧True
theorem t_vers_clone_api_Span{Al:Option Addr}{cl:Nat}{l:List Span}(hl:Sl spanT Γ Al l)(hlc:l.length≤cl)(hp:Pre [] Γ w0){r:List Span}(h:m_vers_clone_api_Span l=some r):Calls Tryz.prog 131 #[.slice Al l.length cl] w0 (Outc Γ [] w0 (r_vers_clone_api_Span r)):=by
 refine goV [2] func131 ntmps131 results131 hp λF hF=>?_
 refine ab (aV (k:=aa (ab (mV (k:=?_)))))
 refine WR.sub (λw hw=>hw.pad) ?_
 obtain⟨hk1,h⟩:=chk_some h
 refine e_append (T:=spanT) (xs:=[]) (ys:=l) elem_87 (i:=0) rfl rfl rfl rfl (by kernel_rfl) rfl rfl (Own.nil spanT Γ 93) (of_decide_eq_true hk1) (λw hw=>src_sl hl hw) ?_
 intro row2 A3 c4 ho5
 refine aV (k:=aa ?_)
 exact af λw hw=>re_ r [0] h hF hw ⟨A3,c4,row2,rfl,rfl,ho5,trivial⟩
abbrev r_vers_Merge_1(gb0:Nat)(Ab0v:Option Addr)(cb0v:Nat)(b0v:List Ver)(gb1:Nat)(Ab1v:Option Addr)(cb1v:Nat)(b1v:List Ver)(gb2:Nat)(Ab2v:Option Addr)(cb2v:Nat)(b2v:List Ver)(rowb2v:Rowb)(r:List Ver)(U:List Rowb)(Γ:Gh)(v:Value):Prop := ∃(Ab2_0:Option Addr), ∃(cb2_0:Nat), ∃(rowb2_0:Rowb),v = .tuple #[]∧U = [[(gb0,.cells #[.slice Ab0v b0v.length cb0v] 43 (0,0))],[(gb1,.cells #[.slice Ab1v b1v.length cb1v] 43 (0,0))],[(gb2,.cells #[.slice Ab2_0 r.length cb2_0] 43 (0,0))],rowb2_0]∧Own verT Γ 89 rowb2_0 Ab2_0 cb2_0 r∧True
theorem t_vers_Merge_1{Av_2:Option Addr}{cv_2:Nat}(v_:Ver)(hv_:Ver.fits Γ Av_2 cv_2 v_){gb0:Nat}{Ab0v:Option Addr}{cb0v:Nat}{b0v:List Ver}(hb0v:Sl verT Γ Ab0v b0v)(hb0vc:b0v.length≤cb0v){gb1:Nat}{Ab1v:Option Addr}{cb1v:Nat}{b1v:List Ver}(hb1v:Sl verT Γ Ab1v b1v)(hb1vc:b1v.length≤cb1v){gb2:Nat}{Ab2v:Option Addr}{cb2v:Nat}{rowb2v:Rowb}{b2v:List Ver}(hb2v:Own verT Γ 89 rowb2v Ab2v cb2v b2v)(hp:Pre [[(gb0,.cells #[.slice Ab0v b0v.length cb0v] 43 (0,0))],[(gb1,.cells #[.slice Ab1v b1v.length cb1v] 43 (0,0))],[(gb2,.cells #[.slice Ab2v b2v.length cb2v] 43 (0,0))],rowb2v] Γ w0){r:List Ver}(h:m_vers_Merge_1 v_ b0v b1v b2v=some r):Calls Tryz.prog 129 #[.agg (Ver.cs Av_2 cv_2 v_).toArray,(pq gb0),(pq gb1),(pq gb2)] w0 (Outc Γ [[(gb0,.cells #[.slice Ab0v b0v.length cb0v] 43 (0,0))],[(gb1,.cells #[.slice Ab1v b1v.length cb1v] 43 (0,0))],[(gb2,.cells #[.slice Ab2v b2v.length cb2v] 43 (0,0))],rowb2v] w0 (r_vers_Merge_1 gb0 Ab0v cb0v b0v gb1 Ab1v cb1v b1v gb2 Ab2v cb2v b2v rowb2v r)):=by
 refine goV [] func129 ntmps129 results129 hp λF hF=>?_
 refine ab ?_
 refine bxV (v:=.agg (Ver.cs Av_2 cv_2 v_).toArray) λg1=>?_
 refine aa (ab (sV (q_fl 0 fld_89_0) (k:=sV (ldaV 0 (Dot.cs v_.dot) isAgg86 sizeOf86) (k:=sV (ldV 1 isAgg43) (k:=?_)))))
 obtain⟨z2,hz3,h⟩:=bnd h
 refine vqV (caV call130) (λw hw=>t_vers_behind (Γ:=Gh.all w) v_.dot ⟨hv_.1,hv_.2.1⟩ (hb0v.mono hw.sat.le_all) hb0vc (Sat.all w) hz3) (k:=sV q_not (k:=mV (k:=vG1 (h:=λhg4=>q_fl 0 fld_89_0) (k:=vG1 (h:=λhg5=>ldaV 0 (Dot.cs v_.dot) isAgg86 sizeOf86 (hx:=grV hg5)) (k:=vG1 (h:=λhg6=>ldV 2 isAgg43) (k:=?_))))))
 obtain⟨z8,hz9,h⟩:=bnd h
 refine vC1 (h:=λhg7=>q_call (call_run call130 rfl rfl (args2 (grV hg7) (grV hg7))) (λw hw=>t_vers_behind (Γ:=Gh.all w) v_.dot ⟨hv_.1,hv_.2.1⟩ (hb1v.mono hw.sat.le_all) hb1vc (Sat.all w) (gc_of hz9 hg7))) (k:=vG1 (h:=λhg10=>q_not rfl (grV hg10)) (k:=sV pkA (k:=aa ?_)))
 refine ciV h (λhb11 h=>?_) (λhb11 h=>?_)
 ·
  refine ab (sV (q_fl 2 fld_89_1) (k:=sV (ldV 0 isAgg87) (k:=?_)))
  obtain⟨z12,hz13,h⟩:=bnd h
  refine ecV [] (caV call131) (λw hp=>t_vers_clone_api_Span hv_.2.2.1.2 hv_.2.2.1.1 hp hz13) ?_
  rintro Γ14 _ _ hl15 ⟨A18,c19,row20,rfl,rfl,hr21,_⟩
  refine cwV 19 [_,_,_,_,_,_] (sV (q_fl 2 fld_89_1) (k:=stV 1 (.slice A18 z12.length c19) #[ii v_.dot.s,ii v_.dot.n,.slice A18 z12.length c19,.bool v_.gone,.string v_.val] sizeOf87 (k:=aa ?_)))
  refine ah ?_
  refine sV (ldV 4 isAgg43) (k:=sV (ldaV 1 [ii v_.dot.s,ii v_.dot.n,.slice A18 z12.length c19,.bool v_.gone,.string v_.val] isAgg89 sizeOf89) (k:=?_))
  have hc26:=hr21.capz
  refine seR 0 [_,_,_,_,_,_] λΓ22 hl23 hr24=>?_
  have hs25:=hr21.sl hl23 hr24
  refine bsV #[ii v_.dot.s,ii v_.dot.n,.slice A18 z12.length c19,.bool v_.gone,.string v_.val] 89 λg27=>?_
  obtain⟨hk28,h⟩:=chk_some h
  refine apV 6 [(⟨(⟨v_.dot.s,v_.dot.n⟩:Dot),z12,v_.gone,v_.val⟩:Ver)] elem_43 (hb2v.mono (hl15.trans hl23)) (of_decide_eq_true hk28) (λw hw=>src_one (i:=0) rfl (by exact⟨A18,c19,rfl,⟨hv_.1,hv_.2.1,⟨hc26,hs25⟩,hv_.2.2.2⟩⟩) hw) ?_
  intro row29 A30 c31 ho32
  refine stV 5 (.slice A30 (b2v++[(⟨(⟨v_.dot.s,v_.dot.n⟩:Dot),z12,v_.gone,v_.val⟩:Ver)]).length c31) #[.slice A30 (b2v++[(⟨(⟨v_.dot.s,v_.dot.n⟩:Dot),z12,v_.gone,v_.val⟩:Ver)]).length c31] sizeOf43 (k:=?_)
  refine ae ?_
  intro w hw
  cases h
  subst hF
  exact end_e (is:=[3,3,3,3]) (by kernel_rfl) hw rfl ⟨A30,c31,row29,rfl,rfl,ho32,trivial⟩
 refine ag ?_
 intro w hw
 cases h
 subst hF
 exact end_e (is:=[1,1,1,1]) (by kernel_rfl) hw rfl ⟨Ab2v,cb2v,rowb2v,rfl,rfl,hb2v,trivial⟩
theorem t_vers_same{Aa2:Option Addr}{ca2:Nat}(a:Ver)(ha:Ver.fits Γ Aa2 ca2 a){Ab2:Option Addr}{cb2:Nat}(b:Ver)(hb:Ver.fits Γ Ab2 cb2 b)(hs:Sat Γ w0){r:Bool}(h:m_vers_same a b=some r):CQ Tryz.prog 133 #[.agg (Ver.cs Aa2 ca2 a).toArray,.agg (Ver.cs Ab2 cb2 b).toArray] w0 (.bool r):=by
 refine goQ [4] func133 ntmps133 results133 hs λF hF=>?_
 refine ab ?_
 refine bxV (v:=.agg (Ver.cs Aa2 ca2 a).toArray) λg1=>?_
 refine bxV (v:=.agg (Ver.cs Ab2 cb2 b).toArray) λg2=>?_
 refine aV (k:=aa (ac (ab (sV (q_fl 0 fld_89_0) (k:=sV (ldaV 1 (Dot.cs a.dot) isAgg86 sizeOf86) (k:=sV (q_fl 0 fld_89_0) (k:=sV (ldaV 0 (Dot.cs b.dot) isAgg86 sizeOf86) (k:=?_))))))))
 refine sV (q_neq_Dot (a:=a.dot) (b:=b.dot) rfl rfl rfl) (k:=mV (k:=vG0 (h:=λhg3=>q_fl 3 fld_89_2) (k:=vG0 (h:=λhg4=>ldV 1 isAgg4 (hx:=grV hg4)) (k:=vG0 (h:=λhg5=>q_fl 3 fld_89_2) (k:=vG0 (h:=λhg6=>ldV 0 isAgg4 (hx:=grV hg6)) (k:=vG0 (h:=λhg7=>q_bneq underlying4 rfl (grV hg7) (grV hg7)) (k:=sV pkO (k:=?_))))))))
 refine mV (k:=vG0 (h:=λhg8=>q_fl 4 fld_89_3) (k:=vG0 (h:=λhg9=>ldV 1 isAgg9 (hx:=grV hg9)) (k:=vG0 (h:=λhg10=>q_fl 4 fld_89_3) (k:=vG0 (h:=λhg11=>ldV 0 isAgg9 (hx:=grV hg11)) (k:=vG0 (h:=λhg12=>q_sneq rfl (grV hg12) (grV hg12)) (k:=sV pkO (k:=mV (k:=?_))))))))
 refine vG0 (h:=λhg13=>q_fl 2 fld_89_1) (k:=vG0 (h:=λhg14=>ldV 1 isAgg87 (hx:=grV hg14)) (k:=vG0 (h:=λhg15=>q_len_slice rfl underlying87 (grV hg15)) (k:=vG0 (h:=λhg16=>q_fl 2 fld_89_1) (k:=vG0 (h:=λhg17=>ldV 0 isAgg87 (hx:=grV hg17)) (k:=vG0 (h:=λhg18=>q_len_slice rfl underlying87 (grV hg18)) (k:=vG0 (h:=λhg19=>q_neq rfl (grV hg19) (grV hg19)) (k:=sV pkO (k:=?_))))))))
 refine aa ?_
 refine ciV h (λhb20 h=>?_) (λhb20 h=>?_)
 ·
  refine ab (aV (k:=aa ?_))
  exact af λw hw=>rq_ r h hF hw
 refine ag (wc_ (ac (ab (sV (q_fl 2 fld_89_1) (k:=sV (ldV 1 isAgg87) (k:=sV (q_len_slice rfl underlying87) (k:=mV (k:=?_))))))))
 refine aa (ai ?_)
 refine al h (λ(i22:Nat) (s:Unit) σ w=>match s with | ()=>slots σ [(2,(pq g1)),(3,(pq g2)),(36,ii (a.past.length:Int)),(37,ii (i22:Int))]∧CC F Γ [[(g2,.cells (Ver.cs Ab2 cb2 b).toArray 89 (0,0))],[(g1,.cells (Ver.cs Aa2 ca2 a).toArray 89 (0,0))]] w∧True) ?_ ?_
 ·
  intro w hw
  exact⟨slK,hw,trivial⟩
 rintro f21 i22 ⟨⟩ σ w hi23 hlt24 hge25 ⟨hsl,hw,-⟩
 refine slV hsl hw [_,_] ?_; clear hw hsl
 refine ab (sV q_lss (k:=aa (ac ?_)))
 refine coV (λhb26=>?_) (λhb26=>?_)
 ·
  have hl27:=ilt hb26
  have h:=hlt24 hl27
  refine ag (wc_ (ac (ai (ab (mV (k:=aV (k:=aa ?_)))))))
  refine ac ?_
  refine drV ?_
  refine zV (q_fl 2 fld_89_1) (k:=zV (ldV 1 isAgg87) (k:=zV moV (k:=zV (q_ixn (i:=i22) underlying87 sizeOf93 rfl rfl rfl hl27 (ha.2.2.1.2.some_ hl27)) (k:=zV (q_lda (c:=0) (vs:=(Span.cs (gt a.past i22))) (ha.2.2.1.2.spanT_at hl27).2 rfl isAgg93 sizeOf93 rfl rfl rfl) (k:=zV (q_fl 2 fld_89_1) (k:=zV (ldV 0 isAgg87) (k:=zV moV (k:=?_))))))))
  obtain⟨hk28,h⟩:=chk_some h
  refine zV (q_ixn (i:=i22) underlying87 sizeOf93 rfl rfl rfl (of_decide_eq_true hk28) (hb.2.2.1.2.some_ (of_decide_eq_true hk28))) (k:=zV (q_lda (c:=0) (vs:=(Span.cs (gt b.past i22))) (hb.2.2.1.2.spanT_at (of_decide_eq_true hk28)).2 rfl isAgg93 sizeOf93 rfl rfl rfl) (k:=zV (q_neq_Span (a:=(gt a.past i22)) (b:=(gt b.past i22)) rfl rfl rfl) (k:=?_)))
  refine ao ?_
  change WC _ _ _ _ _ _
  refine ciV h (λhb29 h=>?_) (λhb29 h=>?_)
  ·
   refine ab (aV (k:=aa ?_))
   exact af λw hw=>rq_ r h hF hw
  refine ag (wc_ ?_)
  refine ah ?_
  refine sV (q_add_r rfl rfl rfl (ctr_len hl27 ha.2.2.1.2.le)) (k:=mV (k:=?_))
  exact ae λw hw=>⟨hl27,(),h,slK,hw,trivial⟩
 have h:=hge25 (ige hb26)
 refine aj ?_
 change WC _ _ _ _ _ _
 refine ab (aV (k:=aa ?_))
 exact af λw hw=>rq_ r h hF hw
abbrev r_vers_Merge(r:(List Ver)×Int)(U:List Rowb)(Γ:Gh)(v:Value):Prop := ∃(A0:Option Addr), ∃(c0:Nat), ∃(row0:Rowb),v = .tuple #[.slice A0 r.1.length c0,.int .i64 r.2]∧U = [row0]∧Own verT Γ 89 row0 A0 c0 r.1∧I64 r.2∧True
theorem t_vers_Merge{Aa:Option Addr}{ca:Nat}{a:List Ver}(ha:Sl verT Γ Aa a)(hac:a.length≤ca){Ab:Option Addr}{cb:Nat}{b:List Ver}(hb:Sl verT Γ Ab b)(hbc:b.length≤cb)(hp:Pre [] Γ w0){r:(List Ver)×Int}(h:m_vers_Merge a b=some r):Calls Tryz.prog 95 #[.slice Aa a.length ca,.slice Ab b.length cb] w0 (Outc Γ [] w0 (r_vers_Merge r)):=by
 refine goV [4,5] func95 ntmps95 results95 hp λF hF=>?_
 refine ab ?_
 refine bxV (v:=.slice Aa a.length ca) λg1=>?_
 refine bxV (v:=.slice Ab b.length cb) λg2=>?_
 refine aV (k:=aV (k:=aa (ac (ab (sV (ldV 1 isAgg43) (k:=?_))))))
 obtain⟨z3,hz4,h⟩:=bnd h
 refine vqV (caV call111) (λw hw=>t_vers_Right (Γ:=Gh.all w) (ha.mono hw.sat.le_all) hac (Sat.all w) hz4) (k:=sV q_not (k:=mV (k:=vG0 (h:=λhg5=>ldV 0 isAgg43) (k:=?_))))
 obtain⟨z7,hz8,h⟩:=bnd h
 refine vC0 (h:=λhg6=>q_call (call_run call111 rfl rfl (args1 (grV hg6))) (λw hw=>t_vers_Right (Γ:=Gh.all w) (hb.mono hw.sat.le_all) hbc (Sat.all w) (gc_of hz8 hg6))) (k:=vG0 (h:=λhg9=>q_not rfl (grV hg9)) (k:=sV pkO (k:=aa ?_)))
 refine ciV h (λhb10 h=>?_) (λhb10 h=>?_)
 ·
  refine ab (aV (k:=aV (k:=aa ?_)))
  refine af ?_
  intro w hw
  have hw:=hw.pad
  exact re_ r [0] h hF hw ⟨none,0,[],rfl,rfl,(Own.nil verT _ 89),iV,trivial⟩
 refine ag (wc_ (ab ?_))
 refine alV zeroValue43 λg11=>?_
 refine aa (ab (sV (q_mkfn (v:=.func (.func 129) #[] #[(pq g1),(pq g2),(pq g11)]) rfl (by kernel_rfl)) (k:=aU (v:=.func (.func 129) #[] #[(pq g1),(pq g2),(pq g11)]) (k:=aa (ab (aV (k:=aa ?_)))))))
 refine ac (ab (aV (k:=aV (k:=aa (ai ?_)))))
 refine ay h (λ(s:Bool×Int×Int×(List Ver)) σ w=>match s with | (twin_14,i_15,k_17,x19) => ∃(Γ12:Gh), ∃(A20:Option Addr), ∃(c21:Nat), ∃(row22:Rowb),slots σ [(2,(pq g1)),(3,(pq g2)),(6,(pq g11)),(7,.func (.func 129) #[] #[(pq g1),(pq g2),(pq g11)]),(8,.bool twin_14),(9,ii i_15),(10,ii k_17)]∧CC F Γ12 [row22,[(g11,.cells #[.slice A20 x19.length c21] 43 (0,0))],[(g2,.cells #[.slice Ab b.length cb] 43 (0,0))],[(g1,.cells #[.slice Aa a.length ca] 43 (0,0))]] w∧Gh.le Γ Γ12∧I64 i_15∧I64 k_17∧Own verT Γ12 89 row22 A20 c21 x19∧True) ?_ ?_
 ·
  intro w hw
  have hw:=hw.pad
  exact⟨Γ,none,0,[],slK,hw,gR,iV,iV,(Own.nil verT _ 89),trivial⟩
 rintro f24 ⟨twin_14,i_15,k_17,x19⟩ σ w h ⟨Γ12,A20,c21,row22,hsl,hw,hl13,hr16,hr18,ho23,-⟩
 refine slV hsl hw [_,_,_,_] ?_; clear hw hsl
 refine ac (ab (mV (k:=sV (ldV 3 isAgg43) (k:=sV (q_len_slice rfl underlying43) (k:=sV q_lss (k:=mV (k:=vG0 (h:=λhg28=>moV) (k:=?_))))))))
 refine vG0 (h:=λhg29=>ldV 2 isAgg43) (k:=vG0 (h:=λhg30=>q_len_slice rfl underlying43 (grV hg30)) (k:=vG0 (h:=λhg31=>q_lss rfl (grV hg31) (grV hg31)) (k:=sV pkO (k:=aa ?_))))
 refine ciV h (λhb32 h=>?_) (λhb32 h=>?_)
 ·
  refine ag (wc_ (ai (ai (ac ?_))))
  refine drV ?_
  refine zV moV (k:=zV (ldV 2 isAgg43) (k:=zV (q_len_slice rfl underlying43) (k:=zV q_eql (k:=zV moV (k:=wG0 (h:=λhg33=>moV) (k:=wG0 (h:=λhg34=>ldV 3 isAgg43) (k:=wG0 (h:=λhg35=>q_len_slice rfl underlying43 (grV hg35)) (k:=?_))))))))
  refine wG0 (h:=λhg36=>q_lss rfl (grV hg36) (grV hg36)) (k:=wG0 (h:=λhg37=>q_move (v:=.bool (decide (i_15<(a.length:Int)))) rfl (grV hg37)) (k:=wh1 (c0:=(!(k_17==(b.length:Int)))) (g:=(decide (i_15<(a.length:Int)))) rfl rfl rfl rfl rfl (λ_=>QV.qo (ldV 3 isAgg43)) (wh1 (c0:=(!(k_17==(b.length:Int)))) (g:=(decide (i_15<(a.length:Int)))) rfl rfl rfl rfl rfl (λ_=>QV.qo moV) ?_)))
  obtain⟨hk41,h⟩:=chk_some h
  refine wh1 (c0:=(!(k_17==(b.length:Int)))) (g:=(decide (i_15<(a.length:Int)))) rfl rfl rfl rfl rfl (λhg40=>QV.qo (q_ix underlying43 sizeOf89 rfl (grV hg40) (grV hg40) (imp_of hk41 hg40) ((ha.mono hl13).some_ (inb_lt (imp_of hk41 hg40))))) (wh1 (c0:=(!(k_17==(b.length:Int)))) (g:=(decide (i_15<(a.length:Int)))) rfl rfl rfl rfl rfl (λhg42=>QV.qo (q_field_addr (i_15.toNat*5) fld_89_0 rfl (grV hg42) ((ha.mono hl13).some_ (inb_lt (imp_of hk41 hg42))) rfl)) ?_)
  obtain⟨A44,c45,hx46⟩:=(ha.mono hl13).verT_at i_15.toNat
  refine wh1 (c0:=(!(k_17==(b.length:Int)))) (g:=(decide (i_15<(a.length:Int)))) rfl rfl rfl rfl rfl (λhg43=>QV.qo (q_lda (c:=0) (vs:=[ii (gt a i_15.toNat).dot.s,ii (gt a i_15.toNat).dot.n]) (hx46 (inb_lt (imp_of hk41 hg43))).2 rfl isAgg86 sizeOf86 (grV hg43) rfl rfl)) (wh1 (c0:=(!(k_17==(b.length:Int)))) (g:=(decide (i_15<(a.length:Int)))) rfl rfl rfl rfl rfl (λ_=>QV.qo (ldV 2 isAgg43)) (wh1 (c0:=(!(k_17==(b.length:Int)))) (g:=(decide (i_15<(a.length:Int)))) rfl rfl rfl rfl rfl (λ_=>QV.qo moV) ?_))
  obtain⟨hk50,h⟩:=chk_some h
  refine wh1 (c0:=(!(k_17==(b.length:Int)))) (g:=(decide (i_15<(a.length:Int)))) rfl rfl rfl rfl rfl (λhg49=>QV.qo (q_ix underlying43 sizeOf89 rfl (grV hg49) (grV hg49) (imp_of hk50 hg49) ((hb.mono hl13).some_ (inb_lt (imp_of hk50 hg49))))) (wh1 (c0:=(!(k_17==(b.length:Int)))) (g:=(decide (i_15<(a.length:Int)))) rfl rfl rfl rfl rfl (λhg51=>QV.qo (q_field_addr (k_17.toNat*5) fld_89_0 rfl (grV hg51) ((hb.mono hl13).some_ (inb_lt (imp_of hk50 hg51))) rfl)) ?_)
  obtain⟨A53,c54,hx55⟩:=(hb.mono hl13).verT_at k_17.toNat
  refine wh1 (c0:=(!(k_17==(b.length:Int)))) (g:=(decide (i_15<(a.length:Int)))) rfl rfl rfl rfl rfl (λhg52=>QV.qo (q_lda (c:=0) (vs:=[ii (gt b k_17.toNat).dot.s,ii (gt b k_17.toNat).dot.n]) (hx55 (inb_lt (imp_of hk50 hg52))).2 rfl isAgg86 sizeOf86 (grV hg52) rfl rfl)) ?_
  obtain⟨z57,hz58,h⟩:=bnd h
  refine wh1 (c0:=(!(k_17==(b.length:Int)))) (g:=(decide (i_15<(a.length:Int)))) rfl rfl rfl rfl rfl (λhg56=>(q_call (call_run call132 rfl rfl (args2 (grV hg56) (grV hg56))) (λw hw=>t_vers_before (Γ:=Gh.all w) ((gt a i_15.toNat).dot) ⟨(hx46 (inb_lt (imp_of hk41 hg56))).1.1,(hx46 (inb_lt (imp_of hk41 hg56))).1.2.1⟩ ((gt b k_17.toNat).dot) ⟨(hx55 (inb_lt (imp_of hk50 hg56))).1.1,(hx55 (inb_lt (imp_of hk50 hg56))).1.2.1⟩ (Sat.all w) (gc_of hz58 hg56)))) (wG0 (h:=λhg59=>q_pick rfl (grV hg59) (pk_and (c:=(!(k_17==(b.length:Int)))) (g:=(decide (i_15<(a.length:Int)))) (y:=z57) hg59)) (k:=zV pkO (k:=zV aoV (k:=?_))))
  refine ao ?_
  change WC _ _ _ _ _ _
  refine ciV h (λhb60 h=>?_) (λhb60 h=>?_)
  ·
   refine ab (mU (v:=.func (.func 129) #[] #[(pq g1),(pq g2),(pq g11)]) (k:=sV (ldV 3 isAgg43) (k:=mV (k:=?_))))
   obtain⟨hk61,h⟩:=chk_some h
   refine sV (q_ix underlying43 sizeOf89 rfl rfl rfl hk61 ((ha.mono hl13).some_ (inb_lt hk61))) (k:=sV (q_lda (c:=0) (vs:=(Ver.cs A44 c45 (gt a i_15.toNat))) (hx46 (inb_lt hk61)).2 rfl isAgg89 sizeOf89 rfl rfl rfl) (k:=?_))
   obtain⟨z62,hz63,h⟩:=bnd h
   refine ecV [3,2,1,0] (call_run_fv (caps:=#[(pq g1),(pq g2),(pq g11)]) call129 rfl (by kernel_rfl) (by kernel_rfl)) (λw hp=>t_vers_Merge_1 (gt a i_15.toNat) (hx46 (inb_lt hk61)).1 (ha.mono hl13) hac (hb.mono hl13) hbc ho23 hp hz63) ?_
   rintro Γ64 _ _ hl65 ⟨A68,c69,row70,rfl,rfl,hr71,_⟩
   refine cwV 67 [_,_,_,_] (aa ?_)
   refine ah ?_
   refine mV (k:=sV q_add (k:=aV (k:=?_)))
   exact ae λw hw=>⟨(twin_14,(w64 (i_15+1)),k_17,z62),h,Γ64,A68,c69,row70,slK,(hw.on [3,2,1,0]),(hl13.trans hl65),(w64_r _),hr18,hr71,trivial⟩
  refine ac ?_
  refine drV ?_
  refine zV moV (k:=zV (ldV 3 isAgg43) (k:=zV (q_len_slice rfl underlying43) (k:=zV q_lss (k:=zV moV (k:=wG1 (h:=λhg72=>ldV 3 isAgg43) (k:=wG1 (h:=λhg73=>moV) (k:=?_)))))))
  obtain⟨hk75,h⟩:=chk_some h
  refine wG1 (h:=λhg74=>q_ix underlying43 sizeOf89 rfl (grV hg74) (grV hg74) (imp_of hk75 hg74) ((ha.mono hl13).some_ (inb_lt (imp_of hk75 hg74)))) (k:=wG1 (h:=λhg76=>q_field_addr (i_15.toNat*5) fld_89_0 rfl (grV hg76) ((ha.mono hl13).some_ (inb_lt (imp_of hk75 hg76))) rfl) (k:=wG1 (h:=λhg77=>q_lda (c:=0) (vs:=[ii (gt a i_15.toNat).dot.s,ii (gt a i_15.toNat).dot.n]) (hx46 (inb_lt (imp_of hk75 hg77))).2 rfl isAgg86 sizeOf86 (grV hg77) rfl rfl) (k:=wG1 (h:=λhg78=>ldV 2 isAgg43) (k:=wG1 (h:=λhg79=>moV) (k:=?_)))))
  obtain⟨hk81,h⟩:=chk_some h
  refine wG1 (h:=λhg80=>q_ix underlying43 sizeOf89 rfl (grV hg80) (grV hg80) (imp_of hk81 hg80) ((hb.mono hl13).some_ (inb_lt (imp_of hk81 hg80)))) (k:=wG1 (h:=λhg82=>q_field_addr (k_17.toNat*5) fld_89_0 rfl (grV hg82) ((hb.mono hl13).some_ (inb_lt (imp_of hk81 hg82))) rfl) (k:=wG1 (h:=λhg83=>q_lda (c:=0) (vs:=[ii (gt b k_17.toNat).dot.s,ii (gt b k_17.toNat).dot.n]) (hx55 (inb_lt (imp_of hk81 hg83))).2 rfl isAgg86 sizeOf86 (grV hg83) rfl rfl) (k:=wG1 (h:=λhg84=>q_eql_Dot (a:=(gt a i_15.toNat).dot) (b:=(gt b k_17.toNat).dot) rfl (grV hg84) (grV hg84)) (k:=zV pkA (k:=zV aoV (k:=?_))))))
  refine ao ?_
  change WC _ _ _ _ _ _
  refine ciV h (λhb85 h=>?_) (λhb85 h=>?_)
  ·
   refine ac ?_
   refine drV ?_
   refine zV moV (k:=zV moV (k:=wG0 (h:=λhg86=>ldV 3 isAgg43) (k:=wG0 (h:=λhg87=>moV) (k:=?_))))
   obtain⟨hk89,h⟩:=chk_some h
   refine wG0 (h:=λhg88=>q_ix underlying43 sizeOf89 rfl (grV hg88) (grV hg88) (imp_of hk89 hg88) ((ha.mono hl13).some_ (inb_lt (imp_of hk89 hg88)))) (k:=wG0 (h:=λhg90=>q_lda (c:=0) (vs:=(Ver.cs A44 c45 (gt a i_15.toNat))) (hx46 (inb_lt (imp_of hk89 hg90))).2 rfl isAgg89 sizeOf89 (grV hg90) rfl rfl) (k:=wG0 (h:=λhg91=>ldV 2 isAgg43) (k:=wG0 (h:=λhg92=>moV) (k:=?_))))
   obtain⟨hk94,h⟩:=chk_some h
   refine wG0 (h:=λhg93=>q_ix underlying43 sizeOf89 rfl (grV hg93) (grV hg93) (imp_of hk94 hg93) ((hb.mono hl13).some_ (inb_lt (imp_of hk94 hg93)))) (k:=wG0 (h:=λhg95=>q_lda (c:=0) (vs:=(Ver.cs A53 c54 (gt b k_17.toNat))) (hx55 (inb_lt (imp_of hk94 hg95))).2 rfl isAgg89 sizeOf89 (grV hg95) rfl rfl) (k:=?_))
   obtain⟨z97,hz98,h⟩:=bnd h
   refine wC0 (h:=λhg96=>q_call (call_run call133 rfl rfl (args2 (grV hg96) (grV hg96))) (λw hw=>t_vers_same (Γ:=Gh.all w) (gt a i_15.toNat) (Ver.fits_mono (hx46 (inb_lt (imp_of hk89 hg96))).1 hw.sat.le_all) (gt b k_17.toNat) (Ver.fits_mono (hx55 (inb_lt (imp_of hk94 hg96))).1 hw.sat.le_all) (Sat.all w) (gc_of hz98 hg96))) (k:=wG0 (h:=λhg99=>q_not rfl (grV hg99)) (k:=zV pkO (k:=zV aoV (k:=?_))))
   refine ao ?_
   change WC _ _ _ _ _ _
   refine ah ?_
   refine mV (k:=sV q_add (k:=aV (k:=?_)))
   exact ae λw hw=>⟨((twin_14||(!z97)),(w64 (i_15+1)),k_17,x19),h,Γ12,A20,c21,row22,slK,hw,hl13,(w64_r _),hr18,ho23,trivial⟩
  refine ab (mU (v:=.func (.func 129) #[] #[(pq g1),(pq g2),(pq g11)]) (k:=sV (ldV 2 isAgg43) (k:=mV (k:=?_))))
  obtain⟨hk100,h⟩:=chk_some h
  refine sV (q_ix underlying43 sizeOf89 rfl rfl rfl hk100 ((hb.mono hl13).some_ (inb_lt hk100))) (k:=sV (q_lda (c:=0) (vs:=(Ver.cs A53 c54 (gt b k_17.toNat))) (hx55 (inb_lt hk100)).2 rfl isAgg89 sizeOf89 rfl rfl rfl) (k:=?_))
  obtain⟨z101,hz102,h⟩:=bnd h
  refine ecV [3,2,1,0] (call_run_fv (caps:=#[(pq g1),(pq g2),(pq g11)]) call129 rfl (by kernel_rfl) (by kernel_rfl)) (λw hp=>t_vers_Merge_1 (gt b k_17.toNat) (hx55 (inb_lt hk100)).1 (ha.mono hl13) hac (hb.mono hl13) hbc ho23 hp hz102) ?_
  rintro Γ103 _ _ hl104 ⟨A107,c108,row109,rfl,rfl,hr110,_⟩
  refine cwV 35 [_,_,_,_] (aa ?_)
  refine ah ?_
  refine mV (k:=sV q_add (k:=aV (k:=?_)))
  exact ae λw hw=>⟨(twin_14,i_15,(w64 (k_17+1)),z101),h,Γ103,A107,c108,row109,slK,(hw.on [3,2,1,0]),(hl13.trans hl104),hr16,(w64_r _),hr110,trivial⟩
 refine aj ?_
 change WC _ _ _ _ _ _
 refine ac (ai (ab (mV (k:=aV (k:=aa ?_)))))
 refine ciV h (λhb111 h=>?_) (λhb111 h=>?_)
 ·
  refine ab (aV (k:=aV (k:=aa ?_)))
  refine af ?_
  intro w hw
  have hw:=hw.pad
  exact re_ r [0] h hF hw ⟨none,0,[],rfl,rfl,(Own.nil verT _ 89),iV,trivial⟩
 refine ab (sV (ldV 1 isAgg43) (k:=sV (q_len_slice rfl underlying43) (k:=sV q_gtr (k:=aV (k:=aa ?_)))))
 refine ciV h (λhb112 h=>?_) (λhb112 h=>?_)
 ·
  refine ab (aV (k:=aV (k:=aa ?_)))
  refine af ?_
  intro w hw
  have hw:=hw.pad
  exact re_ r [0] h hF hw ⟨none,0,[],rfl,rfl,(Own.nil verT _ 89),iV,trivial⟩
 refine ag (wc_ (ab (sV (ldV 1 isAgg43) (k:=aV (k:=aV (k:=aa ?_))))))
 exact af λw hw=>re_ r [0] h hF hw ⟨A20,c21,row22,rfl,rfl,ho23,iV,trivial⟩
theorem t_vers_Same{Aa:Option Addr}{ca:Nat}{a:List Ver}(ha:Sl verT Γ Aa a)(hac:a.length≤ca){Ab:Option Addr}{cb:Nat}{b:List Ver}(hb:Sl verT Γ Ab b)(hbc:b.length≤cb)(hs:Sat Γ w0){r:Bool}(h:m_vers_Same a b=some r):CQ Tryz.prog 96 #[.slice Aa a.length ca,.slice Ab b.length cb] w0 (.bool r):=by
 refine goQ [4] func96 ntmps96 results96 hs λF hF=>?_
 refine ab (aV (k:=aa (ac (ab (mV (k:=sV (q_len_slice rfl underlying43) (k:=mV (k:=?_))))))))
 refine sV (q_len_slice rfl underlying43) (k:=sV q_min (k:=mV (k:=aa (ai ?_))))
 refine ax h (λ(i2:Nat) (s:Unit) σ w=>match s with | ()=>slots σ [(0,.slice Aa a.length ca),(1,.slice Ab b.length cb),(10,ii (min (a.length:Int) (b.length:Int))),(11,ii (i2:Int))]∧CC F Γ [] w∧True) ?_ ?_
 ·
  intro w hw
  exact⟨slK,hw,trivial⟩
 rintro f1 i2 ⟨⟩ σ w hi3 hlt4 hge5 ⟨hsl,hw,-⟩
 refine slV hsl hw [] ?_; clear hw hsl
 refine ab (sV q_lss (k:=aa (ac ?_)))
 refine coV (λhb6=>?_) (λhb6=>?_)
 ·
  have hl7:=ilti hb6
  have h:=hlt4 hl7
  refine ag (wc_ (ac (ai (ab (mV (k:=aV (k:=aa ?_)))))))
  refine ac ?_
  refine drV ?_
  refine zV moV (k:=zV moV (k:=?_))
  obtain⟨hk8,h⟩:=chk_some h
  refine zV (q_ixn (i:=i2) underlying43 sizeOf89 rfl rfl rfl (of_decide_eq_true hk8) (ha.some_ (of_decide_eq_true hk8))) (k:=?_)
  obtain⟨A9,c10,hx11⟩:=ha.verT_at i2
  refine zV (q_lda (c:=0) (vs:=(Ver.cs A9 c10 (gt a i2))) (hx11 (of_decide_eq_true hk8)).2 rfl isAgg89 sizeOf89 rfl rfl rfl) (k:=zV moV (k:=zV moV (k:=?_)))
  obtain⟨hk12,h⟩:=chk_some h
  refine zV (q_ixn (i:=i2) underlying43 sizeOf89 rfl rfl rfl (of_decide_eq_true hk12) (hb.some_ (of_decide_eq_true hk12))) (k:=?_)
  obtain⟨A13,c14,hx15⟩:=hb.verT_at i2
  refine zV (q_lda (c:=0) (vs:=(Ver.cs A13 c14 (gt b i2))) (hx15 (of_decide_eq_true hk12)).2 rfl isAgg89 sizeOf89 rfl rfl rfl) (k:=?_)
  obtain⟨z16,hz17,h⟩:=bnd h
  refine wc rfl rfl rfl (q_call (caV call133) (λw hw=>t_vers_same (Γ:=Gh.all w) (gt a i2) (Ver.fits_mono (hx11 (of_decide_eq_true hk8)).1 hw.sat.le_all) (gt b i2) (Ver.fits_mono (hx15 (of_decide_eq_true hk12)).1 hw.sat.le_all) (Sat.all w) hz17)) (zV q_not (k:=?_))
  refine ao ?_
  change WC _ _ _ _ _ _
  refine ciV h (λhb18 h=>?_) (λhb18 h=>?_)
  ·
   refine ab (aV (k:=aa ?_))
   exact af λw hw=>rq_ r h hF hw
  refine ag (wc_ ?_)
  refine ah ?_
  refine sV (q_add_r rfl rfl rfl (ctr_int hl7 (min_r (len_r ha.le) (len_r hb.le)))) (k:=mV (k:=?_))
  exact ae λw hw=>⟨hl7,(),h,slK,hw,trivial⟩
 have h:=hge5 (igei hb6)
 refine aj ?_
 change WC _ _ _ _ _ _
 refine ab (mV (k:=sV (q_len_slice rfl underlying43) (k:=mV (k:=sV (q_len_slice rfl underlying43) (k:=sV q_eql (k:=aV (k:=aa ?_)))))))
 exact af λw hw=>rq_ r h hF hw
abbrev r_num_PutNum(r:List UInt8)(U:List Rowb)(Γ:Gh)(v:Value):Prop := ∃(A0:Option Addr), ∃(c0:Nat), ∃(row0:Rowb),v = .slice A0 r.length c0∧U = [row0]∧Own byteT Γ 5 row0 A0 c0 r∧True
theorem t_num_PutNum(n:Int)(hn:I64 n)(hp:Pre [] Γ w0){r:List UInt8}(h:m_num_PutNum n=some r):Calls Tryz.prog 171 #[ii n] w0 (Outc Γ [] w0 (r_num_PutNum r)):=by
 refine goV [2] func171 ntmps171 results171 hp λF hF=>?_
 refine ab (aV (k:=aa (ab (aV (k:=aa (ab (mV (k:=?_))))))))
 refine sV q_max (k:=sV (q_conv underlying82 underlying2) (k:=aV (k:=aa (ac (ai ?_)))))
 refine ay h (λ(s:(List UInt8)×Int) σ w=>match s with | (b_1,u_6) => ∃(A2:Option Addr), ∃(c3:Nat), ∃(row4:Rowb),slots σ [(3,.slice A2 b_1.length c3),(4,.int .u64 u_6)]∧CC F Γ [row4] w∧Own byteT Γ 5 row4 A2 c3 b_1∧True) ?_ ?_
 ·
  intro w hw
  have hw:=hw.pad
  exact⟨none,0,[],slK,hw,(Own.nil byteT _ 5),trivial⟩
 rintro f7 ⟨b_1,u_6⟩ σ w h ⟨A2,c3,row4,hsl,hw,ho5,-⟩
 refine slV hsl hw [_] ?_; clear hw hsl
 refine ac (ab (mV (k:=sV q_gtr (k:=aa ?_))))
 refine ciV h (λhb11 h=>?_) (λhb11 h=>?_)
 ·
  refine ag (wc_ (ac (ai ?_)))
  refine ah ?_
  refine mV (k:=mV (k:=sV (q_conv underlying5 underlying82) (k:=sV q_or (k:=?_))))
  refine bsV #[.int .u8 (ior .u8 (wu8 u_6) 128)] 5 λg12=>?_
  obtain⟨hk13,h⟩:=chk_some h
  obtain⟨hk14,h⟩:=chk_some h
  refine apV 1 [(b8 (ior .u8 (wu8 u_6) 128))] elem_77 ho5 (of_decide_eq_true hk14) (λw hw=>src_one (i:=0) rfl (by exact(by show [Value.int .u8 (ior .u8 (wu8 u_6) 128)] = [Value.int .u8 _]; rw [b8_val (u8b_of hk13)])) hw) ?_
  intro row15 A16 c17 ho18
  refine aV (k:=?_)
  refine ae ?_
  change WC _ _ _ _ _ _
  refine ah ?_
  refine mV (k:=sV (q_shr rfl rfl rfl (by decide)) (k:=aV (k:=?_)))
  exact ae λw hw=>⟨((b_1++[(b8 (ior .u8 (wu8 u_6) 128))]),(ishr .u64 u_6 7)),h,A16,c17,row15,slK,(hw.on [1]),ho18,trivial⟩
 refine aj ?_
 change WC _ _ _ _ _ _
 refine ab (mV (k:=mV (k:=sV (q_conv underlying5 underlying82) (k:=?_))))
 refine bsV #[.int .u8 (wu8 u_6)] 5 λg19=>?_
 obtain⟨hk20,h⟩:=chk_some h
 refine apV 1 [(b8 (wu8 u_6))] elem_77 ho5 (of_decide_eq_true hk20) (λw hw=>src_one (i:=0) rfl (by exact(by show [Value.int .u8 (wu8 u_6)] = [Value.int .u8 _]; rw [b8_val (wu8_r _)])) hw) ?_
 intro row21 A22 c23 ho24
 refine aV (k:=aa ?_)
 exact af λw hw=>re_ r [1] h hF hw ⟨A22,c23,row21,rfl,rfl,ho24,trivial⟩
abbrev r_num_PutText(r:List UInt8)(U:List Rowb)(Γ:Gh)(v:Value):Prop := ∃(A0:Option Addr), ∃(c0:Nat), ∃(row0:Rowb),v = .slice A0 r.length c0∧U = [row0]∧Own byteT Γ 5 row0 A0 c0 r∧True
theorem t_num_PutText(s_:ByteArray)(hs_:s_.size≤lim)(hp:Pre [] Γ w0){r:List UInt8}(h:m_num_PutText s_=some r):Calls Tryz.prog 195 #[.string s_] w0 (Outc Γ [] w0 (r_num_PutText r)):=by
 refine goV [2] func195 ntmps195 results195 hp λF hF=>?_
 refine ab (aV (k:=aa (ab (mV (k:=sV (q_len_str rfl underlying9) (k:=?_))))))
 obtain⟨z1,hz2,h⟩:=bnd h
 refine ecV [] (caV call171) (λw hp=>t_num_PutNum (s_.size:Int) (len_r hs_) hp hz2) ?_
 rintro Γ3 _ _ hl4 ⟨A7,c8,row9,rfl,rfl,hr10,_⟩
 refine cwV 5 [_] (mV (k:=?_))
 obtain⟨hk11,h⟩:=chk_some h
 refine e_append_str (xs:=z1) (s:=s_) (ti:=t5) underlying77 underlying9 (by kernel_rfl) (by kernel_rfl) (by kernel_rfl) (by kernel_rfl) (i:=0) rfl rfl rfl rfl rfl rfl rfl hr10 (of_decide_eq_true hk11) ?_
 intro row12 A13 c14 ho15
 refine aV (k:=aa ?_)
 exact af λw hw=>re_ r [0] h hF hw ⟨A13,c14,row12,rfl,rfl,ho15,trivial⟩
abbrev r_code_writer_text(gw_:Nat)(ew_:Nat)(r:Ocode_writer)(U:List Rowb)(Γ:Gh)(v:Value):Prop := ∃(roww_':Rowb),v = .tuple #[]∧U = [roww_']∧Ocode_writer.ob ew_ Γ gw_ roww_' r∧True
theorem t_code_writer_text{gw_ ew_:Nat}{roww_:Rowb}{w_:Ocode_writer}(hw_:Ocode_writer.ob ew_ Γ gw_ roww_ w_)(s_:ByteArray)(hs_:s_.size≤lim)(hp:Pre [roww_] Γ w0){r:Ocode_writer}(h:m_code_writer_text w_ s_=some r):Calls Tryz.prog 168 #[(pq gw_),.string s_] w0 (Outc Γ [roww_] w0 (r_code_writer_text gw_ ew_ r)):=by
 refine goV [] func168 ntmps168 results168 hp λF hF=>?_
 refine leV λh01=>?_
 refine held_ (CC F Γ []) (bo_ [] gR h01) λk=>?_
 change WH _ _ _ _ (CC F Γ [_]) _ 11 _ _
 refine hV 0 k (q:=moV) (k:=hV 1 k (q:=moV) (k:=hV 2 k (q:=nlV) (k:=hV 3 k (q:=q_fl 0 fld_202_0) (k:=hV 5 k (q:=moV) (k:=?_)))))
 obtain⟨z2,hz3,h⟩:=bnd h
 refine WH.each (l:=[4,6]) (by kernel_rfl) (by simp) ?_
 intro i hi; simp only [List.mem_cons,List.not_mem_nil,or_false] at hi
 rcases hi with rfl | rfl
 ·
  refine⟨_,rfl,?_⟩
  obtain⟨A0_4,c0_4,r0_4,hrow_4,ho0_4,-⟩:=id hw_
  refine ufR 0 hrow_4 [_,_] ?_
  refine sV (ldV 0 isAgg77) (k:=?_)
  refine ae (nxV (bo_ [] gR h01) λk=>?_)
  refine wl_ 6 rfl ?_
  refine ecV [] (caV call195) (λw hp=>t_num_PutText s_ hs_ hp hz3) ?_
  rintro Γ5 _ _ hl6 ⟨A9,c10,row11,rfl,rfl,hr12,_⟩
  refine cwV 10 [_,_,_] ?_
  refine ae (nxV (bo_ [] hl6 h01) λk=>?_)
  refine wl_ 7 rfl ?_
  obtain⟨hk13,h⟩:=chk_some h
  refine apV 2 z2 elem_77 (ho0_4.mono hl6) (of_decide_eq_true hk13) (λw hw=>src_own (i:=0) rfl hr12 hw) ?_
  intro row14 A15 c16 ho17
  refine ae (nxV (bo_ [] hl6 h01) λk=>?_)
  refine hV 8 k (q:=nlV) (k:=hV 9 k (q:=q_fl 0 fld_202_0) (k:=wl_ 10 rfl (stV 1 (.slice A15 (w_.b++z2).length c16) #[.slice A15 (w_.b++z2).length c16] sizeOf77 (k:=?_))))
  refine ae (nxV (bo_ [] hl6 h01) λk=>?_)
  refine am (by kernel_rfl) ?_
  intro w hw
  obtain⟨row_18,hrow_18,hob_18⟩:∃rw:Rowb,rw=([[(gw_,.cells #[.slice A15 (w_.b++z2).length c16] ew_ (0,0))],row14]:List Rowb).flatten∧Ocode_writer.ob ew_ Γ5 gw_ rw (⟨(w_.b++z2)⟩:Ocode_writer):=⟨_,rfl,A15,c16,row14,rfl,ho17,trivial⟩
  have hw:=hw.fold (is:=[1,1]) rfl hrow_18
  cases h
  subst hF
  exact end_e (is:=[0]) (by kernel_rfl) hw rfl ⟨row_18,rfl,rfl,hob_18,trivial⟩
 refine⟨_,rfl,?_⟩
 refine ecV [] (caV call195) (λw hp=>t_num_PutText s_ hs_ hp hz3) ?_
 rintro Γ4 _ _ hl5 ⟨A8,c9,row10,rfl,rfl,hr11,_⟩
 refine cwV 10 [_,_] ?_
 refine ae (nxV (bo_ [] hl5 h01) λk=>?_)
 refine wl_ 4 rfl ?_
 obtain⟨A0_12,c0_12,r0_12,hrow_12,ho0_12,-⟩:=(hw_.mono hl5)
 refine ufR 1 hrow_12 [_,_,_] ?_
 refine sV (ldV 0 isAgg77) (k:=?_)
 refine ae (nxV (bo_ [] hl5 h01) λk=>?_)
 refine wl_ 7 rfl ?_
 obtain⟨hk13,h⟩:=chk_some h
 refine apV 1 z2 elem_77 ho0_12 (of_decide_eq_true hk13) (λw hw=>src_own (i:=2) rfl hr11 hw) ?_
 intro row14 A15 c16 ho17
 refine ae (nxV (bo_ [] hl5 h01) λk=>?_)
 refine hV 8 k (q:=nlV) (k:=hV 9 k (q:=q_fl 0 fld_202_0) (k:=wl_ 10 rfl (stV 0 (.slice A15 (w_.b++z2).length c16) #[.slice A15 (w_.b++z2).length c16] sizeOf77 (k:=?_))))
 refine ae (nxV (bo_ [] hl5 h01) λk=>?_)
 refine am (by kernel_rfl) ?_
 intro w hw
 obtain⟨row_18,hrow_18,hob_18⟩:∃rw:Rowb,rw=([[(gw_,.cells #[.slice A15 (w_.b++z2).length c16] ew_ (0,0))],row14]:List Rowb).flatten∧Ocode_writer.ob ew_ Γ4 gw_ rw (⟨(w_.b++z2)⟩:Ocode_writer):=⟨_,rfl,A15,c16,row14,rfl,ho17,trivial⟩
 have hw:=hw.fold (is:=[0,0]) rfl hrow_18
 cases h
 subst hF
 exact end_e (is:=[0]) (by kernel_rfl) hw rfl ⟨row_18,rfl,rfl,hob_18,trivial⟩
abbrev r_code_writer_num(gw_:Nat)(ew_:Nat)(r:Ocode_writer)(U:List Rowb)(Γ:Gh)(v:Value):Prop := ∃(roww_':Rowb),v = .tuple #[]∧U = [roww_']∧Ocode_writer.ob ew_ Γ gw_ roww_' r∧True
theorem t_code_writer_num{gw_ ew_:Nat}{roww_:Rowb}{w_:Ocode_writer}(hw_:Ocode_writer.ob ew_ Γ gw_ roww_ w_)(n:Int)(hn:I64 n)(hp:Pre [roww_] Γ w0){r:Ocode_writer}(h:m_code_writer_num w_ n=some r):Calls Tryz.prog 197 #[(pq gw_),ii n] w0 (Outc Γ [roww_] w0 (r_code_writer_num gw_ ew_ r)):=by
 refine goV [] func197 ntmps197 results197 hp λF hF=>?_
 refine leV λh01=>?_
 refine held_ (CC F Γ []) (bo_ [] gR h01) λk=>?_
 change WH _ _ _ _ (CC F Γ [_]) _ 11 _ _
 refine hV 0 k (q:=moV) (k:=hV 1 k (q:=moV) (k:=hV 2 k (q:=nlV) (k:=hV 3 k (q:=q_fl 0 fld_202_0) (k:=hV 5 k (q:=moV) (k:=?_)))))
 obtain⟨z2,hz3,h⟩:=bnd h
 refine WH.each (l:=[4,6]) (by kernel_rfl) (by simp) ?_
 intro i hi; simp only [List.mem_cons,List.not_mem_nil,or_false] at hi
 rcases hi with rfl | rfl
 ·
  refine⟨_,rfl,?_⟩
  obtain⟨A0_4,c0_4,r0_4,hrow_4,ho0_4,-⟩:=id hw_
  refine ufR 0 hrow_4 [_,_] ?_
  refine sV (ldV 0 isAgg77) (k:=?_)
  refine ae (nxV (bo_ [] gR h01) λk=>?_)
  refine wl_ 6 rfl ?_
  refine ecV [] (caV call171) (λw hp=>t_num_PutNum n hn hp hz3) ?_
  rintro Γ5 _ _ hl6 ⟨A9,c10,row11,rfl,rfl,hr12,_⟩
  refine cwV 10 [_,_,_] ?_
  refine ae (nxV (bo_ [] hl6 h01) λk=>?_)
  refine wl_ 7 rfl ?_
  obtain⟨hk13,h⟩:=chk_some h
  refine apV 2 z2 elem_77 (ho0_4.mono hl6) (of_decide_eq_true hk13) (λw hw=>src_own (i:=0) rfl hr12 hw) ?_
  intro row14 A15 c16 ho17
  refine ae (nxV (bo_ [] hl6 h01) λk=>?_)
  refine hV 8 k (q:=nlV) (k:=hV 9 k (q:=q_fl 0 fld_202_0) (k:=wl_ 10 rfl (stV 1 (.slice A15 (w_.b++z2).length c16) #[.slice A15 (w_.b++z2).length c16] sizeOf77 (k:=?_))))
  refine ae (nxV (bo_ [] hl6 h01) λk=>?_)
  refine am (by kernel_rfl) ?_
  intro w hw
  obtain⟨row_18,hrow_18,hob_18⟩:∃rw:Rowb,rw=([[(gw_,.cells #[.slice A15 (w_.b++z2).length c16] ew_ (0,0))],row14]:List Rowb).flatten∧Ocode_writer.ob ew_ Γ5 gw_ rw (⟨(w_.b++z2)⟩:Ocode_writer):=⟨_,rfl,A15,c16,row14,rfl,ho17,trivial⟩
  have hw:=hw.fold (is:=[1,1]) rfl hrow_18
  cases h
  subst hF
  exact end_e (is:=[0]) (by kernel_rfl) hw rfl ⟨row_18,rfl,rfl,hob_18,trivial⟩
 refine⟨_,rfl,?_⟩
 refine ecV [] (caV call171) (λw hp=>t_num_PutNum n hn hp hz3) ?_
 rintro Γ4 _ _ hl5 ⟨A8,c9,row10,rfl,rfl,hr11,_⟩
 refine cwV 10 [_,_] ?_
 refine ae (nxV (bo_ [] hl5 h01) λk=>?_)
 refine wl_ 4 rfl ?_
 obtain⟨A0_12,c0_12,r0_12,hrow_12,ho0_12,-⟩:=(hw_.mono hl5)
 refine ufR 1 hrow_12 [_,_,_] ?_
 refine sV (ldV 0 isAgg77) (k:=?_)
 refine ae (nxV (bo_ [] hl5 h01) λk=>?_)
 refine wl_ 7 rfl ?_
 obtain⟨hk13,h⟩:=chk_some h
 refine apV 1 z2 elem_77 ho0_12 (of_decide_eq_true hk13) (λw hw=>src_own (i:=2) rfl hr11 hw) ?_
 intro row14 A15 c16 ho17
 refine ae (nxV (bo_ [] hl5 h01) λk=>?_)
 refine hV 8 k (q:=nlV) (k:=hV 9 k (q:=q_fl 0 fld_202_0) (k:=wl_ 10 rfl (stV 0 (.slice A15 (w_.b++z2).length c16) #[.slice A15 (w_.b++z2).length c16] sizeOf77 (k:=?_))))
 refine ae (nxV (bo_ [] hl5 h01) λk=>?_)
 refine am (by kernel_rfl) ?_
 intro w hw
 obtain⟨row_18,hrow_18,hob_18⟩:∃rw:Rowb,rw=([[(gw_,.cells #[.slice A15 (w_.b++z2).length c16] ew_ (0,0))],row14]:List Rowb).flatten∧Ocode_writer.ob ew_ Γ4 gw_ rw (⟨(w_.b++z2)⟩:Ocode_writer):=⟨_,rfl,A15,c16,row14,rfl,ho17,trivial⟩
 have hw:=hw.fold (is:=[0,0]) rfl hrow_18
 cases h
 subst hF
 exact end_e (is:=[0]) (by kernel_rfl) hw rfl ⟨row_18,rfl,rfl,hob_18,trivial⟩
abbrev r_code_writer_int(gw_:Nat)(ew_:Nat)(r:Ocode_writer)(U:List Rowb)(Γ:Gh)(v:Value):Prop := ∃(roww_':Rowb),v = .tuple #[]∧U = [roww_']∧Ocode_writer.ob ew_ Γ gw_ roww_' r∧True
theorem t_code_writer_int{gw_ ew_:Nat}{roww_:Rowb}{w_:Ocode_writer}(hw_:Ocode_writer.ob ew_ Γ gw_ roww_ w_)(n:Int)(hn:I64 n)(hp:Pre [roww_] Γ w0){r:Ocode_writer}(h:m_code_writer_int w_ n=some r):Calls Tryz.prog 196 #[(pq gw_),ii n] w0 (Outc Γ [roww_] w0 (r_code_writer_int gw_ ew_ r)):=by
 refine goV [] func196 ntmps196 results196 hp λF hF=>?_
 refine ah ?_
 refine mV (k:=mV (k:=?_))
 obtain⟨z1,hz2,h⟩:=bnd h
 refine ecV [0] (caV call197) (λw hp=>t_code_writer_num hw_ n hn hp hz2) ?_
 rintro Γ3 _ _ hl4 ⟨row7,rfl,rfl,hr8,_⟩
 refine cwV 6 [_] ?_
 refine ae ?_
 intro w hw
 cases h
 subst hF
 exact end_e (is:=[0]) (by kernel_rfl) hw rfl ⟨row7,rfl,rfl,hr8,trivial⟩
abbrev r_code_writer_span(gw_:Nat)(ew_:Nat)(r:Ocode_writer)(U:List Rowb)(Γ:Gh)(v:Value):Prop := ∃(roww_':Rowb),v = .tuple #[]∧U = [roww_']∧Ocode_writer.ob ew_ Γ gw_ roww_' r∧True
theorem t_code_writer_span{gw_ ew_:Nat}{roww_:Rowb}{w_:Ocode_writer}(hw_:Ocode_writer.ob ew_ Γ gw_ roww_ w_)(x_:Span)(hx_:Span.fits Γ  x_)(hp:Pre [roww_] Γ w0){r:Ocode_writer}(h:m_code_writer_span w_ x_=some r):Calls Tryz.prog 199 #[(pq gw_),.agg (Span.cs x_).toArray] w0 (Outc Γ [roww_] w0 (r_code_writer_span gw_ ew_ r)):=by
 refine goV [] func199 ntmps199 results199 hp λF hF=>?_
 refine ab ?_
 refine bxV (v:=.agg (Span.cs x_).toArray) λg1=>?_
 refine aa (ab (mV (k:=sV (q_fl 0 fld_93_0) (k:=sV (ldV 0 isAgg3) (k:=?_)))))
 obtain⟨z2,hz3,h⟩:=bnd h
 refine ecV [1] (caV call196) (λw hp=>t_code_writer_int hw_ x_.s hx_.1 hp hz3) ?_
 rintro Γ4 _ _ hl5 ⟨row8,rfl,rfl,hr9,_⟩
 refine cwV 7 [_,_] (aa (ab (mV (k:=sV (q_fl 1 fld_93_1) (k:=sV (ldV 1 isAgg2) (k:=?_))))))
 obtain⟨z10,hz11,h⟩:=bnd h
 refine ecV [0] (caV call197) (λw hp=>t_code_writer_num hr9 x_.f hx_.2.1 hp hz11) ?_
 rintro Γ12 _ _ hl13 ⟨row16,rfl,rfl,hr17,_⟩
 refine cwV 11 [_,_] (aa ?_)
 refine ah ?_
 refine mV (k:=sV (q_fl 2 fld_93_2) (k:=sV (ldV 1 isAgg2) (k:=sV (q_fl 1 fld_93_1) (k:=sV (ldV 1 isAgg2) (k:=sV q_sub (k:=?_))))))
 obtain⟨z18,hz19,h⟩:=bnd h
 refine ecV [0] (caV call197) (λw hp=>t_code_writer_num hr17 (w64 (x_.t - x_.f)) (w64_r _) hp hz19) ?_
 rintro Γ20 _ _ hl21 ⟨row24,rfl,rfl,hr25,_⟩
 refine cwV 18 [_,_] ?_
 refine ae ?_
 intro w hw
 cases h
 subst hF
 exact end_e (is:=[0]) (by kernel_rfl) hw rfl ⟨row24,rfl,rfl,hr25,trivial⟩
abbrev r_code_put_api_Span(gw_:Nat)(ew_:Nat)(r:Ocode_writer)(U:List Rowb)(Γ:Gh)(v:Value):Prop := ∃(roww_':Rowb),v = .tuple #[]∧U = [roww_']∧Ocode_writer.ob ew_ Γ gw_ roww_' r∧True
theorem t_code_put_api_Span{gw_ ew_:Nat}{roww_:Rowb}{w_:Ocode_writer}(hw_:Ocode_writer.ob ew_ Γ gw_ roww_ w_){Al:Option Addr}{cl:Nat}{l:List Span}(hl:Sl spanT Γ Al l)(hlc:l.length≤cl)(hp:Pre [roww_] Γ w0){r:Ocode_writer}(h:m_code_put_api_Span w_ l=some r):Calls Tryz.prog 198 #[(pq gw_),.slice Al l.length cl,.func (.func 199) #[(pq gw_)] #[]] w0 (Outc Γ [roww_] w0 (r_code_put_api_Span gw_ ew_ r)):=by
 refine goV [] func198 ntmps198 results198 hp λF hF=>?_
 refine ab (mV (k:=mV (k:=sV (q_len_slice rfl underlying87) (k:=?_))))
 obtain⟨z1,hz2,h⟩:=bnd h
 refine ecV [0] (caV call196) (λw hp=>t_code_writer_int hw_ (l.length:Int) (len_r hl.le) hp hz2) ?_
 rintro Γ3 _ _ hl4 ⟨row7,rfl,rfl,hr8,_⟩
 refine cwV 11 [_] (aa (ab (mV (k:=sV (q_len_slice rfl underlying87) (k:=mV (k:=aa (ai ?_)))))))
 refine al h (λ(i15:Nat) (o11:Ocode_writer) σ w => ∃(Γ9:Gh), ∃(row12:Rowb),slots σ [(2,.func (.func 199) #[(pq gw_)] #[]),(12,.slice Al l.length cl),(13,ii (l.length:Int)),(14,ii (i15:Int))]∧CC F Γ9 [row12] w∧Gh.le Γ3 Γ9∧Ocode_writer.ob ew_ Γ9 gw_ row12 o11∧True) ?_ ?_
 ·
  intro w hw
  exact⟨Γ3,row7,slK,hw,gR,hr8,trivial⟩
 rintro f14 i15 o11 σ w hi16 hlt17 hge18 ⟨Γ9,row12,hsl,hw,hl10,ho13,-⟩
 refine slV hsl hw [_] ?_; clear hw hsl
 refine ab (sV q_lss (k:=aa (ac ?_)))
 refine coV (λhb19=>?_) (λhb19=>?_)
 ·
  have hl20:=ilt hb19
  have h:=hlt17 hl20
  refine ag (wc_ (ac (ai (ab (sV (q_ixn (i:=i15) underlying87 sizeOf93 rfl rfl rfl hl20 ((hl.mono (hl4.trans hl10)).some_ hl20)) (k:=sV (q_lda (c:=0) (vs:=(Span.cs (gt l i15))) ((hl.mono (hl4.trans hl10)).spanT_at hl20).2 rfl isAgg93 sizeOf93 rfl rfl rfl) (k:=?_)))))))
  refine alV zeroValue93 λg21=>?_
  refine stV 0 (.agg (Span.cs (gt l i15)).toArray) (Span.cs (gt l i15)).toArray sizeOf93 (k:=aa ?_)
  refine ah ?_
  refine mU (v:=.func (.func 199) #[(pq gw_)] #[]) (k:=sV (ldaV 0 (Span.cs (gt l i15)) isAgg93 sizeOf93) (k:=?_))
  obtain⟨z22,hz23,h⟩:=bnd h
  refine ecV [1] (call_run_fb (first:=#[(pq gw_)]) call199 rfl (by kernel_rfl) (by kernel_rfl)) (λw hp=>t_code_writer_span ho13 (gt l i15) ((hl.mono (hl4.trans hl10)).spanT_at hl20).1 hp hz23) ?_
  rintro Γ24 _ _ hl25 ⟨row28,rfl,rfl,hr29,_⟩
  refine cwV 20 [_,_] ?_
  refine ae ?_
  change WC _ _ _ _ _ _
  refine ah ?_
  refine sV (q_add_r rfl rfl rfl (ctr_len hl20 (hl.mono (hl4.trans hl10)).le)) (k:=mV (k:=?_))
  exact ae λw hw=>⟨hl20,z22,h,Γ24,row28,slK,(hw.on [0]),(hl10.trans hl25),hr29,trivial⟩
 have h:=hge18 (ige hb19)
 refine aj ?_
 intro w hw
 cases h
 subst hF
 exact end_e (is:=[0]) (by kernel_rfl) hw rfl ⟨row12,rfl,rfl,ho13,trivial⟩
abbrev r_code_writer_ver(gw_:Nat)(ew_:Nat)(r:Ocode_writer)(U:List Rowb)(Γ:Gh)(v:Value):Prop := ∃(roww_':Rowb),v = .tuple #[]∧U = [roww_']∧Ocode_writer.ob ew_ Γ gw_ roww_' r∧True
theorem t_code_writer_ver{gw_ ew_:Nat}{roww_:Rowb}{w_:Ocode_writer}(hw_:Ocode_writer.ob ew_ Γ gw_ roww_ w_){Av_2:Option Addr}{cv_2:Nat}(v_:Ver)(hv_:Ver.fits Γ Av_2 cv_2 v_)(hp:Pre [roww_] Γ w0){r:Ocode_writer}(h:m_code_writer_ver w_ v_=some r):Calls Tryz.prog 170 #[(pq gw_),.agg (Ver.cs Av_2 cv_2 v_).toArray] w0 (Outc Γ [roww_] w0 (r_code_writer_ver gw_ ew_ r)):=by
 refine goV [] func170 ntmps170 results170 hp λF hF=>?_
 refine ab ?_
 refine bxV (v:=.agg (Ver.cs Av_2 cv_2 v_).toArray) λg1=>?_
 refine aa (ab (mV (k:=sV (q_fl 0 fld_89_0) (k:=sV (q_fl 0 fld_86_0) (k:=sV (ldV 0 isAgg3) (k:=?_))))))
 obtain⟨z2,hz3,h⟩:=bnd h
 refine ecV [1] (caV call196) (λw hp=>t_code_writer_int hw_ v_.dot.s hv_.1 hp hz3) ?_
 rintro Γ4 _ _ hl5 ⟨row8,rfl,rfl,hr9,_⟩
 refine cwV 8 [_,_] (aa (ab (mV (k:=sV (q_fl 0 fld_89_0) (k:=sV (q_fl 1 fld_86_1) (k:=sV (ldV 1 isAgg2) (k:=?_)))))))
 obtain⟨z10,hz11,h⟩:=bnd h
 refine ecV [0] (caV call197) (λw hp=>t_code_writer_num hr9 v_.dot.n hv_.2.1 hp hz11) ?_
 rintro Γ12 _ _ hl13 ⟨row16,rfl,rfl,hr17,_⟩
 refine cwV 13 [_,_] (aa (ab (mV (k:=sV (q_fl 2 fld_89_1) (k:=sV (ldV 1 isAgg87) (k:=mV (k:=sV (q_mkfn (v:=.func (.func 199) #[(pq gw_)] #[]) rfl (by kernel_rfl)) (k:=?_))))))))
 obtain⟨z18,hz19,h⟩:=bnd h
 refine ecV [0] (caV call198) (λw hp=>t_code_put_api_Span hr17 (hv_.2.2.1.2.mono (hl5.trans hl13)) hv_.2.2.1.1 hp hz19) ?_
 rintro Γ20 _ _ hl21 ⟨row24,rfl,rfl,hr25,_⟩
 refine cwV 19 [_,_] (aa (ac (ab (sV (q_fl 3 fld_89_2) (k:=sV (ldV 1 isAgg4) (k:=aa ?_))))))
 refine ciV h (λhb26 h=>?_) (λhb26 h=>?_)
 ·
  refine ab (mV (k:=?_))
  obtain⟨z27,hz28,h⟩:=bnd h
  refine ecV [0] (caV call196) (λw hp=>t_code_writer_int hr25 1 iV hp hz28) ?_
  rintro Γ29 _ _ hl30 ⟨row33,rfl,rfl,hr34,_⟩
  refine cwV 23 [_,_] (aa ?_)
  exact af λw hw=>re_ r [0] h hF hw ⟨row33,rfl,rfl,hr34,trivial⟩
 refine ag (wc_ (ab (mV (k:=?_))))
 obtain⟨z35,hz36,h⟩:=bnd h
 refine ecV [0] (caV call196) (λw hp=>t_code_writer_int hr25 0 iV hp hz36) ?_
 rintro Γ37 _ _ hl38 ⟨row41,rfl,rfl,hr42,_⟩
 refine cwV 25 [_,_] (aa ?_)
 refine ah ?_
 refine mV (k:=sV (q_fl 4 fld_89_3) (k:=sV (ldV 1 isAgg9) (k:=?_)))
 obtain⟨z43,hz44,h⟩:=bnd h
 refine ecV [0] (caV call168) (λw hp=>t_code_writer_text hr42 v_.val hv_.2.2.2 hp hz44) ?_
 rintro Γ45 _ _ hl46 ⟨row49,rfl,rfl,hr50,_⟩
 refine cwV 29 [_,_] ?_
 refine ae ?_
 intro w hw
 cases h
 subst hF
 exact end_e (is:=[0]) (by kernel_rfl) hw rfl ⟨row49,rfl,rfl,hr50,trivial⟩
abbrev r_code_put_api_Ver(gw_:Nat)(ew_:Nat)(r:Ocode_writer)(U:List Rowb)(Γ:Gh)(v:Value):Prop := ∃(roww_':Rowb),v = .tuple #[]∧U = [roww_']∧Ocode_writer.ob ew_ Γ gw_ roww_' r∧True
theorem t_code_put_api_Ver{gw_ ew_:Nat}{roww_:Rowb}{w_:Ocode_writer}(hw_:Ocode_writer.ob ew_ Γ gw_ roww_ w_){Al:Option Addr}{cl:Nat}{l:List Ver}(hl:Sl verT Γ Al l)(hlc:l.length≤cl)(hp:Pre [roww_] Γ w0){r:Ocode_writer}(h:m_code_put_api_Ver w_ l=some r):Calls Tryz.prog 169 #[(pq gw_),.slice Al l.length cl,.func (.func 170) #[(pq gw_)] #[]] w0 (Outc Γ [roww_] w0 (r_code_put_api_Ver gw_ ew_ r)):=by
 refine goV [] func169 ntmps169 results169 hp λF hF=>?_
 refine ab (mV (k:=mV (k:=sV (q_len_slice rfl underlying43) (k:=?_))))
 obtain⟨z1,hz2,h⟩:=bnd h
 refine ecV [0] (caV call196) (λw hp=>t_code_writer_int hw_ (l.length:Int) (len_r hl.le) hp hz2) ?_
 rintro Γ3 _ _ hl4 ⟨row7,rfl,rfl,hr8,_⟩
 refine cwV 11 [_] (aa (ab (mV (k:=sV (q_len_slice rfl underlying43) (k:=mV (k:=aa (ai ?_)))))))
 refine al h (λ(i15:Nat) (o11:Ocode_writer) σ w => ∃(Γ9:Gh), ∃(row12:Rowb),slots σ [(2,.func (.func 170) #[(pq gw_)] #[]),(12,.slice Al l.length cl),(13,ii (l.length:Int)),(14,ii (i15:Int))]∧CC F Γ9 [row12] w∧Gh.le Γ3 Γ9∧Ocode_writer.ob ew_ Γ9 gw_ row12 o11∧True) ?_ ?_
 ·
  intro w hw
  exact⟨Γ3,row7,slK,hw,gR,hr8,trivial⟩
 rintro f14 i15 o11 σ w hi16 hlt17 hge18 ⟨Γ9,row12,hsl,hw,hl10,ho13,-⟩
 refine slV hsl hw [_] ?_; clear hw hsl
 refine ab (sV q_lss (k:=aa (ac ?_)))
 refine coV (λhb19=>?_) (λhb19=>?_)
 ·
  have hl20:=ilt hb19
  have h:=hlt17 hl20
  refine ag (wc_ (ac (ai (ab (sV (q_ixn (i:=i15) underlying43 sizeOf89 rfl rfl rfl hl20 ((hl.mono (hl4.trans hl10)).some_ hl20)) (k:=?_))))))
  obtain⟨A21,c22,hx23⟩:=(hl.mono (hl4.trans hl10)).verT_at i15
  refine sV (q_lda (c:=0) (vs:=(Ver.cs A21 c22 (gt l i15))) (hx23 hl20).2 rfl isAgg89 sizeOf89 rfl rfl rfl) (k:=?_)
  refine alV zeroValue89 λg24=>?_
  refine stV 0 (.agg (Ver.cs A21 c22 (gt l i15)).toArray) (Ver.cs A21 c22 (gt l i15)).toArray sizeOf89 (k:=aa ?_)
  refine ah ?_
  refine mU (v:=.func (.func 170) #[(pq gw_)] #[]) (k:=sV (ldaV 0 (Ver.cs A21 c22 (gt l i15)) isAgg89 sizeOf89) (k:=?_))
  obtain⟨z25,hz26,h⟩:=bnd h
  refine ecV [1] (call_run_fb (first:=#[(pq gw_)]) call170 rfl (by kernel_rfl) (by kernel_rfl)) (λw hp=>t_code_writer_ver ho13 (gt l i15) (hx23 hl20).1 hp hz26) ?_
  rintro Γ27 _ _ hl28 ⟨row31,rfl,rfl,hr32,_⟩
  refine cwV 20 [_,_] ?_
  refine ae ?_
  change WC _ _ _ _ _ _
  refine ah ?_
  refine sV (q_add_r rfl rfl rfl (ctr_len hl20 (hl.mono (hl4.trans hl10)).le)) (k:=mV (k:=?_))
  exact ae λw hw=>⟨hl20,z25,h,Γ27,row31,slK,(hw.on [0]),(hl10.trans hl28),hr32,trivial⟩
 have h:=hge18 (ige hb19)
 refine aj ?_
 intro w hw
 cases h
 subst hF
 exact end_e (is:=[0]) (by kernel_rfl) hw rfl ⟨row12,rfl,rfl,ho13,trivial⟩
abbrev r_code_writer_rec(gw_:Nat)(ew_:Nat)(r:Ocode_writer)(U:List Rowb)(Γ:Gh)(v:Value):Prop := ∃(roww_':Rowb),v = .tuple #[]∧U = [roww_']∧Ocode_writer.ob ew_ Γ gw_ roww_' r∧True
theorem t_code_writer_rec{gw_ ew_:Nat}{roww_:Rowb}{w_:Ocode_writer}(hw_:Ocode_writer.ob ew_ Γ gw_ roww_ w_){Ar_1:Option Addr}{cr_1:Nat}(r_:Rec)(hr_:Rec.fits Γ Ar_1 cr_1 r_)(hp:Pre [roww_] Γ w0){r:Ocode_writer}(h:m_code_writer_rec w_ r_=some r):Calls Tryz.prog 134 #[(pq gw_),.agg (Rec.cs Ar_1 cr_1 r_).toArray] w0 (Outc Γ [roww_] w0 (r_code_writer_rec gw_ ew_ r)):=by
 refine goV [] func134 ntmps134 results134 hp λF hF=>?_
 refine ab ?_
 refine bxV (v:=.agg (Rec.cs Ar_1 cr_1 r_).toArray) λg1=>?_
 refine aa (ab (mV (k:=sV (q_fl 0 fld_45_0) (k:=sV (ldV 0 isAgg9) (k:=?_)))))
 obtain⟨z2,hz3,h⟩:=bnd h
 refine ecV [1] (caV call168) (λw hp=>t_code_writer_text hw_ r_.key hr_.1 hp hz3) ?_
 rintro Γ4 _ _ hl5 ⟨row8,rfl,rfl,hr9,_⟩
 refine cwV 7 [_,_] (aa ?_)
 refine ah ?_
 refine mV (k:=sV (q_fl 1 fld_45_1) (k:=sV (ldV 1 isAgg43) (k:=mV (k:=sV (q_mkfn (v:=.func (.func 170) #[(pq gw_)] #[]) rfl (by kernel_rfl)) (k:=?_)))))
 obtain⟨z10,hz11,h⟩:=bnd h
 refine ecV [0] (caV call169) (λw hp=>t_code_put_api_Ver hr9 (hr_.2.2.mono hl5) hr_.2.1 hp hz11) ?_
 rintro Γ12 _ _ hl13 ⟨row16,rfl,rfl,hr17,_⟩
 refine cwV 13 [_,_] ?_
 refine ae ?_
 intro w hw
 cases h
 subst hF
 exact end_e (is:=[0]) (by kernel_rfl) hw rfl ⟨row16,rfl,rfl,hr17,trivial⟩
abbrev r_code_PutRec(r:(List UInt8)×Int)(U:List Rowb)(Γ:Gh)(v:Value):Prop := ∃(A0:Option Addr), ∃(c0:Nat), ∃(row0:Rowb),v = .tuple #[.slice A0 r.1.length c0,.int .i64 r.2]∧U = [row0]∧Own byteT Γ 5 row0 A0 c0 r.1∧I64 r.2∧True
theorem t_code_PutRec{Ar_1:Option Addr}{cr_1:Nat}(r_:Rec)(hr_:Rec.fits Γ Ar_1 cr_1 r_)(hp:Pre [] Γ w0){r:(List UInt8)×Int}(h:m_code_PutRec r_=some r):Calls Tryz.prog 97 #[.agg (Rec.cs Ar_1 cr_1 r_).toArray] w0 (Outc Γ [] w0 (r_code_PutRec r)):=by
 refine goV [2,3] func97 ntmps97 results97 hp λF hF=>?_
 refine ab ?_
 refine bxV (v:=.agg (Rec.cs Ar_1 cr_1 r_).toArray) λg1=>?_
 refine aV (k:=aV (k:=aa (ac (ab (sV (ldaV 0 (Rec.cs Ar_1 cr_1 r_) isAgg45 sizeOf45) (k:=?_))))))
 obtain⟨z2,hz3,h⟩:=bnd h
 refine vqV (caV call69) (λw hw=>t_code_RightRec (Γ:=Gh.all w) r_ (Rec.fits_mono hr_ hw.sat.le_all) (Sat.all w) hz3) (k:=sV q_not (k:=aa ?_))
 refine ciV h (λhb4 h=>?_) (λhb4 h=>?_)
 ·
  refine ab (aV (k:=aV (k:=aa ?_)))
  refine af ?_
  intro w hw
  have hw:=hw.pad
  exact re_ r [0] h hF hw ⟨none,0,[],rfl,rfl,(Own.nil byteT _ 5),iV,trivial⟩
 refine ag (wc_ (ab (sV (q_build (v:=.agg #[.slice none 0 0]) rfl (λw=>by kernel_rfl)) (k:=?_))))
 refine bxV (v:=.agg #[.slice none 0 0]) λg5=>?_
 refine aV (k:=aa (ab (mV (k:=sV (ldaV 1 (Rec.cs Ar_1 cr_1 r_) isAgg45 sizeOf45) (k:=?_)))))
 refine WR.sub (λw hw=>hw.pad) ?_
 obtain⟨row_6,hrow_6,hob_6⟩:∃rw:Rowb,rw=([[(g5,.cells #[.slice none 0 0] 202 (0,0))],[]]:List Rowb).flatten∧Ocode_writer.ob 202 Γ g5 rw (⟨[]⟩:Ocode_writer):=⟨_,rfl,none,0,[],rfl,(Own.nil byteT Γ 5),trivial⟩
 refine foR [1,0] hrow_6 [_,_] ?_
 obtain⟨z7,hz8,h⟩:=bnd h
 refine ecV [0] (caV call134) (λw hp=>t_code_writer_rec hob_6 r_ hr_ hp hz8) ?_
 rintro Γ9 _ _ hl10 ⟨row13,rfl,rfl,hr14,_⟩
 refine cwV 12 [_,_] (aa (ab (mV (k:=sV nlV (k:=sV (q_fl 0 fld_202_0) (k:=?_))))))
 obtain⟨A0_15,c0_15,r0_15,hrow_15,ho0_15,-⟩:=id hr14
 refine ufR 0 hrow_15 [_,_,_] ?_
 refine sV (ldV 0 isAgg77) (k:=aV (k:=aV (k:=aa ?_)))
 exact af λw hw=>re_ r [1] h hF hw ⟨A0_15,c0_15,r0_15,rfl,rfl,ho0_15,iV,trivial⟩
abbrev r_frame_Put(r:(List UInt8)×Int)(U:List Rowb)(Γ:Gh)(v:Value):Prop := ∃(A0:Option Addr), ∃(c0:Nat), ∃(row0:Rowb),v = .tuple #[.slice A0 r.1.length c0,.int .i64 r.2]∧U = [row0]∧Own byteT Γ 5 row0 A0 c0 r.1∧I64 r.2∧True
theorem t_frame_Put{Ab:Option Addr}{cb:Nat}{b:List UInt8}(hb:Sl byteT Γ Ab b)(hbc:b.length≤cb)(hp:Pre [] Γ w0){r:(List UInt8)×Int}(h:m_frame_Put b=some r):Calls Tryz.prog 135 #[.slice Ab b.length cb] w0 (Outc Γ [] w0 (r_frame_Put r)):=by
 refine goV [2,3] func135 ntmps135 results135 hp λF hF=>?_
 refine ab (aV (k:=aV (k:=aa (ac (ab (mV (k:=sV (q_len_slice rfl underlying77) (k:=?_))))))))
 refine sV q_gtr (k:=aa ?_)
 refine ciV h (λhb1 h=>?_) (λhb1 h=>?_)
 ·
  refine ab (aV (k:=aV (k:=aa ?_)))
  refine af ?_
  intro w hw
  have hw:=hw.pad
  exact re_ r [0] h hF hw ⟨none,0,[],rfl,rfl,(Own.nil byteT _ 5),iV,trivial⟩
 refine ag (wc_ (ab (mV (k:=sV (q_len_slice rfl underlying77) (k:=?_)))))
 obtain⟨z2,hz3,h⟩:=bnd h
 refine ecV [] (caV call171) (λw hp=>t_num_PutNum (b.length:Int) (len_r hb.le) hp hz3) ?_
 rintro Γ4 _ _ hl5 ⟨A8,c9,row10,rfl,rfl,hr11,_⟩
 refine cwV 12 [_] (aV (k:=aa (ab (mV (k:=mV (k:=?_))))))
 refine bsV #[.slice A8 z2.length c9,.slice Ab b.length cb] 77 λg12=>?_
 obtain⟨z13,hz14,h⟩:=bnd h
 refine vqV (caV call172) (λw hw=>t_frame_Sum (Γ:=Gh.all w) ((au (T:=slT byteT) (Γ:=Gh.all w) (e:=77) (g:=g12) (ys:=([z2,b]:List (List UInt8))) [[.slice A8 z2.length c9],[.slice Ab b.length cb]] rfl (show 2≤lim by decide) (show Ty.rd (slT byteT) (Gh.all w) [.slice A8 z2.length c9] z2∧Ty.rd (slT byteT) (Gh.all w) [.slice Ab b.length cb] b∧True from ⟨⟨A8,c9,rfl,hr11.capz,(hr11.sl hw.sat.le_all (hw.ra 1 rfl))⟩,⟨Ab,cb,rfl,hbc,((hb.mono hl5).mono hw.sat.le_all)⟩,trivial⟩)).sl gR (hw.ra 0 rfl)) (Nat.le_refl _) (Sat.all w) hz14) (k:=aV (k:=aa (ac (ab (mV (k:=aa (ai ?_)))))))
 refine ax h (λ(i21:Nat) (out_15:List UInt8) σ w => ∃(A16:Option Addr), ∃(c17:Nat), ∃(row18:Rowb),slots σ [(0,.slice Ab b.length cb),(4,.slice A16 out_15.length c17),(5,.int .u32 z13),(17,ii (i21:Int))]∧CC F Γ4 [row18] w∧Own byteT Γ4 5 row18 A16 c17 out_15∧True) ?_ ?_
 ·
  intro w hw
  exact⟨A8,c9,row10,slK,(hw.on [1]),hr11,trivial⟩
 rintro f20 i21 out_15 σ w hi22 hlt23 hge24 ⟨A16,c17,row18,hsl,hw,ho19,-⟩
 refine slV hsl hw [_] ?_; clear hw hsl
 refine ab (sV q_lss (k:=aa (ac ?_)))
 refine coV (λhb25=>?_) (λhb25=>?_)
 ·
  have hl26:=ilt hb25
  have h:=hlt23 hl26
  refine ag (wc_ (ac (ai (ab (mV (k:=aV (k:=aa ?_)))))))
  refine ah ?_
  refine mV (k:=mV (k:=mV (k:=sV q_mul (k:=?_))))
  obtain⟨hk27,h⟩:=chk_some h
  refine sV (q_shr rfl rfl rfl hk27) (k:=sV (q_conv underlying5 underlying242) (k:=?_))
  refine bsV #[.int .u8 (wu8 (ishr .u32 z13 (w64 (8*(i21:Int)))))] 5 λg28=>?_
  obtain⟨hk29,h⟩:=chk_some h
  refine apV 1 [(b8 (wu8 (ishr .u32 z13 (w64 (8*(i21:Int))))))] elem_77 ho19 (of_decide_eq_true hk29) (λw hw=>src_one (i:=0) rfl (by exact(by show [Value.int .u8 (wu8 (ishr .u32 z13 (w64 (8*(i21:Int)))))] = [Value.int .u8 _]; rw [b8_val (wu8_r _)])) hw) ?_
  intro row30 A31 c32 ho33
  refine aV (k:=?_)
  refine ae ?_
  change WC _ _ _ _ _ _
  refine ah ?_
  refine sV (q_add_r rfl rfl rfl (ctr_lit hl26 (by decide))) (k:=mV (k:=?_))
  exact ae λw hw=>⟨hl26,(out_15++[(b8 (wu8 (ishr .u32 z13 (w64 (8*(i21:Int))))))]),h,A31,c32,row30,slK,(hw.on [1]),ho33,trivial⟩
 have h:=hge24 (ige hb25)
 refine aj ?_
 change WC _ _ _ _ _ _
 refine ab (mV (k:=mV (k:=?_)))
 obtain⟨hk34,h⟩:=chk_some h
 refine apV 0 b elem_77 ho19 (of_decide_eq_true hk34) (λw hw=>src_sl (hb.mono hl5) hw) ?_
 intro row35 A36 c37 ho38
 refine aV (k:=aV (k:=aa ?_))
 exact af λw hw=>re_ r [0] h hF hw ⟨A36,c37,row35,rfl,rfl,ho38,iV,trivial⟩
theorem t_disk_Disk_Used{gd ed:Nat}{rowd:Rowb}{d:Odisk_Disk}(hd:Odisk_Disk.ob ed Γ gd rowd d)(hdr:∀p∈rowd,Γ p.1=some p.2)(hs:Sat Γ w0){r:Int}(h:m_disk_Disk_Used d=some r):CQ Tryz.prog 148 #[(pq gd)] w0 (ii r):=by
 refine goQ [2] func148 ntmps148 results148 hs λF hF=>?_
 refine ab (aV (k:=aa (ab (aV (k:=aa (ac (ab ?_)))))))
 refine mV (k:=sV nlV (k:=sV (q_fl 2 fld_67_2) (k:=?_)))
 obtain⟨m1_1,r1_1,m2_1,r2_1,A3_1,c3_1,r3_1,hrow_1,ho0_1,ho1_1,ho2_1,ho3_1,-⟩:=id hd
 have hg_2:∀u∈([[(gd,.cells #[ii d.room,.map (some m1_1),.map (some m2_1),.slice A3_1 d.loose.length c3_1] ed (0,0))],r1_1,r2_1,r3_1]:List Rowb), ∀p∈u,Γ p.1=some p.2:=λu hu p hp=>(λp hp=>(hdr p hp)) p (hrow_1▸List.mem_flatten.2 ⟨u,hu,hp⟩)
 have hgc3:=hg_2 _ (List.mem_cons_self ..) (gd,_) (List.mem_singleton.2 rfl)
 have hgs4:=hg_2 r1_1 (by simp)
 have hgs5:=hg_2 r2_1 (by simp)
 have hgs6:=hg_2 r3_1 (by simp)
 have hs7:=ho3_1.sl gR hgs6
 refine sV (q_ldg (v:=.map (some m2_1)) hgc3 rfl isAgg64 rfl rfl) (k:=?_)
 refine e_range ho2_1 (λw hw p hp=>hw.sat _ _ (hgs5 p hp)) rfl rfl rfl underlying64 rfl ?_
 intro g8 row9 hi10
 refine cwV 10 [_] (aa (ai ?_))
 refine WC.forE h (Comm.of_tot _ (λ_ _=>rfl) (λ_ _ _=>w64_comm _ _ _)) (λ(l11:List (ByteArray×(List UInt8))) (n_12:Int) σ w => ∃(row14:Rowb),slots σ [(3,ii n_12),(10,(pq g8))]∧CC F Γ [row14] w∧I64 n_12∧ItO (strK underlying9) (slT byteT).v Γ row14 g8 m2_1 r2_1 d.seen l11∧True) ?_ ?_
 ·
  intro w hw
  exact⟨row9,slK,hw,iV,hi10,trivial⟩
 rintro G21 l11 n_12 σ w hstep16 hK17 ⟨row14,hsl,hw,hr13,hi15,-⟩
 refine slV hsl hw [_] ?_; clear hw hsl
 refine ab ?_
 refine e_next (i:=0) rfl ho2_1.ks hi15 (λw hw p hp=>hw.sat _ _ (hgs5 p hp)) rfl rfl rfl rfl (λhl22=>?_) (λen23 l24 v25 row26 hp27 hok28 hv29 hit30 he31=>?_)
 ·
  have h:=hK17 hl22
  refine cwV 11 [_] (sV exV (k:=aa (ac ?_)))
  refine WC.cfk (b:=false) (by kernel_rfl) rfl ?_
  refine aj ?_
  change WC _ _ _ _ _ _
  refine ab (mV (k:=aV (k:=aa ?_)))
  exact af λw hw=>rq_ r h hF hw
 obtain⟨hlen18,s219,h,hgo20⟩:=hstep16 en23 l24 hp27
 obtain⟨A32,c33,hv29,hc34,hs35⟩:=hv29
 obtain rfl:v25=_:=List.cons.inj hv29 |>.1
 refine cwV 11 [_] (sV exV (k:=aa (ac ?_)))
 refine WC.ctk (b:=true) (by kernel_rfl) rfl ?_
 refine ag (wc_ (ai (ab (sV (q_entry (kv:=.string en23.1) (v:=.slice A32 en23.2.length c33) (i:=0) rfl he31 (λw hw p hp=>hw.sat _ _ (hgs5 p hp)) rfl rfl) (k:=sV exV (k:=aV (k:=aa ?_)))))))
 refine ah ?_
 refine mV (k:=mV (k:=sV (q_len_slice rfl underlying77) (k:=sV q_add (k:=aV (k:=?_)))))
 refine ae ?_
 intro w hw
 cases h
 exact⟨l24,_,hlen18,hgo20,row26,slK,hw,(w64_r _),hit30,trivial⟩
abbrev r_disk_add(r:Cdisk_change_do)(U:List Rowb)(Γ:Gh)(v:Value):Prop := ∃(A0:Option Addr), ∃(c0:Nat),v=(Cdisk_change_do.val r A0 c0)∧U = []∧Cdisk_change_do.ok Γ A0 c0 r∧True
theorem t_disk_add(name:ByteArray)(hname:name.size≤lim){Ab:Option Addr}{cb:Nat}{b:List UInt8}(hb:Sl byteT Γ Ab b)(hbc:b.length≤cb)(hp:Pre [] Γ w0){r:Cdisk_change_do}(h:m_disk_add name b=some r):Calls Tryz.prog 48 #[.string name,.slice Ab b.length cb] w0 (Outc Γ [] w0 (r_disk_add r)):=by
 refine goV [4] func48 ntmps48 results48 hp λF hF=>?_
 refine ab ?_
 refine bxV (v:=.string name) λg1=>?_
 refine bxV (v:=.slice Ab b.length cb) λg2=>?_
 refine aU (v:=.nilFunc) (k:=aa (ab (sV (q_mkfn (v:=.func (.func 77) #[] #[(pq g1),(pq g2)]) rfl (by kernel_rfl)) (k:=aU (v:=.func (.func 77) #[] #[(pq g1),(pq g2)]) (k:=aa ?_)))))
 refine af ?_
 intro w hw
 obtain⟨Γ3,hw,hl4,hr5⟩:=hw.seal (i:=1) rfl
 have hg6:=hr5 _ (List.mem_singleton.2 rfl)
 obtain⟨Γ7,hw,hl8,hr9⟩:=hw.seal (i:=0) rfl
 have hg10:=hr9 _ (List.mem_singleton.2 rfl)
 have hf11:Cdisk_change_do.ok Γ7 (some ⟨g2,0,none⟩) g1 (Cdisk_change_do.disk_add_1 name b):=⟨⟨(hl8 _ _ hg6),hname⟩,⟨g2,Ab,cb,rfl,hg10,hbc,(hb.mono (hl4.trans hl8))⟩,trivial⟩
 cases h
 subst hF
 exact end_e (is:=[]) (by kernel_rfl) hw rfl ⟨(some ⟨g2,0,none⟩),g1,rfl,rfl,hf11,trivial⟩
abbrev r_disk_Disk_Append(gd:Nat)(ed:Nat)(r:Odisk_Disk×Int)(U:List Rowb)(Γ:Gh)(v:Value):Prop := ∃(rowd':Rowb),v = .int .i64 r.2∧U = [rowd']∧Odisk_Disk.ob ed Γ gd rowd' r.1∧I64 r.2∧True
theorem t_disk_Disk_Append{gd ed:Nat}{rowd:Rowb}{d:Odisk_Disk}(hd:Odisk_Disk.ob ed Γ gd rowd d)(name:ByteArray)(hname:name.size≤lim){Ab:Option Addr}{cb:Nat}{b:List UInt8}(hb:Sl byteT Γ Ab b)(hbc:b.length≤cb)(hp:Pre [rowd] Γ w0){r:Odisk_Disk×Int}(h:m_disk_Disk_Append d name b=some r):Calls Tryz.prog 110 #[(pq gd),.string name,.slice Ab b.length cb] w0 (Outc Γ [rowd] w0 (r_disk_Disk_Append gd ed r)):=by
 refine goV [6] func110 ntmps110 results110 hp λF hF=>?_
 refine ab (aV (k:=aa (ac (ab (mV (k:=?_))))))
 refine bsV #[.string name] 9 λg1=>?_
 have ho2:Own strT Γ 9 [(g1,.cells #[.string name] 9 (0,0))] (some ⟨g1,0,none⟩) 1 [name]:=au (T:=strT) (ys:=[name]) [[.string name]] rfl (show 1≤lim by decide) ⟨⟨rfl,hname⟩,trivial⟩
 obtain⟨z3,hz4,h⟩:=bnd h
 refine vqV (caV call147) (λw hw=>t_disk_right (Γ:=Gh.all w) (ho2.sl hw.sat.le_all (hw.ra 0 rfl)) ho2.capz (Sat.all w) hz4) (k:=sV q_not (k:=aa ?_))
 refine ciV h (λhb5 h=>?_) (λhb5 h=>?_)
 ·
  refine ab (aV (k:=aa ?_))
  exact af λw hw=>re_ r [1] h hF hw ⟨rowd,rfl,rfl,hd,iV,trivial⟩
 refine ag (wc_ (ac (ac ?_)))
 obtain⟨m1_6,r1_6,m2_6,r2_6,A3_6,c3_6,r3_6,hrow_6,ho0_6,ho1_6,ho2_6,ho3_6,-⟩:=id hd
 refine ufC 1 hrow_6 [_,_,_,_,_] ?_
 refine drV ?_
 refine zV moV (k:=zV (q_len_slice rfl underlying77) (k:=zV moV (k:=zV nlV (k:=zV (q_fl 0 fld_67_0) (k:=zV (ldV 0 isAgg3) (k:=zV moV (k:=?_)))))))
 obtain⟨z7,hz8,h⟩:=bnd h
 refine wc rfl rfl rfl (q_call (caV call148) (λw hw=>t_disk_Disk_Used (Γ:=Gh.all w) (hd.mono hw.sat.le_all) (hw.raU [0,0,0,0] rfl hrow_6) (Sat.all w) hz8)) (zV q_sub (k:=zV q_gtr (k:=?_)))
 refine ao ?_
 change WC _ _ _ _ _ _
 refine ciV h (λhb9 h=>?_) (λhb9 h=>?_)
 ·
  refine ab (aV (k:=aa ?_))
  refine af ?_
  intro w hw
  have hw:=hw.fold (is:=[0,0,0,0]) rfl hrow_6
  exact re_ r [0] h hF hw ⟨rowd,rfl,rfl,hd,iV,trivial⟩
 refine ag (wc_ (ab (mV (k:=?_))))
 obtain⟨z11,hz12,h⟩:=bnd h
 refine ecV [] (caV call66) (λw hp=>t_slices_Clone_byte_byte hb hbc hp hz12) ?_
 rintro Γ13 _ _ hl14 ⟨A17,c18,row19,rfl,rfl,hr20,_⟩
 refine cwV 22 [_,_,_,_,_,_] (aV (k:=aa (ab (mV (k:=mV (k:=mV (k:=?_)))))))
 have hc25:=hr20.capz
 refine seR 0 [_,_,_,_,_,_] λΓ21 hl22 hr23=>?_
 have hs24:=hr20.sl hl22 hr23
 obtain⟨z26,hz27,h⟩:=bnd h
 refine ecV [] (caV call48) (λw hp=>t_disk_add name hname hs24 hc25 hp hz27) ?_
 rintro Γ28 _ _ hl29 ⟨A32,c33,rfl,rfl,hr34,_⟩
 refine cwV 26 [_,_,_,_,_,_] (mV (k:=mV (k:=sV (q_build' (v:=.agg #[(Cdisk_change_do.val z26 A32 c33),.string name,.slice A17 z11.length c18]) rfl (bargs3 rfl rfl rfl) (λw=>by kernel_rfl)) (k:=?_))))
 refine foR [1,1,1,1] hrow_6 [_,_,_] ?_
 obtain⟨z36,hz37,h⟩:=bnd h
 refine ecV [0] (caV call149) (λw hp=>t_disk_Disk_done (hd.mono ((hl14.trans hl22).trans hl29)) (⟨z26,name,z11⟩:Ddisk_change) ⟨hr34,hname,⟨hc25,(hs24.mono hl29)⟩⟩ hp hz37) ?_
 rintro Γ38 _ _ hl39 ⟨row42,rfl,rfl,hr43,hr44,_⟩
 refine cwV 30 [_,_,_] (aV (k:=aa ?_))
 exact af λw hw=>re_ r [0] h hF hw ⟨row42,rfl,rfl,hr43,hr44,trivial⟩
abbrev r_seglog_Log_Append(gl:Nat)(el:Nat×Nat)(edk0:Nat)(r:Oseglog_Log×Odisk_Disk×Int)(U:List Rowb)(Γ:Gh)(v:Value):Prop := ∃(rowl':Rowb), ∃(rowdk0':Rowb),v = .int .i64 r.2.2∧U = [rowl',rowdk0']∧Oseglog_Log.ob el Γ gl rowl' r.1∧Odisk_Disk.ob edk0 Γ el.2 rowdk0' r.2.1∧I64 r.2.2∧True
theorem t_seglog_Log_Append{gl:Nat}{el:Nat×Nat}{rowl:Rowb}{l:Oseglog_Log}(hl:Oseglog_Log.ob el Γ gl rowl l){Ab:Option Addr}{cb:Nat}{b:List UInt8}(hb:Sl byteT Γ Ab b)(hbc:b.length≤cb){edk0:Nat}{rowdk0:Rowb}{dk0:Odisk_Disk}(hdk0:Odisk_Disk.ob edk0 Γ el.2 rowdk0 dk0)(hp:Pre [rowl,rowdk0] Γ w0){r:Oseglog_Log×Odisk_Disk×Int}(h:m_seglog_Log_Append l b dk0=some r):Calls Tryz.prog 98 #[(pq gl),.slice Ab b.length cb] w0 (Outc Γ [rowl,rowdk0] w0 (r_seglog_Log_Append gl el edk0 r)):=by
 refine goV [4] func98 ntmps98 results98 hp λF hF=>?_
 refine ab (aV (k:=aa (ab (mV (k:=?_)))))
 obtain⟨z1,hz2,h⟩:=bnd h
 refine ecV [] (caV call135) (λw hp=>t_frame_Put hb hbc hp hz2) ?_
 rintro Γ3 _ _ hl4 ⟨A7,c8,row9,rfl,rfl,hr10,hr11,_⟩
 refine cwV 12 [_,_,_] (mV (k:=sV exV (k:=sV exV (k:=aV (k:=aV (k:=aa (ac ?_)))))))
 refine ab (mV (k:=sV q_neq (k:=aa ?_)))
 refine ciV h (λhb12 h=>?_) (λhb12 h=>?_)
 ·
  refine ab (mV (k:=aV (k:=aa ?_)))
  exact af λw hw=>re_ r [1,1] h hF hw ⟨rowl,rowdk0,rfl,rfl,(hl.mono hl4),(hdk0.mono hl4),hr11,trivial⟩
 refine ag (wc_ (ac ?_))
 obtain⟨hrow_13,ho0_13,ho1_13,ho2_13,ho3_13,ho4_13,ho5_13,ho6_13,-⟩:=(hl.mono hl4)
 refine ufC 1 hrow_13 [_,_,_] ?_
 refine drV ?_
 refine zV moV (k:=zV nlV (k:=zV (q_fl 4 fld_150_2) (k:=zV (ldV 0 isAgg2) (k:=zV moV (k:=zV nlV (k:=zV (q_fl 5 fld_150_3) (k:=zV (ldV 0 isAgg3) (k:=?_))))))))
 refine zV aoV (k:=zV aoV (k:=?_))
 refine ao ?_
 change WC _ _ _ _ _ _
 refine foC [0] hrow_13 [_,_,_] ?_
 refine ar (λσ w => ∃(part_15:Int), ∃(tail_17:Int),m_seglog_Log_Append_j1 l dk0 z1 part_15 tail_17=some r∧slots σ [(0,(pq gl)),(5,.slice A7 z1.1.length c8),(7,ii part_15),(8,ii tail_17)]∧CC F Γ3 [rowl,row9,rowdk0] w∧I64 part_15∧I64 tail_17∧True) ?_ ?_
 ·
  refine ab (mV (k:=sV q_eql (k:=mV (k:=vG0 (h:=λhg19=>moV) (k:=vG0 (h:=λhg20=>q_gtr rfl (grV hg20)) (k:=vG0 (h:=λhg21=>q_move (v:=.bool (decide (0<l.tail))) rfl (grV hg21)) (k:=vh1 (c0:=(!(l.last==0))) (g:=(decide (0<l.tail))) rfl rfl rfl rfl rfl (λ_=>QV.qo moV) ?_)))))))
  refine vh1 (c0:=(!(l.last==0))) (g:=(decide (0<l.tail))) rfl rfl rfl rfl rfl (λhg23=>QV.qo (q_len_slice rfl underlying77 (grV hg23))) (vh1 (c0:=(!(l.last==0))) (g:=(decide (0<l.tail))) rfl rfl rfl rfl rfl (λ_=>QV.qo moV) (vh1 (c0:=(!(l.last==0))) (g:=(decide (0<l.tail))) rfl rfl rfl rfl rfl (λhg25=>QV.qo (nlV (hv:=grV hg25))) (vh1 (c0:=(!(l.last==0))) (g:=(decide (0<l.tail))) rfl rfl rfl rfl rfl (λhg26=>QV.qo (q_fl 3 fld_150_1 rfl (grV hg26))) ?_)))
  obtain⟨hrow_28,ho0_28,ho1_28,ho2_28,ho3_28,ho4_28,ho5_28,ho6_28,-⟩:=(hl.mono hl4)
  refine ufR 0 hrow_28 [_,_,_] ?_
  refine vh1 (c0:=(!(l.last==0))) (g:=(decide (0<l.tail))) rfl rfl rfl rfl rfl (λhg29=>QV.qo (ldV 0 isAgg3 (hx:=grV hg29))) (vh1 (c0:=(!(l.last==0))) (g:=(decide (0<l.tail))) rfl rfl rfl rfl rfl (λ_=>QV.qo moV) (vh1 (c0:=(!(l.last==0))) (g:=(decide (0<l.tail))) rfl rfl rfl rfl rfl (λhg31=>QV.qo (q_sub rfl (grV hg31) (grV hg31))) (vh1 (c0:=(!(l.last==0))) (g:=(decide (0<l.tail))) rfl rfl rfl rfl rfl (λhg32=>QV.qo (q_gtr rfl (grV hg32) (grV hg32))) (vG0 (h:=λhg33=>q_pick rfl (grV hg33) (pk_and (c:=(!(l.last==0))) (g:=(decide (0<l.tail))) (y:=(decide ((w64 (l.size - l.tail))<(z1.1.length:Int)))) hg33)) (k:=sV pkO (k:=aa ?_))))))
  refine ciV h (λhb34 h=>?_) (λhb34 h=>?_)
  ·
   refine ah ?_
   refine mV (k:=sV q_add (k:=aV (k:=aV (k:=?_))))
   refine ae ?_
   intro w hw
   have hw:=hw.fold (is:=[0]) rfl hrow_28
   exact⟨(w64 (l.last+1)),0,h,slK,hw,(w64_r _),iV,trivial⟩
  refine ag ?_
  intro w hw
  have hw:=hw.fold (is:=[0]) rfl hrow_28
  exact⟨l.last,l.tail,h,slK,hw,ho3_13,ho4_13,trivial⟩
 rintro σ w ⟨part_15,tail_17,h,hsl,hw,hr16,hr18,-⟩
 refine slV hsl hw [_,_,_] ?_; clear hw hsl
 refine ac (ab (mV (k:=sV q_gtr (k:=aa ?_))))
 refine ciV h (λhb37 h=>?_) (λhb37 h=>?_)
 ·
  refine ab (aV (k:=aa ?_))
  exact af λw hw=>re_ r [0,1] h hF hw ⟨rowl,rowdk0,rfl,rfl,(hl.mono hl4),(hdk0.mono hl4),iV,trivial⟩
 refine ag (wc_ (ac ?_))
 refine ar (λσ w => ∃(f_40:List UInt8), ∃(e_45:Int), ∃(o47:Odisk_Disk), ∃(Γ38:Gh), ∃(A41:Option Addr), ∃(c42:Nat), ∃(row48:Rowb),m_seglog_Log_Append_j2 l part_15 tail_17 f_40 e_45 o47=some r∧slots σ [(0,(pq gl)),(5,.slice A41 f_40.length c42),(7,ii part_15),(8,ii tail_17),(9,ii e_45)]∧CC F Γ38 [rowl,row48] w∧Gh.le Γ3 Γ38∧f_40.length≤c42∧Sl byteT Γ38 A41 f_40∧I64 e_45∧Odisk_Disk.ob edk0 Γ38 el.2 row48 o47∧True) ?_ ?_
 ·
  have hc54:=hr10.capz
  refine seC 1 [_,_,_] λΓ50 hl51 hr52=>?_
  have hs53:=hr10.sl hl51 hr52
  obtain⟨hrow_55,ho0_55,ho1_55,ho2_55,ho3_55,ho4_55,ho5_55,ho6_55,-⟩:=(hl.mono (hl4.trans hl51))
  refine ufC 0 hrow_55 [_,_,_] ?_
  refine leV λh056=>?_
  refine held_ (CC F Γ50 [[(gl,.cells #[.pointer (some ⟨el.2,0,none⟩),.string l.place_name,ii l.place_gen,ii l.size,ii l.last,ii l.tail,ii l.count,ii l.bytes] el.1 (0,0))],[]]) (bo_ [0,0] gR h056) λk=>?_
  change WH _ _ _ _ (CC F Γ50 [_,_,_]) _ 19 _ _
  refine hV 0 k (q:=moV) (k:=hV 1 k (q:=nlV) (k:=hV 2 k (q:=q_fl 0 fld_150_0) (k:=hV 3 k (q:=q_fl 0 fld_141_0) (k:=hV 4 k (q:=ldV 0 isAgg25) (k:=hV 5 k (q:=moV) (k:=hV 6 k (q:=nlV) (k:=hV 7 k (q:=q_fl 0 fld_150_0) (k:=?_))))))))
  refine hV 8 k (q:=ldaV 0 [.pointer (some ⟨el.2,0,none⟩),.string l.place_name,ii l.place_gen] isAgg141 sizeOf141) (k:=hV 9 k (q:=moV) (k:=hV 10 k (q:=nlV) (k:=hV 11 k (q:=q_fl 0 fld_150_0) (k:=hV 12 k (q:=q_fl 2 fld_141_2) (k:=hV 13 k (q:=ldV 0 isAgg2) (k:=hV 14 k (q:=moV) (k:=hV 16 k (q:=moV) (k:=?_))))))))
  refine wl_ 15 rfl ?_
  obtain⟨z57,hz58,h⟩:=bnd h
  refine vqV (caV call124) (λw hw=>t_seglog_place_file (Γ:=Gh.all w) (gp__0:=el.2) l.place_name ho0_55 l.place_gen ho1_55 l.place_gen ho1_55 part_15 hr16 (Sat.all w) hz58) (k:=?_)
  refine ae (nxV (bo_ [0,0] gR h056) λk=>?_)
  refine wl_ 17 rfl ?_
  obtain⟨hk59,h⟩:=chk_some h
  obtain⟨z60,hz61,h⟩:=bnd h
  refine ecV [2] (caV call110) (λw hp=>t_disk_Disk_Append (hdk0.mono (hl4.trans hl51)) z57 (of_decide_eq_true hk59) hs53 hc54 hp hz61) ?_
  rintro Γ62 _ _ hl63 ⟨row66,rfl,rfl,hr67,hr68,_⟩
  refine cwV 64 [_,_,_] ?_
  refine ae (nxV (bo_ [1,1] hl63 h056) λk=>?_)
  refine hV 18 k (q:=aoV) (k:=?_)
  refine am (by kernel_rfl) ?_
  intro w hw
  have hw:=hw.fold (is:=[1]) rfl hrow_55
  exact⟨z1.1,z60.2,z60.1,Γ62,A7,c8,row66,h,slK,(hw.on [0,0]),(hl51.trans hl63),hc54,(hs53.mono hl63),hr68,hr67,trivial⟩
 rintro σ w ⟨f_40,e_45,o47,Γ38,A41,c42,row48,h,hsl,hw,hl39,hc44,hs43,hr46,ho49,-⟩
 refine slV hsl hw [_,_] ?_; clear hw hsl
 refine ab (mV (k:=sV q_neq (k:=aa ?_)))
 refine ciV h (λhb70 h=>?_) (λhb70 h=>?_)
 ·
  refine ab (mV (k:=aV (k:=aa ?_)))
  exact af λw hw=>re_ r [0,0] h hF hw ⟨rowl,row48,rfl,rfl,(hl.mono (hl4.trans hl39)),ho49,hr46,trivial⟩
 refine ag (wc_ (ab (mV (k:=mV (k:=mV (k:=mV (k:=mV (k:=?_))))))))
 refine sV (q_len_slice rfl underlying77) (k:=sV q_add (k:=sV nlV (k:=sV (q_fl 4 fld_150_2) (k:=?_))))
 obtain⟨hrow_71,ho0_71,ho1_71,ho2_71,ho3_71,ho4_71,ho5_71,ho6_71,-⟩:=(hl.mono (hl4.trans hl39))
 refine ufR 0 hrow_71 [_,_] ?_
 refine stV 0 (ii part_15) #[.pointer (some ⟨el.2,0,none⟩),.string l.place_name,ii l.place_gen,ii l.size,ii part_15,ii l.tail,ii l.count,ii l.bytes] sizeOf2 (k:=sV nlV (k:=sV (q_fl 5 fld_150_3) (k:=stV 0 (ii (w64 (tail_17+(f_40.length:Int)))) #[.pointer (some ⟨el.2,0,none⟩),.string l.place_name,ii l.place_gen,ii l.size,ii part_15,ii (w64 (tail_17+(f_40.length:Int))),ii l.count,ii l.bytes] sizeOf3 (k:=aa (ab (mV (k:=sV nlV (k:=?_))))))))
 refine sV (q_fl 6 fld_150_4) (k:=sV (ldV 0 isAgg3) (k:=sV q_add (k:=sV nlV (k:=sV (q_fl 6 fld_150_4) (k:=stV 0 (ii (w64 (l.count+1))) #[.pointer (some ⟨el.2,0,none⟩),.string l.place_name,ii l.place_gen,ii l.size,ii part_15,ii (w64 (tail_17+(f_40.length:Int))),ii (w64 (l.count+1)),ii l.bytes] sizeOf3 (k:=aa (ab ?_)))))))
 refine mV (k:=sV nlV (k:=sV (q_fl 7 fld_150_5) (k:=sV (ldV 0 isAgg3) (k:=mV (k:=sV (q_len_slice rfl underlying77) (k:=sV q_add (k:=sV nlV (k:=?_))))))))
 refine sV (q_fl 7 fld_150_5) (k:=stV 0 (ii (w64 (l.bytes+(f_40.length:Int)))) #[.pointer (some ⟨el.2,0,none⟩),.string l.place_name,ii l.place_gen,ii l.size,ii part_15,ii (w64 (tail_17+(f_40.length:Int))),ii (w64 (l.count+1)),ii (w64 (l.bytes+(f_40.length:Int)))] sizeOf3 (k:=aa (ab (aV (k:=aa ?_)))))
 refine af ?_
 intro w hw
 obtain⟨row_72,hrow_72,hob_72⟩:∃rw:Rowb,rw=([[(gl,.cells #[.pointer (some ⟨el.2,0,none⟩),.string l.place_name,ii l.place_gen,ii l.size,ii part_15,ii (w64 (tail_17+(f_40.length:Int))),ii (w64 (l.count+1)),ii (w64 (l.bytes+(f_40.length:Int)))] el.1 (0,0))]]:List Rowb).flatten∧Oseglog_Log.ob el Γ38 gl rw (⟨l.place_name,l.place_gen,l.size,part_15,(w64 (tail_17+(f_40.length:Int))),(w64 (l.count+1)),(w64 (l.bytes+(f_40.length:Int)))⟩:Oseglog_Log):=⟨_,rfl,rfl,ho0_71,ho1_71,ho2_71,hr16,(w64_r _),(w64_r _),(w64_r _),trivial⟩
 have hw:=hw.fold (is:=[0]) rfl hrow_72
 cases h
 subst hF
 exact end_e (is:=[0,0]) (by kernel_rfl) hw rfl ⟨row_72,row48,rfl,rfl,hob_72,ho49,iV,trivial⟩
abbrev r_seglog_Log_Sync(gl:Nat)(el:Nat×Nat)(rowl:Rowb)(edk0:Nat)(r:Odisk_Disk)(U:List Rowb)(Γ:Gh)(v:Value):Prop := ∃(rowdk0':Rowb),v = .tuple #[]∧U = [rowl,rowdk0']∧Odisk_Disk.ob edk0 Γ el.2 rowdk0' r∧True
theorem t_seglog_Log_Sync{gl:Nat}{el:Nat×Nat}{rowl:Rowb}{l:Oseglog_Log}(hl:Oseglog_Log.ob el Γ gl rowl l){edk0:Nat}{rowdk0:Rowb}{dk0:Odisk_Disk}(hdk0:Odisk_Disk.ob edk0 Γ el.2 rowdk0 dk0)(hp:Pre [rowl,rowdk0] Γ w0){r:Odisk_Disk}(h:m_seglog_Log_Sync l dk0=some r):Calls Tryz.prog 99 #[(pq gl)] w0 (Outc Γ [rowl,rowdk0] w0 (r_seglog_Log_Sync gl el rowl edk0 r)):=by
 refine goV [] func99 ntmps99 results99 hp λF hF=>?_
 refine ah ?_
 refine mV (k:=sV nlV (k:=sV (q_fl 0 fld_150_0) (k:=sV (q_fl 0 fld_141_0) (k:=?_))))
 obtain⟨hrow_1,ho0_1,ho1_1,ho2_1,ho3_1,ho4_1,ho5_1,ho6_1,-⟩:=id hl
 refine ufR 0 hrow_1 [_,_] ?_
 refine sV (ldV 0 isAgg25) (k:=?_)
 obtain⟨z2,hz3,h⟩:=bnd h
 refine ecV [1] (caV call92) (λw hp=>t_disk_Disk_Sync hdk0 hp hz3) ?_
 rintro Γ4 _ _ hl5 ⟨row8,rfl,rfl,hr9,_⟩
 refine cwV 7 [_,_] ?_
 refine ae ?_
 intro w hw
 have hw:=hw.fold (is:=[1]) rfl hrow_1
 cases h
 subst hF
 exact end_e (is:=[0,0]) (by kernel_rfl) hw rfl ⟨row8,rfl,rfl,hr9,trivial⟩
abbrev r_store_Store_Put(gs_:Nat)(es_:Nat×Nat)(edk0:Nat)(r:Ostore_Store×Odisk_Disk×Int)(U:List Rowb)(Γ:Gh)(v:Value):Prop := ∃(rows_':Rowb), ∃(rowdk0':Rowb),v = .int .i64 r.2.2∧U = [rows_',rowdk0']∧Ostore_Store.ob es_ Γ gs_ rows_' r.1∧Odisk_Disk.ob edk0 Γ es_.2 rowdk0' r.2.1∧I64 r.2.2∧True
theorem t_store_Store_Put{gs_:Nat}{es_:Nat×Nat}{rows_:Rowb}{s_:Ostore_Store}(hs_:Ostore_Store.ob es_ Γ gs_ rows_ s_){Ar_1:Option Addr}{cr_1:Nat}(r_:Rec)(hr_:Rec.fits Γ Ar_1 cr_1 r_){edk0:Nat}{rowdk0:Rowb}{dk0:Odisk_Disk}(hdk0:Odisk_Disk.ob edk0 Γ es_.2 rowdk0 dk0)(hp:Pre [rows_,rowdk0] Γ w0){r:Ostore_Store×Odisk_Disk×Int}(h:m_store_Store_Put s_ r_ dk0=some r):Calls Tryz.prog 60 #[(pq gs_),.agg (Rec.cs Ar_1 cr_1 r_).toArray] w0 (Outc Γ [rows_,rowdk0] w0 (r_store_Store_Put gs_ es_ edk0 r)):=by
 refine goV [4] func60 ntmps60 results60 hp λF hF=>?_
 refine ab ?_
 refine bxV (v:=.agg (Rec.cs Ar_1 cr_1 r_).toArray) λg1=>?_
 refine aV (k:=aa (ab (sV (ldaV 0 (Rec.cs Ar_1 cr_1 r_) isAgg45 sizeOf45) (k:=?_))))
 obtain⟨z2,hz3,h⟩:=bnd h
 refine ecV [] (caV call97) (λw hp=>t_code_PutRec r_ hr_ hp hz3) ?_
 rintro Γ4 _ _ hl5 ⟨A8,c9,row10,rfl,rfl,hr11,hr12,_⟩
 refine cwV 9 [_,_,_,_] (mV (k:=sV exV (k:=sV exV (k:=aV (k:=aV (k:=aa ?_))))))
 refine ar (λσ w => ∃(b_15:List UInt8), ∃(e_20:Int), ∃(o22:Ostore_Store), ∃(o25:Odisk_Disk), ∃(Γ13:Gh), ∃(A16:Option Addr), ∃(c17:Nat), ∃(row23:Rowb), ∃(row26:Rowb),m_store_Store_Put_j1 r_ b_15 e_20 o22 o25=some r∧slots σ [(0,(pq gs_)),(3,(pq g1)),(5,.slice A16 b_15.length c17),(6,ii e_20)]∧CC F Γ13 [[(g1,.cells (Rec.cs Ar_1 cr_1 r_).toArray 45 (0,0))],row23,row26] w∧Gh.le Γ4 Γ13∧b_15.length≤c17∧Sl byteT Γ13 A16 b_15∧I64 e_20∧Ostore_Store.ob es_ Γ13 gs_ row23 o22∧Odisk_Disk.ob edk0 Γ13 es_.2 row26 o25∧True) ?_ ?_
 ·
  refine ab (mV (k:=sV q_eql (k:=aa ?_)))
  refine ciV h (λhb28 h=>?_) (λhb28 h=>?_)
  ·
   refine ah ?_
   refine mV (k:=sV nlV (k:=sV (q_fl 0 fld_107_0) (k:=?_)))
   obtain⟨g0_29,r0_29,m1_29,r1_29,hrow_29,ho0_29,ho1_29,-⟩:=(hs_.mono hl5)
   refine ufR 2 hrow_29 [_,_,_,_,_,_] ?_
   refine sV (ldV 0 isAgg102) (k:=mV (k:=?_))
   have hc34:=hr11.capz
   refine seR 3 [_,_,_,_,_,_] λΓ30 hl31 hr32=>?_
   have hs33:=hr11.sl hl31 hr32
   obtain⟨z35,hz36,h⟩:=bnd h
   refine ecV [1,4] (caV call98) (λw hp=>t_seglog_Log_Append (ho0_29.mono hl31) hs33 hc34 (hdk0.mono (hl5.trans hl31)) hp hz36) ?_
   rintro Γ37 _ _ hl38 ⟨row41,row43,rfl,rfl,hr42,hr44,hr45,_⟩
   refine cwV 19 [_,_,_,_,_,_] (aV (k:=?_))
   refine ae ?_
   intro w hw
   obtain⟨row_46,hrow_46,hob_46⟩:∃rw:Rowb,rw=([[(gs_,.cells #[(pq g0_29),.map (some m1_29)] es_.1 (0,0))],row41,r1_29]:List Rowb).flatten∧Ostore_Store.ob es_ Γ37 gs_ rw (⟨z35.1,s_.keys⟩:Ostore_Store):=⟨_,rfl,g0_29,row41,m1_29,r1_29,rfl,hr42,(ho1_29.mono (hl31.trans hl38)),trivial⟩
   have hw:=hw.fold (is:=[2,0,1]) rfl hrow_46
   exact⟨z2.1,z35.2.2,(⟨z35.1,s_.keys⟩:Ostore_Store),z35.2.1,Γ37,A8,c9,row_46,row43,h,slK,(hw.on [3,0,0]),(hl31.trans hl38),hc34,(hs33.mono hl38),hr45,hob_46,hr44,trivial⟩
  refine ag ?_
  intro w hw
  have hc51:=hr11.capz
  obtain⟨Γ47,hw,hl48,hr49⟩:=hw.seal (i:=0) rfl; have hs50:=hr11.sl hl48 hr49
  exact⟨z2.1,z2.2,s_,dk0,Γ47,A8,c9,rows_,rowdk0,h,slK,(hw.on [1,1,1]),hl48,hc51,hs50,hr12,(hs_.mono (hl5.trans hl48)),(hdk0.mono (hl5.trans hl48)),trivial⟩
 rintro σ w ⟨b_15,e_20,o22,o25,Γ13,A16,c17,row23,row26,h,hsl,hw,hl14,hc19,hs18,hr21,ho24,ho27,-⟩
 refine slV hsl hw [_,_,_] ?_; clear hw hsl
 refine ac (ab (mV (k:=sV q_neq (k:=aa ?_))))
 refine ciV h (λhb52 h=>?_) (λhb52 h=>?_)
 ·
  refine ab (mV (k:=aV (k:=aa ?_)))
  exact af λw hw=>re_ r [1,1] h hF hw ⟨row23,row26,rfl,rfl,ho24,ho27,hr21,trivial⟩
 refine ag (wc_ (ab (mV (k:=sV nlV (k:=sV (q_fl 0 fld_107_0) (k:=?_))))))
 obtain⟨g0_53,r0_53,m1_53,r1_53,hrow_53,ho0_53,ho1_53,-⟩:=id ho24
 refine ufR 1 hrow_53 [_,_,_,_,_] ?_
 refine sV (ldV 0 isAgg102) (k:=?_)
 obtain⟨z54,hz55,h⟩:=bnd h
 refine ecV [1,3] (caV call99) (λw hp=>t_seglog_Log_Sync ho0_53 ho27 hp hz55) ?_
 rintro Γ56 _ _ hl57 ⟨row60,rfl,rfl,hr61,_⟩
 refine cwV 27 [_,_,_,_,_] (aa (ab (mV (k:=sV (ldaV 4 (Rec.cs Ar_1 cr_1 r_) isAgg45 sizeOf45) (k:=mV (k:=?_))))))
 refine foR [2,0,1] hrow_53 [_,_,_] ?_
 obtain⟨z63,hz64,h⟩:=bnd h
 refine ecV [0] (caV call55) (λw hp=>t_store_Store_lay (ho24.mono hl57) r_ (Rec.fits_mono hr_ ((hl5.trans hl14).trans hl57)) (hs18.mono hl57) hc19 hp hz64) ?_
 rintro Γ65 _ _ hl66 ⟨row69,rfl,rfl,hr70,_⟩
 refine cwV 31 [_,_,_] (aa (ab (aV (k:=aa ?_))))
 exact af λw hw=>re_ r [0,0] h hF hw ⟨row69,row60,rfl,rfl,hr70,(hr61.mono hl66),iV,trivial⟩
abbrev r_node_lay(gs_:Nat)(es_:Nat×Nat)(edk0:Nat)(r:Ostore_Store×Odisk_Disk×Int)(U:List Rowb)(Γ:Gh)(v:Value):Prop := ∃(rows_':Rowb), ∃(rowdk0':Rowb),v = .int .i64 r.2.2∧U = [rows_',rowdk0']∧Ostore_Store.ob es_ Γ gs_ rows_' r.1∧Odisk_Disk.ob edk0 Γ es_.2 rowdk0' r.2.1∧I64 r.2.2∧True
theorem t_node_lay{gs_:Nat}{es_:Nat×Nat}{rows_:Rowb}{s_:Ostore_Store}(hs_:Ostore_Store.ob es_ Γ gs_ rows_ s_){Alist:Option Addr}{clist:Nat}{list:List Rec}(hlist:Sl recT Γ Alist list)(hlistc:list.length≤clist){edk0:Nat}{rowdk0:Rowb}{dk0:Odisk_Disk}(hdk0:Odisk_Disk.ob edk0 Γ es_.2 rowdk0 dk0)(hp:Pre [rows_,rowdk0] Γ w0){r:Ostore_Store×Odisk_Disk×Int}(h:m_node_lay s_ list dk0=some r):Calls Tryz.prog 56 #[(pq gs_),.slice Alist list.length clist] w0 (Outc Γ [rows_,rowdk0] w0 (r_node_lay gs_ es_ edk0 r)):=by
 refine goV [4] func56 ntmps56 results56 hp λF hF=>?_
 refine ab (aV (k:=aa (ac (ab (mV (k:=sV (q_len_slice rfl underlying22) (k:=mV (k:=?_))))))))
 refine aa (ai ?_)
 refine al h (λ(i10:Nat) (s:Ostore_Store×Odisk_Disk) σ w=>match s with | (o3,o6) => ∃(Γ1:Gh), ∃(row4:Rowb), ∃(row7:Rowb),slots σ [(0,(pq gs_)),(10,.slice Alist list.length clist),(11,ii (list.length:Int)),(12,ii (i10:Int))]∧CC F Γ1 [row4,row7] w∧Gh.le Γ Γ1∧Ostore_Store.ob es_ Γ1 gs_ row4 o3∧Odisk_Disk.ob edk0 Γ1 es_.2 row7 o6∧True) ?_ ?_
 ·
  intro w hw
  exact⟨Γ,rows_,rowdk0,slK,hw,gR,hs_,hdk0,trivial⟩
 rintro f9 i10 ⟨o3,o6⟩ σ w hi11 hlt12 hge13 ⟨Γ1,row4,row7,hsl,hw,hl2,ho5,ho8,-⟩
 refine slV hsl hw [_,_] ?_; clear hw hsl
 refine ab (sV q_lss (k:=aa (ac ?_)))
 refine coV (λhb14=>?_) (λhb14=>?_)
 ·
  have hl15:=ilt hb14
  have h:=hlt12 hl15
  refine ag (wc_ (ac (ai (ab (sV (q_ixn (i:=i10) underlying22 sizeOf45 rfl rfl rfl hl15 ((hlist.mono hl2).some_ hl15)) (k:=?_))))))
  obtain⟨A16,c17,hx18⟩:=(hlist.mono hl2).recT_at i10
  refine sV (q_lda (c:=0) (vs:=(Rec.cs A16 c17 (gt list i10))) (hx18 hl15).2 rfl isAgg45 sizeOf45 rfl rfl rfl) (k:=?_)
  refine alV zeroValue45 λg19=>?_
  refine stV 0 (.agg (Rec.cs A16 c17 (gt list i10)).toArray) (Rec.cs A16 c17 (gt list i10)).toArray sizeOf45 (k:=aa (ab (mV (k:=sV (q_fl 0 fld_45_0) (k:=sV (ldV 0 isAgg9) (k:=?_))))))
  obtain⟨z20,hz21,h⟩:=bnd h
  refine ecV [1] (caV call58) (λw hp=>t_store_Store_Get ho5 ((gt list i10).key) (hx18 hl15).1.1 hp hz21) ?_
  rintro Γ22 _ _ hl23 ⟨A26,c27,rfl,rfl,hc29,hr28,_⟩
  refine cwV 19 [_,_,_] (aV (k:=aa (ab (mV (k:=sV (q_fl 1 fld_45_1) (k:=sV (ldV 1 isAgg43) (k:=?_)))))))
  obtain⟨z30,hz31,h⟩:=bnd h
  refine ecV [] (caV call95) (λw hp=>t_vers_Merge hr28 hc29 ((hx18 hl15).1.2.2.mono hl23) (hx18 hl15).1.2.1 hp hz31) ?_
  rintro Γ32 _ _ hl33 ⟨A36,c37,row38,rfl,rfl,hr39,hr40,_⟩
  refine cwV 24 [_,_,_,_] (mV (k:=sV exV (k:=sV exV (k:=aV (k:=aV (k:=aa ?_))))))
  refine ar (λσ w => ∃(e_43:Int), ∃(o45:Ostore_Store), ∃(o48:Odisk_Disk), ∃(Γ41:Gh), ∃(row46:Rowb), ∃(row49:Rowb),m_node_lay_j5 f9 e_43 o45 o48=some r∧slots σ [(0,(pq gs_)),(9,ii e_43),(10,.slice Alist list.length clist),(11,ii (list.length:Int)),(12,ii (i10:Int))]∧CC F Γ41 [row46,row49] w∧Gh.le Γ32 Γ41∧I64 e_43∧Ostore_Store.ob es_ Γ41 gs_ row46 o45∧Odisk_Disk.ob edk0 Γ41 es_.2 row49 o48∧True) ?_ ?_
  ·
   refine ab (mV (k:=sV q_eql (k:=mV (k:=vG1 (h:=λhg51=>moV) (k:=vG1 (h:=λhg52=>moV) (k:=?_))))))
   obtain⟨z54,hz55,h⟩:=bnd h
   refine vC1 (h:=λhg53=>q_call (call_run call96 rfl rfl (args2 (grV hg53) (grV hg53))) (λw hw=>t_vers_Same (Γ:=Gh.all w) (hr39.sl hw.sat.le_all (hw.ra 0 rfl)) hr39.capz ((hr28.mono hl33).mono hw.sat.le_all) hc29 (Sat.all w) (gc_of hz55 hg53))) (k:=vG1 (h:=λhg56=>q_not rfl (grV hg56)) (k:=sV pkA (k:=aa ?_)))
   refine ciV h (λhb57 h=>?_) (λhb57 h=>?_)
   ·
    refine ah ?_
    refine mV (k:=sV (q_fl 0 fld_45_0) (k:=sV (ldV 2 isAgg9) (k:=mV (k:=sV (q_build' (v:=.agg #[.string (gt list i10).key,.slice A36 z30.1.length c37]) rfl (bargs2 rfl rfl) (λw=>by kernel_rfl)) (k:=?_)))))
    have hc62:=hr39.capz
    refine seR 0 [_,_,_,_] λΓ58 hl59 hr60=>?_
    have hs61:=hr39.sl hl59 hr60
    obtain⟨z63,hz64,h⟩:=bnd h
    refine ecV [1,2] (caV call60) (λw hp=>t_store_Store_Put (ho5.mono ((hl23.trans hl33).trans hl59)) (⟨(gt list i10).key,z30.1⟩:Rec) ⟨(hx18 hl15).1.1,⟨hc62,hs61⟩⟩ (ho8.mono ((hl23.trans hl33).trans hl59)) hp hz64) ?_
    rintro Γ65 _ _ hl66 ⟨row69,row71,rfl,rfl,hr70,hr72,hr73,_⟩
    refine cwV 40 [_,_,_,_] (aV (k:=?_))
    exact ae λw hw=>⟨z63.2.2,z63.1,z63.2.1,Γ65,row69,row71,h,slK,(hw.on [0,0]),(hl59.trans hl66),hr73,hr70,hr72,trivial⟩
   exact ag λw hw=>⟨z30.2,o3,o6,Γ32,row4,row7,h,slK,(hw.on [1,2]),gR,hr40,(ho5.mono (hl23.trans hl33)),(ho8.mono (hl23.trans hl33)),trivial⟩
  rintro σ w ⟨e_43,o45,o48,Γ41,row46,row49,h,hsl,hw,hl42,hr44,ho47,ho50,-⟩
  refine slV hsl hw [_,_] ?_; clear hw hsl
  refine ab (mV (k:=sV q_neq (k:=aa ?_)))
  refine ciV h (λhb74 h=>?_) (λhb74 h=>?_)
  ·
   refine ab (mV (k:=aV (k:=aa ?_)))
   exact af λw hw=>re_ r [0,0] h hF hw ⟨row46,row49,rfl,rfl,ho47,ho50,hr44,trivial⟩
  refine ag (wc_ ?_)
  refine ah ?_
  refine sV (q_add_r rfl rfl rfl (ctr_len hl15 (hlist.mono hl2).le)) (k:=mV (k:=?_))
  exact ae λw hw=>⟨hl15,(o45,o48),h,Γ41,row46,row49,slK,hw,(((hl2.trans hl23).trans hl33).trans hl42),ho47,ho50,trivial⟩
 have h:=hge13 (ige hb14)
 refine aj ?_
 change WC _ _ _ _ _ _
 refine ab (aV (k:=aa ?_))
 exact af λw hw=>re_ r [0,0] h hF hw ⟨row4,row7,rfl,rfl,ho5,ho8,iV,trivial⟩
abbrev r_node_Node_Handle_1(gb0:Nat)(gb0v:Nat)(eb0v:Nat×Nat)(b0v:Onode_Node)(rowb0v:Rowb)(gb1:Nat)(Ab1_10:Option Addr)(cb1_10:Nat)(Ab1_11:Option Addr)(cb1_11:Nat)(Ab1_12:Option Addr)(cb1_12:Nat)(Ab1_13:Option Addr)(cb1_13:Nat)(Ab1_14:Option Addr)(cb1_14:Nat)(b1:Dapi_Msg)(gb2:Nat)(Ab2v:Option Addr)(cb2v:Nat)(b2v:List Dapi_Msg)(rowb2v:Rowb)(r:List Dapi_Msg)(U:List Rowb)(Γ:Gh)(v:Value):Prop := ∃(Ab2_0:Option Addr), ∃(cb2_0:Nat), ∃(rowb2_0:Rowb),v = .tuple #[]∧U = [[(gb0,.cells #[.pointer (some ⟨gb0v,0,none⟩)] 27 (0,0))],rowb0v,[(gb1,.cells #[.int .i64 b1.kind,.int .i64 b1.from_.site,.int .i64 b1.from_.node,.int .i64 b1.to_.site,.int .i64 b1.to_.node,.int .i64 b1.id,.int .i64 b1.n,.int .i64 b1.for_,.int .i64 b1.code,.string b1.key,.slice Ab1_10 b1.recs.length cb1_10,.slice Ab1_11 b1.vec.length cb1_11,.slice Ab1_12 b1.path.length cb1_12,.slice Ab1_13 b1.hashes.length cb1_13,.slice Ab1_14 b1.route.length cb1_14] 40 (0,0))],[(gb2,.cells #[.slice Ab2_0 r.length cb2_0] 34 (0,0))],rowb2_0]∧Own dapi_MsgT Γ 40 rowb2_0 Ab2_0 cb2_0 r∧True
theorem t_node_Node_Handle_1{Aa10:Option Addr}{ca10:Nat}{Aa11:Option Addr}{ca11:Nat}{Aa12:Option Addr}{ca12:Nat}{Aa13:Option Addr}{ca13:Nat}{Aa14:Option Addr}{ca14:Nat}(a:Dapi_Msg)(ha:Dapi_Msg.fits Γ Aa10 ca10 Aa11 ca11 Aa12 ca12 Aa13 ca13 Aa14 ca14 a){gb0:Nat}{gb0v:Nat}{eb0v:Nat×Nat}{rowb0v:Rowb}{b0v:Onode_Node}(hb0v:Onode_Node.ob eb0v Γ gb0v rowb0v b0v){gb1:Nat}{Ab1_10:Option Addr}{cb1_10:Nat}{Ab1_11:Option Addr}{cb1_11:Nat}{Ab1_12:Option Addr}{cb1_12:Nat}{Ab1_13:Option Addr}{cb1_13:Nat}{Ab1_14:Option Addr}{cb1_14:Nat}(b1:Dapi_Msg)(hb1:Dapi_Msg.fits Γ Ab1_10 cb1_10 Ab1_11 cb1_11 Ab1_12 cb1_12 Ab1_13 cb1_13 Ab1_14 cb1_14 b1){gb2:Nat}{Ab2v:Option Addr}{cb2v:Nat}{rowb2v:Rowb}{b2v:List Dapi_Msg}(hb2v:Own dapi_MsgT Γ 40 rowb2v Ab2v cb2v b2v)(hp:Pre [[(gb0,.cells #[(pq gb0v)] 27 (0,0))],rowb0v,[(gb1,.cells (Dapi_Msg.cs Ab1_10 cb1_10 Ab1_11 cb1_11 Ab1_12 cb1_12 Ab1_13 cb1_13 Ab1_14 cb1_14 b1).toArray 40 (0,0))],[(gb2,.cells #[.slice Ab2v b2v.length cb2v] 34 (0,0))],rowb2v] Γ w0){r:List Dapi_Msg}(h:m_node_Node_Handle_1 a b0v b1 b2v=some r):Calls Tryz.prog 41 #[.agg (Dapi_Msg.cs Aa10 ca10 Aa11 ca11 Aa12 ca12 Aa13 ca13 Aa14 ca14 a).toArray,(pq gb0),(pq gb1),(pq gb2)] w0 (Outc Γ [[(gb0,.cells #[(pq gb0v)] 27 (0,0))],rowb0v,[(gb1,.cells (Dapi_Msg.cs Ab1_10 cb1_10 Ab1_11 cb1_11 Ab1_12 cb1_12 Ab1_13 cb1_13 Ab1_14 cb1_14 b1).toArray 40 (0,0))],[(gb2,.cells #[.slice Ab2v b2v.length cb2v] 34 (0,0))],rowb2v] w0 (r_node_Node_Handle_1 gb0 gb0v eb0v b0v rowb0v gb1 Ab1_10 cb1_10 Ab1_11 cb1_11 Ab1_12 cb1_12 Ab1_13 cb1_13 Ab1_14 cb1_14 b1 gb2 Ab2v cb2v b2v rowb2v r)):=by
 refine goV [] func41 ntmps41 results41 hp λF hF=>?_
 refine ab ?_
 refine bxV (v:=.agg (Dapi_Msg.cs Aa10 ca10 Aa11 ca11 Aa12 ca12 Aa13 ca13 Aa14 ca14 a).toArray) λg1=>?_
 refine aa (ac ?_)
 refine leV λh02=>?_
 refine held_ (CC F Γ [[(gb0,.cells #[(pq gb0v)] 27 (0,0))],[(gb1,.cells (Dapi_Msg.cs Ab1_10 cb1_10 Ab1_11 cb1_11 Ab1_12 cb1_12 Ab1_13 cb1_13 Ab1_14 cb1_14 b1).toArray 40 (0,0))],[(gb2,.cells #[.slice Ab2v b2v.length cb2v] 34 (0,0))]]) (bo_ [1,2,2] gR h02) λk=>?_
 change WH _ _ _ _ (CC F Γ [_,_,_,_,_,_]) _ 14 _ _
 refine hV 0 k (q:=ldV 0 isAgg27) (k:=hV 1 k (q:=nlV) (k:=hV 2 k (q:=q_fl 2 fld_74_2) (k:=hV 4 k (q:=q_fl 1 fld_40_1) (k:=hV 5 k (q:=ldaV 1 (Adr.cs b1.from_) isAgg32 sizeOf32) (k:=hV 6 k (q:=q_fl 5 fld_40_3) (k:=hV 7 k (q:=ldV 1 isAgg2) (k:=wl_ 3 rfl ?_)))))))
 obtain⟨g4_3,r4_3,m5_3,r5_3,m6_3,r6_3,hrow_3,ho0_3,ho1_3,ho2_3,ho3_3,ho4_3,ho5_3,-⟩:=id hb0v
 refine ufR 2 hrow_3 [_,_,_,_,_,_,_,_,_] ?_
 refine sV (ldaV 0 [ii b0v.self_site,ii b0v.self_node] isAgg32 sizeOf32) (k:=?_)
 refine ae (nxV (bo_ [5,5,5] gR h02) λk=>?_)
 refine hV 8 k (q:=q_fl 1 fld_40_1) (k:=wl_ 9 rfl (stV 4 (.agg #[ii b0v.self_site,ii b0v.self_node]) #[ii a.kind,ii b0v.self_site,ii b0v.self_node,ii a.to_.site,ii a.to_.node,ii a.id,ii a.n,ii a.for_,ii a.code,.string a.key,.slice Aa10 a.recs.length ca10,.slice Aa11 a.vec.length ca11,.slice Aa12 a.path.length ca12,.slice Aa13 a.hashes.length ca13,.slice Aa14 a.route.length ca14] sizeOf32 (k:=?_)))
 refine ae (nxV (bo_ [5,5,5] gR h02) λk=>?_)
 refine hV 10 k (q:=q_fl 3 fld_40_2) (k:=wl_ 11 rfl (stV 4 (.agg (Adr.cs b1.from_).toArray) #[ii a.kind,ii b0v.self_site,ii b0v.self_node,ii b1.from_.site,ii b1.from_.node,ii a.id,ii a.n,ii a.for_,ii a.code,.string a.key,.slice Aa10 a.recs.length ca10,.slice Aa11 a.vec.length ca11,.slice Aa12 a.path.length ca12,.slice Aa13 a.hashes.length ca13,.slice Aa14 a.route.length ca14] sizeOf32 (k:=?_)))
 refine ae (nxV (bo_ [5,5,5] gR h02) λk=>?_)
 refine hV 12 k (q:=q_fl 5 fld_40_3) (k:=wl_ 13 rfl (stV 4 (ii b1.id) #[ii a.kind,ii b0v.self_site,ii b0v.self_node,ii b1.from_.site,ii b1.from_.node,ii b1.id,ii a.n,ii a.for_,ii a.code,.string a.key,.slice Aa10 a.recs.length ca10,.slice Aa11 a.vec.length ca11,.slice Aa12 a.path.length ca12,.slice Aa13 a.hashes.length ca13,.slice Aa14 a.route.length ca14] sizeOf2 (k:=?_)))
 refine ae (nxV (bo_ [5,5,5] gR h02) λk=>?_)
 refine am (by kernel_rfl) ?_
 change WC _ _ _ _ _ _
 refine ah ?_
 refine sV (ldV 7 isAgg34) (k:=sV (ldaV 4 [ii a.kind,ii b0v.self_site,ii b0v.self_node,ii b1.from_.site,ii b1.from_.node,ii b1.id,ii a.n,ii a.for_,ii a.code,.string a.key,.slice Aa10 a.recs.length ca10,.slice Aa11 a.vec.length ca11,.slice Aa12 a.path.length ca12,.slice Aa13 a.hashes.length ca13,.slice Aa14 a.route.length ca14] isAgg40 sizeOf40) (k:=?_))
 refine bsV #[ii a.kind,ii b0v.self_site,ii b0v.self_node,ii b1.from_.site,ii b1.from_.node,ii b1.id,ii a.n,ii a.for_,ii a.code,.string a.key,.slice Aa10 a.recs.length ca10,.slice Aa11 a.vec.length ca11,.slice Aa12 a.path.length ca12,.slice Aa13 a.hashes.length ca13,.slice Aa14 a.route.length ca14] 40 λg4=>?_
 obtain⟨hk5,h⟩:=chk_some h
 refine apV 9 [(⟨a.kind,(⟨b0v.self_site,b0v.self_node⟩:Adr),(⟨b1.from_.site,b1.from_.node⟩:Adr),b1.id,a.n,a.for_,a.code,a.key,a.recs,a.vec,a.path,a.hashes,a.route⟩:Dapi_Msg)] elem_34 hb2v (of_decide_eq_true hk5) (λw hw=>src_one (i:=0) rfl (by exact⟨Aa10,ca10,Aa11,ca11,Aa12,ca12,Aa13,ca13,Aa14,ca14,rfl,⟨ha.1,ho1_3,ho2_3,hb1.2.1,hb1.2.2.1,hb1.2.2.2.2.2.1,ha.2.2.2.2.2.2.1,ha.2.2.2.2.2.2.2.1,ha.2.2.2.2.2.2.2.2.1,ha.2.2.2.2.2.2.2.2.2.1,⟨ha.2.2.2.2.2.2.2.2.2.2.1.1,ha.2.2.2.2.2.2.2.2.2.2.1.2⟩,⟨ha.2.2.2.2.2.2.2.2.2.2.2.1.1,ha.2.2.2.2.2.2.2.2.2.2.2.1.2⟩,⟨ha.2.2.2.2.2.2.2.2.2.2.2.2.1.1,ha.2.2.2.2.2.2.2.2.2.2.2.2.1.2⟩,⟨ha.2.2.2.2.2.2.2.2.2.2.2.2.2.1.1,ha.2.2.2.2.2.2.2.2.2.2.2.2.2.1.2⟩,⟨ha.2.2.2.2.2.2.2.2.2.2.2.2.2.2.1,ha.2.2.2.2.2.2.2.2.2.2.2.2.2.2.2⟩⟩⟩) hw) ?_
 intro row6 A7 c8 ho9
 refine stV 8 (.slice A7 (b2v++[(⟨a.kind,(⟨b0v.self_site,b0v.self_node⟩:Adr),(⟨b1.from_.site,b1.from_.node⟩:Adr),b1.id,a.n,a.for_,a.code,a.key,a.recs,a.vec,a.path,a.hashes,a.route⟩:Dapi_Msg)]).length c8) #[.slice A7 (b2v++[(⟨a.kind,(⟨b0v.self_site,b0v.self_node⟩:Adr),(⟨b1.from_.site,b1.from_.node⟩:Adr),b1.id,a.n,a.for_,a.code,a.key,a.recs,a.vec,a.path,a.hashes,a.route⟩:Dapi_Msg)]).length c8] sizeOf34 (k:=?_)
 refine ae ?_
 intro w hw
 have hw:=hw.fold (is:=[1,1,1,1]) rfl hrow_3
 cases h
 subst hF
 exact end_e (is:=[3,0,2,2,2]) (by kernel_rfl) hw rfl ⟨A7,c8,row6,rfl,rfl,ho9,trivial⟩
abbrev r_node_own(r:List Rec)(U:List Rowb)(Γ:Gh)(v:Value):Prop := ∃(A0:Option Addr), ∃(c0:Nat), ∃(row0:Rowb),v = .slice A0 r.length c0∧U = [row0]∧Own recT Γ 45 row0 A0 c0 r∧True
theorem t_node_own{Al:Option Addr}{cl:Nat}{l:List Rec}(hl:Sl recT Γ Al l)(hlc:l.length≤cl)(hp:Pre [] Γ w0){r:List Rec}(h:m_node_own l=some r):Calls Tryz.prog 57 #[.slice Al l.length cl] w0 (Outc Γ [] w0 (r_node_own r)):=by
 refine goV [2] func57 ntmps57 results57 hp λF hF=>?_
 refine ab (aV (k:=aa (ab (aV (k:=aa (ac (ab ?_)))))))
 refine mV (k:=sV (q_len_slice rfl underlying22) (k:=mV (k:=aa (ai ?_))))
 refine al h (λ(i9:Nat) (out_3:List Rec) σ w => ∃(Γ1:Gh), ∃(A4:Option Addr), ∃(c5:Nat), ∃(row6:Rowb),slots σ [(3,.slice A4 out_3.length c5),(9,.slice Al l.length cl),(10,ii (l.length:Int)),(11,ii (i9:Int))]∧CC F Γ1 [row6] w∧Gh.le Γ Γ1∧Own recT Γ1 45 row6 A4 c5 out_3∧True) ?_ ?_
 ·
  intro w hw
  have hw:=hw.pad
  exact⟨Γ,none,0,[],slK,hw,gR,(Own.nil recT _ 45),trivial⟩
 rintro f8 i9 out_3 σ w hi10 hlt11 hge12 ⟨Γ1,A4,c5,row6,hsl,hw,hl2,ho7,-⟩
 refine slV hsl hw [_] ?_; clear hw hsl
 refine ab (sV q_lss (k:=aa (ac ?_)))
 refine coV (λhb13=>?_) (λhb13=>?_)
 ·
  have hl14:=ilt hb13
  have h:=hlt11 hl14
  refine ag (wc_ (ac (ai (ab (sV (q_ixn (i:=i9) underlying22 sizeOf45 rfl rfl rfl hl14 ((hl.mono hl2).some_ hl14)) (k:=?_))))))
  obtain⟨A15,c16,hx17⟩:=(hl.mono hl2).recT_at i9
  refine sV (q_lda (c:=0) (vs:=(Rec.cs A15 c16 (gt l i9))) (hx17 hl14).2 rfl isAgg45 sizeOf45 rfl rfl rfl) (k:=?_)
  refine alV zeroValue45 λg18=>?_
  refine stV 0 (.agg (Rec.cs A15 c16 (gt l i9)).toArray) (Rec.cs A15 c16 (gt l i9)).toArray sizeOf45 (k:=aa (ab (sV (q_fl 0 fld_45_0) (k:=sV (ldV 0 isAgg9) (k:=sV (q_build' (v:=.agg #[.string (gt l i9).key,.slice none 0 0]) rfl (bargs1 rfl) (λw=>by kernel_rfl)) (k:=?_))))))
  refine alV zeroValue45 λg19=>?_
  refine stV 0 (.agg #[.string (gt l i9).key,.slice none 0 0]) #[.string (gt l i9).key,.slice none 0 0] sizeOf45 (k:=aa (ac (ab (sV (q_fl 1 fld_45_1) (k:=sV (ldV 1 isAgg43) (k:=sV (q_len_slice rfl underlying43) (k:=mV (k:=?_))))))))
  refine aa (ai ?_)
  refine al h (λ(i28:Nat) (x22:List Ver) σ w => ∃(Γ20:Gh), ∃(A23:Option Addr), ∃(c24:Nat), ∃(row25:Rowb),slots σ [(3,.slice A4 out_3.length c5),(6,(pq g19)),(9,.slice Al l.length cl),(10,ii (l.length:Int)),(11,ii (i9:Int)),(19,.slice A15 ((gt l i9).vers).length c16),(20,ii ((((gt l i9).vers).length:Nat):Int)),(21,ii (i28:Int))]∧CC F Γ20 [row25,[(g19,.cells #[.string (gt l i9).key,.slice A23 x22.length c24] 45 (0,0))],row6] w∧Gh.le Γ1 Γ20∧Own verT Γ20 89 row25 A23 c24 x22∧True) ?_ ?_
  ·
   intro w hw
   have hw:=hw.pad
   exact⟨Γ1,none,0,[],slK,(hw.on [0,0,1]),gR,(Own.nil verT _ 89),trivial⟩
  rintro f27 i28 x22 σ w hi29 hlt30 hge31 ⟨Γ20,A23,c24,row25,hsl,hw,hl21,ho26,-⟩
  refine slV hsl hw [_,_,_] ?_; clear hw hsl
  refine ab (sV q_lss (k:=aa (ac ?_)))
  refine coV (λhb32=>?_) (λhb32=>?_)
  ·
   have hl33:=ilt hb32
   have h:=hlt30 hl33
   refine ag (wc_ (ac (ai (ab (sV (q_ixn (i:=i28) underlying43 sizeOf89 rfl rfl rfl hl33 (((hx17 hl14).1.2.2.mono hl21).some_ hl33)) (k:=?_))))))
   obtain⟨A34,c35,hx36⟩:=((hx17 hl14).1.2.2.mono hl21).verT_at i28
   refine sV (q_lda (c:=0) (vs:=(Ver.cs A34 c35 (gt ((gt l i9).vers) i28))) (hx36 hl33).2 rfl isAgg89 sizeOf89 rfl rfl rfl) (k:=?_)
   refine alV zeroValue89 λg37=>?_
   refine stV 0 (.agg (Ver.cs A34 c35 (gt ((gt l i9).vers) i28)).toArray) (Ver.cs A34 c35 (gt ((gt l i9).vers) i28)).toArray sizeOf89 (k:=aa (ab (sV (q_fl 2 fld_89_1) (k:=sV (ldV 0 isAgg87) (k:=?_)))))
   refine WR.sub (λw hw=>hw.pad) ?_
   obtain⟨hk38,h⟩:=chk_some h
   refine e_append (T:=spanT) (xs:=[]) (ys:=(gt ((gt l i9).vers) i28).past) elem_87 (i:=0) rfl rfl rfl rfl (by kernel_rfl) rfl rfl (Own.nil spanT Γ20 93) (of_decide_eq_true hk38) (λw hw=>src_sl (hx36 hl33).1.2.2.1.2 hw) ?_
   intro row39 A40 c41 ho42
   refine sV (q_fl 2 fld_89_1) (k:=stV 1 (.slice A40 (gt ((gt l i9).vers) i28).past.length c41) (Ver.cs A40 c41 (gt ((gt l i9).vers) i28)).toArray sizeOf87 (k:=aa ?_))
   refine ah ?_
   refine sV (q_fl 1 fld_45_1) (k:=sV (ldV 3 isAgg43) (k:=sV (ldaV 1 (Ver.cs A40 c41 (gt ((gt l i9).vers) i28)) isAgg89 sizeOf89) (k:=?_)))
   have hc47:=ho42.capz
   refine seR 0 [_,_,_,_,_] λΓ43 hl44 hr45=>?_
   have hs46:=ho42.sl hl44 hr45
   refine bsV (Ver.cs A40 c41 (gt ((gt l i9).vers) i28)).toArray 89 λg48=>?_
   obtain⟨hk49,h⟩:=chk_some h
   refine apV 3 [(gt ((gt l i9).vers) i28)] elem_43 (ho26.mono hl44) (of_decide_eq_true hk49) (λw hw=>src_one (i:=0) rfl (by exact⟨A40,c41,rfl,⟨(hx36 hl33).1.1,(hx36 hl33).1.2.1,⟨hc47,hs46⟩,(hx36 hl33).1.2.2.2⟩⟩) hw) ?_
   intro row50 A51 c52 ho53
   refine sV (q_fl 1 fld_45_1) (k:=stV 4 (.slice A51 (x22++[(gt ((gt l i9).vers) i28)]).length c52) #[.string (gt l i9).key,.slice A51 (x22++[(gt ((gt l i9).vers) i28)]).length c52] sizeOf43 (k:=?_))
   refine ae ?_
   change WC _ _ _ _ _ _
   refine ah ?_
   refine sV (q_add_r rfl rfl rfl (ctr_len hl33 ((hx17 hl14).1.2.2.mono hl21).le)) (k:=mV (k:=?_))
   exact ae λw hw=>⟨hl33,(x22++[(gt ((gt l i9).vers) i28)]),h,Γ43,A51,c52,row50,slK,(hw.on [3,3,3]),(hl21.trans hl44),ho53,trivial⟩
  have h:=hge31 (ige hb32)
  refine aj ?_
  change WC _ _ _ _ _ _
  refine ah ?_
  refine mV (k:=sV (ldaV 1 [.string (gt l i9).key,.slice A23 x22.length c24] isAgg45 sizeOf45) (k:=?_))
  have hc58:=ho26.capz
  refine seR 0 [_,_,_] λΓ54 hl55 hr56=>?_
  have hs57:=ho26.sl hl55 hr56
  refine bsV #[.string (gt l i9).key,.slice A23 x22.length c24] 45 λg59=>?_
  obtain⟨hk60,h⟩:=chk_some h
  refine apV 3 [(⟨(gt l i9).key,x22⟩:Rec)] elem_22 (ho7.mono (hl21.trans hl55)) (of_decide_eq_true hk60) (λw hw=>src_one (i:=0) rfl (by exact⟨A23,c24,rfl,⟨(hx17 hl14).1.1,⟨hc58,hs57⟩⟩⟩) hw) ?_
  intro row61 A62 c63 ho64
  refine aV (k:=?_)
  refine ae ?_
  change WC _ _ _ _ _ _
  refine ah ?_
  refine sV (q_add_r rfl rfl rfl (ctr_len hl14 (hl.mono hl2).le)) (k:=mV (k:=?_))
  exact ae λw hw=>⟨hl14,(out_3++[(⟨(gt l i9).key,x22⟩:Rec)]),h,Γ54,A62,c63,row61,slK,(hw.on [3]),((hl2.trans hl21).trans hl55),ho64,trivial⟩
 have h:=hge12 (ige hb13)
 refine aj ?_
 change WC _ _ _ _ _ _
 refine ab (mV (k:=aV (k:=aa ?_)))
 exact af λw hw=>re_ r [0] h hF hw ⟨A4,c5,row6,rfl,rfl,ho7,trivial⟩
abbrev r_node_Node_put(gn:Nat)(en:Nat×Nat)(ganswer0:Nat)(ganswer1:Nat)(Aanswer1_10:Option Addr)(canswer1_10:Nat)(Aanswer1_11:Option Addr)(canswer1_11:Nat)(Aanswer1_12:Option Addr)(canswer1_12:Nat)(Aanswer1_13:Option Addr)(canswer1_13:Nat)(Aanswer1_14:Option Addr)(canswer1_14:Nat)(answer1:Dapi_Msg)(ganswer2:Nat)(Aanswer2v:Option Addr)(canswer2v:Nat)(answer2v:List Dapi_Msg)(rowanswer2v:Rowb)(edk0:Nat)(r:Onode_Node×(List Dapi_Msg)×Odisk_Disk)(U:List Rowb)(Γ:Gh)(v:Value):Prop := ∃(rown':Rowb), ∃(Aanswer2_0:Option Addr), ∃(canswer2_0:Nat), ∃(rowanswer2_0:Rowb), ∃(rowdk0':Rowb),v = .tuple #[]∧U = [rown',[(ganswer0,.cells #[.pointer (some ⟨gn,0,none⟩)] 27 (0,0))],[(ganswer1,.cells #[.int .i64 answer1.kind,.int .i64 answer1.from_.site,.int .i64 answer1.from_.node,.int .i64 answer1.to_.site,.int .i64 answer1.to_.node,.int .i64 answer1.id,.int .i64 answer1.n,.int .i64 answer1.for_,.int .i64 answer1.code,.string answer1.key,.slice Aanswer1_10 answer1.recs.length canswer1_10,.slice Aanswer1_11 answer1.vec.length canswer1_11,.slice Aanswer1_12 answer1.path.length canswer1_12,.slice Aanswer1_13 answer1.hashes.length canswer1_13,.slice Aanswer1_14 answer1.route.length canswer1_14] 40 (0,0))],[(ganswer2,.cells #[.slice Aanswer2_0 r.2.1.length canswer2_0] 34 (0,0))],rowanswer2_0,rowdk0']∧Onode_Node.ob en Γ gn rown' r.1∧Own dapi_MsgT Γ 40 rowanswer2_0 Aanswer2_0 canswer2_0 r.2.1∧Odisk_Disk.ob edk0 Γ en.2 rowdk0' r.2.2∧True
theorem t_node_Node_put{gn:Nat}{en:Nat×Nat}{rown:Rowb}{n:Onode_Node}(hn:Onode_Node.ob en Γ gn rown n){Am10:Option Addr}{cm10:Nat}{Am11:Option Addr}{cm11:Nat}{Am12:Option Addr}{cm12:Nat}{Am13:Option Addr}{cm13:Nat}{Am14:Option Addr}{cm14:Nat}(m:Dapi_Msg)(hm:Dapi_Msg.fits Γ Am10 cm10 Am11 cm11 Am12 cm12 Am13 cm13 Am14 cm14 m){ganswer0:Nat}{ganswer1:Nat}{Aanswer1_10:Option Addr}{canswer1_10:Nat}{Aanswer1_11:Option Addr}{canswer1_11:Nat}{Aanswer1_12:Option Addr}{canswer1_12:Nat}{Aanswer1_13:Option Addr}{canswer1_13:Nat}{Aanswer1_14:Option Addr}{canswer1_14:Nat}(answer1:Dapi_Msg)(hanswer1:Dapi_Msg.fits Γ Aanswer1_10 canswer1_10 Aanswer1_11 canswer1_11 Aanswer1_12 canswer1_12 Aanswer1_13 canswer1_13 Aanswer1_14 canswer1_14 answer1){ganswer2:Nat}{Aanswer2v:Option Addr}{canswer2v:Nat}{rowanswer2v:Rowb}{answer2v:List Dapi_Msg}(hanswer2v:Own dapi_MsgT Γ 40 rowanswer2v Aanswer2v canswer2v answer2v){edk0:Nat}{rowdk0:Rowb}{dk0:Odisk_Disk}(hdk0:Odisk_Disk.ob edk0 Γ en.2 rowdk0 dk0)(hp:Pre [rown,[(ganswer0,.cells #[(pq gn)] 27 (0,0))],[(ganswer1,.cells (Dapi_Msg.cs Aanswer1_10 canswer1_10 Aanswer1_11 canswer1_11 Aanswer1_12 canswer1_12 Aanswer1_13 canswer1_13 Aanswer1_14 canswer1_14 answer1).toArray 40 (0,0))],[(ganswer2,.cells #[.slice Aanswer2v answer2v.length canswer2v] 34 (0,0))],rowanswer2v,rowdk0] Γ w0){r:Onode_Node×(List Dapi_Msg)×Odisk_Disk}(h:m_node_Node_put n m answer1 answer2v dk0=some r):Calls Tryz.prog 32 #[(pq gn),.agg (Dapi_Msg.cs Am10 cm10 Am11 cm11 Am12 cm12 Am13 cm13 Am14 cm14 m).toArray,.func (.func 41) #[] #[(pq ganswer0),(pq ganswer1),(pq ganswer2)]] w0 (Outc Γ [rown,[(ganswer0,.cells #[(pq gn)] 27 (0,0))],[(ganswer1,.cells (Dapi_Msg.cs Aanswer1_10 canswer1_10 Aanswer1_11 canswer1_11 Aanswer1_12 canswer1_12 Aanswer1_13 canswer1_13 Aanswer1_14 canswer1_14 answer1).toArray 40 (0,0))],[(ganswer2,.cells #[.slice Aanswer2v answer2v.length canswer2v] 34 (0,0))],rowanswer2v,rowdk0] w0 (r_node_Node_put gn en ganswer0 ganswer1 Aanswer1_10 canswer1_10 Aanswer1_11 canswer1_11 Aanswer1_12 canswer1_12 Aanswer1_13 canswer1_13 Aanswer1_14 canswer1_14 answer1 ganswer2 Aanswer2v canswer2v answer2v rowanswer2v edk0 r)):=by
 refine goV [] func32 ntmps32 results32 hp λF hF=>?_
 refine ab ?_
 refine bxV (v:=.agg (Dapi_Msg.cs Am10 cm10 Am11 cm11 Am12 cm12 Am13 cm13 Am14 cm14 m).toArray) λg1=>?_
 refine aa (ac (ac ?_))
 obtain⟨g4_2,r4_2,m5_2,r5_2,m6_2,r6_2,hrow_2,ho0_2,ho1_2,ho2_2,ho3_2,ho4_2,ho5_2,-⟩:=id hn
 refine ufC 1 hrow_2 [_,_,_,_,_,_,_,_,_,_] ?_
 refine drV ?_
 refine zV (q_fl 7 fld_40_5) (k:=zV (ldV 4 isAgg3) (k:=zV q_neq (k:=zV moV (k:=wG1 (h:=λhg3=>q_fl 7 fld_40_5) (k:=wG1 (h:=λhg4=>ldV 4 isAgg3 (hx:=grV hg4)) (k:=wG1 (h:=λhg5=>moV) (k:=wG1 (h:=λhg6=>nlV (hv:=grV hg6)) (k:=?_))))))))
 refine wG1 (h:=λhg7=>q_fl 2 fld_74_2 rfl (grV hg7)) (k:=wG1 (h:=λhg8=>q_fl 3 fld_32_1 rfl (grV hg8)) (k:=wG1 (h:=λhg9=>ldV 0 isAgg3 (hx:=grV hg9)) (k:=wG1 (h:=λhg10=>q_neq rfl (grV hg10) (grV hg10)) (k:=zV pkA (k:=?_)))))
 refine ao ?_
 change WC _ _ _ _ _ _
 refine ciV h (λhb11 h=>?_) (λhb11 h=>?_)
 ·
  refine ac ?_
  refine leV λh012=>?_
  refine held_ (CC F Γ [[(gn,.cells #[ii n.life,.pointer (some ⟨en.2,0,none⟩),ii n.self_site,ii n.self_node,(pq g4_2),.map (some m5_2),.map (some m6_2)] en.1 (0,0))],r4_2,r6_2,[(g1,.cells (Dapi_Msg.cs Am10 cm10 Am11 cm11 Am12 cm12 Am13 cm13 Am14 cm14 m).toArray 40 (0,0))],[(ganswer0,.cells #[(pq gn)] 27 (0,0))],[(ganswer1,.cells (Dapi_Msg.cs Aanswer1_10 canswer1_10 Aanswer1_11 canswer1_11 Aanswer1_12 canswer1_12 Aanswer1_13 canswer1_13 Aanswer1_14 canswer1_14 answer1).toArray 40 (0,0))],[(ganswer2,.cells #[.slice Aanswer2v answer2v.length canswer2v] 34 (0,0))]]) (bo_ [0,0,1,1,1,1,1] gR h012) λk=>?_
  change WH _ _ _ _ (CC F Γ [_,_,_,_,_,_,_,_,_,_]) _ 10 _ _
  refine hV 0 k (q:=moV) (k:=hV 1 k (q:=nlV) (k:=hV 2 k (q:=q_fl 5 fld_74_4) (k:=hV 3 k (q:=ldV 0 isAgg71) (k:=hV 4 k (q:=q_fl 7 fld_40_5) (k:=hV 5 k (q:=ldV 3 isAgg3) (k:=hV 7 k (q:=q_fl 10 fld_40_8) (k:=hV 8 k (q:=ldV 3 isAgg22) (k:=?_))))))))
  refine wl_ 6 rfl ?_
  obtain⟨o13,hq14,h⟩:=bnd h
  obtain⟨gs15,rM16,rA17,rS18,rB19,hat20,hsub21,hrow22,hm23,hback24⟩:=MapJ.part ho4_2 hq14
  have hm23:Ostore_Store.ob (107,en.2) Γ gs15 rS18 o13:=hm23
  refine sV (q_lookup1r (v:=(pq gs15)) (λw hw p hp=>hw.at_ (i:=2) rfl (by rw [hrow22]; exact List.mem_append.2 (.inl (hsub21 p hp)))) hat20 rfl underlying71 zeroValue68 rfl rfl) (k:=?_)
  intro w hw; have hw:=hw.unfold (U:=[rA17,rS18,rB19]) (i:=2) rfl (by rw [hrow22]; simp)
  refine WR.here (C:=CC F Γ [_,_,_,_,_,_,_,_,_,_,_,_]) ?_ hw
  clear hw
  refine ae (nxV (bo_ [3,3,3,3,3,3,3] gR h012) λk=>?_)
  refine wl_ 9 rfl ?_
  obtain⟨z25,hz26,h⟩:=bnd h
  refine ecV [1,10] (caV call56) (λw hp=>t_node_lay hm23 hm.2.2.2.2.2.2.2.2.2.2.1.2 hm.2.2.2.2.2.2.2.2.2.2.1.1 hdk0 hp hz26) ?_
  rintro Γ27 _ _ hl28 ⟨row31,row33,rfl,rfl,hr32,hr34,hr35,_⟩
  refine cwV 29 [_,_,_,_,_,_,_,_,_,_,_,_] ?_
  refine ae (nxV (bo_ [4,4,4,4,4,4,4] hl28 h012) λk=>?_)
  refine am (by kernel_rfl) ?_
  change WC _ _ _ _ _ _
  refine af ?_
  intro w hw
  obtain⟨row36,hrow37,hm38⟩:∃rw:Rowb,rw=([rA17,row31,rB19]:List Rowb).flatten∧MapJ (intK underlying3) (Ostore_Store.tob (107,en.2)) Γ27 rw m5_2 (mput m.for_ z25.1 n.hints):=⟨_,rfl,by simpa using hback24 _ _ _ hl28 hr32⟩
  have hw:=hw.fold (is:=[2,0,1]) rfl hrow37
  obtain⟨row_39,hrow_39,hob_39⟩:∃rw:Rowb,rw=([[(gn,.cells #[ii n.life,.pointer (some ⟨en.2,0,none⟩),ii n.self_site,ii n.self_node,(pq g4_2),.map (some m5_2),.map (some m6_2)] en.1 (0,0))],r4_2,row36,r6_2]:List Rowb).flatten∧Onode_Node.ob en Γ27 gn rw (⟨n.life,n.self_site,n.self_node,n.own,(mput m.for_ z25.1 n.hints),n.does⟩:Onode_Node):=⟨_,rfl,g4_2,r4_2,m5_2,row36,m6_2,r6_2,rfl,ho0_2,ho1_2,ho2_2,(ho3_2.mono hl28),hm38,(ho5_2.mono hl28),trivial⟩
  have hw:=hw.fold (is:=[2,2,0,1]) rfl hrow_39
  cases h
  subst hF
  exact end_e (is:=[0,2,2,2,2,0]) (by kernel_rfl) hw rfl ⟨row_39,Aanswer2v,canswer2v,rowanswer2v,row33,rfl,rfl,hob_39,(hanswer2v.mono hl28),hr34,trivial⟩
 refine ag (wc_ (ac (ac ?_)))
 refine leV λh040=>?_
 refine held_ (CC F Γ [[(gn,.cells #[ii n.life,.pointer (some ⟨en.2,0,none⟩),ii n.self_site,ii n.self_node,(pq g4_2),.map (some m5_2),.map (some m6_2)] en.1 (0,0))],r6_2,[(g1,.cells (Dapi_Msg.cs Am10 cm10 Am11 cm11 Am12 cm12 Am13 cm13 Am14 cm14 m).toArray 40 (0,0))],[(ganswer0,.cells #[(pq gn)] 27 (0,0))],[(ganswer1,.cells (Dapi_Msg.cs Aanswer1_10 canswer1_10 Aanswer1_11 canswer1_11 Aanswer1_12 canswer1_12 Aanswer1_13 canswer1_13 Aanswer1_14 canswer1_14 answer1).toArray 40 (0,0))],[(ganswer2,.cells #[.slice Aanswer2v answer2v.length canswer2v] 34 (0,0))]]) (bo_ [0,2,2,2,2,2] gR h040) λk=>?_
 change WH _ _ _ _ (CC F Γ [_,_,_,_,_,_,_,_,_,_]) _ 8 _ _
 refine hV 0 k (q:=moV) (k:=hV 1 k (q:=nlV) (k:=hV 2 k (q:=q_fl 4 fld_74_3) (k:=hV 3 k (q:=ldV 0 isAgg68) (k:=hV 4 k (q:=q_fl 10 fld_40_8) (k:=hV 5 k (q:=ldV 2 isAgg22) (k:=wl_ 6 rfl ?_))))))
 obtain⟨z41,hz42,h⟩:=bnd h
 refine ecV [1,8] (caV call56) (λw hp=>t_node_lay ho3_2 hm.2.2.2.2.2.2.2.2.2.2.1.2 hm.2.2.2.2.2.2.2.2.2.2.1.1 hdk0 hp hz42) ?_
 rintro Γ43 _ _ hl44 ⟨row47,row49,rfl,rfl,hr48,hr50,hr51,_⟩
 refine cwV 36 [_,_,_,_,_,_,_,_,_,_] ?_
 refine ae (nxV (bo_ [2,3,3,3,3,3] hl44 h040) λk=>?_)
 refine hV 7 k (q:=aoV) (k:=?_)
 refine am (by kernel_rfl) ?_
 change WC _ _ _ _ _ _
 refine ab (mV (k:=sV q_neq (k:=aa ?_)))
 refine ciV h (λhb52 h=>?_) (λhb52 h=>?_)
 ·
  refine ab (mU (v:=.func (.func 41) #[] #[(pq ganswer0),(pq ganswer1),(pq ganswer2)]) (k:=mV (k:=sV (q_build' (v:=.agg #[ii 3,ii 0,ii 0,ii 0,ii 0,ii 0,ii 0,ii 0,ii z41.2.2,.string ByteArray.empty,.slice none 0 0,.slice none 0 0,.slice none 0 0,.slice none 0 0,.slice none 0 0]) rfl (bargs2 rfl rfl) (λw=>by kernel_rfl)) (k:=?_))))
  obtain⟨row_53,hrow_53,hob_53⟩:∃rw:Rowb,rw=([[(gn,.cells #[ii n.life,.pointer (some ⟨en.2,0,none⟩),ii n.self_site,ii n.self_node,(pq g4_2),.map (some m5_2),.map (some m6_2)] en.1 (0,0))],row47,r5_2,r6_2]:List Rowb).flatten∧Onode_Node.ob en Γ43 gn rw (⟨n.life,n.self_site,n.self_node,z41.1,n.hints,n.does⟩:Onode_Node):=⟨_,rfl,g4_2,row47,m5_2,r5_2,m6_2,r6_2,rfl,ho0_2,ho1_2,ho2_2,hr48,(ho4_2.mono hl44),(ho5_2.mono hl44),trivial⟩
  refine foR [2,0,1,1] hrow_53 [_,_,_,_,_,_,_] ?_
  obtain⟨z54,hz55,h⟩:=bnd h
  refine ecV [3,0,2,2,2] (call_run_fv (caps:=#[(pq ganswer0),(pq ganswer1),(pq ganswer2)]) call41 rfl (by kernel_rfl) (by kernel_rfl)) (λw hp=>t_node_Node_Handle_1 (Aa10:=none) (ca10:=0) (Aa11:=none) (ca11:=0) (Aa12:=none) (ca12:=0) (Aa13:=none) (ca13:=0) (Aa14:=none) (ca14:=0) (⟨3,(⟨0,0⟩:Adr),(⟨0,0⟩:Adr),0,0,0,z41.2.2,ByteArray.empty,[],[],[],[],[]⟩:Dapi_Msg) ⟨iV,iV,iV,iV,iV,iV,iV,iV,hr51,(show (ByteArray.empty:ByteArray).size≤lim by decide),nilV,nilV,nilV,nilV,nilV⟩ hob_53 answer1 (by exact(Dapi_Msg.fits_mono hanswer1 hl44)) (hanswer2v.mono hl44) hp hz55) ?_
  rintro Γ56 _ _ hl57 ⟨A60,c61,row62,rfl,rfl,hr63,_⟩
  refine cwV 42 [_,_,_,_,_,_,_] (aa ?_)
  exact af λw hw=>re_ r [1,0,0,0,0,0] h hF hw ⟨row_53,A60,c61,row62,row49,rfl,rfl,(hob_53.mono hl57),hr63,(hr50.mono hl57),trivial⟩
 refine ag (wc_ ?_)
 obtain⟨row_64,hrow_64,hob_64⟩:∃rw:Rowb,rw=([[(gn,.cells #[ii n.life,.pointer (some ⟨en.2,0,none⟩),ii n.self_site,ii n.self_node,(pq g4_2),.map (some m5_2),.map (some m6_2)] en.1 (0,0))],row47,r5_2,r6_2]:List Rowb).flatten∧Onode_Node.ob en Γ43 gn rw (⟨n.life,n.self_site,n.self_node,z41.1,n.hints,n.does⟩:Onode_Node):=⟨_,rfl,g4_2,row47,m5_2,r5_2,m6_2,r6_2,rfl,ho0_2,ho1_2,ho2_2,hr48,(ho4_2.mono hl44),(ho5_2.mono hl44),trivial⟩
 refine foC [2,0,1,1] hrow_64 [_,_,_,_,_,_,_] ?_
 obtain⟨g4_65,r4_65,m5_65,r5_65,m6_65,r6_65,hrow_65,ho0_65,ho1_65,ho2_65,ho3_65,ho4_65,ho5_65,-⟩:=id hob_64
 refine ufC 0 hrow_65 [_,_,_,_,_,_,_,_,_,_] ?_
 refine leV λh066=>?_
 refine held_ (CC F Γ43 [[(gn,.cells #[ii (⟨n.life,n.self_site,n.self_node,z41.1,n.hints,n.does⟩:Onode_Node).life,.pointer (some ⟨en.2,0,none⟩),ii (⟨n.life,n.self_site,n.self_node,z41.1,n.hints,n.does⟩:Onode_Node).self_site,ii (⟨n.life,n.self_site,n.self_node,z41.1,n.hints,n.does⟩:Onode_Node).self_node,(pq g4_65),.map (some m5_65),.map (some m6_65)] en.1 (0,0))],r4_65,r6_65,[(g1,.cells (Dapi_Msg.cs Am10 cm10 Am11 cm11 Am12 cm12 Am13 cm13 Am14 cm14 m).toArray 40 (0,0))]]) (bo_ [0,0,1,2] gR h066) λk=>?_
 change WH _ _ _ _ (CC F Γ43 [_,_,_,_,_,_,_,_,_,_]) _ 10 _ _
 refine hV 0 k (q:=q_move (v:=.func (.func 41) #[] #[(pq ganswer0),(pq ganswer1),(pq ganswer2)]) rfl (by kernel_rfl)) (k:=hV 1 k (q:=moV) (k:=hV 2 k (q:=nlV) (k:=hV 3 k (q:=q_fl 0 fld_74_0) (k:=hV 4 k (q:=ldV 0 isAgg2) (k:=hV 5 k (q:=q_fl 10 fld_40_8) (k:=hV 6 k (q:=ldV 3 isAgg22) (k:=wl_ 7 rfl ?_)))))))
 obtain⟨z67,hz68,h⟩:=bnd h
 refine ecV [] (caV call57) (λw hp=>t_node_own (hm.2.2.2.2.2.2.2.2.2.2.1.2.mono hl44) hm.2.2.2.2.2.2.2.2.2.2.1.1 hp hz68) ?_
 rintro Γ69 _ _ hl70 ⟨A73,c74,row75,rfl,rfl,hr76,_⟩
 refine cwV 50 [_,_,_,_,_,_,_,_,_,_,_] ?_
 refine ae (nxV (bo_ [1,1,2,3] hl70 h066) λk=>?_)
 refine hV 8 k (q:=q_build' (v:=.agg #[ii 2,ii 0,ii 0,ii 0,ii 0,ii 0,ii (⟨n.life,n.self_site,n.self_node,z41.1,n.hints,n.does⟩:Onode_Node).life,ii 0,ii 0,.string ByteArray.empty,.slice A73 z67.length c74,.slice none 0 0,.slice none 0 0,.slice none 0 0,.slice none 0 0]) rfl (bargs3 rfl rfl rfl) (λw=>by kernel_rfl)) (k:=wl_ 9 rfl ?_)
 have hc81:=hr76.capz
 refine seR 0 [_,_,_,_,_,_,_,_,_,_,_] λΓ77 hl78 hr79=>?_
 have hs80:=hr76.sl hl78 hr79
 refine foR [1,1,1,1] hrow_65 [_,_,_,_,_,_,_,_] ?_
 obtain⟨z83,hz84,h⟩:=bnd h
 refine ecV [4,0,3,3,3] (call_run_fv (caps:=#[(pq ganswer0),(pq ganswer1),(pq ganswer2)]) call41 rfl (by kernel_rfl) (by kernel_rfl)) (λw hp=>t_node_Node_Handle_1 (Aa11:=none) (ca11:=0) (Aa12:=none) (ca12:=0) (Aa13:=none) (ca13:=0) (Aa14:=none) (ca14:=0) (⟨2,(⟨0,0⟩:Adr),(⟨0,0⟩:Adr),0,(⟨n.life,n.self_site,n.self_node,z41.1,n.hints,n.does⟩:Onode_Node).life,0,0,ByteArray.empty,z67,[],[],[],[]⟩:Dapi_Msg) ⟨iV,iV,iV,iV,iV,iV,ho0_65,iV,iV,(show (ByteArray.empty:ByteArray).size≤lim by decide),⟨hc81,hs80⟩,nilV,nilV,nilV,nilV⟩ (hob_64.mono (hl70.trans hl78)) answer1 (by exact(Dapi_Msg.fits_mono hanswer1 ((hl44.trans hl70).trans hl78))) (hanswer2v.mono ((hl44.trans hl70).trans hl78)) hp hz84) ?_
 rintro Γ85 _ _ hl86 ⟨A89,c90,row91,rfl,rfl,hr92,_⟩
 refine cwV 52 [_,_,_,_,_,_,_,_] ?_
 refine ae (nxV (λw hw=>(hw.unfold (i:=1) rfl hrow_65).back ((hl70.trans hl78).trans hl86) h066 (.cons_cons _ (.cons_cons _ (.cons _ (.cons_cons _ (.cons _ (.cons _ (.cons _ (.cons _ (.cons _ (.cons _ (.cons_cons _ .slnil)))))))))))) λk=>?_)
 refine am (by kernel_rfl) ?_
 intro w hw
 cases h
 subst hF
 exact end_e (is:=[1,0,0,0,0,1]) (by kernel_rfl) hw rfl ⟨row_64,A89,c90,row91,row49,rfl,rfl,(hob_64.mono ((hl70.trans hl78).trans hl86)),hr92,(hr50.mono ((hl70.trans hl78).trans hl86)),trivial⟩
theorem t_vers_Lacks{Aa:Option Addr}{ca:Nat}{a:List Ver}(ha:Sl verT Γ Aa a)(hac:a.length≤ca){Ab:Option Addr}{cb:Nat}{b:List Ver}(hb:Sl verT Γ Ab b)(hbc:b.length≤cb)(hs:Sat Γ w0){r:Bool}(h:m_vers_Lacks a b=some r):CQ Tryz.prog 59 #[.slice Aa a.length ca,.slice Ab b.length cb] w0 (.bool r):=by
 refine goQ [4] func59 ntmps59 results59 hs λF hF=>?_
 refine ab (aV (k:=aa (ab (mV (k:=mV (k:=?_))))))
 obtain⟨z1,hz2,h⟩:=bnd h
 refine ecV [] (caV call95) (λw hp=>t_vers_Merge ha hac hb hbc hp hz2) ?_
 rintro Γ3 _ _ hl4 ⟨A7,c8,row9,rfl,rfl,hr10,hr11,_⟩
 refine cwV 10 [_] (mV (k:=sV exV (k:=sV exV (k:=aV (k:=aV (k:=aa (ab ?_)))))))
 refine mV (k:=sV q_eql (k:=mV (k:=vG1 (h:=λhg12=>moV) (k:=vG1 (h:=λhg13=>moV) (k:=?_)))))
 obtain⟨z15,hz16,h⟩:=bnd h
 refine vC1 (h:=λhg14=>q_call (call_run call96 rfl rfl (args2 (grV hg14) (grV hg14))) (λw hw=>t_vers_Same (Γ:=Gh.all w) (hr10.sl hw.sat.le_all (hw.ra 0 rfl)) hr10.capz ((ha.mono hl4).mono hw.sat.le_all) hac (Sat.all w) (gc_of hz16 hg14))) (k:=vG1 (h:=λhg17=>q_not rfl (grV hg17)) (k:=sV pkA (k:=aV (k:=aa ?_))))
 exact af λw hw=>rq_ r h hF hw
end Fw
end Go.Proofs.YtckindfllegbgaaGreat
