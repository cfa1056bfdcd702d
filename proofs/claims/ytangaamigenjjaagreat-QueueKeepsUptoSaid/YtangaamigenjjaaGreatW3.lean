/- Walks through the functions that the law reaches (printed by a program). No condition. -/
import Derived.Test.YtangaamigenjjaaGreatW2
namespace Go.Proofs.YtangaamigenjjaaGreat
namespace Fw
set_option linter.unusedVariables false
set_option linter.unusedSimpArgs false
set_option linter.unusedSectionVars false
set_option maxRecDepth 100000
set_option maxHeartbeats 400000
open Go.RowKit
open Go.Proofs.Tryz
variable {Γ:Gh} {w0:World}
abbrev ta(r:List UInt8)(U:List Rowb)(Γ:Gh)(v:Value):Prop := ∃(A0:Option Addr), ∃(c0:Nat), ∃(row0:Rowb),v = .slice A0 r.length c0∧U = [row0]∧Own ay Γ 5 row0 A0 c0 r∧True
theorem dA{Ab:Option Addr}{cb:Nat}{rowb:Rowb}{b:List UInt8}(hb:Own ay Γ 5 rowb Ab cb b){Al:Option Addr}{cl:Nat}{l:List Int}(hl:Sl intT Γ Al l)(hlc:l.length≤cl)(hp:Pre [rowb] Γ w0){r:List UInt8}(h:ez b l=some r):Calls Tryz.prog 86 #[.slice Ab b.length cb,.slice Al l.length cl] w0 (Outc Γ [rowb] w0 (ta r)):=by
 refine goV [4] func86 ntmps86 results86 hp λF hF=>?_
 refine BZ (aV (k:=BX (C1 (BZ (mV (k:=sV (ab rfl DN) (k:=mV (k:=?_))))))))
 refine BX (C5 ?_)
 refine Cc h (λ(i9:Nat) (b_3:List UInt8) σ w => ∃(Γ1:Gh), ∃(A4:Option Addr), ∃(c5:Nat), ∃(row6:Rowb),slots σ [(0,.slice A4 b_3.length c5),(7,.slice Al l.length cl),(8,ii (l.length:Int)),(9,ii (i9:Int))]∧CC F Γ1 [row6] w∧Gh.le Γ Γ1∧Own ay Γ1 5 row6 A4 c5 b_3∧True) ?_ ?_
 ·
  intro w hw
  exact⟨Γ,Ab,cb,rowb,slK,hw,gR,hb,trivial⟩
 rintro f8 i9 b_3 σ w hi10 hlt11 hge12 ⟨Γ1,A4,c5,row6,hsl,hw,hl2,ho7,-⟩
 refine slV hsl hw [_] ?_; clear hw hsl
 refine BZ (sV aQ (k:=BX (C1 ?_)))
 refine coV (λhb13=>?_) (λhb13=>?_)
 ·
  have hl14:=ilt hb13
  have h:=hlt11 hl14
  refine C4 (wc_ (C1 (C5 (BZ (sV (aO (i:=i9) DN Dh rfl rfl rfl hl14 ((hl.mono hl2).some_ hl14)) (k:=sV (q_ld (c:=0) (v:=ii (gt l i9)) ((hl.mono hl2).intT_at hl14).2 rfl D0 rfl rfl) (k:=aV (k:=?_))))))))
  refine BX ?_
  refine C3 ?_
  refine mV (k:=mV (k:=?_))
  obtain⟨z15,hz16,h⟩:=bnd h
  refine ecV [] (caV call113) (λw hp=>iL (gt l i9) ((hl.mono hl2).intT_at hl14).1 hp hz16) ?_
  rintro Γ17 _ _ hl18 ⟨A21,c22,row23,rfl,rfl,hr24,_⟩
  refine cwV 15 [_,_] ?_
  obtain⟨hk25,h⟩:=ag h
  refine apV 1 z15 gc (ho7.mono hl18) (Cl hk25) (λw hw=>jf (i:=0) rfl hr24 hw) ?_
  intro row26 A27 c28 ho29
  refine aV (k:=?_)
  refine C0 ?_
  change WC _ _ _ _ _ _
  refine C3 ?_
  refine sV (aw rfl rfl rfl (aA hl14 (hl.mono hl2).le)) (k:=mV (k:=?_))
  exact C0 λw hw=>⟨hl14,(b_3++z15),h,Γ17,A27,c28,row26,slK,(hw.on [1]),(hl2.trans hl18),ho29,trivial⟩
 have h:=hge12 (ige hb13)
 refine C8 ?_
 change WC _ _ _ _ _ _
 refine BZ (mV (k:=aV (k:=BX ?_)))
 exact C2 λw hw=>re_ r [0] h hF hw ⟨A4,c5,row6,rfl,rfl,ho7,trivial⟩
abbrev rQ(r:List UInt8)(U:List Rowb)(Γ:Gh)(v:Value):Prop := ∃(A0:Option Addr), ∃(c0:Nat), ∃(row0:Rowb),v = .slice A0 r.length c0∧U = [row0]∧Own ay Γ 5 row0 A0 c0 r∧True
theorem nC(s_:ByteArray)(hs_:s_.size≤lim)(hp:Pre [] Γ w0){r:List UInt8}(h:kI s_=some r):Calls Tryz.prog 151 #[.string s_] w0 (Outc Γ [] w0 (rQ r)):=by
 refine goV [2] func151 ntmps151 results151 hp λF hF=>?_
 refine BZ (aV (k:=BX (BZ (mV (k:=sV (cG rfl CU) (k:=?_))))))
 obtain⟨z1,hz2,h⟩:=bnd h
 refine ecV [] (caV call113) (λw hp=>iL (s_.size:Int) (jT hs_) hp hz2) ?_
 rintro Γ3 _ _ hl4 ⟨A7,c8,row9,rfl,rfl,hr10,_⟩
 refine cwV 5 [_] (mV (k:=?_))
 obtain⟨hk11,h⟩:=ag h
 refine sI (xs:=z1) (s:=s_) (ti:=t5) D2 CU (by kernel_rfl) (by kernel_rfl) (by kernel_rfl) (by kernel_rfl) (i:=0) rfl rfl rfl rfl rfl rfl rfl hr10 (Cl hk11) ?_
 intro row12 A13 c14 ho15
 refine aV (k:=BX ?_)
 exact C2 λw hw=>re_ r [0] h hF hw ⟨A13,c14,row12,rfl,rfl,ho15,trivial⟩
abbrev nI(gw_:Nat)(ew_:Nat)(r:a8)(U:List Rowb)(Γ:Gh)(v:Value):Prop := ∃(roww_':Rowb),v = .tuple #[]∧U = [roww_']∧a8.ob ew_ Γ gw_ roww_' r∧True
theorem fy{gw_ ew_:Nat}{roww_:Rowb}{w_:a8}(hw_:a8.ob ew_ Γ gw_ roww_ w_)(s_:ByteArray)(hs_:s_.size≤lim)(hp:Pre [roww_] Γ w0){r:a8}(h:dW w_ s_=some r):Calls Tryz.prog 118 #[(pq gw_),.string s_] w0 (Outc Γ [roww_] w0 (nI gw_ ew_ r)):=by
 refine goV [] func118 ntmps118 results118 hp λF hF=>?_
 refine leV λh01=>?_
 refine e7 (CC F Γ []) (bo_ [] gR h01) λk=>?_
 change WH _ _ _ _ (CC F Γ [_]) _ 11 _ _
 refine hV 0 k (q:=moV) (k:=hV 1 k (q:=moV) (k:=hV 2 k (q:=nlV) (k:=hV 3 k (q:=q_fl 0 ir) (k:=hV 5 k (q:=moV) (k:=?_)))))
 obtain⟨z2,hz3,h⟩:=bnd h
 refine Cj (l:=[4,6]) (by kernel_rfl) (by simp) ?_
 intro i hi; simp only [Ct,List.not_mem_nil,or_false] at hi
 rcases hi with rfl | rfl
 ·
  refine⟨_,rfl,?_⟩
  obtain⟨A0_4,c0_4,r0_4,hrow_4,ho0_4,-⟩:=id hw_
  refine ufR 0 hrow_4 [_,_] ?_
  refine sV (ldV 0 Da) (k:=?_)
  refine C0 (nxV (bo_ [] gR h01) λk=>?_)
  refine wl_ 6 rfl ?_
  refine ecV [] (caV call151) (λw hp=>nC s_ hs_ hp hz3) ?_
  rintro Γ5 _ _ hl6 ⟨A9,c10,row11,rfl,rfl,hr12,_⟩
  refine cwV 10 [_,_,_] ?_
  refine C0 (nxV (bo_ [] hl6 h01) λk=>?_)
  refine wl_ 7 rfl ?_
  obtain⟨hk13,h⟩:=ag h
  refine apV 2 z2 gc (ho0_4.mono hl6) (Cl hk13) (λw hw=>jf (i:=0) rfl hr12 hw) ?_
  intro row14 A15 c16 ho17
  refine C0 (nxV (bo_ [] hl6 h01) λk=>?_)
  refine hV 8 k (q:=nlV) (k:=hV 9 k (q:=q_fl 0 ir) (k:=wl_ 10 rfl (stV 1 (.slice A15 (w_.b++z2).length c16) #[.slice A15 (w_.b++z2).length c16] D9 (k:=?_))))
  refine C0 (nxV (bo_ [] hl6 h01) λk=>?_)
  refine Ca (by kernel_rfl) ?_
  intro w hw
  obtain⟨row_18,hrow_18,hob_18⟩:∃rw:Rowb,rw=([[(gw_,.cells #[.slice A15 (w_.b++z2).length c16] ew_ (0,0))],row14]:List Rowb).flatten∧a8.ob ew_ Γ5 gw_ rw (⟨(w_.b++z2)⟩:a8):=⟨_,rfl,A15,c16,row14,rfl,ho17,trivial⟩
  have hw:=hw.fold (is:=[1,1]) rfl hrow_18
  cases h
  subst hF
  exact aM (is:=[0]) (by kernel_rfl) hw rfl ⟨row_18,rfl,rfl,hob_18,trivial⟩
 refine⟨_,rfl,?_⟩
 refine ecV [] (caV call151) (λw hp=>nC s_ hs_ hp hz3) ?_
 rintro Γ4 _ _ hl5 ⟨A8,c9,row10,rfl,rfl,hr11,_⟩
 refine cwV 10 [_,_] ?_
 refine C0 (nxV (bo_ [] hl5 h01) λk=>?_)
 refine wl_ 4 rfl ?_
 obtain⟨A0_12,c0_12,r0_12,hrow_12,ho0_12,-⟩:=(hw_.mono hl5)
 refine ufR 1 hrow_12 [_,_,_] ?_
 refine sV (ldV 0 Da) (k:=?_)
 refine C0 (nxV (bo_ [] hl5 h01) λk=>?_)
 refine wl_ 7 rfl ?_
 obtain⟨hk13,h⟩:=ag h
 refine apV 1 z2 gc ho0_12 (Cl hk13) (λw hw=>jf (i:=2) rfl hr11 hw) ?_
 intro row14 A15 c16 ho17
 refine C0 (nxV (bo_ [] hl5 h01) λk=>?_)
 refine hV 8 k (q:=nlV) (k:=hV 9 k (q:=q_fl 0 ir) (k:=wl_ 10 rfl (stV 0 (.slice A15 (w_.b++z2).length c16) #[.slice A15 (w_.b++z2).length c16] D9 (k:=?_))))
 refine C0 (nxV (bo_ [] hl5 h01) λk=>?_)
 refine Ca (by kernel_rfl) ?_
 intro w hw
 obtain⟨row_18,hrow_18,hob_18⟩:∃rw:Rowb,rw=([[(gw_,.cells #[.slice A15 (w_.b++z2).length c16] ew_ (0,0))],row14]:List Rowb).flatten∧a8.ob ew_ Γ4 gw_ rw (⟨(w_.b++z2)⟩:a8):=⟨_,rfl,A15,c16,row14,rfl,ho17,trivial⟩
 have hw:=hw.fold (is:=[0,0]) rfl hrow_18
 cases h
 subst hF
 exact aM (is:=[0]) (by kernel_rfl) hw rfl ⟨row_18,rfl,rfl,hob_18,trivial⟩
abbrev ow(gw_:Nat)(ew_:Nat)(r:a8)(U:List Rowb)(Γ:Gh)(v:Value):Prop := ∃(roww_':Rowb),v = .tuple #[]∧U = [roww_']∧a8.ob ew_ Γ gw_ roww_' r∧True
theorem eA{gw_ ew_:Nat}{roww_:Rowb}{w_:a8}(hw_:a8.ob ew_ Γ gw_ roww_ w_)(n:Int)(hn:I64 n)(hp:Pre [roww_] Γ w0){r:a8}(h:cB w_ n=some r):Calls Tryz.prog 153 #[(pq gw_),ii n] w0 (Outc Γ [roww_] w0 (ow gw_ ew_ r)):=by
 refine goV [] func153 ntmps153 results153 hp λF hF=>?_
 refine leV λh01=>?_
 refine e7 (CC F Γ []) (bo_ [] gR h01) λk=>?_
 change WH _ _ _ _ (CC F Γ [_]) _ 11 _ _
 refine hV 0 k (q:=moV) (k:=hV 1 k (q:=moV) (k:=hV 2 k (q:=nlV) (k:=hV 3 k (q:=q_fl 0 ir) (k:=hV 5 k (q:=moV) (k:=?_)))))
 obtain⟨z2,hz3,h⟩:=bnd h
 refine Cj (l:=[4,6]) (by kernel_rfl) (by simp) ?_
 intro i hi; simp only [Ct,List.not_mem_nil,or_false] at hi
 rcases hi with rfl | rfl
 ·
  refine⟨_,rfl,?_⟩
  obtain⟨A0_4,c0_4,r0_4,hrow_4,ho0_4,-⟩:=id hw_
  refine ufR 0 hrow_4 [_,_] ?_
  refine sV (ldV 0 Da) (k:=?_)
  refine C0 (nxV (bo_ [] gR h01) λk=>?_)
  refine wl_ 6 rfl ?_
  refine ecV [] (caV call113) (λw hp=>iL n hn hp hz3) ?_
  rintro Γ5 _ _ hl6 ⟨A9,c10,row11,rfl,rfl,hr12,_⟩
  refine cwV 10 [_,_,_] ?_
  refine C0 (nxV (bo_ [] hl6 h01) λk=>?_)
  refine wl_ 7 rfl ?_
  obtain⟨hk13,h⟩:=ag h
  refine apV 2 z2 gc (ho0_4.mono hl6) (Cl hk13) (λw hw=>jf (i:=0) rfl hr12 hw) ?_
  intro row14 A15 c16 ho17
  refine C0 (nxV (bo_ [] hl6 h01) λk=>?_)
  refine hV 8 k (q:=nlV) (k:=hV 9 k (q:=q_fl 0 ir) (k:=wl_ 10 rfl (stV 1 (.slice A15 (w_.b++z2).length c16) #[.slice A15 (w_.b++z2).length c16] D9 (k:=?_))))
  refine C0 (nxV (bo_ [] hl6 h01) λk=>?_)
  refine Ca (by kernel_rfl) ?_
  intro w hw
  obtain⟨row_18,hrow_18,hob_18⟩:∃rw:Rowb,rw=([[(gw_,.cells #[.slice A15 (w_.b++z2).length c16] ew_ (0,0))],row14]:List Rowb).flatten∧a8.ob ew_ Γ5 gw_ rw (⟨(w_.b++z2)⟩:a8):=⟨_,rfl,A15,c16,row14,rfl,ho17,trivial⟩
  have hw:=hw.fold (is:=[1,1]) rfl hrow_18
  cases h
  subst hF
  exact aM (is:=[0]) (by kernel_rfl) hw rfl ⟨row_18,rfl,rfl,hob_18,trivial⟩
 refine⟨_,rfl,?_⟩
 refine ecV [] (caV call113) (λw hp=>iL n hn hp hz3) ?_
 rintro Γ4 _ _ hl5 ⟨A8,c9,row10,rfl,rfl,hr11,_⟩
 refine cwV 10 [_,_] ?_
 refine C0 (nxV (bo_ [] hl5 h01) λk=>?_)
 refine wl_ 4 rfl ?_
 obtain⟨A0_12,c0_12,r0_12,hrow_12,ho0_12,-⟩:=(hw_.mono hl5)
 refine ufR 1 hrow_12 [_,_,_] ?_
 refine sV (ldV 0 Da) (k:=?_)
 refine C0 (nxV (bo_ [] hl5 h01) λk=>?_)
 refine wl_ 7 rfl ?_
 obtain⟨hk13,h⟩:=ag h
 refine apV 1 z2 gc ho0_12 (Cl hk13) (λw hw=>jf (i:=2) rfl hr11 hw) ?_
 intro row14 A15 c16 ho17
 refine C0 (nxV (bo_ [] hl5 h01) λk=>?_)
 refine hV 8 k (q:=nlV) (k:=hV 9 k (q:=q_fl 0 ir) (k:=wl_ 10 rfl (stV 0 (.slice A15 (w_.b++z2).length c16) #[.slice A15 (w_.b++z2).length c16] D9 (k:=?_))))
 refine C0 (nxV (bo_ [] hl5 h01) λk=>?_)
 refine Ca (by kernel_rfl) ?_
 intro w hw
 obtain⟨row_18,hrow_18,hob_18⟩:∃rw:Rowb,rw=([[(gw_,.cells #[.slice A15 (w_.b++z2).length c16] ew_ (0,0))],row14]:List Rowb).flatten∧a8.ob ew_ Γ4 gw_ rw (⟨(w_.b++z2)⟩:a8):=⟨_,rfl,A15,c16,row14,rfl,ho17,trivial⟩
 have hw:=hw.fold (is:=[0,0]) rfl hrow_18
 cases h
 subst hF
 exact aM (is:=[0]) (by kernel_rfl) hw rfl ⟨row_18,rfl,rfl,hob_18,trivial⟩
abbrev oY(gw_:Nat)(ew_:Nat)(r:a8)(U:List Rowb)(Γ:Gh)(v:Value):Prop := ∃(roww_':Rowb),v = .tuple #[]∧U = [roww_']∧a8.ob ew_ Γ gw_ roww_' r∧True
theorem bn{gw_ ew_:Nat}{roww_:Rowb}{w_:a8}(hw_:a8.ob ew_ Γ gw_ roww_ w_)(n:Int)(hn:I64 n)(hp:Pre [roww_] Γ w0){r:a8}(h:bI w_ n=some r):Calls Tryz.prog 152 #[(pq gw_),ii n] w0 (Outc Γ [roww_] w0 (oY gw_ ew_ r)):=by
 refine goV [] func152 ntmps152 results152 hp λF hF=>?_
 refine C3 ?_
 refine mV (k:=mV (k:=?_))
 obtain⟨z1,hz2,h⟩:=bnd h
 refine ecV [0] (caV call153) (λw hp=>eA hw_ n hn hp hz2) ?_
 rintro Γ3 _ _ hl4 ⟨row7,rfl,rfl,hr8,_⟩
 refine cwV 6 [_] ?_
 refine C0 ?_
 intro w hw
 cases h
 subst hF
 exact aM (is:=[0]) (by kernel_rfl) hw rfl ⟨row7,rfl,rfl,hr8,trivial⟩
abbrev nF(gw_:Nat)(ew_:Nat)(r:a8)(U:List Rowb)(Γ:Gh)(v:Value):Prop := ∃(roww_':Rowb),v = .tuple #[]∧U = [roww_']∧a8.ob ew_ Γ gw_ roww_' r∧True
theorem k8{gw_ ew_:Nat}{roww_:Rowb}{w_:a8}(hw_:a8.ob ew_ Γ gw_ roww_ w_)(x_:Span)(hx_:Span.fits Γ  x_)(hp:Pre [roww_] Γ w0){r:a8}(h:dM w_ x_=some r):Calls Tryz.prog 155 #[(pq gw_),.agg (Span.cs x_).toArray] w0 (Outc Γ [roww_] w0 (nF gw_ ew_ r)):=by
 refine goV [] func155 ntmps155 results155 hp λF hF=>?_
 refine BZ ?_
 refine bxV (v:=.agg (Span.cs x_).toArray) λg1=>?_
 refine BX (BZ (mV (k:=sV (q_fl 0 fM) (k:=sV (ldV 0 CY) (k:=?_)))))
 obtain⟨z2,hz3,h⟩:=bnd h
 refine ecV [1] (caV E2) (λw hp=>bn hw_ x_.s hx_.1 hp hz3) ?_
 rintro Γ4 _ _ hl5 ⟨row8,rfl,rfl,hr9,_⟩
 refine cwV 7 [_,_] (BX (BZ (mV (k:=sV (q_fl 1 gI) (k:=sV (ldV 1 D0) (k:=?_))))))
 obtain⟨z10,hz11,h⟩:=bnd h
 refine ecV [0] (caV call153) (λw hp=>eA hr9 x_.f hx_.2.1 hp hz11) ?_
 rintro Γ12 _ _ hl13 ⟨row16,rfl,rfl,hr17,_⟩
 refine cwV 11 [_,_] (BX ?_)
 refine C3 ?_
 refine mV (k:=sV (q_fl 2 fJ) (k:=sV (ldV 1 D0) (k:=sV (q_fl 1 gI) (k:=sV (ldV 1 D0) (k:=sV iQ (k:=?_))))))
 obtain⟨z18,hz19,h⟩:=bnd h
 refine ecV [0] (caV call153) (λw hp=>eA hr17 (w64 (x_.t - x_.f)) (ji _) hp hz19) ?_
 rintro Γ20 _ _ hl21 ⟨row24,rfl,rfl,hr25,_⟩
 refine cwV 18 [_,_] ?_
 refine C0 ?_
 intro w hw
 cases h
 subst hF
 exact aM (is:=[0]) (by kernel_rfl) hw rfl ⟨row24,rfl,rfl,hr25,trivial⟩
abbrev nu(gw_:Nat)(ew_:Nat)(r:a8)(U:List Rowb)(Γ:Gh)(v:Value):Prop := ∃(roww_':Rowb),v = .tuple #[]∧U = [roww_']∧a8.ob ew_ Γ gw_ roww_' r∧True
theorem ni{gw_ ew_:Nat}{roww_:Rowb}{w_:a8}(hw_:a8.ob ew_ Γ gw_ roww_ w_){Al:Option Addr}{cl:Nat}{l:List Span}(hl:Sl gO Γ Al l)(hlc:l.length≤cl)(hp:Pre [roww_] Γ w0){r:a8}(h:dv w_ l=some r):Calls Tryz.prog 154 #[(pq gw_),.slice Al l.length cl,.func (.func 155) #[(pq gw_)] #[]] w0 (Outc Γ [roww_] w0 (nu gw_ ew_ r)):=by
 refine goV [] func154 ntmps154 results154 hp λF hF=>?_
 refine BZ (mV (k:=mV (k:=sV (ab rfl Dw) (k:=?_))))
 obtain⟨z1,hz2,h⟩:=bnd h
 refine ecV [0] (caV E2) (λw hp=>bn hw_ (l.length:Int) (jT hl.le) hp hz2) ?_
 rintro Γ3 _ _ hl4 ⟨row7,rfl,rfl,hr8,_⟩
 refine cwV 11 [_] (BX (BZ (mV (k:=sV (ab rfl Dw) (k:=mV (k:=BX (C5 ?_)))))))
 refine Cc h (λ(i15:Nat) (o11:a8) σ w => ∃(Γ9:Gh), ∃(row12:Rowb),slots σ [(2,.func (.func 155) #[(pq gw_)] #[]),(12,.slice Al l.length cl),(13,ii (l.length:Int)),(14,ii (i15:Int))]∧CC F Γ9 [row12] w∧Gh.le Γ3 Γ9∧a8.ob ew_ Γ9 gw_ row12 o11∧True) ?_ ?_
 ·
  intro w hw
  exact⟨Γ3,row7,slK,hw,gR,hr8,trivial⟩
 rintro f14 i15 o11 σ w hi16 hlt17 hge18 ⟨Γ9,row12,hsl,hw,hl10,ho13,-⟩
 refine slV hsl hw [_] ?_; clear hw hsl
 refine BZ (sV aQ (k:=BX (C1 ?_)))
 refine coV (λhb19=>?_) (λhb19=>?_)
 ·
  have hl20:=ilt hb19
  have h:=hlt17 hl20
  refine C4 (wc_ (C1 (C5 (BZ (sV (aO (i:=i15) Dw Do rfl rfl rfl hl20 ((hl.mono (hl4.trans hl10)).some_ hl20)) (k:=sV (ik (c:=0) (vs:=(Span.cs (gt l i15))) ((hl.mono (hl4.trans hl10)).spanT_at hl20).2 rfl Dp Do rfl rfl rfl) (k:=?_)))))))
  refine alV Dn λg21=>?_
  refine stV 0 (.agg (Span.cs (gt l i15)).toArray) (Span.cs (gt l i15)).toArray Do (k:=BX ?_)
  refine C3 ?_
  refine mU (v:=.func (.func 155) #[(pq gw_)] #[]) (k:=sV (ldaV 0 (Span.cs (gt l i15)) Dp Do) (k:=?_))
  obtain⟨z22,hz23,h⟩:=bnd h
  refine ecV [1] (fg (first:=#[(pq gw_)]) call155 rfl (by kernel_rfl) (by kernel_rfl)) (λw hp=>k8 ho13 (gt l i15) ((hl.mono (hl4.trans hl10)).spanT_at hl20).1 hp hz23) ?_
  rintro Γ24 _ _ hl25 ⟨row28,rfl,rfl,hr29,_⟩
  refine cwV 20 [_,_] ?_
  refine C0 ?_
  change WC _ _ _ _ _ _
  refine C3 ?_
  refine sV (aw rfl rfl rfl (aA hl20 (hl.mono (hl4.trans hl10)).le)) (k:=mV (k:=?_))
  exact C0 λw hw=>⟨hl20,z22,h,Γ24,row28,slK,(hw.on [0]),(hl10.trans hl25),hr29,trivial⟩
 have h:=hge18 (ige hb19)
 refine C8 ?_
 intro w hw
 cases h
 subst hF
 exact aM (is:=[0]) (by kernel_rfl) hw rfl ⟨row12,rfl,rfl,ho13,trivial⟩
abbrev oQ(gw_:Nat)(ew_:Nat)(r:a8)(U:List Rowb)(Γ:Gh)(v:Value):Prop := ∃(roww_':Rowb),v = .tuple #[]∧U = [roww_']∧a8.ob ew_ Γ gw_ roww_' r∧True
theorem oR{gw_ ew_:Nat}{roww_:Rowb}{w_:a8}(hw_:a8.ob ew_ Γ gw_ roww_ w_){Av_2:Option Addr}{cv_2:Nat}(v_:Ver)(hv_:Ver.fits Γ Av_2 cv_2 v_)(hp:Pre [roww_] Γ w0){r:a8}(h:dc w_ v_=some r):Calls Tryz.prog 120 #[(pq gw_),.agg (Ver.cs Av_2 cv_2 v_).toArray] w0 (Outc Γ [roww_] w0 (oQ gw_ ew_ r)):=by
 refine goV [] func120 ntmps120 results120 hp λF hF=>?_
 refine BZ ?_
 refine bxV (v:=.agg (Ver.cs Av_2 cv_2 v_).toArray) λg1=>?_
 refine BX (BZ (mV (k:=sV (q_fl 0 bJ) (k:=sV (q_fl 0 cz) (k:=sV (ldV 0 CY) (k:=?_))))))
 obtain⟨z2,hz3,h⟩:=bnd h
 refine ecV [1] (caV E2) (λw hp=>bn hw_ v_.dot.s hv_.1 hp hz3) ?_
 rintro Γ4 _ _ hl5 ⟨row8,rfl,rfl,hr9,_⟩
 refine cwV 8 [_,_] (BX (BZ (mV (k:=sV (q_fl 0 bJ) (k:=sV (q_fl 1 eP) (k:=sV (ldV 1 D0) (k:=?_)))))))
 obtain⟨z10,hz11,h⟩:=bnd h
 refine ecV [0] (caV call153) (λw hp=>eA hr9 v_.dot.n hv_.2.1 hp hz11) ?_
 rintro Γ12 _ _ hl13 ⟨row16,rfl,rfl,hr17,_⟩
 refine cwV 13 [_,_] (BX (BZ (mV (k:=sV (q_fl 2 eX) (k:=sV (ldV 1 Dx) (k:=mV (k:=sV (iD (v:=.func (.func 155) #[(pq gw_)] #[]) rfl (by kernel_rfl)) (k:=?_))))))))
 obtain⟨z18,hz19,h⟩:=bnd h
 refine ecV [0] (caV call154) (λw hp=>ni hr17 (hv_.2.2.1.2.mono (hl5.trans hl13)) hv_.2.2.1.1 hp hz19) ?_
 rintro Γ20 _ _ hl21 ⟨row24,rfl,rfl,hr25,_⟩
 refine cwV 19 [_,_] (BX (C1 (BZ (sV (q_fl 3 la) (k:=sV (ldV 1 Dj) (k:=BX ?_))))))
 refine ciV h (λhb26 h=>?_) (λhb26 h=>?_)
 ·
  refine BZ (mV (k:=?_))
  obtain⟨z27,hz28,h⟩:=bnd h
  refine ecV [0] (caV E2) (λw hp=>bn hr25 1 iV hp hz28) ?_
  rintro Γ29 _ _ hl30 ⟨row33,rfl,rfl,hr34,_⟩
  refine cwV 23 [_,_] (BX ?_)
  exact C2 λw hw=>re_ r [0] h hF hw ⟨row33,rfl,rfl,hr34,trivial⟩
 refine C4 (wc_ (BZ (mV (k:=?_))))
 obtain⟨z35,hz36,h⟩:=bnd h
 refine ecV [0] (caV E2) (λw hp=>bn hr25 0 iV hp hz36) ?_
 rintro Γ37 _ _ hl38 ⟨row41,rfl,rfl,hr42,_⟩
 refine cwV 25 [_,_] (BX ?_)
 refine C3 ?_
 refine mV (k:=sV (q_fl 4 dX) (k:=sV (ldV 1 D1) (k:=?_)))
 obtain⟨z43,hz44,h⟩:=bnd h
 refine ecV [0] (caV call118) (λw hp=>fy hr42 v_.val hv_.2.2.2 hp hz44) ?_
 rintro Γ45 _ _ hl46 ⟨row49,rfl,rfl,hr50,_⟩
 refine cwV 29 [_,_] ?_
 refine C0 ?_
 intro w hw
 cases h
 subst hF
 exact aM (is:=[0]) (by kernel_rfl) hw rfl ⟨row49,rfl,rfl,hr50,trivial⟩
abbrev nJ(gw_:Nat)(ew_:Nat)(r:a8)(U:List Rowb)(Γ:Gh)(v:Value):Prop := ∃(roww_':Rowb),v = .tuple #[]∧U = [roww_']∧a8.ob ew_ Γ gw_ roww_' r∧True
theorem nY{gw_ ew_:Nat}{roww_:Rowb}{w_:a8}(hw_:a8.ob ew_ Γ gw_ roww_ w_){Al:Option Addr}{cl:Nat}{l:List Ver}(hl:Sl verT Γ Al l)(hlc:l.length≤cl)(hp:Pre [roww_] Γ w0){r:a8}(h:fw w_ l=some r):Calls Tryz.prog 119 #[(pq gw_),.slice Al l.length cl,.func (.func 120) #[(pq gw_)] #[]] w0 (Outc Γ [roww_] w0 (nJ gw_ ew_ r)):=by
 refine goV [] func119 ntmps119 results119 hp λF hF=>?_
 refine BZ (mV (k:=mV (k:=sV (ab rfl Dy) (k:=?_))))
 obtain⟨z1,hz2,h⟩:=bnd h
 refine ecV [0] (caV E2) (λw hp=>bn hw_ (l.length:Int) (jT hl.le) hp hz2) ?_
 rintro Γ3 _ _ hl4 ⟨row7,rfl,rfl,hr8,_⟩
 refine cwV 11 [_] (BX (BZ (mV (k:=sV (ab rfl Dy) (k:=mV (k:=BX (C5 ?_)))))))
 refine Cc h (λ(i15:Nat) (o11:a8) σ w => ∃(Γ9:Gh), ∃(row12:Rowb),slots σ [(2,.func (.func 120) #[(pq gw_)] #[]),(12,.slice Al l.length cl),(13,ii (l.length:Int)),(14,ii (i15:Int))]∧CC F Γ9 [row12] w∧Gh.le Γ3 Γ9∧a8.ob ew_ Γ9 gw_ row12 o11∧True) ?_ ?_
 ·
  intro w hw
  exact⟨Γ3,row7,slK,hw,gR,hr8,trivial⟩
 rintro f14 i15 o11 σ w hi16 hlt17 hge18 ⟨Γ9,row12,hsl,hw,hl10,ho13,-⟩
 refine slV hsl hw [_] ?_; clear hw hsl
 refine BZ (sV aQ (k:=BX (C1 ?_)))
 refine coV (λhb19=>?_) (λhb19=>?_)
 ·
  have hl20:=ilt hb19
  have h:=hlt17 hl20
  refine C4 (wc_ (C1 (C5 (BZ (sV (aO (i:=i15) Dy Dr rfl rfl rfl hl20 ((hl.mono (hl4.trans hl10)).some_ hl20)) (k:=?_))))))
  obtain⟨A21,c22,hx23⟩:=(hl.mono (hl4.trans hl10)).verT_at i15
  refine sV (ik (c:=0) (vs:=(Ver.cs A21 c22 (gt l i15))) (hx23 hl20).2 rfl Ds Dr rfl rfl rfl) (k:=?_)
  refine alV Dq λg24=>?_
  refine stV 0 (.agg (Ver.cs A21 c22 (gt l i15)).toArray) (Ver.cs A21 c22 (gt l i15)).toArray Dr (k:=BX ?_)
  refine C3 ?_
  refine mU (v:=.func (.func 120) #[(pq gw_)] #[]) (k:=sV (ldaV 0 (Ver.cs A21 c22 (gt l i15)) Ds Dr) (k:=?_))
  obtain⟨z25,hz26,h⟩:=bnd h
  refine ecV [1] (fg (first:=#[(pq gw_)]) call120 rfl (by kernel_rfl) (by kernel_rfl)) (λw hp=>oR ho13 (gt l i15) (hx23 hl20).1 hp hz26) ?_
  rintro Γ27 _ _ hl28 ⟨row31,rfl,rfl,hr32,_⟩
  refine cwV 20 [_,_] ?_
  refine C0 ?_
  change WC _ _ _ _ _ _
  refine C3 ?_
  refine sV (aw rfl rfl rfl (aA hl20 (hl.mono (hl4.trans hl10)).le)) (k:=mV (k:=?_))
  exact C0 λw hw=>⟨hl20,z25,h,Γ27,row31,slK,(hw.on [0]),(hl10.trans hl28),hr32,trivial⟩
 have h:=hge18 (ige hb19)
 refine C8 ?_
 intro w hw
 cases h
 subst hF
 exact aM (is:=[0]) (by kernel_rfl) hw rfl ⟨row12,rfl,rfl,ho13,trivial⟩
abbrev ov(gw_:Nat)(ew_:Nat)(r:a8)(U:List Rowb)(Γ:Gh)(v:Value):Prop := ∃(roww_':Rowb),v = .tuple #[]∧U = [roww_']∧a8.ob ew_ Γ gw_ roww_' r∧True
theorem oZ{gw_ ew_:Nat}{roww_:Rowb}{w_:a8}(hw_:a8.ob ew_ Γ gw_ roww_ w_){Ar_1:Option Addr}{cr_1:Nat}(r_:Rec)(hr_:Rec.fits Γ Ar_1 cr_1 r_)(hp:Pre [roww_] Γ w0){r:a8}(h:eu w_ r_=some r):Calls Tryz.prog 91 #[(pq gw_),.agg (Rec.cs Ar_1 cr_1 r_).toArray] w0 (Outc Γ [roww_] w0 (ov gw_ ew_ r)):=by
 refine goV [] func91 ntmps91 results91 hp λF hF=>?_
 refine BZ ?_
 refine bxV (v:=.agg (Rec.cs Ar_1 cr_1 r_).toArray) λg1=>?_
 refine BX (BZ (mV (k:=sV (q_fl 0 kc) (k:=sV (ldV 0 D1) (k:=?_)))))
 obtain⟨z2,hz3,h⟩:=bnd h
 refine ecV [1] (caV call118) (λw hp=>fy hw_ r_.key hr_.1 hp hz3) ?_
 rintro Γ4 _ _ hl5 ⟨row8,rfl,rfl,hr9,_⟩
 refine cwV 7 [_,_] (BX ?_)
 refine C3 ?_
 refine mV (k:=sV (q_fl 1 bG) (k:=sV (ldV 1 DB) (k:=mV (k:=sV (iD (v:=.func (.func 120) #[(pq gw_)] #[]) rfl (by kernel_rfl)) (k:=?_)))))
 obtain⟨z10,hz11,h⟩:=bnd h
 refine ecV [0] (caV call119) (λw hp=>nY hr9 (hr_.2.2.mono hl5) hr_.2.1 hp hz11) ?_
 rintro Γ12 _ _ hl13 ⟨row16,rfl,rfl,hr17,_⟩
 refine cwV 13 [_,_] ?_
 refine C0 ?_
 intro w hw
 cases h
 subst hF
 exact aM (is:=[0]) (by kernel_rfl) hw rfl ⟨row16,rfl,rfl,hr17,trivial⟩
abbrev rR(r:(List UInt8)×Int)(U:List Rowb)(Γ:Gh)(v:Value):Prop := ∃(A0:Option Addr), ∃(c0:Nat), ∃(row0:Rowb),v = .tuple #[.slice A0 r.1.length c0,.int .i64 r.2]∧U = [row0]∧Own ay Γ 5 row0 A0 c0 r.1∧I64 r.2∧True
theorem nB{Ar_1:Option Addr}{cr_1:Nat}(r_:Rec)(hr_:Rec.fits Γ Ar_1 cr_1 r_)(hp:Pre [] Γ w0){r:(List UInt8)×Int}(h:fL r_=some r):Calls Tryz.prog 64 #[.agg (Rec.cs Ar_1 cr_1 r_).toArray] w0 (Outc Γ [] w0 (rR r)):=by
 refine goV [2,3] func64 ntmps64 results64 hp λF hF=>?_
 refine BZ ?_
 refine bxV (v:=.agg (Rec.cs Ar_1 cr_1 r_).toArray) λg1=>?_
 refine aV (k:=aV (k:=BX (C1 (BZ (sV (ldaV 0 (Rec.cs Ar_1 cr_1 r_) Dv Du) (k:=?_))))))
 obtain⟨z2,hz3,h⟩:=bnd h
 refine vqV (caV call81) (λw hw=>i8 (Γ:=Gh.all w) r_ (Rec.fits_mono hr_ hw.sat.le_all) (Sat.all w) hz3) (k:=sV aX (k:=BX ?_))
 refine ciV h (λhb4 h=>?_) (λhb4 h=>?_)
 ·
  refine BZ (aV (k:=aV (k:=BX ?_)))
  refine C2 ?_
  intro w hw
  have hw:=hw.pad
  exact re_ r [0] h hF hw ⟨none,0,[],rfl,rfl,(Own.nil ay _ 5),iV,trivial⟩
 refine C4 (wc_ (BZ (sV (cT (v:=.agg #[.slice none 0 0]) rfl (λw=>by kernel_rfl)) (k:=?_))))
 refine bxV (v:=.agg #[.slice none 0 0]) λg5=>?_
 refine aV (k:=BX (BZ (mV (k:=sV (ldaV 1 (Rec.cs Ar_1 cr_1 r_) Dv Du) (k:=?_)))))
 refine WR.sub (λw hw=>hw.pad) ?_
 obtain⟨row_6,hrow_6,hob_6⟩:∃rw:Rowb,rw=([[(g5,.cells #[.slice none 0 0] 177 (0,0))],[]]:List Rowb).flatten∧a8.ob 177 Γ g5 rw (⟨[]⟩:a8):=⟨_,rfl,none,0,[],rfl,(Own.nil ay Γ 5),trivial⟩
 refine foR [1,0] hrow_6 [_,_] ?_
 obtain⟨z7,hz8,h⟩:=bnd h
 refine ecV [0] (caV call91) (λw hp=>oZ hob_6 r_ hr_ hp hz8) ?_
 rintro Γ9 _ _ hl10 ⟨row13,rfl,rfl,hr14,_⟩
 refine cwV 12 [_,_] (BX (BZ (mV (k:=sV nlV (k:=sV (q_fl 0 ir) (k:=?_))))))
 obtain⟨A0_15,c0_15,r0_15,hrow_15,ho0_15,-⟩:=id hr14
 refine ufR 0 hrow_15 [_,_,_] ?_
 refine sV (ldV 0 Da) (k:=aV (k:=aV (k:=BX ?_)))
 exact C2 λw hw=>re_ r [1] h hF hw ⟨A0_15,c0_15,r0_15,rfl,rfl,ho0_15,iV,trivial⟩
abbrev sK(r:List UInt8)(U:List Rowb)(Γ:Gh)(v:Value):Prop := ∃(A0:Option Addr), ∃(c0:Nat), ∃(row0:Rowb),v = .slice A0 r.length c0∧U = [row0]∧Own ay Γ 5 row0 A0 c0 r∧True
theorem p5{Ab:Option Addr}{cb:Nat}{rowb:Rowb}{b:List UInt8}(hb:Own ay Γ 5 rowb Ab cb b){Ar_1:Option Addr}{cr_1:Nat}(r_:Rec)(hr_:Rec.fits Γ Ar_1 cr_1 r_)(hp:Pre [rowb] Γ w0){r:List UInt8}(h:gM b r_=some r):Calls Tryz.prog 85 #[.slice Ab b.length cb,.agg (Rec.cs Ar_1 cr_1 r_).toArray] w0 (Outc Γ [rowb] w0 (sK r)):=by
 refine goV [4] func85 ntmps85 results85 hp λF hF=>?_
 refine BZ ?_
 refine bxV (v:=.agg (Rec.cs Ar_1 cr_1 r_).toArray) λg1=>?_
 refine aV (k:=BX (BZ (sV (ldaV 0 (Rec.cs Ar_1 cr_1 r_) Dv Du) (k:=?_))))
 obtain⟨z2,hz3,h⟩:=bnd h
 refine ecV [] (caV call64) (λw hp=>nB r_ hr_ hp hz3) ?_
 rintro Γ4 _ _ hl5 ⟨A8,c9,row10,rfl,rfl,hr11,hr12,_⟩
 refine cwV 9 [_,_,_] (mV (k:=sV exV (k:=sV exV (k:=aV (k:=aV (k:=BX (BZ ?_)))))))
 refine mV (k:=mV (k:=?_))
 obtain⟨hk13,h⟩:=ag h
 refine apV 2 z2.1 gc (hb.mono hl5) (Cl hk13) (λw hw=>jf (i:=0) rfl hr11 hw) ?_
 intro row14 A15 c16 ho17
 refine aV (k:=BX ?_)
 exact C2 λw hw=>re_ r [2] h hF hw ⟨A15,c16,row14,rfl,rfl,ho17,trivial⟩
abbrev rJ(r:List UInt8)(U:List Rowb)(Γ:Gh)(v:Value):Prop := ∃(A0:Option Addr), ∃(c0:Nat), ∃(row0:Rowb),v = .slice A0 r.length c0∧U = [row0]∧Own ay Γ 5 row0 A0 c0 r∧True
theorem rT{Ax_1:Option Addr}{cx_1:Nat}(x_:ar)(hx_:ar.fits Γ Ax_1 cx_1 x_)(hp:Pre [] Γ w0){r:List UInt8}(h:gT x_=some r):Calls Tryz.prog 61 #[.iface 83 (.agg (Rec.cs Ax_1 cx_1 x_.r).toArray)] w0 (Outc Γ [] w0 (rJ r)):=by
 refine goV [2] func61 ntmps61 results61 hp λF hF=>?_
 refine BZ (aV (k:=BX (C1 (BZ (mU (v:=.iface 83 (.agg (Rec.cs Ax_1 cx_1 x_.r).toArray)) (k:=BX (C5 ?_)))))))
 refine BZ (sV (df DC rfl rfl) (k:=sV exV (k:=sV exV (k:=BX ?_))))
 refine Ch (b:=true) (by kernel_rfl) rfl ?_
 refine BZ ?_
 refine alV DG λg1=>?_
 refine stV 0 (.agg (Rec.cs Ax_1 cx_1 x_.r).toArray) (Rec.cs Ax_1 cx_1 x_.r).toArray sizeOf83 (k:=BX (C1 ?_))
 refine leV λh02=>?_
 refine e7 (CC F Γ [[(g1,.cells (Rec.cs Ax_1 cx_1 x_.r).toArray 83 (0,0))]]) (bo_ [0] gR h02) λk=>?_
 change WH _ _ _ _ (CC F Γ [_]) _ 6 _ _
 refine hV 2 k (q:=q_fl 0 oN) (k:=hV 3 k (q:=ldaV 0 (Rec.cs Ax_1 cx_1 x_.r) Dv Du) (k:=wl_ 0 rfl ?_))
 refine bsV #[ii 1] 2 λg3=>?_
 refine C0 (nxV (bo_ [1] gR h02) λk=>?_)
 refine wl_ 1 rfl ?_
 have ho4:Own intT Γ 2 [(g3,.cells #[ii 1] 2 (0,0))] (some ⟨g3,0,none⟩) 1 [1]:=C7 (T:=intT) (ys:=[1]) [[ii 1]] rfl (show 1≤lim by decide) ⟨⟨rfl,iV⟩,trivial⟩
 have hc9:=ho4.capz
 refine seR 0 [_,_] λΓ5 hl6 hr7=>?_
 have hs8:=ho4.sl hl6 hr7
 refine WR.sub (λw hw=>hw.pad) ?_
 obtain⟨z10,hz11,h⟩:=bnd h
 refine ecV [0] (caV call86) (λw hp=>dA (Own.nil ay Γ5 5) hs8 hc9 hp hz11) ?_
 rintro Γ12 _ _ hl13 ⟨A16,c17,row18,rfl,rfl,hr19,_⟩
 refine cwV 17 [_,_,_] ?_
 refine C0 (nxV (bo_ [2] (hl6.trans hl13) h02) λk=>?_)
 refine wl_ 4 rfl ?_
 obtain⟨z20,hz21,h⟩:=bnd h
 refine ecV [0] (caV call85) (λw hp=>p5 hr19 x_.r ⟨hx_.1,⟨hx_.2.1,(hx_.2.2.mono (hl6.trans hl13))⟩⟩ hp hz21) ?_
 rintro Γ22 _ _ hl23 ⟨A26,c27,row28,rfl,rfl,hr29,_⟩
 refine cwV 20 [_,_,_] ?_
 refine C0 (nxV (bo_ [2] ((hl6.trans hl13).trans hl23) h02) λk=>?_)
 refine hV 5 k (q:=aoV) (k:=?_)
 refine Ca (by kernel_rfl) ?_
 change WC _ _ _ _ _ _
 exact C2 λw hw=>re_ r [0] h hF hw ⟨A26,c27,row28,rfl,rfl,hr29,trivial⟩
abbrev ub(r:(List UInt8)×Int)(U:List Rowb)(Γ:Gh)(v:Value):Prop := ∃(A0:Option Addr), ∃(c0:Nat), ∃(row0:Rowb),v = .tuple #[.slice A0 r.1.length c0,.int .i64 r.2]∧U = [row0]∧Own ay Γ 5 row0 A0 c0 r.1∧I64 r.2∧True
theorem tJ{Ab:Option Addr}{cb:Nat}{b:List UInt8}(hb:Sl ay Γ Ab b)(hbc:b.length≤cb)(hp:Pre [] Γ w0){r:(List UInt8)×Int}(h:il b=some r):Calls Tryz.prog 89 #[.slice Ab b.length cb] w0 (Outc Γ [] w0 (ub r)):=by
 refine goV [2,3] func89 ntmps89 results89 hp λF hF=>?_
 refine BZ (aV (k:=aV (k:=BX (C1 (BZ (mV (k:=sV (ab rfl D2) (k:=?_))))))))
 refine sV cp (k:=BX ?_)
 refine ciV h (λhb1 h=>?_) (λhb1 h=>?_)
 ·
  refine BZ (aV (k:=aV (k:=BX ?_)))
  refine C2 ?_
  intro w hw
  have hw:=hw.pad
  exact re_ r [0] h hF hw ⟨none,0,[],rfl,rfl,(Own.nil ay _ 5),iV,trivial⟩
 refine C4 (wc_ (BZ (mV (k:=sV (ab rfl D2) (k:=?_)))))
 obtain⟨z2,hz3,h⟩:=bnd h
 refine ecV [] (caV call113) (λw hp=>iL (b.length:Int) (jT hb.le) hp hz3) ?_
 rintro Γ4 _ _ hl5 ⟨A8,c9,row10,rfl,rfl,hr11,_⟩
 refine cwV 12 [_] (aV (k:=BX (BZ (mV (k:=mV (k:=?_))))))
 refine bsV #[.slice A8 z2.length c9,.slice Ab b.length cb] 69 λg12=>?_
 obtain⟨z13,hz14,h⟩:=bnd h
 refine vqV (caV call114) (λw hw=>qa (Γ:=Gh.all w) ((C7 (T:=slT ay) (Γ:=Gh.all w) (e:=69) (g:=g12) (ys:=([z2,b]:List (List UInt8))) [[.slice A8 z2.length c9],[.slice Ab b.length cb]] rfl (show 2≤lim by decide) (show Ty.rd (slT ay) (Gh.all w) [.slice A8 z2.length c9] z2∧Ty.rd (slT ay) (Gh.all w) [.slice Ab b.length cb] b∧True from ⟨⟨A8,c9,rfl,hr11.capz,(hr11.sl hw.sat.le_all (hw.ra 1 rfl))⟩,⟨Ab,cb,rfl,hbc,((hb.mono hl5).mono hw.sat.le_all)⟩,trivial⟩)).sl gR (hw.ra 0 rfl)) (CD _) (Sat.all w) hz14) (k:=aV (k:=BX (C1 (BZ (mV (k:=BX (C5 ?_)))))))
 refine Ci h (λ(i21:Nat) (out_15:List UInt8) σ w => ∃(A16:Option Addr), ∃(c17:Nat), ∃(row18:Rowb),slots σ [(0,.slice Ab b.length cb),(4,.slice A16 out_15.length c17),(5,.int .u32 z13),(17,ii (i21:Int))]∧CC F Γ4 [row18] w∧Own ay Γ4 5 row18 A16 c17 out_15∧True) ?_ ?_
 ·
  intro w hw
  exact⟨A8,c9,row10,slK,(hw.on [1]),hr11,trivial⟩
 rintro f20 i21 out_15 σ w hi22 hlt23 hge24 ⟨A16,c17,row18,hsl,hw,ho19,-⟩
 refine slV hsl hw [_] ?_; clear hw hsl
 refine BZ (sV aQ (k:=BX (C1 ?_)))
 refine coV (λhb25=>?_) (λhb25=>?_)
 ·
  have hl26:=ilt hb25
  have h:=hlt23 hl26
  refine C4 (wc_ (C1 (C5 (BZ (mV (k:=aV (k:=BX ?_)))))))
  refine C3 ?_
  refine mV (k:=mV (k:=mV (k:=sV tz (k:=?_))))
  obtain⟨hk27,h⟩:=ag h
  refine sV (wn rfl rfl rfl hk27) (k:=sV (j0 D7 underlying211) (k:=?_))
  refine bsV #[.int .u8 (wu8 (ishr .u32 z13 (w64 (8*(i21:Int)))))] 5 λg28=>?_
  obtain⟨hk29,h⟩:=ag h
  refine apV 1 [(b8 (wu8 (ishr .u32 z13 (w64 (8*(i21:Int))))))] gc ho19 (Cl hk29) (λw hw=>cM (i:=0) rfl (by exact(by show [Value.int .u8 (wu8 (ishr .u32 z13 (w64 (8*(i21:Int)))))] = [Value.int .u8 _]; rw [pm (xV _)])) hw) ?_
  intro row30 A31 c32 ho33
  refine aV (k:=?_)
  refine C0 ?_
  change WC _ _ _ _ _ _
  refine C3 ?_
  refine sV (aw rfl rfl rfl (qw hl26 (by decide))) (k:=mV (k:=?_))
  exact C0 λw hw=>⟨hl26,(out_15++[(b8 (wu8 (ishr .u32 z13 (w64 (8*(i21:Int))))))]),h,A31,c32,row30,slK,(hw.on [1]),ho33,trivial⟩
 have h:=hge24 (ige hb25)
 refine C8 ?_
 change WC _ _ _ _ _ _
 refine BZ (mV (k:=mV (k:=?_)))
 obtain⟨hk34,h⟩:=ag h
 refine apV 0 b gc ho19 (Cl hk34) (λw hw=>kQ (hb.mono hl5) hw) ?_
 intro row35 A36 c37 ho38
 refine aV (k:=aV (k:=BX ?_))
 exact C2 λw hw=>re_ r [0] h hF hw ⟨A36,c37,row35,rfl,rfl,ho38,iV,trivial⟩
theorem pj{gd ed:Nat}{rowd:Rowb}{d:a7}(hd:a7.ob ed Γ gd rowd d)(hdr:∀p∈rowd,Γ p.1=some p.2)(hs:Sat Γ w0){r:Int}(h:gJ d=some r):CQ Tryz.prog 116 #[(pq gd)] w0 (ii r):=by
 refine goQ [2] func116 ntmps116 results116 hs λF hF=>?_
 refine BZ (aV (k:=BX (BZ (aV (k:=BX (C1 (BZ ?_)))))))
 refine mV (k:=sV nlV (k:=sV (q_fl 2 k5) (k:=?_)))
 obtain⟨m1_1,r1_1,m2_1,r2_1,A3_1,c3_1,r3_1,hrow_1,ho0_1,ho1_1,ho2_1,ho3_1,-⟩:=id hd
 have hg_2:∀u∈([[(gd,.cells #[ii d.room,.map (some m1_1),.map (some m2_1),.slice A3_1 d.loose.length c3_1] ed (0,0))],r1_1,r2_1,r3_1]:List Rowb), ∀p∈u,Γ p.1=some p.2:=λu hu p hp=>(λp hp=>(hdr p hp)) p (hrow_1▸List.mem_flatten.2 ⟨u,hu,hp⟩)
 have hgc3:=hg_2 _ (Cp ..) (gd,_) (List.mem_singleton.2 rfl)
 have hgs4:=hg_2 r1_1 (by simp)
 have hgs5:=hg_2 r2_1 (by simp)
 have hgs6:=hg_2 r3_1 (by simp)
 have hs7:=ho3_1.sl gR hgs6
 refine sV (eU (v:=.map (some m2_1)) hgc3 rfl isAgg75 rfl rfl) (k:=?_)
 refine ww ho2_1 (λw hw p hp=>hw.sat _ _ (hgs5 p hp)) rfl rfl rfl D3 rfl ?_
 intro g8 row9 hi10
 refine cwV 10 [_] (BX (C5 ?_))
 refine WC.forE h (Comm.of_tot _ (λ_ _=>rfl) (λ_ _ _=>y6 _ _ _)) (λ(l11:List (ByteArray×(List UInt8))) (n_12:Int) σ w => ∃(row14:Rowb),slots σ [(3,ii n_12),(10,(pq g8))]∧CC F Γ [row14] w∧I64 n_12∧ItO (strK CU) (slT ay).v Γ row14 g8 m2_1 r2_1 d.seen l11∧True) ?_ ?_
 ·
  intro w hw
  exact⟨row9,slK,hw,iV,hi10,trivial⟩
 rintro G21 l11 n_12 σ w hstep16 hK17 ⟨row14,hsl,hw,hr13,hi15,-⟩
 refine slV hsl hw [_] ?_; clear hw hsl
 refine BZ ?_
 refine yg (i:=0) rfl ho2_1.ks hi15 (λw hw p hp=>hw.sat _ _ (hgs5 p hp)) rfl rfl rfl rfl (λhl22=>?_) (λen23 l24 v25 row26 hp27 hok28 hv29 hit30 he31=>?_)
 ·
  have h:=hK17 hl22
  refine cwV 11 [_] (sV exV (k:=BX (C1 ?_)))
  refine Cb (b:=false) (by kernel_rfl) rfl ?_
  refine C8 ?_
  change WC _ _ _ _ _ _
  refine BZ (mV (k:=aV (k:=BX ?_)))
  exact C2 λw hw=>rq_ r h hF hw
 obtain⟨hlen18,s219,h,hgo20⟩:=hstep16 en23 l24 hp27
 obtain⟨A32,c33,hv29,hc34,hs35⟩:=hv29
 obtain rfl:v25=_:=List.cons.inj hv29 |>.1
 refine cwV 11 [_] (sV exV (k:=BX (C1 ?_)))
 refine Ch (b:=true) (by kernel_rfl) rfl ?_
 refine C4 (wc_ (C5 (BZ (sV (we (kv:=.string en23.1) (v:=.slice A32 en23.2.length c33) (i:=0) rfl he31 (λw hw p hp=>hw.sat _ _ (hgs5 p hp)) rfl rfl) (k:=sV exV (k:=aV (k:=BX ?_)))))))
 refine C3 ?_
 refine mV (k:=mV (k:=sV (ab rfl D2) (k:=sV eH (k:=aV (k:=?_)))))
 refine C0 ?_
 intro w hw
 cases h
 exact⟨l24,_,hlen18,hgo20,row26,slK,hw,(ji _),hit30,trivial⟩
abbrev uZ(r:aj)(U:List Rowb)(Γ:Gh)(v:Value):Prop := ∃(A0:Option Addr), ∃(c0:Nat),v=(aj.val r A0 c0)∧U = []∧aj.ok Γ A0 c0 r∧True
theorem uO(name:ByteArray)(hname:name.size≤lim){Ab:Option Addr}{cb:Nat}{b:List UInt8}(hb:Sl ay Γ Ab b)(hbc:b.length≤cb)(hp:Pre [] Γ w0){r:aj}(h:nR name b=some r):Calls Tryz.prog 117 #[.string name,.slice Ab b.length cb] w0 (Outc Γ [] w0 (uZ r)):=by
 refine goV [4] func117 ntmps117 results117 hp λF hF=>?_
 refine BZ ?_
 refine bxV (v:=.string name) λg1=>?_
 refine bxV (v:=.slice Ab b.length cb) λg2=>?_
 refine aU (v:=.nilFunc) (k:=BX (BZ (sV (iD (v:=.func (.func 149) #[] #[(pq g1),(pq g2)]) rfl (by kernel_rfl)) (k:=aU (v:=.func (.func 149) #[] #[(pq g1),(pq g2)]) (k:=BX ?_)))))
 refine C2 ?_
 intro w hw
 obtain⟨Γ3,hw,hl4,hr5⟩:=hw.seal (i:=1) rfl
 have hg6:=hr5 _ (List.mem_singleton.2 rfl)
 obtain⟨Γ7,hw,hl8,hr9⟩:=hw.seal (i:=0) rfl
 have hg10:=hr9 _ (List.mem_singleton.2 rfl)
 have hf11:aj.ok Γ7 (some ⟨g2,0,none⟩) g1 (aj.disk_add_1 name b):=⟨⟨(hl8 _ _ hg6),hname⟩,⟨g2,Ab,cb,rfl,hg10,hbc,(hb.mono (hl4.trans hl8))⟩,trivial⟩
 cases h
 subst hF
 exact aM (is:=[]) (by kernel_rfl) hw rfl ⟨(some ⟨g2,0,none⟩),g1,rfl,rfl,hf11,trivial⟩
abbrev nU(gd:Nat)(ed:Nat)(r:a7×Int)(U:List Rowb)(Γ:Gh)(v:Value):Prop := ∃(rowd':Rowb),v = .int .i64 r.2∧U = [rowd']∧a7.ob ed Γ gd rowd' r.1∧I64 r.2∧True
theorem nE{gd ed:Nat}{rowd:Rowb}{d:a7}(hd:a7.ob ed Γ gd rowd d)(name:ByteArray)(hname:name.size≤lim){Ab:Option Addr}{cb:Nat}{b:List UInt8}(hb:Sl ay Γ Ab b)(hbc:b.length≤cb)(hp:Pre [rowd] Γ w0){r:a7×Int}(h:fv d name b=some r):Calls Tryz.prog 90 #[(pq gd),.string name,.slice Ab b.length cb] w0 (Outc Γ [rowd] w0 (nU gd ed r)):=by
 refine goV [6] func90 ntmps90 results90 hp λF hF=>?_
 refine BZ (aV (k:=BX (C1 (BZ (mV (k:=?_))))))
 refine bsV #[.string name] 9 λg1=>?_
 have ho2:Own strT Γ 9 [(g1,.cells #[.string name] 9 (0,0))] (some ⟨g1,0,none⟩) 1 [name]:=C7 (T:=strT) (ys:=[name]) [[.string name]] rfl (show 1≤lim by decide) ⟨⟨rfl,hname⟩,trivial⟩
 obtain⟨z3,hz4,h⟩:=bnd h
 refine vqV (caV call115) (λw hw=>oK (Γ:=Gh.all w) (ho2.sl hw.sat.le_all (hw.ra 0 rfl)) ho2.capz (Sat.all w) hz4) (k:=sV aX (k:=BX ?_))
 refine ciV h (λhb5 h=>?_) (λhb5 h=>?_)
 ·
  refine BZ (aV (k:=BX ?_))
  exact C2 λw hw=>re_ r [1] h hF hw ⟨rowd,rfl,rfl,hd,iV,trivial⟩
 refine C4 (wc_ (C1 (C1 ?_)))
 obtain⟨m1_6,r1_6,m2_6,r2_6,A3_6,c3_6,r3_6,hrow_6,ho0_6,ho1_6,ho2_6,ho3_6,-⟩:=id hd
 refine ufC 1 hrow_6 [_,_,_,_,_] ?_
 refine drV ?_
 refine zV moV (k:=zV (ab rfl D2) (k:=zV moV (k:=zV nlV (k:=zV (q_fl 0 xr) (k:=zV (ldV 0 CY) (k:=zV moV (k:=?_)))))))
 obtain⟨z7,hz8,h⟩:=bnd h
 refine wc rfl rfl rfl (b3 (caV call116) (λw hw=>pj (Γ:=Gh.all w) (hd.mono hw.sat.le_all) (hw.raU [0,0,0,0] rfl hrow_6) (Sat.all w) hz8)) (zV iQ (k:=zV cp (k:=?_)))
 refine Cd ?_
 change WC _ _ _ _ _ _
 refine ciV h (λhb9 h=>?_) (λhb9 h=>?_)
 ·
  refine BZ (aV (k:=BX ?_))
  refine C2 ?_
  intro w hw
  have hw:=hw.fold (is:=[0,0,0,0]) rfl hrow_6
  exact re_ r [0] h hF hw ⟨rowd,rfl,rfl,hd,iV,trivial⟩
 refine C4 (wc_ (BZ (mV (k:=?_))))
 obtain⟨z11,hz12,h⟩:=bnd h
 refine ecV [] (caV call98) (λw hp=>gV hb hbc hp hz12) ?_
 rintro Γ13 _ _ hl14 ⟨A17,c18,row19,rfl,rfl,hr20,_⟩
 refine cwV 22 [_,_,_,_,_,_] (aV (k:=BX (BZ (mV (k:=mV (k:=mV (k:=?_)))))))
 have hc25:=hr20.capz
 refine seR 0 [_,_,_,_,_,_] λΓ21 hl22 hr23=>?_
 have hs24:=hr20.sl hl22 hr23
 obtain⟨z26,hz27,h⟩:=bnd h
 refine ecV [] (caV call117) (λw hp=>uO name hname hs24 hc25 hp hz27) ?_
 rintro Γ28 _ _ hl29 ⟨A32,c33,rfl,rfl,hr34,_⟩
 refine cwV 26 [_,_,_,_,_,_] (mV (k:=mV (k:=sV (aR (v:=.agg #[(aj.val z26 A32 c33),.string name,.slice A17 z11.length c18]) rfl (qK rfl rfl rfl) (λw=>by kernel_rfl)) (k:=?_))))
 refine foR [1,1,1,1] hrow_6 [_,_,_] ?_
 obtain⟨z36,hz37,h⟩:=bnd h
 refine ecV [0] (caV call101) (λw hp=>iX (hd.mono ((hl14.trans hl22).trans hl29)) (⟨z26,name,z11⟩:aG) ⟨hr34,hname,⟨hc25,(hs24.mono hl29)⟩⟩ hp hz37) ?_
 rintro Γ38 _ _ hl39 ⟨row42,rfl,rfl,hr43,hr44,_⟩
 refine cwV 30 [_,_,_] (aV (k:=BX ?_))
 exact C2 λw hw=>re_ r [0] h hF hw ⟨row42,rfl,rfl,hr43,hr44,trivial⟩
abbrev nn(gl:Nat)(el:Nat×Nat)(edk0:Nat)(r:ah×a7×Int)(U:List Rowb)(Γ:Gh)(v:Value):Prop := ∃(rowl':Rowb), ∃(rowdk0':Rowb),v = .int .i64 r.2.2∧U = [rowl',rowdk0']∧ah.ob el Γ gl rowl' r.1∧a7.ob edk0 Γ el.2 rowdk0' r.2.1∧I64 r.2.2∧True
theorem dq{gl:Nat}{el:Nat×Nat}{rowl:Rowb}{l:ah}(hl:ah.ob el Γ gl rowl l){Ab:Option Addr}{cb:Nat}{b:List UInt8}(hb:Sl ay Γ Ab b)(hbc:b.length≤cb){edk0:Nat}{rowdk0:Rowb}{dk0:a7}(hdk0:a7.ob edk0 Γ el.2 rowdk0 dk0)(hp:Pre [rowl,rowdk0] Γ w0){r:ah×a7×Int}(h:bh l b dk0=some r):Calls Tryz.prog 62 #[(pq gl),.slice Ab b.length cb] w0 (Outc Γ [rowl,rowdk0] w0 (nn gl el edk0 r)):=by
 refine goV [4] func62 ntmps62 results62 hp λF hF=>?_
 refine BZ (aV (k:=BX (BZ (mV (k:=?_)))))
 obtain⟨z1,hz2,h⟩:=bnd h
 refine ecV [] (caV call89) (λw hp=>tJ hb hbc hp hz2) ?_
 rintro Γ3 _ _ hl4 ⟨A7,c8,row9,rfl,rfl,hr10,hr11,_⟩
 refine cwV 12 [_,_,_] (mV (k:=sV exV (k:=sV exV (k:=aV (k:=aV (k:=BX (C1 ?_)))))))
 refine BZ (mV (k:=sV bO (k:=BX ?_)))
 refine ciV h (λhb12 h=>?_) (λhb12 h=>?_)
 ·
  refine BZ (mV (k:=aV (k:=BX ?_)))
  exact C2 λw hw=>re_ r [1,1] h hF hw ⟨rowl,rowdk0,rfl,rfl,(hl.mono hl4),(hdk0.mono hl4),hr11,trivial⟩
 refine C4 (wc_ (C1 ?_))
 obtain⟨hrow_13,ho0_13,ho1_13,ho2_13,ho3_13,ho4_13,ho5_13,ho6_13,-⟩:=(hl.mono hl4)
 refine ufC 1 hrow_13 [_,_,_] ?_
 refine drV ?_
 refine zV moV (k:=zV nlV (k:=zV (q_fl 4 j3) (k:=zV (ldV 0 D0) (k:=zV moV (k:=zV nlV (k:=zV (q_fl 5 pA) (k:=zV (ldV 0 CY) (k:=?_))))))))
 refine zV aoV (k:=zV aoV (k:=?_))
 refine Cd ?_
 change WC _ _ _ _ _ _
 refine foC [0] hrow_13 [_,_,_] ?_
 refine Ce (λσ w => ∃(part_15:Int), ∃(tail_17:Int),cx l dk0 z1 part_15 tail_17=some r∧slots σ [(0,(pq gl)),(5,.slice A7 z1.1.length c8),(7,ii part_15),(8,ii tail_17)]∧CC F Γ3 [rowl,row9,rowdk0] w∧I64 part_15∧I64 tail_17∧True) ?_ ?_
 ·
  refine BZ (mV (k:=sV bD (k:=mV (k:=vG0 (h:=λhg19=>moV) (k:=vG0 (h:=λhg20=>cp rfl (grV hg20)) (k:=vG0 (h:=λhg21=>au (v:=.bool (decide (0<l.tail))) rfl (grV hg21)) (k:=vh1 (c0:=(!(l.last==0))) (g:=(decide (0<l.tail))) rfl rfl rfl rfl rfl (λ_=>QV.qo moV) ?_)))))))
  refine vh1 (c0:=(!(l.last==0))) (g:=(decide (0<l.tail))) rfl rfl rfl rfl rfl (λhg23=>QV.qo (ab rfl D2 (grV hg23))) (vh1 (c0:=(!(l.last==0))) (g:=(decide (0<l.tail))) rfl rfl rfl rfl rfl (λ_=>QV.qo moV) (vh1 (c0:=(!(l.last==0))) (g:=(decide (0<l.tail))) rfl rfl rfl rfl rfl (λhg25=>QV.qo (nlV (hv:=grV hg25))) (vh1 (c0:=(!(l.last==0))) (g:=(decide (0<l.tail))) rfl rfl rfl rfl rfl (λhg26=>QV.qo (q_fl 3 wQ rfl (grV hg26))) ?_)))
  obtain⟨hrow_28,ho0_28,ho1_28,ho2_28,ho3_28,ho4_28,ho5_28,ho6_28,-⟩:=(hl.mono hl4)
  refine ufR 0 hrow_28 [_,_,_] ?_
  refine vh1 (c0:=(!(l.last==0))) (g:=(decide (0<l.tail))) rfl rfl rfl rfl rfl (λhg29=>QV.qo (ldV 0 CY (hx:=grV hg29))) (vh1 (c0:=(!(l.last==0))) (g:=(decide (0<l.tail))) rfl rfl rfl rfl rfl (λ_=>QV.qo moV) (vh1 (c0:=(!(l.last==0))) (g:=(decide (0<l.tail))) rfl rfl rfl rfl rfl (λhg31=>QV.qo (iQ rfl (grV hg31) (grV hg31))) (vh1 (c0:=(!(l.last==0))) (g:=(decide (0<l.tail))) rfl rfl rfl rfl rfl (λhg32=>QV.qo (cp rfl (grV hg32) (grV hg32))) (vG0 (h:=λhg33=>fx rfl (grV hg33) (lr (c:=(!(l.last==0))) (g:=(decide (0<l.tail))) (y:=(decide ((w64 (l.size - l.tail))<(z1.1.length:Int)))) hg33)) (k:=sV pkO (k:=BX ?_))))))
  refine ciV h (λhb34 h=>?_) (λhb34 h=>?_)
  ·
   refine C3 ?_
   refine mV (k:=sV eH (k:=aV (k:=aV (k:=?_))))
   refine C0 ?_
   intro w hw
   have hw:=hw.fold (is:=[0]) rfl hrow_28
   exact⟨(w64 (l.last+1)),0,h,slK,hw,(ji _),iV,trivial⟩
  refine C4 ?_
  intro w hw
  have hw:=hw.fold (is:=[0]) rfl hrow_28
  exact⟨l.last,l.tail,h,slK,hw,ho3_13,ho4_13,trivial⟩
 rintro σ w ⟨part_15,tail_17,h,hsl,hw,hr16,hr18,-⟩
 refine slV hsl hw [_,_,_] ?_; clear hw hsl
 refine C1 (BZ (mV (k:=sV cp (k:=BX ?_))))
 refine ciV h (λhb37 h=>?_) (λhb37 h=>?_)
 ·
  refine BZ (aV (k:=BX ?_))
  exact C2 λw hw=>re_ r [0,1] h hF hw ⟨rowl,rowdk0,rfl,rfl,(hl.mono hl4),(hdk0.mono hl4),iV,trivial⟩
 refine C4 (wc_ (C1 ?_))
 refine Ce (λσ w => ∃(f_40:List UInt8), ∃(e_45:Int), ∃(o47:a7), ∃(Γ38:Gh), ∃(A41:Option Addr), ∃(c42:Nat), ∃(row48:Rowb),fk l part_15 tail_17 f_40 e_45 o47=some r∧slots σ [(0,(pq gl)),(5,.slice A41 f_40.length c42),(7,ii part_15),(8,ii tail_17),(9,ii e_45)]∧CC F Γ38 [rowl,row48] w∧Gh.le Γ3 Γ38∧f_40.length≤c42∧Sl ay Γ38 A41 f_40∧I64 e_45∧a7.ob edk0 Γ38 el.2 row48 o47∧True) ?_ ?_
 ·
  have hc54:=hr10.capz
  refine seC 1 [_,_,_] λΓ50 hl51 hr52=>?_
  have hs53:=hr10.sl hl51 hr52
  obtain⟨hrow_55,ho0_55,ho1_55,ho2_55,ho3_55,ho4_55,ho5_55,ho6_55,-⟩:=(hl.mono (hl4.trans hl51))
  refine ufC 0 hrow_55 [_,_,_] ?_
  refine leV λh056=>?_
  refine e7 (CC F Γ50 [[(gl,.cells #[.pointer (some ⟨el.2,0,none⟩),.string l.place_name,ii l.place_gen,ii l.size,ii l.last,ii l.tail,ii l.count,ii l.bytes] el.1 (0,0))],[]]) (bo_ [0,0] gR h056) λk=>?_
  change WH _ _ _ _ (CC F Γ50 [_,_,_]) _ 19 _ _
  refine hV 0 k (q:=moV) (k:=hV 1 k (q:=nlV) (k:=hV 2 k (q:=q_fl 0 iq) (k:=hV 3 k (q:=q_fl 0 ip) (k:=hV 4 k (q:=ldV 0 Db) (k:=hV 5 k (q:=moV) (k:=hV 6 k (q:=nlV) (k:=hV 7 k (q:=q_fl 0 iq) (k:=?_))))))))
  refine hV 8 k (q:=ldaV 0 [.pointer (some ⟨el.2,0,none⟩),.string l.place_name,ii l.place_gen] Dd De) (k:=hV 9 k (q:=moV) (k:=hV 10 k (q:=nlV) (k:=hV 11 k (q:=q_fl 0 iq) (k:=hV 12 k (q:=q_fl 2 pP) (k:=hV 13 k (q:=ldV 0 D0) (k:=hV 14 k (q:=moV) (k:=hV 16 k (q:=moV) (k:=?_))))))))
  refine wl_ 15 rfl ?_
  obtain⟨z57,hz58,h⟩:=bnd h
  refine vqV (caV call76) (λw hw=>jE (Γ:=Gh.all w) (gp__0:=el.2) l.place_name ho0_55 l.place_gen ho1_55 l.place_gen ho1_55 part_15 hr16 (Sat.all w) hz58) (k:=?_)
  refine C0 (nxV (bo_ [0,0] gR h056) λk=>?_)
  refine wl_ 17 rfl ?_
  obtain⟨hk59,h⟩:=ag h
  obtain⟨z60,hz61,h⟩:=bnd h
  refine ecV [2] (caV call90) (λw hp=>nE (hdk0.mono (hl4.trans hl51)) z57 (Cl hk59) hs53 hc54 hp hz61) ?_
  rintro Γ62 _ _ hl63 ⟨row66,rfl,rfl,hr67,hr68,_⟩
  refine cwV 64 [_,_,_] ?_
  refine C0 (nxV (bo_ [1,1] hl63 h056) λk=>?_)
  refine hV 18 k (q:=aoV) (k:=?_)
  refine Ca (by kernel_rfl) ?_
  intro w hw
  have hw:=hw.fold (is:=[1]) rfl hrow_55
  exact⟨z1.1,z60.2,z60.1,Γ62,A7,c8,row66,h,slK,(hw.on [0,0]),(hl51.trans hl63),hc54,(hs53.mono hl63),hr68,hr67,trivial⟩
 rintro σ w ⟨f_40,e_45,o47,Γ38,A41,c42,row48,h,hsl,hw,hl39,hc44,hs43,hr46,ho49,-⟩
 refine slV hsl hw [_,_] ?_; clear hw hsl
 refine BZ (mV (k:=sV bO (k:=BX ?_)))
 refine ciV h (λhb70 h=>?_) (λhb70 h=>?_)
 ·
  refine BZ (mV (k:=aV (k:=BX ?_)))
  exact C2 λw hw=>re_ r [0,0] h hF hw ⟨rowl,row48,rfl,rfl,(hl.mono (hl4.trans hl39)),ho49,hr46,trivial⟩
 refine C4 (wc_ (BZ (mV (k:=mV (k:=mV (k:=mV (k:=mV (k:=?_))))))))
 refine sV (ab rfl D2) (k:=sV eH (k:=sV nlV (k:=sV (q_fl 4 j3) (k:=?_))))
 obtain⟨hrow_71,ho0_71,ho1_71,ho2_71,ho3_71,ho4_71,ho5_71,ho6_71,-⟩:=(hl.mono (hl4.trans hl39))
 refine ufR 0 hrow_71 [_,_] ?_
 refine stV 0 (ii part_15) #[.pointer (some ⟨el.2,0,none⟩),.string l.place_name,ii l.place_gen,ii l.size,ii part_15,ii l.tail,ii l.count,ii l.bytes] Dh (k:=sV nlV (k:=sV (q_fl 5 pA) (k:=stV 0 (ii (w64 (tail_17+(f_40.length:Int)))) #[.pointer (some ⟨el.2,0,none⟩),.string l.place_name,ii l.place_gen,ii l.size,ii part_15,ii (w64 (tail_17+(f_40.length:Int))),ii l.count,ii l.bytes] CX (k:=BX (BZ (mV (k:=sV nlV (k:=?_))))))))
 refine sV (q_fl 6 pt) (k:=sV (ldV 0 CY) (k:=sV eH (k:=sV nlV (k:=sV (q_fl 6 pt) (k:=stV 0 (ii (w64 (l.count+1))) #[.pointer (some ⟨el.2,0,none⟩),.string l.place_name,ii l.place_gen,ii l.size,ii part_15,ii (w64 (tail_17+(f_40.length:Int))),ii (w64 (l.count+1)),ii l.bytes] CX (k:=BX (BZ ?_)))))))
 refine mV (k:=sV nlV (k:=sV (q_fl 7 mZ) (k:=sV (ldV 0 CY) (k:=mV (k:=sV (ab rfl D2) (k:=sV eH (k:=sV nlV (k:=?_))))))))
 refine sV (q_fl 7 mZ) (k:=stV 0 (ii (w64 (l.bytes+(f_40.length:Int)))) #[.pointer (some ⟨el.2,0,none⟩),.string l.place_name,ii l.place_gen,ii l.size,ii part_15,ii (w64 (tail_17+(f_40.length:Int))),ii (w64 (l.count+1)),ii (w64 (l.bytes+(f_40.length:Int)))] CX (k:=BX (BZ (aV (k:=BX ?_)))))
 refine C2 ?_
 intro w hw
 obtain⟨row_72,hrow_72,hob_72⟩:∃rw:Rowb,rw=([[(gl,.cells #[.pointer (some ⟨el.2,0,none⟩),.string l.place_name,ii l.place_gen,ii l.size,ii part_15,ii (w64 (tail_17+(f_40.length:Int))),ii (w64 (l.count+1)),ii (w64 (l.bytes+(f_40.length:Int)))] el.1 (0,0))]]:List Rowb).flatten∧ah.ob el Γ38 gl rw (⟨l.place_name,l.place_gen,l.size,part_15,(w64 (tail_17+(f_40.length:Int))),(w64 (l.count+1)),(w64 (l.bytes+(f_40.length:Int)))⟩:ah):=⟨_,rfl,rfl,ho0_71,ho1_71,ho2_71,hr16,(ji _),(ji _),(ji _),trivial⟩
 have hw:=hw.fold (is:=[0]) rfl hrow_72
 cases h
 subst hF
 exact aM (is:=[0,0]) (by kernel_rfl) hw rfl ⟨row_72,row48,rfl,rfl,hob_72,ho49,iV,trivial⟩
abbrev oU(gl:Nat)(el:Nat×Nat)(rowl:Rowb)(edk0:Nat)(r:a7)(U:List Rowb)(Γ:Gh)(v:Value):Prop := ∃(rowdk0':Rowb),v = .tuple #[]∧U = [rowl,rowdk0']∧a7.ob edk0 Γ el.2 rowdk0' r∧True
theorem ey{gl:Nat}{el:Nat×Nat}{rowl:Rowb}{l:ah}(hl:ah.ob el Γ gl rowl l){edk0:Nat}{rowdk0:Rowb}{dk0:a7}(hdk0:a7.ob edk0 Γ el.2 rowdk0 dk0)(hp:Pre [rowl,rowdk0] Γ w0){r:a7}(h:cu l dk0=some r):Calls Tryz.prog 63 #[(pq gl)] w0 (Outc Γ [rowl,rowdk0] w0 (oU gl el rowl edk0 r)):=by
 refine goV [] func63 ntmps63 results63 hp λF hF=>?_
 refine C3 ?_
 refine mV (k:=sV nlV (k:=sV (q_fl 0 iq) (k:=sV (q_fl 0 ip) (k:=?_))))
 obtain⟨hrow_1,ho0_1,ho1_1,ho2_1,ho3_1,ho4_1,ho5_1,ho6_1,-⟩:=id hl
 refine ufR 0 hrow_1 [_,_] ?_
 refine sV (ldV 0 Db) (k:=?_)
 obtain⟨z2,hz3,h⟩:=bnd h
 refine ecV [1] (caV call42) (λw hp=>lh hdk0 hp hz3) ?_
 rintro Γ4 _ _ hl5 ⟨row8,rfl,rfl,hr9,_⟩
 refine cwV 7 [_,_] ?_
 refine C0 ?_
 intro w hw
 have hw:=hw.fold (is:=[1]) rfl hrow_1
 cases h
 subst hF
 exact aM (is:=[0,0]) (by kernel_rfl) hw rfl ⟨row8,rfl,rfl,hr9,trivial⟩
abbrev mf(gq:Nat)(eq:Nat×Nat)(edk0:Nat)(r:a6×a7×Int)(U:List Rowb)(Γ:Gh)(v:Value):Prop := ∃(rowq':Rowb), ∃(rowdk0':Rowb),v = .int .i64 r.2.2∧U = [rowq',rowdk0']∧a6.ob eq Γ gq rowq' r.1∧a7.ob edk0 Γ eq.2 rowdk0' r.2.1∧I64 r.2.2∧True
theorem ju{gq:Nat}{eq:Nat×Nat}{rowq:Rowb}{q:a6}(hq:a6.ob eq Γ gq rowq q){Ax_1:Option Addr}{cx_1:Nat}(x_:ar)(hx_:ar.fits Γ Ax_1 cx_1 x_)(sync:Bool){edk0:Nat}{rowdk0:Rowb}{dk0:a7}(hdk0:a7.ob edk0 Γ eq.2 rowdk0 dk0)(hp:Pre [rowq,rowdk0] Γ w0){r:a6×a7×Int}(h:bA q x_ sync dk0=some r):Calls Tryz.prog 27 #[(pq gq),.iface 83 (.agg (Rec.cs Ax_1 cx_1 x_.r).toArray),.bool sync] w0 (Outc Γ [rowq,rowdk0] w0 (mf gq eq edk0 r)):=by
 refine goV [6] func27 ntmps27 results27 hp λF hF=>?_
 refine BZ (aV (k:=BX (C1 (BZ (mV (k:=mU (v:=.iface 83 (.agg (Rec.cs Ax_1 cx_1 x_.r).toArray)) (k:=?_)))))))
 obtain⟨z1,hz2,h⟩:=bnd h
 refine vqV (caV E0) (λw hw=>d9 (Γ:=Gh.all w) (hq.mono hw.sat.le_all) (hw.ra 0 rfl) x_ (ar.fits_mono hx_ hw.sat.le_all) (Sat.all w) hz2) (k:=sV aX (k:=BX ?_))
 refine ciV h (λhb3 h=>?_) (λhb3 h=>?_)
 ·
  refine BZ (aV (k:=BX ?_))
  exact C2 λw hw=>re_ r [0,0] h hF hw ⟨rowq,rowdk0,rfl,rfl,hq,hdk0,iV,trivial⟩
 refine C4 (wc_ (BZ (mU (v:=.iface 83 (.agg (Rec.cs Ax_1 cx_1 x_.r).toArray)) (k:=?_))))
 obtain⟨z4,hz5,h⟩:=bnd h
 refine ecV [] (caV call61) (λw hp=>rT x_ hx_ hp hz5) ?_
 rintro Γ6 _ _ hl7 ⟨A10,c11,row12,rfl,rfl,hr13,_⟩
 refine cwV 16 [_,_,_] (aV (k:=BX (C1 (BZ (mV (k:=sV nlV (k:=sV (q_fl 6 gW) (k:=?_))))))))
 obtain⟨A2_14,c2_14,y5_14,g6_14,r6_14,A7_14,c7_14,A8_14,A9_14,c9_14,r9_14,m11_14,r11_14,A12_14,c12_14,hrow_14,ho0_14,ho1_14,ho2_14,ho3_14,ho4_14,ho5_14,ho6_14,ho7_14,ho8_14,ho9_14,ho10_14,ho11_14,ho12_14,ho13_14,ho14_14,-⟩:=(hq.mono hl7)
 refine ufR 1 hrow_14 [_,_,_,_,_,_] ?_
 refine sV (ldV 0 Di) (k:=mV (k:=?_))
 have hc19:=hr13.capz
 refine seR 4 [_,_,_,_,_,_] λΓ15 hl16 hr17=>?_
 have hs18:=hr13.sl hl16 hr17
 obtain⟨z20,hz21,h⟩:=bnd h
 refine ecV [1,4] (caV call62) (λw hp=>dq (ho6_14.mono hl16) hs18 hc19 (hdk0.mono (hl7.trans hl16)) hp hz21) ?_
 rintro Γ22 _ _ hl23 ⟨row26,row28,rfl,rfl,hr27,hr29,hr30,_⟩
 refine cwV 22 [_,_,_,_,_,_] (aV (k:=BX (BZ (mV (k:=sV bO (k:=BX ?_))))))
 refine ciV h (λhb31 h=>?_) (λhb31 h=>?_)
 ·
  refine BZ (mV (k:=aV (k:=BX ?_)))
  refine C2 ?_
  intro w hw
  obtain⟨row_32,hrow_32,hob_32⟩:∃rw:Rowb,rw=([[(gq,.cells #[ii q.c_self,ii q.c_sites,.slice A2_14 q.c_links.length c2_14,ii q.c_cap,ii q.c_base,y5_14,(pq g6_14),.slice A7_14 q.applied.length c7_14,.pointer A8_14,.slice A9_14 q.list.length c9_14,ii q.next,.map (some m11_14),.slice A12_14 q.members.length c12_14] eq.1 (0,0))],row26,r9_14,r11_14]:List Rowb).flatten∧a6.ob eq Γ22 gq rw (⟨q.c_self,q.c_sites,q.c_links,q.c_cap,q.c_base,z20.1,q.applied,q.under,q.list,q.next,q.gaps,q.members⟩:a6):=⟨_,rfl,A2_14,c2_14,(y5_14),g6_14,row26,A7_14,c7_14,A8_14,A9_14,c9_14,r9_14,m11_14,r11_14,A12_14,c12_14,rfl,ho0_14,ho1_14,ho2_14,(ho3_14.mono (hl16.trans hl23)),ho4_14,ho5_14,hr27,ho7_14,(ho8_14.mono (hl16.trans hl23)),(ho9_14.mono (hl16.trans hl23)),(ho10_14.mono (hl16.trans hl23)),ho11_14,(ho12_14.mono (hl16.trans hl23)),ho13_14,(ho14_14.mono (hl16.trans hl23)),trivial⟩
  have hw:=hw.fold (is:=[2,0,1,1]) rfl hrow_32
  cases h
  subst hF
  exact aM (is:=[0,0]) (by kernel_rfl) hw rfl ⟨row_32,row28,rfl,rfl,hob_32,hr29,hr30,trivial⟩
 refine C4 (wc_ ?_)
 obtain⟨row_33,hrow_33,hob_33⟩:∃rw:Rowb,rw=([[(gq,.cells #[ii q.c_self,ii q.c_sites,.slice A2_14 q.c_links.length c2_14,ii q.c_cap,ii q.c_base,y5_14,(pq g6_14),.slice A7_14 q.applied.length c7_14,.pointer A8_14,.slice A9_14 q.list.length c9_14,ii q.next,.map (some m11_14),.slice A12_14 q.members.length c12_14] eq.1 (0,0))],row26,r9_14,r11_14]:List Rowb).flatten∧a6.ob eq Γ22 gq rw (⟨q.c_self,q.c_sites,q.c_links,q.c_cap,q.c_base,z20.1,q.applied,q.under,q.list,q.next,q.gaps,q.members⟩:a6):=⟨_,rfl,A2_14,c2_14,(y5_14),g6_14,row26,A7_14,c7_14,A8_14,A9_14,c9_14,r9_14,m11_14,r11_14,A12_14,c12_14,rfl,ho0_14,ho1_14,ho2_14,(ho3_14.mono (hl16.trans hl23)),ho4_14,ho5_14,hr27,ho7_14,(ho8_14.mono (hl16.trans hl23)),(ho9_14.mono (hl16.trans hl23)),(ho10_14.mono (hl16.trans hl23)),ho11_14,(ho12_14.mono (hl16.trans hl23)),ho13_14,(ho14_14.mono (hl16.trans hl23)),trivial⟩
 refine foC [2,0,1,1] hrow_33 [_,_,_] ?_
 refine Ce (λσ w => ∃(o36:a7), ∃(Γ34:Gh), ∃(row37:Rowb),dk q z4 z20 o36=some r∧slots σ [(0,(pq gq)),(7,.slice A10 z4.length c11)]∧CC F Γ34 [row_33,row37] w∧Gh.le Γ22 Γ34∧a7.ob edk0 Γ34 eq.2 row37 o36∧True) ?_ ?_
 ·
  refine BZ (mV (k:=BX ?_))
  refine ciV h (λhb39 h=>?_) (λhb39 h=>?_)
  ·
   refine C3 ?_
   refine mV (k:=sV nlV (k:=sV (q_fl 6 gW) (k:=?_)))
   obtain⟨A2_40,c2_40,y5_40,g6_40,r6_40,A7_40,c7_40,A8_40,A9_40,c9_40,r9_40,m11_40,r11_40,A12_40,c12_40,hrow_40,ho0_40,ho1_40,ho2_40,ho3_40,ho4_40,ho5_40,ho6_40,ho7_40,ho8_40,ho9_40,ho10_40,ho11_40,ho12_40,ho13_40,ho14_40,-⟩:=id hob_33
   refine ufR 0 hrow_40 [_,_,_,_,_,_] ?_
   refine sV (ldV 0 Di) (k:=?_)
   obtain⟨z41,hz42,h⟩:=bnd h
   refine ecV [1,3] (caV call63) (λw hp=>ey ho6_40 hr29 hp hz42) ?_
   rintro Γ43 _ _ hl44 ⟨row47,rfl,rfl,hr48,_⟩
   refine cwV 31 [_,_,_,_,_,_] ?_
   refine C0 ?_
   intro w hw
   have hw:=hw.fold (is:=[2,0,1,1]) rfl hrow_40
   exact⟨z41,Γ43,row47,h,slK,(hw.on [0,0]),hl44,hr48,trivial⟩
  exact C4 λw hw=>⟨z20.2.1,Γ22,row28,h,slK,(hw.on [0,0]),gR,hr29,trivial⟩
 rintro σ w ⟨o36,Γ34,row37,h,hsl,hw,hl35,ho38,-⟩
 refine slV hsl hw [_,_] ?_; clear hw hsl
 refine BZ (mV (k:=?_))
 obtain⟨z50,hz51,h⟩:=bnd h
 refine ecV [] (caV call23) (λw hp=>dC (hs18.mono (hl23.trans hl35)) hc19 hp hz51) ?_
 rintro Γ52 _ _ hl53 (⟨ho56,rfl,rfl,_⟩ | ⟨o57,ho56,A58,c59,rfl,rfl,hr60,_⟩ | ⟨o57,ho56,A61,c62,A63,c64,rfl,rfl,hr65,_⟩ | ⟨o57,ho56,rfl,rfl,hr66,_⟩ | ⟨o57,ho56,rfl,rfl,hr67,_⟩)
 ·
  have h:=ak.e_nil ho56 h
  refine cwV 34 [_,_] (mV (k:=sV exV (k:=sV exV (k:=aU (v:=.nilIface) (k:=aV (k:=BX (BZ ?_)))))))
  refine mV (k:=mU (v:=.nilIface) (k:=?_))
  obtain⟨z68,hz69,h⟩:=bnd h
  refine ecV [0] (caV E1) (λw hp=>bq (hob_33.mono (hl35.trans hl53)) hp hz69) ?_
  rintro Γ70 _ _ hl71 ⟨rfl,rfl,_⟩
  refine cwV 39 [_,_] (BX (BZ (aV (k:=BX ?_))))
  exact C2 λw hw=>re_ r [0,0] h hF hw ⟨row_33,row37,rfl,rfl,(hob_33.mono ((hl35.trans hl53).trans hl71)),(ho38.mono (hl53.trans hl71)),iV,trivial⟩
 ·
  have h:=ak.e_queue_issue ho56 h
  refine cwV 34 [_,_] (mV (k:=sV exV (k:=sV exV (k:=aU (v:=.iface 83 (.agg (Rec.cs A58 c59 o57.r).toArray)) (k:=aV (k:=BX (BZ ?_)))))))
  refine mV (k:=mU (v:=.iface 83 (.agg (Rec.cs A58 c59 o57.r).toArray)) (k:=?_))
  obtain⟨z74,hz75,h⟩:=bnd h
  refine ecV [0] (caV E1) (λw hp=>b7 (hob_33.mono (hl35.trans hl53)) o57 hr60 hp hz75) ?_
  rintro Γ76 _ _ hl77 ⟨row80,rfl,rfl,hr81,_⟩
  refine cwV 39 [_,_] (BX (BZ (aV (k:=BX ?_))))
  exact C2 λw hw=>re_ r [0,0] h hF hw ⟨row80,row37,rfl,rfl,hr81,(ho38.mono (hl53.trans hl77)),iV,trivial⟩
 ·
  have h:=ak.e_queue_did ho56 h
  refine cwV 34 [_,_] (mV (k:=sV exV (k:=sV exV (k:=aU (v:=.iface 86 (.agg (ae.cs A61 c62 A63 c64 o57).toArray)) (k:=aV (k:=BX (BZ ?_)))))))
  refine mV (k:=mU (v:=.iface 86 (.agg (ae.cs A61 c62 A63 c64 o57).toArray)) (k:=?_))
  obtain⟨z82,hz83,h⟩:=bnd h
  refine ecV [0] (caV E1) (λw hp=>b9 (hob_33.mono (hl35.trans hl53)) o57 hr65 hp hz83) ?_
  rintro Γ84 _ _ hl85 ⟨row88,rfl,rfl,hr89,_⟩
  refine cwV 39 [_,_] (BX (BZ (aV (k:=BX ?_))))
  exact C2 λw hw=>re_ r [0,0] h hF hw ⟨row88,row37,rfl,rfl,hr89,(ho38.mono (hl53.trans hl85)),iV,trivial⟩
 ·
  have h:=ak.e_queue_ack ho56 h
  refine cwV 34 [_,_] (mV (k:=sV exV (k:=sV exV (k:=aU (v:=.iface 95 (.agg (al.cs o57).toArray)) (k:=aV (k:=BX (BZ ?_)))))))
  refine mV (k:=mU (v:=.iface 95 (.agg (al.cs o57).toArray)) (k:=?_))
  obtain⟨z90,hz91,h⟩:=bnd h
  refine ecV [0] (caV E1) (λw hp=>bb (hob_33.mono (hl35.trans hl53)) o57 hr66 hp hz91) ?_
  rintro Γ92 _ _ hl93 ⟨row96,rfl,rfl,hr97,_⟩
  refine cwV 39 [_,_] (BX (BZ (aV (k:=BX ?_))))
  exact C2 λw hw=>re_ r [0,0] h hF hw ⟨row96,row37,rfl,rfl,hr97,(ho38.mono (hl53.trans hl93)),iV,trivial⟩
 have h:=ak.e_queue_clear ho56 h
 refine cwV 34 [_,_] (mV (k:=sV exV (k:=sV exV (k:=aU (v:=.iface 97 (.agg #[ii o57.sink])) (k:=aV (k:=BX (BZ ?_)))))))
 refine mV (k:=mU (v:=.iface 97 (.agg #[ii o57.sink])) (k:=?_))
 obtain⟨z98,hz99,h⟩:=bnd h
 refine ecV [0] (caV E1) (λw hp=>ba (hob_33.mono (hl35.trans hl53)) o57 hr67 hp hz99) ?_
 rintro Γ100 _ _ hl101 ⟨row104,rfl,rfl,hr105,_⟩
 refine cwV 39 [_,_] (BX (BZ (aV (k:=BX ?_))))
 exact C2 λw hw=>re_ r [0,0] h hF hw ⟨row104,row37,rfl,rfl,hr105,(ho38.mono (hl53.trans hl101)),iV,trivial⟩
abbrev uD(r:Rec)(U:List Rowb)(Γ:Gh)(v:Value):Prop := ∃(A0_1:Option Addr), ∃(c0_1:Nat),v = .agg #[.string r.key,.slice A0_1 r.vers.length c0_1]∧U = []∧Rec.fits Γ A0_1 c0_1 r∧True
theorem tR{Ar_1:Option Addr}{cr_1:Nat}(r_:Rec)(hr_:Rec.fits Γ Ar_1 cr_1 r_)(hp:Pre [] Γ w0){r:Rec}(h:gB r_=some r):Calls Tryz.prog 28 #[.agg (Rec.cs Ar_1 cr_1 r_).toArray] w0 (Outc Γ [] w0 (uD r)):=by
 refine dl (N:=16) (rs:=[.cell 2 42]) (args:=[.agg (Rec.cs Ar_1 cr_1 r_).toArray]) func28 rfl ntmps28 results28 rfl ?_
 obtain⟨F,hF⟩:∃F:Fm,F=⟨ids [],w0,Γ⟩:=⟨_,rfl⟩
 refine Cf (C:=CC F Γ []) ?_ (hF▸hp.start)
 refine BZ ?_
 refine bxV (v:=.agg (Rec.cs Ar_1 cr_1 r_).toArray) λg1=>?_
 refine alV Dt λg2=>?_
 refine BX (BZ (sV (ldaV 1 (Rec.cs Ar_1 cr_1 r_) Dv Du) (k:=?_)))
 obtain⟨z3,hz4,h⟩:=bnd h
 refine ecV [] (caV call64) (λw hp=>nB r_ hr_ hp hz4) ?_
 rintro Γ5 _ _ hl6 ⟨A9,c10,row11,rfl,rfl,hr12,hr13,_⟩
 refine cwV 7 [_,_,_] (mV (k:=sV exV (k:=sV exV (k:=aV (k:=aV (k:=BX (BZ ?_)))))))
 refine mV (k:=?_)
 have hc18:=hr12.capz
 refine seR 0 [_,_,_] λΓ14 hl15 hr16=>?_
 have hs17:=hr12.sl hl15 hr16
 obtain⟨z19,hz20,h⟩:=bnd h
 refine ecV [] (caV call65) (λw hp=>lA hs17 hc18 hp hz20) ?_
 rintro Γ21 _ _ hl22 ⟨A25,c26,rfl,rfl,hr27,hr28,_⟩
 refine cwV 12 [_,_,_] (mV (k:=sV exV (k:=sV exV (k:=stV 2 (.agg (Rec.cs A25 c26 z19.1).toArray) (Rec.cs A25 c26 z19.1).toArray Du (k:=BX (BZ (sV (ldaV 2 (Rec.cs A25 c26 z19.1) Dv Du) (k:=?_))))))))
 refine stV 1 (.agg (Rec.cs A25 c26 z19.1).toArray) (Rec.cs A25 c26 z19.1).toArray Du (k:=BX ?_)
 refine C2 ?_
 intro w hw
 cases h
 subst hF
 exact⟨[.agg (Rec.cs A25 c26 z19.1).toArray],(da (i:=1) (us:=(Rec.cs A25 c26 z19.1)) hw rfl Dv Du (by kernel_rfl) rfl db),aM (is:=[]) (by kernel_rfl) hw rfl ⟨A25,c26,rfl,rfl,hr27,trivial⟩⟩
abbrev nj(gq:Nat)(eq:Nat×Nat)(rowq:Rowb)(r:Rec×Bool)(U:List Rowb)(Γ:Gh)(v:Value):Prop := ∃(A0_1:Option Addr), ∃(c0_1:Nat),v = .tuple #[.agg #[.string r.1.key,.slice A0_1 r.1.vers.length c0_1],.bool r.2]∧U = [rowq]∧Rec.fits Γ A0_1 c0_1 r.1∧True
theorem eI{gq:Nat}{eq:Nat×Nat}{rowq:Rowb}{q:a6}(hq:a6.ob eq Γ gq rowq q)(hp:Pre [rowq] Γ w0){r:Rec×Bool}(h:bv q=some r):Calls Tryz.prog 9 #[(pq gq)] w0 (Outc Γ [rowq] w0 (nj gq eq rowq r)):=by
 refine dl (N:=17) (rs:=[.cell 2 42,.tmp 3]) (args:=[(pq gq)]) func9 rfl ntmps9 results9 rfl ?_
 obtain⟨F,hF⟩:∃F:Fm,F=⟨ids [rowq],w0,Γ⟩:=⟨_,rfl⟩
 refine Cf (C:=CC F Γ [rowq]) ?_ (hF▸hp.start)
 refine BZ ?_
 refine alV Dt λg1=>?_
 refine aV (k:=BX (C1 (BZ (mV (k:=sV nlV (k:=sV (q_fl 8 gA) (k:=?_)))))))
 obtain⟨A2_2,c2_2,y5_2,g6_2,r6_2,A7_2,c7_2,A8_2,A9_2,c9_2,r9_2,m11_2,r11_2,A12_2,c12_2,hrow_2,ho0_2,ho1_2,ho2_2,ho3_2,ho4_2,ho5_2,ho6_2,ho7_2,ho8_2,ho9_2,ho10_2,ho11_2,ho12_2,ho13_2,ho14_2,-⟩:=id hq
 refine ufR 1 hrow_2 [_,_,_,_,_] ?_
 refine sV (ldV 0 DR) (k:=sV (qL ho9_2 DS rfl rfl rfl) (k:=BX ?_))
 refine ciV h (λhb3 h=>?_) (λhb3 h=>?_)
 ·
  refine BZ (sV (cT (v:=.agg #[.string ByteArray.empty,.slice none 0 0]) rfl (λw=>by kernel_rfl)) (k:=stV 4 (.agg #[.string ByteArray.empty,.slice none 0 0]) #[.string ByteArray.empty,.slice none 0 0] Du (k:=aV (k:=BX ?_))))
  refine C2 ?_
  intro w hw
  have hw:=hw.fold (is:=[0,0,0,0]) rfl hrow_2
  cases h
  subst hF
  exact⟨[.agg #[.string ByteArray.empty,.slice none 0 0],.bool false],(da (i:=1) (us:=[.string ByteArray.empty,.slice none 0 0]) hw rfl Dv Du (by kernel_rfl) rfl (ie (by kernel_rfl) db)),aM (is:=[0]) (by kernel_rfl) hw rfl ⟨none,0,rfl,rfl,⟨(show (ByteArray.empty:ByteArray).size≤lim by decide),nilV⟩,trivial⟩⟩
 refine C4 (wc_ (BZ (mV (k:=sV nlV (k:=sV (q_fl 8 gA) (k:=sV (ldV 0 DR) (k:=?_)))))))
 obtain⟨hk5,h⟩:=ag h
 refine sV (oS ho9_2 hk5 rfl rfl) (k:=?_)
 obtain⟨A6,c7,hx8⟩:=(Pd.sl ho9_2 hk5).recT_at 0
 refine sV (ik (c:=0) (vs:=(Rec.cs A6 c7 (gt [gvo q.under] 0))) (hx8 Nat.zero_lt_one).2 rfl Dv Du rfl rfl rfl) (k:=?_)
 obtain⟨z9,hz10,h⟩:=bnd h
 refine ecV [] (caV call28) (λw hp=>tR (gt [gvo q.under] 0) (hx8 Nat.zero_lt_one).1 hp hz10) ?_
 rintro Γ11 _ _ hl12 ⟨A15,c16,rfl,rfl,hr17,_⟩
 refine cwV 16 [_,_,_,_,_] (stV 4 (.agg (Rec.cs A15 c16 z9).toArray) (Rec.cs A15 c16 z9).toArray Du (k:=aV (k:=BX ?_)))
 refine C2 ?_
 intro w hw
 have hw:=hw.fold (is:=[0,0,0,0]) rfl hrow_2
 cases h
 subst hF
 exact⟨[.agg (Rec.cs A15 c16 z9).toArray,.bool true],(da (i:=1) (us:=(Rec.cs A15 c16 z9)) hw rfl Dv Du (by kernel_rfl) rfl (ie (by kernel_rfl) db)),aM (is:=[0]) (by kernel_rfl) hw rfl ⟨A15,c16,rfl,rfl,hr17,trivial⟩⟩
abbrev nh(gq:Nat)(eq:Nat×Nat)(edk0:Nat)(r:a6×a7×Ver×Int)(U:List Rowb)(Γ:Gh)(v:Value):Prop := ∃(rowq':Rowb), ∃(rowdk0':Rowb), ∃(A0_2:Option Addr), ∃(c0_2:Nat),v = .tuple #[.agg #[.int .i64 r.2.2.1.dot.s,.int .i64 r.2.2.1.dot.n,.slice A0_2 r.2.2.1.past.length c0_2,.bool r.2.2.1.gone,.string r.2.2.1.val],.int .i64 r.2.2.2]∧U = [rowq',rowdk0']∧a6.ob eq Γ gq rowq' r.1∧a7.ob edk0 Γ eq.2 rowdk0' r.2.1∧Ver.fits Γ A0_2 c0_2 r.2.2.1∧I64 r.2.2.2∧True
theorem eK{gq:Nat}{eq:Nat×Nat}{rowq:Rowb}{q:a6}(hq:a6.ob eq Γ gq rowq q)(key:ByteArray)(hkey:key.size≤lim){Apast:Option Addr}{cpast:Nat}{past:List Span}(hpast:Sl gO Γ Apast past)(hpastc:past.length≤cpast)(gone:Bool)(val:ByteArray)(hval:val.size≤lim){edk0:Nat}{rowdk0:Rowb}{dk0:a7}(hdk0:a7.ob edk0 Γ eq.2 rowdk0 dk0)(hp:Pre [rowq,rowdk0] Γ w0){r:a6×a7×Ver×Int}(h:br q key past gone val dk0=some r):Calls Tryz.prog 8 #[(pq gq),.string key,.slice Apast past.length cpast,.bool gone,.string val] w0 (Outc Γ [rowq,rowdk0] w0 (nh gq eq edk0 r)):=by
 refine dl (N:=67) (rs:=[.cell 10 37,.tmp 11]) (args:=[(pq gq),.string key,.slice Apast past.length cpast,.bool gone,.string val]) func8 rfl ntmps8 results8 rfl ?_
 obtain⟨F,hF⟩:∃F:Fm,F=⟨ids [rowq,rowdk0],w0,Γ⟩:=⟨_,rfl⟩
 refine Cf (C:=CC F Γ [rowq,rowdk0]) ?_ (hF▸hp.start)
 refine BZ ?_
 refine alV Dq λg1=>?_
 refine aV (k:=BX (C1 (BZ (mV (k:=sV nlV (k:=sV (q_fl 8 gA) (k:=?_)))))))
 obtain⟨A2_2,c2_2,y5_2,g6_2,r6_2,A7_2,c7_2,A8_2,A9_2,c9_2,r9_2,m11_2,r11_2,A12_2,c12_2,hrow_2,ho0_2,ho1_2,ho2_2,ho3_2,ho4_2,ho5_2,ho6_2,ho7_2,ho8_2,ho9_2,ho10_2,ho11_2,ho12_2,ho13_2,ho14_2,-⟩:=id hq
 refine ufR 1 hrow_2 [_,_,_,_,_,_] ?_
 refine sV (ldV 0 DR) (k:=sV (uv ho9_2 DS rfl rfl rfl) (k:=BX ?_))
 refine ciV h (λhb3 h=>?_) (λhb3 h=>?_)
 ·
  refine BZ (sV (cT (v:=.agg #[ii 0,ii 0,.slice none 0 0,.bool false,.string ByteArray.empty]) rfl (λw=>by kernel_rfl)) (k:=stV 4 (.agg #[ii 0,ii 0,.slice none 0 0,.bool false,.string ByteArray.empty]) #[ii 0,ii 0,.slice none 0 0,.bool false,.string ByteArray.empty] Dr (k:=aV (k:=BX ?_))))
  refine C2 ?_
  intro w hw
  have hw:=hw.fold (is:=[0,0,0,0]) rfl hrow_2
  cases h
  subst hF
  exact⟨[.agg #[ii 0,ii 0,.slice none 0 0,.bool false,.string ByteArray.empty],ii 202],(da (i:=1) (us:=[ii 0,ii 0,.slice none 0 0,.bool false,.string ByteArray.empty]) hw rfl Ds Dr (by kernel_rfl) rfl (ie (by kernel_rfl) db)),aM (is:=[0,1]) (by kernel_rfl) hw rfl ⟨rowq,rowdk0,none,0,rfl,rfl,hq,hdk0,⟨iV,iV,nilV,(show (ByteArray.empty:ByteArray).size≤lim by decide)⟩,iV,trivial⟩⟩
 refine C4 (wc_ (C1 ?_))
 refine leV λh05=>?_
 refine e7 (CC F Γ [[(gq,.cells #[ii q.c_self,ii q.c_sites,.slice A2_2 q.c_links.length c2_2,ii q.c_cap,ii q.c_base,y5_2,(pq g6_2),.slice A7_2 q.applied.length c7_2,.pointer A8_2,.slice A9_2 q.list.length c9_2,ii q.next,.map (some m11_2),.slice A12_2 q.members.length c12_2] eq.1 (0,0))],r6_2,r11_2,[(g1,.cells #[ii 0,ii 0,.slice none 0 0,.bool false,.string ByteArray.empty] 37 (0,0))]]) (bo_ [0,0,1,1] gR h05) λk=>?_
 change WH _ _ _ _ (CC F Γ [_,_,_,_,_,_]) _ 16 _ _
 refine hV 0 k (q:=moV) (k:=hV 1 k (q:=nlV) (k:=hV 2 k (q:=q_fl 7 cj) (k:=hV 3 k (q:=ldV 0 DP) (k:=hV 4 k (q:=moV) (k:=hV 5 k (q:=nlV) (k:=hV 6 k (q:=q_fl 0 ix) (k:=hV 7 k (q:=q_fl 0 ke) (k:=?_))))))))
 refine hV 8 k (q:=ldV 0 CY) (k:=?_)
 obtain⟨z6,hz7,h⟩:=bnd h
 refine Cj (l:=[9,13]) (by kernel_rfl) (by simp) ?_
 intro i hi; simp only [Ct,List.not_mem_nil,or_false] at hi
 rcases hi with rfl | rfl
 ·
  refine⟨_,rfl,?_⟩
  refine vqV (caV call26) (λw hw=>jj (Γ:=Gh.all w) (ho8_2.mono hw.sat.le_all) ho7_2 q.c_self ho0_2 (Sat.all w) hz7) (k:=?_)
  refine C0 (nxV (bo_ [0,0,1,1] gR h05) λk=>?_)
  refine hV 10 k (q:=moV) (k:=hV 11 k (q:=exV) (k:=hV 12 k (q:=exV) (k:=wl_ 13 rfl ?_)))
  refine alV DO λg8=>?_
  refine C0 (nxV (bo_ [1,1,2,2] gR h05) λk=>?_)
  refine wl_ 14 rfl (stV 0 (.agg (Dot.cs z6.1).toArray) (Dot.cs z6.1).toArray DA (k:=?_))
  refine C0 (nxV (bo_ [1,1,2,2] gR h05) λk=>?_)
  refine hV 15 k (q:=aoV) (k:=?_)
  refine Ca (by kernel_rfl) ?_
  change WC _ _ _ _ _ _
  refine C1 (BZ (mV (k:=sV bO (k:=BX ?_))))
  refine ciV h (λhb9 h=>?_) (λhb9 h=>?_)
  ·
   refine BZ (sV (cT (v:=.agg #[ii 0,ii 0,.slice none 0 0,.bool false,.string ByteArray.empty]) rfl (λw=>by kernel_rfl)) (k:=mV (k:=stV 5 (.agg #[ii 0,ii 0,.slice none 0 0,.bool false,.string ByteArray.empty]) #[ii 0,ii 0,.slice none 0 0,.bool false,.string ByteArray.empty] Dr (k:=aV (k:=BX ?_)))))
   refine C2 ?_
   intro w hw
   have hw:=hw.fold (is:=[1,1,1,1]) rfl hrow_2
   obtain⟨hk11,h⟩:=ag h
   cases h
   subst hF
   exact⟨[.agg #[ii 0,ii 0,.slice none 0 0,.bool false,.string ByteArray.empty],ii z6.2],(da (i:=2) (us:=[ii 0,ii 0,.slice none 0 0,.bool false,.string ByteArray.empty]) hw rfl Ds Dr (by kernel_rfl) rfl (ie (by kernel_rfl) db)),aM (is:=[0,2]) (by kernel_rfl) hw rfl ⟨rowq,rowdk0,none,0,rfl,rfl,hq,hdk0,⟨iV,iV,nilV,(show (ByteArray.empty:ByteArray).size≤lim by decide)⟩,(dY hk11),trivial⟩⟩
  refine C4 (wc_ (BZ (mV (k:=sV (ldaV 0 (Dot.cs z6.1) Dz DA) (k:=mV (k:=mV (k:=mV (k:=?_))))))))
  refine sV (aR (v:=.agg #[ii z6.1.s,ii z6.1.n,.slice Apast past.length cpast,.bool gone,.string val]) rfl (xt rfl rfl rfl rfl) (λw=>by kernel_rfl)) (k:=?_)
  refine bsV #[ii z6.1.s,ii z6.1.n,.slice Apast past.length cpast,.bool gone,.string val] 37 λg12=>?_
  refine sV (aR (v:=.agg #[.string key,.slice (some ⟨g12,0,none⟩) 1 1]) rfl (ib rfl rfl) (λw=>by kernel_rfl)) (k:=?_)
  refine alV Dt λg13=>?_
  refine stV 0 (.agg #[.string key,.slice (some ⟨g12,0,none⟩) 1 1]) #[.string key,.slice (some ⟨g12,0,none⟩) 1 1] Du (k:=BX (C1 (BZ (mV (k:=sV (ldaV 0 [.string key,.slice (some ⟨g12,0,none⟩) 1 1] Dv Du) (k:=sV (aR (v:=.agg #[.string key,.slice (some ⟨g12,0,none⟩) 1 1]) rfl (jy rfl) (λw=>by kernel_rfl)) (k:=sV (eD rfl rfl (λw=>mkif DC w)) (k:=?_))))))))
  obtain⟨hk14,h⟩:=ag h
  obtain⟨hk15,h⟩:=ag h
  have ho16:Own verT Γ 37 [(g12,.cells #[ii z6.1.s,ii z6.1.n,.slice Apast past.length cpast,.bool gone,.string val] 37 (0,0))] (some ⟨g12,0,none⟩) 1 [(⟨(⟨z6.1.s,z6.1.n⟩:Dot),past,gone,val⟩:Ver)]:=C7 (T:=verT) (ys:=[(⟨(⟨z6.1.s,z6.1.n⟩:Dot),past,gone,val⟩:Ver)]) [[ii z6.1.s,ii z6.1.n,.slice Apast past.length cpast,.bool gone,.string val]] rfl (show 1≤lim by decide) ⟨⟨Apast,cpast,rfl,⟨(dY hk14),(dY hk15),⟨hpastc,hpast⟩,hval⟩⟩,trivial⟩
  have hc21:=ho16.capz
  refine seR 1 [_,_,_,_,_,_,_,_,_] λΓ17 hl18 hr19=>?_
  have hs20:=ho16.sl hl18 hr19
  refine foR [3,3,3,3] hrow_2 [_,_,_,_,_,_] ?_
  obtain⟨z23,hz24,h⟩:=bnd h
  refine ecV [0,4] (caV call27) (λw hp=>ju (hq.mono hl18) (⟨(⟨key,[(⟨(⟨z6.1.s,z6.1.n⟩:Dot),past,gone,val⟩:Ver)]⟩:Rec)⟩:ar) ⟨hkey,⟨hc21,hs20⟩⟩ true (hdk0.mono hl18) hp hz24) ?_
  rintro Γ25 _ _ hl26 ⟨row29,row31,rfl,rfl,hr30,hr32,hr33,_⟩
  refine cwV 53 [_,_,_,_,_,_] (aV (k:=BX (BZ (mV (k:=sV bO (k:=BX ?_))))))
  refine ciV h (λhb34 h=>?_) (λhb34 h=>?_)
  ·
   refine BZ (sV (cT (v:=.agg #[ii 0,ii 0,.slice none 0 0,.bool false,.string ByteArray.empty]) rfl (λw=>by kernel_rfl)) (k:=mV (k:=stV 5 (.agg #[ii 0,ii 0,.slice none 0 0,.bool false,.string ByteArray.empty]) #[ii 0,ii 0,.slice none 0 0,.bool false,.string ByteArray.empty] Dr (k:=aV (k:=BX ?_)))))
   refine C2 ?_
   intro w hw
   cases h
   subst hF
   exact⟨[.agg #[ii 0,ii 0,.slice none 0 0,.bool false,.string ByteArray.empty],ii z23.2.2],(da (i:=5) (us:=[ii 0,ii 0,.slice none 0 0,.bool false,.string ByteArray.empty]) hw rfl Ds Dr (by kernel_rfl) rfl (ie (by kernel_rfl) db)),aM (is:=[0,0]) (by kernel_rfl) hw rfl ⟨row29,row31,none,0,rfl,rfl,hr30,hr32,⟨iV,iV,nilV,(show (ByteArray.empty:ByteArray).size≤lim by decide)⟩,hr33,trivial⟩⟩
  refine C4 (wc_ (BZ (mV (k:=?_))))
  obtain⟨z35,hz36,h⟩:=bnd h
  refine ecV [0] (caV call9) (λw hp=>eI hr30 hp hz36) ?_
  rintro Γ37 _ _ hl38 ⟨A41,c42,rfl,rfl,hr43,_⟩
  refine cwV 60 [_,_,_,_,_,_] (mV (k:=sV exV (k:=sV exV (k:=?_))))
  refine alV Dt λg44=>?_
  refine stV 0 (.agg (Rec.cs A41 c42 z35.1).toArray) (Rec.cs A41 c42 z35.1).toArray Du (k:=aV (k:=BX (BZ (sV (q_fl 1 bG) (k:=sV (ldV 0 DB) (k:=?_))))))
  obtain⟨hk45,h⟩:=ag h
  refine sV (aO (i:=0) Dy Dr rfl rfl rfl (Cl hk45) (hr43.2.2.some_ (Cl hk45))) (k:=?_)
  obtain⟨A46,c47,hx48⟩:=hr43.2.2.verT_at 0
  refine sV (ik (c:=0) (vs:=(Ver.cs A46 c47 (gt z35.1.vers 0))) (hx48 (Cl hk45)).2 rfl Ds Dr rfl rfl rfl) (k:=stV 6 (.agg (Ver.cs A46 c47 (gt z35.1.vers 0)).toArray) (Ver.cs A46 c47 (gt z35.1.vers 0)).toArray Dr (k:=aV (k:=BX ?_)))
  refine C2 ?_
  intro w hw
  cases h
  subst hF
  exact⟨[.agg (Ver.cs A46 c47 (gt z35.1.vers 0)).toArray,ii 0],(da (i:=6) (us:=(Ver.cs A46 c47 (gt z35.1.vers 0))) hw rfl Ds Dr (by kernel_rfl) rfl (ie (by kernel_rfl) db)),aM (is:=[1,1]) (by kernel_rfl) hw rfl ⟨row29,row31,A46,c47,rfl,rfl,(hr30.mono hl38),(hr32.mono hl38),(hx48 (Cl hk45)).1,iV,trivial⟩⟩
 refine⟨_,rfl,?_⟩
 refine alV DO λg8=>?_
 refine C0 (nxV (bo_ [1,1,2,2] gR h05) λk=>?_)
 refine wl_ 9 rfl (vqV (caV call26) (λw hw=>jj (Γ:=Gh.all w) (ho8_2.mono hw.sat.le_all) ho7_2 q.c_self ho0_2 (Sat.all w) hz7) (k:=?_))
 refine C0 (nxV (bo_ [1,1,2,2] gR h05) λk=>?_)
 refine hV 10 k (q:=moV) (k:=hV 11 k (q:=exV) (k:=hV 12 k (q:=exV) (k:=wl_ 14 rfl (stV 0 (.agg (Dot.cs z6.1).toArray) (Dot.cs z6.1).toArray DA (k:=?_)))))
 refine C0 (nxV (bo_ [1,1,2,2] gR h05) λk=>?_)
 refine hV 15 k (q:=aoV) (k:=?_)
 refine Ca (by kernel_rfl) ?_
 change WC _ _ _ _ _ _
 refine C1 (BZ (mV (k:=sV bO (k:=BX ?_))))
 refine ciV h (λhb9 h=>?_) (λhb9 h=>?_)
 ·
  refine BZ (sV (cT (v:=.agg #[ii 0,ii 0,.slice none 0 0,.bool false,.string ByteArray.empty]) rfl (λw=>by kernel_rfl)) (k:=mV (k:=stV 5 (.agg #[ii 0,ii 0,.slice none 0 0,.bool false,.string ByteArray.empty]) #[ii 0,ii 0,.slice none 0 0,.bool false,.string ByteArray.empty] Dr (k:=aV (k:=BX ?_)))))
  refine C2 ?_
  intro w hw
  have hw:=hw.fold (is:=[1,1,1,1]) rfl hrow_2
  obtain⟨hk11,h⟩:=ag h
  cases h
  subst hF
  exact⟨[.agg #[ii 0,ii 0,.slice none 0 0,.bool false,.string ByteArray.empty],ii z6.2],(da (i:=2) (us:=[ii 0,ii 0,.slice none 0 0,.bool false,.string ByteArray.empty]) hw rfl Ds Dr (by kernel_rfl) rfl (ie (by kernel_rfl) db)),aM (is:=[0,2]) (by kernel_rfl) hw rfl ⟨rowq,rowdk0,none,0,rfl,rfl,hq,hdk0,⟨iV,iV,nilV,(show (ByteArray.empty:ByteArray).size≤lim by decide)⟩,(dY hk11),trivial⟩⟩
 refine C4 (wc_ (BZ (mV (k:=sV (ldaV 0 (Dot.cs z6.1) Dz DA) (k:=mV (k:=mV (k:=mV (k:=?_))))))))
 refine sV (aR (v:=.agg #[ii z6.1.s,ii z6.1.n,.slice Apast past.length cpast,.bool gone,.string val]) rfl (xt rfl rfl rfl rfl) (λw=>by kernel_rfl)) (k:=?_)
 refine bsV #[ii z6.1.s,ii z6.1.n,.slice Apast past.length cpast,.bool gone,.string val] 37 λg12=>?_
 refine sV (aR (v:=.agg #[.string key,.slice (some ⟨g12,0,none⟩) 1 1]) rfl (ib rfl rfl) (λw=>by kernel_rfl)) (k:=?_)
 refine alV Dt λg13=>?_
 refine stV 0 (.agg #[.string key,.slice (some ⟨g12,0,none⟩) 1 1]) #[.string key,.slice (some ⟨g12,0,none⟩) 1 1] Du (k:=BX (C1 (BZ (mV (k:=sV (ldaV 0 [.string key,.slice (some ⟨g12,0,none⟩) 1 1] Dv Du) (k:=sV (aR (v:=.agg #[.string key,.slice (some ⟨g12,0,none⟩) 1 1]) rfl (jy rfl) (λw=>by kernel_rfl)) (k:=sV (eD rfl rfl (λw=>mkif DC w)) (k:=?_))))))))
 obtain⟨hk14,h⟩:=ag h
 obtain⟨hk15,h⟩:=ag h
 have ho16:Own verT Γ 37 [(g12,.cells #[ii z6.1.s,ii z6.1.n,.slice Apast past.length cpast,.bool gone,.string val] 37 (0,0))] (some ⟨g12,0,none⟩) 1 [(⟨(⟨z6.1.s,z6.1.n⟩:Dot),past,gone,val⟩:Ver)]:=C7 (T:=verT) (ys:=[(⟨(⟨z6.1.s,z6.1.n⟩:Dot),past,gone,val⟩:Ver)]) [[ii z6.1.s,ii z6.1.n,.slice Apast past.length cpast,.bool gone,.string val]] rfl (show 1≤lim by decide) ⟨⟨Apast,cpast,rfl,⟨(dY hk14),(dY hk15),⟨hpastc,hpast⟩,hval⟩⟩,trivial⟩
 have hc21:=ho16.capz
 refine seR 1 [_,_,_,_,_,_,_,_,_] λΓ17 hl18 hr19=>?_
 have hs20:=ho16.sl hl18 hr19
 refine foR [3,3,3,3] hrow_2 [_,_,_,_,_,_] ?_
 obtain⟨z23,hz24,h⟩:=bnd h
 refine ecV [0,4] (caV call27) (λw hp=>ju (hq.mono hl18) (⟨(⟨key,[(⟨(⟨z6.1.s,z6.1.n⟩:Dot),past,gone,val⟩:Ver)]⟩:Rec)⟩:ar) ⟨hkey,⟨hc21,hs20⟩⟩ true (hdk0.mono hl18) hp hz24) ?_
 rintro Γ25 _ _ hl26 ⟨row29,row31,rfl,rfl,hr30,hr32,hr33,_⟩
 refine cwV 53 [_,_,_,_,_,_] (aV (k:=BX (BZ (mV (k:=sV bO (k:=BX ?_))))))
 refine ciV h (λhb34 h=>?_) (λhb34 h=>?_)
 ·
  refine BZ (sV (cT (v:=.agg #[ii 0,ii 0,.slice none 0 0,.bool false,.string ByteArray.empty]) rfl (λw=>by kernel_rfl)) (k:=mV (k:=stV 5 (.agg #[ii 0,ii 0,.slice none 0 0,.bool false,.string ByteArray.empty]) #[ii 0,ii 0,.slice none 0 0,.bool false,.string ByteArray.empty] Dr (k:=aV (k:=BX ?_)))))
  refine C2 ?_
  intro w hw
  cases h
  subst hF
  exact⟨[.agg #[ii 0,ii 0,.slice none 0 0,.bool false,.string ByteArray.empty],ii z23.2.2],(da (i:=5) (us:=[ii 0,ii 0,.slice none 0 0,.bool false,.string ByteArray.empty]) hw rfl Ds Dr (by kernel_rfl) rfl (ie (by kernel_rfl) db)),aM (is:=[0,0]) (by kernel_rfl) hw rfl ⟨row29,row31,none,0,rfl,rfl,hr30,hr32,⟨iV,iV,nilV,(show (ByteArray.empty:ByteArray).size≤lim by decide)⟩,hr33,trivial⟩⟩
 refine C4 (wc_ (BZ (mV (k:=?_))))
 obtain⟨z35,hz36,h⟩:=bnd h
 refine ecV [0] (caV call9) (λw hp=>eI hr30 hp hz36) ?_
 rintro Γ37 _ _ hl38 ⟨A41,c42,rfl,rfl,hr43,_⟩
 refine cwV 60 [_,_,_,_,_,_] (mV (k:=sV exV (k:=sV exV (k:=?_))))
 refine alV Dt λg44=>?_
 refine stV 0 (.agg (Rec.cs A41 c42 z35.1).toArray) (Rec.cs A41 c42 z35.1).toArray Du (k:=aV (k:=BX (BZ (sV (q_fl 1 bG) (k:=sV (ldV 0 DB) (k:=?_))))))
 obtain⟨hk45,h⟩:=ag h
 refine sV (aO (i:=0) Dy Dr rfl rfl rfl (Cl hk45) (hr43.2.2.some_ (Cl hk45))) (k:=?_)
 obtain⟨A46,c47,hx48⟩:=hr43.2.2.verT_at 0
 refine sV (ik (c:=0) (vs:=(Ver.cs A46 c47 (gt z35.1.vers 0))) (hx48 (Cl hk45)).2 rfl Ds Dr rfl rfl rfl) (k:=stV 6 (.agg (Ver.cs A46 c47 (gt z35.1.vers 0)).toArray) (Ver.cs A46 c47 (gt z35.1.vers 0)).toArray Dr (k:=aV (k:=BX ?_)))
 refine C2 ?_
 intro w hw
 cases h
 subst hF
 exact⟨[.agg (Ver.cs A46 c47 (gt z35.1.vers 0)).toArray,ii 0],(da (i:=6) (us:=(Ver.cs A46 c47 (gt z35.1.vers 0))) hw rfl Ds Dr (by kernel_rfl) rfl (ie (by kernel_rfl) db)),aM (is:=[1,1]) (by kernel_rfl) hw rfl ⟨row29,row31,A46,c47,rfl,rfl,(hr30.mono hl38),(hr32.mono hl38),(hx48 (Cl hk45)).1,iV,trivial⟩⟩
abbrev pr(r:List UInt8)(U:List Rowb)(Γ:Gh)(v:Value):Prop := ∃(A0:Option Addr), ∃(c0:Nat), ∃(row0:Rowb),v = .slice A0 r.length c0∧U = [row0]∧Own ay Γ 5 row0 A0 c0 r∧True
theorem pg{Ab:Option Addr}{cb:Nat}{rowb:Rowb}{b:List UInt8}(hb:Own ay Γ 5 rowb Ab cb b){Al:Option Addr}{cl:Nat}{l:List Int}(hl:Sl intT Γ Al l)(hlc:l.length≤cl)(hp:Pre [rowb] Γ w0){r:List UInt8}(h:eO b l=some r):Calls Tryz.prog 87 #[.slice Ab b.length cb,.slice Al l.length cl] w0 (Outc Γ [rowb] w0 (pr r)):=by
 refine goV [4] func87 ntmps87 results87 hp λF hF=>?_
 refine BZ (aV (k:=BX (BZ (mV (k:=mV (k:=sV (ab rfl CW) (k:=?_)))))))
 refine bsV #[ii (l.length:Int)] 2 λg1=>?_
 have ho2:Own intT Γ 2 [(g1,.cells #[ii (l.length:Int)] 2 (0,0))] (some ⟨g1,0,none⟩) 1 [(l.length:Int)]:=C7 (T:=intT) (ys:=[(l.length:Int)]) [[ii (l.length:Int)]] rfl (show 1≤lim by decide) ⟨⟨rfl,(jT hl.le)⟩,trivial⟩
 have hc7:=ho2.capz
 refine seR 0 [_,_] λΓ3 hl4 hr5=>?_
 have hs6:=ho2.sl hl4 hr5
 obtain⟨z8,hz9,h⟩:=bnd h
 refine ecV [1] (caV call86) (λw hp=>dA (hb.mono hl4) hs6 hc7 hp hz9) ?_
 rintro Γ10 _ _ hl11 ⟨A14,c15,row16,rfl,rfl,hr17,_⟩
 refine cwV 11 [_,_] (aV (k:=BX (C1 (BZ (mV (k:=sV (ab rfl CW) (k:=mV (k:=?_))))))))
 refine BX (C5 ?_)
 refine Cc h (λ(i26:Nat) (b_20:List UInt8) σ w => ∃(Γ18:Gh), ∃(A21:Option Addr), ∃(c22:Nat), ∃(row23:Rowb),slots σ [(0,.slice A21 b_20.length c22),(12,.slice Al l.length cl),(13,ii (l.length:Int)),(14,ii (i26:Int))]∧CC F Γ18 [row23] w∧Gh.le Γ10 Γ18∧Own ay Γ18 5 row23 A21 c22 b_20∧True) ?_ ?_
 ·
  intro w hw
  exact⟨Γ10,A14,c15,row16,slK,(hw.on [0]),gR,hr17,trivial⟩
 rintro f25 i26 b_20 σ w hi27 hlt28 hge29 ⟨Γ18,A21,c22,row23,hsl,hw,hl19,ho24,-⟩
 refine slV hsl hw [_] ?_; clear hw hsl
 refine BZ (sV aQ (k:=BX (C1 ?_)))
 refine coV (λhb30=>?_) (λhb30=>?_)
 ·
  have hl31:=ilt hb30
  have h:=hlt28 hl31
  refine C4 (wc_ (C1 (C5 (BZ (sV (aO (i:=i26) CW CX rfl rfl rfl hl31 ((hl.mono ((hl4.trans hl11).trans hl19)).some_ hl31)) (k:=sV (q_ld (c:=0) (v:=ii (gt l i26)) ((hl.mono ((hl4.trans hl11).trans hl19)).intT_at hl31).2 rfl CY rfl rfl) (k:=aV (k:=?_))))))))
  refine BX ?_
  refine C3 ?_
  refine mV (k:=mV (k:=?_))
  refine bsV #[ii (gt l i26)] 2 λg32=>?_
  have ho33:Own intT Γ18 2 [(g32,.cells #[ii (gt l i26)] 2 (0,0))] (some ⟨g32,0,none⟩) 1 [(gt l i26)]:=C7 (T:=intT) (ys:=[(gt l i26)]) [[ii (gt l i26)]] rfl (show 1≤lim by decide) ⟨⟨rfl,((hl.mono ((hl4.trans hl11).trans hl19)).intT_at hl31).1⟩,trivial⟩
  have hc38:=ho33.capz
  refine seR 0 [_,_] λΓ34 hl35 hr36=>?_
  have hs37:=ho33.sl hl35 hr36
  obtain⟨z39,hz40,h⟩:=bnd h
  refine ecV [1] (caV call86) (λw hp=>dA (ho24.mono hl35) hs37 hc38 hp hz40) ?_
  rintro Γ41 _ _ hl42 ⟨A45,c46,row47,rfl,rfl,hr48,_⟩
  refine cwV 21 [_,_] (aV (k:=?_))
  refine C0 ?_
  change WC _ _ _ _ _ _
  refine C3 ?_
  refine sV (aw rfl rfl rfl (aA hl31 (hl.mono ((hl4.trans hl11).trans hl19)).le)) (k:=mV (k:=?_))
  exact C0 λw hw=>⟨hl31,z39,h,Γ41,A45,c46,row47,slK,(hw.on [0]),((hl19.trans hl35).trans hl42),hr48,trivial⟩
 have h:=hge29 (ige hb30)
 refine C8 ?_
 change WC _ _ _ _ _ _
 refine BZ (mV (k:=aV (k:=BX ?_)))
 exact C2 λw hw=>re_ r [0] h hF hw ⟨A21,c22,row23,rfl,rfl,ho24,trivial⟩
abbrev pN(r:List UInt8)(U:List Rowb)(Γ:Gh)(v:Value):Prop := ∃(A0:Option Addr), ∃(c0:Nat), ∃(row0:Rowb),v = .slice A0 r.length c0∧U = [row0]∧Own ay Γ 5 row0 A0 c0 r∧True
theorem po{Ax_0:Option Addr}{cx_0:Nat}{Ax_2:Option Addr}{cx_2:Nat}(x_:ae)(hx_:ae.fits Γ Ax_0 cx_0 Ax_2 cx_2 x_)(hp:Pre [] Γ w0){r:List UInt8}(h:dH x_=some r):Calls Tryz.prog 61 #[.iface 86 (.agg (ae.cs Ax_0 cx_0 Ax_2 cx_2 x_).toArray)] w0 (Outc Γ [] w0 (pN r)):=by
 refine goV [2] func61 ntmps61 results61 hp λF hF=>?_
 refine BZ (aV (k:=BX (C1 (BZ (mU (v:=.iface 86 (.agg (ae.cs Ax_0 cx_0 Ax_2 cx_2 x_).toArray)) (k:=BX (C5 ?_)))))))
 refine BZ (sV (aI DC DG rfl rfl rfl) (k:=sV exV (k:=sV exV (k:=BX ?_))))
 refine Cb (b:=false) (by kernel_rfl) rfl ?_
 refine BZ (sV (df DD rfl rfl) (k:=sV exV (k:=sV exV (k:=BX ?_))))
 refine Ch (b:=true) (by kernel_rfl) rfl ?_
 refine BZ ?_
 refine alV DH λg1=>?_
 refine stV 0 (.agg (ae.cs Ax_0 cx_0 Ax_2 cx_2 x_).toArray) (ae.cs Ax_0 cx_0 Ax_2 cx_2 x_).toArray sizeOf86 (k:=BX (C1 ?_))
 refine leV λh02=>?_
 refine e7 (CC F Γ [[(g1,.cells (ae.cs Ax_0 cx_0 Ax_2 cx_2 x_).toArray 86 (0,0))]]) (bo_ [0] gR h02) λk=>?_
 change WH _ _ _ _ (CC F Γ [_]) _ 9 _ _
 refine hV 2 k (q:=q_fl 0 mK) (k:=hV 3 k (q:=ldV 0 CZ) (k:=hV 5 k (q:=q_fl 1 jg) (k:=hV 6 k (q:=ldaV 0 (Rec.cs Ax_2 cx_2 x_.r) Dv Du) (k:=wl_ 0 rfl ?_))))
 refine bsV #[ii 2] 2 λg3=>?_
 refine C0 (nxV (bo_ [1] gR h02) λk=>?_)
 refine wl_ 1 rfl ?_
 have ho4:Own intT Γ 2 [(g3,.cells #[ii 2] 2 (0,0))] (some ⟨g3,0,none⟩) 1 [2]:=C7 (T:=intT) (ys:=[2]) [[ii 2]] rfl (show 1≤lim by decide) ⟨⟨rfl,iV⟩,trivial⟩
 have hc9:=ho4.capz
 refine seR 0 [_,_] λΓ5 hl6 hr7=>?_
 have hs8:=ho4.sl hl6 hr7
 refine WR.sub (λw hw=>hw.pad) ?_
 obtain⟨z10,hz11,h⟩:=bnd h
 refine ecV [0] (caV call86) (λw hp=>dA (Own.nil ay Γ5 5) hs8 hc9 hp hz11) ?_
 rintro Γ12 _ _ hl13 ⟨A16,c17,row18,rfl,rfl,hr19,_⟩
 refine cwV 25 [_,_,_] ?_
 refine C0 (nxV (bo_ [2] (hl6.trans hl13) h02) λk=>?_)
 refine wl_ 4 rfl ?_
 obtain⟨z20,hz21,h⟩:=bnd h
 refine ecV [0] (caV call87) (λw hp=>pg hr19 (hx_.1.2.mono (hl6.trans hl13)) hx_.1.1 hp hz21) ?_
 rintro Γ22 _ _ hl23 ⟨A26,c27,row28,rfl,rfl,hr29,_⟩
 refine cwV 28 [_,_,_] ?_
 refine C0 (nxV (bo_ [2] ((hl6.trans hl13).trans hl23) h02) λk=>?_)
 refine wl_ 7 rfl ?_
 obtain⟨z30,hz31,h⟩:=bnd h
 refine ecV [0] (caV call85) (λw hp=>p5 hr29 x_.r ⟨hx_.2.1,⟨hx_.2.2.1,(hx_.2.2.2.mono ((hl6.trans hl13).trans hl23))⟩⟩ hp hz31) ?_
 rintro Γ32 _ _ hl33 ⟨A36,c37,row38,rfl,rfl,hr39,_⟩
 refine cwV 31 [_,_,_] ?_
 refine C0 (nxV (bo_ [2] (((hl6.trans hl13).trans hl23).trans hl33) h02) λk=>?_)
 refine hV 8 k (q:=aoV) (k:=?_)
 refine Ca (by kernel_rfl) ?_
 change WC _ _ _ _ _ _
 exact C2 λw hw=>re_ r [0] h hF hw ⟨A36,c37,row38,rfl,rfl,hr39,trivial⟩
abbrev l1(gq:Nat)(eq:Nat×Nat)(edk0:Nat)(r:a6×a7×Int)(U:List Rowb)(Γ:Gh)(v:Value):Prop := ∃(rowq':Rowb), ∃(rowdk0':Rowb),v = .int .i64 r.2.2∧U = [rowq',rowdk0']∧a6.ob eq Γ gq rowq' r.1∧a7.ob edk0 Γ eq.2 rowdk0' r.2.1∧I64 r.2.2∧True
theorem kV{gq:Nat}{eq:Nat×Nat}{rowq:Rowb}{q:a6}(hq:a6.ob eq Γ gq rowq q){Ax_0:Option Addr}{cx_0:Nat}{Ax_2:Option Addr}{cx_2:Nat}(x_:ae)(hx_:ae.fits Γ Ax_0 cx_0 Ax_2 cx_2 x_)(sync:Bool){edk0:Nat}{rowdk0:Rowb}{dk0:a7}(hdk0:a7.ob edk0 Γ eq.2 rowdk0 dk0)(hp:Pre [rowq,rowdk0] Γ w0){r:a6×a7×Int}(h:b4 q x_ sync dk0=some r):Calls Tryz.prog 27 #[(pq gq),.iface 86 (.agg (ae.cs Ax_0 cx_0 Ax_2 cx_2 x_).toArray),.bool sync] w0 (Outc Γ [rowq,rowdk0] w0 (l1 gq eq edk0 r)):=by
 refine goV [6] func27 ntmps27 results27 hp λF hF=>?_
 refine BZ (aV (k:=BX (C1 (BZ (mV (k:=mU (v:=.iface 86 (.agg (ae.cs Ax_0 cx_0 Ax_2 cx_2 x_).toArray)) (k:=?_)))))))
 obtain⟨z1,hz2,h⟩:=bnd h
 refine vqV (caV E0) (λw hw=>ck (Γ:=Gh.all w) (hq.mono hw.sat.le_all) (hw.ra 0 rfl) x_ (ae.fits_mono hx_ hw.sat.le_all) (Sat.all w) hz2) (k:=sV aX (k:=BX ?_))
 refine ciV h (λhb3 h=>?_) (λhb3 h=>?_)
 ·
  refine BZ (aV (k:=BX ?_))
  exact C2 λw hw=>re_ r [0,0] h hF hw ⟨rowq,rowdk0,rfl,rfl,hq,hdk0,iV,trivial⟩
 refine C4 (wc_ (BZ (mU (v:=.iface 86 (.agg (ae.cs Ax_0 cx_0 Ax_2 cx_2 x_).toArray)) (k:=?_))))
 obtain⟨z4,hz5,h⟩:=bnd h
 refine ecV [] (caV call61) (λw hp=>po x_ hx_ hp hz5) ?_
 rintro Γ6 _ _ hl7 ⟨A10,c11,row12,rfl,rfl,hr13,_⟩
 refine cwV 16 [_,_,_] (aV (k:=BX (C1 (BZ (mV (k:=sV nlV (k:=sV (q_fl 6 gW) (k:=?_))))))))
 obtain⟨A2_14,c2_14,y5_14,g6_14,r6_14,A7_14,c7_14,A8_14,A9_14,c9_14,r9_14,m11_14,r11_14,A12_14,c12_14,hrow_14,ho0_14,ho1_14,ho2_14,ho3_14,ho4_14,ho5_14,ho6_14,ho7_14,ho8_14,ho9_14,ho10_14,ho11_14,ho12_14,ho13_14,ho14_14,-⟩:=(hq.mono hl7)
 refine ufR 1 hrow_14 [_,_,_,_,_,_] ?_
 refine sV (ldV 0 Di) (k:=mV (k:=?_))
 have hc19:=hr13.capz
 refine seR 4 [_,_,_,_,_,_] λΓ15 hl16 hr17=>?_
 have hs18:=hr13.sl hl16 hr17
 obtain⟨z20,hz21,h⟩:=bnd h
 refine ecV [1,4] (caV call62) (λw hp=>dq (ho6_14.mono hl16) hs18 hc19 (hdk0.mono (hl7.trans hl16)) hp hz21) ?_
 rintro Γ22 _ _ hl23 ⟨row26,row28,rfl,rfl,hr27,hr29,hr30,_⟩
 refine cwV 22 [_,_,_,_,_,_] (aV (k:=BX (BZ (mV (k:=sV bO (k:=BX ?_))))))
 refine ciV h (λhb31 h=>?_) (λhb31 h=>?_)
 ·
  refine BZ (mV (k:=aV (k:=BX ?_)))
  refine C2 ?_
  intro w hw
  obtain⟨row_32,hrow_32,hob_32⟩:∃rw:Rowb,rw=([[(gq,.cells #[ii q.c_self,ii q.c_sites,.slice A2_14 q.c_links.length c2_14,ii q.c_cap,ii q.c_base,y5_14,(pq g6_14),.slice A7_14 q.applied.length c7_14,.pointer A8_14,.slice A9_14 q.list.length c9_14,ii q.next,.map (some m11_14),.slice A12_14 q.members.length c12_14] eq.1 (0,0))],row26,r9_14,r11_14]:List Rowb).flatten∧a6.ob eq Γ22 gq rw (⟨q.c_self,q.c_sites,q.c_links,q.c_cap,q.c_base,z20.1,q.applied,q.under,q.list,q.next,q.gaps,q.members⟩:a6):=⟨_,rfl,A2_14,c2_14,(y5_14),g6_14,row26,A7_14,c7_14,A8_14,A9_14,c9_14,r9_14,m11_14,r11_14,A12_14,c12_14,rfl,ho0_14,ho1_14,ho2_14,(ho3_14.mono (hl16.trans hl23)),ho4_14,ho5_14,hr27,ho7_14,(ho8_14.mono (hl16.trans hl23)),(ho9_14.mono (hl16.trans hl23)),(ho10_14.mono (hl16.trans hl23)),ho11_14,(ho12_14.mono (hl16.trans hl23)),ho13_14,(ho14_14.mono (hl16.trans hl23)),trivial⟩
  have hw:=hw.fold (is:=[2,0,1,1]) rfl hrow_32
  cases h
  subst hF
  exact aM (is:=[0,0]) (by kernel_rfl) hw rfl ⟨row_32,row28,rfl,rfl,hob_32,hr29,hr30,trivial⟩
 refine C4 (wc_ ?_)
 obtain⟨row_33,hrow_33,hob_33⟩:∃rw:Rowb,rw=([[(gq,.cells #[ii q.c_self,ii q.c_sites,.slice A2_14 q.c_links.length c2_14,ii q.c_cap,ii q.c_base,y5_14,(pq g6_14),.slice A7_14 q.applied.length c7_14,.pointer A8_14,.slice A9_14 q.list.length c9_14,ii q.next,.map (some m11_14),.slice A12_14 q.members.length c12_14] eq.1 (0,0))],row26,r9_14,r11_14]:List Rowb).flatten∧a6.ob eq Γ22 gq rw (⟨q.c_self,q.c_sites,q.c_links,q.c_cap,q.c_base,z20.1,q.applied,q.under,q.list,q.next,q.gaps,q.members⟩:a6):=⟨_,rfl,A2_14,c2_14,(y5_14),g6_14,row26,A7_14,c7_14,A8_14,A9_14,c9_14,r9_14,m11_14,r11_14,A12_14,c12_14,rfl,ho0_14,ho1_14,ho2_14,(ho3_14.mono (hl16.trans hl23)),ho4_14,ho5_14,hr27,ho7_14,(ho8_14.mono (hl16.trans hl23)),(ho9_14.mono (hl16.trans hl23)),(ho10_14.mono (hl16.trans hl23)),ho11_14,(ho12_14.mono (hl16.trans hl23)),ho13_14,(ho14_14.mono (hl16.trans hl23)),trivial⟩
 refine foC [2,0,1,1] hrow_33 [_,_,_] ?_
 refine Ce (λσ w => ∃(o36:a7), ∃(Γ34:Gh), ∃(row37:Rowb),bL q z4 z20 o36=some r∧slots σ [(0,(pq gq)),(7,.slice A10 z4.length c11)]∧CC F Γ34 [row_33,row37] w∧Gh.le Γ22 Γ34∧a7.ob edk0 Γ34 eq.2 row37 o36∧True) ?_ ?_
 ·
  refine BZ (mV (k:=BX ?_))
  refine ciV h (λhb39 h=>?_) (λhb39 h=>?_)
  ·
   refine C3 ?_
   refine mV (k:=sV nlV (k:=sV (q_fl 6 gW) (k:=?_)))
   obtain⟨A2_40,c2_40,y5_40,g6_40,r6_40,A7_40,c7_40,A8_40,A9_40,c9_40,r9_40,m11_40,r11_40,A12_40,c12_40,hrow_40,ho0_40,ho1_40,ho2_40,ho3_40,ho4_40,ho5_40,ho6_40,ho7_40,ho8_40,ho9_40,ho10_40,ho11_40,ho12_40,ho13_40,ho14_40,-⟩:=id hob_33
   refine ufR 0 hrow_40 [_,_,_,_,_,_] ?_
   refine sV (ldV 0 Di) (k:=?_)
   obtain⟨z41,hz42,h⟩:=bnd h
   refine ecV [1,3] (caV call63) (λw hp=>ey ho6_40 hr29 hp hz42) ?_
   rintro Γ43 _ _ hl44 ⟨row47,rfl,rfl,hr48,_⟩
   refine cwV 31 [_,_,_,_,_,_] ?_
   refine C0 ?_
   intro w hw
   have hw:=hw.fold (is:=[2,0,1,1]) rfl hrow_40
   exact⟨z41,Γ43,row47,h,slK,(hw.on [0,0]),hl44,hr48,trivial⟩
  exact C4 λw hw=>⟨z20.2.1,Γ22,row28,h,slK,(hw.on [0,0]),gR,hr29,trivial⟩
 rintro σ w ⟨o36,Γ34,row37,h,hsl,hw,hl35,ho38,-⟩
 refine slV hsl hw [_,_] ?_; clear hw hsl
 refine BZ (mV (k:=?_))
 obtain⟨z50,hz51,h⟩:=bnd h
 refine ecV [] (caV call23) (λw hp=>dC (hs18.mono (hl23.trans hl35)) hc19 hp hz51) ?_
 rintro Γ52 _ _ hl53 (⟨ho56,rfl,rfl,_⟩ | ⟨o57,ho56,A58,c59,rfl,rfl,hr60,_⟩ | ⟨o57,ho56,A61,c62,A63,c64,rfl,rfl,hr65,_⟩ | ⟨o57,ho56,rfl,rfl,hr66,_⟩ | ⟨o57,ho56,rfl,rfl,hr67,_⟩)
 ·
  have h:=ak.e_nil ho56 h
  refine cwV 34 [_,_] (mV (k:=sV exV (k:=sV exV (k:=aU (v:=.nilIface) (k:=aV (k:=BX (BZ ?_)))))))
  refine mV (k:=mU (v:=.nilIface) (k:=?_))
  obtain⟨z68,hz69,h⟩:=bnd h
  refine ecV [0] (caV E1) (λw hp=>bq (hob_33.mono (hl35.trans hl53)) hp hz69) ?_
  rintro Γ70 _ _ hl71 ⟨rfl,rfl,_⟩
  refine cwV 39 [_,_] (BX (BZ (aV (k:=BX ?_))))
  exact C2 λw hw=>re_ r [0,0] h hF hw ⟨row_33,row37,rfl,rfl,(hob_33.mono ((hl35.trans hl53).trans hl71)),(ho38.mono (hl53.trans hl71)),iV,trivial⟩
 ·
  have h:=ak.e_queue_issue ho56 h
  refine cwV 34 [_,_] (mV (k:=sV exV (k:=sV exV (k:=aU (v:=.iface 83 (.agg (Rec.cs A58 c59 o57.r).toArray)) (k:=aV (k:=BX (BZ ?_)))))))
  refine mV (k:=mU (v:=.iface 83 (.agg (Rec.cs A58 c59 o57.r).toArray)) (k:=?_))
  obtain⟨z74,hz75,h⟩:=bnd h
  refine ecV [0] (caV E1) (λw hp=>b7 (hob_33.mono (hl35.trans hl53)) o57 hr60 hp hz75) ?_
  rintro Γ76 _ _ hl77 ⟨row80,rfl,rfl,hr81,_⟩
  refine cwV 39 [_,_] (BX (BZ (aV (k:=BX ?_))))
  exact C2 λw hw=>re_ r [0,0] h hF hw ⟨row80,row37,rfl,rfl,hr81,(ho38.mono (hl53.trans hl77)),iV,trivial⟩
 ·
  have h:=ak.e_queue_did ho56 h
  refine cwV 34 [_,_] (mV (k:=sV exV (k:=sV exV (k:=aU (v:=.iface 86 (.agg (ae.cs A61 c62 A63 c64 o57).toArray)) (k:=aV (k:=BX (BZ ?_)))))))
  refine mV (k:=mU (v:=.iface 86 (.agg (ae.cs A61 c62 A63 c64 o57).toArray)) (k:=?_))
  obtain⟨z82,hz83,h⟩:=bnd h
  refine ecV [0] (caV E1) (λw hp=>b9 (hob_33.mono (hl35.trans hl53)) o57 hr65 hp hz83) ?_
  rintro Γ84 _ _ hl85 ⟨row88,rfl,rfl,hr89,_⟩
  refine cwV 39 [_,_] (BX (BZ (aV (k:=BX ?_))))
  exact C2 λw hw=>re_ r [0,0] h hF hw ⟨row88,row37,rfl,rfl,hr89,(ho38.mono (hl53.trans hl85)),iV,trivial⟩
 ·
  have h:=ak.e_queue_ack ho56 h
  refine cwV 34 [_,_] (mV (k:=sV exV (k:=sV exV (k:=aU (v:=.iface 95 (.agg (al.cs o57).toArray)) (k:=aV (k:=BX (BZ ?_)))))))
  refine mV (k:=mU (v:=.iface 95 (.agg (al.cs o57).toArray)) (k:=?_))
  obtain⟨z90,hz91,h⟩:=bnd h
  refine ecV [0] (caV E1) (λw hp=>bb (hob_33.mono (hl35.trans hl53)) o57 hr66 hp hz91) ?_
  rintro Γ92 _ _ hl93 ⟨row96,rfl,rfl,hr97,_⟩
  refine cwV 39 [_,_] (BX (BZ (aV (k:=BX ?_))))
  exact C2 λw hw=>re_ r [0,0] h hF hw ⟨row96,row37,rfl,rfl,hr97,(ho38.mono (hl53.trans hl93)),iV,trivial⟩
 have h:=ak.e_queue_clear ho56 h
 refine cwV 34 [_,_] (mV (k:=sV exV (k:=sV exV (k:=aU (v:=.iface 97 (.agg #[ii o57.sink])) (k:=aV (k:=BX (BZ ?_)))))))
 refine mV (k:=mU (v:=.iface 97 (.agg #[ii o57.sink])) (k:=?_))
 obtain⟨z98,hz99,h⟩:=bnd h
 refine ecV [0] (caV E1) (λw hp=>ba (hob_33.mono (hl35.trans hl53)) o57 hr67 hp hz99) ?_
 rintro Γ100 _ _ hl101 ⟨row104,rfl,rfl,hr105,_⟩
 refine cwV 39 [_,_] (BX (BZ (aV (k:=BX ?_))))
 exact C2 λw hw=>re_ r [0,0] h hF hw ⟨row104,row37,rfl,rfl,hr105,(ho38.mono (hl53.trans hl101)),iV,trivial⟩
abbrev oB(gq:Nat)(eq:Nat×Nat)(edk0:Nat)(r:a6×a7×Int)(U:List Rowb)(Γ:Gh)(v:Value):Prop := ∃(rowq':Rowb), ∃(rowdk0':Rowb),v = .int .i64 r.2.2∧U = [rowq',rowdk0']∧a6.ob eq Γ gq rowq' r.1∧a7.ob edk0 Γ eq.2 rowdk0' r.2.1∧I64 r.2.2∧True
theorem kz{gq:Nat}{eq:Nat×Nat}{rowq:Rowb}{q:a6}(hq:a6.ob eq Γ gq rowq q){Ar_1:Option Addr}{cr_1:Nat}(r_:Rec)(hr_:Rec.fits Γ Ar_1 cr_1 r_){Aroute:Option Addr}{croute:Nat}{route:List Int}(hroute:Sl intT Γ Aroute route)(hroutec:route.length≤croute){edk0:Nat}{rowdk0:Rowb}{dk0:a7}(hdk0:a7.ob edk0 Γ eq.2 rowdk0 dk0)(hp:Pre [rowq,rowdk0] Γ w0){r:a6×a7×Int}(h:bw q r_ route dk0=some r):Calls Tryz.prog 10 #[(pq gq),.agg (Rec.cs Ar_1 cr_1 r_).toArray,.slice Aroute route.length croute] w0 (Outc Γ [rowq,rowdk0] w0 (oB gq eq edk0 r)):=by
 refine goV [6] func10 ntmps10 results10 hp λF hF=>?_
 refine BZ ?_
 refine bxV (v:=.agg (Rec.cs Ar_1 cr_1 r_).toArray) λg1=>?_
 refine aV (k:=BX (BZ (mV (k:=mV (k:=sV (ldaV 0 (Rec.cs Ar_1 cr_1 r_) Dv Du) (k:=sV (aR (v:=.agg #[.slice Aroute route.length croute,.string r_.key,.slice Ar_1 r_.vers.length cr_1]) rfl (ib rfl rfl) (λw=>by kernel_rfl)) (k:=sV (eD rfl rfl (λw=>mkif DD w)) (k:=?_))))))))
 obtain⟨z2,hz3,h⟩:=bnd h
 refine ecV [1,1] (caV call27) (λw hp=>kV hq (⟨route,(⟨r_.key,r_.vers⟩:Rec)⟩:ae) ⟨⟨hroutec,hroute⟩,hr_.1,⟨hr_.2.1,hr_.2.2⟩⟩ true hdk0 hp hz3) ?_
 rintro Γ4 _ _ hl5 ⟨row8,row10,rfl,rfl,hr9,hr11,hr12,_⟩
 refine cwV 12 [_,_,_] (aV (k:=BX ?_))
 exact C2 λw hw=>re_ r [0,0] h hF hw ⟨row8,row10,rfl,rfl,hr9,hr11,hr12,trivial⟩
abbrev lB(gw_:Nat)(ew_:Nat)(r:a8)(U:List Rowb)(Γ:Gh)(v:Value):Prop := ∃(roww_':Rowb),v = .tuple #[]∧U = [roww_']∧a8.ob ew_ Γ gw_ roww_' r∧True
theorem lF{B:Gh}{gw_ ew_:Nat}{roww_:Rowb}{w_:a8}(hw_:a8.ob ew_ Γ gw_ roww_ w_){Al:Option Addr}{cl:Nat}{l:List Span}(hl:Sl gO B Al l)(hlc:l.length≤cl)(hp:Pre [roww_] Γ w0)(hpB:Pre [roww_] B w0){r:a8}(h:dv w_ l=some r):Calls Tryz.prog 154 #[(pq gw_),.slice Al l.length cl,.func (.func 155) #[(pq gw_)] #[]] w0 (Outc Γ [roww_] w0 (lB gw_ ew_ r)):=by
 refine goV [] func154 ntmps154 results154 hp λF hF=>?_
 have hB:Lent F B:=hF▸Lent.start hpB
 refine BZ (mV (k:=mV (k:=sV (ab rfl Dw) (k:=?_))))
 obtain⟨z1,hz2,h⟩:=bnd h
 refine ecV [0] (caV E2) (λw hp=>bn hw_ (l.length:Int) (jT hl.le) hp hz2) ?_
 rintro Γ3 _ _ hl4 ⟨row7,rfl,rfl,hr8,_⟩
 refine cwV 11 [_] (BX (BZ (mV (k:=sV (ab rfl Dw) (k:=mV (k:=BX (C5 ?_)))))))
 refine Cc h (λ(i15:Nat) (o11:a8) σ w => ∃(Γ9:Gh), ∃(row12:Rowb),slots σ [(2,.func (.func 155) #[(pq gw_)] #[]),(12,.slice Al l.length cl),(13,ii (l.length:Int)),(14,ii (i15:Int))]∧CC F Γ9 [row12] w∧Gh.le Γ3 Γ9∧a8.ob ew_ Γ9 gw_ row12 o11∧True) ?_ ?_
 ·
  intro w hw
  exact⟨Γ3,row7,slK,hw,gR,hr8,trivial⟩
 rintro f14 i15 o11 σ w hi16 hlt17 hge18 ⟨Γ9,row12,hsl,hw,hl10,ho13,-⟩
 refine slV hsl hw [_] ?_; clear hw hsl
 refine BZ (sV aQ (k:=BX (C1 ?_)))
 refine coV (λhb19=>?_) (λhb19=>?_)
 ·
  have hl20:=ilt hb19
  have h:=hlt17 hl20
  refine C4 (wc_ (C1 (C5 (BZ (sV (aO (i:=i15) Dw Do rfl rfl rfl hl20 (hl.some_ hl20)) (k:=sV (uX (c:=0) (vs:=(Span.cs (gt l i15))) (λw hw=>hB.sat hw) (hl.spanT_at hl20).2 rfl Dp Do rfl rfl rfl) (k:=?_)))))))
  refine alV Dn λg21=>?_
  refine stV 0 (.agg (Span.cs (gt l i15)).toArray) (Span.cs (gt l i15)).toArray Do (k:=BX ?_)
  refine C3 ?_
  refine mU (v:=.func (.func 155) #[(pq gw_)] #[]) (k:=sV (ldaV 0 (Span.cs (gt l i15)) Dp Do) (k:=?_))
  obtain⟨z22,hz23,h⟩:=bnd h
  refine ecV [1] (fg (first:=#[(pq gw_)]) call155 rfl (by kernel_rfl) (by kernel_rfl)) (λw hp=>k8 ho13 (gt l i15) (by exact(hl.spanT_at hl20).1) hp hz23) ?_
  rintro Γ24 _ _ hl25 ⟨row28,rfl,rfl,hr29,_⟩
  refine cwV 20 [_,_] ?_
  refine C0 ?_
  change WC _ _ _ _ _ _
  refine C3 ?_
  refine sV (aw rfl rfl rfl (aA hl20 hl.le)) (k:=mV (k:=?_))
  exact C0 λw hw=>⟨hl20,z22,h,Γ24,row28,slK,(hw.on [0]),(hl10.trans hl25),hr29,trivial⟩
 have h:=hge18 (ige hb19)
 refine C8 ?_
 intro w hw
 cases h
 subst hF
 exact aM (is:=[0]) (by kernel_rfl) hw rfl ⟨row12,rfl,rfl,ho13,trivial⟩
abbrev mN(gw_:Nat)(ew_:Nat)(r:a8)(U:List Rowb)(Γ:Gh)(v:Value):Prop := ∃(roww_':Rowb),v = .tuple #[]∧U = [roww_']∧a8.ob ew_ Γ gw_ roww_' r∧True
theorem mL{B:Gh}{gw_ ew_:Nat}{roww_:Rowb}{w_:a8}(hw_:a8.ob ew_ Γ gw_ roww_ w_){Av_2:Option Addr}{cv_2:Nat}(v_:Ver)(hv_:Ver.fits B Av_2 cv_2 v_)(hp:Pre [roww_] Γ w0)(hpB:Pre [roww_] B w0){r:a8}(h:dc w_ v_=some r):Calls Tryz.prog 120 #[(pq gw_),.agg (Ver.cs Av_2 cv_2 v_).toArray] w0 (Outc Γ [roww_] w0 (mN gw_ ew_ r)):=by
 refine goV [] func120 ntmps120 results120 hp λF hF=>?_
 have hB:Lent F B:=hF▸Lent.start hpB
 refine BZ ?_
 refine bxV (v:=.agg (Ver.cs Av_2 cv_2 v_).toArray) λg1=>?_
 refine BX (BZ (mV (k:=sV (q_fl 0 bJ) (k:=sV (q_fl 0 cz) (k:=sV (ldV 0 CY) (k:=?_))))))
 obtain⟨z2,hz3,h⟩:=bnd h
 refine ecV [1] (caV E2) (λw hp=>bn hw_ v_.dot.s hv_.1 hp hz3) ?_
 rintro Γ4 _ _ hl5 ⟨row8,rfl,rfl,hr9,_⟩
 refine cwV 8 [_,_] (BX (BZ (mV (k:=sV (q_fl 0 bJ) (k:=sV (q_fl 1 eP) (k:=sV (ldV 1 D0) (k:=?_)))))))
 obtain⟨z10,hz11,h⟩:=bnd h
 refine ecV [0] (caV call153) (λw hp=>eA hr9 v_.dot.n hv_.2.1 hp hz11) ?_
 rintro Γ12 _ _ hl13 ⟨row16,rfl,rfl,hr17,_⟩
 refine cwV 13 [_,_] (BX (BZ (mV (k:=sV (q_fl 2 eX) (k:=sV (ldV 1 Dx) (k:=mV (k:=sV (iD (v:=.func (.func 155) #[(pq gw_)] #[]) rfl (by kernel_rfl)) (k:=?_))))))))
 obtain⟨z18,hz19,h⟩:=bnd h
 refine dB (is:=[0]) hB rfl rfl (caV call154) rfl (λw Θ hp hpB hle hleB hR=>lF hr17 (hv_.2.2.1.2.mono hleB) hv_.2.2.1.1 hp hpB hz19) ?_
 rintro Γ20 _ _ hl21 ⟨row24,rfl,rfl,hr25,_⟩
 refine cwV 19 [_,_] (BX (C1 (BZ (sV (q_fl 3 la) (k:=sV (ldV 1 Dj) (k:=BX ?_))))))
 refine ciV h (λhb26 h=>?_) (λhb26 h=>?_)
 ·
  refine BZ (mV (k:=?_))
  obtain⟨z27,hz28,h⟩:=bnd h
  refine ecV [0] (caV E2) (λw hp=>bn hr25 1 iV hp hz28) ?_
  rintro Γ29 _ _ hl30 ⟨row33,rfl,rfl,hr34,_⟩
  refine cwV 23 [_,_] (BX ?_)
  exact C2 λw hw=>re_ r [0] h hF hw ⟨row33,rfl,rfl,hr34,trivial⟩
 refine C4 (wc_ (BZ (mV (k:=?_))))
 obtain⟨z35,hz36,h⟩:=bnd h
 refine ecV [0] (caV E2) (λw hp=>bn hr25 0 iV hp hz36) ?_
 rintro Γ37 _ _ hl38 ⟨row41,rfl,rfl,hr42,_⟩
 refine cwV 25 [_,_] (BX ?_)
 refine C3 ?_
 refine mV (k:=sV (q_fl 4 dX) (k:=sV (ldV 1 D1) (k:=?_)))
 obtain⟨z43,hz44,h⟩:=bnd h
 refine ecV [0] (caV call118) (λw hp=>fy hr42 v_.val hv_.2.2.2 hp hz44) ?_
 rintro Γ45 _ _ hl46 ⟨row49,rfl,rfl,hr50,_⟩
 refine cwV 29 [_,_] ?_
 refine C0 ?_
 intro w hw
 cases h
 subst hF
 exact aM (is:=[0]) (by kernel_rfl) hw rfl ⟨row49,rfl,rfl,hr50,trivial⟩
abbrev m5(gw_:Nat)(ew_:Nat)(r:a8)(U:List Rowb)(Γ:Gh)(v:Value):Prop := ∃(roww_':Rowb),v = .tuple #[]∧U = [roww_']∧a8.ob ew_ Γ gw_ roww_' r∧True
theorem lZ{B:Gh}{gw_ ew_:Nat}{roww_:Rowb}{w_:a8}(hw_:a8.ob ew_ Γ gw_ roww_ w_){Al:Option Addr}{cl:Nat}{l:List Ver}(hl:Sl verT B Al l)(hlc:l.length≤cl)(hp:Pre [roww_] Γ w0)(hpB:Pre [roww_] B w0){r:a8}(h:fw w_ l=some r):Calls Tryz.prog 119 #[(pq gw_),.slice Al l.length cl,.func (.func 120) #[(pq gw_)] #[]] w0 (Outc Γ [roww_] w0 (m5 gw_ ew_ r)):=by
 refine goV [] func119 ntmps119 results119 hp λF hF=>?_
 have hB:Lent F B:=hF▸Lent.start hpB
 refine BZ (mV (k:=mV (k:=sV (ab rfl Dy) (k:=?_))))
 obtain⟨z1,hz2,h⟩:=bnd h
 refine ecV [0] (caV E2) (λw hp=>bn hw_ (l.length:Int) (jT hl.le) hp hz2) ?_
 rintro Γ3 _ _ hl4 ⟨row7,rfl,rfl,hr8,_⟩
 refine cwV 11 [_] (BX (BZ (mV (k:=sV (ab rfl Dy) (k:=mV (k:=BX (C5 ?_)))))))
 refine Cc h (λ(i15:Nat) (o11:a8) σ w => ∃(Γ9:Gh), ∃(row12:Rowb),slots σ [(2,.func (.func 120) #[(pq gw_)] #[]),(12,.slice Al l.length cl),(13,ii (l.length:Int)),(14,ii (i15:Int))]∧CC F Γ9 [row12] w∧Gh.le Γ3 Γ9∧a8.ob ew_ Γ9 gw_ row12 o11∧True) ?_ ?_
 ·
  intro w hw
  exact⟨Γ3,row7,slK,hw,gR,hr8,trivial⟩
 rintro f14 i15 o11 σ w hi16 hlt17 hge18 ⟨Γ9,row12,hsl,hw,hl10,ho13,-⟩
 refine slV hsl hw [_] ?_; clear hw hsl
 refine BZ (sV aQ (k:=BX (C1 ?_)))
 refine coV (λhb19=>?_) (λhb19=>?_)
 ·
  have hl20:=ilt hb19
  have h:=hlt17 hl20
  refine C4 (wc_ (C1 (C5 (BZ (sV (aO (i:=i15) Dy Dr rfl rfl rfl hl20 (hl.some_ hl20)) (k:=?_))))))
  obtain⟨A21,c22,hx23⟩:=hl.verT_at i15
  refine sV (uX (c:=0) (vs:=(Ver.cs A21 c22 (gt l i15))) (λw hw=>hB.sat hw) (hx23 hl20).2 rfl Ds Dr rfl rfl rfl) (k:=?_)
  refine alV Dq λg24=>?_
  refine stV 0 (.agg (Ver.cs A21 c22 (gt l i15)).toArray) (Ver.cs A21 c22 (gt l i15)).toArray Dr (k:=BX ?_)
  refine C3 ?_
  refine mU (v:=.func (.func 120) #[(pq gw_)] #[]) (k:=sV (ldaV 0 (Ver.cs A21 c22 (gt l i15)) Ds Dr) (k:=?_))
  obtain⟨z25,hz26,h⟩:=bnd h
  refine dB (is:=[1]) hB rfl rfl (fg (first:=#[(pq gw_)]) call120 rfl (by kernel_rfl) (by kernel_rfl)) rfl (λw Θ hp hpB hle hleB hR=>mL ho13 (gt l i15) (Ver.fits_mono (hx23 hl20).1 hleB) hp hpB hz26) ?_
  rintro Γ27 _ _ hl28 ⟨row31,rfl,rfl,hr32,_⟩
  refine cwV 20 [_,_] ?_
  refine C0 ?_
  change WC _ _ _ _ _ _
  refine C3 ?_
  refine sV (aw rfl rfl rfl (aA hl20 hl.le)) (k:=mV (k:=?_))
  exact C0 λw hw=>⟨hl20,z25,h,Γ27,row31,slK,(hw.on [0]),(hl10.trans hl28),hr32,trivial⟩
 have h:=hge18 (ige hb19)
 refine C8 ?_
 intro w hw
 cases h
 subst hF
 exact aM (is:=[0]) (by kernel_rfl) hw rfl ⟨row12,rfl,rfl,ho13,trivial⟩
abbrev mO(gw_:Nat)(ew_:Nat)(r:a8)(U:List Rowb)(Γ:Gh)(v:Value):Prop := ∃(roww_':Rowb),v = .tuple #[]∧U = [roww_']∧a8.ob ew_ Γ gw_ roww_' r∧True
theorem ma{B:Gh}{gw_ ew_:Nat}{roww_:Rowb}{w_:a8}(hw_:a8.ob ew_ Γ gw_ roww_ w_){Ar_1:Option Addr}{cr_1:Nat}(r_:Rec)(hr_:Rec.fits B Ar_1 cr_1 r_)(hp:Pre [roww_] Γ w0)(hpB:Pre [roww_] B w0){r:a8}(h:eu w_ r_=some r):Calls Tryz.prog 91 #[(pq gw_),.agg (Rec.cs Ar_1 cr_1 r_).toArray] w0 (Outc Γ [roww_] w0 (mO gw_ ew_ r)):=by
 refine goV [] func91 ntmps91 results91 hp λF hF=>?_
 have hB:Lent F B:=hF▸Lent.start hpB
 refine BZ ?_
 refine bxV (v:=.agg (Rec.cs Ar_1 cr_1 r_).toArray) λg1=>?_
 refine BX (BZ (mV (k:=sV (q_fl 0 kc) (k:=sV (ldV 0 D1) (k:=?_)))))
 obtain⟨z2,hz3,h⟩:=bnd h
 refine ecV [1] (caV call118) (λw hp=>fy hw_ r_.key hr_.1 hp hz3) ?_
 rintro Γ4 _ _ hl5 ⟨row8,rfl,rfl,hr9,_⟩
 refine cwV 7 [_,_] (BX ?_)
 refine C3 ?_
 refine mV (k:=sV (q_fl 1 bG) (k:=sV (ldV 1 DB) (k:=mV (k:=sV (iD (v:=.func (.func 120) #[(pq gw_)] #[]) rfl (by kernel_rfl)) (k:=?_)))))
 obtain⟨z10,hz11,h⟩:=bnd h
 refine dB (is:=[0]) hB rfl rfl (caV call119) rfl (λw Θ hp hpB hle hleB hR=>lZ hr9 (hr_.2.2.mono hleB) hr_.2.1 hp hpB hz11) ?_
 rintro Γ12 _ _ hl13 ⟨row16,rfl,rfl,hr17,_⟩
 refine cwV 13 [_,_] ?_
 refine C0 ?_
 intro w hw
 cases h
 subst hF
 exact aM (is:=[0]) (by kernel_rfl) hw rfl ⟨row16,rfl,rfl,hr17,trivial⟩
abbrev pw(r:(List UInt8)×Int)(U:List Rowb)(Γ:Gh)(v:Value):Prop := ∃(A0:Option Addr), ∃(c0:Nat), ∃(row0:Rowb),v = .tuple #[.slice A0 r.1.length c0,.int .i64 r.2]∧U = [row0]∧Own ay Γ 5 row0 A0 c0 r.1∧I64 r.2∧True
theorem l9{B:Gh}{Ar_1:Option Addr}{cr_1:Nat}(r_:Rec)(hr_:Rec.fits B Ar_1 cr_1 r_)(hp:Pre [] Γ w0)(hpB:Pre [] B w0){r:(List UInt8)×Int}(h:fL r_=some r):Calls Tryz.prog 64 #[.agg (Rec.cs Ar_1 cr_1 r_).toArray] w0 (Outc Γ [] w0 (pw r)):=by
 refine goV [2,3] func64 ntmps64 results64 hp λF hF=>?_
 have hB:Lent F B:=hF▸Lent.start hpB
 refine BZ ?_
 refine bxV (v:=.agg (Rec.cs Ar_1 cr_1 r_).toArray) λg1=>?_
 refine aV (k:=aV (k:=BX (C1 (BZ (sV (ldaV 0 (Rec.cs Ar_1 cr_1 r_) Dv Du) (k:=?_))))))
 obtain⟨z2,hz3,h⟩:=bnd h
 refine vqV (caV call81) (λw hw=>i8 (Γ:=Gh.all w) r_ (Rec.fits_mono hr_ ((λw hw=>hB.sat hw) w hw).le_all) (Sat.all w) hz3) (k:=sV aX (k:=BX ?_))
 refine ciV h (λhb4 h=>?_) (λhb4 h=>?_)
 ·
  refine BZ (aV (k:=aV (k:=BX ?_)))
  refine C2 ?_
  intro w hw
  have hw:=hw.pad
  exact re_ r [0] h hF hw ⟨none,0,[],rfl,rfl,(Own.nil ay _ 5),iV,trivial⟩
 refine C4 (wc_ (BZ (sV (cT (v:=.agg #[.slice none 0 0]) rfl (λw=>by kernel_rfl)) (k:=?_))))
 refine bxV (v:=.agg #[.slice none 0 0]) λg5=>?_
 refine aV (k:=BX (BZ (mV (k:=sV (ldaV 1 (Rec.cs Ar_1 cr_1 r_) Dv Du) (k:=?_)))))
 refine WR.sub (λw hw=>hw.pad) ?_
 obtain⟨row_6,hrow_6,hob_6⟩:∃rw:Rowb,rw=([[(g5,.cells #[.slice none 0 0] 177 (0,0))],[]]:List Rowb).flatten∧a8.ob 177 Γ g5 rw (⟨[]⟩:a8):=⟨_,rfl,none,0,[],rfl,(Own.nil ay Γ 5),trivial⟩
 refine foR [1,0] hrow_6 [_,_] ?_
 obtain⟨z7,hz8,h⟩:=bnd h
 refine dB (is:=[0]) hB rfl rfl (caV call91) rfl (λw Θ hp hpB hle hleB hR=>ma hob_6 r_ (Rec.fits_mono hr_ hleB) hp hpB hz8) ?_
 rintro Γ9 _ _ hl10 ⟨row13,rfl,rfl,hr14,_⟩
 refine cwV 12 [_,_] (BX (BZ (mV (k:=sV nlV (k:=sV (q_fl 0 ir) (k:=?_))))))
 obtain⟨A0_15,c0_15,r0_15,hrow_15,ho0_15,-⟩:=id hr14
 refine ufR 0 hrow_15 [_,_,_] ?_
 refine sV (ldV 0 Da) (k:=aV (k:=aV (k:=BX ?_)))
 exact C2 λw hw=>re_ r [1] h hF hw ⟨A0_15,c0_15,r0_15,rfl,rfl,ho0_15,iV,trivial⟩
abbrev rj(r:Rec)(U:List Rowb)(Γ:Gh)(v:Value):Prop := ∃(A0_1:Option Addr), ∃(c0_1:Nat),v = .agg #[.string r.key,.slice A0_1 r.vers.length c0_1]∧U = []∧Rec.fits Γ A0_1 c0_1 r∧True
theorem mP{B:Gh}{Ar_1:Option Addr}{cr_1:Nat}(r_:Rec)(hr_:Rec.fits B Ar_1 cr_1 r_)(hp:Pre [] Γ w0)(hpB:Pre [] B w0){r:Rec}(h:gB r_=some r):Calls Tryz.prog 28 #[.agg (Rec.cs Ar_1 cr_1 r_).toArray] w0 (Outc Γ [] w0 (rj r)):=by
 refine dl (N:=16) (rs:=[.cell 2 42]) (args:=[.agg (Rec.cs Ar_1 cr_1 r_).toArray]) func28 rfl ntmps28 results28 rfl ?_
 obtain⟨F,hF⟩:∃F:Fm,F=⟨ids [],w0,Γ⟩:=⟨_,rfl⟩
 refine Cf (C:=CC F Γ []) ?_ (hF▸hp.start)
 have hB:Lent F B:=hF▸Lent.start hpB
 refine BZ ?_
 refine bxV (v:=.agg (Rec.cs Ar_1 cr_1 r_).toArray) λg1=>?_
 refine alV Dt λg2=>?_
 refine BX (BZ (sV (ldaV 1 (Rec.cs Ar_1 cr_1 r_) Dv Du) (k:=?_)))
 obtain⟨z3,hz4,h⟩:=bnd h
 refine dB (is:=[]) hB rfl rfl (caV call64) rfl (λw Θ hp hpB hle hleB hR=>l9 r_ (Rec.fits_mono hr_ hleB) hp hpB hz4) ?_
 rintro Γ5 _ _ hl6 ⟨A9,c10,row11,rfl,rfl,hr12,hr13,_⟩
 refine cwV 7 [_,_,_] (mV (k:=sV exV (k:=sV exV (k:=aV (k:=aV (k:=BX (BZ ?_)))))))
 refine mV (k:=?_)
 have hc18:=hr12.capz
 refine seR 0 [_,_,_] λΓ14 hl15 hr16=>?_
 have hs17:=hr12.sl hl15 hr16
 obtain⟨z19,hz20,h⟩:=bnd h
 refine ecV [] (caV call65) (λw hp=>lA hs17 hc18 hp hz20) ?_
 rintro Γ21 _ _ hl22 ⟨A25,c26,rfl,rfl,hr27,hr28,_⟩
 refine cwV 12 [_,_,_] (mV (k:=sV exV (k:=sV exV (k:=stV 2 (.agg (Rec.cs A25 c26 z19.1).toArray) (Rec.cs A25 c26 z19.1).toArray Du (k:=BX (BZ (sV (ldaV 2 (Rec.cs A25 c26 z19.1) Dv Du) (k:=?_))))))))
 refine stV 1 (.agg (Rec.cs A25 c26 z19.1).toArray) (Rec.cs A25 c26 z19.1).toArray Du (k:=BX ?_)
 refine C2 ?_
 intro w hw
 cases h
 subst hF
 exact⟨[.agg (Rec.cs A25 c26 z19.1).toArray],(da (i:=1) (us:=(Rec.cs A25 c26 z19.1)) hw rfl Dv Du (by kernel_rfl) rfl db),aM (is:=[]) (by kernel_rfl) hw rfl ⟨A25,c26,rfl,rfl,hr27,trivial⟩⟩
abbrev kl(r:List Int)(U:List Rowb)(Γ:Gh)(v:Value):Prop := ∃(A0:Option Addr), ∃(c0:Nat), ∃(row0:Rowb),v = .slice A0 r.length c0∧U = [row0]∧Own intT Γ 3 row0 A0 c0 r∧True
theorem bW{B:Gh}{As_:Option Addr}{cs_:Nat}{s_:List Int}(hs_:Sl intT B As_ s_)(hs_c:s_.length≤cs_)(hp:Pre [] Γ w0)(hpB:Pre [] B w0){r:List Int}(h:bm s_=some r):Calls Tryz.prog 22 #[.slice As_ s_.length cs_] w0 (Outc Γ [] w0 (kl r)):=by
 refine goV [2] func22 ntmps22 results22 hp λF hF=>?_
 have hB:Lent F B:=hF▸Lent.start hpB
 refine BZ (aV (k:=BX (C1 (BZ (mV (k:=sV (jx CW rfl rfl rfl) (k:=BX ?_)))))))
 refine WC.cnil h (by kernel_rfl) (λhb=>hs_.none_nil hb) (λhb1 h=>?_) (λhb1 h=>?_)
 ·
  refine BZ (aV (k:=BX ?_))
  refine C2 ?_
  intro w hw
  have hw:=hw.pad
  exact re_ r [0] h hF hw ⟨none,0,[],rfl,rfl,(Own.nil intT _ 3),trivial⟩
 refine C4 (wc_ (BZ ?_))
 refine bsV #[] 3 λg2=>?_
 refine mV (k:=?_)
 have ho3:Own intT Γ 3 [(g2,.cells #[] 3 (0,0))] (some ⟨g2,0,none⟩) 0 ([]:List Int):=C7 (T:=intT) (ys:=([]:List Int)) [] rfl (show 0≤lim by decide) (show True from trivial)
 obtain⟨hk4,h⟩:=ag h
 refine apV 0 s_ lD ho3 (Cl hk4) (λw hw=>wl (Γ:=Γ) (λw hw=>hB.sat hw) (λ_ _ h=>h) hs_ hw) ?_
 intro row5 A6 c7 ho8
 refine aV (k:=BX ?_)
 exact C2 λw hw=>re_ r [0] h hF hw ⟨A6,c7,row5,rfl,rfl,ho8,trivial⟩
abbrev nO(gq:Nat)(eq:Nat×Nat)(rowq:Rowb)(r:List ai)(U:List Rowb)(Γ:Gh)(v:Value):Prop := ∃(A0:Option Addr), ∃(c0:Nat), ∃(J0:Rowb),v = .slice A0 r.length c0∧U = [rowq,J0]∧(J0.map (·.1)).Nodup∧r.length≤c0∧Sl bN (ghr J0) A0 r∧True
theorem dQ{gq:Nat}{eq:Nat×Nat}{rowq:Rowb}{q:a6}(hq:a6.ob eq Γ gq rowq q)(sink:Int)(hsink:I64 sink)(n:Int)(hn:I64 n)(hp:Pre [rowq] Γ w0){r:List ai}(h:b6 q sink n=some r):Calls Tryz.prog 13 #[(pq gq),ii sink,ii n] w0 (Outc Γ [rowq] w0 (nO gq eq rowq r)):=by
 refine goV [6] func13 ntmps13 results13 hp λF hF=>?_
 refine BZ (aV (k:=BX (BZ ?_)))
 refine WR.sub (λw hw=>hw.pad) ?_
 refine WR.sub (λw hw=>hw.pad) ?_
 refine aV (k:=BX (C1 (BZ (mV (k:=sV nlV (k:=sV (q_fl 9 dO) (k:=?_)))))))
 obtain⟨A2_1,c2_1,y5_1,g6_1,r6_1,A7_1,c7_1,A8_1,A9_1,c9_1,r9_1,m11_1,r11_1,A12_1,c12_1,hrow_1,ho0_1,ho1_1,ho2_1,ho3_1,ho4_1,ho5_1,ho6_1,ho7_1,ho8_1,ho9_1,ho10_1,ho11_1,ho12_1,ho13_1,ho14_1,-⟩:=id hq
 refine ufR 2 hrow_1 [_,_,_,_,_,_] ?_
 refine sV (ldV 0 DX) (k:=?_)
 have hlen2:q.list.length≤lim:=ho10_1.le
 refine sV (ab rfl DZ) (k:=mV (k:=BX (C5 ?_)))
 refine Ci h (λ(i11:Nat) (out_5:List ai) σ w => ∃(J3:Rowb), ∃(A6:Option Addr), ∃(c7:Nat), ∃(row8:Rowb),slots σ [(1,ii sink),(2,ii n),(7,.slice A6 out_5.length c7),(13,.slice A9_1 q.list.length c9_1),(14,ii (q.list.length:Int)),(15,ii (i11:Int))]∧CC F Γ [row8,[(gq,.cells #[ii q.c_self,ii q.c_sites,.slice A2_1 q.c_links.length c2_1,ii q.c_cap,ii q.c_base,y5_1,(pq g6_1),.slice A7_1 q.applied.length c7_1,.pointer A8_1,.slice A9_1 q.list.length c9_1,ii q.next,.map (some m11_1),.slice A12_1 q.members.length c12_1] eq.1 (0,0))],r6_1,r9_1,r11_1,J3] w∧(J3.map (·.1)).Nodup∧Own bN (ghr J3) 52 row8 A6 c7 out_5∧True) ?_ ?_
 ·
  intro w hw
  exact⟨[],none,0,[],slK,(hw.on [5,0,0,0,0,0]),List.nodup_nil,(Own.nil bN (ghr []) 52),trivial⟩
 rintro f10 i11 out_5 σ w hi12 hlt13 hge14 ⟨J3,A6,c7,row8,hsl,hw,hn4,ho9,-⟩
 refine slV hsl hw [_,_,_,_,_,_] ?_; clear hw hsl
 refine BZ (sV aQ (k:=BX (C1 ?_)))
 refine coV (λhb15=>?_) (λhb15=>?_)
 ·
  have hl16:=ilt hb15
  have h:=hlt13 hl16
  refine C4 (wc_ ?_)
  refine Ce (λσ w => ∃(out_19:List ai), ∃(J17:Rowb), ∃(A20:Option Addr), ∃(c21:Nat), ∃(row22:Rowb),dZ f10 out_19=some r∧slots σ [(1,ii sink),(2,ii n),(7,.slice A20 out_19.length c21),(13,.slice A9_1 q.list.length c9_1),(14,ii (q.list.length:Int)),(15,ii (i11:Int))]∧CC F Γ [row22,[(gq,.cells #[ii q.c_self,ii q.c_sites,.slice A2_1 q.c_links.length c2_1,ii q.c_cap,ii q.c_base,y5_1,(pq g6_1),.slice A7_1 q.applied.length c7_1,.pointer A8_1,.slice A9_1 q.list.length c9_1,ii q.next,.map (some m11_1),.slice A12_1 q.members.length c12_1] eq.1 (0,0))],r6_1,r9_1,r11_1,J17] w∧(J17.map (·.1)).Nodup∧Own bN (ghr J17) 52 row22 A20 c21 out_19∧True) ?_ ?_
  ·
   refine C5 (BZ (sV (aO (i:=i11) DZ DU rfl rfl rfl hl16 (ho10_1.some_ hl16)) (k:=?_)))
   obtain⟨g_24,rL_24,rA_24,rM_24,rB_24,cs_24,hrow_24,hrd_24,hvc_24,hsub_24,hm_24,hback_24⟩:=LM.part ho10_1 hl16
   obtain⟨A_24_2,c_24_2,A_24_3,c_24_3,rfl,hrd_24⟩:=hrd_24
   have hs1_24:∀p∈rL_24,p∈r9_1:=λp hp=>by rw [hrow_24]; exact List.mem_append.2 (.inl (hsub_24 p hp))
   have hs2_24:∀p∈rM_24,p∈r9_1:=λp hp=>by rw [hrow_24]; exact List.mem_append.2 (.inr (List.mem_append.2 (.inl hp)))
   refine sV (uJ (c:=0) (vs:=[ii (gt q.list i11).entry.seq,.string (gt q.list i11).entry.rec_.key,.slice A_24_2 ((gt q.list i11).entry.rec_.vers).length c_24_2,.slice A_24_3 ((gt q.list i11).entry.route).length c_24_3,.map (some g_24)]) (i:=3) rfl hs1_24 hvc_24 rfl isAgg89 DU rfl rfl) (k:=?_)
   refine alV zeroValue89 λg25=>?_
   refine stV 0 (.agg #[ii (gt q.list i11).entry.seq,.string (gt q.list i11).entry.rec_.key,.slice A_24_2 ((gt q.list i11).entry.rec_.vers).length c_24_2,.slice A_24_3 ((gt q.list i11).entry.route).length c_24_3,.map (some g_24)]) #[ii (gt q.list i11).entry.seq,.string (gt q.list i11).entry.rec_.key,.slice A_24_2 ((gt q.list i11).entry.rec_.vers).length c_24_2,.slice A_24_3 ((gt q.list i11).entry.route).length c_24_3,.map (some g_24)] DU (k:=BX (BZ (mV (k:=sV (ab rfl E3) (k:=mV (k:=sV aQ (k:=mV (k:=?_))))))))
   refine vG1 (h:=λhg26=>q_fl 4 lk) (k:=vG1 (h:=λhg27=>ldV 0 DV (hx:=grV hg27)) (k:=vG1 (h:=λhg28=>moV) (k:=?_)))
   obtain⟨v30,hv31,hat32⟩:=MapO.look hm_24 sink (z:=.bool false) (zx:=false) rfl
   obtain rfl:v30=_:=List.cons.inj hv31 |>.1
   refine vG1 (h:=λhg29=>qS (v:=.bool ((mget sink ((gt q.list i11).want)).getD false)) (λw hw p hp=>hw.at_ (i:=4) rfl (hs2_24 p hp)) hat32 rfl DW zeroValue4 (grV hg29) (grV hg29)) (k:=sV pkA (k:=BX ?_))
   refine ciV h (λhb33 h=>?_) (λhb33 h=>?_)
   ·
    refine leV λh034=>?_
    refine e7 (CC F Γ [[(g25,.cells #[ii (gt q.list i11).entry.seq,.string (gt q.list i11).entry.rec_.key,.slice A_24_2 ((gt q.list i11).entry.rec_.vers).length c_24_2,.slice A_24_3 ((gt q.list i11).entry.route).length c_24_3,.map (some g_24)] 89 (0,0))],[(gq,.cells #[ii q.c_self,ii q.c_sites,.slice A2_1 q.c_links.length c2_1,ii q.c_cap,ii q.c_base,y5_1,(pq g6_1),.slice A7_1 q.applied.length c7_1,.pointer A8_1,.slice A9_1 q.list.length c9_1,ii q.next,.map (some m11_1),.slice A12_1 q.members.length c12_1] eq.1 (0,0))],r6_1,r11_1]) (bo_ [0,1,1,2] gR h034) λk=>?_
    change WH _ _ _ _ (CC F Γ [_,_,_,_,_,_,_]) _ 16 _ _
    refine hV 0 k (q:=moV) (k:=hV 1 k (q:=q_fl 0 mI) (k:=hV 2 k (q:=q_fl 0 qO) (k:=hV 3 k (q:=ldV 0 D0) (k:=hV 4 k (q:=q_fl 0 mI) (k:=hV 5 k (q:=q_fl 1 mu) (k:=hV 6 k (q:=ldaV 0 [.string (gt q.list i11).entry.rec_.key,.slice A_24_2 ((gt q.list i11).entry.rec_.vers).length c_24_2] Dv Du) (k:=hV 8 k (q:=q_fl 0 mI) (k:=?_))))))))
    refine hV 9 k (q:=q_fl 3 kb) (k:=hV 10 k (q:=ldV 0 CZ) (k:=wl_ 7 rfl ?_))
    obtain⟨z35,hz36,h⟩:=bnd h
    refine gK (is:=[]) (Lent.nil F) rfl rfl (caV call28) rfl (λw Θ hp hpB hle hleB hR=>mP ((gt q.list i11).entry.rec_) (Rec.fits_mono ⟨hrd_24.2.1,⟨hrd_24.2.2.1.1,hrd_24.2.2.1.2⟩⟩ hle) hp hpB hz36) ?_
    rintro J37 U39 v40 hn38 ⟨A41,c42,rfl,rfl,hr43,_⟩
    refine cwV 36 [_,_,_,_,_,_,_,_] ?_
    refine C0 (nxV (bo_ [1,2,2,3] gR h034) λk=>?_)
    refine wl_ 11 rfl ?_
    obtain⟨z44,hz45,h⟩:=bnd h
    refine gK (is:=[]) (Lent.nil F) rfl rfl (caV call22) rfl (λw Θ hp hpB hle hleB hR=>bW (hrd_24.2.2.2.2.mono hle) hrd_24.2.2.2.1 hp hpB hz45) ?_
    rintro J46 U48 v49 hn47 ⟨A50,c51,row52,rfl,rfl,hr53,_⟩
    refine WR.join2 λhn54=>?_
    have hr55:=hr53.sl (d5 hn54) (eV hn54)
    have hc56:=hr53.capz
    refine cwV 40 [_,_,_,_,_,_,_,_,_] ?_
    refine C0 (nxV (bo_ [2,3,3,4] gR h034) λk=>?_)
    refine hV 12 k (q:=aR (v:=.agg #[ii (gt q.list i11).entry.seq,.string z35.key,.slice A41 z35.vers.length c42,.slice A50 z44.length c51]) rfl (qK rfl rfl rfl) (λw=>by kernel_rfl)) (k:=wl_ 13 rfl ?_)
    refine bsV #[ii (gt q.list i11).entry.seq,.string z35.key,.slice A41 z35.vers.length c42,.slice A50 z44.length c51] 52 λg57=>?_
    refine C0 (nxV (bo_ [3,4,4,5] gR h034) λk=>?_)
    refine wl_ 14 rfl ?_
    refine WR.sub (λw hw=>hw.on [1,1,0,0,0,0,0,0,0,0]) ?_
    change WR _ _ _ (CC F Γ [_,_,_,_,_,_,_,_,_,_]) _ _ _
    refine WR.join2 λhn58=>?_
    change WR _ _ _ (CC F Γ [_,_,_,_,_,_,_,_,_]) _ _ _
    refine WR.sub (λw hw=>hw.on [0,7,0,0,0,0,0,0,0]) ?_
    change WR _ _ _ (CC F Γ [_,_,_,_,_,_,_,_,_]) _ _ _
    refine WR.join2 λhn59=>?_
    change WR _ _ _ (CC F Γ [_,_,_,_,_,_,_,_]) _ _ _
    obtain⟨hk60,h⟩:=ag h
    refine apV 3 [(⟨(gt q.list i11).entry.seq,(⟨z35.key,z35.vers⟩:Rec),z44⟩:ai)] (zP.at (ghr (((J46++row52)++J37)++J3))) (ho9.mono (n9 hn59)).toat (Cl hk60) (λw hw=>cM (i:=1) rfl (by exact⟨A41,c42,A50,c51,rfl,⟨hrd_24.1,hr43.1,⟨hr43.2.1,((hr43.2.2.mono (n9 hn58)).mono (d5 hn59))⟩,⟨hc56,((hr55.mono (d5 hn58)).mono (d5 hn59))⟩⟩⟩) hw) ?_
    intro row61 A62 c63 ho64
    have ho65:=ho64.unat
    refine C0 (nxV (bo_ [2,3,3,4] gR h034) λk=>?_)
    refine hV 15 k (q:=aoV) (k:=?_)
    refine Ca (by kernel_rfl) ?_
    intro w hw
    exact⟨(out_5++[(⟨(gt q.list i11).entry.seq,(⟨z35.key,z35.vers⟩:Rec),z44⟩:ai)]),(((J46++row52)++J37)++J3),A62,c63,row61,h,slK,(hw.on [3,3,3,3,3,0]),hn59,ho65,trivial⟩
   exact C4 λw hw=>⟨out_5,J3,A6,c7,row8,h,slK,(hw.on [1,1,1,1,1,1]),hn4,ho9,trivial⟩
  rintro σ w ⟨out_19,J17,A20,c21,row22,h,hsl,hw,hn18,ho23,-⟩
  refine slV hsl hw [_,_,_,_,_,_] ?_; clear hw hsl
  refine C3 ?_
  refine sV (aw rfl rfl rfl (aA hl16 hlen2)) (k:=mV (k:=?_))
  exact C0 λw hw=>⟨hl16,out_19,h,J17,A20,c21,row22,slK,hw,hn18,ho23,trivial⟩
 have h:=hge14 (ige hb15)
 refine C8 ?_
 change WC _ _ _ _ _ _
 refine BZ (mV (k:=?_))
 refine WR.sub (λw hw=>hw.on [5,0,0,0,0,0]) ?_
 change WR _ _ _ (CC F Γ [_,_,_,_,_,_]) _ _ _
 refine WR.join2 λhn66=>?_
 have hr67:=ho9.sl (d5 hn66) (eV hn66)
 have hc68:=ho9.capz
 change WR _ _ _ (CC F Γ [_,_,_,_,_]) _ _ _
 refine aV (k:=BX ?_)
 refine C2 ?_
 intro w hw
 have hw:=hw.fold (is:=[1,1,1,1]) rfl hrow_1
 exact re_ r [0,0] h hF hw ⟨A6,c7,(J3++row8),rfl,rfl,hn66,hc68,hr67,trivial⟩
abbrev o0(gq:Nat)(eq:Nat×Nat)(rowq:Rowb)(r:List Int)(U:List Rowb)(Γ:Gh)(v:Value):Prop := ∃(A0:Option Addr), ∃(c0:Nat), ∃(row0:Rowb),v = .slice A0 r.length c0∧U = [rowq,row0]∧Own intT Γ 3 row0 A0 c0 r∧True
theorem kf{gq:Nat}{eq:Nat×Nat}{rowq:Rowb}{q:a6}(hq:a6.ob eq Γ gq rowq q)(hp:Pre [rowq] Γ w0){r:List Int}(h:ij q=some r):Calls Tryz.prog 16 #[(pq gq)] w0 (Outc Γ [rowq] w0 (o0 gq eq rowq r)):=by
 refine goV [2] func16 ntmps16 results16 hp λF hF=>?_
 refine BZ (aV (k:=BX (BZ (mV (k:=sV nlV (k:=sV (q_fl 11 og) (k:=?_)))))))
 obtain⟨A2_1,c2_1,y5_1,g6_1,r6_1,A7_1,c7_1,A8_1,A9_1,c9_1,r9_1,m11_1,r11_1,A12_1,c12_1,hrow_1,ho0_1,ho1_1,ho2_1,ho3_1,ho4_1,ho5_1,ho6_1,ho7_1,ho8_1,ho9_1,ho10_1,ho11_1,ho12_1,ho13_1,ho14_1,-⟩:=id hq
 refine ufR 0 hrow_1 [_,_,_,_] ?_
 refine sV (ldV 0 DV) (k:=?_)
 refine zd (ρ:=nT) yQ (mb:=some m11_1) rfl rfl (caV call31) ?_
 intro g2
 refine cwV 7 [_,_,_,_,_] ?_
 obtain⟨hk3,h⟩:=ag h
 refine ecV [0,3] (caV call30) (λw hp=>zf ho12_1 (Cl hk3) hp) ?_
 rintro Γ4 _ _ hl5 ⟨A8,c9,row10,rfl,rfl,ho11⟩
 refine cwV 8 [_,_,_,_,_,_] (aV (k:=BX ?_))
 refine C2 ?_
 intro w hw
 have hw:=hw.fold (is:=[3,3,3,1]) rfl hrow_1
 exact re_ r [0,1] h hF hw ⟨A8,c9,row10,rfl,rfl,ho11,trivial⟩
abbrev pu(r:List UInt8)(U:List Rowb)(Γ:Gh)(v:Value):Prop := ∃(A0:Option Addr), ∃(c0:Nat), ∃(row0:Rowb),v = .slice A0 r.length c0∧U = [row0]∧Own ay Γ 5 row0 A0 c0 r∧True
theorem pI(x_:al)(hx_:al.fits Γ  x_)(hp:Pre [] Γ w0){r:List UInt8}(h:lf x_=some r):Calls Tryz.prog 61 #[.iface 95 (.agg (al.cs x_).toArray)] w0 (Outc Γ [] w0 (pu r)):=by
 refine goV [2] func61 ntmps61 results61 hp λF hF=>?_
 refine BZ (aV (k:=BX (C1 (BZ (mU (v:=.iface 95 (.agg (al.cs x_).toArray)) (k:=BX (C5 ?_)))))))
 refine BZ (sV (aI DC DG rfl rfl rfl) (k:=sV exV (k:=sV exV (k:=BX ?_))))
 refine Cb (b:=false) (by kernel_rfl) rfl ?_
 refine BZ (sV (aI DD DH rfl rfl rfl) (k:=sV exV (k:=sV exV (k:=BX ?_))))
 refine Cb (b:=false) (by kernel_rfl) rfl ?_
 refine BZ (sV (aI DJ DK rfl rfl rfl) (k:=sV exV (k:=sV exV (k:=BX ?_))))
 refine Cb (b:=false) (by kernel_rfl) rfl ?_
 refine BZ (sV (df DE rfl rfl) (k:=sV exV (k:=sV exV (k:=BX ?_))))
 refine Ch (b:=true) (by kernel_rfl) rfl ?_
 refine BZ ?_
 refine alV DL λg1=>?_
 refine stV 0 (.agg (al.cs x_).toArray) (al.cs x_).toArray sizeOf95 (k:=BX (BZ (sV (q_fl 0 r7) (k:=sV (ldV 0 D0) (k:=sV (q_fl 1 qQ) (k:=sV (ldV 0 D0) (k:=?_)))))))
 refine bsV #[ii 4,ii x_.sink,ii x_.seq] 2 λg2=>?_
 have ho3:Own intT Γ 2 [(g2,.cells #[ii 4,ii x_.sink,ii x_.seq] 2 (0,0))] (some ⟨g2,0,none⟩) 3 [4,x_.sink,x_.seq]:=C7 (T:=intT) (ys:=[4,x_.sink,x_.seq]) [[ii 4],[ii x_.sink],[ii x_.seq]] rfl (show 3≤lim by decide) ⟨⟨rfl,iV⟩,⟨rfl,hx_.1⟩,⟨rfl,hx_.2⟩,trivial⟩
 have hc8:=ho3.capz
 refine seR 0 [_,_] λΓ4 hl5 hr6=>?_
 have hs7:=ho3.sl hl5 hr6
 refine WR.sub (λw hw=>hw.pad) ?_
 obtain⟨z9,hz10,h⟩:=bnd h
 refine ecV [0] (caV call86) (λw hp=>dA (Own.nil ay Γ4 5) hs7 hc8 hp hz10) ?_
 rintro Γ11 _ _ hl12 ⟨A15,c16,row17,rfl,rfl,hr18,_⟩
 refine cwV 48 [_,_,_] (aV (k:=BX ?_))
 exact C2 λw hw=>re_ r [0] h hF hw ⟨A15,c16,row17,rfl,rfl,hr18,trivial⟩
abbrev l5(gq:Nat)(eq:Nat×Nat)(edk0:Nat)(r:a6×a7×Int)(U:List Rowb)(Γ:Gh)(v:Value):Prop := ∃(rowq':Rowb), ∃(rowdk0':Rowb),v = .int .i64 r.2.2∧U = [rowq',rowdk0']∧a6.ob eq Γ gq rowq' r.1∧a7.ob edk0 Γ eq.2 rowdk0' r.2.1∧I64 r.2.2∧True
theorem ld{gq:Nat}{eq:Nat×Nat}{rowq:Rowb}{q:a6}(hq:a6.ob eq Γ gq rowq q)(x_:al)(hx_:al.fits Γ  x_)(sync:Bool){edk0:Nat}{rowdk0:Rowb}{dk0:a7}(hdk0:a7.ob edk0 Γ eq.2 rowdk0 dk0)(hp:Pre [rowq,rowdk0] Γ w0){r:a6×a7×Int}(h:im q x_ sync dk0=some r):Calls Tryz.prog 27 #[(pq gq),.iface 95 (.agg (al.cs x_).toArray),.bool sync] w0 (Outc Γ [rowq,rowdk0] w0 (l5 gq eq edk0 r)):=by
 refine goV [6] func27 ntmps27 results27 hp λF hF=>?_
 refine BZ (aV (k:=BX (C1 (BZ (mV (k:=mU (v:=.iface 95 (.agg (al.cs x_).toArray)) (k:=?_)))))))
 obtain⟨z1,hz2,h⟩:=bnd h
 refine vqV (caV E0) (λw hw=>d7 (Γ:=Gh.all w) (hq.mono hw.sat.le_all) (hw.ra 0 rfl) x_ hx_ (Sat.all w) hz2) (k:=sV aX (k:=BX ?_))
 refine ciV h (λhb3 h=>?_) (λhb3 h=>?_)
 ·
  refine BZ (aV (k:=BX ?_))
  exact C2 λw hw=>re_ r [0,0] h hF hw ⟨rowq,rowdk0,rfl,rfl,hq,hdk0,iV,trivial⟩
 refine C4 (wc_ (BZ (mU (v:=.iface 95 (.agg (al.cs x_).toArray)) (k:=?_))))
 obtain⟨z4,hz5,h⟩:=bnd h
 refine ecV [] (caV call61) (λw hp=>pI x_ hx_ hp hz5) ?_
 rintro Γ6 _ _ hl7 ⟨A10,c11,row12,rfl,rfl,hr13,_⟩
 refine cwV 16 [_,_,_] (aV (k:=BX (C1 (BZ (mV (k:=sV nlV (k:=sV (q_fl 6 gW) (k:=?_))))))))
 obtain⟨A2_14,c2_14,y5_14,g6_14,r6_14,A7_14,c7_14,A8_14,A9_14,c9_14,r9_14,m11_14,r11_14,A12_14,c12_14,hrow_14,ho0_14,ho1_14,ho2_14,ho3_14,ho4_14,ho5_14,ho6_14,ho7_14,ho8_14,ho9_14,ho10_14,ho11_14,ho12_14,ho13_14,ho14_14,-⟩:=(hq.mono hl7)
 refine ufR 1 hrow_14 [_,_,_,_,_,_] ?_
 refine sV (ldV 0 Di) (k:=mV (k:=?_))
 have hc19:=hr13.capz
 refine seR 4 [_,_,_,_,_,_] λΓ15 hl16 hr17=>?_
 have hs18:=hr13.sl hl16 hr17
 obtain⟨z20,hz21,h⟩:=bnd h
 refine ecV [1,4] (caV call62) (λw hp=>dq (ho6_14.mono hl16) hs18 hc19 (hdk0.mono (hl7.trans hl16)) hp hz21) ?_
 rintro Γ22 _ _ hl23 ⟨row26,row28,rfl,rfl,hr27,hr29,hr30,_⟩
 refine cwV 22 [_,_,_,_,_,_] (aV (k:=BX (BZ (mV (k:=sV bO (k:=BX ?_))))))
 refine ciV h (λhb31 h=>?_) (λhb31 h=>?_)
 ·
  refine BZ (mV (k:=aV (k:=BX ?_)))
  refine C2 ?_
  intro w hw
  obtain⟨row_32,hrow_32,hob_32⟩:∃rw:Rowb,rw=([[(gq,.cells #[ii q.c_self,ii q.c_sites,.slice A2_14 q.c_links.length c2_14,ii q.c_cap,ii q.c_base,y5_14,(pq g6_14),.slice A7_14 q.applied.length c7_14,.pointer A8_14,.slice A9_14 q.list.length c9_14,ii q.next,.map (some m11_14),.slice A12_14 q.members.length c12_14] eq.1 (0,0))],row26,r9_14,r11_14]:List Rowb).flatten∧a6.ob eq Γ22 gq rw (⟨q.c_self,q.c_sites,q.c_links,q.c_cap,q.c_base,z20.1,q.applied,q.under,q.list,q.next,q.gaps,q.members⟩:a6):=⟨_,rfl,A2_14,c2_14,(y5_14),g6_14,row26,A7_14,c7_14,A8_14,A9_14,c9_14,r9_14,m11_14,r11_14,A12_14,c12_14,rfl,ho0_14,ho1_14,ho2_14,(ho3_14.mono (hl16.trans hl23)),ho4_14,ho5_14,hr27,ho7_14,(ho8_14.mono (hl16.trans hl23)),(ho9_14.mono (hl16.trans hl23)),(ho10_14.mono (hl16.trans hl23)),ho11_14,(ho12_14.mono (hl16.trans hl23)),ho13_14,(ho14_14.mono (hl16.trans hl23)),trivial⟩
  have hw:=hw.fold (is:=[2,0,1,1]) rfl hrow_32
  cases h
  subst hF
  exact aM (is:=[0,0]) (by kernel_rfl) hw rfl ⟨row_32,row28,rfl,rfl,hob_32,hr29,hr30,trivial⟩
 refine C4 (wc_ ?_)
 obtain⟨row_33,hrow_33,hob_33⟩:∃rw:Rowb,rw=([[(gq,.cells #[ii q.c_self,ii q.c_sites,.slice A2_14 q.c_links.length c2_14,ii q.c_cap,ii q.c_base,y5_14,(pq g6_14),.slice A7_14 q.applied.length c7_14,.pointer A8_14,.slice A9_14 q.list.length c9_14,ii q.next,.map (some m11_14),.slice A12_14 q.members.length c12_14] eq.1 (0,0))],row26,r9_14,r11_14]:List Rowb).flatten∧a6.ob eq Γ22 gq rw (⟨q.c_self,q.c_sites,q.c_links,q.c_cap,q.c_base,z20.1,q.applied,q.under,q.list,q.next,q.gaps,q.members⟩:a6):=⟨_,rfl,A2_14,c2_14,(y5_14),g6_14,row26,A7_14,c7_14,A8_14,A9_14,c9_14,r9_14,m11_14,r11_14,A12_14,c12_14,rfl,ho0_14,ho1_14,ho2_14,(ho3_14.mono (hl16.trans hl23)),ho4_14,ho5_14,hr27,ho7_14,(ho8_14.mono (hl16.trans hl23)),(ho9_14.mono (hl16.trans hl23)),(ho10_14.mono (hl16.trans hl23)),ho11_14,(ho12_14.mono (hl16.trans hl23)),ho13_14,(ho14_14.mono (hl16.trans hl23)),trivial⟩
 refine foC [2,0,1,1] hrow_33 [_,_,_] ?_
 refine Ce (λσ w => ∃(o36:a7), ∃(Γ34:Gh), ∃(row37:Rowb),dR q z4 z20 o36=some r∧slots σ [(0,(pq gq)),(7,.slice A10 z4.length c11)]∧CC F Γ34 [row_33,row37] w∧Gh.le Γ22 Γ34∧a7.ob edk0 Γ34 eq.2 row37 o36∧True) ?_ ?_
 ·
  refine BZ (mV (k:=BX ?_))
  refine ciV h (λhb39 h=>?_) (λhb39 h=>?_)
  ·
   refine C3 ?_
   refine mV (k:=sV nlV (k:=sV (q_fl 6 gW) (k:=?_)))
   obtain⟨A2_40,c2_40,y5_40,g6_40,r6_40,A7_40,c7_40,A8_40,A9_40,c9_40,r9_40,m11_40,r11_40,A12_40,c12_40,hrow_40,ho0_40,ho1_40,ho2_40,ho3_40,ho4_40,ho5_40,ho6_40,ho7_40,ho8_40,ho9_40,ho10_40,ho11_40,ho12_40,ho13_40,ho14_40,-⟩:=id hob_33
   refine ufR 0 hrow_40 [_,_,_,_,_,_] ?_
   refine sV (ldV 0 Di) (k:=?_)
   obtain⟨z41,hz42,h⟩:=bnd h
   refine ecV [1,3] (caV call63) (λw hp=>ey ho6_40 hr29 hp hz42) ?_
   rintro Γ43 _ _ hl44 ⟨row47,rfl,rfl,hr48,_⟩
   refine cwV 31 [_,_,_,_,_,_] ?_
   refine C0 ?_
   intro w hw
   have hw:=hw.fold (is:=[2,0,1,1]) rfl hrow_40
   exact⟨z41,Γ43,row47,h,slK,(hw.on [0,0]),hl44,hr48,trivial⟩
  exact C4 λw hw=>⟨z20.2.1,Γ22,row28,h,slK,(hw.on [0,0]),gR,hr29,trivial⟩
 rintro σ w ⟨o36,Γ34,row37,h,hsl,hw,hl35,ho38,-⟩
 refine slV hsl hw [_,_] ?_; clear hw hsl
 refine BZ (mV (k:=?_))
 obtain⟨z50,hz51,h⟩:=bnd h
 refine ecV [] (caV call23) (λw hp=>dC (hs18.mono (hl23.trans hl35)) hc19 hp hz51) ?_
 rintro Γ52 _ _ hl53 (⟨ho56,rfl,rfl,_⟩ | ⟨o57,ho56,A58,c59,rfl,rfl,hr60,_⟩ | ⟨o57,ho56,A61,c62,A63,c64,rfl,rfl,hr65,_⟩ | ⟨o57,ho56,rfl,rfl,hr66,_⟩ | ⟨o57,ho56,rfl,rfl,hr67,_⟩)
 ·
  have h:=ak.e_nil ho56 h
  refine cwV 34 [_,_] (mV (k:=sV exV (k:=sV exV (k:=aU (v:=.nilIface) (k:=aV (k:=BX (BZ ?_)))))))
  refine mV (k:=mU (v:=.nilIface) (k:=?_))
  obtain⟨z68,hz69,h⟩:=bnd h
  refine ecV [0] (caV E1) (λw hp=>bq (hob_33.mono (hl35.trans hl53)) hp hz69) ?_
  rintro Γ70 _ _ hl71 ⟨rfl,rfl,_⟩
  refine cwV 39 [_,_] (BX (BZ (aV (k:=BX ?_))))
  exact C2 λw hw=>re_ r [0,0] h hF hw ⟨row_33,row37,rfl,rfl,(hob_33.mono ((hl35.trans hl53).trans hl71)),(ho38.mono (hl53.trans hl71)),iV,trivial⟩
 ·
  have h:=ak.e_queue_issue ho56 h
  refine cwV 34 [_,_] (mV (k:=sV exV (k:=sV exV (k:=aU (v:=.iface 83 (.agg (Rec.cs A58 c59 o57.r).toArray)) (k:=aV (k:=BX (BZ ?_)))))))
  refine mV (k:=mU (v:=.iface 83 (.agg (Rec.cs A58 c59 o57.r).toArray)) (k:=?_))
  obtain⟨z74,hz75,h⟩:=bnd h
  refine ecV [0] (caV E1) (λw hp=>b7 (hob_33.mono (hl35.trans hl53)) o57 hr60 hp hz75) ?_
  rintro Γ76 _ _ hl77 ⟨row80,rfl,rfl,hr81,_⟩
  refine cwV 39 [_,_] (BX (BZ (aV (k:=BX ?_))))
  exact C2 λw hw=>re_ r [0,0] h hF hw ⟨row80,row37,rfl,rfl,hr81,(ho38.mono (hl53.trans hl77)),iV,trivial⟩
 ·
  have h:=ak.e_queue_did ho56 h
  refine cwV 34 [_,_] (mV (k:=sV exV (k:=sV exV (k:=aU (v:=.iface 86 (.agg (ae.cs A61 c62 A63 c64 o57).toArray)) (k:=aV (k:=BX (BZ ?_)))))))
  refine mV (k:=mU (v:=.iface 86 (.agg (ae.cs A61 c62 A63 c64 o57).toArray)) (k:=?_))
  obtain⟨z82,hz83,h⟩:=bnd h
  refine ecV [0] (caV E1) (λw hp=>b9 (hob_33.mono (hl35.trans hl53)) o57 hr65 hp hz83) ?_
  rintro Γ84 _ _ hl85 ⟨row88,rfl,rfl,hr89,_⟩
  refine cwV 39 [_,_] (BX (BZ (aV (k:=BX ?_))))
  exact C2 λw hw=>re_ r [0,0] h hF hw ⟨row88,row37,rfl,rfl,hr89,(ho38.mono (hl53.trans hl85)),iV,trivial⟩
 ·
  have h:=ak.e_queue_ack ho56 h
  refine cwV 34 [_,_] (mV (k:=sV exV (k:=sV exV (k:=aU (v:=.iface 95 (.agg (al.cs o57).toArray)) (k:=aV (k:=BX (BZ ?_)))))))
  refine mV (k:=mU (v:=.iface 95 (.agg (al.cs o57).toArray)) (k:=?_))
  obtain⟨z90,hz91,h⟩:=bnd h
  refine ecV [0] (caV E1) (λw hp=>bb (hob_33.mono (hl35.trans hl53)) o57 hr66 hp hz91) ?_
  rintro Γ92 _ _ hl93 ⟨row96,rfl,rfl,hr97,_⟩
  refine cwV 39 [_,_] (BX (BZ (aV (k:=BX ?_))))
  exact C2 λw hw=>re_ r [0,0] h hF hw ⟨row96,row37,rfl,rfl,hr97,(ho38.mono (hl53.trans hl93)),iV,trivial⟩
 have h:=ak.e_queue_clear ho56 h
 refine cwV 34 [_,_] (mV (k:=sV exV (k:=sV exV (k:=aU (v:=.iface 97 (.agg #[ii o57.sink])) (k:=aV (k:=BX (BZ ?_)))))))
 refine mV (k:=mU (v:=.iface 97 (.agg #[ii o57.sink])) (k:=?_))
 obtain⟨z98,hz99,h⟩:=bnd h
 refine ecV [0] (caV E1) (λw hp=>ba (hob_33.mono (hl35.trans hl53)) o57 hr67 hp hz99) ?_
 rintro Γ100 _ _ hl101 ⟨row104,rfl,rfl,hr105,_⟩
 refine cwV 39 [_,_] (BX (BZ (aV (k:=BX ?_))))
 exact C2 λw hw=>re_ r [0,0] h hF hw ⟨row104,row37,rfl,rfl,hr105,(ho38.mono (hl53.trans hl101)),iV,trivial⟩
abbrev oi(gq:Nat)(eq:Nat×Nat)(edk0:Nat)(r:a6×a7×Bool)(U:List Rowb)(Γ:Gh)(v:Value):Prop := ∃(rowq':Rowb), ∃(rowdk0':Rowb),v = .bool r.2.2∧U = [rowq',rowdk0']∧a6.ob eq Γ gq rowq' r.1∧a7.ob edk0 Γ eq.2 rowdk0' r.2.1∧True
theorem p3{gq:Nat}{eq:Nat×Nat}{rowq:Rowb}{q:a6}(hq:a6.ob eq Γ gq rowq q)(sink:Int)(hsink:I64 sink)(seq:Int)(hseq:I64 seq){edk0:Nat}{rowdk0:Rowb}{dk0:a7}(hdk0:a7.ob edk0 Γ eq.2 rowdk0 dk0)(hp:Pre [rowq,rowdk0] Γ w0){r:a6×a7×Bool}(h:kn q sink seq dk0=some r):Calls Tryz.prog 17 #[(pq gq),ii sink,ii seq] w0 (Outc Γ [rowq,rowdk0] w0 (oi gq eq edk0 r)):=by
 refine goV [6] func17 ntmps17 results17 hp λF hF=>?_
 refine BZ (aV (k:=BX (C1 (BZ (mV (k:=sV nlV (k:=sV (q_fl 9 dO) (k:=?_))))))))
 obtain⟨A2_1,c2_1,y5_1,g6_1,r6_1,A7_1,c7_1,A8_1,A9_1,c9_1,r9_1,m11_1,r11_1,A12_1,c12_1,hrow_1,ho0_1,ho1_1,ho2_1,ho3_1,ho4_1,ho5_1,ho6_1,ho7_1,ho8_1,ho9_1,ho10_1,ho11_1,ho12_1,ho13_1,ho14_1,-⟩:=id hq
 refine ufR 0 hrow_1 [_,_,_,_,_] ?_
 refine sV (ldV 0 DX) (k:=?_)
 have hlen2:q.list.length≤lim:=ho10_1.le
 refine sV (ab rfl DZ) (k:=mV (k:=BX (C5 ?_)))
 refine Ci h (λ(i4:Nat) (s:Unit) σ w=>match s with | ()=>slots σ [(0,(pq gq)),(1,ii sink),(2,ii seq),(12,.slice A9_1 q.list.length c9_1),(13,ii (q.list.length:Int)),(14,ii (i4:Int))]∧CC F Γ [[(gq,.cells #[ii q.c_self,ii q.c_sites,.slice A2_1 q.c_links.length c2_1,ii q.c_cap,ii q.c_base,y5_1,(pq g6_1),.slice A7_1 q.applied.length c7_1,.pointer A8_1,.slice A9_1 q.list.length c9_1,ii q.next,.map (some m11_1),.slice A12_1 q.members.length c12_1] eq.1 (0,0))],r6_1,r9_1,r11_1,rowdk0] w∧True) ?_ ?_
 ·
  intro w hw
  exact⟨slK,hw,trivial⟩
 rintro f3 i4 ⟨⟩ σ w hi5 hlt6 hge7 ⟨hsl,hw,-⟩
 refine slV hsl hw [_,_,_,_,_] ?_; clear hw hsl
 refine BZ (sV aQ (k:=BX (C1 ?_)))
 refine coV (λhb8=>?_) (λhb8=>?_)
 ·
  have hl9:=ilt hb8
  have h:=hlt6 hl9
  refine C4 (wc_ (C1 (C5 (BZ (sV (aO (i:=i4) DZ DU rfl rfl rfl hl9 (ho10_1.some_ hl9)) (k:=?_))))))
  obtain⟨g_10,rL_10,rA_10,rM_10,rB_10,cs_10,hrow_10,hrd_10,hvc_10,hsub_10,hm_10,hback_10⟩:=LM.part ho10_1 hl9
  obtain⟨A_10_2,c_10_2,A_10_3,c_10_3,rfl,hrd_10⟩:=hrd_10
  have hs1_10:∀p∈rL_10,p∈r9_1:=λp hp=>by rw [hrow_10]; exact List.mem_append.2 (.inl (hsub_10 p hp))
  have hs2_10:∀p∈rM_10,p∈r9_1:=λp hp=>by rw [hrow_10]; exact List.mem_append.2 (.inr (List.mem_append.2 (.inl hp)))
  refine sV (uJ (c:=0) (vs:=[ii (gt q.list i4).entry.seq,.string (gt q.list i4).entry.rec_.key,.slice A_10_2 ((gt q.list i4).entry.rec_.vers).length c_10_2,.slice A_10_3 ((gt q.list i4).entry.route).length c_10_3,.map (some g_10)]) (i:=2) rfl hs1_10 hvc_10 rfl isAgg89 DU rfl rfl) (k:=?_)
  refine alV zeroValue89 λg11=>?_
  refine stV 0 (.agg #[ii (gt q.list i4).entry.seq,.string (gt q.list i4).entry.rec_.key,.slice A_10_2 ((gt q.list i4).entry.rec_.vers).length c_10_2,.slice A_10_3 ((gt q.list i4).entry.route).length c_10_3,.map (some g_10)]) #[ii (gt q.list i4).entry.seq,.string (gt q.list i4).entry.rec_.key,.slice A_10_2 ((gt q.list i4).entry.rec_.vers).length c_10_2,.slice A_10_3 ((gt q.list i4).entry.route).length c_10_3,.map (some g_10)] DU (k:=BX (BZ (sV (q_fl 0 mI) (k:=sV (q_fl 0 qO) (k:=sV (ldV 0 D0) (k:=mV (k:=sV bD (k:=?_))))))))
  refine mV (k:=vG1 (h:=λhg12=>q_fl 4 lk) (k:=vG1 (h:=λhg13=>ldV 0 DV (hx:=grV hg13)) (k:=vG1 (h:=λhg14=>moV) (k:=?_))))
  obtain⟨v16,hv17,hat18⟩:=MapO.look hm_10 sink (z:=.bool false) (zx:=false) rfl
  obtain rfl:v16=_:=List.cons.inj hv17 |>.1
  refine vG1 (h:=λhg15=>qS (v:=.bool ((mget sink ((gt q.list i4).want)).getD false)) (λw hw p hp=>hw.at_ (i:=3) rfl (hs2_10 p hp)) hat18 rfl DW zeroValue4 (grV hg15) (grV hg15)) (k:=sV pkA (k:=BX ?_))
  refine ciV h (λhb19 h=>?_) (λhb19 h=>?_)
  ·
   refine BZ (mV (k:=mV (k:=mV (k:=sV (aR (v:=.agg #[ii sink,ii seq]) rfl (ib rfl rfl) (λw=>by kernel_rfl)) (k:=sV (eD rfl rfl (λw=>mkif DE w)) (k:=?_))))))
   refine foR [1,1,1,1] hrow_1 [_,_,_] ?_
   obtain⟨z21,hz22,h⟩:=bnd h
   refine ecV [0,1] (caV call27) (λw hp=>ld hq (⟨sink,seq⟩:al) ⟨hsink,hseq⟩ false hdk0 hp hz22) ?_
   rintro Γ23 _ _ hl24 ⟨row27,row29,rfl,rfl,hr28,hr30,hr31,_⟩
   refine cwV 34 [_,_,_] (sV bD (k:=aV (k:=BX ?_)))
   exact C2 λw hw=>re_ r [0,0] h hF hw ⟨row27,row29,rfl,rfl,hr28,hr30,trivial⟩
  refine C4 (wc_ ?_)
  refine C3 ?_
  refine sV (aw rfl rfl rfl (aA hl9 hlen2)) (k:=mV (k:=?_))
  exact C0 λw hw=>⟨hl9,(),h,slK,(hw.on [1,1,1,1,1]),trivial⟩
 have h:=hge7 (ige hb8)
 refine C8 ?_
 change WC _ _ _ _ _ _
 refine BZ (aV (k:=BX ?_))
 refine C2 ?_
 intro w hw
 have hw:=hw.fold (is:=[0,0,0,0]) rfl hrow_1
 exact re_ r [0,0] h hF hw ⟨rowq,rowdk0,rfl,rfl,hq,hdk0,trivial⟩
abbrev oD(gq:Nat)(eq:Nat×Nat)(rowq:Rowb)(r:Int)(U:List Rowb)(Γ:Gh)(v:Value):Prop:=v = .int .i64 r∧U = [rowq]∧I64 r∧True
theorem oh{gq:Nat}{eq:Nat×Nat}{rowq:Rowb}{q:a6}(hq:a6.ob eq Γ gq rowq q)(hp:Pre [rowq] Γ w0){r:Int}(h:kp q=some r):Calls Tryz.prog 18 #[(pq gq)] w0 (Outc Γ [rowq] w0 (oD gq eq rowq r)):=by
 refine goV [2] func18 ntmps18 results18 hp λF hF=>?_
 refine BZ (aV (k:=BX (BZ (mV (k:=sV nlV (k:=sV (q_fl 9 dO) (k:=?_)))))))
 obtain⟨A2_1,c2_1,y5_1,g6_1,r6_1,A7_1,c7_1,A8_1,A9_1,c9_1,r9_1,m11_1,r11_1,A12_1,c12_1,hrow_1,ho0_1,ho1_1,ho2_1,ho3_1,ho4_1,ho5_1,ho6_1,ho7_1,ho8_1,ho9_1,ho10_1,ho11_1,ho12_1,ho13_1,ho14_1,-⟩:=id hq
 refine ufR 0 hrow_1 [_,_,_,_] ?_
 refine sV (ldV 0 DX) (k:=?_)
 have hlen2:q.list.length≤lim:=ho10_1.le
 refine sV (ab rfl DZ) (k:=aV (k:=BX ?_))
 refine C2 ?_
 intro w hw
 have hw:=hw.fold (is:=[0,0,0,0]) rfl hrow_1
 exact re_ r [0] h hF hw ⟨rfl,rfl,(jT hlen2),trivial⟩
abbrev pk(r:List UInt8)(U:List Rowb)(Γ:Gh)(v:Value):Prop := ∃(A0:Option Addr), ∃(c0:Nat), ∃(row0:Rowb),v = .slice A0 r.length c0∧U = [row0]∧Own ay Γ 5 row0 A0 c0 r∧True
theorem pc(x_:ax)(hx_:ax.fits Γ  x_)(hp:Pre [] Γ w0){r:List UInt8}(h:kY x_=some r):Calls Tryz.prog 61 #[.iface 97 (.agg #[ii x_.sink])] w0 (Outc Γ [] w0 (pk r)):=by
 refine goV [2] func61 ntmps61 results61 hp λF hF=>?_
 refine BZ (aV (k:=BX (C1 (BZ (mU (v:=.iface 97 (.agg #[ii x_.sink])) (k:=BX (C5 ?_)))))))
 refine BZ (sV (aI DC DG rfl rfl rfl) (k:=sV exV (k:=sV exV (k:=BX ?_))))
 refine Cb (b:=false) (by kernel_rfl) rfl ?_
 refine BZ (sV (aI DD DH rfl rfl rfl) (k:=sV exV (k:=sV exV (k:=BX ?_))))
 refine Cb (b:=false) (by kernel_rfl) rfl ?_
 refine BZ (sV (aI DJ DK rfl rfl rfl) (k:=sV exV (k:=sV exV (k:=BX ?_))))
 refine Cb (b:=false) (by kernel_rfl) rfl ?_
 refine BZ (sV (aI DE DL rfl rfl rfl) (k:=sV exV (k:=sV exV (k:=BX ?_))))
 refine Cb (b:=false) (by kernel_rfl) rfl ?_
 refine BZ (sV (df DF rfl rfl) (k:=sV exV (k:=sV exV (k:=BX ?_))))
 refine Ch (b:=true) (by kernel_rfl) rfl ?_
 refine BZ ?_
 refine alV DM λg1=>?_
 refine stV 0 (.agg #[ii x_.sink]) #[ii x_.sink] sizeOf97 (k:=BX (BZ (sV (q_fl 0 qT) (k:=sV (ldV 0 D0) (k:=?_)))))
 refine bsV #[ii 5,ii x_.sink] 2 λg2=>?_
 have ho3:Own intT Γ 2 [(g2,.cells #[ii 5,ii x_.sink] 2 (0,0))] (some ⟨g2,0,none⟩) 2 [5,x_.sink]:=C7 (T:=intT) (ys:=[5,x_.sink]) [[ii 5],[ii x_.sink]] rfl (show 2≤lim by decide) ⟨⟨rfl,iV⟩,⟨rfl,hx_⟩,trivial⟩
 have hc8:=ho3.capz
 refine seR 0 [_,_] λΓ4 hl5 hr6=>?_
 have hs7:=ho3.sl hl5 hr6
 refine WR.sub (λw hw=>hw.pad) ?_
 obtain⟨z9,hz10,h⟩:=bnd h
 refine ecV [0] (caV call86) (λw hp=>dA (Own.nil ay Γ4 5) hs7 hc8 hp hz10) ?_
 rintro Γ11 _ _ hl12 ⟨A15,c16,row17,rfl,rfl,hr18,_⟩
 refine cwV 55 [_,_,_] (aV (k:=BX ?_))
 exact C2 λw hw=>re_ r [0] h hF hw ⟨A15,c16,row17,rfl,rfl,hr18,trivial⟩
abbrev kZ(gq:Nat)(eq:Nat×Nat)(edk0:Nat)(r:a6×a7×Int)(U:List Rowb)(Γ:Gh)(v:Value):Prop := ∃(rowq':Rowb), ∃(rowdk0':Rowb),v = .int .i64 r.2.2∧U = [rowq',rowdk0']∧a6.ob eq Γ gq rowq' r.1∧a7.ob edk0 Γ eq.2 rowdk0' r.2.1∧I64 r.2.2∧True
theorem li{gq:Nat}{eq:Nat×Nat}{rowq:Rowb}{q:a6}(hq:a6.ob eq Γ gq rowq q)(x_:ax)(hx_:ax.fits Γ  x_)(sync:Bool){edk0:Nat}{rowdk0:Rowb}{dk0:a7}(hdk0:a7.ob edk0 Γ eq.2 rowdk0 dk0)(hp:Pre [rowq,rowdk0] Γ w0){r:a6×a7×Int}(h:io q x_ sync dk0=some r):Calls Tryz.prog 27 #[(pq gq),.iface 97 (.agg #[ii x_.sink]),.bool sync] w0 (Outc Γ [rowq,rowdk0] w0 (kZ gq eq edk0 r)):=by
 refine goV [6] func27 ntmps27 results27 hp λF hF=>?_
 refine BZ (aV (k:=BX (C1 (BZ (mV (k:=mU (v:=.iface 97 (.agg #[ii x_.sink])) (k:=?_)))))))
 obtain⟨z1,hz2,h⟩:=bnd h
 refine vqV (caV E0) (λw hw=>d8 (Γ:=Gh.all w) (hq.mono hw.sat.le_all) (hw.ra 0 rfl) x_ hx_ (Sat.all w) hz2) (k:=sV aX (k:=BX ?_))
 refine ciV h (λhb3 h=>?_) (λhb3 h=>?_)
 ·
  refine BZ (aV (k:=BX ?_))
  exact C2 λw hw=>re_ r [0,0] h hF hw ⟨rowq,rowdk0,rfl,rfl,hq,hdk0,iV,trivial⟩
 refine C4 (wc_ (BZ (mU (v:=.iface 97 (.agg #[ii x_.sink])) (k:=?_))))
 obtain⟨z4,hz5,h⟩:=bnd h
 refine ecV [] (caV call61) (λw hp=>pc x_ hx_ hp hz5) ?_
 rintro Γ6 _ _ hl7 ⟨A10,c11,row12,rfl,rfl,hr13,_⟩
 refine cwV 16 [_,_,_] (aV (k:=BX (C1 (BZ (mV (k:=sV nlV (k:=sV (q_fl 6 gW) (k:=?_))))))))
 obtain⟨A2_14,c2_14,y5_14,g6_14,r6_14,A7_14,c7_14,A8_14,A9_14,c9_14,r9_14,m11_14,r11_14,A12_14,c12_14,hrow_14,ho0_14,ho1_14,ho2_14,ho3_14,ho4_14,ho5_14,ho6_14,ho7_14,ho8_14,ho9_14,ho10_14,ho11_14,ho12_14,ho13_14,ho14_14,-⟩:=(hq.mono hl7)
 refine ufR 1 hrow_14 [_,_,_,_,_,_] ?_
 refine sV (ldV 0 Di) (k:=mV (k:=?_))
 have hc19:=hr13.capz
 refine seR 4 [_,_,_,_,_,_] λΓ15 hl16 hr17=>?_
 have hs18:=hr13.sl hl16 hr17
 obtain⟨z20,hz21,h⟩:=bnd h
 refine ecV [1,4] (caV call62) (λw hp=>dq (ho6_14.mono hl16) hs18 hc19 (hdk0.mono (hl7.trans hl16)) hp hz21) ?_
 rintro Γ22 _ _ hl23 ⟨row26,row28,rfl,rfl,hr27,hr29,hr30,_⟩
 refine cwV 22 [_,_,_,_,_,_] (aV (k:=BX (BZ (mV (k:=sV bO (k:=BX ?_))))))
 refine ciV h (λhb31 h=>?_) (λhb31 h=>?_)
 ·
  refine BZ (mV (k:=aV (k:=BX ?_)))
  refine C2 ?_
  intro w hw
  obtain⟨row_32,hrow_32,hob_32⟩:∃rw:Rowb,rw=([[(gq,.cells #[ii q.c_self,ii q.c_sites,.slice A2_14 q.c_links.length c2_14,ii q.c_cap,ii q.c_base,y5_14,(pq g6_14),.slice A7_14 q.applied.length c7_14,.pointer A8_14,.slice A9_14 q.list.length c9_14,ii q.next,.map (some m11_14),.slice A12_14 q.members.length c12_14] eq.1 (0,0))],row26,r9_14,r11_14]:List Rowb).flatten∧a6.ob eq Γ22 gq rw (⟨q.c_self,q.c_sites,q.c_links,q.c_cap,q.c_base,z20.1,q.applied,q.under,q.list,q.next,q.gaps,q.members⟩:a6):=⟨_,rfl,A2_14,c2_14,(y5_14),g6_14,row26,A7_14,c7_14,A8_14,A9_14,c9_14,r9_14,m11_14,r11_14,A12_14,c12_14,rfl,ho0_14,ho1_14,ho2_14,(ho3_14.mono (hl16.trans hl23)),ho4_14,ho5_14,hr27,ho7_14,(ho8_14.mono (hl16.trans hl23)),(ho9_14.mono (hl16.trans hl23)),(ho10_14.mono (hl16.trans hl23)),ho11_14,(ho12_14.mono (hl16.trans hl23)),ho13_14,(ho14_14.mono (hl16.trans hl23)),trivial⟩
  have hw:=hw.fold (is:=[2,0,1,1]) rfl hrow_32
  cases h
  subst hF
  exact aM (is:=[0,0]) (by kernel_rfl) hw rfl ⟨row_32,row28,rfl,rfl,hob_32,hr29,hr30,trivial⟩
 refine C4 (wc_ ?_)
 obtain⟨row_33,hrow_33,hob_33⟩:∃rw:Rowb,rw=([[(gq,.cells #[ii q.c_self,ii q.c_sites,.slice A2_14 q.c_links.length c2_14,ii q.c_cap,ii q.c_base,y5_14,(pq g6_14),.slice A7_14 q.applied.length c7_14,.pointer A8_14,.slice A9_14 q.list.length c9_14,ii q.next,.map (some m11_14),.slice A12_14 q.members.length c12_14] eq.1 (0,0))],row26,r9_14,r11_14]:List Rowb).flatten∧a6.ob eq Γ22 gq rw (⟨q.c_self,q.c_sites,q.c_links,q.c_cap,q.c_base,z20.1,q.applied,q.under,q.list,q.next,q.gaps,q.members⟩:a6):=⟨_,rfl,A2_14,c2_14,(y5_14),g6_14,row26,A7_14,c7_14,A8_14,A9_14,c9_14,r9_14,m11_14,r11_14,A12_14,c12_14,rfl,ho0_14,ho1_14,ho2_14,(ho3_14.mono (hl16.trans hl23)),ho4_14,ho5_14,hr27,ho7_14,(ho8_14.mono (hl16.trans hl23)),(ho9_14.mono (hl16.trans hl23)),(ho10_14.mono (hl16.trans hl23)),ho11_14,(ho12_14.mono (hl16.trans hl23)),ho13_14,(ho14_14.mono (hl16.trans hl23)),trivial⟩
 refine foC [2,0,1,1] hrow_33 [_,_,_] ?_
 refine Ce (λσ w => ∃(o36:a7), ∃(Γ34:Gh), ∃(row37:Rowb),dN q z4 z20 o36=some r∧slots σ [(0,(pq gq)),(7,.slice A10 z4.length c11)]∧CC F Γ34 [row_33,row37] w∧Gh.le Γ22 Γ34∧a7.ob edk0 Γ34 eq.2 row37 o36∧True) ?_ ?_
 ·
  refine BZ (mV (k:=BX ?_))
  refine ciV h (λhb39 h=>?_) (λhb39 h=>?_)
  ·
   refine C3 ?_
   refine mV (k:=sV nlV (k:=sV (q_fl 6 gW) (k:=?_)))
   obtain⟨A2_40,c2_40,y5_40,g6_40,r6_40,A7_40,c7_40,A8_40,A9_40,c9_40,r9_40,m11_40,r11_40,A12_40,c12_40,hrow_40,ho0_40,ho1_40,ho2_40,ho3_40,ho4_40,ho5_40,ho6_40,ho7_40,ho8_40,ho9_40,ho10_40,ho11_40,ho12_40,ho13_40,ho14_40,-⟩:=id hob_33
   refine ufR 0 hrow_40 [_,_,_,_,_,_] ?_
   refine sV (ldV 0 Di) (k:=?_)
   obtain⟨z41,hz42,h⟩:=bnd h
   refine ecV [1,3] (caV call63) (λw hp=>ey ho6_40 hr29 hp hz42) ?_
   rintro Γ43 _ _ hl44 ⟨row47,rfl,rfl,hr48,_⟩
   refine cwV 31 [_,_,_,_,_,_] ?_
   refine C0 ?_
   intro w hw
   have hw:=hw.fold (is:=[2,0,1,1]) rfl hrow_40
   exact⟨z41,Γ43,row47,h,slK,(hw.on [0,0]),hl44,hr48,trivial⟩
  exact C4 λw hw=>⟨z20.2.1,Γ22,row28,h,slK,(hw.on [0,0]),gR,hr29,trivial⟩
 rintro σ w ⟨o36,Γ34,row37,h,hsl,hw,hl35,ho38,-⟩
 refine slV hsl hw [_,_] ?_; clear hw hsl
 refine BZ (mV (k:=?_))
 obtain⟨z50,hz51,h⟩:=bnd h
 refine ecV [] (caV call23) (λw hp=>dC (hs18.mono (hl23.trans hl35)) hc19 hp hz51) ?_
 rintro Γ52 _ _ hl53 (⟨ho56,rfl,rfl,_⟩ | ⟨o57,ho56,A58,c59,rfl,rfl,hr60,_⟩ | ⟨o57,ho56,A61,c62,A63,c64,rfl,rfl,hr65,_⟩ | ⟨o57,ho56,rfl,rfl,hr66,_⟩ | ⟨o57,ho56,rfl,rfl,hr67,_⟩)
 ·
  have h:=ak.e_nil ho56 h
  refine cwV 34 [_,_] (mV (k:=sV exV (k:=sV exV (k:=aU (v:=.nilIface) (k:=aV (k:=BX (BZ ?_)))))))
  refine mV (k:=mU (v:=.nilIface) (k:=?_))
  obtain⟨z68,hz69,h⟩:=bnd h
  refine ecV [0] (caV E1) (λw hp=>bq (hob_33.mono (hl35.trans hl53)) hp hz69) ?_
  rintro Γ70 _ _ hl71 ⟨rfl,rfl,_⟩
  refine cwV 39 [_,_] (BX (BZ (aV (k:=BX ?_))))
  exact C2 λw hw=>re_ r [0,0] h hF hw ⟨row_33,row37,rfl,rfl,(hob_33.mono ((hl35.trans hl53).trans hl71)),(ho38.mono (hl53.trans hl71)),iV,trivial⟩
 ·
  have h:=ak.e_queue_issue ho56 h
  refine cwV 34 [_,_] (mV (k:=sV exV (k:=sV exV (k:=aU (v:=.iface 83 (.agg (Rec.cs A58 c59 o57.r).toArray)) (k:=aV (k:=BX (BZ ?_)))))))
  refine mV (k:=mU (v:=.iface 83 (.agg (Rec.cs A58 c59 o57.r).toArray)) (k:=?_))
  obtain⟨z74,hz75,h⟩:=bnd h
  refine ecV [0] (caV E1) (λw hp=>b7 (hob_33.mono (hl35.trans hl53)) o57 hr60 hp hz75) ?_
  rintro Γ76 _ _ hl77 ⟨row80,rfl,rfl,hr81,_⟩
  refine cwV 39 [_,_] (BX (BZ (aV (k:=BX ?_))))
  exact C2 λw hw=>re_ r [0,0] h hF hw ⟨row80,row37,rfl,rfl,hr81,(ho38.mono (hl53.trans hl77)),iV,trivial⟩
 ·
  have h:=ak.e_queue_did ho56 h
  refine cwV 34 [_,_] (mV (k:=sV exV (k:=sV exV (k:=aU (v:=.iface 86 (.agg (ae.cs A61 c62 A63 c64 o57).toArray)) (k:=aV (k:=BX (BZ ?_)))))))
  refine mV (k:=mU (v:=.iface 86 (.agg (ae.cs A61 c62 A63 c64 o57).toArray)) (k:=?_))
  obtain⟨z82,hz83,h⟩:=bnd h
  refine ecV [0] (caV E1) (λw hp=>b9 (hob_33.mono (hl35.trans hl53)) o57 hr65 hp hz83) ?_
  rintro Γ84 _ _ hl85 ⟨row88,rfl,rfl,hr89,_⟩
  refine cwV 39 [_,_] (BX (BZ (aV (k:=BX ?_))))
  exact C2 λw hw=>re_ r [0,0] h hF hw ⟨row88,row37,rfl,rfl,hr89,(ho38.mono (hl53.trans hl85)),iV,trivial⟩
 ·
  have h:=ak.e_queue_ack ho56 h
  refine cwV 34 [_,_] (mV (k:=sV exV (k:=sV exV (k:=aU (v:=.iface 95 (.agg (al.cs o57).toArray)) (k:=aV (k:=BX (BZ ?_)))))))
  refine mV (k:=mU (v:=.iface 95 (.agg (al.cs o57).toArray)) (k:=?_))
  obtain⟨z90,hz91,h⟩:=bnd h
  refine ecV [0] (caV E1) (λw hp=>bb (hob_33.mono (hl35.trans hl53)) o57 hr66 hp hz91) ?_
  rintro Γ92 _ _ hl93 ⟨row96,rfl,rfl,hr97,_⟩
  refine cwV 39 [_,_] (BX (BZ (aV (k:=BX ?_))))
  exact C2 λw hw=>re_ r [0,0] h hF hw ⟨row96,row37,rfl,rfl,hr97,(ho38.mono (hl53.trans hl93)),iV,trivial⟩
 have h:=ak.e_queue_clear ho56 h
 refine cwV 34 [_,_] (mV (k:=sV exV (k:=sV exV (k:=aU (v:=.iface 97 (.agg #[ii o57.sink])) (k:=aV (k:=BX (BZ ?_)))))))
 refine mV (k:=mU (v:=.iface 97 (.agg #[ii o57.sink])) (k:=?_))
 obtain⟨z98,hz99,h⟩:=bnd h
 refine ecV [0] (caV E1) (λw hp=>ba (hob_33.mono (hl35.trans hl53)) o57 hr67 hp hz99) ?_
 rintro Γ100 _ _ hl101 ⟨row104,rfl,rfl,hr105,_⟩
 refine cwV 39 [_,_] (BX (BZ (aV (k:=BX ?_))))
 exact C2 λw hw=>re_ r [0,0] h hF hw ⟨row104,row37,rfl,rfl,hr105,(ho38.mono (hl53.trans hl101)),iV,trivial⟩
abbrev ns(gq:Nat)(eq:Nat×Nat)(edk0:Nat)(r:a6×a7×Int)(U:List Rowb)(Γ:Gh)(v:Value):Prop := ∃(rowq':Rowb), ∃(rowdk0':Rowb),v = .int .i64 r.2.2∧U = [rowq',rowdk0']∧a6.ob eq Γ gq rowq' r.1∧a7.ob edk0 Γ eq.2 rowdk0' r.2.1∧I64 r.2.2∧True
theorem nf{gq:Nat}{eq:Nat×Nat}{rowq:Rowb}{q:a6}(hq:a6.ob eq Γ gq rowq q)(sink:Int)(hsink:I64 sink){edk0:Nat}{rowdk0:Rowb}{dk0:a7}(hdk0:a7.ob edk0 Γ eq.2 rowdk0 dk0)(hp:Pre [rowq,rowdk0] Γ w0){r:a6×a7×Int}(h:jD q sink dk0=some r):Calls Tryz.prog 19 #[(pq gq),ii sink] w0 (Outc Γ [rowq,rowdk0] w0 (ns gq eq edk0 r)):=by
 refine goV [4] func19 ntmps19 results19 hp λF hF=>?_
 refine BZ (aV (k:=BX (C1 (BZ (mV (k:=sV nlV (k:=sV (q_fl 11 og) (k:=?_))))))))
 obtain⟨A2_1,c2_1,y5_1,g6_1,r6_1,A7_1,c7_1,A8_1,A9_1,c9_1,r9_1,m11_1,r11_1,A12_1,c12_1,hrow_1,ho0_1,ho1_1,ho2_1,ho3_1,ho4_1,ho5_1,ho6_1,ho7_1,ho8_1,ho9_1,ho10_1,ho11_1,ho12_1,ho13_1,ho14_1,-⟩:=id hq
 refine ufR 0 hrow_1 [_,_,_,_,_] ?_
 refine sV (ldV 0 DV) (k:=mV (k:=?_))
 obtain⟨v2,hv3,hat4⟩:=MapO.look ho12_1 sink (z:=.bool false) (zx:=false) rfl
 obtain rfl:v2=_:=List.cons.inj hv3 |>.1
 refine sV (mT (v:=.bool ((mget sink q.gaps).getD false)) hat4 rfl DW zeroValue4 rfl rfl (i:=3) rfl) (k:=sV aX (k:=BX ?_))
 refine ciV h (λhb5 h=>?_) (λhb5 h=>?_)
 ·
  refine BZ (aV (k:=BX ?_))
  refine C2 ?_
  intro w hw
  have hw:=hw.fold (is:=[0,0,0,0]) rfl hrow_1
  exact re_ r [0,0] h hF hw ⟨rowq,rowdk0,rfl,rfl,hq,hdk0,iV,trivial⟩
 refine C4 (wc_ (BZ (mV (k:=mV (k:=sV (aR (v:=.agg #[ii sink]) rfl (jy rfl) (λw=>by kernel_rfl)) (k:=sV (eD rfl rfl (λw=>mkif DF w)) (k:=?_)))))))
 refine foR [0,0,0,0] hrow_1 [_,_] ?_
 obtain⟨z8,hz9,h⟩:=bnd h
 refine ecV [0,0] (caV call27) (λw hp=>li hq (⟨sink⟩:ax) hsink true hdk0 hp hz9) ?_
 rintro Γ10 _ _ hl11 ⟨row14,row16,rfl,rfl,hr15,hr17,hr18,_⟩
 refine cwV 16 [_,_] (aV (k:=BX ?_))
 exact C2 λw hw=>re_ r [0,0] h hF hw ⟨row14,row16,rfl,rfl,hr15,hr17,hr18,trivial⟩
abbrev jZ(r:List Int)(U:List Rowb)(Γ:Gh)(v:Value):Prop := ∃(A0:Option Addr), ∃(c0:Nat), ∃(row0:Rowb),v = .slice A0 r.length c0∧U = [row0]∧Own intT Γ 2 row0 A0 c0 r∧True
theorem jP{As_:Option Addr}{cs_:Nat}{s_:List Int}(hs_:Sl intT Γ As_ s_)(hs_c:s_.length≤cs_)(hp:Pre [] Γ w0){r:List Int}(h:dT s_=some r):Calls Tryz.prog 29 #[.slice As_ s_.length cs_] w0 (Outc Γ [] w0 (jZ r)):=by
 refine goV [2] func29 ntmps29 results29 hp λF hF=>?_
 refine BZ (aV (k:=BX (C1 (BZ (mV (k:=sV (jx DN rfl rfl rfl) (k:=BX ?_)))))))
 refine WC.cnil h (by kernel_rfl) (λhb=>hs_.none_nil hb) (λhb1 h=>?_) (λhb1 h=>?_)
 ·
  refine BZ (aV (k:=BX ?_))
  refine C2 ?_
  intro w hw
  have hw:=hw.pad
  exact re_ r [0] h hF hw ⟨none,0,[],rfl,rfl,(Own.nil intT _ 2),trivial⟩
 refine C4 (wc_ (BZ ?_))
 refine bsV #[] 2 λg2=>?_
 refine mV (k:=?_)
 have ho3:Own intT Γ 2 [(g2,.cells #[] 2 (0,0))] (some ⟨g2,0,none⟩) 0 ([]:List Int):=C7 (T:=intT) (ys:=([]:List Int)) [] rfl (show 0≤lim by decide) (show True from trivial)
 obtain⟨hk4,h⟩:=ag h
 refine apV 0 s_ iz ho3 (Cl hk4) (λw hw=>kQ hs_ hw) ?_
 intro row5 A6 c7 ho8
 refine aV (k:=BX ?_)
 exact C2 λw hw=>re_ r [0] h hF hw ⟨A6,c7,row5,rfl,rfl,ho8,trivial⟩
abbrev m4(gq:Nat)(eq:Nat×Nat)(rowq:Rowb)(r:List Int)(U:List Rowb)(Γ:Gh)(v:Value):Prop := ∃(A0:Option Addr), ∃(c0:Nat), ∃(row0:Rowb),v = .slice A0 r.length c0∧U = [rowq,row0]∧Own intT Γ 2 row0 A0 c0 r∧True
theorem m3{gq:Nat}{eq:Nat×Nat}{rowq:Rowb}{q:a6}(hq:a6.ob eq Γ gq rowq q)(hp:Pre [rowq] Γ w0){r:List Int}(h:b5 q=some r):Calls Tryz.prog 11 #[(pq gq)] w0 (Outc Γ [rowq] w0 (m4 gq eq rowq r)):=by
 refine goV [2] func11 ntmps11 results11 hp λF hF=>?_
 refine BZ (aV (k:=BX (BZ (mV (k:=sV nlV (k:=sV (q_fl 7 cj) (k:=?_)))))))
 obtain⟨A2_1,c2_1,y5_1,g6_1,r6_1,A7_1,c7_1,A8_1,A9_1,c9_1,r9_1,m11_1,r11_1,A12_1,c12_1,hrow_1,ho0_1,ho1_1,ho2_1,ho3_1,ho4_1,ho5_1,ho6_1,ho7_1,ho8_1,ho9_1,ho10_1,ho11_1,ho12_1,ho13_1,ho14_1,-⟩:=id hq
 refine ufR 0 hrow_1 [_,_,_,_] ?_
 refine sV (ldV 0 DP) (k:=?_)
 obtain⟨z2,hz3,h⟩:=bnd h
 refine ecV [] (caV call29) (λw hp=>jP ho8_1 ho7_1 hp hz3) ?_
 rintro Γ4 _ _ hl5 ⟨A8,c9,row10,rfl,rfl,hr11,_⟩
 refine cwV 7 [_,_,_,_,_] (aV (k:=BX ?_))
 refine C2 ?_
 intro w hw
 have hw:=hw.fold (is:=[1,1,1,1]) rfl hrow_1
 exact re_ r [0,0] h hF hw ⟨A8,c9,row10,rfl,rfl,hr11,trivial⟩
theorem iB{Aa:Option Addr}{ca:Nat}{a:List Int}(ha:Sl intT Γ Aa a)(hac:a.length≤ca){Ab:Option Addr}{cb:Nat}{b:List Int}(hb:Sl intT Γ Ab b)(hbc:b.length≤cb)(hs:Sat Γ w0){r:Bool}(h:de a b=some r):CQ Tryz.prog 15 #[.slice Aa a.length ca,.slice Ab b.length cb] w0 (.bool r):=by
 refine goQ [4] func15 ntmps15 results15 hs λF hF=>?_
 refine BZ (aV (k:=BX (C1 (BZ (mV (k:=sV (ab rfl DN) (k:=mV (k:=?_))))))))
 refine sV (ab rfl DN) (k:=sV bO (k:=BX ?_))
 refine ciV h (λhb1 h=>?_) (λhb1 h=>?_)
 ·
  refine BZ (aV (k:=BX ?_))
  exact C2 λw hw=>rq_ r h hF hw
 refine C4 (wc_ (C1 (BZ (aV (k:=BX (C5 ?_))))))
 refine Cc h (λ(i3:Nat) (s:Unit) σ w=>match s with | ()=>slots σ [(0,.slice Aa a.length ca),(1,.slice Ab b.length cb),(5,ii (i3:Int))]∧CC F Γ [] w∧True) ?_ ?_
 ·
  intro w hw
  exact⟨slK,hw,trivial⟩
 rintro f2 i3 ⟨⟩ σ w hi4 hlt5 hge6 ⟨hsl,hw,-⟩
 refine slV hsl hw [] ?_; clear hw hsl
 refine C1 (BZ (mV (k:=mV (k:=sV (ab rfl DN) (k:=sV aQ (k:=BX ?_))))))
 refine coV (λhb7=>?_) (λhb7=>?_)
 ·
  have hl8:=ilt hb7
  have h:=hlt5 hl8
  refine C4 (wc_ (C1 (C5 (C1 ?_))))
  refine drV ?_
  refine zV moV (k:=zV moV (k:=zV (aO (i:=i3) DN Dh rfl rfl rfl hl8 (ha.some_ hl8)) (k:=zV (q_ld (c:=0) (v:=ii (gt a i3)) (ha.intT_at hl8).2 rfl D0 rfl rfl) (k:=zV moV (k:=zV moV (k:=?_))))))
  obtain⟨hk9,h⟩:=ag h
  refine zV (aO (i:=i3) DN Dh rfl rfl rfl (Cl hk9) (hb.some_ (Cl hk9))) (k:=zV (q_ld (c:=0) (v:=ii (gt b i3)) (hb.intT_at (Cl hk9)).2 rfl D0 rfl rfl) (k:=zV bO (k:=?_)))
  refine Cd ?_
  change WC _ _ _ _ _ _
  refine ciV h (λhb10 h=>?_) (λhb10 h=>?_)
  ·
   refine BZ (aV (k:=BX ?_))
   exact C2 λw hw=>rq_ r h hF hw
  refine C4 (wc_ ?_)
  refine C3 ?_
  refine mV (k:=sV (aw rfl rfl rfl (aA hl8 ha.le)) (k:=aV (k:=?_)))
  exact C0 λw hw=>⟨hl8,(),h,slK,hw,trivial⟩
 have h:=hge6 (ige hb7)
 refine C8 ?_
 change WC _ _ _ _ _ _
 refine BZ (aV (k:=BX ?_))
 exact C2 λw hw=>rq_ r h hF hw
theorem nW(hs:Sat Γ w0){r:Bool}(h:ig=some r):CQ Tryz.prog 4 #[] w0 (.bool r):=by
 refine goQ [0] func4 ntmps4 results4 hs λF hF=>?_
 refine BZ (aV (k:=BX (BZ ?_)))
 obtain⟨z1,hz2,h⟩:=bnd h
 refine ecV [] (caV call7) (λw hp=>qJ 9000 iV hp hz2) ?_
 rintro Γ3 _ _ hl4 ⟨g7,row8,rfl,rfl,hr9,_⟩
 refine cwV 11 [_] ?_
 obtain⟨z10,hz11,h⟩:=bnd h
 refine ecV [] (caV call5) (λw hp=>lc  hp hz11) ?_
 rintro Γ12 _ _ hl13 ⟨A16,c17,A18,c19,rfl,rfl,hr20,_⟩
 refine cwV 12 [_] ?_
 obtain⟨z21,hz22,h⟩:=bnd h
 refine ecV [0] (caV call6) (λw hp=>tu (hr9.mono hl13) 256 iV z10 hr20 hp hz22) ?_
 rintro Γ23 _ _ hl24 ⟨row27,g29,row30,rfl,rfl,hr28,hr31,hr32,_⟩
 refine cwV 13 [_,_] (mV (k:=sV exV (k:=sV exV (k:=aU (v:=optp z21.2.1 g29) (k:=aV (k:=BX (C1 ?_)))))))
 refine BZ (mU (v:=optp z21.2.1 g29) (k:=sV (sG underlying27 rfl rfl rfl) (k:=mV (k:=vG0 (h:=λhg33=>moV) (k:=vG0 (h:=λhg34=>bO rfl (grV hg34)) (k:=sV pkO (k:=BX ?_)))))))
 refine ciV h (λhb35 h=>?_) (λhb35 h=>?_)
 ·
  refine BZ (aV (k:=BX ?_))
  exact C2 λw hw=>rq_ r h hF hw
 obtain⟨z36,hz37,h⟩:=bnd h
 have ho38:=lN hr31 hz37
 refine C4 (wc_ (BZ (sV (au (v:=(pq g29)) rfl (aW rfl hz37)) (k:=?_))))
 obtain⟨z39,hz40,h⟩:=bnd h
 refine ecV [1,0] (caV call8) (λw hp=>eK ho38 (⟨#[107]⟩:ByteArray) (show (⟨#[107]⟩:ByteArray).size≤lim by decide) (Sl.nil gO _ none) (CE 0) false (⟨#[118]⟩:ByteArray) (show (⟨#[118]⟩:ByteArray).size≤lim by decide) hr28 hp hz40) ?_
 rintro Γ41 _ _ hl42 ⟨row45,row47,A49,c50,rfl,rfl,hr46,hr48,hr51,hr52,_⟩
 refine cwV 24 [_,_] (mV (k:=sV exV (k:=sV exV (k:=?_))))
 refine alV Dq λg53=>?_
 refine stV 0 (.agg (Ver.cs A49 c50 z39.2.2.1).toArray) (Ver.cs A49 c50 z39.2.2.1).toArray Dr (k:=aV (k:=BX (BZ (sV (au (v:=(pq g29)) rfl (aW rfl hz37)) (k:=?_)))))
 obtain⟨z54,hz55,h⟩:=bnd h
 refine ecV [1,1] (caV call8) (λw hp=>eK hr46 (⟨#[107]⟩:ByteArray) (show (⟨#[107]⟩:ByteArray).size≤lim by decide) (Sl.nil gO _ none) (CE 0) false (⟨#[118]⟩:ByteArray) (show (⟨#[118]⟩:ByteArray).size≤lim by decide) hr48 hp hz55) ?_
 rintro Γ56 _ _ hl57 ⟨row60,row62,A64,c65,rfl,rfl,hr61,hr63,hr66,hr67,_⟩
 refine cwV 29 [_,_,_] (mV (k:=sV exV (k:=sV exV (k:=?_))))
 refine alV Dq λg68=>?_
 refine stV 0 (.agg (Ver.cs A64 c65 z54.2.2.1).toArray) (Ver.cs A64 c65 z54.2.2.1).toArray Dr (k:=aV (k:=BX (BZ (sV (au (v:=(pq g29)) rfl (aW rfl hz37)) (k:=?_)))))
 obtain⟨z69,hz70,h⟩:=bnd h
 refine ecV [1] (caV call9) (λw hp=>eI hr61 hp hz70) ?_
 rintro Γ71 _ _ hl72 ⟨A75,c76,rfl,rfl,hr77,_⟩
 refine cwV 34 [_,_,_,_] (mV (k:=sV exV (k:=sV exV (k:=?_))))
 refine alV Dt λg78=>?_
 refine stV 0 (.agg (Rec.cs A75 c76 z69.1).toArray) (Rec.cs A75 c76 z69.1).toArray Du (k:=aV (k:=BX (C1 (BZ (mV (k:=sV bO (k:=mV (k:=?_))))))))
 refine vG0 (h:=λhg79=>moV) (k:=vG0 (h:=λhg80=>bO rfl (grV hg80)) (k:=sV pkO (k:=mV (k:=vG0 (h:=λhg81=>moV) (k:=vG0 (h:=λhg82=>aX rfl (grV hg82)) (k:=sV pkO (k:=mV (k:=?_))))))))
 refine vG0 (h:=λhg83=>q_fl 0 bJ) (k:=vG0 (h:=λhg84=>ldaV 4 (Dot.cs z39.2.2.1.dot) Dz DA (hx:=grV hg84)) (k:=vG0 (h:=λhg85=>aR (v:=.agg #[ii 1,ii 1]) rfl (ib rfl rfl) (λw=>by kernel_rfl)) (k:=vG0 (h:=λhg86=>pe (a:=z39.2.2.1.dot) (b:=(⟨1,1⟩:Dot)) rfl (grV hg86) (grV hg86)) (k:=sV pkO (k:=mV (k:=vG0 (h:=λhg87=>au (v:=(pq g29)) rfl (aW rfl hz37)) (k:=vG0 (h:=λhg88=>ldaV 0 (Rec.cs A75 c76 z69.1) Dv Du) (k:=?_))))))))
 refine(Bool.eq_false_or_eq_true (!((((z39.2.2.2 != 0)||(z54.2.2.2 != 202))||(!z69.2))||(z39.2.2.1.dot != (⟨1,1⟩:Dot))))).elim (λhb89=>?_) (λhb89=>?_)
 ·
  have h:=bt hb89 h
  refine WR.sat (c0:=true) (g:=((((z39.2.2.2 != 0)||(z54.2.2.2 != 202))||(!z69.2))||(z39.2.2.1.dot != (⟨1,1⟩:Dot)))) rfl rfl rfl hb89 ?_
  refine bsV #[ii 1] 3 λg90=>?_
  refine WR.sat (c0:=true) (g:=((((z39.2.2.2 != 0)||(z54.2.2.2 != 202))||(!z69.2))||(z39.2.2.1.dot != (⟨1,1⟩:Dot)))) rfl rfl rfl hb89 ?_
  have ho91:Own intT Γ71 3 [(g90,.cells #[ii 1] 3 (0,0))] (some ⟨g90,0,none⟩) 1 [1]:=C7 (T:=intT) (ys:=[1]) [[ii 1]] rfl (show 1≤lim by decide) ⟨⟨rfl,iV⟩,trivial⟩
  have hc96:=ho91.capz
  refine seR 0 [_,_,_,_,_,_] λΓ92 hl93 hr94=>?_
  have hs95:=ho91.sl hl93 hr94
  obtain⟨z97,hz98,h⟩:=bnd h
  refine ecV [2,3] (aE call10 rfl rfl (xv (grV hb89) (grV hb89) rfl)) (λw hp=>kz (hr61.mono (hl72.trans hl93)) z69.1 (Rec.fits_mono hr77 hl93) hs95 hc96 (hr63.mono (hl72.trans hl93)) hp hz98) ?_
  rintro Γ99 _ _ hl100 ⟨row103,row105,rfl,rfl,hr104,hr106,hr107,_⟩
  refine cwV 57 [_,_,_,_,_,_] ?_
  refine WR.sat (c0:=true) (g:=((((z39.2.2.2 != 0)||(z54.2.2.2 != 202))||(!z69.2))||(z39.2.2.1.dot != (⟨1,1⟩:Dot)))) rfl rfl rfl hb89 ?_
  refine sV bO (k:=sV (eh (v:=.bool (z97.2.2 != 0)) rfl rfl (xK hb89) (by kernel_rfl)) (k:=mV (k:=vG0 (h:=λhg108=>au (v:=(pq g29)) rfl (aW rfl hz37)) (k:=?_))))
  refine(Bool.eq_false_or_eq_true (!(z97.2.2 != 0))).elim (λhb109=>?_) (λhb109=>?_)
  ·
   have h:=bt hb109 h
   refine WR.sat (c0:=true) (g:=(z97.2.2 != 0)) rfl rfl rfl hb109 ?_
   obtain⟨z110,hz111,h⟩:=bnd h
   refine ecV [0] (aE call13 rfl rfl (xv (grV hb109) rfl rfl)) (λw hp=>dQ hr104 2 iV 9 iV hp hz111) ?_
   rintro Γ112 _ _ hl113 ⟨A116,c117,J118,rfl,rfl,hn119,hc120,hr121,_⟩
   refine cwV 62 [_,_,_,_,_,_,_] ?_
   refine WR.sat (c0:=true) (g:=(z97.2.2 != 0)) rfl rfl rfl hb109 ?_
   refine sV (ab rfl E3) (k:=?_)
   refine WR.sat (c0:=true) (g:=(z97.2.2 != 0)) rfl rfl rfl hb109 ?_
   refine sV bO (k:=sV (eh (v:=.bool ((z110.length:Int) != 1)) rfl rfl (xK hb109) (by kernel_rfl)) (k:=BX ?_))
   refine ciV h (λhb122 h=>?_) (λhb122 h=>?_)
   ·
    refine BZ (aV (k:=BX ?_))
    exact C2 λw hw=>rq_ r h hF hw
   refine C4 (wc_ (BZ (sV (au (v:=(pq g29)) rfl (aW rfl hz37)) (k:=?_))))
   obtain⟨z123,hz124,h⟩:=bnd h
   refine ecV [0,1] (caV call8) (λw hp=>eK (hr104.mono hl113) (⟨#[108]⟩:ByteArray) (show (⟨#[108]⟩:ByteArray).size≤lim by decide) (Sl.nil gO _ none) (CE 0) false (⟨#[118]⟩:ByteArray) (show (⟨#[118]⟩:ByteArray).size≤lim by decide) (hr106.mono hl113) hp hz124) ?_
   rintro Γ125 _ _ hl126 ⟨row129,row131,A133,c134,rfl,rfl,hr130,hr132,hr135,hr136,_⟩
   refine cwV 67 [_,_,_,_,_,_,_] (BX (BZ (sV (au (v:=(pq g29)) rfl (aW rfl hz37)) (k:=?_))))
   obtain⟨z137,hz138,h⟩:=bnd h
   refine ecV [0] (caV call9) (λw hp=>eI hr130 hp hz138) ?_
   rintro Γ139 _ _ hl140 ⟨A143,c144,rfl,rfl,hr145,_⟩
   refine cwV 70 [_,_,_,_,_,_,_] (mV (k:=sV exV (k:=sV exV (k:=stV 4 (.agg (Rec.cs A143 c144 z137.1).toArray) (Rec.cs A143 c144 z137.1).toArray Du (k:=BX (BZ (sV (au (v:=(pq g29)) rfl (aW rfl hz37)) (k:=?_))))))))
   refine sV (ldaV 4 (Rec.cs A143 c144 z137.1) Dv Du) (k:=?_)
   refine bsV #[ii 1] 3 λg146=>?_
   have ho147:Own intT Γ139 3 [(g146,.cells #[ii 1] 3 (0,0))] (some ⟨g146,0,none⟩) 1 [1]:=C7 (T:=intT) (ys:=[1]) [[ii 1]] rfl (show 1≤lim by decide) ⟨⟨rfl,iV⟩,trivial⟩
   have hc152:=ho147.capz
   refine seR 0 [_,_,_,_,_,_,_,_] λΓ148 hl149 hr150=>?_
   have hs151:=ho147.sl hl149 hr150
   obtain⟨z153,hz154,h⟩:=bnd h
   refine ecV [1,1] (caV call10) (λw hp=>kz (hr130.mono (hl140.trans hl149)) z137.1 (Rec.fits_mono hr145 hl149) hs151 hc152 (hr132.mono (hl140.trans hl149)) hp hz154) ?_
   rintro Γ155 _ _ hl156 ⟨row159,row161,rfl,rfl,hr160,hr162,hr163,_⟩
   refine cwV 76 [_,_,_,_,_,_,_,_] (aV (k:=BX (BZ (sV (au (v:=(pq g29)) rfl (aW rfl hz37)) (k:=?_)))))
   obtain⟨z164,hz165,h⟩:=bnd h
   refine ecV [0] (caV call16) (λw hp=>kf hr160 hp hz165) ?_
   rintro Γ166 _ _ hl167 ⟨A170,c171,row172,rfl,rfl,hr173,_⟩
   refine cwV 78 [_,_,_,_,_,_,_,_,_] (sV (ab rfl CW) (k:=aV (k:=BX (BZ (mV (k:=sV bD (k:=mV (k:=?_))))))))
   refine vG1 (h:=λhg174=>moV) (k:=vG1 (h:=λhg175=>bD rfl (grV hg175)) (k:=sV pkA (k:=mV (k:=vG1 (h:=λhg176=>au (v:=(pq g29)) rfl (aW rfl hz37)) (k:=?_)))))
   refine(Bool.eq_false_or_eq_true ((z153.2.2==0)&&((z164.length:Int)==1))).elim (λhb177=>?_) (λhb177=>?_)
   ·
    have h:=bt hb177 h
    refine WR.sat (c0:=true) (g:=((z153.2.2==0)&&((z164.length:Int)==1))) rfl rfl rfl hb177 ?_
    obtain⟨z178,hz179,h⟩:=bnd h
    refine ecV [0,1] (aE call17 rfl rfl (xv (grV hb177) rfl rfl)) (λw hp=>p3 (hr160.mono hl167) 2 iV 2 iV (hr162.mono hl167) hp hz179) ?_
    rintro Γ180 _ _ hl181 ⟨row184,row186,rfl,rfl,hr185,hr187,_⟩
    refine cwV 88 [_,_,_,_,_,_,_,_,_] (sV (eZ (v:=.bool z178.2.2) rfl rfl hb177 (by kernel_rfl)) (k:=mV (k:=vG1 (h:=λhg188=>au (v:=(pq g29)) rfl (aW rfl hz37)) (k:=?_))))
    refine(Bool.eq_false_or_eq_true z178.2.2).elim (λhb189=>?_) (λhb189=>?_)
    ·
     have h:=bt hb189 h
     refine WR.sat (c0:=true) (g:=z178.2.2) rfl rfl rfl hb189 ?_
     obtain⟨z190,hz191,h⟩:=bnd h
     refine ecV [0] (aE call18 rfl rfl (mv (grV hb189))) (λw hp=>oh hr185 hp hz191) ?_
     rintro Γ192 _ _ hl193 ⟨rfl,rfl,hr196,_⟩
     refine cwV 92 [_,_,_,_,_,_,_,_,_] ?_
     refine WR.sat (c0:=true) (g:=z178.2.2) rfl rfl rfl hb189 ?_
     refine sV bD (k:=sV (eZ (v:=.bool (z190==0)) rfl rfl hb189 (by kernel_rfl)) (k:=mV (k:=vG1 (h:=λhg197=>au (v:=(pq g29)) rfl (aW rfl hz37)) (k:=?_))))
     refine(Bool.eq_false_or_eq_true (z190==0)).elim (λhb198=>?_) (λhb198=>?_)
     ·
      have h:=bt hb198 h
      refine WR.sat (c0:=true) (g:=(z190==0)) rfl rfl rfl hb198 ?_
      obtain⟨z199,hz200,h⟩:=bnd h
      refine ecV [0,0] (aE call19 rfl rfl (cN (grV hb198) rfl)) (λw hp=>nf (hr185.mono hl193) 2 iV (hr187.mono hl193) hp hz200) ?_
      rintro Γ201 _ _ hl202 ⟨row205,row207,rfl,rfl,hr206,hr208,hr209,_⟩
      refine cwV 97 [_,_,_,_,_,_,_,_,_] ?_
      refine WR.sat (c0:=true) (g:=(z190==0)) rfl rfl rfl hb198 ?_
      refine sV bD (k:=sV (eZ (v:=.bool (z199.2.2==0)) rfl rfl hb198 (by kernel_rfl)) (k:=mV (k:=vG1 (h:=λhg210=>au (v:=(pq g29)) rfl (aW rfl hz37)) (k:=?_))))
      refine(Bool.eq_false_or_eq_true (z199.2.2==0)).elim (λhb211=>?_) (λhb211=>?_)
      ·
       have h:=bt hb211 h
       refine WR.sat (c0:=true) (g:=(z199.2.2==0)) rfl rfl rfl hb211 ?_
       obtain⟨z212,hz213,h⟩:=bnd h
       refine ecV [0] (aE call16 rfl rfl (mv (grV hb211))) (λw hp=>kf hr206 hp hz213) ?_
       rintro Γ214 _ _ hl215 ⟨A218,c219,row220,rfl,rfl,hr221,_⟩
       refine cwV 102 [_,_,_,_,_,_,_,_,_,_] ?_
       refine WR.sat (c0:=true) (g:=(z199.2.2==0)) rfl rfl rfl hb211 ?_
       refine sV (ab rfl CW) (k:=?_)
       refine WR.sat (c0:=true) (g:=(z199.2.2==0)) rfl rfl rfl hb211 ?_
       refine sV bD (k:=sV (eZ (v:=.bool ((z212.length:Int)==0)) rfl rfl hb211 (by kernel_rfl)) (k:=mV (k:=vG1 (h:=λhg222=>au (v:=(pq g29)) rfl (aW rfl hz37)) (k:=?_))))
       refine(Bool.eq_false_or_eq_true ((z212.length:Int)==0)).elim (λhb223=>?_) (λhb223=>?_)
       ·
        have h:=bt hb223 h
        refine WR.sat (c0:=true) (g:=((z212.length:Int)==0)) rfl rfl rfl hb223 ?_
        obtain⟨z224,hz225,h⟩:=bnd h
        refine ecV [0] (aE call11 rfl rfl (mv (grV hb223))) (λw hp=>m3 (hr206.mono hl215) hp hz225) ?_
        rintro Γ226 _ _ hl227 ⟨A230,c231,row232,rfl,rfl,hr233,_⟩
        refine cwV 108 [_,_,_,_,_,_,_,_,_,_,_] ?_
        refine WR.sat (c0:=true) (g:=((z212.length:Int)==0)) rfl rfl rfl hb223 ?_
        refine bsV #[ii 2,ii 0] 2 λg234=>?_
        refine WR.sat (c0:=true) (g:=((z212.length:Int)==0)) rfl rfl rfl hb223 ?_
        have ho235:Own intT Γ226 2 [(g234,.cells #[ii 2,ii 0] 2 (0,0))] (some ⟨g234,0,none⟩) 2 [2,0]:=C7 (T:=intT) (ys:=[2,0]) [[ii 2],[ii 0]] rfl (show 2≤lim by decide) ⟨⟨rfl,iV⟩,⟨rfl,iV⟩,trivial⟩
        obtain⟨z236,hz237,h⟩:=bnd h
        refine vqV (caV call15) (λw hw=>iB (Γ:=Gh.all w) (hr233.sl hw.sat.le_all (hw.ra 2 rfl)) hr233.capz (ho235.sl hw.sat.le_all (hw.ra 0 rfl)) ho235.capz (Sat.all w) hz237) (k:=sV (eZ (v:=.bool z236) rfl rfl hb223 (by kernel_rfl)) (k:=aV (k:=BX ?_)))
        exact C2 λw hw=>rq_ r h hF hw
       have h:=bf hb223 h
       refine C6 (c0:=true) (g:=((z212.length:Int)==0)) rfl rfl rfl hb223 rfl ?_
       refine C6 (c0:=true) (g:=((z212.length:Int)==0)) rfl rfl rfl hb223 rfl ?_
       refine C6 (c0:=true) (g:=((z212.length:Int)==0)) rfl rfl rfl hb223 rfl ?_
       refine sV (eh (v:=.bool false) rfl rfl hb223 (by kernel_rfl)) (k:=aV (k:=BX ?_))
       exact C2 λw hw=>rq_ r h hF hw
      have h:=bf hb211 h
      refine C6 (c0:=true) (g:=(z199.2.2==0)) rfl rfl rfl hb211 rfl ?_
      refine C6 (c0:=true) (g:=(z199.2.2==0)) rfl rfl rfl hb211 rfl ?_
      refine C6 (c0:=true) (g:=(z199.2.2==0)) rfl rfl rfl hb211 rfl ?_
      refine sV (eh (v:=.bool false) rfl rfl hb211 (by kernel_rfl)) (k:=mV (k:=?_))
      refine C6 (c0:=true) (g:=false) rfl rfl rfl rfl rfl ?_
      refine C6 (c0:=true) (g:=false) rfl rfl rfl rfl rfl ?_
      refine C6 (c0:=true) (g:=false) rfl rfl rfl rfl rfl ?_
      refine C6 (c0:=true) (g:=false) rfl rfl rfl rfl rfl ?_
      refine sV (gZ (v:=.bool false) rfl rfl rfl) (k:=aV (k:=BX ?_))
      exact C2 λw hw=>rq_ r h hF hw
     have h:=bf hb198 h
     refine C6 (c0:=true) (g:=(z190==0)) rfl rfl rfl hb198 rfl ?_
     refine C6 (c0:=true) (g:=(z190==0)) rfl rfl rfl hb198 rfl ?_
     refine sV (eh (v:=.bool false) rfl rfl hb198 (by kernel_rfl)) (k:=mV (k:=?_))
     refine C6 (c0:=true) (g:=false) rfl rfl rfl rfl rfl ?_
     refine C6 (c0:=true) (g:=false) rfl rfl rfl rfl rfl ?_
     refine C6 (c0:=true) (g:=false) rfl rfl rfl rfl rfl ?_
     refine C6 (c0:=true) (g:=false) rfl rfl rfl rfl rfl ?_
     refine sV (gZ (v:=.bool false) rfl rfl rfl) (k:=mV (k:=?_))
     refine C6 (c0:=true) (g:=false) rfl rfl rfl rfl rfl ?_
     refine C6 (c0:=true) (g:=false) rfl rfl rfl rfl rfl ?_
     refine C6 (c0:=true) (g:=false) rfl rfl rfl rfl rfl ?_
     refine C6 (c0:=true) (g:=false) rfl rfl rfl rfl rfl ?_
     refine sV (gZ (v:=.bool false) rfl rfl rfl) (k:=aV (k:=BX ?_))
     exact C2 λw hw=>rq_ r h hF hw
    have h:=bf hb189 h
    refine C6 (c0:=true) (g:=z178.2.2) rfl rfl rfl hb189 rfl ?_
    refine C6 (c0:=true) (g:=z178.2.2) rfl rfl rfl hb189 rfl ?_
    refine sV (eh (v:=.bool false) rfl rfl hb189 (by kernel_rfl)) (k:=mV (k:=?_))
    refine C6 (c0:=true) (g:=false) rfl rfl rfl rfl rfl ?_
    refine C6 (c0:=true) (g:=false) rfl rfl rfl rfl rfl ?_
    refine C6 (c0:=true) (g:=false) rfl rfl rfl rfl rfl ?_
    refine sV (gZ (v:=.bool false) rfl rfl rfl) (k:=mV (k:=?_))
    refine C6 (c0:=true) (g:=false) rfl rfl rfl rfl rfl ?_
    refine C6 (c0:=true) (g:=false) rfl rfl rfl rfl rfl ?_
    refine C6 (c0:=true) (g:=false) rfl rfl rfl rfl rfl ?_
    refine C6 (c0:=true) (g:=false) rfl rfl rfl rfl rfl ?_
    refine sV (gZ (v:=.bool false) rfl rfl rfl) (k:=mV (k:=?_))
    refine C6 (c0:=true) (g:=false) rfl rfl rfl rfl rfl ?_
    refine C6 (c0:=true) (g:=false) rfl rfl rfl rfl rfl ?_
    refine C6 (c0:=true) (g:=false) rfl rfl rfl rfl rfl ?_
    refine C6 (c0:=true) (g:=false) rfl rfl rfl rfl rfl ?_
    refine sV (gZ (v:=.bool false) rfl rfl rfl) (k:=aV (k:=BX ?_))
    exact C2 λw hw=>rq_ r h hF hw
   have h:=bf hb177 h
   refine C6 (c0:=true) (g:=((z153.2.2==0)&&((z164.length:Int)==1))) rfl rfl rfl hb177 rfl ?_
   refine sV (eh (v:=.bool false) rfl rfl hb177 (by kernel_rfl)) (k:=mV (k:=?_))
   refine C6 (c0:=true) (g:=false) rfl rfl rfl rfl rfl ?_
   refine C6 (c0:=true) (g:=false) rfl rfl rfl rfl rfl ?_
   refine C6 (c0:=true) (g:=false) rfl rfl rfl rfl rfl ?_
   refine sV (gZ (v:=.bool false) rfl rfl rfl) (k:=mV (k:=?_))
   refine C6 (c0:=true) (g:=false) rfl rfl rfl rfl rfl ?_
   refine C6 (c0:=true) (g:=false) rfl rfl rfl rfl rfl ?_
   refine C6 (c0:=true) (g:=false) rfl rfl rfl rfl rfl ?_
   refine sV (gZ (v:=.bool false) rfl rfl rfl) (k:=mV (k:=?_))
   refine C6 (c0:=true) (g:=false) rfl rfl rfl rfl rfl ?_
   refine C6 (c0:=true) (g:=false) rfl rfl rfl rfl rfl ?_
   refine C6 (c0:=true) (g:=false) rfl rfl rfl rfl rfl ?_
   refine C6 (c0:=true) (g:=false) rfl rfl rfl rfl rfl ?_
   refine sV (gZ (v:=.bool false) rfl rfl rfl) (k:=mV (k:=?_))
   refine C6 (c0:=true) (g:=false) rfl rfl rfl rfl rfl ?_
   refine C6 (c0:=true) (g:=false) rfl rfl rfl rfl rfl ?_
   refine C6 (c0:=true) (g:=false) rfl rfl rfl rfl rfl ?_
   refine C6 (c0:=true) (g:=false) rfl rfl rfl rfl rfl ?_
   refine sV (gZ (v:=.bool false) rfl rfl rfl) (k:=aV (k:=BX ?_))
   exact C2 λw hw=>rq_ r h hF hw
  have h:=bf hb109 h
  refine C6 (c0:=true) (g:=(z97.2.2 != 0)) rfl rfl rfl hb109 rfl ?_
  refine C6 (c0:=true) (g:=(z97.2.2 != 0)) rfl rfl rfl hb109 rfl ?_
  refine C6 (c0:=true) (g:=(z97.2.2 != 0)) rfl rfl rfl hb109 rfl ?_
  refine sV (eZ (v:=.bool true) rfl rfl (yP hb109) (by kernel_rfl)) (k:=BX ?_)
  refine Ch (b:=true) (by kernel_rfl) rfl ?_
  refine BZ (aV (k:=BX ?_))
  exact C2 λw hw=>rq_ r h hF hw
 have h:=bf hb89 h
 refine C6 (c0:=true) (g:=((((z39.2.2.2 != 0)||(z54.2.2.2 != 202))||(!z69.2))||(z39.2.2.1.dot != (⟨1,1⟩:Dot)))) rfl rfl rfl hb89 rfl ?_
 refine C6 (c0:=true) (g:=((((z39.2.2.2 != 0)||(z54.2.2.2 != 202))||(!z69.2))||(z39.2.2.1.dot != (⟨1,1⟩:Dot)))) rfl rfl rfl hb89 rfl ?_
 refine C6 (c0:=true) (g:=((((z39.2.2.2 != 0)||(z54.2.2.2 != 202))||(!z69.2))||(z39.2.2.1.dot != (⟨1,1⟩:Dot)))) rfl rfl rfl hb89 rfl ?_
 refine sV (eZ (v:=.bool true) rfl rfl (yP hb89) (by kernel_rfl)) (k:=mV (k:=?_))
 refine C6 (c0:=true) (g:=true) rfl rfl rfl (nott rfl) rfl ?_
 refine C6 (c0:=true) (g:=true) rfl rfl rfl (nott rfl) rfl ?_
 refine C6 (c0:=true) (g:=true) rfl rfl rfl (nott rfl) rfl ?_
 refine C6 (c0:=true) (g:=true) rfl rfl rfl (nott rfl) rfl ?_
 refine sV (ze (v:=.bool true) rfl rfl rfl) (k:=BX ?_)
 refine Ch (b:=true) (by kernel_rfl) rfl ?_
 refine BZ (aV (k:=BX ?_))
 exact C2 λw hw=>rq_ r h hF hw
end Fw
end Go.Proofs.YtangaamigenjjaaGreat
