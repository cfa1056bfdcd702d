/- Walks through the functions that the law reaches (printed by a program). No condition. -/
import Derived.Test.YtckindfllegbgaaGreatM
import Derived.Test.YtckindfllegbgaaGreatS
namespace Go.Proofs.YtckindfllegbgaaGreat
namespace Fw
set_option linter.unusedVariables false
set_option linter.unusedSimpArgs false
set_option linter.unusedSectionVars false
set_option maxRecDepth 100000
set_option maxHeartbeats 400000
open Go.RowKit
open Go.Proofs.Tryz
variable {Γ:Gh} {w0:World}
def Odisk_Disk.ob(e:TypeId)(Γ:Gh)(g:Nat)(row:Rowb)(x:Odisk_Disk):Prop := ∃(m1:Nat) (r1:Rowb) (m2:Nat) (r2:Rowb) (A3:Option Addr) (c3:Nat) (r3:Rowb),row=([[(g,.cells #[.int .i64 x.room,.map (some m1),.map (some m2),.slice A3 x.loose.length c3] e (0,0))],r1,r2,r3]:List Rowb).flatten∧I64 x.room∧MapO (strK Tryz.underlying9) (slT byteT).v Γ r1 m1 x.safe_∧MapO (strK Tryz.underlying9) (slT byteT).v Γ r2 m2 x.seen∧Own ddisk_changeT Γ 96 r3 A3 c3 x.loose∧True
theorem Odisk_Disk.ob.mono{e:TypeId}{Γ Δ:Gh}{g:Nat}{row:Rowb}{x:Odisk_Disk}(h:Odisk_Disk.ob e Γ g row x)(hs:Γ.le Δ):Odisk_Disk.ob e Δ g row x:=by
  obtain⟨m1,r1,m2,r2,A3,c3,r3,hr,h0,h1,h2,h3,_⟩:=h
  exact⟨m1,r1,m2,r2,A3,c3,r3,hr,h0,h1.mono hs,h2.mono hs,h3.mono hs,trivial⟩
abbrev YSframe_frames_1.ob(J:Gh→Rowb→YSframe_frames_1→Prop)(Γ:Gh)(g:Nat)(row:Rowb)(x:YSframe_frames_1):Prop:=YS.ob J Γ g row x
theorem YSframe_frames_1.ob.mono{J:Gh→Rowb→YSframe_frames_1→Prop}{Γ Δ:Gh}{g:Nat}{row:Rowb}{x:YSframe_frames_1}(h:YSframe_frames_1.ob J Γ g row x)(hs:Γ.le Δ):YSframe_frames_1.ob J Δ g row x:=YS.ob.mono h hs
abbrev YSseglog_place_parts_1.ob(J:Gh→Rowb→YSseglog_place_parts_1→Prop)(Γ:Gh)(g:Nat)(row:Rowb)(x:YSseglog_place_parts_1):Prop:=YS.ob J Γ g row x
theorem YSseglog_place_parts_1.ob.mono{J:Gh→Rowb→YSseglog_place_parts_1→Prop}{Γ Δ:Gh}{g:Nat}{row:Rowb}{x:YSseglog_place_parts_1}(h:YSseglog_place_parts_1.ob J Γ g row x)(hs:Γ.le Δ):YSseglog_place_parts_1.ob J Δ g row x:=YS.ob.mono h hs
def Oseglog_Log.ob(e:Nat×Nat)(Γ:Gh)(g:Nat)(row:Rowb)(x:Oseglog_Log):Prop:=row=([[(g,.cells #[.pointer (some ⟨e.2,0,none⟩),.string x.place_name,.int .i64 x.place_gen,.int .i64 x.size,.int .i64 x.last,.int .i64 x.tail,.int .i64 x.count,.int .i64 x.bytes] e.1 (0,0))]]:List Rowb).flatten∧x.place_name.size≤lim∧I64 x.place_gen∧I64 x.size∧I64 x.last∧I64 x.tail∧I64 x.count∧I64 x.bytes∧True
theorem Oseglog_Log.ob.mono{e:Nat×Nat}{Γ Δ:Gh}{g:Nat}{row:Rowb}{x:Oseglog_Log}(h:Oseglog_Log.ob e Γ g row x)(hs:Γ.le Δ):Oseglog_Log.ob e Δ g row x:=by
  obtain⟨hr,h0,h1,h2,h3,h4,h5,h6,_⟩:=h
  exact⟨hr,h0,h1,h2,h3,h4,h5,h6,trivial⟩
def Ostore_Store.ob(e:Nat×Nat)(Γ:Gh)(g:Nat)(row:Rowb)(x:Ostore_Store):Prop := ∃(g0:Nat) (r0:Rowb) (m1:Nat) (r1:Rowb),row=([[(g,.cells #[.pointer (some ⟨g0,0,none⟩),.map (some m1)] e.1 (0,0))],r0,r1]:List Rowb).flatten∧Oseglog_Log.ob (150,e.2) Γ g0 r0 x.log∧MapO (strK Tryz.underlying9) (slT byteT).v Γ r1 m1 x.keys∧True
theorem Ostore_Store.ob.mono{e:Nat×Nat}{Γ Δ:Gh}{g:Nat}{row:Rowb}{x:Ostore_Store}(h:Ostore_Store.ob e Γ g row x)(hs:Γ.le Δ):Ostore_Store.ob e Δ g row x:=by
  obtain⟨g0,r0,m1,r1,hr,h0,h1,_⟩:=h
  exact⟨g0,r0,m1,r1,hr,Oseglog_Log.ob.mono h0 hs,h1.mono hs,trivial⟩
def Ostore_Store.tob(e:Nat×Nat):Tob Ostore_Store:=⟨λΓ g row x=>Ostore_Store.ob e Γ g row x,λh hs=>h.mono hs⟩
def Ocode_reader.ob(e:TypeId)(Γ:Gh)(g:Nat)(row:Rowb)(x:Ocode_reader):Prop := ∃(A0:Option Addr) (c0:Nat),row=([[(g,.cells #[.slice A0 x.b.length c0,.int .i64 x.at_] e (0,0))]]:List Rowb).flatten∧x.b.length≤c0∧Sl byteT Γ A0 x.b∧I64 x.at_∧True
theorem Ocode_reader.ob.mono{e:TypeId}{Γ Δ:Gh}{g:Nat}{row:Rowb}{x:Ocode_reader}(h:Ocode_reader.ob e Γ g row x)(hs:Γ.le Δ):Ocode_reader.ob e Δ g row x:=by
  obtain⟨A0,c0,hr,h0,h1,h2,_⟩:=h
  exact⟨A0,c0,hr,h0,h1.mono hs,h2,trivial⟩
def Onode_Node.ob(e:Nat×Nat)(Γ:Gh)(g:Nat)(row:Rowb)(x:Onode_Node):Prop := ∃(g4:Nat) (r4:Rowb) (m5:Nat) (r5:Rowb) (m6:Nat) (r6:Rowb),row=([[(g,.cells #[.int .i64 x.life,.pointer (some ⟨e.2,0,none⟩),.int .i64 x.self_site,.int .i64 x.self_node,.pointer (some ⟨g4,0,none⟩),.map (some m5),.map (some m6)] e.1 (0,0))],r4,r5,r6]:List Rowb).flatten∧I64 x.life∧I64 x.self_site∧I64 x.self_node∧Ostore_Store.ob (107,e.2) Γ g4 r4 x.own∧MapJ (intK Tryz.underlying3) (Ostore_Store.tob (107,e.2)) Γ r5 m5 x.hints∧MapO (intK Tryz.underlying3) (fnV g) Γ r6 m6 x.does∧True
theorem Onode_Node.ob.mono{e:Nat×Nat}{Γ Δ:Gh}{g:Nat}{row:Rowb}{x:Onode_Node}(h:Onode_Node.ob e Γ g row x)(hs:Γ.le Δ):Onode_Node.ob e Δ g row x:=by
  obtain⟨g4,r4,m5,r5,m6,r6,hr,h0,h1,h2,h3,h4,h5,_⟩:=h
  exact⟨g4,r4,m5,r5,m6,r6,hr,h0,h1,h2,Ostore_Store.ob.mono h3 hs,h4.mono hs,h5.mono hs,trivial⟩
def Ocode_writer.ob(e:TypeId)(Γ:Gh)(g:Nat)(row:Rowb)(x:Ocode_writer):Prop := ∃(A0:Option Addr) (c0:Nat) (r0:Rowb),row=([[(g,.cells #[.slice A0 x.b.length c0] e (0,0))],r0]:List Rowb).flatten∧Own byteT Γ 5 r0 A0 c0 x.b∧True
theorem Ocode_writer.ob.mono{e:TypeId}{Γ Δ:Gh}{g:Nat}{row:Rowb}{x:Ocode_writer}(h:Ocode_writer.ob e Γ g row x)(hs:Γ.le Δ):Ocode_writer.ob e Δ g row x:=by
  obtain⟨A0,c0,r0,hr,h0,_⟩:=h
  exact⟨A0,c0,r0,hr,h0.mono hs,trivial⟩
abbrev r_disk_New(r:Odisk_Disk)(U:List Rowb)(Γ:Gh)(v:Value):Prop := ∃(g0:Nat), ∃(row0:Rowb),v = .pointer (some ⟨g0,0,none⟩)∧U = [row0]∧Odisk_Disk.ob 67 Γ g0 row0 r∧True
theorem t_disk_New(room:Int)(hroom:I64 room)(hp:Pre [] Γ w0){r:Odisk_Disk}(h:m_disk_New room=some r):Calls Tryz.prog 9 #[ii room] w0 (Outc Γ [] w0 (r_disk_New r)):=by
 refine goV [2] func9 ntmps9 results9 hp λF hF=>?_
 refine ab (aV (k:=aa (ab (mV (k:=sV q_max (k:=sV q_min (k:=?_)))))))
 refine e_makeMap (strK underlying9) (slT byteT).v rfl rfl rfl rfl ?_
 intro g1 row2 hm3
 refine e_makeMap (strK underlying9) (slT byteT).v rfl rfl rfl rfl ?_
 intro g4 row5 hm6
 refine sV (q_build' (v:=.agg #[ii (min (max room 0) 1073741824),.map (some g1),.map (some g4),.slice none 0 0]) rfl (bargs3 rfl rfl rfl) (λw=>by kernel_rfl)) (k:=?_)
 refine bxV (v:=.agg #[ii (min (max room 0) 1073741824),.map (some g1),.map (some g4),.slice none 0 0]) λg7=>?_
 refine aV (k:=aa ?_)
 refine af ?_
 intro w hw
 have hw:=hw.pad
 obtain⟨row_8,hrow_8,hob_8⟩:∃rw:Rowb,rw=([[(g7,.cells #[ii (min (max room 0) 1073741824),.map (some g1),.map (some g4),.slice none 0 0] 67 (0,0))],row2,row5,[]]:List Rowb).flatten∧Odisk_Disk.ob 67 Γ g7 rw (⟨(min (max room 0) 1073741824),([]:List (ByteArray×(List UInt8))),([]:List (ByteArray×(List UInt8))),[]⟩:Odisk_Disk):=⟨_,rfl,g1,row2,g4,row5,none,0,[],rfl,(min_r (max_r hroom iV) iV),hm3,hm6,(Own.nil ddisk_changeT Γ 96),trivial⟩
 have hw:=hw.fold (is:=[1,2,1,0]) rfl hrow_8
 cases h
 subst hF
 exact end_e (is:=[0]) (by kernel_rfl) hw rfl ⟨g7,row_8,rfl,rfl,hob_8,trivial⟩
theorem t_firthlaw15_at(n:Int)(hn:I64 n)(hs:Sat Γ w0){r:Adr}(h:m_firthlaw15_at n=some r):CQ Tryz.prog 11 #[ii n] w0 (.agg (Adr.cs r).toArray):=by
 refine calls_of_r (N:=5) (rs:=[.cell 2 32]) (args:=[ii n]) func11 rfl ntmps11 results11 rfl ?_
 obtain⟨F,hF⟩:∃F:Fm,F=⟨no,w0,Γ⟩:=⟨_,rfl⟩
 refine aw (C:=CC F Γ []) ?_ (hF▸Cur.start0 hs)
 refine ab ?_
 refine alV zeroValue32 λg1=>?_
 refine aa (ab (mV (k:=sV (q_build' (v:=.agg #[ii 1,ii n]) rfl (bargs2 rfl rfl) (λw=>by kernel_rfl)) (k:=stV 0 (.agg #[ii 1,ii n]) #[ii 1,ii n] sizeOf32 (k:=aa ?_)))))
 refine af ?_
 intro w hw
 cases h
 subst hF
 exact⟨[.agg #[ii 1,ii n]],(rr_agg (i:=0) (us:=[ii 1,ii n]) hw rfl isAgg32 sizeOf32 (by kernel_rfl) rfl rr_nil),by kernel_rfl,hw.fr⟩
theorem t_internal_stringslite_IndexByte(s_:ByteArray)(hs_:s_.size≤lim)(c_:Int)(hc_:U8 c_)(hs:Sat Γ w0){r:Int}(h:m_internal_stringslite_IndexByte s_ c_=some r):CQ Tryz.prog 186 #[.string s_,.int .u8 c_] w0 (ii r):=by
 refine goQ [4] func186 ntmps186 results186 hs λF hF=>?_
 refine ab (aV (k:=aa (ab (mV (k:=mV (k:=sV (q_ixb (s:=s_) (c:=c_) func215 (by kernel_rfl) (by kernel_rfl) (by kernel_rfl) (by kernel_rfl) rfl (by kernel_rfl)) (k:=aV (k:=?_))))))))
 refine aa ?_
 exact af λw hw=>rq_ r h hF hw
theorem t_internal_stringslite_Index(s_:ByteArray)(hs_:s_.size≤lim)(hs:Sat Γ w0){r:Int}(h:m_internal_stringslite_Index s_=some r):CQ Tryz.prog 152 #[.string s_,.string (⟨#[46]⟩:ByteArray)] w0 (ii r):=by
 refine goQ [4] func152 ntmps152 results152 hs λF hF=>?_
 refine ab (aV (k:=aa (ab (mV (k:=sV (show QV _ _ _ _ (ii 1) from (show QV _ _ _ _ (ii (((⟨#[46]⟩:ByteArray).size:Nat):Int)) from q_len_str rfl underlying9)) (k:=aV (k:=aa ?_)))))))
 refine ac (ai (ab (mV (k:=sV q_eql (k:=mV (k:=?_))))))
 refine WR.sat (c0:=true) (g:=(1==0)) rfl rfl rfl (notf (show (((1:Int)==0))=false by decide)) ?_
 refine mV (k:=?_)
 refine WR.sat (c0:=true) (g:=(1==0)) rfl rfl rfl (notf (show (((1:Int)==0))=false by decide)) ?_
 refine mV (k:=?_)
 refine WR.sat (c0:=true) (g:=(1==0)) rfl rfl rfl (notf (show (((1:Int)==0))=false by decide)) ?_
 refine sV q_seql (k:=sV (q_pick_f (v:=.bool ((⟨#[46]⟩:ByteArray)==s_)) rfl rfl (show (((1:Int)==0))=false by decide) (by kernel_rfl)) (k:=aV (k:=aa ?_)))
 refine ciV h (λhb1 h=>?_) (λhb1 h=>?_)
 ·
  refine ab (aV (k:=aa ?_))
  exact af λw hw=>rq_ r h hF hw
 refine ab (mV (k:=sV q_eql (k:=aV (k:=aa ?_))))
 refine WC.ctk (b:=(1==1)) (by kernel_rfl) (show (((1:Int)==1))=true by decide) ?_
 refine ab (mV (k:=mV (k:=sV (show QV _ _ _ _ (.int .u8 46) from q_sixn (s:=(⟨#[46]⟩:ByteArray)) (i:=0) underlying9 rfl rfl rfl (by decide)) (k:=?_))))
 obtain⟨z2,hz3,h⟩:=bnd h
 refine vqV (caV call186) (λw hw=>t_internal_stringslite_IndexByte (Γ:=Gh.all w) s_ hs_ 46 (show U8 46 by decide) (Sat.all w) hz3) (k:=aV (k:=aa ?_))
 exact af λw hw=>rq_ r h hF hw
theorem t_strings_Index(s_:ByteArray)(hs_:s_.size≤lim)(hs:Sat Γ w0){r:Int}(h:m_strings_Index s_=some r):CQ Tryz.prog 118 #[.string s_,.string (⟨#[46]⟩:ByteArray)] w0 (ii r):=by
 refine goQ [4] func118 ntmps118 results118 hs λF hF=>?_
 refine ab (aV (k:=aa (ab (mV (k:=mV (k:=?_))))))
 obtain⟨z1,hz2,h⟩:=bnd h
 refine vqV (caV call152) (λw hw=>t_internal_stringslite_Index (Γ:=Gh.all w) s_ hs_ (Sat.all w) hz2) (k:=aV (k:=aa ?_))
 exact af λw hw=>rq_ r h hF hw
theorem t_strings_Contains(s_:ByteArray)(hs_:s_.size≤lim)(hs:Sat Γ w0){r:Bool}(h:m_strings_Contains s_=some r):CQ Tryz.prog 83 #[.string s_,.string (⟨#[46]⟩:ByteArray)] w0 (.bool r):=by
 refine goQ [4] func83 ntmps83 results83 hs λF hF=>?_
 refine ab (aV (k:=aa (ab (mV (k:=mV (k:=?_))))))
 obtain⟨z1,hz2,h⟩:=bnd h
 refine vqV (caV call118) (λw hw=>t_strings_Index (Γ:=Gh.all w) s_ hs_ (Sat.all w) hz2) (k:=sV q_geq (k:=aV (k:=aa ?_)))
 exact af λw hw=>rq_ r h hF hw
theorem t_seglog_place_list{gp__0:Nat}(p__1:ByteArray)(hp__1:p__1.size≤lim)(p__2:Int)(hp__2:I64 p__2)(hs:Sat Γ w0){r:ByteArray}(h:m_seglog_place_list p__1 p__2=some r):CQ Tryz.prog 87 #[.agg #[(pq gp__0),.string p__1,ii p__2]] w0 (.string r):=by
 refine goQ [2] func87 ntmps87 results87 hs λF hF=>?_
 refine ab ?_
 refine bxV (v:=.agg #[(pq gp__0),.string p__1,ii p__2]) λg1=>?_
 refine aV (k:=aa (ab (sV (q_fl 1 fld_141_1) (k:=sV (ldV 0 isAgg9) (k:=sV (q_sadd rfl rfl rfl hp__1 (show (⟨#[46,109]⟩:ByteArray).size≤lim by decide)) (k:=aV (k:=aa ?_)))))))
 exact af λw hw=>rq_ r h hF hw
abbrev r_slices_Clone_byte_byte(r:List UInt8)(U:List Rowb)(Γ:Gh)(v:Value):Prop := ∃(A0:Option Addr), ∃(c0:Nat), ∃(row0:Rowb),v = .slice A0 r.length c0∧U = [row0]∧Own byteT Γ 5 row0 A0 c0 r∧True
theorem t_slices_Clone_byte_byte{As_:Option Addr}{cs_:Nat}{s_:List UInt8}(hs_:Sl byteT Γ As_ s_)(hs_c:s_.length≤cs_)(hp:Pre [] Γ w0){r:List UInt8}(h:m_slices_Clone_byte_byte s_=some r):Calls Tryz.prog 66 #[.slice As_ s_.length cs_] w0 (Outc Γ [] w0 (r_slices_Clone_byte_byte r)):=by
 refine goV [2] func66 ntmps66 results66 hp λF hF=>?_
 refine ab (aV (k:=aa (ac (ab (mV (k:=sV (q_nil_slice underlying77 rfl rfl rfl) (k:=aa ?_)))))))
 refine WC.cnil h (by kernel_rfl) (λhb=>hs_.none_nil hb) (λhb1 h=>?_) (λhb1 h=>?_)
 ·
  refine ab (aV (k:=aa ?_))
  refine af ?_
  intro w hw
  have hw:=hw.pad
  exact re_ r [0] h hF hw ⟨none,0,[],rfl,rfl,(Own.nil byteT _ 5),trivial⟩
 refine ag (wc_ (ab ?_))
 refine bsV #[] 5 λg2=>?_
 refine mV (k:=?_)
 have ho3:Own byteT Γ 5 [(g2,.cells #[] 5 (0,0))] (some ⟨g2,0,none⟩) 0 ([]:List UInt8):=au (T:=byteT) (ys:=([]:List UInt8)) [] rfl (show 0≤lim by decide) (show True from trivial)
 obtain⟨hk4,h⟩:=chk_some h
 refine apV 0 s_ elem_77 ho3 (of_decide_eq_true hk4) (λw hw=>src_sl hs_ hw) ?_
 intro row5 A6 c7 ho8
 refine aV (k:=aa ?_)
 exact af λw hw=>re_ r [0] h hF hw ⟨A6,c7,row5,rfl,rfl,ho8,trivial⟩
abbrev r_disk_Disk_Read(gd:Nat)(ed:Nat)(rowd:Rowb)(r:(List UInt8)×Bool)(U:List Rowb)(Γ:Gh)(v:Value):Prop := ∃(A0:Option Addr), ∃(c0:Nat), ∃(row0:Rowb),v = .tuple #[.slice A0 r.1.length c0,.bool r.2]∧U = [rowd,row0]∧Own byteT Γ 5 row0 A0 c0 r.1∧True
theorem t_disk_Disk_Read{gd ed:Nat}{rowd:Rowb}{d:Odisk_Disk}(hd:Odisk_Disk.ob ed Γ gd rowd d)(name:ByteArray)(hname:name.size≤lim)(hp:Pre [rowd] Γ w0){r:(List UInt8)×Bool}(h:m_disk_Disk_Read d name=some r):Calls Tryz.prog 39 #[(pq gd),.string name] w0 (Outc Γ [rowd] w0 (r_disk_Disk_Read gd ed rowd r)):=by
 refine goV [4,5] func39 ntmps39 results39 hp λF hF=>?_
 refine ab (aV (k:=aV (k:=aa (ab (mV (k:=sV nlV (k:=sV (q_fl 2 fld_67_2) (k:=?_))))))))
 obtain⟨m1_1,r1_1,m2_1,r2_1,A3_1,c3_1,r3_1,hrow_1,ho0_1,ho1_1,ho2_1,ho3_1,-⟩:=id hd
 refine ufR 0 hrow_1 [_,_,_,_] ?_
 refine sV (ldV 0 isAgg64) (k:=mV (k:=?_))
 obtain⟨v2,⟨A5,c6,hv3,hc7,hs8⟩,hat4⟩:=MapO.look ho2_1 name (z:=.slice none 0 0) (zx:=[]) ⟨none,0,rfl,Nat.zero_le _,Sl.nil _ _ _⟩
 obtain rfl:v2=_:=List.cons.inj hv3 |>.1
 refine sV (q_lookup2 (v:=.slice A5 ((mget name d.seen).getD []).length c6) hat4 rfl underlying64 zeroValue77 rfl rfl (i:=2) rfl) (k:=mV (k:=sV exV (k:=sV exV (k:=aV (k:=aV (k:=aa (ab ?_)))))))
 refine mV (k:=?_)
 obtain⟨z9,hz10,h⟩:=bnd h
 refine ecV [] (caV call66) (λw hp=>t_slices_Clone_byte_byte hs8 hc7 hp hz10) ?_
 rintro Γ11 _ _ hl12 ⟨A15,c16,row17,rfl,rfl,hr18,_⟩
 refine cwV 18 [_,_,_,_,_] (mV (k:=aV (k:=aV (k:=aa ?_))))
 refine af ?_
 intro w hw
 have hw:=hw.fold (is:=[1,1,1,1]) rfl hrow_1
 exact re_ r [0,0] h hF hw ⟨A15,c16,row17,rfl,rfl,hr18,trivial⟩
theorem t_num_Num{Ab:Option Addr}{cb:Nat}{b:List UInt8}(hb:Sl byteT Γ Ab b)(hbc:b.length≤cb)(at_:Int)(hat_:I64 at_)(hs:Sat Γ w0){r:Int×Int×Int}(h:m_num_Num b at_=some r):CQ Tryz.prog 120 #[.slice Ab b.length cb,ii at_] w0 (.tuple #[ii r.1,ii r.2.1,ii r.2.2]):=by
 refine goQ [4,5,6] func120 ntmps120 results120 hs λF hF=>?_
 refine ab (aV (k:=aV (k:=aV (k:=aa (WC.scope (ac (ab ?_)))))))
 refine mV (k:=sV q_lss (k:=mV (k:=vG0 (h:=λhg1=>moV) (k:=vG0 (h:=λhg2=>moV) (k:=vG0 (h:=λhg3=>q_len_slice rfl underlying77 (grV hg3)) (k:=vG0 (h:=λhg4=>q_gtr rfl (grV hg4) (grV hg4)) (k:=sV pkO (k:=?_))))))))
 refine aa ?_
 refine ciV h (λhb5 h=>?_) (λhb5 h=>?_)
 ·
  refine ab (aV (k:=aV (k:=aV (k:=aa ?_))))
  exact af λw hw=>by obtain rfl:=Option.some.inj h; exact⟨by kernel_rfl,fr_ hF hw⟩
 refine ag (wc_ (ab (aV (k:=aa (ab (aV (k:=aa ?_)))))))
 refine ac ?_
 refine WC.label ?_
 change WC _ _ _ _ _ _
 refine ar (λσ w => ∃(e_6:Int),m_num_Num_j1 e_6=some r∧slots σ [(7,ii e_6)]∧CC F Γ [] w∧I64 e_6∧True) ?_ ?_
 ·
  refine ab (mV (k:=mV (k:=?_)))
  obtain⟨hk8,h⟩:=chk_some h
  refine sV (q_cut_from (c:=cb) (lo:=at_.toNat) (xs:=b) underlying77 sizeOf5 rfl rfl (inle_eq rfl hk8) (inle_le hk8)) (k:=sV (q_len_slice rfl underlying77) (k:=mV (k:=aa (ai ?_))))
  refine al h (λ(i11:Nat) (n_9:Int) σ w=>slots σ [(1,ii at_),(7,ii 4),(8,.int .u64 n_9),(21,.slice (if cb=at_.toNat then Ab else Option.map (λa=>a.add (at_.toNat*1)) Ab) (List.drop at_.toNat b).length (cb - at_.toNat)),(22,ii (((List.drop at_.toNat b).length:Nat):Int)),(23,ii (i11:Int))]∧CC F Γ [] w∧True) ?_ ?_
  ·
   intro w hw
   exact⟨slK,hw,trivial⟩
  rintro f10 i11 n_9 σ w hi12 hlt13 hge14 ⟨hsl,hw,-⟩
  refine slV hsl hw [] ?_; clear hw hsl
  refine ab (sV q_lss (k:=aa (ac ?_)))
  refine coV (λhb15=>?_) (λhb15=>?_)
  ·
   have hl16:=ilt hb15
   have h:=hlt13 hl16
   refine ag (wc_ (ac (ai (ab (mV (k:=sV (q_ixn (i:=i11) underlying77 sizeOf5 rfl rfl rfl hl16 ((hb.cut_from (c:=cb) (lo:=at_.toNat) (inle_le hk8) hbc).some_ hl16)) (k:=sV (q_ld (c:=0) (v:=.int .u8 (((gt (List.drop at_.toNat b) i11).toNat:Nat):Int)) ((hb.cut_from (c:=cb) (lo:=at_.toNat) (inle_le hk8) hbc).byteT_at hl16).2 rfl isAgg5 rfl rfl) (k:=?_))))))))
   refine aV (k:=aV (k:=aa (ac (ai ?_))))
   refine ar (λσ w => ∃(x_17:Bool),m_num_Num_j11 b at_ n_9 f10 i11 x_17=some r∧slots σ [(1,ii at_),(7,ii 4),(8,.int .u64 n_9),(9,ii (i11:Int)),(10,.int .u8 (((gt (List.drop at_.toNat b) i11).toNat:Nat):Int)),(21,.slice (if cb=at_.toNat then Ab else Option.map (λa=>a.add (at_.toNat*1)) Ab) (List.drop at_.toNat b).length (cb - at_.toNat)),(22,ii (((List.drop at_.toNat b).length:Nat):Int)),(23,ii (i11:Int)),(28,.bool x_17)]∧CC F Γ [] w∧True) ?_ ?_
   ·
    refine ab (mV (k:=sV q_eql (k:=mV (k:=vG1 (h:=λhg18=>moV) (k:=vG1 (h:=λhg19=>q_gtr rfl (grV hg19)) (k:=sV pkA (k:=aV (k:=?_))))))))
    refine aa ?_
    refine ciV h (λhb20 h=>?_) (λhb20 h=>?_)
    ·
     exact ag λw hw=>⟨(((i11:Int)==8)&&(decide (127<(((gt (List.drop at_.toNat b) i11).toNat:Nat):Int)))),h,slK,hw,trivial⟩
    refine ah ?_
    refine mV (k:=sV q_gtr (k:=mV (k:=vG1 (h:=λhg21=>moV) (k:=vG1 (h:=λhg22=>q_eql rfl (grV hg22)) (k:=sV pkA (k:=aV (k:=?_)))))))
    exact ae λw hw=>⟨((decide (0<(i11:Int)))&&((((gt (List.drop at_.toNat b) i11).toNat:Nat):Int)==0)),h,slK,hw,trivial⟩
   rintro σ w ⟨x_17,h,hsl,hw,-⟩
   refine slV hsl hw [] ?_; clear hw hsl
   refine ciV h (λhb23 h=>?_) (λhb23 h=>?_)
   ·
    refine ab (aV (k:=aa ?_))
    exact aj λw hw=>⟨2,h,slK,hw,iV,trivial⟩
   refine ab (mV (k:=sV q_lss (k:=aV (k:=aa ?_))))
   refine ciV h (λhb24 h=>?_) (λhb24 h=>?_)
   ·
    refine ab (mV (k:=mV (k:=sV (q_conv underlying82 underlying5) (k:=mV (k:=sV q_mul (k:=?_))))))
    obtain⟨hk25,h⟩:=chk_some h
    refine sV (q_shl rfl rfl rfl hk25) (k:=sV q_or (k:=sV (q_conv underlying2 underlying82) (k:=mV (k:=mV (k:=sV q_add (k:=sV q_add (k:=aV (k:=?_))))))))
    refine aV (k:=aV (k:=aa ?_))
    exact af λw hw=>by obtain rfl:=Option.some.inj h; exact⟨by kernel_rfl,fr_ hF hw⟩
   refine ag (wc_ ?_)
   refine ah ?_
   refine mV (k:=mV (k:=sV q_and (k:=sV (q_conv underlying82 underlying5) (k:=mV (k:=sV q_mul (k:=?_))))))
   obtain⟨hk26,h⟩:=chk_some h
   refine sV (q_shl rfl rfl rfl hk26) (k:=sV q_or (k:=aV (k:=?_)))
   refine ae ?_
   change WC _ _ _ _ _ _
   refine ah ?_
   refine sV (q_add_r rfl rfl rfl (ctr_len hl16 (hb.cut_from (c:=cb) (lo:=at_.toNat) (inle_le hk8) hbc).le)) (k:=mV (k:=?_))
   exact ae λw hw=>⟨hl16,(ior .u64 n_9 (ishl .u64 (wu64 (iand .u8 (((gt (List.drop at_.toNat b) i11).toNat:Nat):Int) 127)) (w64 (7*(i11:Int))))),h,slK,hw,trivial⟩
  have h:=hge14 (ige hb15)
  exact aj λw hw=>⟨4,h,slK,hw,iV,trivial⟩
 rintro σ w ⟨e_6,h,hsl,hw,hr7,-⟩
 refine slV hsl hw [] ?_; clear hw hsl
 refine ab (mV (k:=aV (k:=aV (k:=aV (k:=aa ?_)))))
 exact af λw hw=>by obtain rfl:=Option.some.inj h; exact⟨by kernel_rfl,fr_ hF hw⟩
theorem t_frame_Sum{Aparts:Option Addr}{cparts:Nat}{parts:List (List UInt8)}(hparts:Sl (slT byteT) Γ Aparts parts)(hpartsc:parts.length≤cparts)(hs:Sat Γ w0){r:Int}(h:m_frame_Sum parts=some r):CQ Tryz.prog 172 #[.slice Aparts parts.length cparts] w0 (.int .u32 r):=by
 refine goQ [2] func172 ntmps172 results172 hs λF hF=>?_
 refine ab (aV (k:=aa (ab (aV (k:=aa (ac (ab ?_)))))))
 refine mV (k:=sV (q_len_slice rfl underlying103) (k:=mV (k:=aa (ai ?_))))
 refine al h (λ(i3:Nat) (r_1:Int) σ w=>slots σ [(3,.int .u32 r_1),(8,.slice Aparts parts.length cparts),(9,ii (parts.length:Int)),(10,ii (i3:Int))]∧CC F Γ [] w∧True) ?_ ?_
 ·
  intro w hw
  exact⟨slK,hw,trivial⟩
 rintro f2 i3 r_1 σ w hi4 hlt5 hge6 ⟨hsl,hw,-⟩
 refine slV hsl hw [] ?_; clear hw hsl
 refine ab (sV q_lss (k:=aa (ac ?_)))
 refine coV (λhb7=>?_) (λhb7=>?_)
 ·
  have hl8:=ilt hb7
  have h:=hlt5 hl8
  refine ag (wc_ (ac (ai (ab (sV (q_ixn (i:=i3) underlying103 sizeOf77 rfl rfl rfl hl8 (hparts.some_ hl8)) (k:=?_))))))
  obtain⟨A9,c10,hx11⟩:=hparts.slT_at i3
  refine sV (q_ld (c:=0) (v:=.slice A9 (gt parts i3).length c10) (hx11 hl8).2 rfl isAgg77 rfl rfl) (k:=aV (k:=aa (ab (mV (k:=sV (q_len_slice rfl underlying77) (k:=mV (k:=aa ?_)))))))
  refine ai ?_
  refine al h (λ(i14:Nat) (r_12:Int) σ w=>slots σ [(3,.int .u32 r_12),(8,.slice Aparts parts.length cparts),(9,ii (parts.length:Int)),(10,ii (i3:Int)),(14,.slice A9 (gt parts i3).length c10),(15,ii (((gt parts i3).length:Nat):Int)),(16,ii (i14:Int))]∧CC F Γ [] w∧True) ?_ ?_
  ·
   intro w hw
   exact⟨slK,hw,trivial⟩
  rintro f13 i14 r_12 σ w hi15 hlt16 hge17 ⟨hsl,hw,-⟩
  refine slV hsl hw [] ?_; clear hw hsl
  refine ab (sV q_lss (k:=aa (ac ?_)))
  refine coV (λhb18=>?_) (λhb18=>?_)
  ·
   have hl19:=ilt hb18
   have h:=hlt16 hl19
   refine ag (wc_ (ac (ai (ab (sV (q_ixn (i:=i14) underlying77 sizeOf5 rfl rfl rfl hl19 ((hx11 hl8).1.2.some_ hl19)) (k:=sV (q_ld (c:=0) (v:=.int .u8 (((gt (gt parts i3) i14).toNat:Nat):Int)) ((hx11 hl8).1.2.byteT_at hl19).2 rfl isAgg5 rfl rfl) (k:=aV (k:=?_))))))))
   refine aa (ab (mV (k:=mV (k:=sV (q_conv underlying242 underlying5) (k:=sV q_xor (k:=aV (k:=aa ?_)))))))
   refine ab (mV (k:=aa (ai ?_)))
   refine ax h (λ(i22:Nat) (r_20:Int) σ w=>slots σ [(3,.int .u32 r_20),(8,.slice Aparts parts.length cparts),(9,ii (parts.length:Int)),(10,ii (i3:Int)),(14,.slice A9 (gt parts i3).length c10),(15,ii (((gt parts i3).length:Nat):Int)),(16,ii (i14:Int)),(24,ii (i22:Int))]∧CC F Γ [] w∧True) ?_ ?_
   ·
    intro w hw
    exact⟨slK,hw,trivial⟩
   rintro f21 i22 r_20 σ w hi23 hlt24 hge25 ⟨hsl,hw,-⟩
   refine slV hsl hw [] ?_; clear hw hsl
   refine ab (sV q_lss (k:=aa (ac ?_)))
   refine coV (λhb26=>?_) (λhb26=>?_)
   ·
    have hl27:=ilt hb26
    have h:=hlt24 hl27
    refine ag (wc_ (ac (ai ?_)))
    refine ah ?_
    refine mV (k:=sV (q_shr rfl rfl rfl (by decide)) (k:=mV (k:=sV q_and (k:=sV q_neg (k:=sV q_and (k:=sV q_xor (k:=aV (k:=?_))))))))
    refine ae ?_
    change WC _ _ _ _ _ _
    refine ah ?_
    refine sV (q_add_r rfl rfl rfl (ctr_lit hl27 (by decide))) (k:=mV (k:=?_))
    exact ae λw hw=>⟨hl27,(ixor .u32 (ishr .u32 r_20 1) (iand .u32 3988292384 (wu32 (0 - (iand .u32 r_20 1))))),h,slK,hw,trivial⟩
   have h:=hge25 (ige hb26)
   refine aj ?_
   change WC _ _ _ _ _ _
   refine ah ?_
   refine sV (q_add_r rfl rfl rfl (ctr_len hl19 (hx11 hl8).1.2.le)) (k:=mV (k:=?_))
   exact ae λw hw=>⟨hl19,r_20,h,slK,hw,trivial⟩
  have h:=hge17 (ige hb18)
  refine aj ?_
  change WC _ _ _ _ _ _
  refine ah ?_
  refine sV (q_add_r rfl rfl rfl (ctr_len hl8 hparts.le)) (k:=mV (k:=?_))
  exact ae λw hw=>⟨hl8,r_12,h,slK,hw,trivial⟩
 have h:=hge6 (ige hb7)
 refine aj ?_
 change WC _ _ _ _ _ _
 refine ab (mV (k:=sV (q_com rfl rfl) (k:=aV (k:=aa ?_))))
 exact af λw hw=>rq_ r h hF hw
abbrev r_frame_Next(r:(List UInt8)×Int×Int)(U:List Rowb)(Γ:Gh)(v:Value):Prop := ∃(A0:Option Addr), ∃(c0:Nat), ∃(row0:Rowb),v = .tuple #[.slice A0 r.1.length c0,.int .i64 r.2.1,.int .i64 r.2.2]∧U = [row0]∧Own byteT Γ 5 row0 A0 c0 r.1∧I64 r.2.1∧I64 r.2.2∧True
theorem t_frame_Next{Ab:Option Addr}{cb:Nat}{b:List UInt8}(hb:Sl byteT Γ Ab b)(hbc:b.length≤cb)(at_:Int)(hat_:I64 at_)(hp:Pre [] Γ w0){r:(List UInt8)×Int×Int}(h:m_frame_Next b at_=some r):Calls Tryz.prog 191 #[.slice Ab b.length cb,ii at_] w0 (Outc Γ [] w0 (r_frame_Next r)):=by
 refine goV [4,5,6] func191 ntmps191 results191 hp λF hF=>?_
 refine ab (aV (k:=aV (k:=aV (k:=aa (ab (mV (k:=mV (k:=?_))))))))
 obtain⟨z1,hz2,h⟩:=bnd h
 refine vqV (caV call120) (λw hw=>t_num_Num (Γ:=Gh.all w) (hb.mono hw.sat.le_all) hbc at_ hat_ (Sat.all w) hz2) (k:=mV (k:=sV exV (k:=sV exV (k:=sV exV (k:=aV (k:=aV (k:=aV (k:=?_))))))))
 refine aa (ac (ab (mV (k:=sV q_neq (k:=aa ?_)))))
 refine ciV h (λhb3 h=>?_) (λhb3 h=>?_)
 ·
  refine ab (mV (k:=aV (k:=aV (k:=aV (k:=aa ?_)))))
  refine af ?_
  intro w hw
  have hw:=hw.pad
  obtain⟨hk4,h⟩:=chk_some h
  cases h
  subst hF
  exact end_e (is:=[0]) (by kernel_rfl) hw rfl ⟨none,0,[],rfl,rfl,(Own.nil byteT _ 5),iV,(i64b_of hk4),trivial⟩
 refine ag (wc_ (ac (ab (mV (k:=sV q_gtr (k:=aa ?_))))))
 refine ciV h (λhb5 h=>?_) (λhb5 h=>?_)
 ·
  refine ab (aV (k:=aV (k:=aV (k:=aa ?_))))
  refine af ?_
  intro w hw
  have hw:=hw.pad
  exact re_ r [0] h hF hw ⟨none,0,[],rfl,rfl,(Own.nil byteT _ 5),iV,iV,trivial⟩
 refine ag (wc_ (ac (ab (mV (k:=sV (q_len_slice rfl underlying77) (k:=mV (k:=sV q_sub (k:=?_))))))))
 refine mV (k:=sV q_add (k:=sV q_lss (k:=aa ?_)))
 refine ciV h (λhb6 h=>?_) (λhb6 h=>?_)
 ·
  refine ab (aV (k:=aV (k:=aV (k:=aa ?_))))
  refine af ?_
  intro w hw
  have hw:=hw.pad
  exact re_ r [0] h hF hw ⟨none,0,[],rfl,rfl,(Own.nil byteT _ 5),iV,iV,trivial⟩
 refine ag (wc_ (ab (mV (k:=mV (k:=sV q_add (k:=mV (k:=sV q_add (k:=?_))))))))
 refine mV (k:=sV q_add (k:=?_))
 obtain⟨hk7,h⟩:=chk_some h
 obtain⟨hk8,h⟩:=chk_some h
 obtain⟨hk9,h⟩:=chk_some h
 refine sV (q_cut (c:=cb) (lo:=(w64 (z1.2.1+4)).toNat) (hi:=(w64 ((w64 (z1.2.1+4))+z1.1)).toNat) (xs:=b) underlying77 sizeOf5 rfl rfl (nn_eq rfl hk8) (inle_eq rfl hk7) (of_decide_eq_true hk9) (inle_le hk7) hbc) (k:=aV (k:=aa (ab (mV (k:=mV (k:=mV (k:=?_)))))))
 obtain⟨hk10,h⟩:=chk_some h
 obtain⟨hk11,h⟩:=chk_some h
 obtain⟨hk12,h⟩:=chk_some h
 refine sV (q_cut (c:=cb) (lo:=at_.toNat) (hi:=z1.2.1.toNat) (xs:=b) underlying77 sizeOf5 rfl rfl (nn_eq rfl hk11) (inle_eq rfl hk10) (of_decide_eq_true hk12) (inle_le hk10) hbc) (k:=mV (k:=?_))
 refine bsV #[.slice (if cb=at_.toNat then Ab else Option.map (λa=>a.add (at_.toNat*1)) Ab) (List.drop at_.toNat (List.take z1.2.1.toNat b)).length (cb - at_.toNat),.slice (if cb=(w64 (z1.2.1+4)).toNat then Ab else Option.map (λa=>a.add (((w64 (z1.2.1+4)).toNat)*1)) Ab) (List.drop ((w64 (z1.2.1+4)).toNat) (List.take ((w64 ((w64 (z1.2.1+4))+z1.1)).toNat) b)).length (cb - (w64 (z1.2.1+4)).toNat)] 77 λg13=>?_
 have ho14:Own (slT byteT) Γ 77 [(g13,.cells #[.slice (if cb=at_.toNat then Ab else Option.map (λa=>a.add (at_.toNat*1)) Ab) (List.drop at_.toNat (List.take z1.2.1.toNat b)).length (cb - at_.toNat),.slice (if cb=(w64 (z1.2.1+4)).toNat then Ab else Option.map (λa=>a.add (((w64 (z1.2.1+4)).toNat)*1)) Ab) (List.drop ((w64 (z1.2.1+4)).toNat) (List.take ((w64 ((w64 (z1.2.1+4))+z1.1)).toNat) b)).length (cb - (w64 (z1.2.1+4)).toNat)] 77 (0,0))] (some ⟨g13,0,none⟩) 2 [(List.drop at_.toNat (List.take z1.2.1.toNat b)),(List.drop ((w64 (z1.2.1+4)).toNat) (List.take ((w64 ((w64 (z1.2.1+4))+z1.1)).toNat) b))]:=au (T:=(slT byteT)) (ys:=[(List.drop at_.toNat (List.take z1.2.1.toNat b)),(List.drop ((w64 (z1.2.1+4)).toNat) (List.take ((w64 ((w64 (z1.2.1+4))+z1.1)).toNat) b))]) [[.slice (if cb=at_.toNat then Ab else Option.map (λa=>a.add (at_.toNat*1)) Ab) (List.drop at_.toNat (List.take z1.2.1.toNat b)).length (cb - at_.toNat)],[.slice (if cb=(w64 (z1.2.1+4)).toNat then Ab else Option.map (λa=>a.add (((w64 (z1.2.1+4)).toNat)*1)) Ab) (List.drop ((w64 (z1.2.1+4)).toNat) (List.take ((w64 ((w64 (z1.2.1+4))+z1.1)).toNat) b)).length (cb - (w64 (z1.2.1+4)).toNat)]] rfl (show 2≤lim by decide) ⟨⟨(if cb=at_.toNat then Ab else Option.map (λa=>a.add (at_.toNat*1)) Ab),(cb - at_.toNat),rfl,(cut2_cap hbc at_.toNat z1.2.1.toNat),(hb.cut (cap:=cb) (lo:=at_.toNat) (hi:=z1.2.1.toNat) (of_decide_eq_true hk12) (inle_le hk10) hbc)⟩,⟨(if cb=(w64 (z1.2.1+4)).toNat then Ab else Option.map (λa=>a.add (((w64 (z1.2.1+4)).toNat)*1)) Ab),(cb - (w64 (z1.2.1+4)).toNat),rfl,(cut2_cap hbc ((w64 (z1.2.1+4)).toNat) ((w64 ((w64 (z1.2.1+4))+z1.1)).toNat)),(hb.cut (cap:=cb) (lo:=(w64 (z1.2.1+4)).toNat) (hi:=(w64 ((w64 (z1.2.1+4))+z1.1)).toNat) (of_decide_eq_true hk9) (inle_le hk7) hbc)⟩,trivial⟩
 obtain⟨z15,hz16,h⟩:=bnd h
 refine vqV (caV call172) (λw hw=>t_frame_Sum (Γ:=Gh.all w) (ho14.sl hw.sat.le_all (hw.ra 0 rfl)) ho14.capz (Sat.all w) hz16) (k:=aV (k:=aa (ac (ab (mV (k:=aa (ai ?_)))))))
 refine ax h (λ(i18:Nat) (s:Unit) σ w=>match s with | ()=>slots σ [(0,.slice Ab b.length cb),(7,ii z1.1),(8,ii z1.2.1),(10,.slice (if cb=(w64 (z1.2.1+4)).toNat then Ab else Option.map (λa=>a.add (((w64 (z1.2.1+4)).toNat)*1)) Ab) (List.drop ((w64 (z1.2.1+4)).toNat) (List.take ((w64 ((w64 (z1.2.1+4))+z1.1)).toNat) b)).length (cb - (w64 (z1.2.1+4)).toNat)),(11,.int .u32 z15),(47,ii (i18:Int))]∧CC F Γ [] w∧True) ?_ ?_
 ·
  intro w hw
  exact⟨slK,(hw.on []),trivial⟩
 rintro f17 i18 ⟨⟩ σ w hi19 hlt20 hge21 ⟨hsl,hw,-⟩
 refine slV hsl hw [] ?_; clear hw hsl
 refine ab (sV q_lss (k:=aa (ac ?_)))
 refine coV (λhb22=>?_) (λhb22=>?_)
 ·
  have hl23:=ilt hb22
  have h:=hlt20 hl23
  refine ag (wc_ (ac (ai (ab (mV (k:=aV (k:=aa ?_)))))))
  refine ac ?_
  refine drV ?_
  refine zV moV (k:=zV moV (k:=zV moV (k:=zV q_add (k:=?_))))
  obtain⟨hk24,h⟩:=chk_some h
  refine zV (q_ix underlying77 sizeOf5 rfl rfl rfl hk24 (hb.some_ (inb_lt hk24))) (k:=zV (q_ld (c:=0) (v:=.int .u8 (((gt b ((w64 (z1.2.1+(i18:Int))).toNat)).toNat:Nat):Int)) (hb.byteT_at (inb_lt hk24)).2 rfl isAgg5 rfl rfl) (k:=zV moV (k:=zV moV (k:=zV q_mul (k:=?_)))))
  obtain⟨hk25,h⟩:=chk_some h
  refine zV (q_shr rfl rfl rfl hk25) (k:=zV (q_conv underlying5 underlying242) (k:=zV q_neq (k:=?_)))
  refine ao ?_
  change WC _ _ _ _ _ _
  refine ciV h (λhb26 h=>?_) (λhb26 h=>?_)
  ·
   refine ab (aV (k:=aV (k:=aV (k:=aa ?_))))
   refine af ?_
   intro w hw
   have hw:=hw.pad
   exact re_ r [0] h hF hw ⟨none,0,[],rfl,rfl,(Own.nil byteT _ 5),iV,iV,trivial⟩
  refine ag (wc_ ?_)
  refine ah ?_
  refine sV (q_add_r rfl rfl rfl (ctr_lit hl23 (by decide))) (k:=mV (k:=?_))
  exact ae λw hw=>⟨hl23,(),h,slK,hw,trivial⟩
 have h:=hge21 (ige hb22)
 refine aj ?_
 change WC _ _ _ _ _ _
 refine ab ?_
 refine bsV #[] 5 λg27=>?_
 refine mV (k:=?_)
 have ho28:Own byteT Γ 5 [(g27,.cells #[] 5 (0,0))] (some ⟨g27,0,none⟩) 0 ([]:List UInt8):=au (T:=byteT) (ys:=([]:List UInt8)) [] rfl (show 0≤lim by decide) (show True from trivial)
 obtain⟨hk29,h⟩:=chk_some h
 refine apV 0 ((List.drop ((w64 (z1.2.1+4)).toNat) (List.take ((w64 ((w64 (z1.2.1+4))+z1.1)).toNat) b))) elem_77 ho28 (of_decide_eq_true hk29) (λw hw=>src_sl (hb.cut (cap:=cb) (lo:=(w64 (z1.2.1+4)).toNat) (hi:=(w64 ((w64 (z1.2.1+4))+z1.1)).toNat) (of_decide_eq_true hk9) (inle_le hk7) hbc) hw) ?_
 intro row30 A31 c32 ho33
 refine mV (k:=sV q_add (k:=mV (k:=sV q_add (k:=aV (k:=aV (k:=aV (k:=aa ?_)))))))
 exact af λw hw=>re_ r [0] h hF hw ⟨A31,c32,row30,rfl,rfl,ho33,(w64_r _),iV,trivial⟩
abbrev r_frame_frames_1(J:Gh→Rowb→YSframe_frames_1→Prop)(lY:Nat)(gb0:Nat)(Ab0v:Option Addr)(cb0v:Nat)(b0v:List UInt8)(gb1:Nat)(gb1v:Nat)(b1v:Int)(r:YSframe_frames_1×Int)(U:List Rowb)(Γ:Gh)(v:Value):Prop := ∃(rowsY':Rowb),v = .tuple #[]∧U = [rowsY',[(gb0,.cells #[.slice Ab0v b0v.length cb0v] 77 (0,0))],[(gb1,.cells #[.pointer (some ⟨gb1v,0,none⟩)] 226 (0,0))],[(gb1v,.cells #[.int .i64 r.2] 28 (0,0))]]∧YSframe_frames_1.ob J Γ lY rowsY' r.1∧I64 r.2∧True
theorem t_frame_frames_1{J:Gh→Rowb→YSframe_frames_1→Prop}{Y:YSframe_frames_1→List UInt8→Int→Option YSframe_frames_1}{lY:Nat}(hY:∀{Γ:Gh} {w:World} {row:Rowb} {s s':YSframe_frames_1} {Ay0_:Option Addr} {cy0_:Nat} {y0_:List UInt8} (hy0_:Sl byteT Γ Ay0_ y0_) (hy0_c:y0_.length≤cy0_) (y1_:Int) (hy1_:I64 y1_) (hs:YSframe_frames_1.ob J Γ lY row s) (hp:Pre [row] Γ w) (h:Y s y0_ y1_=some s'),YieldAt (FR none) 0 Tryz.prog lY #[.slice Ay0_ y0_.length cy0_,ii y1_] w (Outc Γ [row] w λU Δ v => ∃row':Rowb,v = .bool true∧U = [row']∧YSframe_frames_1.ob J Δ lY row' s')){rowsY:Rowb}{sY:YSframe_frames_1}(hsY:YSframe_frames_1.ob J Γ lY rowsY sY){gb0:Nat}{Ab0v:Option Addr}{cb0v:Nat}{b0v:List UInt8}(hb0v:Sl byteT Γ Ab0v b0v)(hb0vc:b0v.length≤cb0v){gb1:Nat}{gb1v:Nat}(b1v:Int)(hb1v:I64 b1v)(hp:Pre [rowsY,[(gb0,.cells #[.slice Ab0v b0v.length cb0v] 77 (0,0))],[(gb1,.cells #[(pq gb1v)] 226 (0,0))],[(gb1v,.cells #[ii b1v] 28 (0,0))]] Γ w0){r:YSframe_frames_1×Int}(h:m_frame_frames_1 Y sY b0v b1v=some r):Calls Tryz.prog 190 #[.func (.yield lY) #[] #[],(pq gb0),(pq gb1)] w0 (Outc Γ [rowsY,[(gb0,.cells #[.slice Ab0v b0v.length cb0v] 77 (0,0))],[(gb1,.cells #[(pq gb1v)] 226 (0,0))],[(gb1v,.cells #[ii b1v] 28 (0,0))]] w0 (r_frame_frames_1 J lY gb0 Ab0v cb0v b0v gb1 gb1v b1v r)):=by
 refine goV [] func190 ntmps190 results190 hp λF hF=>?_
 refine ab (aV (k:=aa (ai ?_)))
 refine ay h (λ(s:Int×Int×YSframe_frames_1) σ w=>match s with | (at_3,x5,o7) => ∃(Γ1:Gh), ∃(row8:Rowb),slots σ [(0,.func (.yield lY) #[] #[]),(1,(pq gb0)),(2,(pq gb1)),(4,ii at_3)]∧CC F Γ1 [row8,[(gb0,.cells #[.slice Ab0v b0v.length cb0v] 77 (0,0))],[(gb1,.cells #[(pq gb1v)] 226 (0,0))],[(gb1v,.cells #[ii x5] 28 (0,0))]] w∧Gh.le Γ Γ1∧I64 at_3∧I64 x5∧YSframe_frames_1.ob J Γ1 lY row8 o7∧True) ?_ ?_
 ·
  intro w hw
  exact⟨Γ,rowsY,slK,hw,gR,iV,hb1v,hsY,trivial⟩
 rintro f10 ⟨at_3,x5,o7⟩ σ w h ⟨Γ1,row8,hsl,hw,hl2,hr4,hr6,ho9,-⟩
 refine slV hsl hw [_,_,_,_] ?_; clear hw hsl
 refine ac (ab (mV (k:=sV (ldV 1 isAgg77) (k:=sV (q_len_slice rfl underlying77) (k:=sV q_lss (k:=aa ?_))))))
 refine ciV h (λhb14 h=>?_) (λhb14 h=>?_)
 ·
  refine ag (wc_ (ai (ab (sV (ldV 1 isAgg77) (k:=mV (k:=?_))))))
  obtain⟨z15,hz16,h⟩:=bnd h
  refine ecV [] (caV call191) (λw hp=>t_frame_Next (hb0v.mono hl2) hb0vc at_3 hr4 hp hz16) ?_
  rintro Γ17 _ _ hl18 ⟨A21,c22,row23,rfl,rfl,hr24,hr25,hr26,_⟩
  refine cwV 15 [_,_,_,_,_] (mV (k:=sV exV (k:=sV exV (k:=sV exV (k:=aV (k:=aV (k:=aV (k:=?_))))))))
  refine aa (ab (sV (ldV 3 isAgg226) (k:=mV (k:=sV nlV (k:=stV 4 (ii z15.2.2) #[ii z15.2.2] sizeOf28 (k:=aa (ac ?_)))))))
  refine ac ?_
  refine WC.ofI (WCI.region ?_)
  refine WI.op (λ_ h=>nomatch h) ?_
  refine mV (k:=?_)
  refine ak ?_
  refine WI.op (λ_ h=>nomatch h) ?_
  refine sV q_neq (k:=?_)
  refine ak ?_
  refine WI.op (λ_ h=>nomatch h) ?_
  refine mV (k:=?_)
  refine ak ?_
  refine WI.op (λ_ h=>nomatch h) ?_
  refine vG0 (h:=λhg27=>q_move (v:=.func (.yield lY) #[] #[]) rfl (by kernel_rfl)) (k:=?_)
  refine ak ?_
  refine WI.op (λ_ h=>nomatch h) ?_
  refine vG0 (h:=λhg28=>moV) (k:=?_)
  refine ak ?_
  refine WI.op (λ_ h=>nomatch h) ?_
  refine vG0 (h:=λhg29=>moV) (k:=?_)
  refine ak ?_
  refine(Bool.eq_false_or_eq_true (!(z15.2.2 != 0))).elim (λhb30=>?_) (λhb30=>?_)
  ·
   have h:=bt hb30 h
   refine WI.sat (c0:=true) (g:=(z15.2.2 != 0)) rfl rfl rfl hb30 ?_
   have hc35:=hr24.capz
   intro w hw; obtain⟨Γ31,hw,hl32,hr33⟩:=hw.seal (i:=0) rfl; have hs34:=hr24.sl hl32 hr33
   refine WI.here (C:=CC F Γ31 [[],row8,[(gb0,.cells #[.slice Ab0v b0v.length cb0v] 77 (0,0))],[(gb1,.cells #[(pq gb1v)] 226 (0,0))],[(gb1v,.cells #[ii z15.2.2] 28 (0,0))]]) ?_ hw
   clear hw
   obtain⟨z36,hz37,h⟩:=bnd h
   refine WI.yield (is:=[1]) rfl rfl (λ_ h=>nomatch h) (yield_run rfl (grV hb30) (args2 (grV hb30) (grV hb30))) rfl (λw hp=>hY hs34 hc35 z15.2.1 hr25 (ho9.mono (hl18.trans hl32)) hp hz37) ?_
   rintro Γ38 _ _ hl39 ⟨row42,rfl,rfl,hr43⟩
   change WI _ _ _ _ (CC F Γ38 [row42,[],[(gb0,.cells #[.slice Ab0v b0v.length cb0v] 77 (0,0))],[(gb1,.cells #[(pq gb1v)] 226 (0,0))],[(gb1v,.cells #[ii z15.2.2] 28 (0,0))]]) _ _ (upd _ 28 (.bool true))
   refine WI.sat (c0:=true) (g:=(z15.2.2 != 0)) rfl rfl rfl hb30 ?_
   refine WI.op (λ_ h=>nomatch h) ?_
   refine sV q_not (k:=?_)
   refine ak ?_
   refine WI.op (λ_ h=>nomatch h) ?_
   refine sV (q_pick_f (v:=.bool (!true)) rfl rfl (not_t hb30) (by kernel_rfl)) (k:=?_)
   refine ak ?_
   refine WI.nil ?_
   change WC _ _ _ _ _ _
   refine WC.cfk (b:=(!true)) (by kernel_rfl) (nott rfl) ?_
   refine ag (wc_ ?_)
   refine ah ?_
   refine mV (k:=aV (k:=?_))
   exact ae λw hw=>⟨(z15.2.1,z15.2.2,z36),h,Γ38,row42,slK,(hw.on [0,1,1,1]),(((hl2.trans hl18).trans hl32).trans hl39),hr25,hr26,hr43,trivial⟩
  have h:=bf hb30 h
  refine WI.op (λ_ h=>nomatch h) ?_
  refine av (c0:=true) (g:=(z15.2.2 != 0)) rfl rfl rfl hb30 rfl ?_
  refine ak ?_
  refine WI.op (λ_ h=>nomatch h) ?_
  refine av (c0:=true) (g:=(z15.2.2 != 0)) rfl rfl rfl hb30 rfl ?_
  refine ak ?_
  refine WI.op (λ_ h=>nomatch h) ?_
  refine sV (q_pick_t (v:=.bool true) rfl rfl (not_f hb30) (by kernel_rfl)) (k:=?_)
  refine ak ?_
  refine WI.nil ?_
  change WC _ _ _ _ _ _
  refine WC.ctk (b:=true) (by kernel_rfl) rfl ?_
  exact af λw hw=>re_ r [1,1,1,1] h hF hw ⟨row8,rfl,rfl,(ho9.mono hl18),hr26,trivial⟩
 refine aj ?_
 intro w hw
 cases h
 subst hF
 exact end_e (is:=[0,0,0,0]) (by kernel_rfl) hw rfl ⟨row8,rfl,rfl,ho9,hr6,trivial⟩
def JAll(l gout gat:Nat)(rec:Loop)(Γ:Gh)(row:Rowb)(s:YSframe_frames_1):Prop := ∃(A:Option Addr) (c:Nat) (rowo:Rowb),row=([[(l,.loop rec)],[(gout,.cells #[.slice A s.1.length c] 103 (0,0))],[(gat,.cells #[.int .i64 s.2] 3 (0,0))],rowo]:List Rowb).flatten∧Own (slT byteT) Γ 77 rowo A c s.1∧I64 s.2
theorem t_frame_frames{A:Option Addr}{c:Nat}{b:List UInt8}(ge:Nat)(hp:Pre [] Γ w0):Calls Tryz.prog 153 #[.slice A b.length c,(pq ge)] w0 (Outc Γ [] w0 (λU Δ v => ∃g1 g2:Nat,v = .func (.func 190) #[] #[(pq g1),(pq g2)]∧U = [[(g1,.cells #[.slice A b.length c] 77 (0,0))],[(g2,.cells #[(pq ge)] 226 (0,0))]])):=by
 refine goV [4] func153 ntmps153 results153 hp λF hF=>?_
 refine ab ?_
 refine bxV (v:=.slice A b.length c) λg1=>?_
 refine bxV (v:=(pq ge)) λg2=>?_
 refine aU (v:=.nilFunc) (k:=?_)
 refine ae ?_
 change WC _ _ _ _ _ _
 refine ab (sV (q_mkfn (v:=.func (.func 190) #[] #[(pq g1),(pq g2)]) rfl (by kernel_rfl)) (k:=aU (v:=.func (.func 190) #[] #[(pq g1),(pq g2)]) (k:=?_)))
 refine ae ?_
 change WC _ _ _ _ _ _
 refine af ?_
 intro w hw
 subst hF
 exact end_e (is:=[1,0]) (by kernel_rfl) hw rfl ⟨g1,g2,rfl,rfl⟩
abbrev r_frame_All(r:List (List UInt8)×Int×Int)(U:List Rowb)(Γ:Gh)(v:Value):Prop := ∃(A0:Option Addr), ∃(c0:Nat), ∃(row0:Rowb),v = .tuple #[.slice A0 r.1.length c0,.int .i64 r.2.1,.int .i64 r.2.2]∧U = [row0]∧Own (slT byteT) Γ 77 row0 A0 c0 r.1∧I64 r.2.1∧I64 r.2.2∧True
set_option maxRecDepth 100000 in
set_option maxHeartbeats 800000 in
theorem t_frame_All{Γ:Gh}{w0:World}{Ab:Option Addr}{cb:Nat}{b:List UInt8}(hb:Sl byteT Γ Ab b)(hbc:b.length≤cb)(hp:Pre [] Γ w0){r:List (List UInt8)×Int×Int}(h:m_frame_All b=some r):Calls Tryz.prog 119 #[.slice Ab b.length cb] w0 (Outc Γ [] w0 (r_frame_All r)):=by
 obtain⟨z,hz,h⟩:=bnd h
 cases h
 refine calls_of2 (n:=22) (rs:=[2,3,4]) (args:=[.slice Ab b.length cb]) func119 rfl ntmps119 results119 rfl ?_
 obtain⟨F,hF⟩:∃F:Fm,F=⟨ids [],w0,Γ⟩:=⟨_,rfl⟩
 refine WC2.here (C:=CC F Γ []) ?_ (hF▸hp.start)
 refine WC2.seq ?_
 refine ah ?_
 refine aV (k:=aV (k:=aV (k:=?_)))
 refine ae ?_
 change WC2 _ _ _ _ _ _
 refine WC2.seq ?_
 refine ah ?_
 refine alV zeroValue103 λgout=>?_
 refine ae ?_
 change WC2 _ _ _ _ _ _
 refine WC2.seq ?_
 refine ah ?_
 refine alV zeroValue28 λge=>?_
 refine ae ?_
 change WC2 _ _ _ _ _ _
 refine WC2.seq ?_
 refine ah ?_
 refine alV zeroValue3 λgat=>?_
 refine stV 0 (ii 0) #[ii 0] sizeOf3 (k:=?_)
 refine ae ?_
 change WC2 _ _ _ _ _ _
 refine WC2.seq3 ?_
 refine ah ?_
 refine mV (k:=?_)
 refine ecV [] (caV call153) (λw hp=>t_frame_frames (A:=Ab) (c:=cb) (b:=b) ge hp) ?_
 rintro Γ1 _ _ hl1 ⟨g1,g2,rfl,rfl⟩
 refine cwV 11 [_,_,_,_,_] ?_
 refine ae ?_
 change WC3 _ _ _ _ _ _ _
 refine WC3.rangeF (n:=22) (gf:=190) (lb:=#[(pq g1),(pq g2)]) (by kernel_rfl) call190 ?_
 intro l D rec w hst hpe hps has hbo hagr hw
 have hY:∀{Γ:Gh} {w:World} {row:Rowb} {s s':YSframe_frames_1} {Ay0_:Option Addr} {cy0_:Nat} {y0_:List UInt8} (hy0_:Sl byteT Γ Ay0_ y0_) (hy0_c:y0_.length≤cy0_) (y1_:Int) (hy1_:I64 y1_) (hs:YSframe_frames_1.ob (JAll l gout gat rec) Γ l row s) (hp:Pre [row] Γ w) (h:m_frame_All_y s y0_ y1_=some s'),
   YieldAt (FR none) 0 Tryz.prog l #[.slice Ay0_ y0_.length cy0_,ii y1_] w (Outc Γ [row] w λU Δ v => ∃row':Rowb,v = .bool true∧U = [row']∧YSframe_frames_1.ob (JAll l gout gat rec) Δ l row' s'):=by
  intro Γ w row s s' A c y0 h0 h0c y1 h1 hs hp h
  obtain⟨hk,h⟩:=chk_some h
  cases h
  obtain⟨Γ',hle,Ao,co,rowo,rfl,ho,hi⟩:=hs
  have ho:=ho.mono hle
  refine YieldAt.mono (R:=Outc Γ [[(l,.loop rec)],[(gout,.cells #[.slice Ao s.1.length co] 103 (0,0))],[(gat,.cells #[ii s.2] 3 (0,0))],rowo] w λU Δ v => ∃A2 c2 row2,v = .bool true∧U = [[(l,.loop rec)],[(gout,.cells #[.slice A2 (s.1++[y0]).length c2] 103 (0,0))],[(gat,.cells #[ii y1] 3 (0,0))],row2]∧Own (slT byteT) Δ 77 row2 A2 c2 (s.1++[y0])) ?_ ?_
  ·
   refine yield_of has hbo hp.parts hst hpe (by rw [hps]; rfl) (N:=⟨22,[]⟩) (σ1:=_) (by rw [hps]; exact hagr.par2 rfl rfl) ?_
   intro F hF
   refine WCI.rs ?_
   refine WI.op (λ_ h=>nomatch h) ?_
   refine aV (k:=?_)
   refine ak ?_
   refine WI.done ?_
   refine WCI.region ?_
   refine WI.op (λ_ h=>nomatch h) ?_
   refine aV (k:=?_)
   refine ak ?_
   refine WI.nil ?_
   intro w hw
   refine⟨Γ,_,hw,?_⟩
   refine WCI.block ?_
   refine WCI.rs ?_
   refine WI.op (λ_ h=>nomatch h) ?_
   refine sV (ldV 1 isAgg103) (k:=?_)
   refine ak ?_
   refine WI.op (λ_ h=>nomatch h) ?_
   refine mV (k:=?_)
   refine ak ?_
   refine WI.op (λ_ h=>nomatch h) ?_
   refine bsV #[.slice A y0.length c] 77 λgb=>?_
   refine ak ?_
   refine WI.op (λ_ h=>nomatch h) ?_
   refine apV 4 [y0] elem_103 ho (of_decide_eq_true hk) (λw hw=>src_one (i:=0) rfl (by exact⟨A,c,rfl,h0c,h0⟩) hw) ?_
   intro row2 A2 c2 ho2
   refine ak ?_
   refine WI.op (λ_ h=>nomatch h) ?_
   refine stV 2 (.slice A2 (s.1++[y0]).length c2) #[.slice A2 (s.1++[y0]).length c2] sizeOf103 (k:=?_)
   refine ak ?_
   refine WI.done ?_
   refine WCI.region ?_
   refine WI.op (λ_ h=>nomatch h) ?_
   refine mV (k:=?_)
   refine ak ?_
   refine WI.op (λ_ h=>nomatch h) ?_
   refine stV 3 (ii y1) #[ii y1] sizeOf3 (k:=?_)
   refine ak ?_
   exact WI.nil λw hw=>⟨Γ,_,hw.on [1,1,1,1],A2,c2,row2,rfl,rfl,ho2⟩
  rintro e w2 ⟨v,rfl,Δ,U,he,A2,c2,row2,rfl,rfl,ho2⟩
  exact⟨_,rfl,Δ,_,he.glue,_,rfl,rfl,YS.of ⟨A2,c2,row2,rfl,ho2,h1⟩⟩
 have hw:=hw.pad
 have h2:=hw.fold (is:=[1,6,4,0]) rfl rfl
 have h3:Cur F Γ1 ([([[(l,.loop rec)],[(gout,.cells #[.slice none 0 0] 103 (0,0))],[(gat,.cells #[ii 0] 3 (0,0))],[]]:List Rowb).flatten,[(g1,.cells #[.slice Ab b.length cb] 77 (0,0))],[(g2,.cells #[(pq ge)] 226 (0,0))],[(ge,.cells #[ii 0] 28 (0,0))]]++[[(D,.deferred (some []))]]) w:=h2.pick (is:=[0,1,1,1]) rfl
 refine(t_frame_frames_1 (J:=JAll l gout gat rec) (Y:=m_frame_All_y) (lY:=l) (sY:=([],0)) hY (YS.of ⟨none,0,[],rfl,Own.nil _ _ _,show I64 0 by decide⟩) (hb.mono hl1) hbc 0 iV (h2.only (is:=[0,1,1,1]) rfl).pre hz).mono ?_
 rintro e w' ⟨v,rfl,Δ,U',he,rowY',rfl,rfl,hJ',he2,-⟩
 have h4:=h3.eff he
 obtain⟨Γ',hle,A',c',rowo',hrow,ho',hi'⟩:=hJ'
 have h5:=h4.unfold (i:=0) rfl hrow
 refine⟨_,rfl,Δ,[[(gout,.cells #[.slice A' z.1.1.length c'] 103 (0,0))],[(gat,.cells #[ii z.1.2] 3 (0,0))],rowo',[(ge,.cells #[ii z.2] 28 (0,0))]],h5.only (is:=[0,6,0,0,0,2]) rfl,?_⟩
 refine WC2.of ?_
 refine ac ?_
 refine drV ?_
 refine zV (ldV 1 isAgg103) (k:=zV (ldV 2 isAgg3) (k:=zV (ldV 4 isAgg28) (k:=zV aoV (k:=zV aoV (k:=zV aoV (k:=?_))))))
 refine ao ?_
 change WC _ _ _ _ _ _
 refine af ?_
 intro w hw
 subst hF
 exact end_2 (N:=⟨22,[]⟩) (is:=[2]) (by kernel_rfl) hw rfl ⟨A',c',rowo',rfl,rfl,ho'.mono hle,hi',he2,trivial⟩
abbrev r_seglog_place_holds(edk0:Nat)(gp__0:Nat)(rowdk0:Rowb)(r:Int×Int×Int)(U:List Rowb)(Γ:Gh)(v:Value):Prop:=v = .tuple #[.int .i64 r.1,.int .i64 r.2.1,.int .i64 r.2.2]∧U = [rowdk0]∧I64 r.1∧I64 r.2.1∧I64 r.2.2∧True
theorem t_seglog_place_holds{gp__0:Nat}(p__1:ByteArray)(hp__1:p__1.size≤lim)(p__2:Int)(hp__2:I64 p__2){edk0:Nat}{rowdk0:Rowb}{dk0:Odisk_Disk}(hdk0:Odisk_Disk.ob edk0 Γ gp__0 rowdk0 dk0)(hp:Pre [rowdk0] Γ w0){r:Int×Int×Int}(h:m_seglog_place_holds p__1 p__2 dk0=some r):Calls Tryz.prog 84 #[.agg #[(pq gp__0),.string p__1,ii p__2]] w0 (Outc Γ [rowdk0] w0 (r_seglog_place_holds edk0 gp__0 rowdk0 r)):=by
 refine goV [2,3,4] func84 ntmps84 results84 hp λF hF=>?_
 refine ab ?_
 refine bxV (v:=.agg #[(pq gp__0),.string p__1,ii p__2]) λg1=>?_
 refine aV (k:=aV (k:=aV (k:=aa (ac ?_))))
 refine leV λh02=>?_
 refine held_ (CC F Γ [[(g1,.cells #[(pq gp__0),.string p__1,ii p__2] 141 (0,0))]]) (bo_ [0] gR h02) λk=>?_
 change WH _ _ _ _ (CC F Γ [_,_]) _ 10 _ _
 refine hV 0 k (q:=q_fl 0 fld_141_0) (k:=hV 1 k (q:=ldV 0 isAgg25) (k:=hV 2 k (q:=ldaV 0 [(pq gp__0),.string p__1,ii p__2] isAgg141 sizeOf141) (k:=wl_ 3 rfl ?_)))
 obtain⟨z3,hz4,h⟩:=bnd h
 refine vqV (caV call87) (λw hw=>t_seglog_place_list (Γ:=Gh.all w) (gp__0:=gp__0) p__1 hp__1 p__2 hp__2 (Sat.all w) hz4) (k:=?_)
 refine ae (nxV (bo_ [0] gR h02) λk=>?_)
 refine wl_ 4 rfl ?_
 obtain⟨hk5,h⟩:=chk_some h
 obtain⟨z6,hz7,h⟩:=bnd h
 refine ecV [1] (caV call39) (λw hp=>t_disk_Disk_Read hdk0 z3 (of_decide_eq_true hk5) hp hz7) ?_
 rintro Γ8 _ _ hl9 ⟨A12,c13,row14,rfl,rfl,hr15,_⟩
 refine cwV 21 [_,_,_] ?_
 refine ae (nxV (bo_ [2] hl9 h02) λk=>?_)
 refine hV 5 k (q:=moV) (k:=hV 6 k (q:=exV) (k:=hV 7 k (q:=exV) (k:=hV 8 k (q:=aoV) (k:=hV 9 k (q:=aoV) (k:=?_)))))
 refine am (by kernel_rfl) ?_
 change WC _ _ _ _ _ _
 refine ab (mV (k:=?_))
 have hc20:=hr15.capz
 refine seR 1 [_,_,_] λΓ16 hl17 hr18=>?_
 have hs19:=hr15.sl hl17 hr18
 obtain⟨z21,hz22,h⟩:=bnd h
 refine ecV [] (caV call119) (λw hp=>t_frame_All hs19 hc20 hp hz22) ?_
 rintro Γ23 _ _ hl24 ⟨A27,c28,row29,rfl,rfl,hr30,hr31,hr32,_⟩
 refine cwV 26 [_,_,_,_] (mV (k:=sV exV (k:=sV exV (k:=sV exV (k:=aV (k:=aV (k:=aV (k:=?_))))))))
 refine aa (ab (aV (k:=aa (ac (ab (mV (k:=sV (q_len_slice rfl underlying103) (k:=?_))))))))
 refine mV (k:=aa (ai ?_))
 refine al h (λ(i35:Nat) (gen_33:Int) σ w=>slots σ [(8,ii z21.2.1),(10,ii gen_33),(30,.slice A27 z21.1.length c28),(31,ii (z21.1.length:Int)),(32,ii (i35:Int))]∧CC F Γ23 [row29,rowdk0] w∧True) ?_ ?_
 ·
  intro w hw
  exact⟨slK,(hw.on [0,0]),trivial⟩
 rintro f34 i35 gen_33 σ w hi36 hlt37 hge38 ⟨hsl,hw,-⟩
 refine slV hsl hw [_,_] ?_; clear hw hsl
 refine ab (sV q_lss (k:=aa (ac ?_)))
 refine coV (λhb39=>?_) (λhb39=>?_)
 ·
  have hl40:=ilt hb39
  have h:=hlt37 hl40
  refine ag (wc_ (ac (ai (ab (sV (q_ixn (i:=i35) underlying103 sizeOf77 rfl rfl rfl hl40 (hr30.some_ hl40)) (k:=?_))))))
  obtain⟨A41,c42,hx43⟩:=hr30.slT_at i35
  refine sV (q_ldo (c:=0) (v:=.slice A41 (gt z21.1 i35).length c42) (i:=0) rfl (hx43 hl40).2 rfl isAgg77 rfl rfl) (k:=aV (k:=aa (ab (mV (k:=?_)))))
  obtain⟨z44,hz45,h⟩:=bnd h
  refine vqV (caV call120) (λw hw=>t_num_Num (Γ:=Gh.all w) ((hx43 hl40).1.2.mono hw.sat.le_all) (hx43 hl40).1.1 0 iV (Sat.all w) hz45) (k:=mV (k:=sV exV (k:=sV exV (k:=sV exV (k:=aV (k:=aV (k:=aV (k:=?_))))))))
  refine aa (ac (ab (mV (k:=sV q_neq (k:=mV (k:=vG0 (h:=λhg46=>moV) (k:=vG0 (h:=λhg47=>moV) (k:=?_))))))))
  refine vG0 (h:=λhg48=>q_len_slice rfl underlying77 (grV hg48)) (k:=vG0 (h:=λhg49=>q_neq rfl (grV hg49) (grV hg49)) (k:=sV pkO (k:=mV (k:=vG0 (h:=λhg50=>moV) (k:=vG0 (h:=λhg51=>q_lss rfl (grV hg51)) (k:=sV pkO (k:=mV (k:=?_))))))))
  refine vG0 (h:=λhg52=>moV) (k:=vG0 (h:=λhg53=>q_gtr rfl (grV hg53)) (k:=sV pkO (k:=aa ?_)))
  refine ciV h (λhb54 h=>?_) (λhb54 h=>?_)
  ·
   refine ab (aV (k:=aV (k:=aV (k:=aa ?_))))
   exact af λw hw=>re_ r [1] h hF hw ⟨rfl,rfl,iV,iV,iV,trivial⟩
  refine ag (wc_ ?_)
  refine ah ?_
  refine mV (k:=aV (k:=?_))
  refine ae ?_
  change WC _ _ _ _ _ _
  refine ah ?_
  refine sV (q_add_r rfl rfl rfl (ctr_len hl40 hr30.le)) (k:=mV (k:=?_))
  exact ae λw hw=>⟨hl40,z44.1,h,slK,hw,trivial⟩
 have h:=hge38 (ige hb39)
 refine aj ?_
 change WC _ _ _ _ _ _
 refine ab (mV (k:=mV (k:=aV (k:=aV (k:=aV (k:=aa ?_))))))
 refine af ?_
 intro w hw
 obtain⟨hk55,h⟩:=chk_some h
 cases h
 subst hF
 exact end_e (is:=[1]) (by kernel_rfl) hw rfl ⟨rfl,rfl,(i64b_of hk55),hr31,iV,trivial⟩
theorem t_disk_Disk_Loose{gd ed:Nat}{rowd:Rowb}{d:Odisk_Disk}(hd:Odisk_Disk.ob ed Γ gd rowd d)(hdr:∀p∈rowd,Γ p.1=some p.2)(hs:Sat Γ w0){r:Int}(h:m_disk_Disk_Loose d=some r):CQ Tryz.prog 85 #[(pq gd)] w0 (ii r):=by
 refine goQ [2] func85 ntmps85 results85 hs λF hF=>?_
 refine ab (aV (k:=aa (ab (mV (k:=sV nlV (k:=sV (q_fl 3 fld_67_3) (k:=?_)))))))
 obtain⟨m1_1,r1_1,m2_1,r2_1,A3_1,c3_1,r3_1,hrow_1,ho0_1,ho1_1,ho2_1,ho3_1,-⟩:=id hd
 have hg_2:∀u∈([[(gd,.cells #[ii d.room,.map (some m1_1),.map (some m2_1),.slice A3_1 d.loose.length c3_1] ed (0,0))],r1_1,r2_1,r3_1]:List Rowb), ∀p∈u,Γ p.1=some p.2:=λu hu p hp=>(λp hp=>(hdr p hp)) p (hrow_1▸List.mem_flatten.2 ⟨u,hu,hp⟩)
 have hgc3:=hg_2 _ (List.mem_cons_self ..) (gd,_) (List.mem_singleton.2 rfl)
 have hgs4:=hg_2 r1_1 (by simp)
 have hgs5:=hg_2 r2_1 (by simp)
 have hgs6:=hg_2 r3_1 (by simp)
 have hs7:=ho3_1.sl gR hgs6
 refine sV (q_ldg (v:=.slice A3_1 d.loose.length c3_1) hgc3 rfl isAgg65 rfl rfl) (k:=sV (q_len_slice rfl underlying65) (k:=aV (k:=aa ?_)))
 exact af λw hw=>rq_ r h hF hw
theorem t_disk_right{Anames:Option Addr}{cnames:Nat}{names:List ByteArray}(hnames:Sl strT Γ Anames names)(hnamesc:names.length≤cnames)(hs:Sat Γ w0){r:Bool}(h:m_disk_right names=some r):CQ Tryz.prog 147 #[.slice Anames names.length cnames] w0 (.bool r):=by
 refine goQ [2] func147 ntmps147 results147 hs λF hF=>?_
 refine ab (aV (k:=aa (ac (ab (mV (k:=sV (q_len_slice rfl underlying133) (k:=mV (k:=?_))))))))
 refine aa (ai ?_)
 refine al h (λ(i2:Nat) (s:Unit) σ w=>match s with | ()=>slots σ [(5,.slice Anames names.length cnames),(6,ii (names.length:Int)),(7,ii (i2:Int))]∧CC F Γ [] w∧True) ?_ ?_
 ·
  intro w hw
  exact⟨slK,hw,trivial⟩
 rintro f1 i2 ⟨⟩ σ w hi3 hlt4 hge5 ⟨hsl,hw,-⟩
 refine slV hsl hw [] ?_; clear hw hsl
 refine ab (sV q_lss (k:=aa (ac ?_)))
 refine coV (λhb6=>?_) (λhb6=>?_)
 ·
  have hl7:=ilt hb6
  have h:=hlt4 hl7
  refine ag (wc_ (ac (ai (ab (sV (q_ixn (i:=i2) underlying133 sizeOf9 rfl rfl rfl hl7 (hnames.some_ hl7)) (k:=sV (q_ld (c:=0) (v:=.string (gt names i2)) (hnames.strT_at hl7).2 rfl isAgg9 rfl rfl) (k:=aV (k:=?_))))))))
  refine aa (ab (mV (k:=sV (q_len_str rfl underlying9) (k:=sV q_lss (k:=mV (k:=vG0 (h:=λhg8=>moV) (k:=vG0 (h:=λhg9=>q_len_str rfl underlying9 (grV hg9)) (k:=?_))))))))
  refine vG0 (h:=λhg10=>q_gtr rfl (grV hg10)) (k:=sV pkO (k:=aa ?_))
  refine ciV h (λhb11 h=>?_) (λhb11 h=>?_)
  ·
   refine ab (aV (k:=aa ?_))
   exact af λw hw=>rq_ r h hF hw
  refine ag (wc_ ?_)
  refine ah ?_
  refine sV (q_add_r rfl rfl rfl (ctr_len hl7 hnames.le)) (k:=mV (k:=?_))
  exact ae λw hw=>⟨hl7,(),h,slK,hw,trivial⟩
 have h:=hge5 (ige hb6)
 refine aj ?_
 change WC _ _ _ _ _ _
 refine ab (aV (k:=aa ?_))
 exact af λw hw=>rq_ r h hF hw
theorem t_disk_Disk_there{gd ed:Nat}{rowd:Rowb}{d:Odisk_Disk}(hd:Odisk_Disk.ob ed Γ gd rowd d)(hdr:∀p∈rowd,Γ p.1=some p.2)(name:ByteArray)(hname:name.size≤lim)(hs:Sat Γ w0){r:Int}(h:m_disk_Disk_there d name=some r):CQ Tryz.prog 154 #[(pq gd),.string name] w0 (ii r):=by
 refine goQ [4] func154 ntmps154 results154 hs λF hF=>?_
 refine ab (aV (k:=aa (ac (ab (mV (k:=?_))))))
 refine bsV #[.string name] 9 λg1=>?_
 have ho2:Own strT Γ 9 [(g1,.cells #[.string name] 9 (0,0))] (some ⟨g1,0,none⟩) 1 [name]:=au (T:=strT) (ys:=[name]) [[.string name]] rfl (show 1≤lim by decide) ⟨⟨rfl,hname⟩,trivial⟩
 obtain⟨z3,hz4,h⟩:=bnd h
 refine vqV (caV call147) (λw hw=>t_disk_right (Γ:=Gh.all w) (ho2.sl hw.sat.le_all (hw.ra 0 rfl)) ho2.capz (Sat.all w) hz4) (k:=sV q_not (k:=aa ?_))
 refine ciV h (λhb5 h=>?_) (λhb5 h=>?_)
 ·
  refine ab (aV (k:=aa ?_))
  exact af λw hw=>rq_ r h hF hw
 refine ag (wc_ (ac (ab (mV (k:=sV nlV (k:=sV (q_fl 2 fld_67_2) (k:=?_)))))))
 obtain⟨m1_6,r1_6,m2_6,r2_6,A3_6,c3_6,r3_6,hrow_6,ho0_6,ho1_6,ho2_6,ho3_6,-⟩:=id hd
 have hg_7:∀u∈([[(gd,.cells #[ii d.room,.map (some m1_6),.map (some m2_6),.slice A3_6 d.loose.length c3_6] ed (0,0))],r1_6,r2_6,r3_6]:List Rowb), ∀p∈u,Γ p.1=some p.2:=λu hu p hp=>(λp hp=>(hdr p hp)) p (hrow_6▸List.mem_flatten.2 ⟨u,hu,hp⟩)
 have hgc8:=hg_7 _ (List.mem_cons_self ..) (gd,_) (List.mem_singleton.2 rfl)
 have hgs9:=hg_7 r1_6 (by simp)
 have hgs10:=hg_7 r2_6 (by simp)
 have hgs11:=hg_7 r3_6 (by simp)
 have hs12:=ho3_6.sl gR hgs11
 refine sV (q_ldg (v:=.map (some m2_6)) hgc8 rfl isAgg64 rfl rfl) (k:=mV (k:=?_))
 obtain⟨v13,⟨A16,c17,hv14,hc18,hs19⟩,hat15⟩:=MapO.look ho2_6 name (z:=.slice none 0 0) (zx:=[]) ⟨none,0,rfl,Nat.zero_le _,Sl.nil _ _ _⟩
 obtain rfl:v13=_:=List.cons.inj hv14 |>.1
 refine sV (q_lookup2g (v:=.slice A16 ((mget name d.seen).getD []).length c17) (λp hp=>(hgs10 p hp)) hat15 rfl underlying64 zeroValue77 rfl rfl) (k:=mV (k:=sV exV (k:=sV exV (k:=aV (k:=aV (k:=aa (ab ?_)))))))
 refine mV (k:=sV q_not (k:=aa ?_))
 refine ciV h (λhb20 h=>?_) (λhb20 h=>?_)
 ·
  refine ab (aV (k:=aa ?_))
  exact af λw hw=>rq_ r h hF hw
 refine ag (wc_ (ab (aV (k:=aa ?_))))
 exact af λw hw=>rq_ r h hF hw
theorem t_slices_Clip_byte_byte{As_:Option Addr}{cs_:Nat}{s_:List UInt8}(hs_:Sl byteT Γ As_ s_)(hs_c:s_.length≤cs_)(hs:Sat Γ w0){r:List UInt8}(h:m_slices_Clip_byte_byte s_=some r):CQ Tryz.prog 78 #[.slice As_ s_.length cs_] w0 (.slice As_ s_.length s_.length):=by
 refine goQ [2] func78 ntmps78 results78 hs λF hF=>?_
 refine ab (aV (k:=aa (ab (mV (k:=mV (k:=sV (q_len_slice rfl underlying77) (k:=mV (k:=?_))))))))
 refine sV (q_len_slice rfl underlying77) (k:=sV (q_clip (T:=byteT) (xs:=s_) underlying77 sizeOf5 rfl rfl rfl rfl hs_c) (k:=aV (k:=aa ?_)))
 exact af λw hw=>by obtain rfl:=Option.some.inj h; exact⟨by kernel_rfl,fr_ hF hw⟩
abbrev r_disk_add_1(mf_:Nat)(r:List (ByteArray×(List UInt8)))(U:List Rowb)(Γ:Gh)(v:Value):Prop := ∃(rowf_':Rowb),v = .tuple #[]∧U = [rowf_']∧MapO (strK Tryz.underlying9) (slT byteT).v Γ rowf_' mf_ r∧True
theorem t_disk_add_1{mf_:Nat}{rowf_:Rowb}{f_:List (ByteArray×(List UInt8))}(hf_:MapO (strK underlying9) (slT byteT).v Γ rowf_ mf_ f_){gb0:Nat}(b0:ByteArray)(hb0_0:Γ gb0=some (.cells #[.string b0] 9 (0,0)))(hb0_1:b0.size≤lim){gb1:Nat}{Ab1_0:Option Addr}{cb1_0:Nat}(b1:(List UInt8))(hb1_0:Γ gb1=some (.cells #[.slice Ab1_0 b1.length cb1_0] 77 (0,0)))(hb1_1:b1.length≤cb1_0)(hb1_2:Sl byteT Γ Ab1_0 b1)(hp:Pre [rowf_] Γ w0){r:List (ByteArray×(List UInt8))}(h:m_disk_add_1 f_ b0 b1=some r):Calls Tryz.prog 77 #[.map (some mf_),(pq gb0),(pq gb1)] w0 (Outc Γ [rowf_] w0 (r_disk_add_1 mf_ r)):=by
 refine goV [] func77 ntmps77 results77 hp λF hF=>?_
 refine leV λh01=>?_
 refine held_ (CC F Γ []) (bo_ [] gR h01) λk=>?_
 change WH _ _ _ _ (CC F Γ [_]) _ 9 _ _
 refine hV 0 k (q:=q_move (v:=.map (some mf_)) rfl (by kernel_rfl)) (k:=hV 1 k (q:=q_ldg (v:=.string b0) hb0_0 rfl isAgg9 rfl rfl) (k:=hV 2 k (q:=q_move (v:=.map (some mf_)) rfl (by kernel_rfl)) (k:=hV 3 k (q:=q_ldg (v:=.string b0) hb0_0 rfl isAgg9 rfl rfl) (k:=hV 6 k (q:=q_ldg (v:=.slice Ab1_0 b1.length cb1_0) hb1_0 rfl isAgg77 rfl rfl) (k:=wl_ 4 rfl ?_)))))
 obtain⟨v2,⟨A5,c6,hv3,hc7,hs8⟩,hat4⟩:=MapO.look hf_ b0 (z:=.slice none 0 0) (zx:=[]) ⟨none,0,rfl,Nat.zero_le _,Sl.nil _ _ _⟩
 obtain rfl:v2=_:=List.cons.inj hv3 |>.1
 refine sV (q_lookup1 (v:=.slice A5 ((mget b0 f_).getD []).length c6) hat4 rfl underlying64 zeroValue77 rfl rfl (i:=0) rfl) (k:=?_)
 refine ae (nxV (bo_ [] gR h01) λk=>?_)
 refine wl_ 5 rfl ?_
 obtain⟨z9,hz10,h⟩:=bnd h
 refine vqV (caV call78) (λw hw=>t_slices_Clip_byte_byte (Γ:=Gh.all w) (hs8.mono hw.sat.le_all) hc7 (Sat.all w) hz10) (k:=?_)
 refine ae (nxV (bo_ [] gR h01) λk=>?_)
 refine wl_ 7 rfl ?_
 obtain⟨hk11,h⟩:=chk_some h
 refine e_append_clip (T:=byteT) (xs:=((mget b0 f_).getD [])) (ys:=b1) elem_77 rfl rfl rfl rfl rfl rfl hs8 (of_decide_eq_true hk11) (λw hw=>src_sl hb1_2 hw) ?_
 intro Γ12 A13 c14 hl15 hs16 hc17
 refine ae (nxV (bo_ [] hl15 h01) λk=>?_)
 refine wl_ 8 rfl ?_
 refine e_mapUpdate (i:=1) (x:=b0) (v:=.slice A13 (((mget b0 f_).getD [])++b1).length c14) (a:=(((mget b0 f_).getD [])++b1)) rfl rfl rfl underlying64 rfl rfl (by kernel_rfl) rfl (hf_.mono hl15) (by exact⟨A13,c14,rfl,hc17,hs16⟩) hb0_1 ?_
 intro row18 hm19
 refine ae (nxV (bo_ [] hl15 h01) λk=>?_)
 refine am (by kernel_rfl) ?_
 intro w hw
 cases h
 subst hF
 exact end_e (is:=[1]) (by kernel_rfl) hw rfl ⟨row18,rfl,rfl,hm19,trivial⟩
abbrev r_disk_Disk_Cut_1(mf_:Nat)(r:List (ByteArray×(List UInt8)))(U:List Rowb)(Γ:Gh)(v:Value):Prop := ∃(rowf_':Rowb),v = .tuple #[]∧U = [rowf_']∧MapO (strK Tryz.underlying9) (slT byteT).v Γ rowf_' mf_ r∧True
theorem t_disk_Disk_Cut_1{mf_:Nat}{rowf_:Rowb}{f_:List (ByteArray×(List UInt8))}(hf_:MapO (strK underlying9) (slT byteT).v Γ rowf_ mf_ f_){gb0:Nat}(b0:ByteArray)(hb0_0:Γ gb0=some (.cells #[.string b0] 9 (0,0)))(hb0_1:b0.size≤lim){gb1:Nat}(b1:Int)(hb1_0:Γ gb1=some (.cells #[ii b1] 3 (0,0)))(hb1_1:I64 b1)(hp:Pre [rowf_] Γ w0){r:List (ByteArray×(List UInt8))}(h:m_disk_Disk_Cut_1 f_ b0 b1=some r):Calls Tryz.prog 155 #[.map (some mf_),(pq gb0),(pq gb1)] w0 (Outc Γ [rowf_] w0 (r_disk_Disk_Cut_1 mf_ r)):=by
 refine goV [] func155 ntmps155 results155 hp λF hF=>?_
 refine leV λh01=>?_
 refine held_ (CC F Γ []) (bo_ [] gR h01) λk=>?_
 change WH _ _ _ _ (CC F Γ [_]) _ 8 _ _
 refine hV 0 k (q:=q_move (v:=.map (some mf_)) rfl (by kernel_rfl)) (k:=hV 1 k (q:=q_ldg (v:=.string b0) hb0_0 rfl isAgg9 rfl rfl) (k:=hV 2 k (q:=q_move (v:=.map (some mf_)) rfl (by kernel_rfl)) (k:=hV 3 k (q:=q_ldg (v:=.string b0) hb0_0 rfl isAgg9 rfl rfl) (k:=hV 5 k (q:=q_ldg (v:=ii b1) hb1_0 rfl isAgg3 rfl rfl) (k:=wl_ 4 rfl ?_)))))
 obtain⟨v2,⟨A5,c6,hv3,hc7,hs8⟩,hat4⟩:=MapO.look hf_ b0 (z:=.slice none 0 0) (zx:=[]) ⟨none,0,rfl,Nat.zero_le _,Sl.nil _ _ _⟩
 obtain rfl:v2=_:=List.cons.inj hv3 |>.1
 refine sV (q_lookup1 (v:=.slice A5 ((mget b0 f_).getD []).length c6) hat4 rfl underlying64 zeroValue77 rfl rfl (i:=0) rfl) (k:=?_)
 refine ae (nxV (bo_ [] gR h01) λk=>?_)
 obtain⟨hk9,h⟩:=chk_some h
 refine hV 6 k (q:=q_cut_to (c:=c6) (hi:=b1.toNat) (xs:=((mget b0 f_).getD [])) underlying77 sizeOf5 rfl rfl (inle_eq rfl hk9) (inle_le hk9) hc7) (k:=wl_ 7 rfl ?_)
 refine e_mapUpdate (i:=0) (x:=b0) (v:=.slice A5 (List.take b1.toNat ((mget b0 f_).getD [])).length c6) (a:=(List.take b1.toNat ((mget b0 f_).getD []))) rfl rfl rfl underlying64 rfl rfl (by kernel_rfl) rfl hf_ (by exact⟨A5,c6,rfl,(take_cap hc7 b1.toNat),(hs8.cut_to (hi:=b1.toNat) (inle_le hk9))⟩) hb0_1 ?_
 intro row10 hm11
 refine ae (nxV (bo_ [] gR h01) λk=>?_)
 refine am (by kernel_rfl) ?_
 intro w hw
 cases h
 subst hF
 exact end_e (is:=[0]) (by kernel_rfl) hw rfl ⟨row10,rfl,rfl,hm11,trivial⟩
abbrev r_disk_Disk_Remove_1(mf_:Nat)(r:List (ByteArray×(List UInt8)))(U:List Rowb)(Γ:Gh)(v:Value):Prop := ∃(rowf_':Rowb),v = .tuple #[]∧U = [rowf_']∧MapO (strK Tryz.underlying9) (slT byteT).v Γ rowf_' mf_ r∧True
theorem t_disk_Disk_Remove_1{mf_:Nat}{rowf_:Rowb}{f_:List (ByteArray×(List UInt8))}(hf_:MapO (strK underlying9) (slT byteT).v Γ rowf_ mf_ f_){gb0:Nat}(b0:ByteArray)(hb0_0:Γ gb0=some (.cells #[.string b0] 9 (0,0)))(hb0_1:b0.size≤lim)(hp:Pre [rowf_] Γ w0){r:List (ByteArray×(List UInt8))}(h:m_disk_Disk_Remove_1 f_ b0=some r):Calls Tryz.prog 161 #[.map (some mf_),(pq gb0)] w0 (Outc Γ [rowf_] w0 (r_disk_Disk_Remove_1 mf_ r)):=by
 refine goV [] func161 ntmps161 results161 hp λF hF=>?_
 refine ah ?_
 refine mU (v:=.map (some mf_)) (k:=sV (q_ldg (v:=.string b0) hb0_0 rfl isAgg9 rfl rfl) (k:=?_))
 refine e_delete (i:=0) (x:=b0) rfl hf_ rfl rfl rfl underlying64 rfl rfl ?_
 intro row1 hm2
 refine ae ?_
 intro w hw
 cases h
 subst hF
 exact end_e (is:=[0]) (by kernel_rfl) hw rfl ⟨row1,rfl,rfl,hm2,trivial⟩
theorem t_call_Cdisk_change_do{Γ:Gh}{x:Cdisk_change_do}{A:Option Addr}{c:Nat}(hx:Cdisk_change_do.ok Γ A c x){mf_:Nat}{rowf_:Rowb}{f_:List (ByteArray×(List UInt8))}(hf_:MapO (strK Tryz.underlying9) (slT byteT).v Γ rowf_ mf_ f_){r:List (ByteArray×(List UInt8))}(h:m_call_Cdisk_change_do x f_=some r):∃fd caps,Cdisk_change_do.val x A c = .func (.func fd) #[] caps∧(∀(args:Array Value) (w:World),(callFunc fd args).run Tryz.prog w = .ok (.enter fd args) w)∧∀w0,Pre [rowf_] Γ w0→Calls Tryz.prog fd (#[.map (some mf_)]++caps) w0 (Outc Γ [rowf_] w0 (r_disk_add_1 mf_ r)):=by
  cases x with
  | disk_add_1 a0 a1=>
    obtain⟨⟨h0_0,h0_1⟩,⟨g1,A1_0,c1_0,rfl,h1_0,h1_1,h1_2⟩,-⟩:=hx
    exact⟨_,_,rfl,Tryz.call77,λw0 hp=>t_disk_add_1 hf_ a0 h0_0 h0_1 a1 h1_0 h1_1 h1_2 hp h⟩
  | disk_Disk_Cut_1 a0 a1=>
    obtain⟨⟨h0_0,h0_1⟩,⟨g1,rfl,h1_0,h1_1⟩,-⟩:=hx
    exact⟨_,_,rfl,Tryz.call155,λw0 hp=>t_disk_Disk_Cut_1 hf_ a0 h0_0 h0_1 a1 h1_0 h1_1 hp h⟩
  | disk_Disk_Remove_1 a0=>
    obtain⟨⟨h0_0,h0_1⟩,-⟩:=hx
    exact⟨_,_,rfl,Tryz.call161,λw0 hp=>t_disk_Disk_Remove_1 hf_ a0 h0_0 h0_1 hp h⟩
abbrev r_disk_Disk_done(gd:Nat)(ed:Nat)(r:Odisk_Disk×Int)(U:List Rowb)(Γ:Gh)(v:Value):Prop := ∃(rowd':Rowb),v = .int .i64 r.2∧U = [rowd']∧Odisk_Disk.ob ed Γ gd rowd' r.1∧I64 r.2∧True
theorem t_disk_Disk_done{gd ed:Nat}{rowd:Rowb}{d:Odisk_Disk}(hd:Odisk_Disk.ob ed Γ gd rowd d){Ac_0:Option Addr}{cc_0:Nat}{Ac_2:Option Addr}{cc_2:Nat}(c_:Ddisk_change)(hc_:Ddisk_change.fits Γ Ac_0 cc_0 Ac_2 cc_2 c_)(hp:Pre [rowd] Γ w0){r:Odisk_Disk×Int}(h:m_disk_Disk_done d c_=some r):Calls Tryz.prog 149 #[(pq gd),.agg #[(Cdisk_change_do.val c_.do_ Ac_0 cc_0),.string c_.name,.slice Ac_2 c_.tail.length cc_2]] w0 (Outc Γ [rowd] w0 (r_disk_Disk_done gd ed r)):=by
 refine goV [4] func149 ntmps149 results149 hp λF hF=>?_
 refine ab ?_
 refine bxV (v:=.agg #[(Cdisk_change_do.val c_.do_ Ac_0 cc_0),.string c_.name,.slice Ac_2 c_.tail.length cc_2]) λg1=>?_
 refine aV (k:=aa (ac ?_))
 refine leV λh02=>?_
 refine held_ (CC F Γ [[(g1,.cells #[(Cdisk_change_do.val c_.do_ Ac_0 cc_0),.string c_.name,.slice Ac_2 c_.tail.length cc_2] 96 (0,0))]]) (bo_ [0] gR h02) λk=>?_
 change WH _ _ _ _ (CC F Γ [_,_]) _ 7 _ _
 refine hV 0 k (q:=q_fl 0 fld_96_0) (k:=hV 1 k (q:=ldV 0 isAgg94) (k:=hV 2 k (q:=moV) (k:=hV 3 k (q:=nlV) (k:=hV 4 k (q:=q_fl 2 fld_67_2) (k:=wl_ 5 rfl ?_)))))
 obtain⟨m1_3,r1_3,m2_3,r2_3,A3_3,c3_3,r3_3,hrow_3,ho0_3,ho1_3,ho2_3,ho3_3,-⟩:=id hd
 refine ufR 1 hrow_3 [_,_,_,_,_] ?_
 refine sV (ldV 0 isAgg64) (k:=?_)
 refine ae (nxV (bo_ [4] gR h02) λk=>?_)
 refine wl_ 6 rfl ?_
 obtain⟨z4,hz5,h⟩:=bnd h
 obtain⟨fd6,cp7,hv8,he9,hcl10⟩:=t_call_Cdisk_change_do (x:=c_.do_) hc_.1 ho2_3 hz5
 refine ecV [2] (call_run_fv (caps:=cp7) (args:=#[.map (some m2_3)]++cp7) he9 rfl (Eq.trans (b:=(Cdisk_change_do.val c_.do_ Ac_0 cc_0)) (by kernel_rfl) hv8) (by kernel_rfl)) (λw hp=>(by exact hcl10 w hp)) ?_
 rintro Γ11 _ _ hl12 ⟨row15,rfl,rfl,hr16,_⟩
 refine cwV 11 [_,_,_,_,_] ?_
 refine ae (nxV (bo_ [4] hl12 h02) λk=>?_)
 refine am (by kernel_rfl) ?_
 change WC _ _ _ _ _ _
 refine ac ?_
 refine leV λh017=>?_
 refine held_ (CC F Γ11 [[(g1,.cells #[(Cdisk_change_do.val c_.do_ Ac_0 cc_0),.string c_.name,.slice Ac_2 c_.tail.length cc_2] 96 (0,0))]]) (bo_ [4] gR h017) λk=>?_
 change WH _ _ _ _ (CC F Γ11 [_,_,_,_,_]) _ 11 _ _
 refine hV 0 k (q:=moV) (k:=hV 1 k (q:=moV) (k:=hV 2 k (q:=nlV) (k:=hV 3 k (q:=q_fl 3 fld_67_3) (k:=hV 5 k (q:=ldaV 0 [(Cdisk_change_do.val c_.do_ Ac_0 cc_0),.string c_.name,.slice Ac_2 c_.tail.length cc_2] isAgg96 sizeOf96) (k:=?_)))))
 refine WH.each (l:=[4,6]) (by kernel_rfl) (by simp) ?_
 intro i hi; simp only [List.mem_cons,List.not_mem_nil,or_false] at hi
 rcases hi with rfl | rfl
 ·
  refine⟨_,rfl,?_⟩
  refine sV (ldV 1 isAgg65) (k:=?_)
  refine ae (nxV (bo_ [4] gR h017) λk=>?_)
  refine wl_ 6 rfl ?_
  refine bsV #[(Cdisk_change_do.val c_.do_ Ac_0 cc_0),.string c_.name,.slice Ac_2 c_.tail.length cc_2] 96 λg18=>?_
  refine ae (nxV (bo_ [5] gR h017) λk=>?_)
  refine wl_ 7 rfl ?_
  obtain⟨hk19,h⟩:=chk_some h
  refine apV 4 [c_] elem_65 (ho3_3.mono hl12) (of_decide_eq_true hk19) (λw hw=>src_one (i:=0) rfl (by exact⟨Ac_0,cc_0,Ac_2,cc_2,rfl,(Ddisk_change.fits_mono hc_ hl12)⟩) hw) ?_
  intro row20 A21 c22 ho23
  refine ae (nxV (bo_ [5] gR h017) λk=>?_)
  refine hV 8 k (q:=nlV) (k:=hV 9 k (q:=q_fl 3 fld_67_3) (k:=wl_ 10 rfl (stV 2 (.slice A21 (d.loose++[c_]).length c22) #[ii d.room,.map (some m1_3),.map (some m2_3),.slice A21 (d.loose++[c_]).length c22] sizeOf65 (k:=?_))))
  refine ae (nxV (bo_ [5] gR h017) λk=>?_)
  refine am (by kernel_rfl) ?_
  change WC _ _ _ _ _ _
  refine ab (aV (k:=aa ?_))
  refine af ?_
  intro w hw
  obtain⟨row_24,hrow_24,hob_24⟩:∃rw:Rowb,rw=([[(gd,.cells #[ii d.room,.map (some m1_3),.map (some m2_3),.slice A21 (d.loose++[c_]).length c22] ed (0,0))],r1_3,row15,row20]:List Rowb).flatten∧Odisk_Disk.ob ed Γ11 gd rw (⟨d.room,d.safe_,z4,(d.loose++[c_])⟩:Odisk_Disk):=⟨_,rfl,m1_3,r1_3,m2_3,row15,A21,c22,row20,rfl,ho0_3,(ho1_3.mono hl12),hr16,ho23,trivial⟩
  have hw:=hw.fold (is:=[2,2,1,1]) rfl hrow_24
  cases h
  subst hF
  exact end_e (is:=[0]) (by kernel_rfl) hw rfl ⟨row_24,rfl,rfl,hob_24,iV,trivial⟩
 refine⟨_,rfl,?_⟩
 refine bsV #[(Cdisk_change_do.val c_.do_ Ac_0 cc_0),.string c_.name,.slice Ac_2 c_.tail.length cc_2] 96 λg18=>?_
 refine ae (nxV (bo_ [5] gR h017) λk=>?_)
 refine wl_ 4 rfl (sV (ldV 2 isAgg65) (k:=?_))
 refine ae (nxV (bo_ [5] gR h017) λk=>?_)
 refine wl_ 7 rfl ?_
 obtain⟨hk19,h⟩:=chk_some h
 refine apV 4 [c_] elem_65 (ho3_3.mono hl12) (of_decide_eq_true hk19) (λw hw=>src_one (i:=0) rfl (by exact⟨Ac_0,cc_0,Ac_2,cc_2,rfl,(Ddisk_change.fits_mono hc_ hl12)⟩) hw) ?_
 intro row20 A21 c22 ho23
 refine ae (nxV (bo_ [5] gR h017) λk=>?_)
 refine hV 8 k (q:=nlV) (k:=hV 9 k (q:=q_fl 3 fld_67_3) (k:=wl_ 10 rfl (stV 2 (.slice A21 (d.loose++[c_]).length c22) #[ii d.room,.map (some m1_3),.map (some m2_3),.slice A21 (d.loose++[c_]).length c22] sizeOf65 (k:=?_))))
 refine ae (nxV (bo_ [5] gR h017) λk=>?_)
 refine am (by kernel_rfl) ?_
 change WC _ _ _ _ _ _
 refine ab (aV (k:=aa ?_))
 refine af ?_
 intro w hw
 obtain⟨row_24,hrow_24,hob_24⟩:∃rw:Rowb,rw=([[(gd,.cells #[ii d.room,.map (some m1_3),.map (some m2_3),.slice A21 (d.loose++[c_]).length c22] ed (0,0))],r1_3,row15,row20]:List Rowb).flatten∧Odisk_Disk.ob ed Γ11 gd rw (⟨d.room,d.safe_,z4,(d.loose++[c_])⟩:Odisk_Disk):=⟨_,rfl,m1_3,r1_3,m2_3,row15,A21,c22,row20,rfl,ho0_3,(ho1_3.mono hl12),hr16,ho23,trivial⟩
 have hw:=hw.fold (is:=[2,2,1,1]) rfl hrow_24
 cases h
 subst hF
 exact end_e (is:=[0]) (by kernel_rfl) hw rfl ⟨row_24,rfl,rfl,hob_24,iV,trivial⟩
abbrev r_disk_Disk_Cut(gd:Nat)(ed:Nat)(r:Odisk_Disk×Int)(U:List Rowb)(Γ:Gh)(v:Value):Prop := ∃(rowd':Rowb),v = .int .i64 r.2∧U = [rowd']∧Odisk_Disk.ob ed Γ gd rowd' r.1∧I64 r.2∧True
theorem t_disk_Disk_Cut{gd ed:Nat}{rowd:Rowb}{d:Odisk_Disk}(hd:Odisk_Disk.ob ed Γ gd rowd d)(name:ByteArray)(hname:name.size≤lim)(n:Int)(hn:I64 n)(hp:Pre [rowd] Γ w0){r:Odisk_Disk×Int}(h:m_disk_Disk_Cut d name n=some r):Calls Tryz.prog 121 #[(pq gd),.string name,ii n] w0 (Outc Γ [rowd] w0 (r_disk_Disk_Cut gd ed r)):=by
 refine goV [6] func121 ntmps121 results121 hp λF hF=>?_
 refine ab ?_
 refine bxV (v:=.string name) λg1=>?_
 refine bxV (v:=ii n) λg2=>?_
 refine aV (k:=aa (ac (ab (mV (k:=sV (ldV 1 isAgg9) (k:=?_))))))
 obtain⟨z3,hz4,h⟩:=bnd h
 refine vqV (caV call154) (λw hw=>t_disk_Disk_there (Γ:=Gh.all w) (hd.mono hw.sat.le_all) (hw.ra 2 rfl) name hname (Sat.all w) hz4) (k:=aV (k:=aa (ab (mV (k:=sV q_neq (k:=aa ?_))))))
 refine ciV h (λhb5 h=>?_) (λhb5 h=>?_)
 ·
  refine ab (mV (k:=aV (k:=aa ?_)))
  refine af ?_
  intro w hw
  obtain⟨hk6,h⟩:=chk_some h
  cases h
  subst hF
  exact end_e (is:=[2]) (by kernel_rfl) hw rfl ⟨rowd,rfl,rfl,hd,(i64b_of hk6),trivial⟩
 refine ag (wc_ (ac (ac ?_)))
 obtain⟨m1_7,r1_7,m2_7,r2_7,A3_7,c3_7,r3_7,hrow_7,ho0_7,ho1_7,ho2_7,ho3_7,-⟩:=id hd
 refine ufC 2 hrow_7 [_,_,_,_,_,_] ?_
 refine drV ?_
 refine zV (ldV 4 isAgg3) (k:=zV q_lss (k:=zV moV (k:=wG0 (h:=λhg8=>ldV 4 isAgg3) (k:=wG0 (h:=λhg9=>moV) (k:=wG0 (h:=λhg10=>nlV (hv:=grV hg10)) (k:=wG0 (h:=λhg11=>q_fl 2 fld_67_2 rfl (grV hg11)) (k:=wG0 (h:=λhg12=>ldV 0 isAgg64 (hx:=grV hg12)) (k:=?_))))))))
 refine wG0 (h:=λhg13=>ldV 5 isAgg9) (k:=?_)
 obtain⟨v15,⟨A18,c19,hv16,hc20,hs21⟩,hat17⟩:=MapO.look ho2_7 name (z:=.slice none 0 0) (zx:=[]) ⟨none,0,rfl,Nat.zero_le _,Sl.nil _ _ _⟩
 obtain rfl:v15=_:=List.cons.inj hv16 |>.1
 refine wG0 (h:=λhg14=>q_lookup1 (v:=.slice A18 ((mget name d.seen).getD []).length c19) hat17 rfl underlying64 zeroValue77 (grV hg14) (grV hg14) (i:=2) rfl) (k:=wG0 (h:=λhg22=>q_len_slice rfl underlying77 (grV hg22)) (k:=wG0 (h:=λhg23=>q_gtr rfl (grV hg23) (grV hg23)) (k:=zV pkO (k:=?_))))
 refine ao ?_
 change WC _ _ _ _ _ _
 refine ciV h (λhb24 h=>?_) (λhb24 h=>?_)
 ·
  refine ab (aV (k:=aa ?_))
  refine af ?_
  intro w hw
  have hw:=hw.fold (is:=[0,0,0,0]) rfl hrow_7
  exact re_ r [0] h hF hw ⟨rowd,rfl,rfl,hd,iV,trivial⟩
 refine ag (wc_ (ab (mV (k:=sV (q_mkfn (v:=.func (.func 155) #[] #[(pq g1),(pq g2)]) rfl (by kernel_rfl)) (k:=sV (q_build' (v:=.agg #[.func (.func 155) #[] #[(pq g1),(pq g2)],.string ByteArray.empty,.slice none 0 0]) rfl (bargs1 rfl) (λw=>by kernel_rfl)) (k:=?_))))))
 refine foR [0,0,0,0] hrow_7 [_,_,_] ?_
 intro w hw; obtain⟨Γ27,hw,hl28,hr29⟩:=hw.seal (i:=2) rfl
 have hg30:=hr29 _ (List.mem_singleton.2 rfl)
 refine WR.here (C:=CC F Γ27 [_,_,_]) ?_ hw
 clear hw
 intro w hw; obtain⟨Γ31,hw,hl32,hr33⟩:=hw.seal (i:=1) rfl
 have hg34:=hr33 _ (List.mem_singleton.2 rfl)
 refine WR.here (C:=CC F Γ31 [_,_,_]) ?_ hw
 clear hw
 have hf35:Cdisk_change_do.ok Γ31 (some ⟨g2,0,none⟩) g1 (Cdisk_change_do.disk_Disk_Cut_1 name n):=⟨⟨(hl32 _ _ hg30),hname⟩,⟨g2,rfl,hg34,hn⟩,trivial⟩
 obtain⟨z36,hz37,h⟩:=bnd h
 refine ecV [0] (caV call149) (λw hp=>t_disk_Disk_done (hd.mono (hl28.trans hl32)) (Ac_2:=none) (cc_2:=0) (⟨(Cdisk_change_do.disk_Disk_Cut_1 name n),ByteArray.empty,[]⟩:Ddisk_change) ⟨hf35,(show (ByteArray.empty:ByteArray).size≤lim by decide),nilV⟩ hp hz37) ?_
 rintro Γ38 _ _ hl39 ⟨row42,rfl,rfl,hr43,hr44,_⟩
 refine cwV 30 [_,_,_] (aV (k:=aa ?_))
 exact af λw hw=>re_ r [0] h hF hw ⟨row42,rfl,rfl,hr43,hr44,trivial⟩
abbrev r_seglog_place_shorten(edk0:Nat)(gp__0:Nat)(r:Odisk_Disk)(U:List Rowb)(Γ:Gh)(v:Value):Prop := ∃(rowdk0':Rowb),v = .tuple #[]∧U = [rowdk0']∧Odisk_Disk.ob edk0 Γ gp__0 rowdk0' r∧True
theorem t_seglog_place_shorten{gp__0:Nat}(p__1:ByteArray)(hp__1:p__1.size≤lim)(p__2:Int)(hp__2:I64 p__2)(f_:ByteArray)(hf_:f_.size≤lim)(n:Int)(hn:I64 n){edk0:Nat}{rowdk0:Rowb}{dk0:Odisk_Disk}(hdk0:Odisk_Disk.ob edk0 Γ gp__0 rowdk0 dk0)(hp:Pre [rowdk0] Γ w0){r:Odisk_Disk}(h:m_seglog_place_shorten p__1 p__2 f_ n dk0=some r):Calls Tryz.prog 86 #[.agg #[(pq gp__0),.string p__1,ii p__2],.string f_,ii n] w0 (Outc Γ [rowdk0] w0 (r_seglog_place_shorten edk0 gp__0 r)):=by
 refine goV [] func86 ntmps86 results86 hp λF hF=>?_
 refine ab ?_
 refine bxV (v:=.agg #[(pq gp__0),.string p__1,ii p__2]) λg1=>?_
 refine aa (ab (sV (q_fl 0 fld_141_0) (k:=sV (ldV 0 isAgg25) (k:=mV (k:=?_)))))
 obtain⟨z2,hz3,h⟩:=bnd h
 refine ecV [1] (caV call39) (λw hp=>t_disk_Disk_Read hdk0 f_ hf_ hp hz3) ?_
 rintro Γ4 _ _ hl5 ⟨A8,c9,row10,rfl,rfl,hr11,_⟩
 refine cwV 12 [_,_,_] (mV (k:=sV exV (k:=sV exV (k:=aV (k:=aV (k:=aa (ab ?_)))))))
 refine mV (k:=sV (q_len_slice rfl underlying77) (k:=mV (k:=sV q_gtr (k:=aa ?_))))
 refine ciV h (λhb12 h=>?_) (λhb12 h=>?_)
 ·
  refine ah ?_
  refine sV (q_fl 0 fld_141_0) (k:=sV (ldV 2 isAgg25) (k:=mV (k:=mV (k:=?_))))
  obtain⟨z13,hz14,h⟩:=bnd h
  refine ecV [0] (caV call121) (λw hp=>t_disk_Disk_Cut (hdk0.mono hl5) f_ hf_ n hn hp hz14) ?_
  rintro Γ15 _ _ hl16 ⟨row19,rfl,rfl,hr20,hr21,_⟩
  refine cwV 23 [_,_,_] ?_
  refine ae ?_
  intro w hw
  cases h
  subst hF
  exact end_e (is:=[0]) (by kernel_rfl) hw rfl ⟨row19,rfl,rfl,hr20,trivial⟩
 refine ag ?_
 intro w hw
 cases h
 subst hF
 exact end_e (is:=[0]) (by kernel_rfl) hw rfl ⟨rowdk0,rfl,rfl,(hdk0.mono hl5),trivial⟩
abbrev r_disk_Disk_Names(gd:Nat)(ed:Nat)(rowd:Rowb)(r:List ByteArray)(U:List Rowb)(Γ:Gh)(v:Value):Prop := ∃(A0:Option Addr), ∃(c0:Nat), ∃(row0:Rowb),v = .slice A0 r.length c0∧U = [rowd,row0]∧Own strT Γ 9 row0 A0 c0 r∧True
theorem t_disk_Disk_Names{gd ed:Nat}{rowd:Rowb}{d:Odisk_Disk}(hd:Odisk_Disk.ob ed Γ gd rowd d)(hp:Pre [rowd] Γ w0){r:List ByteArray}(h:m_disk_Disk_Names d=some r):Calls Tryz.prog 157 #[(pq gd)] w0 (Outc Γ [rowd] w0 (r_disk_Disk_Names gd ed rowd r)):=by
 refine goV [2] func157 ntmps157 results157 hp λF hF=>?_
 refine ab (aV (k:=aa (ab (mV (k:=sV nlV (k:=sV (q_fl 2 fld_67_2) (k:=?_)))))))
 obtain⟨m1_1,r1_1,m2_1,r2_1,A3_1,c3_1,r3_1,hrow_1,ho0_1,ho1_1,ho2_1,ho3_1,-⟩:=id hd
 refine ufR 0 hrow_1 [_,_,_,_] ?_
 refine sV (ldV 0 isAgg64) (k:=?_)
 refine e_keys (ρ:=keys192_ren) keys192 (mb:=some m2_1) rfl rfl (caV call192) ?_
 intro g2
 refine cwV 7 [_,_,_,_,_] ?_
 obtain⟨hk3,h⟩:=chk_some h
 refine ecV [0,2] (caV call108) (λw hp=>sk108_192 ho2_1 (of_decide_eq_true hk3) hp) ?_
 rintro Γ4 _ _ hl5 ⟨A8,c9,row10,rfl,rfl,ho11⟩
 refine cwV 8 [_,_,_,_,_,_] (aV (k:=aa ?_))
 refine af ?_
 intro w hw
 have hw:=hw.fold (is:=[3,3,1,2]) rfl hrow_1
 exact re_ r [0,1] h hF hw ⟨A8,c9,row10,rfl,rfl,ho11,trivial⟩
theorem t_internal_stringslite_HasPrefix(s_:ByteArray)(hs_:s_.size≤lim)(prefix_:ByteArray)(hprefix_:prefix_.size≤lim)(hs:Sat Γ w0){r:Bool}(h:m_internal_stringslite_HasPrefix s_ prefix_=some r):CQ Tryz.prog 218 #[.string s_,.string prefix_] w0 (.bool r):=by
 refine goQ [4] func218 ntmps218 results218 hs λF hF=>?_
 refine ab (aV (k:=aa (ab (mV (k:=sV (q_len_str rfl underlying9) (k:=mV (k:=sV (q_len_str rfl underlying9) (k:=?_))))))))
 refine sV q_geq (k:=mV (k:=vG1 (h:=λhg1=>moV) (k:=vG1 (h:=λhg2=>moV) (k:=vG1 (h:=λhg3=>q_len_str rfl underlying9 (grV hg3)) (k:=?_)))))
 obtain⟨hk5,h⟩:=chk_some h
 refine vG1 (h:=λhg4=>q_scut_hi underlying9 rfl (grV hg4) (grV hg4) (of_decide_eq_true (imp_of hk5 hg4))) (k:=vG1 (h:=λhg6=>moV) (k:=vG1 (h:=λhg7=>q_seql rfl (grV hg7) (grV hg7)) (k:=sV pkA (k:=aV (k:=aa ?_)))))
 exact af λw hw=>rq_ r h hF hw
theorem t_internal_stringslite_CutPrefix(s_:ByteArray)(hs_:s_.size≤lim)(prefix_:ByteArray)(hprefix_:prefix_.size≤lim)(hs:Sat Γ w0){r:ByteArray×Bool}(h:m_internal_stringslite_CutPrefix s_ prefix_=some r):CQ Tryz.prog 193 #[.string s_,.string prefix_] w0 (.tuple #[.string r.1,.bool r.2]):=by
 refine goQ [4,5] func193 ntmps193 results193 hs λF hF=>?_
 refine ab (aV (k:=aV (k:=aa (ac (ab (mV (k:=mV (k:=?_))))))))
 obtain⟨z1,hz2,h⟩:=bnd h
 refine vqV (caV call218) (λw hw=>t_internal_stringslite_HasPrefix (Γ:=Gh.all w) s_ hs_ prefix_ hprefix_ (Sat.all w) hz2) (k:=sV q_not (k:=aa ?_))
 refine ciV h (λhb3 h=>?_) (λhb3 h=>?_)
 ·
  refine ab (mV (k:=aV (k:=aV (k:=aa ?_))))
  exact af λw hw=>by obtain rfl:=Option.some.inj h; exact⟨by kernel_rfl,fr_ hF hw⟩
 refine ag (wc_ (ab (mV (k:=mV (k:=sV (q_len_str rfl underlying9) (k:=?_))))))
 obtain⟨hk4,h⟩:=chk_some h
 refine sV (q_scut_lo underlying9 rfl rfl rfl (of_decide_eq_true hk4)) (k:=aV (k:=aV (k:=aa ?_)))
 exact af λw hw=>by obtain rfl:=Option.some.inj h; exact⟨by kernel_rfl,fr_ hF hw⟩
theorem t_strings_CutPrefix(s_:ByteArray)(hs_:s_.size≤lim)(prefix_:ByteArray)(hprefix_:prefix_.size≤lim)(hs:Sat Γ w0){r:ByteArray×Bool}(h:m_strings_CutPrefix s_ prefix_=some r):CQ Tryz.prog 158 #[.string s_,.string prefix_] w0 (.tuple #[.string r.1,.bool r.2]):=by
 refine goQ [4,5] func158 ntmps158 results158 hs λF hF=>?_
 refine ab (aV (k:=aV (k:=aa (ab (mV (k:=mV (k:=?_)))))))
 obtain⟨z1,hz2,h⟩:=bnd h
 refine vqV (caV call193) (λw hw=>t_internal_stringslite_CutPrefix (Γ:=Gh.all w) s_ hs_ prefix_ hprefix_ (Sat.all w) hz2) (k:=sV exV (k:=sV exV (k:=aV (k:=aV (k:=aa ?_)))))
 exact af λw hw=>by obtain rfl:=Option.some.inj h; exact⟨by kernel_rfl,fr_ hF hw⟩
theorem t_internal_stringslite_Cut(s_:ByteArray)(hs_:s_.size≤lim)(hs:Sat Γ w0){r:ByteArray×ByteArray×Bool}(h:m_internal_stringslite_Cut s_=some r):CQ Tryz.prog 194 #[.string s_,.string (⟨#[46]⟩:ByteArray)] w0 (.tuple #[.string r.1,.string r.2.1,.bool r.2.2]):=by
 refine goQ [4,5,6] func194 ntmps194 results194 hs λF hF=>?_
 refine ab (aV (k:=aV (k:=aV (k:=aa (ac (ab (mV (k:=?_))))))))
 refine mV (k:=?_)
 obtain⟨z1,hz2,h⟩:=bnd h
 refine vqV (caV call152) (λw hw=>t_internal_stringslite_Index (Γ:=Gh.all w) s_ hs_ (Sat.all w) hz2) (k:=aV (k:=aa (ab (mV (k:=sV q_geq (k:=aa ?_))))))
 refine ciV h (λhb3 h=>?_) (λhb3 h=>?_)
 ·
  refine ac ?_
  refine drV ?_
  refine zV moV (k:=zV moV (k:=?_))
  obtain⟨hk4,h⟩:=chk_some h
  refine zV (q_scut_hi underlying9 rfl rfl (inle_eq rfl hk4) (inle_le hk4)) (k:=zV moV (k:=zV moV (k:=zV moV (k:=zV (show QV _ _ _ _ (ii 1) from (show QV _ _ _ _ (ii (((⟨#[46]⟩:ByteArray).size:Nat):Int)) from q_len_str rfl underlying9)) (k:=zV q_add (k:=?_))))))
  obtain⟨hk5,h⟩:=chk_some h
  refine zV (q_scut_lo underlying9 rfl rfl (inle_eq rfl hk5) (inle_le hk5)) (k:=zV aoV (k:=zV aoV (k:=zV aoV (k:=?_))))
  refine ao ?_
  change WC _ _ _ _ _ _
  exact af λw hw=>by obtain rfl:=Option.some.inj h; exact⟨by kernel_rfl,fr_ hF hw⟩
 refine ag (wc_ (ab (mV (k:=aV (k:=aV (k:=aV (k:=aa ?_)))))))
 exact af λw hw=>by obtain rfl:=Option.some.inj h; exact⟨by kernel_rfl,fr_ hF hw⟩
theorem t_strings_Cut(s_:ByteArray)(hs_:s_.size≤lim)(hs:Sat Γ w0){r:ByteArray×ByteArray×Bool}(h:m_strings_Cut s_=some r):CQ Tryz.prog 159 #[.string s_,.string (⟨#[46]⟩:ByteArray)] w0 (.tuple #[.string r.1,.string r.2.1,.bool r.2.2]):=by
 refine goQ [4,5,6] func159 ntmps159 results159 hs λF hF=>?_
 refine ab (aV (k:=aV (k:=aV (k:=aa (ab (mV (k:=mV (k:=?_))))))))
 obtain⟨z1,hz2,h⟩:=bnd h
 refine vqV (caV call194) (λw hw=>t_internal_stringslite_Cut (Γ:=Gh.all w) s_ hs_ (Sat.all w) hz2) (k:=sV exV (k:=sV exV (k:=sV exV (k:=aV (k:=aV (k:=aV (k:=aa ?_)))))))
 exact af λw hw=>by obtain rfl:=Option.some.inj h; exact⟨by kernel_rfl,fr_ hF hw⟩
theorem t_num_Read(s_:ByteArray)(hs_:s_.size≤lim)(hs:Sat Γ w0){r:Int×Int}(h:m_num_Read s_=some r):CQ Tryz.prog 160 #[.string s_] w0 (.tuple #[ii r.1,ii r.2]):=by
 refine goQ [2,3] func160 ntmps160 results160 hs λF hF=>?_
 refine ab (aV (k:=aV (k:=aa (ac (ab (mV (k:=sV q_seql (k:=?_))))))))
 refine mV (k:=vG0 (h:=λhg1=>moV) (k:=vG0 (h:=λhg2=>q_len_str rfl underlying9 (grV hg2)) (k:=vG0 (h:=λhg3=>q_gtr rfl (grV hg3)) (k:=vG0 (h:=λhg4=>q_move (v:=.bool (decide (1<(s_.size:Int)))) rfl (grV hg4)) (k:=vh1 (c0:=(!(s_==ByteArray.empty))) (g:=(decide (1<(s_.size:Int)))) rfl rfl rfl rfl rfl (λ_=>QV.qo moV) ?_)))))
 obtain⟨hk7,h⟩:=chk_some h
 refine vh1 (c0:=(!(s_==ByteArray.empty))) (g:=(decide (1<(s_.size:Int)))) rfl rfl rfl rfl rfl (λhg6=>QV.qo (q_sixn (i:=0) underlying9 rfl (grV hg6) rfl (of_decide_eq_true (imp_of hk7 hg6)))) (vh1 (c0:=(!(s_==ByteArray.empty))) (g:=(decide (1<(s_.size:Int)))) rfl rfl rfl rfl rfl (λhg8=>QV.qo (q_eql rfl (grV hg8))) (vG0 (h:=λhg9=>q_pick rfl (grV hg9) (pk_and (c:=(!(s_==ByteArray.empty))) (g:=(decide (1<(s_.size:Int)))) (y:=((((gt s_.data.toList 0).toNat:Nat):Int)==48)) hg9)) (k:=sV pkO (k:=mV (k:=vG0 (h:=λhg10=>moV) (k:=vG0 (h:=λhg11=>q_len_str rfl underlying9 (grV hg11)) (k:=vG0 (h:=λhg12=>q_gtr rfl (grV hg12)) (k:=?_))))))))
 refine sV pkO (k:=aa ?_)
 refine ciV h (λhb13 h=>?_) (λhb13 h=>?_)
 ·
  refine ab (aV (k:=aV (k:=aa ?_)))
  exact af λw hw=>by obtain rfl:=Option.some.inj h; exact⟨by kernel_rfl,fr_ hF hw⟩
 refine ag (wc_ (ab (aV (k:=aa (ac (ab (mV (k:=?_))))))))
 refine e_convB (src:=9) (dst:=77) (s:=s_) underlying9 underlying77 underlying5 hs_ rfl rfl rfl rfl rfl ?_
 intro Γ14 A15 c16 hl17 hs18 hc19
 refine sV (q_len_slice rfl underlying77) (k:=mV (k:=aa (ai ?_)))
 refine al h (λ(i23:Nat) (n_20:Int) σ w=>slots σ [(4,.int .u64 n_20),(25,.slice A15 (s_.data.toList).length c16),(26,ii (((s_.data.toList).length:Nat):Int)),(27,ii (i23:Int))]∧CC F Γ14 [] w∧U64 n_20∧True) ?_ ?_
 ·
  intro w hw
  exact⟨slK,(hw.on []),(show U64 0 by decide),trivial⟩
 rintro f22 i23 n_20 σ w hi24 hlt25 hge26 ⟨hsl,hw,hr21,-⟩
 refine slV hsl hw [] ?_; clear hw hsl
 refine ab (sV q_lss (k:=aa (ac ?_)))
 refine coV (λhb27=>?_) (λhb27=>?_)
 ·
  have hl28:=ilt hb27
  have h:=hlt25 hl28
  refine ag (wc_ (ac (ai (ab (sV (q_ixn (i:=i23) underlying77 sizeOf5 rfl rfl rfl hl28 (hs18.some_ hl28)) (k:=sV (q_ld (c:=0) (v:=.int .u8 (((gt (s_.data.toList) i23).toNat:Nat):Int)) (hs18.byteT_at hl28).2 rfl isAgg5 rfl rfl) (k:=aV (k:=?_))))))))
  refine aa (ac (ab (mV (k:=sV q_lss (k:=mV (k:=vG0 (h:=λhg29=>moV) (k:=vG0 (h:=λhg30=>q_gtr rfl (grV hg30)) (k:=?_))))))))
  refine sV pkO (k:=aa ?_)
  refine ciV h (λhb31 h=>?_) (λhb31 h=>?_)
  ·
   refine ab (aV (k:=aV (k:=aa ?_)))
   exact af λw hw=>by obtain rfl:=Option.some.inj h; exact⟨by kernel_rfl,fr_ hF hw⟩
  refine ag (wc_ ?_)
  refine ah ?_
  refine mV (k:=sV q_mul (k:=mV (k:=sV q_sub (k:=sV (q_conv underlying82 underlying5) (k:=sV q_add (k:=aV (k:=?_)))))))
  refine ae ?_
  change WC _ _ _ _ _ _
  refine ah ?_
  refine sV (q_add_r rfl rfl rfl (ctr_len hl28 hs18.le)) (k:=mV (k:=?_))
  exact ae λw hw=>⟨hl28,(wu64 ((wu64 (10*n_20))+(wu64 (wu8 ((((gt (s_.data.toList) i23).toNat:Nat):Int) - 48))))),h,slK,hw,(wu64_r _),trivial⟩
 have h:=hge26 (ige hb27)
 refine aj ?_
 change WC _ _ _ _ _ _
 refine ac (ab (mV (k:=sV q_geq (k:=aa ?_))))
 refine ciV h (λhb32 h=>?_) (λhb32 h=>?_)
 ·
  refine ab (aV (k:=aV (k:=aa ?_)))
  exact af λw hw=>by obtain rfl:=Option.some.inj h; exact⟨by kernel_rfl,fr_ hF hw⟩
 refine ag (wc_ (ab (mV (k:=sV (q_conv underlying2 underlying82) (k:=aV (k:=aV (k:=aa ?_)))))))
 exact af λw hw=>by obtain rfl:=Option.some.inj h; exact⟨by kernel_rfl,fr_ hF hw⟩
abbrev r_seglog_place_parts_1(J:Gh→Rowb→YSseglog_place_parts_1→Prop)(lY:Nat)(gb0:Nat)(gb0v0:Nat)(eb0v0:Nat)(b0v0:Odisk_Disk)(rowb0v0:Rowb)(b0v1:ByteArray)(b0v2:Int)(r:YSseglog_place_parts_1)(U:List Rowb)(Γ:Gh)(v:Value):Prop := ∃(rowsY':Rowb),v = .tuple #[]∧U = [rowsY',[(gb0,.cells #[.pointer (some ⟨gb0v0,0,none⟩),.string b0v1,.int .i64 b0v2] 141 (0,0))],rowb0v0]∧YSseglog_place_parts_1.ob J Γ lY rowsY' r∧True
theorem t_seglog_place_parts_1{J:Gh→Rowb→YSseglog_place_parts_1→Prop}{Y:YSseglog_place_parts_1→ByteArray→Int→Int→Option YSseglog_place_parts_1}{lY:Nat}(hY:∀{Γ:Gh} {w:World} {row:Rowb} {s s':YSseglog_place_parts_1} (y0_:ByteArray) (hy0_:y0_.size≤lim) (y1_0:Int) (hy1_0:I64 y1_0) (y1_1:Int) (hy1_1:I64 y1_1) (hs:YSseglog_place_parts_1.ob J Γ lY row s) (hp:Pre [row] Γ w) (h:Y s y0_ y1_0 y1_1=some s'),YieldAt (FR none) 0 Tryz.prog lY #[.string y0_,.agg #[ii y1_0,ii y1_1]] w (Outc Γ [row] w λU Δ v => ∃row':Rowb,v = .bool true∧U = [row']∧YSseglog_place_parts_1.ob J Δ lY row' s')){rowsY:Rowb}{sY:YSseglog_place_parts_1}(hsY:YSseglog_place_parts_1.ob J Γ lY rowsY sY){gb0:Nat}{gb0v0:Nat}{eb0v0:Nat}{rowb0v0:Rowb}{b0v0:Odisk_Disk}(hb0v0:Odisk_Disk.ob eb0v0 Γ gb0v0 rowb0v0 b0v0)(b0v1:ByteArray)(hb0v1:b0v1.size≤lim)(b0v2:Int)(hb0v2:I64 b0v2)(hp:Pre [rowsY,[(gb0,.cells #[(pq gb0v0),.string b0v1,ii b0v2] 141 (0,0))],rowb0v0] Γ w0){r:YSseglog_place_parts_1}(h:m_seglog_place_parts_1 Y sY b0v0 b0v1 b0v2=some r):Calls Tryz.prog 156 #[.func (.yield lY) #[] #[],(pq gb0)] w0 (Outc Γ [rowsY,[(gb0,.cells #[(pq gb0v0),.string b0v1,ii b0v2] 141 (0,0))],rowb0v0] w0 (r_seglog_place_parts_1 J lY gb0 gb0v0 eb0v0 b0v0 rowb0v0 b0v1 b0v2 r)):=by
 refine goV [] func156 ntmps156 results156 hp λF hF=>?_
 refine ab (sV (q_fl 0 fld_141_0) (k:=sV (ldV 1 isAgg25) (k:=?_)))
 obtain⟨z1,hz2,h⟩:=bnd h
 refine ecV [2] (caV call157) (λw hp=>t_disk_Disk_Names hb0v0 hp hz2) ?_
 rintro Γ3 _ _ hl4 ⟨A7,c8,row9,rfl,rfl,hr10,_⟩
 refine cwV 16 [_,_,_,_] (sV (q_len_slice rfl underlying133) (k:=mV (k:=aa (ai ?_))))
 refine al h (λ(i17:Nat) (o13:YSseglog_place_parts_1) σ w => ∃(Γ11:Gh), ∃(row14:Rowb),slots σ [(0,.func (.yield lY) #[] #[]),(1,(pq gb0)),(16,.slice A7 z1.length c8),(17,ii (z1.length:Int)),(18,ii (i17:Int))]∧CC F Γ11 [rowb0v0,row9,row14,[(gb0,.cells #[(pq gb0v0),.string b0v1,ii b0v2] 141 (0,0))]] w∧Gh.le Γ3 Γ11∧YSseglog_place_parts_1.ob J Γ11 lY row14 o13∧True) ?_ ?_
 ·
  intro w hw
  exact⟨Γ3,rowsY,slK,hw,gR,(hsY.mono hl4),trivial⟩
 rintro f16 i17 o13 σ w hi18 hlt19 hge20 ⟨Γ11,row14,hsl,hw,hl12,ho15,-⟩
 refine slV hsl hw [_,_,_,_] ?_; clear hw hsl
 refine ab (sV q_lss (k:=aa (ac ?_)))
 refine coV (λhb21=>?_) (λhb21=>?_)
 ·
  have hl22:=ilt hb21
  have h:=hlt19 hl22
  refine ag (wc_ (ac (ai (ab (sV (q_ixn (i:=i17) underlying133 sizeOf9 rfl rfl rfl hl22 ((hr10.mono hl12).some_ hl22)) (k:=sV (q_ldo (c:=0) (v:=.string (gt z1 i17)) (i:=1) rfl ((hr10.mono hl12).strT_at hl22).2 rfl isAgg9 rfl rfl) (k:=aV (k:=?_))))))))
  refine aa (ab (mV (k:=sV (q_fl 1 fld_141_1) (k:=sV (ldV 3 isAgg9) (k:=sV (q_sadd rfl rfl rfl hb0v1 (show (⟨#[46]⟩:ByteArray).size≤lim by decide)) (k:=?_))))))
  obtain⟨hk23,h⟩:=chk_some h
  obtain⟨z24,hz25,h⟩:=bnd h
  refine vqV (caV call158) (λw hw=>t_strings_CutPrefix (Γ:=Gh.all w) (gt z1 i17) ((hr10.mono hl12).strT_at hl22).1 (b0v1++(⟨#[46]⟩:ByteArray)) (of_decide_eq_true hk23) (Sat.all w) hz25) (k:=mV (k:=sV exV (k:=sV exV (k:=aV (k:=aV (k:=aa (ab ?_)))))))
  refine mV (k:=?_)
  obtain⟨hk26,h⟩:=chk_some h
  obtain⟨z27,hz28,h⟩:=bnd h
  refine vqV (caV call159) (λw hw=>t_strings_Cut (Γ:=Gh.all w) z24.1 (of_decide_eq_true hk26) (Sat.all w) hz28) (k:=mV (k:=sV exV (k:=sV exV (k:=sV exV (k:=aV (k:=aV (k:=aV (k:=?_))))))))
  refine aa (ab (mV (k:=?_)))
  obtain⟨hk29,h⟩:=chk_some h
  obtain⟨z30,hz31,h⟩:=bnd h
  refine vqV (caV call160) (λw hw=>t_num_Read (Γ:=Gh.all w) z27.1 (of_decide_eq_true hk29) (Sat.all w) hz31) (k:=mV (k:=sV exV (k:=sV exV (k:=aV (k:=aV (k:=aa (ab ?_)))))))
  refine mV (k:=?_)
  obtain⟨hk32,h⟩:=chk_some h
  obtain⟨z33,hz34,h⟩:=bnd h
  refine vqV (caV call160) (λw hw=>t_num_Read (Γ:=Gh.all w) z27.2.1 (of_decide_eq_true hk32) (Sat.all w) hz34) (k:=mV (k:=sV exV (k:=sV exV (k:=aV (k:=aV (k:=aa (ac ?_)))))))
  refine WC.ofI (WCI.region ?_)
  refine WI.op (λ_ h=>nomatch h) ?_
  refine mV (k:=?_)
  refine ak ?_
  refine WI.op (λ_ h=>nomatch h) ?_
  refine mV (k:=?_)
  refine ak ?_
  refine WI.op (λ_ h=>nomatch h) ?_
  refine vG1 (h:=λhg35=>moV) (k:=?_)
  refine ak ?_
  refine WI.op (λ_ h=>nomatch h) ?_
  refine sV pkA (k:=?_)
  refine ak ?_
  refine WI.op (λ_ h=>nomatch h) ?_
  refine mV (k:=?_)
  refine ak ?_
  refine WI.op (λ_ h=>nomatch h) ?_
  refine vG1 (h:=λhg36=>moV) (k:=?_)
  refine ak ?_
  refine WI.op (λ_ h=>nomatch h) ?_
  refine vG1 (h:=λhg37=>q_eql rfl (grV hg37)) (k:=?_)
  refine ak ?_
  refine WI.op (λ_ h=>nomatch h) ?_
  refine sV pkA (k:=?_)
  refine ak ?_
  refine WI.op (λ_ h=>nomatch h) ?_
  refine mV (k:=?_)
  refine ak ?_
  refine WI.op (λ_ h=>nomatch h) ?_
  refine vG1 (h:=λhg38=>moV) (k:=?_)
  refine ak ?_
  refine WI.op (λ_ h=>nomatch h) ?_
  refine vG1 (h:=λhg39=>q_eql rfl (grV hg39)) (k:=?_)
  refine ak ?_
  refine WI.op (λ_ h=>nomatch h) ?_
  refine sV pkA (k:=?_)
  refine ak ?_
  refine WI.op (λ_ h=>nomatch h) ?_
  refine mV (k:=?_)
  refine ak ?_
  refine WI.op (λ_ h=>nomatch h) ?_
  refine vG1 (h:=λhg40=>moV) (k:=?_)
  refine ak ?_
  refine WI.op (λ_ h=>nomatch h) ?_
  refine vG1 (h:=λhg41=>q_leq rfl (grV hg41)) (k:=?_)
  refine ak ?_
  refine WI.op (λ_ h=>nomatch h) ?_
  refine sV pkA (k:=?_)
  refine ak ?_
  refine WI.op (λ_ h=>nomatch h) ?_
  refine mV (k:=?_)
  refine ak ?_
  refine WI.op (λ_ h=>nomatch h) ?_
  refine vG1 (h:=λhg42=>moV) (k:=?_)
  refine ak ?_
  refine WI.op (λ_ h=>nomatch h) ?_
  refine vG1 (h:=λhg43=>q_geq rfl (grV hg43)) (k:=?_)
  refine ak ?_
  refine WI.op (λ_ h=>nomatch h) ?_
  refine sV pkA (k:=?_)
  refine ak ?_
  refine WI.op (λ_ h=>nomatch h) ?_
  refine mV (k:=?_)
  refine ak ?_
  refine WI.op (λ_ h=>nomatch h) ?_
  refine vG1 (h:=λhg44=>moV) (k:=?_)
  refine ak ?_
  refine WI.op (λ_ h=>nomatch h) ?_
  refine vG1 (h:=λhg45=>q_leq rfl (grV hg45)) (k:=?_)
  refine ak ?_
  refine WI.op (λ_ h=>nomatch h) ?_
  refine sV pkA (k:=?_)
  refine ak ?_
  refine WI.op (λ_ h=>nomatch h) ?_
  refine mV (k:=?_)
  refine ak ?_
  refine WI.op (λ_ h=>nomatch h) ?_
  refine vG1 (h:=λhg46=>q_move (v:=.func (.yield lY) #[] #[]) rfl (by kernel_rfl)) (k:=?_)
  refine ak ?_
  refine WI.op (λ_ h=>nomatch h) ?_
  refine vG1 (h:=λhg47=>moV) (k:=?_)
  refine ak ?_
  refine WI.op (λ_ h=>nomatch h) ?_
  refine vG1 (h:=λhg48=>moV) (k:=?_)
  refine ak ?_
  refine WI.op (λ_ h=>nomatch h) ?_
  refine vG1 (h:=λhg49=>moV) (k:=?_)
  refine ak ?_
  refine WI.op (λ_ h=>nomatch h) ?_
  refine vG1 (h:=λhg50=>q_build' (v:=.agg #[ii z30.1,ii z33.1]) rfl (bargs2 (grV hg50) (grV hg50)) (λw=>by kernel_rfl)) (k:=?_)
  refine ak ?_
  refine(Bool.eq_false_or_eq_true ((((((z24.2&&z27.2.2)&&(z30.2==0))&&(z33.2==0))&&(decide (z30.1≤999999)))&&(decide (1≤z33.1)))&&(decide (z33.1≤999999)))).elim (λhb51=>?_) (λhb51=>?_)
  ·
   have h:=bt hb51 h
   refine WI.sat (c0:=true) (g:=((((((z24.2&&z27.2.2)&&(z30.2==0))&&(z33.2==0))&&(decide (z30.1≤999999)))&&(decide (1≤z33.1)))&&(decide (z33.1≤999999)))) rfl rfl rfl hb51 ?_
   obtain⟨hk52,h⟩:=chk_some h
   obtain⟨hk53,h⟩:=chk_some h
   obtain⟨z54,hz55,h⟩:=bnd h
   refine WI.yield (is:=[2]) rfl rfl (λ_ h=>nomatch h) (yield_run rfl (grV hb51) (args2 (grV hb51) (grV hb51))) rfl (λw hp=>hY (gt z1 i17) ((hr10.mono hl12).strT_at hl22).1 z30.1 (i64b_of hk52) z33.1 (i64b_of hk53) ho15 hp hz55) ?_
   rintro Γ56 _ _ hl57 ⟨row60,rfl,rfl,hr61⟩
   change WI _ _ _ _ (CC F Γ56 [row60,rowb0v0,row9,[(gb0,.cells #[(pq gb0v0),.string b0v1,ii b0v2] 141 (0,0))]]) _ _ (upd _ 76 (.bool true))
   refine WI.sat (c0:=true) (g:=((((((z24.2&&z27.2.2)&&(z30.2==0))&&(z33.2==0))&&(decide (z30.1≤999999)))&&(decide (1≤z33.1)))&&(decide (z33.1≤999999)))) rfl rfl rfl hb51 ?_
   refine WI.op (λ_ h=>nomatch h) ?_
   refine sV q_not (k:=?_)
   refine ak ?_
   refine WI.op (λ_ h=>nomatch h) ?_
   refine sV (q_pick_t (v:=.bool (!true)) rfl rfl hb51 (by kernel_rfl)) (k:=?_)
   refine ak ?_
   refine WI.nil ?_
   change WC _ _ _ _ _ _
   refine WC.cfk (b:=(!true)) (by kernel_rfl) (nott rfl) ?_
   refine ag (wc_ ?_)
   refine ah ?_
   refine sV (q_add_r rfl rfl rfl (ctr_len hl22 (hr10.mono hl12).le)) (k:=mV (k:=?_))
   exact ae λw hw=>⟨hl22,z54,h,Γ56,row60,slK,(hw.on [1,1,0,0]),(hl12.trans hl57),hr61,trivial⟩
  have h:=bf hb51 h
  refine WI.op (λ_ h=>nomatch h) ?_
  refine av (c0:=true) (g:=((((((z24.2&&z27.2.2)&&(z30.2==0))&&(z33.2==0))&&(decide (z30.1≤999999)))&&(decide (1≤z33.1)))&&(decide (z33.1≤999999)))) rfl rfl rfl hb51 rfl ?_
  refine ak ?_
  refine WI.op (λ_ h=>nomatch h) ?_
  refine av (c0:=true) (g:=((((((z24.2&&z27.2.2)&&(z30.2==0))&&(z33.2==0))&&(decide (z30.1≤999999)))&&(decide (1≤z33.1)))&&(decide (z33.1≤999999)))) rfl rfl rfl hb51 rfl ?_
  refine ak ?_
  refine WI.op (λ_ h=>nomatch h) ?_
  refine sV (q_pick_f (v:=.bool false) rfl rfl hb51 (by kernel_rfl)) (k:=?_)
  refine ak ?_
  refine WI.nil ?_
  change WC _ _ _ _ _ _
  refine WC.cfk (b:=false) (by kernel_rfl) rfl ?_
  refine ag (wc_ ?_)
  refine ah ?_
  refine sV (q_add_r rfl rfl rfl (ctr_len hl22 (hr10.mono hl12).le)) (k:=mV (k:=?_))
  exact ae λw hw=>⟨hl22,o13,h,Γ11,row14,slK,hw,hl12,ho15,trivial⟩
 have h:=hge20 (ige hb21)
 refine aj ?_
 intro w hw
 cases h
 subst hF
 exact end_e (is:=[2,2,0]) (by kernel_rfl) hw rfl ⟨row14,rfl,rfl,ho15,trivial⟩
abbrev r_disk_Disk_Remove(gd:Nat)(ed:Nat)(r:Odisk_Disk×Int)(U:List Rowb)(Γ:Gh)(v:Value):Prop := ∃(rowd':Rowb),v = .int .i64 r.2∧U = [rowd']∧Odisk_Disk.ob ed Γ gd rowd' r.1∧I64 r.2∧True
theorem t_disk_Disk_Remove{gd ed:Nat}{rowd:Rowb}{d:Odisk_Disk}(hd:Odisk_Disk.ob ed Γ gd rowd d)(name:ByteArray)(hname:name.size≤lim)(hp:Pre [rowd] Γ w0){r:Odisk_Disk×Int}(h:m_disk_Disk_Remove d name=some r):Calls Tryz.prog 123 #[(pq gd),.string name] w0 (Outc Γ [rowd] w0 (r_disk_Disk_Remove gd ed r)):=by
 refine goV [4] func123 ntmps123 results123 hp λF hF=>?_
 refine ab ?_
 refine bxV (v:=.string name) λg1=>?_
 refine aV (k:=aa (ac (ab (mV (k:=sV (ldV 0 isAgg9) (k:=?_))))))
 obtain⟨z2,hz3,h⟩:=bnd h
 refine vqV (caV call154) (λw hw=>t_disk_Disk_there (Γ:=Gh.all w) (hd.mono hw.sat.le_all) (hw.ra 1 rfl) name hname (Sat.all w) hz3) (k:=aV (k:=aa (ab (mV (k:=sV q_neq (k:=aa ?_))))))
 refine ciV h (λhb4 h=>?_) (λhb4 h=>?_)
 ·
  refine ab (mV (k:=aV (k:=aa ?_)))
  refine af ?_
  intro w hw
  obtain⟨hk5,h⟩:=chk_some h
  cases h
  subst hF
  exact end_e (is:=[1]) (by kernel_rfl) hw rfl ⟨rowd,rfl,rfl,hd,(i64b_of hk5),trivial⟩
 refine ag (wc_ (ab (mV (k:=sV (q_mkfn (v:=.func (.func 161) #[] #[(pq g1)]) rfl (by kernel_rfl)) (k:=sV (q_build' (v:=.agg #[.func (.func 161) #[] #[(pq g1)],.string ByteArray.empty,.slice none 0 0]) rfl (bargs1 rfl) (λw=>by kernel_rfl)) (k:=?_))))))
 intro w hw; obtain⟨Γ6,hw,hl7,hr8⟩:=hw.seal (i:=0) rfl
 have hg9:=hr8 _ (List.mem_singleton.2 rfl)
 refine WR.here (C:=CC F Γ6 [_,_]) ?_ hw
 clear hw
 have hf10:Cdisk_change_do.ok Γ6 none g1 (Cdisk_change_do.disk_Disk_Remove_1 name):=⟨⟨hg9,hname⟩,trivial⟩
 obtain⟨z11,hz12,h⟩:=bnd h
 refine ecV [1] (caV call149) (λw hp=>t_disk_Disk_done (hd.mono hl7) (Ac_2:=none) (cc_2:=0) (⟨(Cdisk_change_do.disk_Disk_Remove_1 name),ByteArray.empty,[]⟩:Ddisk_change) ⟨hf10,(show (ByteArray.empty:ByteArray).size≤lim by decide),nilV⟩ hp hz12) ?_
 rintro Γ13 _ _ hl14 ⟨row17,rfl,rfl,hr18,hr19,_⟩
 refine cwV 15 [_,_] (aV (k:=aa ?_))
 exact af λw hw=>re_ r [0] h hF hw ⟨row17,rfl,rfl,hr18,hr19,trivial⟩
def JRem(Γb:Gh)(l gl g3 fT:Nat)(caps:Array Value)(rowT:Rowb)(rec:Loop)(Γ:Gh)(row:Rowb)(s:YSseglog_place_parts_1):Prop := ∃(A:Option Addr) (c:Nat) (rowo:Rowb),Γb.le Γ∧row=([[(l,.loop rec)],[(gl,.cells #[.slice A s.length c] 133 (0,0))],rowo,[(g3,.cells #[.func (.func fT) #[] caps] 148 (0,0))],rowT]:List Rowb).flatten∧Own strT Γ 9 rowo A c s
theorem t_seglog_place_parts{gd:Nat}{name:ByteArray}{gen:Int}(hp:Pre [] Γ w0):Calls Tryz.prog 122 #[.agg #[(pq gd),.string name,ii gen]] w0 (Outc Γ [] w0 (λU Δ v => ∃g1:Nat,v = .func (.func 156) #[] #[(pq g1)]∧U = [[(g1,.cells #[(pq gd),.string name,ii gen] 141 (0,0))]])):=by
 refine goV [2] func122 ntmps122 results122 hp λF hF=>?_
 refine ab ?_
 refine bxV (v:=.agg #[(pq gd),.string name,ii gen]) λg1=>?_
 refine aU (v:=.nilFunc) (k:=?_)
 refine ae ?_
 change WC _ _ _ _ _ _
 refine ab (sV (q_mkfn (v:=.func (.func 156) #[] #[(pq g1)]) rfl (by kernel_rfl)) (k:=aU (v:=.func (.func 156) #[] #[(pq g1)]) (k:=?_)))
 refine ae ?_
 change WC _ _ _ _ _ _
 refine af ?_
 intro w hw
 subst hF
 exact end_e (is:=[0]) (by kernel_rfl) hw rfl ⟨g1,rfl,rfl⟩
set_option maxRecDepth 100000 in
set_option maxHeartbeats 800000 in
theorem t_seglog_place_remove{Γ:Gh}{w0:World}{gd ed:Nat}{rowd:Rowb}{d:Odisk_Disk}(hd:Odisk_Disk.ob ed Γ gd rowd d)(name:ByteArray)(hname:name.size≤lim)(gen:Int)(hgen:I64 gen){fT:Nat}{caps:Array Value}{rowT:Rowb}(pred:Int→Int→Option Bool)
  (hT:∀{Γ2:Gh} {w:World} (x:Int) (hx:I64 x) (y:Int) (hy:I64 y),Γ.le Γ2→Pre [rowT] Γ2 w→∀{q:Bool},pred x y=some q→Calls Tryz.prog fT (#[ii x,ii y]++caps) w (λe w'=>e = .returned (.bool q)∧Fr no w w'))
  (eT:∀(args:Array Value) (w:World),(callFunc fT args).run Tryz.prog w = .ok (.enter fT args) w) (hp:Pre [rowd,rowT] Γ w0) {r:Odisk_Disk} (h:m_seglog_place_remove d name gen pred=some r) :
  Calls Tryz.prog 88 #[.agg #[(pq gd),.string name,ii gen],.func (.func fT) #[] caps] w0 (Outc Γ [rowd,rowT] w0 (λU Δ v => ∃rowd',v = .tuple #[]∧U = [rowd',rowT]∧Odisk_Disk.ob ed Δ gd rowd' r)):=by
 obtain⟨z,hz,h⟩:=bnd h
 refine calls_of2 (n:=34) (rs:=[]) (args:=[.agg #[(pq gd),.string name,ii gen],.func (.func fT) #[] caps]) func88 rfl ntmps88 results88 rfl ?_
 obtain⟨F,hF⟩:∃F:Fm,F=⟨ids [rowd,rowT],w0,Γ⟩:=⟨_,rfl⟩
 refine WC2.here (C:=CC F Γ [rowd,rowT]) ?_ (hF▸hp.start)
 refine WC2.seq ?_
 refine ah ?_
 refine bxV (v:=.agg #[(pq gd),.string name,ii gen]) λg2=>?_
 refine bxV (v:=.func (.func fT) #[] caps) λg3=>?_
 refine ae ?_
 change WC2 _ _ _ _ _ _
 refine WC2.seq ?_
 refine ah ?_
 refine alV zeroValue133 λgl=>?_
 refine ae ?_
 change WC2 _ _ _ _ _ _
 refine WC2.seq3 ?_
 refine ah ?_
 refine sV (ldaV 2 [(pq gd),.string name,ii gen] isAgg141 sizeOf141) (k:=?_)
 refine ecV [] (caV call122) (λw hp=>t_seglog_place_parts (gd:=gd) (name:=name) (gen:=gen) hp) ?_
 rintro Γ1 _ _ hl1 ⟨g1,rfl,rfl⟩
 refine cwV 10 [_,_,_,_,_,_] ?_
 refine ae ?_
 change WC3 _ _ _ _ _ _ _
 refine WC3.rangeF (n:=34) (gf:=156) (lb:=#[(pq g1)]) (by kernel_rfl) call156 ?_
 intro l D rec w hst hpe hps has hbo hagr hw
 have hY:∀{Γa:Gh} {w:World} {row:Rowb} {s s':YSseglog_place_parts_1} (y0_:ByteArray) (hy0_:y0_.size≤lim) (y1_0:Int) (hy1_0:I64 y1_0) (y1_1:Int) (hy1_1:I64 y1_1) (hs:YSseglog_place_parts_1.ob (JRem Γ l gl g3 fT caps rowT rec) Γa l row s) (hp:Pre [row] Γa w) (h:m_seglog_parts_y pred s y0_ y1_0 y1_1=some s'),
   YieldAt (FR none) 0 Tryz.prog l #[.string y0_,.agg #[ii y1_0,ii y1_1]] w (Outc Γa [row] w λU Δ v => ∃row':Rowb,v = .bool true∧U = [row']∧YSseglog_place_parts_1.ob (JRem Γ l gl g3 fT caps rowT rec) Δ l row' s'):=by
  intro Γa w row s s' f hf x hx y hy hs hp h
  obtain⟨q,hq,h⟩:=bnd h
  obtain⟨Γ',hle,Ao,co,rowo,hgb,rfl,ho⟩:=hs
  have hgb:=hgb.trans hle
  have ho:=ho.mono hle
  refine YieldAt.mono (R:=Outc Γa [[(l,.loop rec)],[(gl,.cells #[.slice Ao s.length co] 133 (0,0))],rowo,[(g3,.cells #[.func (.func fT) #[] caps] 148 (0,0))],rowT] w λU Δ v => ∃A2 c2 row2,v = .bool true∧U = [[(l,.loop rec)],[(gl,.cells #[.slice A2 s'.length c2] 133 (0,0))],row2,[(g3,.cells #[.func (.func fT) #[] caps] 148 (0,0))],rowT]∧Own strT Δ 9 row2 A2 c2 s') ?_ ?_
  ·
   refine yield_of has hbo hp.parts hst hpe (by rw [hps]; rfl) (N:=⟨34,[]⟩) (σ1:=_) (by rw [hps]; exact hagr.par2 rfl rfl) ?_
   intro F hF
   refine WCI.rs ?_
   refine WI.op (λ_ h=>nomatch h) ?_
   refine aV (k:=?_)
   refine ak ?_
   refine WI.done ?_
   refine WCI.region ?_
   refine WI.op (λ_ h=>nomatch h) ?_
   refine alV zeroValue188 λg6=>?_
   refine ak ?_
   refine WI.op (λ_ h=>nomatch h) ?_
   refine stV 0 (.agg #[ii x,ii y]) #[ii x,ii y] sizeOf188 (k:=?_)
   refine ak ?_
   refine WI.nil ?_
   intro w hw
   have hw:Cur F Γa ([(l,.loop rec)]::[[(g6,.cells #[ii x,ii y] 188 (0,0))],[(gl,.cells #[.slice Ao s.length co] 133 (0,0))],rowo,[(g3,.cells #[.func (.func fT) #[] caps] 148 (0,0))],rowT]) w:=hw.permL (List.Perm.swap _ _ _)
   refine⟨Γa,_,hw,?_⟩
   refine WCI.block ?_
   refine WCI.rs ?_
   refine WI.op (λ_ h=>nomatch h) ?_
   refine sV (ldV 4 isAgg148) (k:=?_)
   refine ak ?_
   refine WI.op (λ_ h=>nomatch h) ?_
   refine sV (q_ixa_ (0) underlying188 sizeOf2 rfl rfl rfl rfl rfl) (k:=?_)
   refine ak ?_
   refine WI.op (λ_ h=>nomatch h) ?_
   refine sV (ldV 1 isAgg2) (k:=?_)
   refine ak ?_
   refine WI.op (λ_ h=>nomatch h) ?_
   refine sV (q_ixa_ (1) underlying188 sizeOf2 rfl rfl rfl rfl rfl) (k:=?_)
   refine ak ?_
   refine WI.op (λ_ h=>nomatch h) ?_
   refine sV (ldV 1 isAgg2) (k:=?_)
   refine ak ?_
   refine WI.op (λ_ h=>nomatch h) ?_
   refine vc rfl rfl rfl (q_call (v:=.bool q) (call_run_fv (caps:=caps) (args:=#[ii x,ii y]++caps) eT rfl (by kernel_rfl) (by kernel_rfl)) (λw hw=>(by exact hT x hx y hy hgb (hw.on [5]).pre hq))) ?_
   refine ak ?_
   refine WI.done ?_
   refine WCI.cond (b:=q) (by kernel_rfl) (λhb=>?_) (λhb=>?_)
   ·
    have h:=bt hb h
    obtain⟨hk,h⟩:=chk_some h
    cases h
    refine WCI.region ?_
    refine WI.op (λ_ h=>nomatch h) ?_
    refine sV (ldV 2 isAgg133) (k:=?_)
    refine ak ?_
    refine WI.op (λ_ h=>nomatch h) ?_
    refine mV (k:=?_)
    refine ak ?_
    refine WI.op (λ_ h=>nomatch h) ?_
    refine bsV #[.string f] 9 λgb=>?_
    refine ak ?_
    refine WI.op (λ_ h=>nomatch h) ?_
    refine apV 4 [f] elem_133 ho (of_decide_eq_true hk) (λw hw=>src_one (i:=0) rfl (by exact⟨rfl,hf⟩) hw) ?_
    intro row2 A2 c2 ho2
    refine ak ?_
    refine WI.op (λ_ h=>nomatch h) ?_
    refine stV 3 (.slice A2 (s++[f]).length c2) #[.slice A2 (s++[f]).length c2] sizeOf133 (k:=?_)
    refine ak ?_
    exact WI.nil λw hw=>⟨Γa,_,hw.on [1,2,2,2,2],A2,c2,row2,rfl,rfl,ho2⟩
   have h:=bf hb h
   cases h
   exact WCI.skip λw hw=>⟨Γa,_,hw.on [0,1,1,1,1],Ao,co,rowo,rfl,rfl,ho⟩
  rintro e w2 ⟨v,rfl,Δ,U,he,A2,c2,row2,rfl,rfl,ho2⟩
  exact⟨_,rfl,Δ,_,he.glue,_,rfl,rfl,YS.of ⟨A2,c2,row2,hgb.trans he.le,rfl,ho2⟩⟩
 have hw:=hw.pad
 have h2:=hw.fold (is:=[1,3,0,2,4]) rfl rfl
 have h3:Cur F Γ1 ([([[(l,.loop rec)],[(gl,.cells #[.slice none 0 0] 133 (0,0))],[],[(g3,.cells #[.func (.func fT) #[] caps] 148 (0,0))],rowT]:List Rowb).flatten,[(g1,.cells #[(pq gd),.string name,ii gen] 141 (0,0))],rowd]++[[(D,.deferred (some []))],[(g2,.cells #[(pq gd),.string name,ii gen] 141 (0,0))]]) w:=h2.pick (is:=[0,1,2]) rfl
 refine(t_seglog_place_parts_1 (J:=JRem Γ l gl g3 fT caps rowT rec) (Y:=m_seglog_parts_y pred) (lY:=l) (sY:=[]) hY (YS.of ⟨none,0,[],hl1,rfl,Own.nil _ _ _⟩) (hd.mono hl1) name hname gen hgen (h2.only (is:=[0,1,2]) rfl).pre hz).mono ?_
 rintro e w' ⟨v,rfl,Δ,U',he,rowY',rfl,rfl,hJ',-⟩
 have h4:=h3.eff he
 obtain⟨Γ',hle,A',c',rowo', -,hrow,ho'⟩:=hJ'
 have ho':=ho'.mono hle
 have h5:=h4.unfold (i:=0) rfl hrow
 have hd':=(hd.mono hl1).mono he.le
 refine⟨_,rfl,Δ,[[(gl,.cells #[.slice A' z.length c'] 133 (0,0))],rowo',rowT,rowd,[(g2,.cells #[(pq gd),.string name,ii gen] 141 (0,0))]],h5.only (is:=[0,6,0,0,1,2,2]) rfl,?_⟩
 refine WC2.of ?_
 refine ab (sV (ldV 1 isAgg133) (k:=sV (q_len_slice rfl underlying133) (k:=mV (k:=?_))))
 refine ae ?_
 change WC _ _ _ _ _ _
 refine ai ?_
 refine al h (λ(i:Nat) (x:Odisk_Disk) σ w => ∃(Γ2:Gh) (rowd2:Rowb),slots σ [(2,(pq g2)),(23,.slice A' z.length c'),(24,ii (z.length:Int)),(25,ii (i:Int))]∧CC F Γ2 [[(D,.deferred (some []))],[(gl,.cells #[.slice A' z.length c'] 133 (0,0))],rowo',rowT,rowd2,[(g2,.cells #[(pq gd),.string name,ii gen] 141 (0,0))]] w∧Gh.le Δ Γ2∧Odisk_Disk.ob ed Γ2 gd rowd2 x∧True) ?_ ?_
 ·
  intro w hw
  exact⟨Δ,rowd,slK,hw,gR,hd',trivial⟩
 rintro f11 i x σ w hi13 hlt14 hge15 ⟨Γ2,rowd2,hsl,hw,hl5,hd2,-⟩
 refine slV hsl hw [_,_,_,_,_,_] ?_; clear hw hsl
 refine ab (sV q_lss (k:=?_))
 refine ae ?_
 change WC _ _ _ _ _ _
 refine ac ?_
 refine coV (λhb16=>?_) (λhb16=>?_)
 ·
  have hl17:=ilt hb16
  have h:=hlt14 hl17
  refine ag (wc_ (ac (ai (ab (sV (q_ixn (i:=i) underlying133 sizeOf9 rfl rfl rfl hl17 ((ho'.mono hl5).some_ hl17)) (k:=sV (q_ldo (c:=0) (v:=.string (gt z i)) (i:=2) rfl ((ho'.mono hl5).strT_at hl17).2 rfl isAgg9 rfl rfl) (k:=aV (k:=?_))))))))
  refine ae ?_
  change WC _ _ _ _ _ _
  refine ah ?_
  refine sV (q_fl 0 fld_141_0) (k:=sV (ldV 5 isAgg25) (k:=mV (k:=?_)))
  obtain⟨y,hy,h⟩:=bnd h
  refine ecV [4] (caV call123) (λw hp=>t_disk_Disk_Remove hd2 (gt z i) ((ho'.mono hl5).strT_at hl17).1 hp hy) ?_
  rintro Γ3 _ _ hl3 ⟨rowd3,rfl,rfl,hd3,hr3,-⟩
  refine cwV 32 [_,_,_,_,_,_] ?_
  refine ae ?_
  change WC _ _ _ _ _ _
  refine ah ?_
  refine sV (q_add_r rfl rfl rfl (ctr_len hl17 ho'.le)) (k:=mV (k:=?_))
  exact ae λw hw=>⟨hl17,y.1,h,Γ3,rowd3,slK,hw.on [1,1,1,1,0,0],hl5.trans hl3,hd3,trivial⟩
 have h:=hge15 (ige hb16)
 cases h
 refine aj ?_
 intro w hw
 subst hF
 exact end_2n (N:=⟨34,[]⟩) (is:=[3,2]) (by kernel_rfl) hw rfl ⟨rowd2,rfl,rfl,hd2⟩
abbrev r_seglog_Open_1(gb0:Nat)(b0v:Int)(r:Bool)(U:List Rowb)(Γ:Gh)(v:Value):Prop:=v = .bool r∧U = [[(gb0,.cells #[.int .i64 b0v] 2 (0,0))]]∧True
theorem t_seglog_Open_1(g_:Int)(hg_:I64 g_)(a1:Int)(ha1:I64 a1){gb0:Nat}(b0v:Int)(hb0v:I64 b0v)(hp:Pre [[(gb0,.cells #[ii b0v] 2 (0,0))]] Γ w0){r:Bool}(h:m_seglog_Open_1 g_ a1 b0v=some r):Calls Tryz.prog 89 #[ii g_,ii a1,(pq gb0)] w0 (Outc Γ [[(gb0,.cells #[ii b0v] 2 (0,0))]] w0 (r_seglog_Open_1 gb0 b0v r)):=by
 refine goV [5] func89 ntmps89 results89 hp λF hF=>?_
 refine ab (aV (k:=aa (ab (mV (k:=sV (ldV 0 isAgg2) (k:=sV q_neq (k:=aV (k:=?_))))))))
 refine aa ?_
 exact af λw hw=>re_ r [0] h hF hw ⟨rfl,rfl,trivial⟩
theorem t_num_Digits(n:Int)(hn:I64 n)(hs:Sat Γ w0){r:ByteArray}(h:m_num_Digits n=some r):CQ Tryz.prog 31 #[ii n] w0 (.string r):=by
 refine goQ [2] func31 ntmps31 results31 hs λF hF=>?_
 refine ab (aV (k:=aa (ab ?_)))
 refine alV zeroValue111 λg1=>?_
 have ho2:Own byteT Γ 111 [(g1,.cells #[.int .u8 0,.int .u8 0,.int .u8 0,.int .u8 0,.int .u8 0,.int .u8 0,.int .u8 0,.int .u8 0,.int .u8 0,.int .u8 0,.int .u8 0,.int .u8 0,.int .u8 0,.int .u8 0,.int .u8 0,.int .u8 0,.int .u8 0,.int .u8 0,.int .u8 0,.int .u8 0] 111 (0,0))] (some ⟨g1,0,none⟩) 20 (List.replicate 20 (b8 0)):=own_zero (T:=byteT) 20 [.int .u8 0] (b8 0) rfl (by show [Value.int .u8 0] = [Value.int .u8 _]; rw [b8_val (by decide)]) (by decide)
 refine aa (ab (aV (k:=aa (ab (mV (k:=sV (q_conv underlying82 underlying2) (k:=aV (k:=?_))))))))
 refine aa ?_
 refine ar (λσ w => ∃(u_3:Int),m_num_Digits_j1 n u_3=some r∧slots σ [(0,ii n),(3,(pq g1)),(4,ii 20),(5,.int .u64 u_3)]∧CC F Γ [[(g1,.cells #[.int .u8 0,.int .u8 0,.int .u8 0,.int .u8 0,.int .u8 0,.int .u8 0,.int .u8 0,.int .u8 0,.int .u8 0,.int .u8 0,.int .u8 0,.int .u8 0,.int .u8 0,.int .u8 0,.int .u8 0,.int .u8 0,.int .u8 0,.int .u8 0,.int .u8 0,.int .u8 0] 111 (0,0))]] w∧U64 u_3∧True) ?_ ?_
 ·
  refine ab (mV (k:=sV q_lss (k:=aa ?_)))
  refine ciV h (λhb5 h=>?_) (λhb5 h=>?_)
  ·
   refine ah ?_
   refine mV (k:=sV q_neg (k:=aV (k:=?_)))
   exact ae λw hw=>⟨(wu64 (0 - (wu64 n))),h,slK,hw,(wu64_r _),trivial⟩
  exact ag λw hw=>⟨(wu64 n),h,slK,hw,(wu64_r _),trivial⟩
 rintro σ w ⟨u_3,h,hsl,hw,hr4,-⟩
 refine slV hsl hw [_] ?_; clear hw hsl
 refine ac (ai ?_)
 refine ay h (λ(s:Int×Int×(List UInt8)) σ w=>match s with | (at_6,u_8,x10) => ∃(row11:Rowb),slots σ [(0,ii n),(3,(pq g1)),(4,ii at_6),(5,.int .u64 u_8)]∧CC F Γ [row11] w∧I64 at_6∧U64 u_8∧x10.length=20∧Own byteT Γ 111 row11 (some ⟨g1,0,none⟩) 20 x10∧True) ?_ ?_
 ·
  intro w hw
  exact⟨[(g1,.cells #[.int .u8 0,.int .u8 0,.int .u8 0,.int .u8 0,.int .u8 0,.int .u8 0,.int .u8 0,.int .u8 0,.int .u8 0,.int .u8 0,.int .u8 0,.int .u8 0,.int .u8 0,.int .u8 0,.int .u8 0,.int .u8 0,.int .u8 0,.int .u8 0,.int .u8 0,.int .u8 0] 111 (0,0))],slK,hw,iV,hr4,List.length_replicate,ho2,trivial⟩
 rintro f14 ⟨at_6,u_8,x10⟩ σ w h ⟨row11,hsl,hw,hr7,hr9,hn13,ho12,-⟩
 refine slV hsl hw [_] ?_; clear hw hsl
 refine ac (ab (mV (k:=sV q_eql (k:=mV (k:=vG0 (h:=λhg18=>moV) (k:=vG0 (h:=λhg19=>q_gtr rfl (grV hg19)) (k:=sV pkO (k:=?_))))))))
 refine aa ?_
 refine ciV h (λhb20 h=>?_) (λhb20 h=>?_)
 ·
  refine ag (wc_ (ai (ab (mV (k:=sV q_sub (k:=aV (k:=aa ?_)))))))
  refine ab (mV (k:=mV (k:=sV (q_rem rfl rfl rfl (by decide)) (k:=sV q_add (k:=sV (q_conv underlying5 underlying82) (k:=?_))))))
  obtain⟨hk21,h⟩:=chk_some h
  refine sV (q_ixao underlying111 sizeOf5 rfl rfl rfl hk21) (k:=?_)
  refine e_store_own (T:=byteT) (q:=(w64 (at_6 - 1)).toNat) (v:=.int .u8 (wu8 (wu64 (48+(u_8.tmod 10))))) (y:=(b8 (wu8 (wu64 (48+(u_8.tmod 10)))))) rfl rfl rfl rfl (by kernel_rfl) sizeOf5 (by exact(by show [Value.int .u8 (wu8 (wu64 (48+(u_8.tmod 10))))] = [Value.int .u8 _]; rw [b8_val (wu8_r _)])) (i:=0) rfl ho12 (ltq (inb_lt hk21) hn13.symm) ?_
  intro row22 ho23
  refine aa ?_
  refine ah ?_
  refine mV (k:=sV (q_quo rfl rfl rfl (by decide)) (k:=aV (k:=?_)))
  exact ae λw hw=>⟨((w64 (at_6 - 1)),(wu64 (u_8.tdiv 10)),(List.set x10 ((w64 (at_6 - 1)).toNat) (b8 (wu8 (wu64 (48+(u_8.tmod 10))))))),h,row22,slK,hw,(w64_r _),(wu64_r _),(List.length_set.trans hn13),ho23,trivial⟩
 refine aj ?_
 change WC _ _ _ _ _ _
 refine ar (λσ w => ∃(at_24:Int), ∃(x26:List UInt8), ∃(row27:Rowb),m_num_Digits_j3 at_24 x26=some r∧slots σ [(3,(pq g1)),(4,ii at_24)]∧CC F Γ [row27] w∧I64 at_24∧x26.length=20∧Own byteT Γ 111 row27 (some ⟨g1,0,none⟩) 20 x26∧True) ?_ ?_
 ·
  refine ab (mV (k:=sV q_lss (k:=aa ?_)))
  refine ciV h (λhb30 h=>?_) (λhb30 h=>?_)
  ·
   refine ab (mV (k:=sV q_sub (k:=aV (k:=aa ?_))))
   refine ah ?_
   refine mV (k:=?_)
   obtain⟨hk31,h⟩:=chk_some h
   refine sV (q_ixao underlying111 sizeOf5 rfl rfl rfl hk31) (k:=?_)
   refine e_store_own (T:=byteT) (q:=(w64 (at_6 - 1)).toNat) (v:=.int .u8 45) (y:=(b8 45)) rfl rfl rfl rfl (by kernel_rfl) sizeOf5 (by exact(by show [Value.int .u8 45] = [Value.int .u8 _]; rw [b8_val (by decide)])) (i:=0) rfl ho12 (ltq (inb_lt hk31) hn13.symm) ?_
   intro row32 ho33
   exact ae λw hw=>⟨(w64 (at_6 - 1)),(List.set x10 ((w64 (at_6 - 1)).toNat) (b8 45)),row32,h,slK,hw,(w64_r _),(List.length_set.trans hn13),ho33,trivial⟩
  exact ag λw hw=>⟨at_6,x10,row11,h,slK,hw,hr7,hn13,ho12,trivial⟩
 rintro σ w ⟨at_24,x26,row27,h,hsl,hw,hr25,hn29,ho28,-⟩
 refine slV hsl hw [_] ?_; clear hw hsl
 refine ab (mV (k:=?_))
 obtain⟨hk34,h⟩:=chk_some h
 refine sV (q_slarr_from (lo:=at_24.toNat) (xs:=x26) underlying111 sizeOf5 rfl rfl (inle_eq rfl hk34) hn29 (inle_le hk34)) (k:=sV (q_bstrs (i:=0) (lo:=at_24.toNat) rfl (ho28) underlying77 underlying5 underlying9 rfl rfl (Nat.le_of_eq hn29)) (k:=aV (k:=aa ?_)))
 exact af λw hw=>rq_ r h hF hw
theorem t_seglog_place_file{gp__0:Nat}(p__1:ByteArray)(hp__1:p__1.size≤lim)(p__2:Int)(hp__2:I64 p__2)(gen:Int)(hgen:I64 gen)(part:Int)(hpart:I64 part)(hs:Sat Γ w0){r:ByteArray}(h:m_seglog_place_file p__1 p__2 gen part=some r):CQ Tryz.prog 124 #[.agg #[(pq gp__0),.string p__1,ii p__2],ii gen,ii part] w0 (.string r):=by
 refine goQ [6] func124 ntmps124 results124 hs λF hF=>?_
 refine ab ?_
 refine bxV (v:=.agg #[(pq gp__0),.string p__1,ii p__2]) λg1=>?_
 refine aV (k:=aa (ac ?_))
 refine drV ?_
 refine zV (q_fl 1 fld_141_1) (k:=zV (ldV 0 isAgg9) (k:=zV (q_sadd rfl rfl rfl hp__1 (show (⟨#[46]⟩:ByteArray).size≤lim by decide)) (k:=zV moV (k:=?_))))
 obtain⟨z2,hz3,h⟩:=bnd h
 refine wc rfl rfl rfl (q_call (caV call31) (λw hw=>t_num_Digits (Γ:=Gh.all w) gen hgen (Sat.all w) hz3)) ?_
 obtain⟨hk4,h⟩:=chk_some h
 obtain⟨hk5,h⟩:=chk_some h
 refine zV (q_sadd rfl rfl rfl (of_decide_eq_true hk4) (of_decide_eq_true hk5)) (k:=?_)
 obtain⟨hk6,h⟩:=chk_some h
 refine zV (q_sadd rfl rfl rfl (of_decide_eq_true hk6) (show (⟨#[46]⟩:ByteArray).size≤lim by decide)) (k:=zV moV (k:=?_))
 obtain⟨z7,hz8,h⟩:=bnd h
 refine wc rfl rfl rfl (q_call (caV call31) (λw hw=>t_num_Digits (Γ:=Gh.all w) part hpart (Sat.all w) hz8)) ?_
 obtain⟨hk9,h⟩:=chk_some h
 obtain⟨hk10,h⟩:=chk_some h
 refine zV (q_sadd rfl rfl rfl (of_decide_eq_true hk9) (of_decide_eq_true hk10)) (k:=zV aoV (k:=?_))
 refine ao ?_
 change WC _ _ _ _ _ _
 exact af λw hw=>rq_ r h hF hw
abbrev r_seglog_Log_scan(gl:Nat)(el:Nat×Nat)(edk0:Nat)(r:Oseglog_Log×Odisk_Disk×(List (List UInt8)))(U:List Rowb)(Γ:Gh)(v:Value):Prop := ∃(rowl':Rowb), ∃(rowdk0':Rowb), ∃(A0:Option Addr), ∃(c0:Nat), ∃(row0:Rowb),v = .slice A0 r.2.2.length c0∧U = [rowl',rowdk0',row0]∧Oseglog_Log.ob el Γ gl rowl' r.1∧Odisk_Disk.ob edk0 Γ el.2 rowdk0' r.2.1∧Own (slT byteT) Γ 77 row0 A0 c0 r.2.2∧True
theorem t_seglog_Log_scan{gl:Nat}{el:Nat×Nat}{rowl:Rowb}{l:Oseglog_Log}(hl:Oseglog_Log.ob el Γ gl rowl l){edk0:Nat}{rowdk0:Rowb}{dk0:Odisk_Disk}(hdk0:Odisk_Disk.ob edk0 Γ el.2 rowdk0 dk0)(hp:Pre [rowl,rowdk0] Γ w0){r:Oseglog_Log×Odisk_Disk×(List (List UInt8))}(h:m_seglog_Log_scan l dk0=some r):Calls Tryz.prog 90 #[(pq gl)] w0 (Outc Γ [rowl,rowdk0] w0 (r_seglog_Log_scan gl el edk0 r)):=by
 refine goV [2] func90 ntmps90 results90 hp λF hF=>?_
 refine ab (aV (k:=aa (ab (aV (k:=aa ?_)))))
 refine ar (λσ w => ∃(out_3:List (List UInt8)), ∃(o8:Oseglog_Log), ∃(o11:Odisk_Disk), ∃(Γ1:Gh), ∃(A4:Option Addr), ∃(c5:Nat), ∃(row6:Rowb), ∃(row9:Rowb), ∃(row12:Rowb),m_seglog_Log_scan_j1 out_3 o8 o11=some r∧slots σ [(0,(pq gl)),(3,.slice A4 out_3.length c5)]∧CC F Γ1 [row6,row9,row12] w∧Gh.le Γ Γ1∧Own (slT byteT) Γ1 77 row6 A4 c5 out_3∧Oseglog_Log.ob el Γ1 gl row9 o8∧Odisk_Disk.ob edk0 Γ1 el.2 row12 o11∧True) ?_ ?_
 ·
  refine ab (aV (k:=aa (ai ?_)))
  refine ay h (λ(s:(List (List UInt8))×Bool×Oseglog_Log×Odisk_Disk) σ w=>match s with | (out_16,whole_21,o22,o25) => ∃(Γ14:Gh), ∃(A17:Option Addr), ∃(c18:Nat), ∃(row19:Rowb), ∃(row23:Rowb), ∃(row26:Rowb),slots σ [(0,(pq gl)),(3,.slice A17 out_16.length c18),(4,.bool whole_21)]∧CC F Γ14 [row19,row23,row26] w∧Gh.le Γ Γ14∧Own (slT byteT) Γ14 77 row19 A17 c18 out_16∧Oseglog_Log.ob el Γ14 gl row23 o22∧Odisk_Disk.ob edk0 Γ14 el.2 row26 o25∧True) ?_ ?_
  ·
   intro w hw
   have hw:=hw.pad
   exact⟨Γ,none,0,[],rowl,rowdk0,slK,hw,gR,(Own.nil (slT byteT) _ 77),hl,hdk0,trivial⟩
  rintro f28 ⟨out_16,whole_21,o22,o25⟩ σ w h ⟨Γ14,A17,c18,row19,row23,row26,hsl,hw,hl15,ho20,ho24,ho27,-⟩
  refine slV hsl hw [_,_,_] ?_; clear hw hsl
  refine ac (ab (mV (k:=mV (k:=vG1 (h:=λhg32=>moV) (k:=vG1 (h:=λhg33=>nlV (hv:=grV hg33)) (k:=vG1 (h:=λhg34=>q_fl 4 fld_150_2 rfl (grV hg34)) (k:=?_)))))))
  obtain⟨hrow_36,ho0_36,ho1_36,ho2_36,ho3_36,ho4_36,ho5_36,ho6_36,-⟩:=id ho24
  refine ufR 1 hrow_36 [_,_,_] ?_
  refine vG1 (h:=λhg37=>ldV 0 isAgg2 (hx:=grV hg37)) (k:=vG1 (h:=λhg38=>q_lss rfl (grV hg38)) (k:=sV pkA (k:=aa ?_)))
  refine ciV h (λhb39 h=>?_) (λhb39 h=>?_)
  ·
   refine ag (wc_ (ai (ac ?_)))
   refine drV ?_
   refine zV moV (k:=zV nlV (k:=zV (q_fl 0 fld_150_0) (k:=zV (ldaV 0 [.pointer (some ⟨el.2,0,none⟩),.string o22.place_name,ii o22.place_gen] isAgg141 sizeOf141) (k:=zV moV (k:=zV nlV (k:=zV (q_fl 0 fld_150_0) (k:=zV (q_fl 2 fld_141_2) (k:=?_))))))))
   refine zV (ldV 0 isAgg2) (k:=zV moV (k:=zV nlV (k:=zV (q_fl 4 fld_150_2) (k:=zV (ldV 0 isAgg2) (k:=zV q_add (k:=?_))))))
   obtain⟨z40,hz41,h⟩:=bnd h
   refine wc rfl rfl rfl (q_call (caV call124) (λw hw=>t_seglog_place_file (Γ:=Gh.all w) (gp__0:=el.2) o22.place_name ho0_36 o22.place_gen ho1_36 o22.place_gen ho1_36 (w64 (o22.last+1)) (w64_r _) (Sat.all w) hz41)) (zV aoV (k:=?_))
   refine ao ?_
   change WC _ _ _ _ _ _
   refine ab (mV (k:=sV nlV (k:=sV (q_fl 0 fld_150_0) (k:=sV (q_fl 0 fld_141_0) (k:=sV (ldV 0 isAgg25) (k:=mV (k:=?_)))))))
   obtain⟨hk42,h⟩:=chk_some h
   obtain⟨z43,hz44,h⟩:=bnd h
   refine ecV [2] (caV call39) (λw hp=>t_disk_Disk_Read ho27 z40 (of_decide_eq_true hk42) hp hz44) ?_
   rintro Γ45 _ _ hl46 ⟨A49,c50,row51,rfl,rfl,hr52,_⟩
   refine cwV 41 [_,_,_,_] (mV (k:=sV exV (k:=sV exV (k:=aV (k:=aV (k:=aa (ac ?_)))))))
   refine ab (mV (k:=sV q_not (k:=aa ?_)))
   refine ciV h (λhb53 h=>?_) (λhb53 h=>?_)
   ·
    refine aj ?_
    intro w hw
    have hw:=hw.fold (is:=[2]) rfl hrow_36
    exact⟨out_16,o22,o25,Γ45,A17,c18,row19,row23,row26,h,slK,(hw.on [3,0,0]),(hl15.trans hl46),(ho20.mono hl46),(ho24.mono hl46),(ho27.mono hl46),trivial⟩
   refine ag (wc_ (ab (mV (k:=?_))))
   have hc59:=hr52.capz
   refine seR 1 [_,_,_,_] λΓ55 hl56 hr57=>?_
   have hs58:=hr52.sl hl56 hr57
   obtain⟨z60,hz61,h⟩:=bnd h
   refine ecV [] (caV call119) (λw hp=>t_frame_All hs58 hc59 hp hz61) ?_
   rintro Γ62 _ _ hl63 ⟨A66,c67,row68,rfl,rfl,hr69,hr70,hr71,_⟩
   refine cwV 48 [_,_,_,_,_] (mV (k:=sV exV (k:=sV exV (k:=sV exV (k:=aV (k:=aV (k:=aV (k:=?_))))))))
   refine aa (ab (mV (k:=mV (k:=sV (q_len_slice rfl underlying77) (k:=sV q_eql (k:=aV (k:=aa ?_)))))))
   refine ab (mV (k:=sV nlV (k:=sV (q_fl 0 fld_150_0) (k:=sV (ldaV 3 [.pointer (some ⟨el.2,0,none⟩),.string o22.place_name,ii o22.place_gen] isAgg141 sizeOf141) (k:=mV (k:=mV (k:=?_)))))))
   obtain⟨z72,hz73,h⟩:=bnd h
   refine ecV [1] (caV call86) (λw hp=>t_seglog_place_shorten (gp__0:=el.2) o22.place_name ho0_36 o22.place_gen ho1_36 z40 (of_decide_eq_true hk42) z60.2.1 hr70 (ho27.mono ((hl46.trans hl56).trans hl63)) hp hz73) ?_
   rintro Γ74 _ _ hl75 ⟨row78,rfl,rfl,hr79,_⟩
   refine cwV 62 [_,_,_,_,_] (aa (ab (mV (k:=mV (k:=?_)))))
   obtain⟨hk80,h⟩:=chk_some h
   refine apV 4 z60.1 elem_103 (ho20.mono (((hl46.trans hl56).trans hl63).trans hl75)) (of_decide_eq_true hk80) (λw hw=>src_own (i:=1) rfl (hr69.mono hl75) hw) ?_
   intro row81 A82 c83 ho84
   refine aV (k:=aa (ab (mV (k:=mV (k:=mV (k:=sV nlV (k:=sV (q_fl 4 fld_150_2) (k:=?_))))))))
   refine sV (ldV 3 isAgg2) (k:=sV q_add (k:=mV (k:=sV nlV (k:=sV (q_fl 4 fld_150_2) (k:=stV 3 (ii (w64 (o22.last+1))) #[.pointer (some ⟨el.2,0,none⟩),.string o22.place_name,ii o22.place_gen,ii o22.size,ii (w64 (o22.last+1)),ii o22.tail,ii o22.count,ii o22.bytes] sizeOf2 (k:=sV nlV (k:=sV (q_fl 5 fld_150_3) (k:=?_))))))))
   refine stV 3 (ii z60.2.1) #[.pointer (some ⟨el.2,0,none⟩),.string o22.place_name,ii o22.place_gen,ii o22.size,ii (w64 (o22.last+1)),ii z60.2.1,ii o22.count,ii o22.bytes] sizeOf3 (k:=aa ?_)
   refine ah ?_
   refine mV (k:=sV nlV (k:=sV (q_fl 7 fld_150_5) (k:=sV (ldV 3 isAgg3) (k:=mV (k:=sV q_add (k:=sV nlV (k:=sV (q_fl 7 fld_150_5) (k:=?_))))))))
   refine stV 3 (ii (w64 (o22.bytes+z60.2.1))) #[.pointer (some ⟨el.2,0,none⟩),.string o22.place_name,ii o22.place_gen,ii o22.size,ii (w64 (o22.last+1)),ii z60.2.1,ii o22.count,ii (w64 (o22.bytes+z60.2.1))] sizeOf3 (k:=?_)
   refine ae ?_
   intro w hw
   obtain⟨row_85,hrow_85,hob_85⟩:∃rw:Rowb,rw=([[(gl,.cells #[.pointer (some ⟨el.2,0,none⟩),.string o22.place_name,ii o22.place_gen,ii o22.size,ii (w64 (o22.last+1)),ii z60.2.1,ii o22.count,ii (w64 (o22.bytes+z60.2.1))] el.1 (0,0))]]:List Rowb).flatten∧Oseglog_Log.ob el Γ74 gl rw (⟨o22.place_name,o22.place_gen,o22.size,(w64 (o22.last+1)),z60.2.1,o22.count,(w64 (o22.bytes+z60.2.1))⟩:Oseglog_Log):=⟨_,rfl,rfl,ho0_36,ho1_36,ho2_36,(w64_r _),hr70,ho5_36,(w64_r _),trivial⟩
   have hw:=hw.fold (is:=[3]) rfl hrow_85
   exact⟨((out_16++z60.1),(z60.2.1==(z43.1.length:Int)),(⟨o22.place_name,o22.place_gen,o22.size,(w64 (o22.last+1)),z60.2.1,o22.count,(w64 (o22.bytes+z60.2.1))⟩:Oseglog_Log),z72),h,Γ74,A82,c83,row81,row_85,row78,slK,(hw.on [4,0,0]),((((hl15.trans hl46).trans hl56).trans hl63).trans hl75),ho84,hob_85,hr79,trivial⟩
  refine aj ?_
  intro w hw
  have hw:=hw.fold (is:=[0]) rfl hrow_36
  exact⟨out_16,o22,o25,Γ14,A17,c18,row19,row23,row26,h,slK,(hw.on [1,0,0]),hl15,ho20,ho24,ho27,trivial⟩
 rintro σ w ⟨out_3,o8,o11,Γ1,A4,c5,row6,row9,row12,h,hsl,hw,hl2,ho7,ho10,ho13,-⟩
 refine slV hsl hw [_,_,_] ?_; clear hw hsl
 refine ab (mV (k:=mV (k:=sV (q_len_slice rfl underlying103) (k:=sV nlV (k:=sV (q_fl 6 fld_150_4) (k:=?_))))))
 obtain⟨hrow_87,ho0_87,ho1_87,ho2_87,ho3_87,ho4_87,ho5_87,ho6_87,-⟩:=id ho10
 refine ufR 1 hrow_87 [_,_,_] ?_
 refine stV 0 (ii (out_3.length:Int)) #[.pointer (some ⟨el.2,0,none⟩),.string o8.place_name,ii o8.place_gen,ii o8.size,ii o8.last,ii o8.tail,ii (out_3.length:Int),ii o8.bytes] sizeOf3 (k:=aa (ab (mV (k:=aV (k:=aa ?_)))))
 refine af ?_
 intro w hw
 obtain⟨row_88,hrow_88,hob_88⟩:∃rw:Rowb,rw=([[(gl,.cells #[.pointer (some ⟨el.2,0,none⟩),.string o8.place_name,ii o8.place_gen,ii o8.size,ii o8.last,ii o8.tail,ii (out_3.length:Int),ii o8.bytes] el.1 (0,0))]]:List Rowb).flatten∧Oseglog_Log.ob el Γ1 gl rw (⟨o8.place_name,o8.place_gen,o8.size,o8.last,o8.tail,(out_3.length:Int),o8.bytes⟩:Oseglog_Log):=⟨_,rfl,rfl,ho0_87,ho1_87,ho2_87,ho3_87,ho4_87,(len_r ho7.le),ho6_87,trivial⟩
 have hw:=hw.fold (is:=[0]) rfl hrow_88
 cases h
 subst hF
 exact end_e (is:=[0,1,0]) (by kernel_rfl) hw rfl ⟨row_88,row12,A4,c5,row6,rfl,rfl,hob_88,ho13,ho7,trivial⟩
abbrev r_seglog_Open_2(gb0:Nat)(gb0v:Nat)(eb0v:Nat×Nat)(b0v:Oseglog_Log)(rowb0v:Rowb)(r:Bool)(U:List Rowb)(Γ:Gh)(v:Value):Prop:=v = .bool r∧U = [[(gb0,.cells #[.pointer (some ⟨gb0v,0,none⟩)] 102 (0,0))],rowb0v]∧True
theorem t_seglog_Open_2(a0:Int)(ha0:I64 a0)(n:Int)(hn:I64 n){gb0:Nat}{gb0v:Nat}{eb0v:Nat×Nat}{rowb0v:Rowb}{b0v:Oseglog_Log}(hb0v:Oseglog_Log.ob eb0v Γ gb0v rowb0v b0v)(hp:Pre [[(gb0,.cells #[(pq gb0v)] 102 (0,0))],rowb0v] Γ w0){r:Bool}(h:m_seglog_Open_2 a0 n b0v=some r):Calls Tryz.prog 91 #[ii a0,ii n,(pq gb0)] w0 (Outc Γ [[(gb0,.cells #[(pq gb0v)] 102 (0,0))],rowb0v] w0 (r_seglog_Open_2 gb0 gb0v eb0v b0v rowb0v r)):=by
 refine goV [5] func91 ntmps91 results91 hp λF hF=>?_
 refine ab (aV (k:=aa (ab (mV (k:=sV (ldV 0 isAgg102) (k:=sV nlV (k:=sV (q_fl 4 fld_150_2) (k:=?_))))))))
 obtain⟨hrow_1,ho0_1,ho1_1,ho2_1,ho3_1,ho4_1,ho5_1,ho6_1,-⟩:=id hb0v
 refine ufR 1 hrow_1 [_,_] ?_
 refine sV (ldV 0 isAgg2) (k:=sV q_gtr (k:=aV (k:=aa ?_)))
 refine af ?_
 intro w hw
 have hw:=hw.fold (is:=[0]) rfl hrow_1
 exact re_ r [1,0] h hF hw ⟨rfl,rfl,trivial⟩
abbrev r_disk_Disk_Sync(gd:Nat)(ed:Nat)(r:Odisk_Disk)(U:List Rowb)(Γ:Gh)(v:Value):Prop := ∃(rowd':Rowb),v = .tuple #[]∧U = [rowd']∧Odisk_Disk.ob ed Γ gd rowd' r∧True
theorem t_disk_Disk_Sync{gd ed:Nat}{rowd:Rowb}{d:Odisk_Disk}(hd:Odisk_Disk.ob ed Γ gd rowd d)(hp:Pre [rowd] Γ w0){r:Odisk_Disk}(h:m_disk_Disk_Sync d=some r):Calls Tryz.prog 92 #[(pq gd)] w0 (Outc Γ [rowd] w0 (r_disk_Disk_Sync gd ed r)):=by
 refine goV [] func92 ntmps92 results92 hp λF hF=>?_
 refine ab (mV (k:=mV (k:=sV nlV (k:=sV (q_fl 2 fld_67_2) (k:=?_)))))
 obtain⟨m1_1,r1_1,m2_1,r2_1,A3_1,c3_1,r3_1,hrow_1,ho0_1,ho1_1,ho2_1,ho3_1,-⟩:=id hd
 refine ufR 0 hrow_1 [_,_,_,_] ?_
 refine sV (ldV 0 isAgg64) (k:=?_)
 refine e_clone clone49 (i:=2) rfl ho2_1 rfl rfl (caV call49) ?_
 intro g2 row3 hm4
 refine cwV 7 [_,_,_,_,_] (sV nlV (k:=sV (q_fl 1 fld_67_1) (k:=stV 1 (.map (some g2)) #[ii d.room,.map (some g2),.map (some m2_1),.slice A3_1 d.loose.length c3_1] sizeOf64 (k:=aa ?_))))
 refine ah ?_
 refine mV (k:=sV nlV (k:=sV (q_fl 3 fld_67_3) (k:=stV 1 (.slice none 0 0) #[ii d.room,.map (some g2),.map (some m2_1),.slice none 0 0] sizeOf65 (k:=?_))))
 refine ae ?_
 intro w hw
 have hw:=hw.pad
 obtain⟨row_5,hrow_5,hob_5⟩:∃rw:Rowb,rw=([[(gd,.cells #[ii d.room,.map (some g2),.map (some m2_1),.slice none 0 0] ed (0,0))],row3,r2_1,[]]:List Rowb).flatten∧Odisk_Disk.ob ed Γ gd rw (⟨d.room,d.seen,d.seen,[]⟩:Odisk_Disk):=⟨_,rfl,g2,row3,m2_1,r2_1,none,0,[],rfl,ho0_1,hm4,ho2_1,(Own.nil ddisk_changeT Γ 96),trivial⟩
 have hw:=hw.fold (is:=[2,1,2,0]) rfl hrow_5
 cases h
 subst hF
 exact end_e (is:=[0]) (by kernel_rfl) hw rfl ⟨row_5,rfl,rfl,hob_5,trivial⟩
abbrev r_seglog_Open(gd:Nat)(ed:Nat)(r:Odisk_Disk×(Option Oseglog_Log)×(List (List UInt8))×Int)(U:List Rowb)(Γ:Gh)(v:Value):Prop := ∃(rowd':Rowb), ∃(g0:Nat), ∃(row0:Rowb), ∃(A1:Option Addr), ∃(c1:Nat), ∃(row1:Rowb),v = .tuple #[optp r.2.1 g0,.slice A1 r.2.2.1.length c1,.int .i64 r.2.2.2]∧U = [rowd',row0,row1]∧Odisk_Disk.ob ed Γ gd rowd' r.1∧optob (Oseglog_Log.ob (150,gd) Γ g0) row0 r.2.1∧Own (slT byteT) Γ 77 row1 A1 c1 r.2.2.1∧I64 r.2.2.2∧True
theorem t_seglog_Open{gd ed:Nat}{rowd:Rowb}{d:Odisk_Disk}(hd:Odisk_Disk.ob ed Γ gd rowd d)(name:ByteArray)(hname:name.size≤lim)(size:Int)(hsize:I64 size)(hp:Pre [rowd] Γ w0){r:Odisk_Disk×(Option Oseglog_Log)×(List (List UInt8))×Int}(h:m_seglog_Open d name size=some r):Calls Tryz.prog 53 #[(pq gd),.string name,ii size] w0 (Outc Γ [rowd] w0 (r_seglog_Open gd ed r)):=by
 refine goV [6,7,8] func53 ntmps53 results53 hp λF hF=>?_
 refine ab (aV (k:=aV (k:=aV (k:=aa (ac (ab (mV (k:=?_))))))))
 refine sV (q_len_str rfl underlying9) (k:=sV q_lss (k:=mV (k:=vG0 (h:=λhg1=>moV) (k:=vG0 (h:=λhg2=>q_len_str rfl underlying9 (grV hg2)) (k:=vG0 (h:=λhg3=>q_gtr rfl (grV hg3)) (k:=sV pkO (k:=mV (k:=?_))))))))
 refine vG0 (h:=λhg4=>moV) (k:=?_)
 obtain⟨z6,hz7,h⟩:=bnd h
 refine vC0 (h:=λhg5=>q_call (call_run call83 rfl rfl (args2 (grV hg5) rfl)) (λw hw=>t_strings_Contains (Γ:=Gh.all w) name hname (Sat.all w) (gc_of hz7 hg5))) (k:=sV pkO (k:=aa ?_))
 refine ciV h (λhb8 h=>?_) (λhb8 h=>?_)
 ·
  refine ab (aV (k:=aV (k:=aV (k:=aa ?_))))
  refine af ?_
  intro w hw
  have hw:=hw.pad
  have hw:=hw.pad
  exact re_ r [2,1,0] h hF hw ⟨rowd,0,[],none,0,[],rfl,rfl,hd,rfl,(Own.nil (slT byteT) _ 77),iV,trivial⟩
 refine ag (wc_ (ab (mV (k:=mV (k:=sV (q_build' (v:=.agg #[(pq gd),.string name,ii 0]) rfl (bargs2 rfl rfl) (λw=>by kernel_rfl)) (k:=?_))))))
 refine alV zeroValue141 λg9=>?_
 refine stV 0 (.agg #[(pq gd),.string name,ii 0]) #[(pq gd),.string name,ii 0] sizeOf141 (k:=aa (ab (sV (ldaV 0 [(pq gd),.string name,ii 0] isAgg141 sizeOf141) (k:=?_))))
 obtain⟨z10,hz11,h⟩:=bnd h
 refine ecV [1] (caV call84) (λw hp=>t_seglog_place_holds (gp__0:=gd) name hname 0 iV hd hp hz11) ?_
 rintro Γ12 _ _ hl13 ⟨rfl,rfl,hr16,hr17,hr18,_⟩
 refine cwV 33 [_,_] (mV (k:=sV exV (k:=sV exV (k:=sV exV (k:=?_)))))
 refine alV zeroValue2 λg19=>?_
 refine stV 0 (ii z10.1) #[ii z10.1] sizeOf2 (k:=aV (k:=aV (k:=aa (ac (ab (mV (k:=sV q_neq (k:=?_))))))))
 refine aa ?_
 refine ciV h (λhb20 h=>?_) (λhb20 h=>?_)
 ·
  refine ab (mV (k:=aV (k:=aV (k:=aV (k:=aa ?_)))))
  refine af ?_
  intro w hw
  have hw:=hw.pad
  have hw:=hw.pad
  exact re_ r [3,1,0] h hF hw ⟨rowd,0,[],none,0,[],rfl,rfl,(hd.mono hl13),rfl,(Own.nil (slT byteT) _ 77),hr18,trivial⟩
 refine ag (wc_ (ab (sV (ldV 0 isAgg2) (k:=sV (q_fl 2 fld_141_2) (k:=stV 2 (ii z10.1) #[(pq gd),.string name,ii z10.1] sizeOf2 (k:=aa (ab ?_)))))))
 refine mV (k:=?_)
 obtain⟨z21,hz22,h⟩:=bnd h
 refine vqV (caV call85) (λw hw=>t_disk_Disk_Loose (Γ:=Gh.all w) ((hd.mono hl13).mono hw.sat.le_all) (hw.ra 1 rfl) (Sat.all w) hz22) (k:=aV (k:=aa (ac ?_)))
 refine leV λh023=>?_
 refine held_ (CC F Γ12 [[(g19,.cells #[ii z10.1] 2 (0,0))],[(g9,.cells #[(pq gd),.string name,ii z10.1] 141 (0,0))]]) (bo_ [0,1] gR h023) λk=>?_
 change WH _ _ _ _ (CC F Γ12 [_,_,_]) _ 5 _ _
 refine hV 0 k (q:=ldaV 1 [(pq gd),.string name,ii z10.1] isAgg141 sizeOf141) (k:=hV 1 k (q:=ldaV 1 [(pq gd),.string name,ii z10.1] isAgg141 sizeOf141) (k:=hV 3 k (q:=moV) (k:=wl_ 2 rfl ?_)))
 obtain⟨z24,hz25,h⟩:=bnd h
 refine vqV (caV call87) (λw hw=>t_seglog_place_list (Γ:=Gh.all w) (gp__0:=gd) name hname z10.1 hr16 (Sat.all w) hz25) (k:=?_)
 refine ae (nxV (bo_ [0,1] gR h023) λk=>?_)
 refine wl_ 4 rfl ?_
 obtain⟨hk26,h⟩:=chk_some h
 obtain⟨z27,hz28,h⟩:=bnd h
 refine ecV [1] (caV call86) (λw hp=>t_seglog_place_shorten (gp__0:=gd) name hname z10.1 hr16 z24 (of_decide_eq_true hk26) z10.2.1 hr17 (hd.mono hl13) hp hz28) ?_
 rintro Γ29 _ _ hl30 ⟨row33,rfl,rfl,hr34,_⟩
 refine cwV 48 [_,_,_] ?_
 refine ae (nxV (bo_ [1,1] hl30 h023) λk=>?_)
 refine am (by kernel_rfl) ?_
 change WC _ _ _ _ _ _
 refine ab (sV (ldaV 2 [(pq gd),.string name,ii z10.1] isAgg141 sizeOf141) (k:=sV (q_mkfn (v:=.func (.func 89) #[] #[(pq g19)]) rfl (by kernel_rfl)) (k:=?_)))
 obtain⟨rowT35,hT36⟩:∃r:Rowb,r=([[(g19,.cells #[ii z10.1] 2 (0,0))]]:List Rowb).flatten:=⟨_,rfl⟩
 refine WR.sub (λw hw=>hw.fold (is:=[1]) rfl hT36) ?_
 obtain⟨z37,hz38,h⟩:=bnd h
 refine ecV [1,0] (caV call88) (λw hp=>t_seglog_place_remove (caps:=#[(pq g19)]) hr34 name hname z10.1 hr16 (λx y=>m_seglog_Open_1 x y z10.1) (λ{Γq_ wq_} x hx y hy hle hp2 {_} hq=>Calls.mono (t_seglog_Open_1 (Γ:=Γq_) x hx y hy z10.1 hr16 (by subst hT36; exact hp2.parts) hq) (λe w2 ho=>Outc.quiet (by subst hT36; exact hp2.parts) ho (λ_ _ _ hr=>⟨hr.1,hr.2.1⟩))) call89 hp hz38) ?_
 rintro Γ39 _ _ hl40 ⟨row43,rfl,rfl,hd44⟩
 refine cwV 51 [_,_,_] ?_
 refine WR.sub (λw hw=>hw.unfold (i:=1) rfl hT36) ?_
 change WR _ _ _ (CC F Γ39 [_,_,_]) _ _ _
 refine aa (ab (sV (ldaV 2 [(pq gd),.string name,ii z10.1] isAgg141 sizeOf141) (k:=mV (k:=sV q_max (k:=sV (q_build' (v:=.agg #[(pq gd),.string name,ii z10.1,ii (max size 16),ii 0,ii 0,ii 0,ii 0]) rfl (bargs2 rfl rfl) (λw=>by kernel_rfl)) (k:=?_))))))
 refine bxV (v:=.agg #[(pq gd),.string name,ii z10.1,ii (max size 16),ii 0,ii 0,ii 0,ii 0]) λg45=>?_
 refine alV zeroValue102 λg46=>?_
 refine stV 0 ((pq g45)) #[(pq g45)] sizeOf102 (k:=aa (ab (sV (ldV 0 isAgg102) (k:=?_))))
 obtain⟨row_47,hrow_47,hob_47⟩:∃rw:Rowb,rw=([[(g45,.cells #[(pq gd),.string name,ii z10.1,ii (max size 16),ii 0,ii 0,ii 0,ii 0] 150 (0,0))]]:List Rowb).flatten∧Oseglog_Log.ob (150,gd) Γ39 g45 rw (⟨name,z10.1,(max size 16),0,0,0,0⟩:Oseglog_Log):=⟨_,rfl,rfl,hname,hr16,(max_r hsize iV),iV,iV,iV,iV,trivial⟩
 refine foR [1] hrow_47 [_,_,_,_,_] ?_
 obtain⟨z48,hz49,h⟩:=bnd h
 refine ecV [0,2] (caV call90) (λw hp=>t_seglog_Log_scan hob_47 hd44 hp hz49) ?_
 rintro Γ50 _ _ hl51 ⟨row54,row56,A58,c59,row60,rfl,rfl,hr55,hr57,hr61,_⟩
 refine cwV 58 [_,_,_,_,_,_] (aV (k:=aa (ab (sV (ldaV 5 [(pq gd),.string name,ii z10.1] isAgg141 sizeOf141) (k:=sV (q_mkfn (v:=.func (.func 91) #[] #[(pq g46)]) rfl (by kernel_rfl)) (k:=?_))))))
 obtain⟨rowT62,hT63⟩:∃r:Rowb,r=([[(g46,.cells #[(pq g45)] 102 (0,0))],row54]:List Rowb).flatten:=⟨_,rfl⟩
 refine WR.sub (λw hw=>hw.fold (is:=[3,0]) rfl hT63) ?_
 obtain⟨z64,hz65,h⟩:=bnd h
 refine ecV [1,0] (caV call88) (λw hp=>t_seglog_place_remove (caps:=#[(pq g46)]) hr57 name hname z10.1 hr16 (λx y=>m_seglog_Open_2 x y z48.1) (λ{Γq_ wq_} x hx y hy hle hp2 {_} hq=>Calls.mono (t_seglog_Open_2 (Γ:=Γq_) x hx y hy (hr55.mono hle) (by subst hT63; exact hp2.parts) hq) (λe w2 ho=>Outc.quiet (by subst hT63; exact hp2.parts) ho (λ_ _ _ hr=>⟨hr.1,hr.2.1⟩))) call91 hp hz65) ?_
 rintro Γ66 _ _ hl67 ⟨row70,rfl,rfl,hd71⟩
 refine cwV 61 [_,_,_,_,_] ?_
 refine WR.sub (λw hw=>hw.unfold (i:=1) rfl hT63) ?_
 change WR _ _ _ (CC F Γ66 [_,_,_,_,_,_]) _ _ _
 refine aa ?_
 refine ar (λσ w => ∃(o74:Odisk_Disk), ∃(Γ72:Gh), ∃(row75:Rowb),m_seglog_Open_j1 z48 o74=some r∧slots σ [(14,(pq g46)),(15,.slice A58 z48.2.2.length c59)]∧CC F Γ72 [[(g46,.cells #[(pq g45)] 102 (0,0))],row54,row75,row60] w∧Gh.le Γ66 Γ72∧Odisk_Disk.ob ed Γ72 gd row75 o74∧True) ?_ ?_
 ·
  refine ab (mV (k:=?_))
  obtain⟨z77,hz78,h⟩:=bnd h
  refine vqV (caV call85) (λw hw=>t_disk_Disk_Loose (Γ:=Gh.all w) (hd71.mono hw.sat.le_all) (hw.ra 2 rfl) (Sat.all w) hz78) (k:=mV (k:=sV q_neq (k:=aa ?_)))
  refine ciV h (λhb79 h=>?_) (λhb79 h=>?_)
  ·
   refine ah ?_
   refine mV (k:=?_)
   obtain⟨z80,hz81,h⟩:=bnd h
   refine ecV [2] (caV call92) (λw hp=>t_disk_Disk_Sync hd71 hp hz81) ?_
   rintro Γ82 _ _ hl83 ⟨row86,rfl,rfl,hr87,_⟩
   refine cwV 67 [_,_,_,_,_,_] ?_
   exact ae λw hw=>⟨z80,Γ82,row86,h,slK,(hw.on [1,1,0,0]),hl83,hr87,trivial⟩
  exact ag λw hw=>⟨z64,Γ66,row70,h,slK,(hw.on [0,0,0,0]),gR,hd71,trivial⟩
 rintro σ w ⟨o74,Γ72,row75,h,hsl,hw,hl73,ho76,-⟩
 refine slV hsl hw [_,_,_,_] ?_; clear hw hsl
 refine ab (sV (ldV 0 isAgg102) (k:=mV (k:=aV (k:=aV (k:=aV (k:=aa ?_))))))
 exact af λw hw=>re_ r [2,1,1] h hF hw ⟨row75,g45,row54,A58,c59,row60,rfl,rfl,ho76,(hr55.mono (hl67.trans hl73)),(hr61.mono (hl67.trans hl73)),iV,trivial⟩
theorem t_num_Text{Ab:Option Addr}{cb:Nat}{b:List UInt8}(hb:Sl byteT Γ Ab b)(hbc:b.length≤cb)(at_:Int)(hat_:I64 at_)(most:Int)(hmost:I64 most)(hs:Sat Γ w0){r:ByteArray×Int×Int}(h:m_num_Text b at_ most=some r):CQ Tryz.prog 162 #[.slice Ab b.length cb,ii at_,ii most] w0 (.tuple #[.string r.1,ii r.2.1,ii r.2.2]):=by
 refine goQ [6,7,8] func162 ntmps162 results162 hs λF hF=>?_
 refine ab (aV (k:=aV (k:=aV (k:=aa (ab (mV (k:=mV (k:=?_))))))))
 obtain⟨z1,hz2,h⟩:=bnd h
 refine vqV (caV call120) (λw hw=>t_num_Num (Γ:=Gh.all w) (hb.mono hw.sat.le_all) hbc at_ hat_ (Sat.all w) hz2) (k:=mV (k:=sV exV (k:=sV exV (k:=sV exV (k:=aV (k:=aV (k:=aV (k:=?_))))))))
 refine aa (ac (ai (ab (mV (k:=sV q_neq (k:=aV (k:=aa ?_)))))))
 refine ciV h (λhb3 h=>?_) (λhb3 h=>?_)
 ·
  refine ab (mV (k:=aV (k:=aV (k:=aV (k:=aa ?_)))))
  exact af λw hw=>by obtain rfl:=Option.some.inj h; exact⟨by kernel_rfl,fr_ hF hw⟩
 refine ab (mV (k:=mV (k:=sV q_max (k:=sV q_gtr (k:=aV (k:=aa ?_))))))
 refine ciV h (λhb4 h=>?_) (λhb4 h=>?_)
 ·
  refine ab (aV (k:=aV (k:=aV (k:=aa ?_))))
  exact af λw hw=>by obtain rfl:=Option.some.inj h; exact⟨by kernel_rfl,fr_ hF hw⟩
 refine ab (mV (k:=mV (k:=sV (q_len_slice rfl underlying77) (k:=mV (k:=sV q_sub (k:=sV q_gtr (k:=aV (k:=?_))))))))
 refine aa ?_
 refine ciV h (λhb5 h=>?_) (λhb5 h=>?_)
 ·
  refine ab (aV (k:=aV (k:=aV (k:=aa ?_))))
  exact af λw hw=>by obtain rfl:=Option.some.inj h; exact⟨by kernel_rfl,fr_ hF hw⟩
 refine ag (wc_ (ab (mV (k:=mV (k:=mV (k:=mV (k:=sV q_add (k:=?_))))))))
 obtain⟨hk6,h⟩:=chk_some h
 obtain⟨hk7,h⟩:=chk_some h
 obtain⟨hk8,h⟩:=chk_some h
 refine sV (q_cut (c:=cb) (lo:=z1.2.1.toNat) (hi:=(w64 (z1.2.1+z1.1)).toNat) (xs:=b) underlying77 sizeOf5 rfl rfl (nn_eq rfl hk7) (inle_eq rfl hk6) (of_decide_eq_true hk8) (inle_le hk6) hbc) (k:=sV (q_bstr (hb.cut (cap:=cb) (lo:=z1.2.1.toNat) (hi:=(w64 (z1.2.1+z1.1)).toNat) (of_decide_eq_true hk8) (inle_le hk6) hbc) underlying77 underlying5 underlying9 rfl rfl) (k:=mV (k:=mV (k:=sV q_add (k:=aV (k:=aV (k:=aV (k:=?_))))))))
 refine aa ?_
 exact af λw hw=>by obtain rfl:=Option.some.inj h; exact⟨by kernel_rfl,fr_ hF hw⟩
abbrev r_code_reader_text(gr_:Nat)(er_:Nat)(r:Ocode_reader×ByteArray)(U:List Rowb)(Γ:Gh)(v:Value):Prop := ∃(rowr_':Rowb),v = .string r.2∧U = [rowr_']∧Ocode_reader.ob er_ Γ gr_ rowr_' r.1∧r.2.size≤lim∧True
theorem t_code_reader_text{gr_ er_:Nat}{rowr_:Rowb}{r_:Ocode_reader}(hr_:Ocode_reader.ob er_ Γ gr_ rowr_ r_)(hp:Pre [rowr_] Γ w0){r:Option (Ocode_reader×ByteArray)}(h:m_code_reader_text r_=some r):Calls Tryz.prog 126 #[(pq gr_)] w0 (OutcT [{ v:=(.iface 192 (.agg #[])),recovered:=false }] Γ [rowr_] w0 (λr=>r_code_reader_text gr_ er_ r) r):=by
 refine goV [2] func126 ntmps126 results126 hp λF hF=>?_
 refine ab (aV (k:=aa (ac ?_)))
 obtain⟨A0_1,c0_1,hrow_1,ho0_1,ho1_1,ho2_1,-⟩:=id hr_
 refine ufC 0 hrow_1 [_] ?_
 refine drV ?_
 refine zV moV (k:=zV nlV (k:=zV (q_fl 0 fld_194_0) (k:=zV (ldV 0 isAgg77) (k:=zV moV (k:=zV nlV (k:=zV (q_fl 1 fld_194_1) (k:=zV (ldV 0 isAgg3) (k:=?_))))))))
 refine zV moV (k:=zV nlV (k:=zV (q_fl 0 fld_194_0) (k:=zV (ldV 0 isAgg77) (k:=zV (q_len_slice rfl underlying77) (k:=?_)))))
 obtain⟨z2,hz3,h⟩:=bnd h
 refine wc rfl rfl rfl (q_call (caV call162) (λw hw=>t_num_Text (Γ:=Gh.all w) (ho1_1.mono hw.sat.le_all) ho0_1 r_.at_ ho2_1 (r_.b.length:Int) (len_r ho1_1.le) (Sat.all w) hz3)) (zV moV (k:=zV exV (k:=zV exV (k:=zV exV (k:=zV aoV (k:=zV aoV (k:=zV aoV (k:=?_))))))))
 refine ao ?_
 change WC _ _ _ _ _ _
 refine foC [0] hrow_1 [_] ?_
 refine ar (λσ w=>m_code_reader_text_j1 r_ z2  = some r∧slots σ [(0,(pq gr_)),(3,.string z2.1),(4,ii z2.2.1)]∧CC F Γ [rowr_] w∧True) ?_ ?_
 ·
  refine ab (mV (k:=sV q_neq (k:=aa ?_)))
  refine ciV h (λhb5 h=>?_) (λhb5 h=>?_)
  ·
   refine ah ?_
   refine sV (q_build (v:=.agg #[]) rfl (λw=>by kernel_rfl)) (k:=sV (q_iface rfl rfl (λw=>mkif underlying192 w)) (k:=?_))
   refine e_panic (v:=.iface 192 (.agg #[])) rfl (run_panicop rfl rfl) ?_
   intro w hw
   cases h
   subst hF
   first | exact end_t hw | exact λ_=>end_t hw
  exact ag λw hw=>⟨h,slK,hw,trivial⟩
 rintro σ w ⟨h,hsl,hw,-⟩
 refine slV hsl hw [_] ?_; clear hw hsl
 refine ab (mV (k:=mV (k:=sV nlV (k:=sV (q_fl 1 fld_194_1) (k:=?_)))))
 obtain⟨A0_8,c0_8,hrow_8,ho0_8,ho1_8,ho2_8,-⟩:=id hr_
 refine ufR 0 hrow_8 [_] ?_
 refine stV 0 (ii z2.2.1) #[.slice A0_8 r_.b.length c0_8,ii z2.2.1] sizeOf3 (k:=aa (ab (mV (k:=aV (k:=aa ?_)))))
 refine af ?_
 intro w hw
 obtain⟨hk10,h⟩:=chk_some h
 obtain⟨row_9,hrow_9,hob_9⟩:∃rw:Rowb,rw=([[(gr_,.cells #[.slice A0_8 r_.b.length c0_8,ii z2.2.1] er_ (0,0))]]:List Rowb).flatten∧Ocode_reader.ob er_ Γ gr_ rw (⟨r_.b,z2.2.1⟩:Ocode_reader):=⟨_,rfl,A0_8,c0_8,rfl,ho0_8,ho1_8,(i64b_of hk10),trivial⟩
 have hw:=hw.fold (is:=[0]) rfl hrow_9
 obtain⟨hk11,h⟩:=chk_some h
 cases h
 subst hF
 exact end_e (is:=[0]) (by kernel_rfl) hw rfl ⟨row_9,rfl,rfl,hob_9,(of_decide_eq_true hk11),trivial⟩
abbrev r_code_reader_num(gr_:Nat)(er_:Nat)(r:Ocode_reader×Int)(U:List Rowb)(Γ:Gh)(v:Value):Prop := ∃(rowr_':Rowb),v = .int .i64 r.2∧U = [rowr_']∧Ocode_reader.ob er_ Γ gr_ rowr_' r.1∧I64 r.2∧True
theorem t_code_reader_num{gr_ er_:Nat}{rowr_:Rowb}{r_:Ocode_reader}(hr_:Ocode_reader.ob er_ Γ gr_ rowr_ r_)(hp:Pre [rowr_] Γ w0){r:Option (Ocode_reader×Int)}(h:m_code_reader_num r_=some r):Calls Tryz.prog 163 #[(pq gr_)] w0 (OutcT [{ v:=(.iface 192 (.agg #[])),recovered:=false }] Γ [rowr_] w0 (λr=>r_code_reader_num gr_ er_ r) r):=by
 refine goV [2] func163 ntmps163 results163 hp λF hF=>?_
 refine ab (aV (k:=aa (ac ?_)))
 obtain⟨A0_1,c0_1,hrow_1,ho0_1,ho1_1,ho2_1,-⟩:=id hr_
 refine ufC 0 hrow_1 [_] ?_
 refine drV ?_
 refine zV moV (k:=zV nlV (k:=zV (q_fl 0 fld_194_0) (k:=zV (ldV 0 isAgg77) (k:=zV moV (k:=zV nlV (k:=zV (q_fl 1 fld_194_1) (k:=zV (ldV 0 isAgg3) (k:=?_))))))))
 obtain⟨z2,hz3,h⟩:=bnd h
 refine wc rfl rfl rfl (q_call (caV call120) (λw hw=>t_num_Num (Γ:=Gh.all w) (ho1_1.mono hw.sat.le_all) ho0_1 r_.at_ ho2_1 (Sat.all w) hz3)) (zV moV (k:=zV exV (k:=zV exV (k:=zV exV (k:=zV aoV (k:=zV aoV (k:=zV aoV (k:=?_))))))))
 refine ao ?_
 change WC _ _ _ _ _ _
 refine foC [0] hrow_1 [_] ?_
 refine ar (λσ w=>m_code_reader_num_j1 r_ z2  = some r∧slots σ [(0,(pq gr_)),(3,ii z2.1),(4,ii z2.2.1)]∧CC F Γ [rowr_] w∧True) ?_ ?_
 ·
  refine ab (mV (k:=sV q_neq (k:=aa ?_)))
  refine ciV h (λhb5 h=>?_) (λhb5 h=>?_)
  ·
   refine ah ?_
   refine sV (q_build (v:=.agg #[]) rfl (λw=>by kernel_rfl)) (k:=sV (q_iface rfl rfl (λw=>mkif underlying192 w)) (k:=?_))
   refine e_panic (v:=.iface 192 (.agg #[])) rfl (run_panicop rfl rfl) ?_
   intro w hw
   cases h
   subst hF
   first | exact end_t hw | exact λ_=>end_t hw
  exact ag λw hw=>⟨h,slK,hw,trivial⟩
 rintro σ w ⟨h,hsl,hw,-⟩
 refine slV hsl hw [_] ?_; clear hw hsl
 refine ab (mV (k:=mV (k:=sV nlV (k:=sV (q_fl 1 fld_194_1) (k:=?_)))))
 obtain⟨A0_8,c0_8,hrow_8,ho0_8,ho1_8,ho2_8,-⟩:=id hr_
 refine ufR 0 hrow_8 [_] ?_
 refine stV 0 (ii z2.2.1) #[.slice A0_8 r_.b.length c0_8,ii z2.2.1] sizeOf3 (k:=aa (ab (mV (k:=aV (k:=aa ?_)))))
 refine af ?_
 intro w hw
 obtain⟨hk10,h⟩:=chk_some h
 obtain⟨row_9,hrow_9,hob_9⟩:∃rw:Rowb,rw=([[(gr_,.cells #[.slice A0_8 r_.b.length c0_8,ii z2.2.1] er_ (0,0))]]:List Rowb).flatten∧Ocode_reader.ob er_ Γ gr_ rw (⟨r_.b,z2.2.1⟩:Ocode_reader):=⟨_,rfl,A0_8,c0_8,rfl,ho0_8,ho1_8,(i64b_of hk10),trivial⟩
 have hw:=hw.fold (is:=[0]) rfl hrow_9
 obtain⟨hk11,h⟩:=chk_some h
 cases h
 subst hF
 exact end_e (is:=[0]) (by kernel_rfl) hw rfl ⟨row_9,rfl,rfl,hob_9,(i64b_of hk11),trivial⟩
abbrev r_code_reader_int(gr_:Nat)(er_:Nat)(r:Ocode_reader×Int)(U:List Rowb)(Γ:Gh)(v:Value):Prop := ∃(rowr_':Rowb),v = .int .i64 r.2∧U = [rowr_']∧Ocode_reader.ob er_ Γ gr_ rowr_' r.1∧I64 r.2∧True
theorem t_code_reader_int{gr_ er_:Nat}{rowr_:Rowb}{r_:Ocode_reader}(hr_:Ocode_reader.ob er_ Γ gr_ rowr_ r_)(hp:Pre [rowr_] Γ w0){r:Option (Ocode_reader×Int)}(h:m_code_reader_int r_=some r):Calls Tryz.prog 164 #[(pq gr_)] w0 (OutcT [{ v:=(.iface 192 (.agg #[])),recovered:=false }] Γ [rowr_] w0 (λr=>r_code_reader_int gr_ er_ r) r):=by
 refine goV [2] func164 ntmps164 results164 hp λF hF=>?_
 refine ab (aV (k:=aa (ab (mV (k:=?_)))))
 obtain⟨z1,hz2,h⟩:=bnd h
 rcases z1 with _ | o3
 ·
  have h:=optm_n rfl h
  refine e_callN (is:=[0]) rfl (caV call163) rfl (λw hp=>t_code_reader_num hr_ hp hz2) ?_
  intro Γ4 hl5
  intro w hw
  cases h
  subst hF
  first | exact end_t hw | exact λ_=>end_t hw
 have h:=optm_s rfl h
 refine ecV [0] (caV call163) (λw hp=>t_code_reader_num hr_ hp hz2) ?_
 rintro Γ6 _ _ hl7 ⟨row10,rfl,rfl,hr11,hr12,_⟩
 refine cwV 4 [_] (aV (k:=aa ?_))
 refine af ?_
 intro w hw
 cases h
 subst hF
 exact end_e (is:=[0]) (by kernel_rfl) hw rfl ⟨row10,rfl,rfl,hr11,hr12,trivial⟩
abbrev r_code_reader_span(gr_:Nat)(er_:Nat)(r:Ocode_reader×Span)(U:List Rowb)(Γ:Gh)(v:Value):Prop := ∃(rowr_':Rowb),v = .agg #[.int .i64 r.2.s,.int .i64 r.2.f,.int .i64 r.2.t]∧U = [rowr_']∧Ocode_reader.ob er_ Γ gr_ rowr_' r.1∧Span.fits Γ  r.2∧True
theorem t_code_reader_span{gr_ er_:Nat}{rowr_:Rowb}{r_:Ocode_reader}(hr_:Ocode_reader.ob er_ Γ gr_ rowr_ r_)(hp:Pre [rowr_] Γ w0){r:Option (Ocode_reader×Span)}(h:m_code_reader_span r_=some r):Calls Tryz.prog 166 #[(pq gr_)] w0 (OutcT [{ v:=(.iface 192 (.agg #[])),recovered:=false }] Γ [rowr_] w0 (λr=>r_code_reader_span gr_ er_ r) r):=by
 refine calls_of_r (N:=24) (rs:=[.cell 2 93]) (args:=[(pq gr_)]) func166 rfl ntmps166 results166 rfl ?_
 obtain⟨F,hF⟩:∃F:Fm,F=⟨ids [rowr_],w0,Γ⟩:=⟨_,rfl⟩
 refine aw (C:=CC F Γ [rowr_]) ?_ (hF▸hp.start)
 refine ab ?_
 refine alV zeroValue93 λg1=>?_
 refine aa (ab (mV (k:=?_)))
 obtain⟨z2,hz3,h⟩:=bnd h
 rcases z2 with _ | o4
 ·
  have h:=optm_n rfl h
  refine e_callN (is:=[1]) rfl (caV call164) rfl (λw hp=>t_code_reader_int hr_ hp hz3) ?_
  intro Γ5 hl6
  intro w hw
  cases h
  subst hF
  first | exact end_t hw | exact λ_=>end_t hw
 have h:=optm_s rfl h
 refine ecV [1] (caV call164) (λw hp=>t_code_reader_int hr_ hp hz3) ?_
 rintro Γ7 _ _ hl8 ⟨row11,rfl,rfl,hr12,hr13,_⟩
 refine cwV 5 [_,_] (sV (q_build' (v:=.agg #[ii o4.2,ii 0,ii 0]) rfl (bargs1 rfl) (λw=>by kernel_rfl)) (k:=?_))
 refine alV zeroValue93 λg14=>?_
 refine stV 0 (.agg #[ii o4.2,ii 0,ii 0]) #[ii o4.2,ii 0,ii 0] sizeOf93 (k:=aa (ab (mV (k:=?_))))
 obtain⟨z15,hz16,h⟩:=bnd h
 rcases z15 with _ | o17
 ·
  have h:=optm_n rfl h
  refine e_callN (is:=[1]) rfl (caV call163) rfl (λw hp=>t_code_reader_num hr12 hp hz16) ?_
  intro Γ18 hl19
  intro w hw
  cases h
  subst hF
  first | exact end_t hw | exact λ_=>end_t hw
 have h:=optm_s rfl h
 refine ecV [1] (caV call163) (λw hp=>t_code_reader_num hr12 hp hz16) ?_
 rintro Γ20 _ _ hl21 ⟨row24,rfl,rfl,hr25,hr26,_⟩
 refine cwV 8 [_,_,_] (sV (q_fl 1 fld_93_1) (k:=stV 1 (ii o17.2) #[ii o4.2,ii o17.2,ii 0] sizeOf2 (k:=aa ?_)))
 refine ar (λσ w => ∃(x29:Span), ∃(o31:Ocode_reader), ∃(Γ27:Gh), ∃(row32:Rowb),m_code_reader_span_j1 x29 o31=some r∧slots σ [(2,(pq g1)),(3,(pq g14))]∧CC F Γ27 [row32,[(g14,.cells (Span.cs x29).toArray 93 (0,0))],[(g1,.cells #[ii 0,ii 0,ii 0] 93 (0,0))]] w∧Gh.le Γ20 Γ27∧Span.fits Γ27  x29∧Ocode_reader.ob er_ Γ27 gr_ row32 o31∧True) ?_ ?_
 ·
  refine leV λh034=>?_
  refine held_ (CC F Γ20 [[(g1,.cells #[ii 0,ii 0,ii 0] 93 (0,0))]]) (bo_ [2] gR h034) λk=>?_
  change WH _ _ _ _ (CC F Γ20 [_,_,_]) _ 7 _ _
  refine hV 0 k (q:=q_fl 1 fld_93_1) (k:=hV 2 k (q:=moV) (k:=?_))
  obtain⟨z35,hz36,h⟩:=bnd h
  refine WH.each (l:=[1,3]) (by kernel_rfl) (by simp) ?_
  intro i hi; simp only [List.mem_cons,List.not_mem_nil,or_false] at hi
  rcases hi with rfl | rfl
  ·
   refine⟨_,rfl,?_⟩
   refine sV (ldV 1 isAgg2) (k:=?_)
   refine ae (nxV (bo_ [2] gR h034) λk=>?_)
   refine wl_ 3 rfl ?_
   rcases z35 with _ | o37
   ·
    have h:=optm_n rfl h
    refine e_callN (is:=[0]) rfl (caV call163) rfl (λw hp=>t_code_reader_num hr25 hp hz36) ?_
    intro Γ38 hl39
    intro w hw
    cases h
    subst hF
    first | exact end_t hw | exact λ_=>end_t hw
   have h:=optm_s rfl h
   refine ecV [0] (caV call163) (λw hp=>t_code_reader_num hr25 hp hz36) ?_
   rintro Γ40 _ _ hl41 ⟨row44,rfl,rfl,hr45,hr46,_⟩
   refine cwV 13 [_,_,_] ?_
   refine ae (nxV (bo_ [2] hl41 h034) λk=>?_)
   refine hV 4 k (q:=q_add) (k:=hV 5 k (q:=q_fl 2 fld_93_2) (k:=wl_ 6 rfl (stV 1 (ii (w64 (o17.2+o37.2))) #[ii o4.2,ii o17.2,ii (w64 (o17.2+o37.2))] sizeOf2 (k:=?_))))
   refine ae (nxV (bo_ [2] hl41 h034) λk=>?_)
   refine am (by kernel_rfl) ?_
   intro w hw
   exact⟨(⟨o4.2,o17.2,(w64 (o17.2+o37.2))⟩:Span),o37.1,Γ40,row44,h,slK,hw,hl41,⟨hr13,hr26,(w64_r _)⟩,hr45,trivial⟩
  refine⟨_,rfl,?_⟩
  rcases z35 with _ | o37
  ·
   have h:=optm_n rfl h
   refine e_callN (is:=[0]) rfl (caV call163) rfl (λw hp=>t_code_reader_num hr25 hp hz36) ?_
   intro Γ38 hl39
   intro w hw
   cases h
   subst hF
   first | exact end_t hw | exact λ_=>end_t hw
  have h:=optm_s rfl h
  refine ecV [0] (caV call163) (λw hp=>t_code_reader_num hr25 hp hz36) ?_
  rintro Γ40 _ _ hl41 ⟨row44,rfl,rfl,hr45,hr46,_⟩
  refine cwV 13 [_,_,_] ?_
  refine ae (nxV (bo_ [2] hl41 h034) λk=>?_)
  refine wl_ 1 rfl (sV (ldV 1 isAgg2) (k:=?_))
  refine ae (nxV (bo_ [2] hl41 h034) λk=>?_)
  refine hV 4 k (q:=q_add) (k:=hV 5 k (q:=q_fl 2 fld_93_2) (k:=wl_ 6 rfl (stV 1 (ii (w64 (o17.2+o37.2))) #[ii o4.2,ii o17.2,ii (w64 (o17.2+o37.2))] sizeOf2 (k:=?_))))
  refine ae (nxV (bo_ [2] hl41 h034) λk=>?_)
  refine am (by kernel_rfl) ?_
  intro w hw
  exact⟨(⟨o4.2,o17.2,(w64 (o17.2+o37.2))⟩:Span),o37.1,Γ40,row44,h,slK,hw,hl41,⟨hr13,hr26,(w64_r _)⟩,hr45,trivial⟩
 rintro σ w ⟨x29,o31,Γ27,row32,h,hsl,hw,hl28,hf30,ho33,-⟩
 refine slV hsl hw [_,_,_] ?_; clear hw hsl
 refine ar (λσ w=>m_code_reader_span_j2 x29 o31  = some r∧slots σ [(2,(pq g1)),(3,(pq g14))]∧CC F Γ27 [row32,[(g14,.cells (Span.cs x29).toArray 93 (0,0))],[(g1,.cells #[ii 0,ii 0,ii 0] 93 (0,0))]] w∧True) ?_ ?_
 ·
  refine ab (sV (q_fl 2 fld_93_2) (k:=sV (ldV 1 isAgg2) (k:=sV (q_fl 1 fld_93_1) (k:=sV (ldV 1 isAgg2) (k:=sV q_lss (k:=aa ?_))))))
  refine ciV h (λhb47 h=>?_) (λhb47 h=>?_)
  ·
   refine ah ?_
   refine sV (q_build (v:=.agg #[]) rfl (λw=>by kernel_rfl)) (k:=sV (q_iface rfl rfl (λw=>mkif underlying192 w)) (k:=?_))
   refine e_panic (v:=.iface 192 (.agg #[])) rfl (run_panicop rfl rfl) ?_
   intro w hw
   cases h
   subst hF
   first | exact end_t hw | exact λ_=>end_t hw
  exact ag λw hw=>⟨h,slK,hw,trivial⟩
 rintro σ w ⟨h,hsl,hw,-⟩
 refine slV hsl hw [_,_,_] ?_; clear hw hsl
 refine ab (sV (ldaV 1 (Span.cs x29) isAgg93 sizeOf93) (k:=stV 2 (.agg (Span.cs x29).toArray) (Span.cs x29).toArray sizeOf93 (k:=aa ?_)))
 refine af ?_
 intro w hw
 cases h
 subst hF
 exact⟨[.agg (Span.cs x29).toArray],(rr_agg (i:=2) (us:=(Span.cs x29)) hw rfl isAgg93 sizeOf93 (by kernel_rfl) rfl rr_nil),end_e (is:=[0]) (by kernel_rfl) hw rfl ⟨row32,rfl,rfl,ho33,hf30,trivial⟩⟩
abbrev r_code_take_api_Span(gr_:Nat)(er_:Nat)(r:Ocode_reader×(List Span))(U:List Rowb)(Γ:Gh)(v:Value):Prop := ∃(rowr_':Rowb), ∃(A0:Option Addr), ∃(c0:Nat), ∃(row0:Rowb),v = .slice A0 r.2.length c0∧U = [rowr_',row0]∧Ocode_reader.ob er_ Γ gr_ rowr_' r.1∧Own spanT Γ 93 row0 A0 c0 r.2∧True
theorem t_code_take_api_Span{gr_ er_:Nat}{rowr_:Rowb}{r_:Ocode_reader}(hr_:Ocode_reader.ob er_ Γ gr_ rowr_ r_)(hp:Pre [rowr_] Γ w0){r:Option (Ocode_reader×(List Span))}(h:m_code_take_api_Span r_=some r):Calls Tryz.prog 165 #[(pq gr_),.func (.func 166) #[(pq gr_)] #[]] w0 (OutcT [{ v:=(.iface 192 (.agg #[])),recovered:=false }] Γ [rowr_] w0 (λr=>r_code_take_api_Span gr_ er_ r) r):=by
 refine goV [4] func165 ntmps165 results165 hp λF hF=>?_
 refine ab (aV (k:=aa (ab (mV (k:=?_)))))
 obtain⟨z1,hz2,h⟩:=bnd h
 rcases z1 with _ | o3
 ·
  have h:=optm_n rfl h
  refine e_callN (is:=[0]) rfl (caV call163) rfl (λw hp=>t_code_reader_num hr_ hp hz2) ?_
  intro Γ4 hl5
  intro w hw
  cases h
  subst hF
  first | exact end_t hw | exact λ_=>end_t hw
 have h:=optm_s rfl h
 refine ecV [0] (caV call163) (λw hp=>t_code_reader_num hr_ hp hz2) ?_
 rintro Γ6 _ _ hl7 ⟨row10,rfl,rfl,hr11,hr12,_⟩
 refine cwV 8 [_] (aV (k:=aa ?_))
 refine ar (λσ w=>m_code_take_api_Span_j1 o3  = some r∧slots σ [(1,.func (.func 166) #[(pq gr_)] #[]),(5,ii o3.2)]∧CC F Γ6 [row10] w∧True) ?_ ?_
 ·
  refine ac ?_
  obtain⟨A0_13,c0_13,hrow_13,ho0_13,ho1_13,ho2_13,-⟩:=id hr11
  refine ufC 0 hrow_13 [_] ?_
  refine drV ?_
  refine zV moV (k:=zV moV (k:=zV nlV (k:=zV (q_fl 0 fld_194_0) (k:=zV (ldV 0 isAgg77) (k:=zV (q_len_slice rfl underlying77) (k:=zV moV (k:=zV nlV (k:=?_))))))))
  refine zV (q_fl 1 fld_194_1) (k:=zV (ldV 0 isAgg3) (k:=zV q_sub (k:=zV q_gtr (k:=?_))))
  refine ao ?_
  change WC _ _ _ _ _ _
  refine ciV h (λhb14 h=>?_) (λhb14 h=>?_)
  ·
   refine ah ?_
   refine sV (q_build (v:=.agg #[]) rfl (λw=>by kernel_rfl)) (k:=sV (q_iface rfl rfl (λw=>mkif underlying192 w)) (k:=?_))
   refine e_panic (v:=.iface 192 (.agg #[])) rfl (run_panicop rfl rfl) ?_
   intro w hw
   cases h
   subst hF
   first | exact end_t hw | exact λ_=>end_t hw
  refine ag ?_
  intro w hw
  have hw:=hw.fold (is:=[0]) rfl hrow_13
  exact⟨h,slK,hw,trivial⟩
 rintro σ w ⟨h,hsl,hw,-⟩
 refine slV hsl hw [_] ?_; clear hw hsl
 refine ab (aV (k:=aa (ac (ab (mV (k:=mV (k:=aa ?_)))))))
 refine ai ?_
 refine ax h (λ(i29:Nat) (s:(List Span)×Ocode_reader) σ w=>match s with | (out_20,o25) => ∃(Γ18:Gh), ∃(A21:Option Addr), ∃(c22:Nat), ∃(row23:Rowb), ∃(row26:Rowb),slots σ [(1,.func (.func 166) #[(pq gr_)] #[]),(6,.slice A21 out_20.length c22),(23,ii o3.2),(24,ii (i29:Int))]∧CC F Γ18 [row23,row26] w∧Gh.le Γ6 Γ18∧Own spanT Γ18 93 row23 A21 c22 out_20∧Ocode_reader.ob er_ Γ18 gr_ row26 o25∧True) ?_ ?_
 ·
  intro w hw
  have hw:=hw.pad
  exact⟨Γ6,none,0,[],row10,slK,hw,gR,(Own.nil spanT _ 93),hr11,trivial⟩
 rintro f28 i29 ⟨out_20,o25⟩ σ w hi30 hlt31 hge32 ⟨Γ18,A21,c22,row23,row26,hsl,hw,hl19,ho24,ho27,-⟩
 refine slV hsl hw [_,_] ?_; clear hw hsl
 refine ab (sV q_lss (k:=aa (ac ?_)))
 refine coV (λhb33=>?_) (λhb33=>?_)
 ·
  have hl34:=ilti hb33
  have h:=hlt31 hl34
  refine ag (wc_ (ac (ai ?_)))
  refine ah ?_
  refine mV (k:=mU (v:=.func (.func 166) #[(pq gr_)] #[]) (k:=?_))
  obtain⟨z35,hz36,h⟩:=bnd h
  rcases z35 with _ | o37
  ·
   have h:=optm_n rfl h
   refine e_callN (is:=[1]) rfl (call_run_fb (first:=#[(pq gr_)]) call166 rfl (by kernel_rfl) (by kernel_rfl)) rfl (λw hp=>t_code_reader_span ho27 hp hz36) ?_
   intro Γ38 hl39
   intro w hw
   cases h
   subst hF
   first | exact end_t hw | exact λ_=>end_t hw
  have h:=optm_s rfl h
  refine ecV [1] (call_run_fb (first:=#[(pq gr_)]) call166 rfl (by kernel_rfl) (by kernel_rfl)) (λw hp=>t_code_reader_span ho27 hp hz36) ?_
  rintro Γ40 _ _ hl41 ⟨row44,rfl,rfl,hr45,hr46,_⟩
  refine cwV 28 [_,_] ?_
  refine bsV (Span.cs o37.2).toArray 93 λg47=>?_
  obtain⟨hk48,h⟩:=chk_some h
  refine apV 2 [o37.2] elem_87 (ho24.mono hl41) (of_decide_eq_true hk48) (λw hw=>src_one (i:=0) rfl (by exact⟨rfl,hr46⟩) hw) ?_
  intro row49 A50 c51 ho52
  refine aV (k:=?_)
  refine ae ?_
  change WC _ _ _ _ _ _
  refine ah ?_
  refine sV (q_add_r rfl rfl rfl (ctr_int hl34 hr12)) (k:=mV (k:=?_))
  exact ae λw hw=>⟨hl34,((out_20++[o37.2]),o37.1),h,Γ40,A50,c51,row49,row44,slK,(hw.on [2,1]),(hl19.trans hl41),ho52,hr45,trivial⟩
 have h:=hge32 (igei hb33)
 refine aj ?_
 change WC _ _ _ _ _ _
 refine ab (mV (k:=aV (k:=aa ?_)))
 refine af ?_
 intro w hw
 cases h
 subst hF
 exact end_e (is:=[1,0]) (by kernel_rfl) hw rfl ⟨row26,A21,c22,row23,rfl,rfl,ho27,ho24,trivial⟩
abbrev r_code_reader_ver(gr_:Nat)(er_:Nat)(r:Ocode_reader×Ver)(U:List Rowb)(Γ:Gh)(v:Value):Prop := ∃(rowr_':Rowb), ∃(A0_2:Option Addr), ∃(c0_2:Nat),v = .agg #[.int .i64 r.2.dot.s,.int .i64 r.2.dot.n,.slice A0_2 r.2.past.length c0_2,.bool r.2.gone,.string r.2.val]∧U = [rowr_']∧Ocode_reader.ob er_ Γ gr_ rowr_' r.1∧Ver.fits Γ A0_2 c0_2 r.2∧True
theorem t_code_reader_ver{gr_ er_:Nat}{rowr_:Rowb}{r_:Ocode_reader}(hr_:Ocode_reader.ob er_ Γ gr_ rowr_ r_)(hp:Pre [rowr_] Γ w0){r:Option (Ocode_reader×Ver)}(h:m_code_reader_ver r_=some r):Calls Tryz.prog 128 #[(pq gr_)] w0 (OutcT [{ v:=(.iface 192 (.agg #[])),recovered:=false }] Γ [rowr_] w0 (λr=>r_code_reader_ver gr_ er_ r) r):=by
 refine calls_of_r (N:=30) (rs:=[.cell 2 89]) (args:=[(pq gr_)]) func128 rfl ntmps128 results128 rfl ?_
 obtain⟨F,hF⟩:∃F:Fm,F=⟨ids [rowr_],w0,Γ⟩:=⟨_,rfl⟩
 refine aw (C:=CC F Γ [rowr_]) ?_ (hF▸hp.start)
 refine ab ?_
 refine alV zeroValue89 λg1=>?_
 refine aa (ab (mV (k:=?_)))
 obtain⟨z2,hz3,h⟩:=bnd h
 rcases z2 with _ | o4
 ·
  have h:=optm_n rfl h
  refine e_callN (is:=[1]) rfl (caV call164) rfl (λw hp=>t_code_reader_int hr_ hp hz3) ?_
  intro Γ5 hl6
  intro w hw
  cases h
  subst hF
  first | exact end_t hw | exact λ_=>end_t hw
 have h:=optm_s rfl h
 refine ecV [1] (caV call164) (λw hp=>t_code_reader_int hr_ hp hz3) ?_
 rintro Γ7 _ _ hl8 ⟨row11,rfl,rfl,hr12,hr13,_⟩
 refine cwV 5 [_,_] (sV (q_build' (v:=.agg #[ii o4.2,ii 0]) rfl (bargs1 rfl) (λw=>by kernel_rfl)) (k:=sV (q_build' (v:=.agg #[ii o4.2,ii 0,.slice none 0 0,.bool false,.string ByteArray.empty]) rfl (bargs1 rfl) (λw=>by kernel_rfl)) (k:=?_)))
 refine alV zeroValue89 λg14=>?_
 refine stV 0 (.agg #[ii o4.2,ii 0,.slice none 0 0,.bool false,.string ByteArray.empty]) #[ii o4.2,ii 0,.slice none 0 0,.bool false,.string ByteArray.empty] sizeOf89 (k:=aa (ab (mV (k:=?_))))
 obtain⟨z15,hz16,h⟩:=bnd h
 rcases z15 with _ | o17
 ·
  have h:=optm_n rfl h
  refine e_callN (is:=[1]) rfl (caV call163) rfl (λw hp=>t_code_reader_num hr12 hp hz16) ?_
  intro Γ18 hl19
  intro w hw
  cases h
  subst hF
  first | exact end_t hw | exact λ_=>end_t hw
 have h:=optm_s rfl h
 refine ecV [1] (caV call163) (λw hp=>t_code_reader_num hr12 hp hz16) ?_
 rintro Γ20 _ _ hl21 ⟨row24,rfl,rfl,hr25,hr26,_⟩
 refine cwV 9 [_,_,_] (sV (q_fl 0 fld_89_0) (k:=sV (q_fl 1 fld_86_1) (k:=stV 1 (ii o17.2) #[ii o4.2,ii o17.2,.slice none 0 0,.bool false,.string ByteArray.empty] sizeOf2 (k:=aa (ab (mV (k:=mV (k:=?_))))))))
 refine sV (q_mkfn (v:=.func (.func 166) #[(pq gr_)] #[]) rfl (by kernel_rfl)) (k:=?_)
 obtain⟨z27,hz28,h⟩:=bnd h
 rcases z27 with _ | o29
 ·
  have h:=optm_n rfl h
  refine e_callN (is:=[0]) rfl (caV call165) rfl (λw hp=>t_code_take_api_Span hr25 hp hz28) ?_
  intro Γ30 hl31
  intro w hw
  cases h
  subst hF
  first | exact end_t hw | exact λ_=>end_t hw
 have h:=optm_s rfl h
 refine ecV [0] (caV call165) (λw hp=>t_code_take_api_Span hr25 hp hz28) ?_
 rintro Γ32 _ _ hl33 ⟨row36,A38,c39,row40,rfl,rfl,hr37,hr41,_⟩
 refine cwV 15 [_,_,_,_] (sV (q_fl 2 fld_89_1) (k:=stV 2 (.slice A38 o29.2.length c39) #[ii o4.2,ii o17.2,.slice A38 o29.2.length c39,.bool false,.string ByteArray.empty] sizeOf87 (k:=aa ?_)))
 refine ar (λσ w => ∃(x44:Bool), ∃(x45:ByteArray), ∃(o47:Ocode_reader), ∃(Γ42:Gh), ∃(row48:Rowb),m_code_reader_ver_j1 o4 o17 o29 x44 x45 o47=some r∧slots σ [(2,(pq g1)),(3,(pq g14))]∧CC F Γ42 [row48,row40,[(g14,.cells #[ii o4.2,ii o17.2,.slice A38 o29.2.length c39,.bool x44,.string x45] 89 (0,0))],[(g1,.cells #[ii 0,ii 0,.slice none 0 0,.bool false,.string ByteArray.empty] 89 (0,0))]] w∧Gh.le Γ32 Γ42∧x45.size≤lim∧Ocode_reader.ob er_ Γ42 gr_ row48 o47∧True) ?_ ?_
 ·
  refine ab (mV (k:=?_))
  obtain⟨z50,hz51,h⟩:=bnd h
  rcases z50 with _ | o52
  ·
   have h:=optm_n rfl h
   refine e_callN (is:=[0]) rfl (caV call163) rfl (λw hp=>t_code_reader_num hr37 hp hz51) ?_
   intro Γ53 hl54
   intro w hw
   cases h
   subst hF
   first | exact end_t hw | exact λ_=>end_t hw
  have h:=optm_s rfl h
  refine ecV [0] (caV call163) (λw hp=>t_code_reader_num hr37 hp hz51) ?_
  rintro Γ55 _ _ hl56 ⟨row59,rfl,rfl,hr60,hr61,_⟩
  refine cwV 18 [_,_,_,_] (aa (ai (ab (sV q_eql (k:=aV (k:=aa ?_))))))
  refine ciV h (λhb62 h=>?_) (λhb62 h=>?_)
  ·
   refine ah ?_
   refine mV (k:=?_)
   obtain⟨z63,hz64,h⟩:=bnd h
   rcases z63 with _ | o65
   ·
    have h:=optm_n rfl h
    refine e_callN (is:=[0]) rfl (caV call126) rfl (λw hp=>t_code_reader_text hr60 hp hz64) ?_
    intro Γ66 hl67
    intro w hw
    cases h
    subst hF
    first | exact end_t hw | exact λ_=>end_t hw
   have h:=optm_s rfl h
   refine ecV [0] (caV call126) (λw hp=>t_code_reader_text hr60 hp hz64) ?_
   rintro Γ68 _ _ hl69 ⟨row72,rfl,rfl,hr73,hr74,_⟩
   refine cwV 24 [_,_,_,_] (sV (q_fl 4 fld_89_3) (k:=stV 2 (.string o65.2) #[ii o4.2,ii o17.2,.slice A38 o29.2.length c39,.bool false,.string o65.2] sizeOf9 (k:=?_)))
   exact ae λw hw=>⟨false,o65.2,o65.1,Γ68,row72,h,slK,hw,(hl56.trans hl69),hr74,hr73,trivial⟩
  refine ab (sV q_eql (k:=aV (k:=aa ?_)))
  refine ciV h (λhb75 h=>?_) (λhb75 h=>?_)
  ·
   refine ah ?_
   refine sV (q_fl 3 fld_89_2) (k:=stV 2 (.bool true) #[ii o4.2,ii o17.2,.slice A38 o29.2.length c39,.bool true,.string ByteArray.empty] sizeOf4 (k:=?_))
   exact ae λw hw=>⟨true,ByteArray.empty,o52.1,Γ55,row59,h,slK,hw,hl56,(show (ByteArray.empty:ByteArray).size≤lim by decide),hr60,trivial⟩
  refine ah ?_
  refine sV (q_build (v:=.agg #[]) rfl (λw=>by kernel_rfl)) (k:=sV (q_iface rfl rfl (λw=>mkif underlying192 w)) (k:=?_))
  refine e_panic (v:=.iface 192 (.agg #[])) rfl (run_panicop rfl rfl) ?_
  intro w hw
  cases h
  subst hF
  first | exact end_t hw | exact λ_=>end_t hw
 rintro σ w ⟨x44,x45,o47,Γ42,row48,h,hsl,hw,hl43,hr46,ho49,-⟩
 refine slV hsl hw [_,_,_,_] ?_; clear hw hsl
 refine ab (sV (ldaV 2 [ii o4.2,ii o17.2,.slice A38 o29.2.length c39,.bool x44,.string x45] isAgg89 sizeOf89) (k:=stV 3 (.agg #[ii o4.2,ii o17.2,.slice A38 o29.2.length c39,.bool x44,.string x45]) #[ii o4.2,ii o17.2,.slice A38 o29.2.length c39,.bool x44,.string x45] sizeOf89 (k:=aa ?_)))
 refine af ?_
 intro w hw
 have hc82:=(hr41.mono hl43).capz
 obtain⟨Γ78,hw,hl79,hr80⟩:=hw.seal (i:=1) rfl; have hs81:=(hr41.mono hl43).sl hl79 hr80
 cases h
 subst hF
 exact⟨[.agg #[ii o4.2,ii o17.2,.slice A38 o29.2.length c39,.bool x44,.string x45]],(rr_agg (i:=3) (us:=[ii o4.2,ii o17.2,.slice A38 o29.2.length c39,.bool x44,.string x45]) hw rfl isAgg89 sizeOf89 (by kernel_rfl) rfl rr_nil),end_e (is:=[0]) (by kernel_rfl) hw rfl ⟨row48,A38,c39,rfl,rfl,(ho49.mono hl79),⟨hr13,hr26,⟨hc82,hs81⟩,hr46⟩,trivial⟩⟩
abbrev r_code_take_api_Ver(gr_:Nat)(er_:Nat)(r:Ocode_reader×(List Ver))(U:List Rowb)(Γ:Gh)(v:Value):Prop := ∃(rowr_':Rowb), ∃(A0:Option Addr), ∃(c0:Nat), ∃(row0:Rowb),v = .slice A0 r.2.length c0∧U = [rowr_',row0]∧Ocode_reader.ob er_ Γ gr_ rowr_' r.1∧Own verT Γ 89 row0 A0 c0 r.2∧True
theorem t_code_take_api_Ver{gr_ er_:Nat}{rowr_:Rowb}{r_:Ocode_reader}(hr_:Ocode_reader.ob er_ Γ gr_ rowr_ r_)(hp:Pre [rowr_] Γ w0){r:Option (Ocode_reader×(List Ver))}(h:m_code_take_api_Ver r_=some r):Calls Tryz.prog 127 #[(pq gr_),.func (.func 128) #[(pq gr_)] #[]] w0 (OutcT [{ v:=(.iface 192 (.agg #[])),recovered:=false }] Γ [rowr_] w0 (λr=>r_code_take_api_Ver gr_ er_ r) r):=by
 refine goV [4] func127 ntmps127 results127 hp λF hF=>?_
 refine ab (aV (k:=aa (ab (mV (k:=?_)))))
 obtain⟨z1,hz2,h⟩:=bnd h
 rcases z1 with _ | o3
 ·
  have h:=optm_n rfl h
  refine e_callN (is:=[0]) rfl (caV call163) rfl (λw hp=>t_code_reader_num hr_ hp hz2) ?_
  intro Γ4 hl5
  intro w hw
  cases h
  subst hF
  first | exact end_t hw | exact λ_=>end_t hw
 have h:=optm_s rfl h
 refine ecV [0] (caV call163) (λw hp=>t_code_reader_num hr_ hp hz2) ?_
 rintro Γ6 _ _ hl7 ⟨row10,rfl,rfl,hr11,hr12,_⟩
 refine cwV 8 [_] (aV (k:=aa ?_))
 refine ar (λσ w=>m_code_take_api_Ver_j1 o3  = some r∧slots σ [(1,.func (.func 128) #[(pq gr_)] #[]),(5,ii o3.2)]∧CC F Γ6 [row10] w∧True) ?_ ?_
 ·
  refine ac ?_
  obtain⟨A0_13,c0_13,hrow_13,ho0_13,ho1_13,ho2_13,-⟩:=id hr11
  refine ufC 0 hrow_13 [_] ?_
  refine drV ?_
  refine zV moV (k:=zV moV (k:=zV nlV (k:=zV (q_fl 0 fld_194_0) (k:=zV (ldV 0 isAgg77) (k:=zV (q_len_slice rfl underlying77) (k:=zV moV (k:=zV nlV (k:=?_))))))))
  refine zV (q_fl 1 fld_194_1) (k:=zV (ldV 0 isAgg3) (k:=zV q_sub (k:=zV q_gtr (k:=?_))))
  refine ao ?_
  change WC _ _ _ _ _ _
  refine ciV h (λhb14 h=>?_) (λhb14 h=>?_)
  ·
   refine ah ?_
   refine sV (q_build (v:=.agg #[]) rfl (λw=>by kernel_rfl)) (k:=sV (q_iface rfl rfl (λw=>mkif underlying192 w)) (k:=?_))
   refine e_panic (v:=.iface 192 (.agg #[])) rfl (run_panicop rfl rfl) ?_
   intro w hw
   cases h
   subst hF
   first | exact end_t hw | exact λ_=>end_t hw
  refine ag ?_
  intro w hw
  have hw:=hw.fold (is:=[0]) rfl hrow_13
  exact⟨h,slK,hw,trivial⟩
 rintro σ w ⟨h,hsl,hw,-⟩
 refine slV hsl hw [_] ?_; clear hw hsl
 refine ab (aV (k:=aa (ac (ab (mV (k:=mV (k:=aa ?_)))))))
 refine ai ?_
 refine ax h (λ(i29:Nat) (s:(List Ver)×Ocode_reader) σ w=>match s with | (out_20,o25) => ∃(Γ18:Gh), ∃(A21:Option Addr), ∃(c22:Nat), ∃(row23:Rowb), ∃(row26:Rowb),slots σ [(1,.func (.func 128) #[(pq gr_)] #[]),(6,.slice A21 out_20.length c22),(23,ii o3.2),(24,ii (i29:Int))]∧CC F Γ18 [row23,row26] w∧Gh.le Γ6 Γ18∧Own verT Γ18 89 row23 A21 c22 out_20∧Ocode_reader.ob er_ Γ18 gr_ row26 o25∧True) ?_ ?_
 ·
  intro w hw
  have hw:=hw.pad
  exact⟨Γ6,none,0,[],row10,slK,hw,gR,(Own.nil verT _ 89),hr11,trivial⟩
 rintro f28 i29 ⟨out_20,o25⟩ σ w hi30 hlt31 hge32 ⟨Γ18,A21,c22,row23,row26,hsl,hw,hl19,ho24,ho27,-⟩
 refine slV hsl hw [_,_] ?_; clear hw hsl
 refine ab (sV q_lss (k:=aa (ac ?_)))
 refine coV (λhb33=>?_) (λhb33=>?_)
 ·
  have hl34:=ilti hb33
  have h:=hlt31 hl34
  refine ag (wc_ (ac (ai ?_)))
  refine ah ?_
  refine mV (k:=mU (v:=.func (.func 128) #[(pq gr_)] #[]) (k:=?_))
  obtain⟨z35,hz36,h⟩:=bnd h
  rcases z35 with _ | o37
  ·
   have h:=optm_n rfl h
   refine e_callN (is:=[1]) rfl (call_run_fb (first:=#[(pq gr_)]) call128 rfl (by kernel_rfl) (by kernel_rfl)) rfl (λw hp=>t_code_reader_ver ho27 hp hz36) ?_
   intro Γ38 hl39
   intro w hw
   cases h
   subst hF
   first | exact end_t hw | exact λ_=>end_t hw
  have h:=optm_s rfl h
  refine ecV [1] (call_run_fb (first:=#[(pq gr_)]) call128 rfl (by kernel_rfl) (by kernel_rfl)) (λw hp=>t_code_reader_ver ho27 hp hz36) ?_
  rintro Γ40 _ _ hl41 ⟨row44,A46,c47,rfl,rfl,hr45,hr48,_⟩
  refine cwV 28 [_,_] ?_
  refine bsV (Ver.cs A46 c47 o37.2).toArray 89 λg49=>?_
  obtain⟨hk50,h⟩:=chk_some h
  refine apV 2 [o37.2] elem_43 (ho24.mono hl41) (of_decide_eq_true hk50) (λw hw=>src_one (i:=0) rfl (by exact⟨A46,c47,rfl,hr48⟩) hw) ?_
  intro row51 A52 c53 ho54
  refine aV (k:=?_)
  refine ae ?_
  change WC _ _ _ _ _ _
  refine ah ?_
  refine sV (q_add_r rfl rfl rfl (ctr_int hl34 hr12)) (k:=mV (k:=?_))
  exact ae λw hw=>⟨hl34,((out_20++[o37.2]),o37.1),h,Γ40,A52,c53,row51,row44,slK,(hw.on [2,1]),(hl19.trans hl41),ho54,hr45,trivial⟩
 have h:=hge32 (igei hb33)
 refine aj ?_
 change WC _ _ _ _ _ _
 refine ab (mV (k:=aV (k:=aa ?_)))
 refine af ?_
 intro w hw
 cases h
 subst hF
 exact end_e (is:=[1,0]) (by kernel_rfl) hw rfl ⟨row26,A21,c22,row23,rfl,rfl,ho27,ho24,trivial⟩
abbrev r_code_reader_rec(gr_:Nat)(er_:Nat)(r:Ocode_reader×Rec)(U:List Rowb)(Γ:Gh)(v:Value):Prop := ∃(rowr_':Rowb), ∃(A0_1:Option Addr), ∃(c0_1:Nat),v = .agg #[.string r.2.key,.slice A0_1 r.2.vers.length c0_1]∧U = [rowr_']∧Ocode_reader.ob er_ Γ gr_ rowr_' r.1∧Rec.fits Γ A0_1 c0_1 r.2∧True
theorem t_code_reader_rec{gr_ er_:Nat}{rowr_:Rowb}{r_:Ocode_reader}(hr_:Ocode_reader.ob er_ Γ gr_ rowr_ r_)(hp:Pre [rowr_] Γ w0){r:Option (Ocode_reader×Rec)}(h:m_code_reader_rec r_=some r):Calls Tryz.prog 94 #[(pq gr_)] w0 (OutcT [{ v:=(.iface 192 (.agg #[])),recovered:=false }] Γ [rowr_] w0 (λr=>r_code_reader_rec gr_ er_ r) r):=by
 refine calls_of_r (N:=12) (rs:=[.cell 2 45]) (args:=[(pq gr_)]) func94 rfl ntmps94 results94 rfl ?_
 obtain⟨F,hF⟩:∃F:Fm,F=⟨ids [rowr_],w0,Γ⟩:=⟨_,rfl⟩
 refine aw (C:=CC F Γ [rowr_]) ?_ (hF▸hp.start)
 refine ab ?_
 refine alV zeroValue45 λg1=>?_
 refine aa (ab (mV (k:=?_)))
 obtain⟨z2,hz3,h⟩:=bnd h
 rcases z2 with _ | o4
 ·
  have h:=optm_n rfl h
  refine e_callN (is:=[1]) rfl (caV call126) rfl (λw hp=>t_code_reader_text hr_ hp hz3) ?_
  intro Γ5 hl6
  intro w hw
  cases h
  subst hF
  first | exact end_t hw | exact λ_=>end_t hw
 have h:=optm_s rfl h
 refine ecV [1] (caV call126) (λw hp=>t_code_reader_text hr_ hp hz3) ?_
 rintro Γ7 _ _ hl8 ⟨row11,rfl,rfl,hr12,hr13,_⟩
 refine cwV 5 [_,_] (aV (k:=aa (ab (mV (k:=mV (k:=mV (k:=sV (q_mkfn (v:=.func (.func 128) #[(pq gr_)] #[]) rfl (by kernel_rfl)) (k:=?_))))))))
 obtain⟨z14,hz15,h⟩:=bnd h
 rcases z14 with _ | o16
 ·
  have h:=optm_n rfl h
  refine e_callN (is:=[0]) rfl (caV call127) rfl (λw hp=>t_code_take_api_Ver hr12 hp hz15) ?_
  intro Γ17 hl18
  intro w hw
  cases h
  subst hF
  first | exact end_t hw | exact λ_=>end_t hw
 have h:=optm_s rfl h
 refine ecV [0] (caV call127) (λw hp=>t_code_take_api_Ver hr12 hp hz15) ?_
 rintro Γ19 _ _ hl20 ⟨row23,A25,c26,row27,rfl,rfl,hr24,hr28,_⟩
 refine cwV 10 [_,_,_] (sV (q_build' (v:=.agg #[.string o4.2,.slice A25 o16.2.length c26]) rfl (bargs2 rfl rfl) (λw=>by kernel_rfl)) (k:=stV 2 (.agg #[.string o4.2,.slice A25 o16.2.length c26]) #[.string o4.2,.slice A25 o16.2.length c26] sizeOf45 (k:=aa ?_)))
 refine af ?_
 intro w hw
 have hc33:=hr28.capz
 obtain⟨Γ29,hw,hl30,hr31⟩:=hw.seal (i:=1) rfl; have hs32:=hr28.sl hl30 hr31
 cases h
 subst hF
 exact⟨[.agg #[.string o4.2,.slice A25 o16.2.length c26]],(rr_agg (i:=2) (us:=[.string o4.2,.slice A25 o16.2.length c26]) hw rfl isAgg45 sizeOf45 (by kernel_rfl) rfl rr_nil),end_e (is:=[0]) (by kernel_rfl) hw rfl ⟨row23,A25,c26,rfl,rfl,(hr24.mono hl30),⟨hr13,⟨hc33,hs32⟩⟩,trivial⟩⟩
set_option maxRecDepth 100000 in
theorem idle_125(p0:Value)(p1:Value):idle Tryz.prog 125 #[p0,p1]:=by
  intro w
  refine callsD_idle (n:=13) (args:=[p0,p1]) Tryz.func125 rfl Tryz.ntmps125 Tryz.results125 (run_recover rfl rfl) rfl rfl rfl rfl ?_
  refine aw (C:=λw2=>w2=w) ?_ rfl
  refine ai ?_
  refine ab ?_
  refine va rfl rfl rfl (q_eqnil2 rfl rfl (λw=>eq_nilnil Tryz.underlying20 w)) ?_
  refine ae ?_
  change WC _ _ _ _ _ _
  refine WC.ctk (b:=true) (by kernel_rfl) rfl ?_
  refine ah ?_
  refine va rfl rfl rfl (q_assign (v:=.nilIface) rfl (by kernel_rfl)) ?_
  refine ae ?_
  intro w2 hw
  exact⟨⟨_,rfl⟩,hw⟩
abbrev r_code_whole_api_Rec_1(gb0:Nat)(b0v0:ByteArray)(Ab0v1:Option Addr)(cb0v1:Nat)(b0v1:List Ver)(gb1:Nat)(b1v:Int)(r:ByteArray×(List Ver)×Int)(U:List Rowb)(Γ:Gh)(v:Value):Prop := ∃(Ab0_1:Option Addr), ∃(cb0_1:Nat),v = .tuple #[]∧U = [[(gb0,.cells #[.string r.1,.slice Ab0_1 r.2.1.length cb0_1] 45 (0,0))],[(gb1,.cells #[.int .i64 r.2.2] 28 (0,0))]]∧r.1.size≤lim∧r.2.1.length≤cb0_1∧Sl verT Γ Ab0_1 r.2.1∧I64 r.2.2∧True
theorem t_code_whole_api_Rec_1{gb0:Nat}(b0v0:ByteArray)(hb0v0:b0v0.size≤lim){Ab0v1:Option Addr}{cb0v1:Nat}{b0v1:List Ver}(hb0v1:Sl verT Γ Ab0v1 b0v1)(hb0v1c:b0v1.length≤cb0v1){gb1:Nat}(b1v:Int)(hb1v:I64 b1v)(hp:Pre [[(gb0,.cells #[.string b0v0,.slice Ab0v1 b0v1.length cb0v1] 45 (0,0))],[(gb1,.cells #[ii b1v] 28 (0,0))]] Γ w0){r:ByteArray×(List Ver)×Int}(h:m_code_whole_api_Rec_1 b0v0 b0v1 b1v=some r):CallsD Tryz.prog 125 #[(pq gb0),(pq gb1)] (.panicking [{ v:=(.iface 192 (.agg #[])),recovered:=false }]) w0 (λe u' w'=>u' = .panicking [{ v:=(.iface 192 (.agg #[])),recovered:=true }]∧(Outc Γ [[(gb0,.cells #[.string b0v0,.slice Ab0v1 b0v1.length cb0v1] 45 (0,0))],[(gb1,.cells #[ii b1v] 28 (0,0))]] w0 (r_code_whole_api_Rec_1 gb0 b0v0 Ab0v1 cb0v1 b0v1 gb1 b1v r)) e w'):=by
 refine callsD_rec (n:=13) (args:=[(pq gb0),(pq gb1)]) func125 rfl ntmps125 results125 (run_recover rfl rfl) rfl rfl rfl rfl ?_
 obtain⟨F,hF⟩:∃F:Fm,F=⟨ids [[(gb0,.cells #[.string b0v0,.slice Ab0v1 b0v1.length cb0v1] 45 (0,0))],[(gb1,.cells #[ii b1v] 28 (0,0))]],w0,Γ⟩:=⟨_,rfl⟩
 refine aw (C:=CC F Γ [[(gb0,.cells #[.string b0v0,.slice Ab0v1 b0v1.length cb0v1] 45 (0,0))],[(gb1,.cells #[ii b1v] 28 (0,0))]]) ?_ (hF▸hp.start)
 refine ai (ab (sV (q_eqinil rfl rfl rfl (λw=>eq_inil underlying20 w)) (k:=aa ?_)))
 refine WC.cfk (b:=false) (by kernel_rfl) rfl ?_
 refine ab (sV (q_assert2 underlying192 rfl rfl) (k:=sV exV (k:=sV exV (k:=aa ?_))))
 refine WC.ctk (b:=true) (by kernel_rfl) rfl ?_
 refine ab ?_
 refine alV zeroValue192 λg1=>?_
 refine stV 0 (.agg #[]) #[] sizeOf192 (k:=aa (ab ?_))
 refine alV zeroValue45 λg2=>?_
 refine aa ?_
 refine ah ?_
 refine sV (ldaV 0 [.string ByteArray.empty,.slice none 0 0] isAgg45 sizeOf45) (k:=stV 2 (.agg #[.string ByteArray.empty,.slice none 0 0]) #[.string ByteArray.empty,.slice none 0 0] sizeOf45 (k:=stV 3 (ii 2) #[ii 2] sizeOf28 (k:=?_)))
 refine ae ?_
 intro w hw
 cases h
 subst hF
 exact end_e (is:=[2,2]) (by kernel_rfl) hw rfl ⟨none,0,rfl,rfl,(show (ByteArray.empty:ByteArray).size≤lim by decide),(Nat.zero_le 0),(Sl.nil verT _ none),iV,trivial⟩
theorem t_span_Right{Al:Option Addr}{cl:Nat}{l:List Span}(hl:Sl spanT Γ Al l)(hlc:l.length≤cl)(hs:Sat Γ w0){r:Bool}(h:m_span_Right l=some r):CQ Tryz.prog 184 #[.slice Al l.length cl] w0 (.bool r):=by
 refine goQ [2] func184 ntmps184 results184 hs λF hF=>?_
 refine ab (aV (k:=aa (ab (sV (q_build (v:=.agg #[ii 0,ii 0,ii 0]) rfl (λw=>by kernel_rfl)) (k:=?_)))))
 refine alV zeroValue93 λg1=>?_
 refine stV 0 (.agg #[ii 0,ii 0,ii 0]) #[ii 0,ii 0,ii 0] sizeOf93 (k:=aa (ac (ab (mV (k:=sV (q_len_slice rfl underlying87) (k:=mV (k:=aa ?_)))))))
 refine ai ?_
 refine al h (λ(i5:Nat) (x2:Span) σ w=>slots σ [(0,.slice Al l.length cl),(3,(pq g1)),(7,.slice Al l.length cl),(8,ii (l.length:Int)),(9,ii (i5:Int))]∧CC F Γ [[(g1,.cells (Span.cs x2).toArray 93 (0,0))]] w∧Span.fits Γ  x2∧True) ?_ ?_
 ·
  intro w hw
  exact⟨slK,hw,⟨iV,iV,iV⟩,trivial⟩
 rintro f4 i5 x2 σ w hi6 hlt7 hge8 ⟨hsl,hw,hf3,-⟩
 refine slV hsl hw [_] ?_; clear hw hsl
 refine ab (sV q_lss (k:=aa (ac ?_)))
 refine coV (λhb9=>?_) (λhb9=>?_)
 ·
  have hl10:=ilt hb9
  have h:=hlt7 hl10
  refine ag (wc_ (ac (ai (ab (sV (q_ixn (i:=i5) underlying87 sizeOf93 rfl rfl rfl hl10 (hl.some_ hl10)) (k:=sV (q_lda (c:=0) (vs:=(Span.cs (gt l i5))) (hl.spanT_at hl10).2 rfl isAgg93 sizeOf93 rfl rfl rfl) (k:=?_)))))))
  refine alV zeroValue93 λg11=>?_
  refine stV 0 (.agg (Span.cs (gt l i5)).toArray) (Span.cs (gt l i5)).toArray sizeOf93 (k:=aa (ac (ab (sV (q_fl 0 fld_93_0) (k:=sV (ldV 0 isAgg3) (k:=sV q_lss (k:=mV (k:=?_))))))))
  refine vG0 (h:=λhg12=>q_fl 0 fld_93_0) (k:=vG0 (h:=λhg13=>ldV 0 isAgg3 (hx:=grV hg13)) (k:=vG0 (h:=λhg14=>q_gtr rfl (grV hg14)) (k:=sV pkO (k:=mV (k:=vG0 (h:=λhg15=>q_fl 1 fld_93_1) (k:=vG0 (h:=λhg16=>ldV 0 isAgg2 (hx:=grV hg16)) (k:=vG0 (h:=λhg17=>q_lss rfl (grV hg17)) (k:=?_))))))))
  refine sV pkO (k:=mV (k:=vG0 (h:=λhg18=>q_fl 1 fld_93_1) (k:=vG0 (h:=λhg19=>ldV 0 isAgg2 (hx:=grV hg19)) (k:=vG0 (h:=λhg20=>q_fl 2 fld_93_2) (k:=vG0 (h:=λhg21=>ldV 0 isAgg2 (hx:=grV hg21)) (k:=vG0 (h:=λhg22=>q_gtr rfl (grV hg22) (grV hg22)) (k:=sV pkO (k:=?_))))))))
  refine mV (k:=vG0 (h:=λhg23=>q_fl 2 fld_93_2) (k:=vG0 (h:=λhg24=>ldV 0 isAgg2 (hx:=grV hg24)) (k:=vG0 (h:=λhg25=>q_gtr rfl (grV hg25)) (k:=sV pkO (k:=mV (k:=vG0 (h:=λhg26=>q_fl 0 fld_93_0) (k:=vG0 (h:=λhg27=>ldV 0 isAgg3 (hx:=grV hg27)) (k:=?_))))))))
  refine vG0 (h:=λhg28=>q_fl 0 fld_93_0) (k:=vG0 (h:=λhg29=>ldV 1 isAgg3 (hx:=grV hg29)) (k:=vG0 (h:=λhg30=>q_lss rfl (grV hg30) (grV hg30)) (k:=sV pkO (k:=mV (k:=vG0 (h:=λhg31=>q_fl 0 fld_93_0) (k:=vG0 (h:=λhg32=>ldV 0 isAgg3 (hx:=grV hg32)) (k:=vG0 (h:=λhg33=>q_fl 0 fld_93_0) (k:=?_))))))))
  refine vG0 (h:=λhg34=>ldV 1 isAgg3 (hx:=grV hg34)) (k:=vG0 (h:=λhg35=>q_eql rfl (grV hg35) (grV hg35)) (k:=vG0 (h:=λhg36=>q_move (v:=.bool ((gt l i5).s==x2.s)) rfl (grV hg36)) (k:=vh1 (c0:=(!((((((decide ((gt l i5).s<1))||(decide (16<(gt l i5).s)))||(decide ((gt l i5).f<1)))||(decide ((gt l i5).t<(gt l i5).f)))||(decide (4611686018427387904<(gt l i5).t)))||(decide ((gt l i5).s<x2.s))))) (g:=((gt l i5).s==x2.s)) rfl rfl rfl rfl rfl (λ_=>QV.qo (q_fl 1 fld_93_1)) (vh1 (c0:=(!((((((decide ((gt l i5).s<1))||(decide (16<(gt l i5).s)))||(decide ((gt l i5).f<1)))||(decide ((gt l i5).t<(gt l i5).f)))||(decide (4611686018427387904<(gt l i5).t)))||(decide ((gt l i5).s<x2.s))))) (g:=((gt l i5).s==x2.s)) rfl rfl rfl rfl rfl (λhg38=>QV.qo (ldV 0 isAgg2 (hx:=grV hg38))) (vh1 (c0:=(!((((((decide ((gt l i5).s<1))||(decide (16<(gt l i5).s)))||(decide ((gt l i5).f<1)))||(decide ((gt l i5).t<(gt l i5).f)))||(decide (4611686018427387904<(gt l i5).t)))||(decide ((gt l i5).s<x2.s))))) (g:=((gt l i5).s==x2.s)) rfl rfl rfl rfl rfl (λ_=>QV.qo (q_fl 2 fld_93_2)) ?_)))))
  refine vh1 (c0:=(!((((((decide ((gt l i5).s<1))||(decide (16<(gt l i5).s)))||(decide ((gt l i5).f<1)))||(decide ((gt l i5).t<(gt l i5).f)))||(decide (4611686018427387904<(gt l i5).t)))||(decide ((gt l i5).s<x2.s))))) (g:=((gt l i5).s==x2.s)) rfl rfl rfl rfl rfl (λhg40=>QV.qo (ldV 1 isAgg2 (hx:=grV hg40))) (vh1 (c0:=(!((((((decide ((gt l i5).s<1))||(decide (16<(gt l i5).s)))||(decide ((gt l i5).f<1)))||(decide ((gt l i5).t<(gt l i5).f)))||(decide (4611686018427387904<(gt l i5).t)))||(decide ((gt l i5).s<x2.s))))) (g:=((gt l i5).s==x2.s)) rfl rfl rfl rfl rfl (λhg41=>QV.qo (q_add rfl (grV hg41))) (vh1 (c0:=(!((((((decide ((gt l i5).s<1))||(decide (16<(gt l i5).s)))||(decide ((gt l i5).f<1)))||(decide ((gt l i5).t<(gt l i5).f)))||(decide (4611686018427387904<(gt l i5).t)))||(decide ((gt l i5).s<x2.s))))) (g:=((gt l i5).s==x2.s)) rfl rfl rfl rfl rfl (λhg42=>QV.qo (q_leq rfl (grV hg42) (grV hg42))) (vG0 (h:=λhg43=>q_pick rfl (grV hg43) (pk_and (c:=(!((((((decide ((gt l i5).s<1))||(decide (16<(gt l i5).s)))||(decide ((gt l i5).f<1)))||(decide ((gt l i5).t<(gt l i5).f)))||(decide (4611686018427387904<(gt l i5).t)))||(decide ((gt l i5).s<x2.s))))) (g:=((gt l i5).s==x2.s)) (y:=(decide ((gt l i5).f≤(w64 (x2.t+1))))) hg43)) (k:=sV pkO (k:=aa ?_)))))
  refine ciV h (λhb44 h=>?_) (λhb44 h=>?_)
  ·
   refine ab (aV (k:=aa ?_))
   exact af λw hw=>rq_ r h hF hw
  refine ag (wc_ ?_)
  refine ah ?_
  refine sV (ldaV 0 (Span.cs (gt l i5)) isAgg93 sizeOf93) (k:=stV 1 (.agg (Span.cs (gt l i5)).toArray) (Span.cs (gt l i5)).toArray sizeOf93 (k:=?_))
  refine ae ?_
  change WC _ _ _ _ _ _
  refine ah ?_
  refine sV (q_add_r rfl rfl rfl (ctr_len hl10 hl.le)) (k:=mV (k:=?_))
  exact ae λw hw=>⟨hl10,(gt l i5),h,slK,(hw.on [1]),(hl.spanT_at hl10).1,trivial⟩
 have h:=hge8 (ige hb9)
 refine aj ?_
 change WC _ _ _ _ _ _
 refine ab (mV (k:=sV (q_len_slice rfl underlying87) (k:=sV q_leq (k:=aV (k:=aa ?_)))))
 exact af λw hw=>rq_ r h hF hw
theorem t_span_Top{Al:Option Addr}{cl:Nat}{l:List Span}(hl:Sl spanT Γ Al l)(hlc:l.length≤cl)(s_:Int)(hs_:I64 s_)(hs:Sat Γ w0){r:Int}(h:m_span_Top l s_=some r):CQ Tryz.prog 185 #[.slice Al l.length cl,ii s_] w0 (ii r):=by
 refine goQ [4] func185 ntmps185 results185 hs λF hF=>?_
 refine ab (aV (k:=aa (ab (aV (k:=aa (ac (ab ?_)))))))
 refine mV (k:=sV (q_len_slice rfl underlying87) (k:=mV (k:=aa (ai ?_))))
 refine al h (λ(i4:Nat) (top_1:Int) σ w=>slots σ [(1,ii s_),(5,ii top_1),(8,.slice Al l.length cl),(9,ii (l.length:Int)),(10,ii (i4:Int))]∧CC F Γ [] w∧I64 top_1∧True) ?_ ?_
 ·
  intro w hw
  exact⟨slK,hw,iV,trivial⟩
 rintro f3 i4 top_1 σ w hi5 hlt6 hge7 ⟨hsl,hw,hr2,-⟩
 refine slV hsl hw [] ?_; clear hw hsl
 refine ab (sV q_lss (k:=aa (ac ?_)))
 refine coV (λhb8=>?_) (λhb8=>?_)
 ·
  have hl9:=ilt hb8
  have h:=hlt6 hl9
  refine ag (wc_ ?_)
  refine ar (λσ w => ∃(top_10:Int),m_span_Top_j6 f3 top_10=some r∧slots σ [(1,ii s_),(5,ii top_10),(8,.slice Al l.length cl),(9,ii (l.length:Int)),(10,ii (i4:Int))]∧CC F Γ [] w∧I64 top_10∧True) ?_ ?_
  ·
   refine ai (ab (sV (q_ixn (i:=i4) underlying87 sizeOf93 rfl rfl rfl hl9 (hl.some_ hl9)) (k:=sV (q_lda (c:=0) (vs:=(Span.cs (gt l i4))) (hl.spanT_at hl9).2 rfl isAgg93 sizeOf93 rfl rfl rfl) (k:=?_))))
   refine alV zeroValue93 λg12=>?_
   refine stV 0 (.agg (Span.cs (gt l i4)).toArray) (Span.cs (gt l i4)).toArray sizeOf93 (k:=aa (ab (sV (q_fl 0 fld_93_0) (k:=sV (ldV 0 isAgg3) (k:=mV (k:=sV q_eql (k:=aa ?_)))))))
   refine ciV h (λhb13 h=>?_) (λhb13 h=>?_)
   ·
    refine ah ?_
    refine mV (k:=sV (q_fl 2 fld_93_2) (k:=sV (ldV 0 isAgg2) (k:=sV q_max (k:=aV (k:=?_)))))
    exact ae λw hw=>⟨(max top_1 (gt l i4).t),h,slK,(hw.on []),(max_r hr2 (hl.spanT_at hl9).1.2.2),trivial⟩
   exact ag λw hw=>⟨top_1,h,slK,(hw.on []),hr2,trivial⟩
  rintro σ w ⟨top_10,h,hsl,hw,hr11,-⟩
  refine slV hsl hw [] ?_; clear hw hsl
  refine ah ?_
  refine sV (q_add_r rfl rfl rfl (ctr_len hl9 hl.le)) (k:=mV (k:=?_))
  exact ae λw hw=>⟨hl9,top_10,h,slK,hw,hr11,trivial⟩
 have h:=hge7 (ige hb8)
 refine aj ?_
 change WC _ _ _ _ _ _
 refine ab (mV (k:=aV (k:=aa ?_)))
 exact af λw hw=>rq_ r h hF hw
theorem t_vers_RightOne{Av_2:Option Addr}{cv_2:Nat}(v_:Ver)(hv_:Ver.fits Γ Av_2 cv_2 v_)(hs:Sat Γ w0){r:Bool}(h:m_vers_RightOne v_=some r):CQ Tryz.prog 150 #[.agg (Ver.cs Av_2 cv_2 v_).toArray] w0 (.bool r):=by
 refine goQ [2] func150 ntmps150 results150 hs λF hF=>?_
 refine ab ?_
 refine bxV (v:=.agg (Ver.cs Av_2 cv_2 v_).toArray) λg1=>?_
 refine aV (k:=aa (ab (sV (q_fl 0 fld_89_0) (k:=sV (q_fl 0 fld_86_0) (k:=sV (ldV 0 isAgg3) (k:=sV (q_fl 0 fld_89_0) (k:=sV (q_fl 1 fld_86_1) (k:=?_))))))))
 refine sV (ldV 0 isAgg2) (k:=sV (q_fl 0 fld_89_0) (k:=sV (q_fl 1 fld_86_1) (k:=sV (ldV 0 isAgg2) (k:=sV (q_build' (v:=.agg #[ii v_.dot.s,ii v_.dot.n,ii v_.dot.n]) rfl (bargs3 rfl rfl rfl) (λw=>by kernel_rfl)) (k:=?_)))))
 refine alV zeroValue93 λg2=>?_
 refine stV 0 (.agg #[ii v_.dot.s,ii v_.dot.n,ii v_.dot.n]) #[ii v_.dot.s,ii v_.dot.n,ii v_.dot.n] sizeOf93 (k:=aa (ac ?_))
 refine leV λh03=>?_
 refine held_ (CC F Γ [[(g2,.cells #[ii v_.dot.s,ii v_.dot.n,ii v_.dot.n] 93 (0,0))],[(g1,.cells (Ver.cs Av_2 cv_2 v_).toArray 89 (0,0))]]) (bo_ [0,0] gR h03) λk=>?_
 change WH _ _ _ _ (CC F Γ [_,_]) _ 37 _ _
 refine hV 0 k (q:=ldaV 0 [ii v_.dot.s,ii v_.dot.n,ii v_.dot.n] isAgg93 sizeOf93) (k:=wl_ 1 rfl ?_)
 refine bsV #[ii v_.dot.s,ii v_.dot.n,ii v_.dot.n] 93 λg4=>?_
 refine ae (nxV (bo_ [1,1] gR h03) λk=>?_)
 refine wl_ 2 rfl ?_
 have ho5:Own spanT Γ 93 [(g4,.cells #[ii v_.dot.s,ii v_.dot.n,ii v_.dot.n] 93 (0,0))] (some ⟨g4,0,none⟩) 1 [(⟨v_.dot.s,v_.dot.n,v_.dot.n⟩:Span)]:=au (T:=spanT) (ys:=[(⟨v_.dot.s,v_.dot.n,v_.dot.n⟩:Span)]) [[ii v_.dot.s,ii v_.dot.n,ii v_.dot.n]] rfl (show 1≤lim by decide) ⟨⟨rfl,⟨hv_.1,hv_.2.1,hv_.2.1⟩⟩,trivial⟩
 obtain⟨z6,hz7,h⟩:=bnd h
 refine vqV (caV call184) (λw hw=>t_span_Right (Γ:=Gh.all w) (ho5.sl hw.sat.le_all (hw.ra 0 rfl)) ho5.capz (Sat.all w) hz7) (k:=?_)
 refine ae (nxV (bo_ [1,1] gR h03) λk=>?_)
 refine hV 3 k (q:=moV) (k:=hV1 4 k (h:=λhg8=>q_fl 2 fld_89_1) (k:=hV1 5 k (h:=λhg9=>ldV 1 isAgg87 (hx:=grV hg9)) (k:=wl_ 6 rfl ?_)))
 obtain⟨z11,hz12,h⟩:=bnd h
 refine vC1 (h:=λhg10=>q_call (call_run call184 rfl rfl (args1 (grV hg10))) (λw hw=>t_span_Right (Γ:=Gh.all w) (hv_.2.2.1.2.mono hw.sat.le_all) hv_.2.2.1.1 (Sat.all w) (gc_of hz12 hg10))) (k:=?_)
 refine ae (nxV (bo_ [1,1] gR h03) λk=>?_)
 refine hV 7 k (q:=pkA) (k:=hV 8 k (q:=moV) (k:=hV1 9 k (h:=λhg13=>q_fl 2 fld_89_1) (k:=hV1 10 k (h:=λhg14=>ldV 1 isAgg87 (hx:=grV hg14)) (k:=hV1 11 k (h:=λhg15=>q_fl 0 fld_89_0) (k:=hV1 12 k (h:=λhg16=>q_fl 0 fld_86_0 rfl (grV hg16)) (k:=hV1 13 k (h:=λhg17=>ldV 1 isAgg3 (hx:=grV hg17)) (k:=hV1 15 k (h:=λhg18=>q_fl 0 fld_89_0) (k:=?_))))))))
 refine hV1 16 k (h:=λhg19=>q_fl 1 fld_86_1 rfl (grV hg19)) (k:=hV1 17 k (h:=λhg20=>ldV 1 isAgg2 (hx:=grV hg20)) (k:=wl_ 14 rfl ?_))
 obtain⟨z22,hz23,h⟩:=bnd h
 refine vC1 (h:=λhg21=>q_call (call_run call185 rfl rfl (args2 (grV hg21) (grV hg21))) (λw hw=>t_span_Top (Γ:=Gh.all w) (hv_.2.2.1.2.mono hw.sat.le_all) hv_.2.2.1.1 v_.dot.s hv_.1 (Sat.all w) (gc_of hz23 hg21))) (k:=?_)
 refine ae (nxV (bo_ [1,1] gR h03) λk=>?_)
 refine hV1 18 k (h:=λhg24=>q_lss rfl (grV hg24) (grV hg24)) (k:=hV 19 k (q:=pkA) (k:=hV 20 k (q:=moV) (k:=hV1 21 k (h:=λhg25=>q_fl 4 fld_89_3) (k:=hV1 22 k (h:=λhg26=>ldV 1 isAgg9 (hx:=grV hg26)) (k:=hV1 23 k (h:=λhg27=>q_len_str rfl underlying9 (grV hg27)) (k:=hV1 24 k (h:=λhg28=>q_leq rfl (grV hg28)) (k:=hV 25 k (q:=pkA) (k:=?_))))))))
 refine hV 26 k (q:=moV) (k:=hV1 27 k (h:=λhg29=>q_fl 3 fld_89_2) (k:=hV1 28 k (h:=λhg30=>ldV 1 isAgg4 (hx:=grV hg30)) (k:=hV1 29 k (h:=λhg31=>q_not rfl (grV hg31)) (k:=hV1 30 k (h:=λhg32=>q_move (v:=.bool (!v_.gone)) rfl (grV hg32)) (k:=?_)))))
 refine hh0 (c0:=(((z6&&z11)&&(decide (z22<v_.dot.n)))&&(decide ((v_.val.size:Int)≤256)))) (g:=(!v_.gone)) (i:=31) rfl (by kernel_rfl) rfl rfl rfl rfl rfl k (λ_=>(q_fl 4 fld_89_3)) ?_
 refine hh0 (c0:=(((z6&&z11)&&(decide (z22<v_.dot.n)))&&(decide ((v_.val.size:Int)≤256)))) (g:=(!v_.gone)) (i:=32) rfl (by kernel_rfl) rfl rfl rfl rfl rfl k (λhg34=>(ldV 1 isAgg9 (hx:=grV hg34))) ?_
 refine hh0 (c0:=(((z6&&z11)&&(decide (z22<v_.dot.n)))&&(decide ((v_.val.size:Int)≤256)))) (g:=(!v_.gone)) (i:=33) rfl (by kernel_rfl) rfl rfl rfl rfl rfl k (λhg35=>(q_seql rfl (grV hg35))) ?_
 refine hV1 34 k (h:=λhg36=>q_pick rfl (grV hg36) (pk_or (c:=(((z6&&z11)&&(decide (z22<v_.dot.n)))&&(decide ((v_.val.size:Int)≤256)))) (g:=(!v_.gone)) (y:=(v_.val==ByteArray.empty)) hg36)) (k:=hV 35 k (q:=pkA) (k:=hV 36 k (q:=aoV) (k:=?_)))
 refine am (by kernel_rfl) ?_
 change WC _ _ _ _ _ _
 exact af λw hw=>rq_ r h hF hw
theorem t_vers_before(a:Dot)(ha:Dot.fits Γ  a)(b:Dot)(hb:Dot.fits Γ  b)(hs:Sat Γ w0){r:Bool}(h:m_vers_before a b=some r):CQ Tryz.prog 132 #[.agg (Dot.cs a).toArray,.agg (Dot.cs b).toArray] w0 (.bool r):=by
 refine goQ [4] func132 ntmps132 results132 hs λF hF=>?_
 refine ab ?_
 refine bxV (v:=.agg (Dot.cs a).toArray) λg1=>?_
 refine bxV (v:=.agg (Dot.cs b).toArray) λg2=>?_
 refine aV (k:=aa (ab (sV (q_fl 0 fld_86_0) (k:=sV (ldV 1 isAgg3) (k:=sV (q_fl 0 fld_86_0) (k:=sV (ldV 0 isAgg3) (k:=sV q_lss (k:=?_))))))))
 refine mV (k:=vG0 (h:=λhg3=>q_fl 0 fld_86_0) (k:=vG0 (h:=λhg4=>ldV 1 isAgg3 (hx:=grV hg4)) (k:=vG0 (h:=λhg5=>q_fl 0 fld_86_0) (k:=vG0 (h:=λhg6=>ldV 0 isAgg3 (hx:=grV hg6)) (k:=vG0 (h:=λhg7=>q_eql rfl (grV hg7) (grV hg7)) (k:=vG0 (h:=λhg8=>q_move (v:=.bool (a.s==b.s)) rfl (grV hg8)) (k:=vh1 (c0:=(!(decide (a.s<b.s)))) (g:=(a.s==b.s)) rfl rfl rfl rfl rfl (λ_=>QV.qo (q_fl 1 fld_86_1)) ?_)))))))
 refine vh1 (c0:=(!(decide (a.s<b.s)))) (g:=(a.s==b.s)) rfl rfl rfl rfl rfl (λhg10=>QV.qo (ldV 1 isAgg2 (hx:=grV hg10))) (vh1 (c0:=(!(decide (a.s<b.s)))) (g:=(a.s==b.s)) rfl rfl rfl rfl rfl (λ_=>QV.qo (q_fl 1 fld_86_1)) (vh1 (c0:=(!(decide (a.s<b.s)))) (g:=(a.s==b.s)) rfl rfl rfl rfl rfl (λhg12=>QV.qo (ldV 0 isAgg2 (hx:=grV hg12))) (vh1 (c0:=(!(decide (a.s<b.s)))) (g:=(a.s==b.s)) rfl rfl rfl rfl rfl (λhg13=>QV.qo (q_lss rfl (grV hg13) (grV hg13))) (vG0 (h:=λhg14=>q_pick rfl (grV hg14) (pk_and (c:=(!(decide (a.s<b.s)))) (g:=(a.s==b.s)) (y:=(decide (a.n<b.n))) hg14)) (k:=sV pkO (k:=aV (k:=aa ?_)))))))
 exact af λw hw=>rq_ r h hF hw
theorem t_span_Has{Al:Option Addr}{cl:Nat}{l:List Span}(hl:Sl spanT Γ Al l)(hlc:l.length≤cl)(d:Dot)(hd:Dot.fits Γ  d)(hs:Sat Γ w0){r:Bool}(h:m_span_Has l d=some r):CQ Tryz.prog 167 #[.slice Al l.length cl,.agg (Dot.cs d).toArray] w0 (.bool r):=by
 refine goQ [4] func167 ntmps167 results167 hs λF hF=>?_
 refine ab ?_
 refine bxV (v:=.agg (Dot.cs d).toArray) λg1=>?_
 refine aV (k:=aa (ac (ab (mV (k:=sV (q_len_slice rfl underlying87) (k:=mV (k:=aa ?_)))))))
 refine ai ?_
 refine al h (λ(i3:Nat) (s:Unit) σ w=>match s with | ()=>slots σ [(3,(pq g1)),(7,.slice Al l.length cl),(8,ii (l.length:Int)),(9,ii (i3:Int))]∧CC F Γ [[(g1,.cells (Dot.cs d).toArray 86 (0,0))]] w∧True) ?_ ?_
 ·
  intro w hw
  exact⟨slK,hw,trivial⟩
 rintro f2 i3 ⟨⟩ σ w hi4 hlt5 hge6 ⟨hsl,hw,-⟩
 refine slV hsl hw [_] ?_; clear hw hsl
 refine ab (sV q_lss (k:=aa (ac ?_)))
 refine coV (λhb7=>?_) (λhb7=>?_)
 ·
  have hl8:=ilt hb7
  have h:=hlt5 hl8
  refine ag (wc_ (ac (ai (ab (sV (q_ixn (i:=i3) underlying87 sizeOf93 rfl rfl rfl hl8 (hl.some_ hl8)) (k:=sV (q_lda (c:=0) (vs:=(Span.cs (gt l i3))) (hl.spanT_at hl8).2 rfl isAgg93 sizeOf93 rfl rfl rfl) (k:=?_)))))))
  refine alV zeroValue93 λg9=>?_
  refine stV 0 (.agg (Span.cs (gt l i3)).toArray) (Span.cs (gt l i3)).toArray sizeOf93 (k:=aa (ab (sV (q_fl 0 fld_93_0) (k:=sV (ldV 0 isAgg3) (k:=sV (q_fl 0 fld_86_0) (k:=sV (ldV 1 isAgg3) (k:=sV q_eql (k:=?_))))))))
  refine mV (k:=vG1 (h:=λhg10=>q_fl 1 fld_93_1) (k:=vG1 (h:=λhg11=>ldV 0 isAgg2 (hx:=grV hg11)) (k:=vG1 (h:=λhg12=>q_fl 1 fld_86_1) (k:=vG1 (h:=λhg13=>ldV 1 isAgg2 (hx:=grV hg13)) (k:=vG1 (h:=λhg14=>q_leq rfl (grV hg14) (grV hg14)) (k:=sV pkA (k:=mV (k:=?_))))))))
  refine vG1 (h:=λhg15=>q_fl 1 fld_86_1) (k:=vG1 (h:=λhg16=>ldV 1 isAgg2 (hx:=grV hg16)) (k:=vG1 (h:=λhg17=>q_fl 2 fld_93_2) (k:=vG1 (h:=λhg18=>ldV 0 isAgg2 (hx:=grV hg18)) (k:=vG1 (h:=λhg19=>q_leq rfl (grV hg19) (grV hg19)) (k:=sV pkA (k:=aa ?_))))))
  refine ciV h (λhb20 h=>?_) (λhb20 h=>?_)
  ·
   refine ab (aV (k:=aa ?_))
   exact af λw hw=>rq_ r h hF hw
  refine ag (wc_ ?_)
  refine ah ?_
  refine sV (q_add_r rfl rfl rfl (ctr_len hl8 hl.le)) (k:=mV (k:=?_))
  exact ae λw hw=>⟨hl8,(),h,slK,(hw.on [1]),trivial⟩
 have h:=hge6 (ige hb7)
 refine aj ?_
 change WC _ _ _ _ _ _
 refine ab (aV (k:=aa ?_))
 exact af λw hw=>rq_ r h hF hw
theorem t_vers_behind(d:Dot)(hd:Dot.fits Γ  d){Al:Option Addr}{cl:Nat}{l:List Ver}(hl:Sl verT Γ Al l)(hlc:l.length≤cl)(hs:Sat Γ w0){r:Bool}(h:m_vers_behind d l=some r):CQ Tryz.prog 130 #[.agg (Dot.cs d).toArray,.slice Al l.length cl] w0 (.bool r):=by
 refine goQ [4] func130 ntmps130 results130 hs λF hF=>?_
 refine ab ?_
 refine bxV (v:=.agg (Dot.cs d).toArray) λg1=>?_
 refine aV (k:=aa (ac (ab (mV (k:=sV (q_len_slice rfl underlying43) (k:=mV (k:=aa ?_)))))))
 refine ai ?_
 refine al h (λ(i3:Nat) (s:Unit) σ w=>match s with | ()=>slots σ [(2,(pq g1)),(7,.slice Al l.length cl),(8,ii (l.length:Int)),(9,ii (i3:Int))]∧CC F Γ [[(g1,.cells (Dot.cs d).toArray 86 (0,0))]] w∧True) ?_ ?_
 ·
  intro w hw
  exact⟨slK,hw,trivial⟩
 rintro f2 i3 ⟨⟩ σ w hi4 hlt5 hge6 ⟨hsl,hw,-⟩
 refine slV hsl hw [_] ?_; clear hw hsl
 refine ab (sV q_lss (k:=aa (ac ?_)))
 refine coV (λhb7=>?_) (λhb7=>?_)
 ·
  have hl8:=ilt hb7
  have h:=hlt5 hl8
  refine ag (wc_ (ac (ai (ab (sV (q_ixn (i:=i3) underlying43 sizeOf89 rfl rfl rfl hl8 (hl.some_ hl8)) (k:=?_))))))
  obtain⟨A9,c10,hx11⟩:=hl.verT_at i3
  refine sV (q_lda (c:=0) (vs:=(Ver.cs A9 c10 (gt l i3))) (hx11 hl8).2 rfl isAgg89 sizeOf89 rfl rfl rfl) (k:=?_)
  refine alV zeroValue89 λg12=>?_
  refine stV 0 (.agg (Ver.cs A9 c10 (gt l i3)).toArray) (Ver.cs A9 c10 (gt l i3)).toArray sizeOf89 (k:=aa (ab (sV (q_fl 2 fld_89_1) (k:=sV (ldV 0 isAgg87) (k:=sV (ldaV 1 (Dot.cs d) isAgg86 sizeOf86) (k:=?_))))))
  obtain⟨z13,hz14,h⟩:=bnd h
  refine vqV (caV call167) (λw hw=>t_span_Has (Γ:=Gh.all w) ((hx11 hl8).1.2.2.1.2.mono hw.sat.le_all) (hx11 hl8).1.2.2.1.1 d hd (Sat.all w) hz14) (k:=aa ?_)
  refine ciV h (λhb15 h=>?_) (λhb15 h=>?_)
  ·
   refine ab (aV (k:=aa ?_))
   exact af λw hw=>rq_ r h hF hw
  refine ag (wc_ ?_)
  refine ah ?_
  refine sV (q_add_r rfl rfl rfl (ctr_len hl8 hl.le)) (k:=mV (k:=?_))
  exact ae λw hw=>⟨hl8,(),h,slK,(hw.on [1]),trivial⟩
 have h:=hge6 (ige hb7)
 refine aj ?_
 change WC _ _ _ _ _ _
 refine ab (aV (k:=aa ?_))
 exact af λw hw=>rq_ r h hF hw
theorem t_vers_Right{Al:Option Addr}{cl:Nat}{l:List Ver}(hl:Sl verT Γ Al l)(hlc:l.length≤cl)(hs:Sat Γ w0){r:Bool}(h:m_vers_Right l=some r):CQ Tryz.prog 111 #[.slice Al l.length cl] w0 (.bool r):=by
 refine goQ [2] func111 ntmps111 results111 hs λF hF=>?_
 refine ab (aV (k:=aa (ac (ab (mV (k:=sV (q_len_slice rfl underlying43) (k:=mV (k:=?_))))))))
 refine aa (ai ?_)
 refine al h (λ(i2:Nat) (s:Unit) σ w=>match s with | ()=>slots σ [(0,.slice Al l.length cl),(5,.slice Al l.length cl),(6,ii (l.length:Int)),(7,ii (i2:Int))]∧CC F Γ [] w∧True) ?_ ?_
 ·
  intro w hw
  exact⟨slK,hw,trivial⟩
 rintro f1 i2 ⟨⟩ σ w hi3 hlt4 hge5 ⟨hsl,hw,-⟩
 refine slV hsl hw [] ?_; clear hw hsl
 refine ab (sV q_lss (k:=aa (ac ?_)))
 refine coV (λhb6=>?_) (λhb6=>?_)
 ·
  have hl7:=ilt hb6
  have h:=hlt4 hl7
  refine ag (wc_ (ac (ai (ab (mV (k:=sV (q_ixn (i:=i2) underlying43 sizeOf89 rfl rfl rfl hl7 (hl.some_ hl7)) (k:=?_)))))))
  obtain⟨A8,c9,hx10⟩:=hl.verT_at i2
  refine sV (q_lda (c:=0) (vs:=(Ver.cs A8 c9 (gt l i2))) (hx10 hl7).2 rfl isAgg89 sizeOf89 rfl rfl rfl) (k:=?_)
  refine alV zeroValue89 λg11=>?_
  refine aV (k:=stV 0 (.agg (Ver.cs A8 c9 (gt l i2)).toArray) (Ver.cs A8 c9 (gt l i2)).toArray sizeOf89 (k:=aa (ac ?_)))
  refine drV ?_
  refine zV (ldaV 0 (Ver.cs A8 c9 (gt l i2)) isAgg89 sizeOf89) (k:=?_)
  obtain⟨z12,hz13,h⟩:=bnd h
  refine wc rfl rfl rfl (q_call (caV call150) (λw hw=>t_vers_RightOne (Γ:=Gh.all w) (gt l i2) (Ver.fits_mono (hx10 hl7).1 hw.sat.le_all) (Sat.all w) hz13)) (zV q_not (k:=zV moV (k:=wG0 (h:=λhg14=>moV) (k:=wG0 (h:=λhg15=>q_gtr rfl (grV hg15)) (k:=wG0 (h:=λhg16=>q_move (v:=.bool (decide (0<(i2:Int)))) rfl (grV hg16)) (k:=wh1 (c0:=(!(!z12))) (g:=(decide (0<(i2:Int)))) rfl rfl rfl rfl rfl (λ_=>QV.qo moV) (wh1 (c0:=(!(!z12))) (g:=(decide (0<(i2:Int)))) rfl rfl rfl rfl rfl (λ_=>QV.qo moV) ?_)))))))
  refine wh1 (c0:=(!(!z12))) (g:=(decide (0<(i2:Int)))) rfl rfl rfl rfl rfl (λhg19=>QV.qo (q_sub rfl (grV hg19))) ?_
  obtain⟨hk21,h⟩:=chk_some h
  refine wh1 (c0:=(!(!z12))) (g:=(decide (0<(i2:Int)))) rfl rfl rfl rfl rfl (λhg20=>QV.qo (q_ix underlying43 sizeOf89 rfl (grV hg20) (grV hg20) (imp_of hk21 hg20) (hl.some_ (inb_lt (imp_of hk21 hg20))))) (wh1 (c0:=(!(!z12))) (g:=(decide (0<(i2:Int)))) rfl rfl rfl rfl rfl (λhg22=>QV.qo (q_field_addr (((w64 ((i2:Int) - 1)).toNat)*5) fld_89_0 rfl (grV hg22) (hl.some_ (inb_lt (imp_of hk21 hg22))) rfl)) ?_)
  obtain⟨A24,c25,hx26⟩:=hl.verT_at ((w64 ((i2:Int) - 1)).toNat)
  refine wh1 (c0:=(!(!z12))) (g:=(decide (0<(i2:Int)))) rfl rfl rfl rfl rfl (λhg23=>QV.qo (q_lda (c:=0) (vs:=[ii (gt l ((w64 ((i2:Int) - 1)).toNat)).dot.s,ii (gt l ((w64 ((i2:Int) - 1)).toNat)).dot.n]) (hx26 (inb_lt (imp_of hk21 hg23))).2 rfl isAgg86 sizeOf86 (grV hg23) rfl rfl)) (wh1 (c0:=(!(!z12))) (g:=(decide (0<(i2:Int)))) rfl rfl rfl rfl rfl (λ_=>QV.qo (q_fl 0 fld_89_0)) (wh1 (c0:=(!(!z12))) (g:=(decide (0<(i2:Int)))) rfl rfl rfl rfl rfl (λhg28=>QV.qo (ldaV 0 [ii (gt l i2).dot.s,ii (gt l i2).dot.n] isAgg86 sizeOf86 (hx:=grV hg28))) ?_))
  obtain⟨z30,hz31,h⟩:=bnd h
  refine wh1 (c0:=(!(!z12))) (g:=(decide (0<(i2:Int)))) rfl rfl rfl rfl rfl (λhg29=>(q_call (call_run call132 rfl rfl (args2 (grV hg29) (grV hg29))) (λw hw=>t_vers_before (Γ:=Gh.all w) ((gt l ((w64 ((i2:Int) - 1)).toNat)).dot) ⟨(hx26 (inb_lt (imp_of hk21 hg29))).1.1,(hx26 (inb_lt (imp_of hk21 hg29))).1.2.1⟩ ((gt l i2).dot) ⟨(hx10 hl7).1.1,(hx10 hl7).1.2.1⟩ (Sat.all w) (gc_of hz31 hg29)))) (wh1 (c0:=(!(!z12))) (g:=(decide (0<(i2:Int)))) rfl rfl rfl rfl rfl (λhg32=>QV.qo (q_not rfl (grV hg32))) (wG0 (h:=λhg33=>q_pick rfl (grV hg33) (pk_and (c:=(!(!z12))) (g:=(decide (0<(i2:Int)))) (y:=(!z30)) hg33)) (k:=zV pkO (k:=zV moV (k:=wG0 (h:=λhg34=>q_fl 0 fld_89_0) (k:=wG0 (h:=λhg35=>ldaV 0 [ii (gt l i2).dot.s,ii (gt l i2).dot.n] isAgg86 sizeOf86 (hx:=grV hg35)) (k:=wG0 (h:=λhg36=>moV) (k:=?_))))))))
  obtain⟨z38,hz39,h⟩:=bnd h
  refine wC0 (h:=λhg37=>q_call (call_run call130 rfl rfl (args2 (grV hg37) (grV hg37))) (λw hw=>t_vers_behind (Γ:=Gh.all w) ((gt l i2).dot) ⟨(hx10 hl7).1.1,(hx10 hl7).1.2.1⟩ (hl.mono hw.sat.le_all) hlc (Sat.all w) (gc_of hz39 hg37))) (k:=zV pkO (k:=?_))
  refine ao ?_
  change WC _ _ _ _ _ _
  refine ciV h (λhb40 h=>?_) (λhb40 h=>?_)
  ·
   refine ab (aV (k:=aa ?_))
   exact af λw hw=>rq_ r h hF hw
  refine ag (wc_ ?_)
  refine ah ?_
  refine sV (q_add_r rfl rfl rfl (ctr_len hl7 hl.le)) (k:=mV (k:=?_))
  exact ae λw hw=>⟨hl7,(),h,slK,(hw.on []),trivial⟩
 have h:=hge5 (ige hb6)
 refine aj ?_
 change WC _ _ _ _ _ _
 refine ab (mV (k:=sV (q_len_slice rfl underlying43) (k:=sV q_leq (k:=aV (k:=aa ?_)))))
 exact af λw hw=>rq_ r h hF hw
theorem t_code_RightRec{Ar_1:Option Addr}{cr_1:Nat}(r_:Rec)(hr_:Rec.fits Γ Ar_1 cr_1 r_)(hs:Sat Γ w0){r:Bool}(h:m_code_RightRec r_=some r):CQ Tryz.prog 69 #[.agg (Rec.cs Ar_1 cr_1 r_).toArray] w0 (.bool r):=by
 refine goQ [2] func69 ntmps69 results69 hs λF hF=>?_
 refine ab ?_
 refine bxV (v:=.agg (Rec.cs Ar_1 cr_1 r_).toArray) λg1=>?_
 refine aV (k:=aa (ab (sV (q_fl 0 fld_45_0) (k:=sV (ldV 0 isAgg9) (k:=sV (q_len_str rfl underlying9) (k:=sV q_geq (k:=mV (k:=?_))))))))
 refine vG1 (h:=λhg2=>q_fl 0 fld_45_0) (k:=vG1 (h:=λhg3=>ldV 0 isAgg9 (hx:=grV hg3)) (k:=vG1 (h:=λhg4=>q_len_str rfl underlying9 (grV hg4)) (k:=vG1 (h:=λhg5=>q_leq rfl (grV hg5)) (k:=sV pkA (k:=mV (k:=vG1 (h:=λhg6=>q_fl 1 fld_45_1) (k:=vG1 (h:=λhg7=>ldV 0 isAgg43 (hx:=grV hg7)) (k:=?_))))))))
 obtain⟨z9,hz10,h⟩:=bnd h
 refine vC1 (h:=λhg8=>q_call (call_run call111 rfl rfl (args1 (grV hg8))) (λw hw=>t_vers_Right (Γ:=Gh.all w) (hr_.2.2.mono hw.sat.le_all) hr_.2.1 (Sat.all w) (gc_of hz10 hg8))) (k:=sV pkA (k:=aV (k:=aa ?_)))
 exact af λw hw=>rq_ r h hF hw
abbrev r_code_whole_api_Rec(r:Rec×Int)(U:List Rowb)(Γ:Gh)(v:Value):Prop := ∃(A0_1:Option Addr), ∃(c0_1:Nat),v = .tuple #[.agg #[.string r.1.key,.slice A0_1 r.1.vers.length c0_1],.int .i64 r.2]∧U = []∧Rec.fits Γ A0_1 c0_1 r.1∧I64 r.2∧True
theorem t_code_whole_api_Rec{Ab:Option Addr}{cb:Nat}{b:List UInt8}(hb:Sl byteT Γ Ab b)(hbc:b.length≤cb)(hp:Pre [] Γ w0){r:Rec×Int}(h:m_code_whole_api_Rec b=some r):Calls Tryz.prog 93 #[.slice Ab b.length cb,.func (.func 94) #[] #[],.func (.func 69) #[] #[]] w0 (Outc Γ [] w0 (r_code_whole_api_Rec r)):=by
 refine calls_door (n:=32) (args:=[.slice Ab b.length cb,.func (.func 94) #[] #[],.func (.func 69) #[] #[]]) func93 rfl ntmps93 rfl ?_
 obtain⟨F,hF⟩:∃F:Fm,F=⟨ids [],w0,Γ⟩:=⟨_,rfl⟩
 refine WX.here (C:=CC F Γ []) ?_ (hF▸hp.start)
 refine WX.seq ?_
 refine ah ?_
 refine alV zeroValue45 λg1=>?_
 refine alV zeroValue28 λg2=>?_
 refine ae ?_
 change WX _ _ _ _ _ _ _
 refine WX.defer (v:=.func (.func 125) #[] #[(pq g1),(pq g2)]) (d:=⟨.fn (.func 125) #[(pq g1),(pq g2)], #[]⟩) rfl rfl rfl rfl (q_mkfn (v:=.func (.func 125) #[] #[(pq g1),(pq g2)]) rfl (by kernel_rfl)) (run_defer rfl rfl) ?_
 refine WX.last ?_
 change WC _ _ _ _ _ _
 refine ab (mV (k:=sV (q_build' (v:=.agg #[.slice Ab b.length cb,ii 0]) rfl (bargs1 rfl) (λw=>by kernel_rfl)) (k:=?_)))
 refine bxV (v:=.agg #[.slice Ab b.length cb,ii 0]) λg3=>?_
 refine aV (k:=aa (ab (mU (v:=.func (.func 94) #[] #[]) (k:=mV (k:=?_)))))
 obtain⟨row_4,hrow_4,hob_4⟩:∃rw:Rowb,rw=([[(g3,.cells #[.slice Ab b.length cb,ii 0] 194 (0,0))]]:List Rowb).flatten∧Ocode_reader.ob 194 Γ g3 rw (⟨b,0⟩:Ocode_reader):=⟨_,rfl,Ab,cb,rfl,hbc,hb,iV,trivial⟩
 refine foR [0] hrow_4 [_,_,_] ?_
 obtain⟨z5,hz6,h⟩:=bnd h
 rcases z5 with _ | o7
 ·
  have h:=optm_n rfl h
  refine e_callN (is:=[0]) rfl (call_run_fv (caps:=#[]) call94 rfl (by kernel_rfl) (by kernel_rfl)) rfl (λw hp=>t_code_reader_rec hob_4 hp hz6) ?_
  intro Γ8 hl9
  change ∀w,CC F Γ8 [[(g2,.cells #[ii 0] 28 (0,0))],[(g1,.cells #[.string ByteArray.empty,.slice none 0 0] 45 (0,0))]] w→_
  obtain⟨z10,hz11,h⟩:=bnd h
  refine door_panic (rs:=[.cell 6 45,.cell 7 28]) (is:=[1,0]) results93 (invoke_fn call125) rfl rfl (λw hp=>t_code_whole_api_Rec_1 ByteArray.empty (show (ByteArray.empty:ByteArray).size≤lim by decide) (Sl.nil verT _ none) (Nat.zero_le 0) 0 iV hp hz11) ?_
  rintro Γ12 _ _ hl13 ⟨A17,c18,rfl,rfl,hr16,hc20,hr19,hr21,_⟩
  change WRt _ _ _ (CC F Γ12 [_,_]) _
  unfold WRt
  intro w hw
  cases h
  subst hF
  exact⟨[.agg #[.string z10.1,.slice A17 z10.2.1.length c18],ii z10.2.2],(rr_agg (i:=0) (us:=[.string z10.1,.slice A17 z10.2.1.length c18]) hw rfl isAgg45 sizeOf45 (by kernel_rfl) rfl (rr_cell (i:=1) hw rfl isAgg28 (by kernel_rfl) rfl rr_nil)),end_e (is:=[]) (by kernel_rfl) hw rfl ⟨A17,c18,rfl,rfl,⟨hr16,⟨hc20,hr19⟩⟩,hr21,trivial⟩⟩
 have h:=optm_s rfl h
 refine ecV [0] (call_run_fv (caps:=#[]) call94 rfl (by kernel_rfl) (by kernel_rfl)) (λw hp=>t_code_reader_rec hob_4 hp hz6) ?_
 rintro Γ22 _ _ hl23 ⟨row26,A28,c29,rfl,rfl,hr27,hr30,_⟩
 refine cwV 15 [_,_,_] (stV 2 (.agg (Rec.cs A28 c29 o7.2).toArray) (Rec.cs A28 c29 o7.2).toArray sizeOf45 (k:=aa ?_))
 refine ar (λσ w=>m_code_whole_api_Rec_j1 o7  = some r∧slots σ [(6,(pq g1)),(7,(pq g2))]∧CC F Γ22 [row26,[(g2,.cells #[ii 0] 28 (0,0))],[(g1,.cells (Rec.cs A28 c29 o7.2).toArray 45 (0,0))]] w∧True) ?_ ?_
 ·
  refine ab (mV (k:=sV nlV (k:=sV (q_fl 1 fld_194_1) (k:=?_))))
  obtain⟨A0_31,c0_31,hrow_31,ho0_31,ho1_31,ho2_31,-⟩:=id hr27
  refine ufR 0 hrow_31 [_,_,_] ?_
  refine sV (ldV 0 isAgg3) (k:=mV (k:=sV (q_len_slice rfl underlying77) (k:=sV q_neq (k:=mV (k:=vG0 (h:=λhg32=>q_move (v:=.func (.func 69) #[] #[]) rfl (by kernel_rfl)) (k:=vG0 (h:=λhg33=>ldaV 2 (Rec.cs A28 c29 o7.2) isAgg45 sizeOf45) (k:=?_)))))))
  obtain⟨z35,hz36,h⟩:=bnd h
  refine vC0 (h:=λhg34=>q_call (call_run_fv (caps:=#[]) (args:=#[.agg (Rec.cs A28 c29 o7.2).toArray]) call69 rfl (grV hg34) ((congrArg (· ++ #[]) (args1 (grV hg34))).trans (by kernel_rfl))) (λw hw=>t_code_RightRec (Γ:=Gh.all w) o7.2 (Rec.fits_mono hr30 hw.sat.le_all) (Sat.all w) (gc_of hz36 hg34))) (k:=vG0 (h:=λhg37=>q_not rfl (grV hg37)) (k:=sV pkO (k:=aa ?_)))
  refine ciV h (λhb38 h=>?_) (λhb38 h=>?_)
  ·
   refine ah ?_
   refine sV (q_build (v:=.agg #[]) rfl (λw=>by kernel_rfl)) (k:=sV (q_iface rfl rfl (λw=>mkif underlying192 w)) (k:=?_))
   refine e_panic (v:=.iface 192 (.agg #[])) rfl (run_panicop rfl rfl) ?_
   change ∀w,CC F Γ22 [[(g3,.cells #[.slice A0_31 o7.1.b.length c0_31,ii o7.1.at_] 194 (0,0))],[(g2,.cells #[ii 0] 28 (0,0))],[(g1,.cells (Rec.cs A28 c29 o7.2).toArray 45 (0,0))]] w→_
   obtain⟨z41,hz42,h⟩:=bnd h
   refine door_panic (rs:=[.cell 6 45,.cell 7 28]) (is:=[2,1]) results93 (invoke_fn call125) rfl rfl (λw hp=>t_code_whole_api_Rec_1 o7.2.key hr30.1 hr30.2.2 hr30.2.1 0 iV hp hz42) ?_
   rintro Γ43 _ _ hl44 ⟨A48,c49,rfl,rfl,hr47,hc51,hr50,hr52,_⟩
   change WRt _ _ _ (CC F Γ43 [_,_,_]) _
   unfold WRt
   intro w hw
   cases h
   subst hF
   exact⟨[.agg #[.string z41.1,.slice A48 z41.2.1.length c49],ii z41.2.2],(rr_agg (i:=0) (us:=[.string z41.1,.slice A48 z41.2.1.length c49]) hw rfl isAgg45 sizeOf45 (by kernel_rfl) rfl (rr_cell (i:=1) hw rfl isAgg28 (by kernel_rfl) rfl rr_nil)),end_e (is:=[]) (by kernel_rfl) hw rfl ⟨A48,c49,rfl,rfl,⟨hr47,⟨hc51,hr50⟩⟩,hr52,trivial⟩⟩
  refine ag ?_
  intro w hw
  have hw:=hw.fold (is:=[0]) rfl hrow_31
  exact⟨h,slK,hw,trivial⟩
 rintro σ w ⟨h,hsl,hw,-⟩
 refine slV hsl hw [_,_,_] ?_; clear hw hsl
 refine ab (sV (ldaV 2 (Rec.cs A28 c29 o7.2) isAgg45 sizeOf45) (k:=stV 2 (.agg (Rec.cs A28 c29 o7.2).toArray) (Rec.cs A28 c29 o7.2).toArray sizeOf45 (k:=stV 1 (ii 0) #[ii 0] sizeOf28 (k:=aa ?_))))
 refine af ?_
 refine door_ret (rs:=[.cell 6 45,.cell 7 28]) results93 (invoke_fn call125) (idle_125 ((pq g1)) ((pq g2))) ?_
 unfold WRt
 intro w hw
 cases h
 subst hF
 exact⟨[.agg (Rec.cs A28 c29 o7.2).toArray,ii 0],(rr_agg (i:=2) (us:=(Rec.cs A28 c29 o7.2)) hw rfl isAgg45 sizeOf45 (by kernel_rfl) rfl (rr_cell (i:=1) hw rfl isAgg28 (by kernel_rfl) rfl rr_nil)),end_e (is:=[]) (by kernel_rfl) hw rfl ⟨A28,c29,rfl,rfl,hr30,iV,trivial⟩⟩
abbrev r_code_reader_text_l1(Bo:Gh)(gr_:Nat)(er_:Nat)(r:Ocode_reader×ByteArray)(U:List Rowb)(Γ:Gh)(v:Value):Prop := ∃(rowr_':Rowb),v = .string r.2∧U = [rowr_']∧Ocode_reader.ob er_ Bo gr_ rowr_' r.1∧r.2.size≤lim∧True
theorem t_code_reader_text_l1{Bo:Gh}{gr_ er_:Nat}{rowr_:Rowb}{r_:Ocode_reader}(hr_:Ocode_reader.ob er_ Bo gr_ rowr_ r_)(hp:Pre [rowr_] Γ w0)(hpO:Pre [rowr_] Bo w0){r:Option (Ocode_reader×ByteArray)}(h:m_code_reader_text r_=some r):Calls Tryz.prog 126 #[(pq gr_)] w0 (OutcT [{ v:=(.iface 192 (.agg #[])),recovered:=false }] Γ [rowr_] w0 (λr=>r_code_reader_text_l1 Bo gr_ er_ r) r):=by
 refine goV [2] func126 ntmps126 results126 hp λF hF=>?_
 have hO:Lent F Bo:=hF▸Lent.start hpO
 refine ab (aV (k:=aa (ac ?_)))
 obtain⟨A0_1,c0_1,hrow_1,ho0_1,ho1_1,ho2_1,-⟩:=id hr_
 refine ufC 0 hrow_1 [_] ?_
 refine drV ?_
 refine zV moV (k:=zV nlV (k:=zV (q_fl 0 fld_194_0) (k:=zV (ldV 0 isAgg77) (k:=zV moV (k:=zV nlV (k:=zV (q_fl 1 fld_194_1) (k:=zV (ldV 0 isAgg3) (k:=?_))))))))
 refine zV moV (k:=zV nlV (k:=zV (q_fl 0 fld_194_0) (k:=zV (ldV 0 isAgg77) (k:=zV (q_len_slice rfl underlying77) (k:=?_)))))
 obtain⟨z2,hz3,h⟩:=bnd h
 refine wc rfl rfl rfl (q_call (caV call162) (λw hw=>t_num_Text (Γ:=Gh.all w) (ho1_1.mono ((λw hw=>hO.sat hw) w hw).le_all) ho0_1 r_.at_ ho2_1 (r_.b.length:Int) (len_r ho1_1.le) (Sat.all w) hz3)) (zV moV (k:=zV exV (k:=zV exV (k:=zV exV (k:=zV aoV (k:=zV aoV (k:=zV aoV (k:=?_))))))))
 refine ao ?_
 change WC _ _ _ _ _ _
 refine foC [0] hrow_1 [_] ?_
 refine ar (λσ w=>m_code_reader_text_j1 r_ z2  = some r∧slots σ [(0,(pq gr_)),(3,.string z2.1),(4,ii z2.2.1)]∧CC F Γ [rowr_] w∧True) ?_ ?_
 ·
  refine ab (mV (k:=sV q_neq (k:=aa ?_)))
  refine ciV h (λhb5 h=>?_) (λhb5 h=>?_)
  ·
   refine ah ?_
   refine sV (q_build (v:=.agg #[]) rfl (λw=>by kernel_rfl)) (k:=sV (q_iface rfl rfl (λw=>mkif underlying192 w)) (k:=?_))
   refine e_panic (v:=.iface 192 (.agg #[])) rfl (run_panicop rfl rfl) ?_
   intro w hw
   cases h
   subst hF
   first | exact end_t hw | exact λ_=>end_t hw
  exact ag λw hw=>⟨h,slK,hw,trivial⟩
 rintro σ w ⟨h,hsl,hw,-⟩
 refine slV hsl hw [_] ?_; clear hw hsl
 refine ab (mV (k:=mV (k:=sV nlV (k:=sV (q_fl 1 fld_194_1) (k:=?_)))))
 obtain⟨A0_8,c0_8,hrow_8,ho0_8,ho1_8,ho2_8,-⟩:=id hr_
 refine ufR 0 hrow_8 [_] ?_
 refine stV 0 (ii z2.2.1) #[.slice A0_8 r_.b.length c0_8,ii z2.2.1] sizeOf3 (k:=aa (ab (mV (k:=aV (k:=aa ?_)))))
 refine af ?_
 intro w hw
 obtain⟨hk10,h⟩:=chk_some h
 obtain⟨row_9,hrow_9,hob_9⟩:∃rw:Rowb,rw=([[(gr_,.cells #[.slice A0_8 r_.b.length c0_8,ii z2.2.1] er_ (0,0))]]:List Rowb).flatten∧Ocode_reader.ob er_ Bo gr_ rw (⟨r_.b,z2.2.1⟩:Ocode_reader):=⟨_,rfl,A0_8,c0_8,rfl,ho0_8,ho1_8,(i64b_of hk10),trivial⟩
 have hw:=hw.fold (is:=[0]) rfl hrow_9
 obtain⟨hk11,h⟩:=chk_some h
 cases h
 subst hF
 exact end_e (is:=[0]) (by kernel_rfl) hw rfl ⟨row_9,rfl,rfl,hob_9,(of_decide_eq_true hk11),trivial⟩
abbrev r_code_reader_num_l1(Bo:Gh)(gr_:Nat)(er_:Nat)(r:Ocode_reader×Int)(U:List Rowb)(Γ:Gh)(v:Value):Prop := ∃(rowr_':Rowb),v = .int .i64 r.2∧U = [rowr_']∧Ocode_reader.ob er_ Bo gr_ rowr_' r.1∧I64 r.2∧True
theorem t_code_reader_num_l1{Bo:Gh}{gr_ er_:Nat}{rowr_:Rowb}{r_:Ocode_reader}(hr_:Ocode_reader.ob er_ Bo gr_ rowr_ r_)(hp:Pre [rowr_] Γ w0)(hpO:Pre [rowr_] Bo w0){r:Option (Ocode_reader×Int)}(h:m_code_reader_num r_=some r):Calls Tryz.prog 163 #[(pq gr_)] w0 (OutcT [{ v:=(.iface 192 (.agg #[])),recovered:=false }] Γ [rowr_] w0 (λr=>r_code_reader_num_l1 Bo gr_ er_ r) r):=by
 refine goV [2] func163 ntmps163 results163 hp λF hF=>?_
 have hO:Lent F Bo:=hF▸Lent.start hpO
 refine ab (aV (k:=aa (ac ?_)))
 obtain⟨A0_1,c0_1,hrow_1,ho0_1,ho1_1,ho2_1,-⟩:=id hr_
 refine ufC 0 hrow_1 [_] ?_
 refine drV ?_
 refine zV moV (k:=zV nlV (k:=zV (q_fl 0 fld_194_0) (k:=zV (ldV 0 isAgg77) (k:=zV moV (k:=zV nlV (k:=zV (q_fl 1 fld_194_1) (k:=zV (ldV 0 isAgg3) (k:=?_))))))))
 obtain⟨z2,hz3,h⟩:=bnd h
 refine wc rfl rfl rfl (q_call (caV call120) (λw hw=>t_num_Num (Γ:=Gh.all w) (ho1_1.mono ((λw hw=>hO.sat hw) w hw).le_all) ho0_1 r_.at_ ho2_1 (Sat.all w) hz3)) (zV moV (k:=zV exV (k:=zV exV (k:=zV exV (k:=zV aoV (k:=zV aoV (k:=zV aoV (k:=?_))))))))
 refine ao ?_
 change WC _ _ _ _ _ _
 refine foC [0] hrow_1 [_] ?_
 refine ar (λσ w=>m_code_reader_num_j1 r_ z2  = some r∧slots σ [(0,(pq gr_)),(3,ii z2.1),(4,ii z2.2.1)]∧CC F Γ [rowr_] w∧True) ?_ ?_
 ·
  refine ab (mV (k:=sV q_neq (k:=aa ?_)))
  refine ciV h (λhb5 h=>?_) (λhb5 h=>?_)
  ·
   refine ah ?_
   refine sV (q_build (v:=.agg #[]) rfl (λw=>by kernel_rfl)) (k:=sV (q_iface rfl rfl (λw=>mkif underlying192 w)) (k:=?_))
   refine e_panic (v:=.iface 192 (.agg #[])) rfl (run_panicop rfl rfl) ?_
   intro w hw
   cases h
   subst hF
   first | exact end_t hw | exact λ_=>end_t hw
  exact ag λw hw=>⟨h,slK,hw,trivial⟩
 rintro σ w ⟨h,hsl,hw,-⟩
 refine slV hsl hw [_] ?_; clear hw hsl
 refine ab (mV (k:=mV (k:=sV nlV (k:=sV (q_fl 1 fld_194_1) (k:=?_)))))
 obtain⟨A0_8,c0_8,hrow_8,ho0_8,ho1_8,ho2_8,-⟩:=id hr_
 refine ufR 0 hrow_8 [_] ?_
 refine stV 0 (ii z2.2.1) #[.slice A0_8 r_.b.length c0_8,ii z2.2.1] sizeOf3 (k:=aa (ab (mV (k:=aV (k:=aa ?_)))))
 refine af ?_
 intro w hw
 obtain⟨hk10,h⟩:=chk_some h
 obtain⟨row_9,hrow_9,hob_9⟩:∃rw:Rowb,rw=([[(gr_,.cells #[.slice A0_8 r_.b.length c0_8,ii z2.2.1] er_ (0,0))]]:List Rowb).flatten∧Ocode_reader.ob er_ Bo gr_ rw (⟨r_.b,z2.2.1⟩:Ocode_reader):=⟨_,rfl,A0_8,c0_8,rfl,ho0_8,ho1_8,(i64b_of hk10),trivial⟩
 have hw:=hw.fold (is:=[0]) rfl hrow_9
 obtain⟨hk11,h⟩:=chk_some h
 cases h
 subst hF
 exact end_e (is:=[0]) (by kernel_rfl) hw rfl ⟨row_9,rfl,rfl,hob_9,(i64b_of hk11),trivial⟩
abbrev r_code_reader_int_l1(Bo:Gh)(gr_:Nat)(er_:Nat)(r:Ocode_reader×Int)(U:List Rowb)(Γ:Gh)(v:Value):Prop := ∃(rowr_':Rowb),v = .int .i64 r.2∧U = [rowr_']∧Ocode_reader.ob er_ Bo gr_ rowr_' r.1∧I64 r.2∧True
theorem t_code_reader_int_l1{Bo:Gh}{gr_ er_:Nat}{rowr_:Rowb}{r_:Ocode_reader}(hr_:Ocode_reader.ob er_ Bo gr_ rowr_ r_)(hp:Pre [rowr_] Γ w0)(hpO:Pre [rowr_] Bo w0){r:Option (Ocode_reader×Int)}(h:m_code_reader_int r_=some r):Calls Tryz.prog 164 #[(pq gr_)] w0 (OutcT [{ v:=(.iface 192 (.agg #[])),recovered:=false }] Γ [rowr_] w0 (λr=>r_code_reader_int_l1 Bo gr_ er_ r) r):=by
 refine goV [2] func164 ntmps164 results164 hp λF hF=>?_
 have hO:Lent F Bo:=hF▸Lent.start hpO
 refine ab (aV (k:=aa (ab (mV (k:=?_)))))
 obtain⟨z1,hz2,h⟩:=bnd h
 rcases z1 with _ | o3
 ·
  have h:=optm_n rfl h
  refine e_callNW (is:=[0]) rfl (caV call163) rfl (λw hw hp=>t_code_reader_num_l1 hr_ hp (hO.pre (is:=[0]) hw rfl) hz2) ?_
  intro Γ4 hl5
  intro w hw
  cases h
  subst hF
  first | exact end_t hw | exact λ_=>end_t hw
 have h:=optm_s rfl h
 refine e_callW (is:=[0]) rfl rfl (caV call163) rfl (λw hw hp=>t_code_reader_num_l1 hr_ hp (hO.pre (is:=[0]) hw rfl) hz2) ?_
 rintro Γ6 _ _ hl7 ⟨row10,rfl,rfl,hr11,hr12,_⟩
 refine cwV 4 [_] (aV (k:=aa ?_))
 refine af ?_
 intro w hw
 cases h
 subst hF
 exact end_e (is:=[0]) (by kernel_rfl) hw rfl ⟨row10,rfl,rfl,hr11,hr12,trivial⟩
end Fw
end Go.Proofs.YtckindfllegbgaaGreat
