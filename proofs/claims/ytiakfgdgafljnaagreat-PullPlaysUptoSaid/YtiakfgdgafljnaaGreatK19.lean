/- More effects: a string appended to bytes, a part of an element stored, arrays as rows: loaded whole, sliced, copied into. No condition. -/
import Derived.Test.YtiakfgdgafljnaaGreatK14
import Derived.Lib.AppendStr
import Derived.Laws.CopyRow
import Derived.Laws.IdiomCopy
namespace Go.Proofs.YtiakfgdgafljnaaGreat
namespace Fw
set_option linter.unusedVariables false
set_option linter.unusedSimpArgs false
set_option linter.unusedSectionVars false
open Go.RowKit
/-! ### a string appended to bytes -/
theorem append_draw_str{P:Program}{w w':World}{t u ty e:TypeId}{i:TypeInfo}(ht:P.underlying t=some (.slice e))(hu:P.underlying u=some .string)(hi:P.info? e=some i)(hz:i.zero=some (.int .u8 0))(hsize:i.size=1)(hby:i.bytes=1)
    {v v':Value} {n:Nat} {xs:List Value} (hown:w.ownsRow 0 e 1 v n xs) {s:ByteArray} (h63:n+s.size≤maxLen) (hbytes:n+s.size≤140737488355328) (hrun:(Builtin.append_ #[t,u] ty #[v,.string s]).run P w = .ok v' w'):w.drawn≤w'.drawn∧(v'.ownBlock=v.ownBlock∨v'.ownBlock=some w.heap.size):=by
  have hxl:xs.length=n:=by simpa using hown.1
  have hsmall:n+s.size≤9223372036854775807:=by simp only [maxLen] at h63; omega
  rcases hown.2 with ⟨rfl,rfl⟩ | ⟨g,cap,cur,rfl,hbg,hg,hnc,hcm,hcs,htake⟩
  · by_cases hm:s.size=0
    · have hf:=Lib.run_firstCells_string (P:=P) w 1 s
      rw [hm] at hf
      have hn:Lib.strCells s = []:=List.eq_nil_of_length_eq_zero (by rw [Lib.strCells_length]; exact hm)
      have hrun2:(Builtin.append_ #[t,u] ty #[.slice none 0 0,.string s]).run P w = .ok (.slice none 0 0) w:=by
        simp [Builtin.append_,run_underlying ht,run_underlying hu,sizeOf,typeInfo,hi,hsize,Builtin.lenOf,hm,hf]
      rw [hrun2] at hrun
      injection hrun with h0 h; subst h0 h
      exact⟨Nat.le_refl _,.inl rfl⟩
    · have hr:=run_append_nil_string (P:=P) w t u ty e i (.int .u8 0) ht hu hi hz s (by omega) (by omega) (by rw [hby]; omega)
      rw [hr] at hrun
      injection hrun with h0 h; subst h0 h
      exact⟨Nat.le_succ w.drawn,.inr rfl⟩
  · by_cases hroom:n+s.size≤cap
    · have hcs':cur.size=cap:=by simpa using hcs
      have hr:=Lib.run_append_room_string (P:=P) w t u ty e i ht hu hi hsize g n cap cur hg s hroom (by omega)
      rw [hr] at hrun
      injection hrun with h0 h; subst h0 h
      exact⟨Nat.le_refl _,.inl rfl⟩
    · have holds:∀j u,xs[j]? = some u→w.cell? ((⟨g,0,none⟩:Addr).add j)=some u:=hown.cells (g:=g) rfl
      have hr:=Lib.run_append_grow_string (P:=P) w t u ty e i (.int .u8 0) ht hu hi hz ⟨g,0,none⟩ n cap xs (by rw [hsize]; simpa using hxl) holds s (by omega) (by omega) (by rw [hby]; exact growslice_fits (by omega) (by omega))
      rw [hr] at hrun
      injection hrun with h0 h; subst h0 h
      exact⟨Nat.le_succ w.drawn,.inr rfl⟩
theorem flatten_take1{β:Type}:∀{css:List (List β)} (h:∀c∈css,c.length=1) (n:Nat),(css.take n).flatten=css.flatten.take n
  | [],_,n=>by simp
  | c::css,h,0=>by simp
  | c::css,h,n+1=>by
    have hc:c.length=1:=h c (by simp)
    rw [List.take_succ_cons,List.flatten_cons,List.flatten_cons,flatten_take1 (λc hc=>h c (by simp [hc])) n,List.take_append,hc,List.take_of_length_le (l:=c) (by omega),Nat.add_sub_cancel]
theorem flatten_drop1{β:Type}:∀{css:List (List β)} (h:∀c∈css,c.length=1) (n:Nat),(css.drop n).flatten=css.flatten.drop n
  | [],_,n=>by simp
  | c::css,h,0=>by simp
  | c::css,h,n+1=>by
    have hc:c.length=1:=h c (by simp)
    rw [List.drop_succ_cons,List.flatten_cons,flatten_drop1 (λc hc=>h c (by simp [hc])) n,List.drop_append,hc,List.drop_of_length_le (l:=c) (by omega),Nat.add_sub_cancel,List.nil_append]
/-- a whole array of numbers -/
theorem Own.all_{k:IntKind}{T:Ty Int}(hT:∀{Γ cs x},T.rd Γ cs x→cs = [.int k x])(h1:T.n=1){Γ:Gh}{e:TypeId}{row:Rowb}{g c:Nat}{xs:List Int}(h:Own T Γ e row (some ⟨g,0,none⟩) c xs):OCells row (some ⟨g,0,none⟩) 0 (xs.map λx=>.int k x):=by
  rcases h.is with ⟨h2,_⟩ | ⟨g2,cur,css,hg2,rfl,h3,h4,h5,h6,h7,h8⟩
  · cases h2
  simp only [Option.some.injEq,Addr.mk.injEq,and_true] at hg2
  subst hg2
  refine⟨g,cur,e,rfl,rfl,λq v hv=>?_⟩
  rw [List.getElem?_map] at hv
  obtain⟨x,hx,rfl⟩:=Option.map_eq_some_iff.1 hv
  obtain⟨hq,rfl⟩:=List.getElem?_eq_some_iff.1 hx
  have hall:∀cs∈css,cs.length=1:=by
    intro cs hcs
    obtain⟨k,hk,rfl⟩:=List.getElem_of_mem hcs
    rw [← h1]; exact T.len (h8 k hk)
  have h9:=flatten_get 1 css q 0 (by omega) hall (by omega)
  rw [hT (h8 q (by omega)),gt_eq hq] at h9
  rw [← h7,List.getElem?_take] at h9
  split at h9
  · simp only [Nat.mul_one,Nat.add_zero,Array.getElem?_toList] at h9
    rw [Nat.zero_add]; simpa using h9
  · simp at h9
theorem intT_cs{Γ:Gh}{cs:List Value}{x:Int}(h:intT.rd Γ cs x):cs = [.int .i64 x]:=h.1
theorem copy_len{α:Type}(xs ys:List α):(ys.take xs.length++xs.drop ys.length).length=xs.length:=by rw [List.length_append,List.length_take,List.length_drop]; omega
theorem gts3{xs:List Int}(h:xs.length=3):xs = [gt xs 0,gt xs 1,gt xs 2]:=by
  match xs,h with
  | [a,b,c],_=>rfl
theorem gts2{xs:List Int}(h:xs.length=2):xs = [gt xs 0,gt xs 1]:=by
  match xs,h with
  | [a,b],_=>rfl
section
variable {P:Program} {N:Nat} {Q:Exit→Env→World→Prop} {σ:Env} {o:Oper} {F:Fm} {Γ Δ:Gh} {L:List Rowb} {ops:Array Oper} {rest:List Oper}
theorem e_append_str{t e u:TypeId}{x y:Operand}{d i:Nat}{A:Option Addr}{c:Nat}{xs:List UInt8}{s:ByteArray}{row:Rowb}{ti:TypeInfo}(ht:P.underlying t=some (.slice e))(hu:P.underlying u=some .string)(hi:P.info? e=some ti)(hz:ti.zero=some (.int .u8 0))(hsize:ti.size=1)(hby:ti.bytes=1)
    (hg:o.guard=none) (hdst:o.dst=some d) (hd:okDst N (some d)=true)
    (ho:o.op = .call { callee:=.builtin .append,args:=#[x,y],argTypes:=#[t,u] })
    (hx:ev σ x = .slice A xs.length c) (hy:ev σ y = .string s) (hL:L[i]? = some row) (hown:Own byteT Γ e row A c xs) (hlen:xs.length+s.size≤lim)
    (k:∀row' A' c',Own byteT Γ e row' A' c' (xs++s.data.toList)→WR P N ops (CC F Γ (L.set i row')) Q rest (upd σ d (.slice A' (xs++s.data.toList).length c'))):WR P N ops (CC F Γ L) Q (o::rest) σ:=by
  refine WR.eff hg (by rw [hdst]; exact hd) λw hw=>?_
  have hmem:row∈L:=List.mem_of_getElem? hL
  obtain⟨css,ho1,hcl,hrd⟩:=hown.owns (w:=w) (hw.loc row hmem)
  have hl2:s.data.toList.length=s.size:=rfl
  have hmax:xs.length+s.size≤maxLen:=by have h1:=hlen; unfold lim at h1; unfold maxLen; omega
  have hbytes:xs.length+s.size≤140737488355328:=by have h1:=hlen; unfold lim at h1; omega
  obtain⟨v',w',hrun,h2,h3,h5⟩:=Lib.run_append_own_string (P:=P) w 0 t u o.type e ti ht hu hi hz hsize hby (.slice A xs.length c) xs.length css.flatten ho1 s hmax hbytes (Nat.zero_le _)
  have hxy:(xs++s.data.toList).length=xs.length+s.size:=by rw [List.length_append,hl2]
  have hform:∃A' c',v' = .slice A' (xs++s.data.toList).length c':=by
    rw [hxy]
    rcases h2.2 with ⟨hv,h0⟩ | ⟨g,cap,cur,hv,_⟩
    · exact⟨none,0,by rw [hv,h0]⟩
    · exact⟨_,_,hv⟩
  obtain⟨A',c',rfl⟩:=hform
  have hcs2:Lib.strCells s=(s.data.toList.map λb=>[Value.int .u8 ((b.toNat:Nat):Int)]).flatten:=by
    unfold Lib.strCells
    generalize s.data.toList=l
    induction l with
    | nil=>rfl
    | cons b l ih=>simp [ih]
  rw [hcs2, ← List.flatten_append, ← hxy] at h2
  obtain⟨row',hown',hrow',hnd',hob⟩:=Own.of_owns (T:=byteT) (Γ:=Γ) (xs:=xs++s.data.toList) h2 (by simp [hcl]) (by rw [hxy]; exact hlen) (λq h1=>by
    by_cases hq:q<css.length
    · rw [List.getElem_append_left hq,gt_append_left (by omega)]
      exact hrd q hq
    · rw [List.getElem_append_right (by omega),gt_append_right (by omega)]
      simp only [List.length_append,List.length_map] at h1
      simp only [hcl,List.getElem_map]
      rw [gt_eq (by omega)]
      rfl)
  refine⟨.slice A' (xs++s.data.toList).length c',w',.inl ?_,?_⟩
  · simp only [execOp,ho,resolve,invoke,builtin,Sem.run_pure,Sem.run_bind,Result.andThen_ok,List.map_toArray,List.map_cons,List.map_nil,hx,hy,hrun]
  · rw [hdst]
    refine k row' A' c' hown' w' (hw.set hL ?_ hrow' ?_ hnd')
    · refine(Fr.of_grown h3 (append_draw_str ht hu hi hz hsize hby ho1 hmax hbytes hrun).1).mono λq hq=>?_
      rcases hown.is with ⟨rfl,_⟩ | ⟨g,cur,_,rfl,rfl,_⟩
      · simp [Value.ownBlock] at hq
      · simp [Value.ownBlock] at hq; exact⟨_,List.mem_singleton.2 rfl,hq.symm⟩
    · intro p hp
      have h6:=hob p hp
      rcases (append_draw_str ht hu hi hz hsize hby ho1 hmax hbytes hrun).2 with h7 | h7
      · rw [h7] at h6
        rcases hown.is with ⟨rfl,_⟩ | ⟨g,cur,_,rfl,rfl,_⟩
        · simp [Value.ownBlock] at h6
        · simp [Value.ownBlock] at h6; exact .inl ⟨_,List.mem_singleton.2 rfl,h6⟩
      · rw [h7] at h6; injection h6 with h6; exact .inr (by omega)
section
variable {α:Type} [Inhabited α] {T:Ty α} {row:Rowb} {e:TypeId} {A:Option Addr} {c:Nat} {xs:List α}
/-- a part of x[q] = v, of a row of the call's own -/
theorem e_store_part{t:TypeId}{ad x:Operand}{i q f:Nat}{v:Value}{y:α}{cs new:List Value}{vs:List Value}(hg:o.guard=none)(hdst:o.dst=none)(ho:o.op = .store t ad x)(ha:ev σ ad=ptrAt A (q*T.n+f))(hx:ev σ x=v)
    (hz:∀w,(sizeOf t).run P w = .ok vs.length w) (hv:v.cells.toList=vs) (hC:OCells row A (q*T.n) cs) (hcl:cs.length=T.n) (hfl:f+vs.length≤cs.length) (hnew:cs.take f++vs++cs.drop (f+vs.length)=new)
    (hrd:T.rd Γ new y) (hi:L[i]? = some row) (hown:Own T Γ e row A c xs) (hq:q<xs.length)
    (k:∀row',Own T Γ e row' A c (xs.set q y)→WR P N ops (CC F Γ (L.set i row')) Q rest σ):WR P N ops (CC F Γ L) Q (o::rest) σ:=by
  refine WR.eff hg (by rw [hdst]; rfl) λw hw=>?_
  rcases hown.is with ⟨_,rfl,_⟩ | ⟨g,cur,css,rfl,rfl,h3,h4,h5,h6,h7,h8⟩
  · simp at hq
  have hall:∀cs∈css,cs.length=T.n:=by
    intro cs hcs
    obtain⟨k,hk,rfl⟩:=List.getElem_of_mem hcs
    exact T.len (h8 k hk)
  have hnl:=T.len hrd
  have hclen:cur.toList.length=c*T.n:=by simpa using h5
  have hfit:q*T.n+T.n≤xs.length*T.n:=by
    have:(q+1)*T.n≤xs.length*T.n:=Nat.mul_le_mul_right _ hq
    rw [Nat.add_mul] at this; omega
  have hfit2:xs.length*T.n≤c*T.n:=Nat.mul_le_mul_right _ h3
  have hb:=hw.at_ hi (p:=(g,.cells cur e (0,0))) (by simp)
  have hone:∀u∈vs,u.oneCell'=true:=λu hu=>T.one hrd u (by rw [← hnew]; simp [hu])
  have hs:=run_storeCells_at P g (q*T.n+f) e vs 0 cur w hb (by omega) hone
  simp only [Nat.add_zero] at hs
  obtain⟨g2,arr,e2,hA,hrow,hcs⟩:=hC
  simp only [Option.some.injEq,Addr.mk.injEq,and_true] at hA
  subst hA
  simp only [List.cons.injEq,Prod.mk.injEq,Obj.cells.injEq,true_and,and_true] at hrow
  obtain⟨rfl,rfl⟩:=hrow
  -- the block is the one in which the whole element is put
  have hsame:cur.toList.take (q*T.n+f)++vs++cur.toList.drop (q*T.n+f+vs.length)=cur.toList.take (q*T.n)++new++cur.toList.drop (q*T.n+new.length):=by
    have hseg:(cur.toList.drop (q*T.n)).take cs.length=cs:=by
      apply List.ext_getElem?
      intro j
      rw [List.getElem?_take]
      split
      · rename_i hj
        rw [List.getElem?_drop,Array.getElem?_toList]
        have h9:=hcs j cs[j] (List.getElem?_eq_getElem hj)
        rw [h9,List.getElem?_eq_getElem hj]
      · rename_i hj; rw [List.getElem?_eq_none (by omega)]
    have hsplit:cur.toList=cur.toList.take (q*T.n)++(cs++cur.toList.drop (q*T.n+cs.length)):=by
      have h10:cur.toList.drop (q*T.n)=cs++cur.toList.drop (q*T.n+cs.length):=by
        conv=>lhs; rw [← List.take_append_drop cs.length (cur.toList.drop (q*T.n)),hseg]
        rw [List.drop_drop]
      rw [← h10,List.take_append_drop]
    generalize hX:cur.toList.take (q*T.n)=X at hsplit ⊢
    generalize hY:cur.toList.drop (q*T.n+cs.length)=Y at hsplit
    have hXl:X.length=q*T.n:=by rw [← hX,List.length_take]; omega
    have hnc:new.length=cs.length:=by rw [hnl,hcl]
    rw [hnc,hY, ← hnew]
    rw [hsplit, ← hXl]
    rw [List.take_append,List.take_of_length_le (by omega),Nat.add_sub_cancel_left,List.take_append_of_le_length (by omega)]
    rw [List.drop_append,List.drop_of_length_le (by omega),List.nil_append]
    rw [show X.length+f+vs.length - X.length=f+vs.length by omega,List.drop_append_of_le_length hfl]
    simp only [List.append_assoc]
  refine⟨undef,w.setRow g (cur.toList.take (q*T.n+f)++vs++cur.toList.drop (q*T.n+f+vs.length)).toArray,.inr ⟨?_,rfl⟩,?_⟩
  rotate_left 1
  · rw [hdst,hsame]
    refine k [(g,.cells (cur.toList.take (q*T.n)++new++cur.toList.drop (q*T.n+new.length)).toArray e (0,0))] ?_ _ (hw.setRow hi)
    have hfl:css.flatten.length=xs.length*T.n:=by rw [flatten_len T.n css hall,h6]
    have hcur:cur.toList=css.flatten++cur.toList.drop (xs.length*T.n):=by rw [← h7,List.take_append_drop]
    refine⟨by simpa using hown.le,.inr ⟨g,_,css.set q new,rfl,rfl,by simpa using h3,h4,?_,by simp [h6],?_,?_⟩⟩
    · simp only [List.size_toArray,List.length_append,List.length_take,List.length_drop,hnl,hclen]
      omega
    · rw [flatten_set hall (by omega),hnl]
      simp only [List.length_set]
      have h9:=take_patch (tl:=cur.toList.drop (xs.length*T.n)) (cs:=new) hfl hfit hnl
      rw [← hcur] at h9
      exact h9
    · intro p hp
      have hp':p<css.length:=by simpa using hp
      by_cases he:q=p
      · subst he
        have:gt (xs.set q y) q=y:=by rw [gt_eq (by simpa using hq)]; simp
        rw [this]; simpa using hrd
      · have:gt (xs.set q y) p=gt xs p:=by
          rw [gt_eq (by simp; omega),gt_eq (by omega),List.getElem_set_ne he]
        rw [this]
        simpa [List.getElem_set_ne he] using h8 p hp'
  · have hsz:v.cells.size=vs.length:=by rw [← hv]; simp
    have hvs:v.cells.toList=vs:=hv
    simp [execOp,ho,ha,hx,ptrAt,addr_add,Instr.storeAt,Instr.sureAddr,storeVar,hz,hsz,hvs,hs,Sem.run_pure,Sem.run_bind]
/-- an array of the call's own, cut whole -/
theorem q_slarr{x:Operand}{t e2:TypeId}{g n sz:Nat}{C:World→Prop}(ht:P.underlying t=some (.array n e2))(hsz:∀w,(sizeOf e2).run P w = .ok sz w)(ho:o.op = .slice t x none none none)(hx:ev σ x = .pointer (some ⟨g,0,none⟩)):QV P C σ o (.slice (some ⟨g,0,none⟩) n n):=
  λw _=>by
    simp [execOp,ho,hx,Instr.sliceAt,Instr.sureAddr,run_underlying ht,Instr.sliceBounds,hsz,addr_add,Sem.run_pure,Sem.run_bind]
/-- copy(x, y): x of the call's own -/
theorem e_copy{dT sT e':TypeId}{x y:Operand}{i g n:Nat}{ys:List α}{A2:Option Addr}{c2:Nat}(hu:P.underlying dT=some (.slice e'))(hs1:(P.info? e').map (·.size)=some 1)(hT:T.n=1)(hg:o.guard=none)(hd:okDst N o.dst=true)
    (ho:o.op = .call { callee:=.builtin .copy,args:=#[x,y],argTypes:=#[dT,sT] }) (hx:ev σ x = .slice (some ⟨g,0,none⟩) n c) (hy:ev σ y = .slice A2 ys.length c2) (hi:L[i]? = some row) (hown:Own T Γ e row (some ⟨g,0,none⟩) c xs) (hn:xs.length=n)
    (hsrc:∀w,Cur F Γ L w→(A2=none∧ys = [])∨∃a2,A2=some a2∧∃css:List (List Value),css.length=ys.length∧(∀k (h1:k<css.length),T.rd Γ css[k] (gt ys k))∧∀j u,css.flatten[j]? = some u→w.cell? (a2.add j)=some u)
    (k:∀row',Own T Γ e row' (some ⟨g,0,none⟩) c (ys.take xs.length++xs.drop ys.length)→WR P N ops (CC F Γ (L.set i row')) Q rest (updo σ o.dst (.int .i64 ((min ys.length xs.length:Nat):Int)))):WR P N ops (CC F Γ L) Q (o::rest) σ:=by
  subst hn
  refine WR.eff hg hd λw hw=>?_
  by_cases h0:min ys.length xs.length=0
  · have hrun:=run_copy_none (P:=P) w dT sT o.type e' (some ⟨g,0,none⟩) A2 xs.length c ys.length c2 hu hs1 (by simpa [Nat.min_def] using h0)
    refine⟨.int .i64 ((min ys.length xs.length:Nat):Int),w,.inl ?_,?_⟩
    · simp only [execOp,ho,resolve,invoke,builtin,Sem.run_pure,Sem.run_bind,Result.andThen_ok,List.map_toArray,List.map_cons,List.map_nil,hx,hy,hrun,h0]; rfl
    · have hee:ys.take xs.length++xs.drop ys.length=xs:=by
        rcases Nat.eq_zero_or_pos xs.length with h | h
        · rw [List.eq_nil_of_length_eq_zero h]; simp
        · have:ys.length=0:=by omega
          rw [List.eq_nil_of_length_eq_zero this]; simp
      have:=k row (by rw [hee]; exact hown) w
      refine this ?_
      rw [show L.set i row=L from by
        apply List.ext_getElem?
        intro q
        rw [List.getElem?_set]
        split
        · rename_i hq; subst hq; split
          · exact hi.symm
          · rename_i hlt; rw [List.getElem?_eq_none (by omega)]
        · rfl]
      exact hw
  rcases hsrc w hw with ⟨_,rfl⟩ | ⟨a2,rfl,css2,hc2,hrd2,hcell⟩
  · simp at h0
  rcases hown.is with ⟨h1,_⟩ | ⟨g2,cur,css,hg2,rfl,h3,h4,h5,h6,h7,h8⟩
  · cases h1
  simp only [Option.some.injEq,Addr.mk.injEq,and_true] at hg2
  subst hg2
  rw [hT] at h5 h7
  simp only [Nat.mul_one] at h5 h7
  have hall:∀cs∈css,cs.length=1:=by
    intro cs hcs
    obtain⟨k,hk,rfl⟩:=List.getElem_of_mem hcs
    rw [← hT]; exact T.len (h8 k hk)
  have hall2:∀cs∈css2,cs.length=1:=by
    intro cs hcs
    obtain⟨k,hk,rfl⟩:=List.getElem_of_mem hcs
    rw [← hT]; exact T.len (hrd2 k hk)
  have hf2:css2.flatten.length=ys.length:=by rw [flatten_len 1 css2 hall2,hc2,Nat.mul_one]
  have hf1:css.flatten.length=xs.length:=by rw [flatten_len 1 css hall,h6,Nat.mul_one]
  let cs:=css2.flatten.take xs.length
  have hcsl:cs.length=Nat.min ys.length xs.length:=by show (css2.flatten.take xs.length).length=min ys.length xs.length; rw [List.length_take,hf2]; omega
  have hb:=hw.at_ hi (p:=(g,.cells cur e (0,0))) (by simp)
  have hone:∀v∈cs,v.oneCell'=true:=by
    intro u hu
    obtain⟨c',hc',hu⟩:=List.mem_flatten.1 (List.mem_of_mem_take hu)
    obtain⟨q,hq,rfl⟩:=List.getElem_of_mem hc'
    exact T.one (hrd2 q hq) u hu
  have hcur:cur.toList.length=c:=by simpa using h5
  have hmin:Nat.min ys.length xs.length≤xs.length:=Nat.min_le_right _ _
  have hrun:=run_copy_row (P:=P) w dT sT o.type e' g 0 xs.length c a2 ys.length c2 cur e cs hu hs1 hb hcsl (λj v hv=>hcell j v (by
    have:j<xs.length:=by
      have:=(List.getElem?_eq_some_iff.1 hv).1; omega
    rw [← hv]; show _=(css2.flatten.take xs.length)[j]?
    rw [List.getElem?_take]; simp [this])) (by omega) hone
  simp only [Nat.zero_add,List.take_zero,List.nil_append] at hrun
  refine⟨.int .i64 ((min ys.length xs.length:Nat):Int),w.setRow g (cs++cur.toList.drop cs.length).toArray,.inl ?_,?_⟩
  · have hrun2:(Builtin.copy_ #[dT,sT] o.type #[.slice (some ⟨g,0,none⟩) xs.length c,.slice (some a2) ys.length c2]).run P w = .ok (.int .i64 ((min ys.length xs.length:Nat):Int)) (w.setRow g (cs++cur.toList.drop cs.length).toArray):=by
      rw [hrun,hcsl]; rfl
    simp only [execOp,ho,resolve,invoke,builtin,Sem.run_pure,Sem.run_bind,Result.andThen_ok,List.map_toArray,List.map_cons,List.map_nil,hx,hy,hrun2]
  · refine k [(g,.cells (cs++cur.toList.drop cs.length).toArray e (0,0))] ?_ _ (hw.setRow hi)
    have hlen:(ys.take xs.length++xs.drop ys.length).length=xs.length:=by rw [List.length_append,List.length_take,List.length_drop]; omega
    refine⟨by rw [hlen]; exact hown.le,.inr ⟨g,_,css2.take xs.length++css.drop ys.length,rfl,rfl,by rw [hlen]; exact h3,h4,?_,?_,?_,?_⟩⟩
    · rw [hT]; simp only [List.size_toArray,List.length_append,List.length_drop,hcur,hcsl]; omega
    · rw [hlen,List.length_append,List.length_take,List.length_drop,hc2,h6]; omega
    · rw [hlen,hT,Nat.mul_one]
      have hx1:(css2.take xs.length).flatten=cs:=by
        show _=css2.flatten.take xs.length
        exact flatten_take1 hall2 _
      have hx2:(css.drop ys.length).flatten=css.flatten.drop ys.length:=flatten_drop1 hall _
      rw [List.flatten_append,hx1,hx2, ← h7]
      show (cs++cur.toList.drop cs.length).take xs.length=_
      rw [List.take_append,List.take_of_length_le (by omega)]
      congr 1
      rw [hcsl]
      rcases Nat.le_total ys.length xs.length with h | h
      · rw [show Nat.min ys.length xs.length=ys.length from Nat.min_eq_left h,List.drop_take]
      · rw [show Nat.min ys.length xs.length=xs.length from Nat.min_eq_right h,Nat.sub_self,List.take_zero,List.drop_of_length_le (by rw [List.length_take]; omega)]
    · intro q hq
      by_cases hq2:q<(css2.take xs.length).length
      · rw [List.getElem_append_left hq2]
        have hq3:q<css2.length∧q<xs.length:=by rw [List.length_take] at hq2; omega
        rw [List.getElem_take,gt_append_left (by rw [List.length_take]; omega)]
        have h9:=hrd2 q hq3.1
        have:gt (ys.take xs.length) q=gt ys q:=by
          rw [gt_eq (by rw [List.length_take]; omega),gt_eq (by omega),List.getElem_take]
        rw [this]; exact h9
      · have hl2:(css2.take xs.length).length=(ys.take xs.length).length:=by rw [List.length_take,List.length_take,hc2]
        rw [List.getElem_append_right (by omega),gt_append_right (by omega)]
        simp only [List.getElem_drop,hl2]
        have hq4:ys.length+(q - (ys.take xs.length).length)<xs.length:=by
          rw [List.length_append,List.length_drop] at hq; rw [List.length_take] at hq2 ⊢; rw [List.length_take] at hq; omega
        have:gt (xs.drop ys.length) (q - (ys.take xs.length).length)=gt xs (ys.length+(q - (ys.take xs.length).length)):=by
          rw [gt_eq (by rw [List.length_drop]; omega),gt_eq hq4,List.getElem_drop]
        rw [this]
        exact h8 _ (by omega)
end
end
/-- an own slice that has something is not nil -/
theorem Own.nz{α:Type}[Inhabited α]{T:Ty α}{Γ:Gh}{e:TypeId}{row:Rowb}{A:Option Addr}{c:Nat}{xs:List α}(h:Own T Γ e row A c xs)(hl:0<xs.length):A.isNone=xs.isEmpty:=by
  cases xs with
  | nil=>simp at hl
  | cons x l=>
    cases hA:A.isNone with
    | false=>rfl
    | true=>have:=h.none_nil hA; cases this
end Fw
end Go.Proofs.YtiakfgdgafljnaaGreat
