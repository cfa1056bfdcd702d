/- The laws of loads, stores, new blocks, append, calls. No condition. -/
import Derived.Test.YtgaplodcdhhefaaGreatK4
import Derived.Laws.MakeOwn
namespace Go.Proofs.YtgaplodcdhhefaaGreat
namespace Fw
set_option linter.unusedVariables false
set_option linter.unusedSimpArgs false
set_option linter.unusedSectionVars false
open Go.RowKit
section
variable {P:Program} {N:FN} {Q:Exit→Env→World→Prop} {σ:Env} {o:Oper} {F:Fm} {Γ Δ:Gh} {L U U' R:List Rowb} {ops:Array Oper} {rest:List Oper} {α:Type} {T:Ty α} {w w':World}
theorem dO{t:TypeId}{w:World}{a:Addr}{v:Value}(ht:∀w,(isAgg t).run P w = .ok false w)(hc:w.cell? a=some v):(Instr.loadAt t (.pointer (some a))).run P w = .ok v w:=by
 simp [Instr.loadAt,Instr.sureAddr,loadVar,ht,load,Sem.run,hc,E4,E3]
theorem eK{t:TypeId}{w:World}{a:Addr}{vs:List Value}(ht:∀w,(isAgg t).run P w = .ok true w)(hz:∀w,(sizeOf t).run P w = .ok vs.length w)(hc:∀j v,vs[j]? = some v→w.cell? (a.add j)=some v):
  (Instr.loadAt t (.pointer (some a))).run P w = .ok (.agg vs.toArray) w:=by
 simp [Instr.loadAt,Instr.sureAddr,loadVar,ht,hz,run_loadCells_list w a vs hc,E4,E3]
theorem j7{β:Type}{cs vs:List β}{c k:Nat}{v:β}(hv:(cs.drop c).take vs.length=vs)(hk:vs[k]? = some v):cs[c+k]? = some v:=by
 have hlt:k<vs.length:=(List.getElem?_eq_some_iff.1 hk).1
 rw [← hv,List.getElem?_take,if_pos hlt,List.getElem?_drop] at hk
 exact hk
theorem q_ld{x:Operand}{t:TypeId}{A:Option Addr}{j c:Nat}{cs:List Value}{v:Value}(hC:eQ Γ A j cs)(ho:o.op = .load t x)(ht:∀w,(isAgg t).run P w = .ok false w)(hx:ev σ x=eR A (j+c))(hv:cs[c]? = some v):QV P (CC F Γ L) σ o v:=
 λw hw=>by
  obtain⟨b,o',rfl,h2⟩:=(hC c v hv).now hw.sat
  simp only [execOp,ho,hx,eR,Eh,cx,E3]
  rw [dO ht h2]; rfl
theorem bT{x:Operand}{t:TypeId}{A:Option Addr}{j c:Nat}{cs vs:List Value}(hC:eQ Γ A j cs)(ho:o.op = .load t x)(ht:∀w,(isAgg t).run P w = .ok true w)(hz:∀w,(sizeOf t).run P w = .ok vs.length w)(hx:ev σ x=eR A (j+c))
  (hp:Nat.blt 0 cs.length=true) (hv:(cs.drop c).take vs.length=vs):QV P (CC F Γ L) σ o (.agg vs.toArray):=
 λw hw=>by
  have hA:=hC.some_ (by simpa [Nat.blt_eq] using hp)
  cases A with
  | none=>cases hA
  | some a=>
   simp only [execOp,ho,hx,eR,Eh,E3]
   rw [eK ht hz]
   ·rfl
   ·intro i v hi
    obtain⟨b,o',he,h2⟩:=(hC _ v (j7 hv hi)).now hw.sat
    cases he
    rw [rb,cx, ← h2,Nat.add_assoc]
theorem Cur.cell(h:Cur F Γ L w){i g j:Nat}{cs:Array Value}{t:TypeId}(hi:L[i]? = some [(g,.cells cs t (0,0))]):w.cell? ⟨g,j,none⟩=cs[j]?:=
 cell_of_row w g j cs t (0,0) (h.at_ hi (p:=(g,.cells cs t (0,0))) (by simp))
theorem nR{x:Operand}{t:TypeId}{row:Rowb}{A:Option Addr}{i j c:Nat}{cs:List Value}{v:Value}(hi:L[i]? = some row)(hC:k5 row A j cs)(ho:o.op = .load t x)(ht:∀w,(isAgg t).run P w = .ok false w)(hx:ev σ x=eR A (j+c))(hv:cs[c]? = some v):QV P (CC F Γ L) σ o v:=
 λw hw=>by
  obtain⟨g,arr,e,rfl,rfl,h⟩:=hC
  simp only [execOp,ho,hx,eR,Eh,cx,Nat.zero_add,E3]
  rw [dO ht ((hw.cell hi).trans (h c v hv))]; rfl
theorem u7{x:Operand}{t:TypeId}{row:Rowb}{A:Option Addr}{i j c:Nat}{cs vs:List Value}(hi:L[i]? = some row)(hC:k5 row A j cs)(ho:o.op = .load t x)(ht:∀w,(isAgg t).run P w = .ok true w)(hz:∀w,(sizeOf t).run P w = .ok vs.length w)(hx:ev σ x=eR A (j+c))
  (hv:(cs.drop c).take vs.length=vs):QV P (CC F Γ L) σ o (.agg vs.toArray):=
 λw hw=>by
  obtain⟨g,arr,e,rfl,rfl,h⟩:=hC
  simp only [execOp,ho,hx,eR,Eh,cx,Nat.zero_add,E3]
  rw [eK ht hz]
  ·rfl
  ·intro k v hk
   rw [cx,hw.cell hi,Nat.add_assoc]
   exact h _ v (j7 hv hk)
theorem CO{x:Operand}{t e:TypeId}{i g j:Nat}{cs:Array Value}{v:Value}(hi:L[i]? = some [(g,.cells cs e (0,0))])(ho:o.op = .load t x)(ht:∀w,(isAgg t).run P w = .ok false w)(hx:ev σ x = .pointer (some ⟨g,j,none⟩))(hv:cs[j]? = some v):
  QV P (CC F Γ L) σ o v:=
 λw hw=>by
  simp only [execOp,ho,hx,E3]
  rw [dO ht ((hw.cell hi).trans hv)]; rfl
theorem Cq{x:Operand}{t e:TypeId}{i g j:Nat}{cs:Array Value}{vs:List Value}(hi:L[i]? = some [(g,.cells cs e (0,0))])(ho:o.op = .load t x)(ht:∀w,(isAgg t).run P w = .ok true w)(hz:∀w,(sizeOf t).run P w = .ok vs.length w)(hx:ev σ x = .pointer (some ⟨g,j,none⟩))
  (hv:(cs.toList.drop j).take vs.length=vs):QV P (CC F Γ L) σ o (.agg vs.toArray):=
 λw hw=>by
  simp only [execOp,ho,hx,E3]
  rw [eK ht hz]
  ·rfl
  ·intro k v hk
   rw [cx,hw.cell hi, ← Array.getElem?_toList]
   exact j7 hv hk
theorem mG{x:Operand}{t e:TypeId}{g j:Nat}{cs:Array Value}{fz:Nat×Nat}{v:Value}(hi:Γ g=some (.cells cs e fz))(ho:o.op = .load t x)(ht:∀w,(isAgg t).run P w = .ok false w)(hx:ev σ x = .pointer (some ⟨g,j,none⟩))(hv:cs[j]? = some v):
  QV P (CC F Γ L) σ o v:=
 λw hw=>by
  simp only [execOp,ho,hx,E3]
  rw [dO ht ((cell_of_row w g j cs e fz (hw.sat _ _ hi)).trans hv)]; rfl
theorem q_ix{x y:Operand}{t e:TypeId}{A:Option Addr}{n c sz:Nat}{k:IntKind}{i:Int}(ht:P.underlying t=some (.slice e))(hsz:∀w,(sizeOf e).run P w = .ok sz w)(ho:o.op = .indexAddr t x y)
  (hx:ev σ x = .slice A n c) (hy:ev σ y = .int k i) (hi:inb i n=true) (hA:A.isSome=true) {C:World→Prop}:QV P C σ o (eR A (i.toNat*sz)):=
 oK ho ht hsz hx (by rw [hy,Int.toNat_of_nonneg (Ag hi)]) (aq hi) hA
theorem ar{x y:Operand}{t e:TypeId}{A:Option Addr}{n c sz i:Nat}{k:IntKind}(ht:P.underlying t=some (.slice e))(hsz:∀w,(sizeOf e).run P w = .ok sz w)(ho:o.op = .indexAddr t x y)
  (hx:ev σ x = .slice A n c) (hy:ev σ y = .int k (i:Int)) (hi:i<n) (hA:A.isSome=true) {C:World→Prop}:QV P C σ o (eR A (i*sz)):=oK ho ht hsz hx hy hi hA
theorem Ci{x y:Operand}{t e:TypeId}{g n sz i:Nat}{k:IntKind}(ht:P.underlying t=some (.array n e))(hsz:∀w,(sizeOf e).run P w = .ok sz w)(ho:o.op = .indexAddr t x y)
  (hx:ev σ x = .pointer (some ⟨g,0,none⟩)) (hy:ev σ y = .int k (i:Int)) (hi:i<n) {C:World→Prop}:QV P C σ o (eR (some ⟨g,0,none⟩) (i*sz)):=
 λw _=>by
  simp [execOp,ho,hx,hy,Instr.indexAt,Instr.sureAddr,asIntOf,run_underlying ht,hsz,hi,eR,E4,E3]
theorem yB{x y:Operand}{t e:TypeId}{g n sz:Nat}{k:IntKind}{i:Int}(ht:P.underlying t=some (.array n e))(hsz:∀w,(sizeOf e).run P w = .ok sz w)(ho:o.op = .indexAddr t x y)
  (hx:ev σ x = .pointer (some ⟨g,0,none⟩)) (hy:ev σ y = .int k i) (hi:inb i n=true) {C:World→Prop}:QV P C σ o (eR (some ⟨g,0,none⟩) (i.toNat*sz)):=
 Ci ht hsz ho hx (by rw [hy,Int.toNat_of_nonneg (Ag hi)]) (aq hi)
theorem q_fl{x:Operand}{s:TypeId}{f off:Nat}{g j:Nat}(j':Nat)(hF:aD P s f off)(ho:o.op = .fieldAddr s x f:=by exact rfl)(hx:ev σ x = .pointer (some ⟨g,j,none⟩):=by exact rfl)(hj:j+off=j':=by exact rfl){C:World→Prop}:QV P C σ o (.pointer (some ⟨g,j',none⟩)):=vx j' hF ho hx hj
theorem s5{t:TypeId}{v:Value}{w:World}:(newVar t v).run P w = .ok ⟨w.heap.size,0,none⟩ (w.alloc (.cells v.cells t)):=rfl
theorem WR.new{d:Nat}{obj:Obj}(hg:o.guard=none)(hdst:o.dst=some d)(hd:bR N (some d)=true){mk:Nat→Value}
  (hr:∀w,Cur F Γ L w→(execOp (ev σ) o).run P w = .ok (.value (mk w.heap.size)) (w.alloc obj))
  (k:∀g,WR P N ops (CC F Γ ([(g,obj)]::L)) Q rest (upd σ d (mk g))):WR P N ops (CC F Γ L) Q (o::rest) σ:=by
 refine WR.eff hg (by rw [hdst]; exact hd) λw hw=>⟨_,_,.inl (hr w hw),?_⟩
 rw [hdst]
 exact k w.heap.size _ (hw.new obj)
theorem AV{t:TypeId}{z:Value}{d:Nat}(hz:∀w,(zeroValue t).run P w = .ok z w)(hg:o.guard=none)(hdst:o.dst=some d)(hd:bR N (some d)=true)(ho:o.op = .alloc t)
  (k:∀g,WR P N ops (CC F Γ ([(g,.cells z.cells t)]::L)) Q rest (upd σ d (.pointer (some ⟨g,0,none⟩)))):WR P N ops (CC F Γ L) Q (o::rest) σ:=
 WR.new (mk:=λg=>.pointer (some ⟨g,0,none⟩)) hg hdst hd (λw _=>by simp [execOp,ho,Instr.alloc,hz,s5,E4,E3]) k
theorem CS{t:TypeId}{x:Operand}{v:Value}{d:Nat}(hg:o.guard=none)(hdst:o.dst=some d)(hd:bR N (some d)=true)(ho:o.op = .box t x)(hx:ev σ x=v)
  (k:∀g,WR P N ops (CC F Γ ([(g,.cells v.cells t)]::L)) Q rest (upd σ d (.pointer (some ⟨g,0,none⟩)))):WR P N ops (CC F Γ L) Q (o::rest) σ:=
 WR.new (mk:=λg=>.pointer (some ⟨g,0,none⟩)) hg hdst hd (λw _=>by simp [execOp,ho,hx,Instr.box,s5,E4,E3]) k
theorem tZ{t e:TypeId}{n d:Nat}{parts:Array (Nat×Operand)}{cs:Array Value}(hg:o.guard=none)(hdst:o.dst=some d)(hd:bR N (some d)=true)(ho:o.op = .buildSlice t n parts)
  (hr:∀w,(Instr.buildSlice t n (parts.map λ(i,x)=>(i,ev σ x))).run P w = .ok (.slice (some ⟨w.heap.size,0,none⟩) n n) (w.alloc (.cells cs e)))
  (k:∀g,WR P N ops (CC F Γ ([(g,.cells cs e)]::L)) Q rest (upd σ d (.slice (some ⟨g,0,none⟩) n n))):WR P N ops (CC F Γ L) Q (o::rest) σ:=
 WR.new (mk:=λg=>.slice (some ⟨g,0,none⟩) n n) hg hdst hd (λw _=>by simp [execOp,ho,hr w,E4,E3]) k
theorem xW(w:World)(g:Nat)(cs:Array Value):Fr (λk=>k=g) w (w.setRow g cs):=
 ⟨rfl,rfl,rfl,λ_=>E6 _,by simp [World.setRow],λk _ hk=>by
  simp only [World.setRow,Array.getElem?_modify]
  rw [if_neg (λe=>hk e.symm)]⟩
theorem ya(w:World)(g:Nat)(old cs:Array Value)(t:TypeId)(h:w.heap[g]? = some (.cells old t (0,0))):(w.setRow g cs).heap[g]? = some (.cells cs t (0,0)):=by
 simp [World.setRow,Array.getElem?_modify,h]
theorem Cur.setRow(h:Cur F Γ L w){i g:Nat}{old cs:Array Value}{t:TypeId}(hi:L[i]? = some [(g,.cells old t (0,0))]):Cur F Γ (L.set i [(g,.cells cs t (0,0))]) (w.setRow g cs):=
 h.set hi ((xW w g cs).mono λk hk=>⟨(g,.cells old t (0,0)),by simp,hk.symm⟩)
  (λp hp=>by rw [List.mem_singleton.1 hp]; exact ya w g old cs t (h.at_ hi (p:=(g,.cells old t (0,0))) (by simp)))
  (λp hp=>.inl ⟨(g,.cells old t (0,0)),by simp,by rw [List.mem_singleton.1 hp]⟩) (by simp)
theorem e_st{t e:TypeId}{ad x:Operand}{i g j sz:Nat}{old new:Array Value}{v:Value}(hi:L[i]? = some [(g,.cells old e (0,0))])(hz:∀w,(sizeOf t).run P w = .ok sz w)(hg:o.guard=none)(hdst:o.dst=none)(ho:o.op = .store t ad x)(ha:ev σ ad = .pointer (some ⟨g,j,none⟩))(hx:ev σ x=v)
  (hsz:v.cells.size=sz) (h1:v.cells.toList.all (·.oneCell')=true) (hfit:Nat.ble (j+v.cells.toList.length) old.size=true)
  (hnew:(old.toList.take j++v.cells.toList++old.toList.drop (j+v.cells.toList.length)).toArray=new)
  (k:WR P N ops (CC F Γ (L.set i [(g,.cells new e (0,0))])) Q rest σ):WR P N ops (CC F Γ L) Q (o::rest) σ:=by
 refine WR.eff hg (by rw [hdst]; rfl) λw hw=>⟨undef,w.setRow g new,.inr ⟨?_,rfl⟩,?_⟩
 ·have hb:=hw.at_ hi (p:=(g,.cells old e (0,0))) (by simp)
  have hs:=run_storeCells_at P g j e v.cells.toList 0 old w hb (by simpa using Nat.le_of_ble_eq_true hfit) (λu hu=>List.all_eq_true.1 h1 u hu)
  simp only [Nat.add_zero,hnew] at hs
  simp [execOp,ho,ha,hx,Instr.storeAt,Instr.sureAddr,storeVar,hz,hsz,hs,E4,E3]
 ·rw [hdst]
  exact k _ (hw.setRow hi)
theorem aC{ops':Array Operand}{f:FuncId}{tys:Array TypeId}{args:Array Value}{ρ:Operand→Value}(hc:∀(args:Array Value) (w:World),(callFunc f args).run P w = .ok (.enter f args) w)(ho:o.op = .call { callee:=.value (.func f),args:=ops',argTypes:=tys })
  (hf:ρ (.func f) = .func (.func f) #[] #[]) (ha:ops'.map ρ=args) (w:World):(execOp ρ o).run P w = .ok (.enter f args) w:=by
 simp [execOp,ho,resolve,hf,Deferred.ofValue,ha,invoke,hc,E4,E3]
theorem aT{x:Operand}{as:Array Operand}{f:FuncId}{tys:Array TypeId}{args caps:Array Value}{ρ:Operand→Value}(hc:∀(args:Array Value) (w:World),(callFunc f args).run P w = .ok (.enter f args) w)(ho:o.op = .call { callee:=.value x,args:=as,argTypes:=tys })
  (hf:ρ x = .func (.func f) #[] caps) (ha:as.map ρ++caps=args) (w:World):(execOp ρ o).run P w = .ok (.enter f args) w:=by
 subst ha
 simp [execOp,ho,resolve,hf,Deferred.ofValue,invoke,hc,E4,E3]
theorem aH{f:FuncId}{args:Array Value}{v:Value}(hr:∀w,(execOp (ev σ) o).run P w = .ok (.enter f args) w)
  (h:∀w,Cur F Γ L w→Calls P f args w λe w'=>e = .returned v∧Fr no w w'):QO P (CC F Γ L) σ o v:=by
 intro w hw
 rw [hr w]
 exact⟨rfl,(h w hw).mono λe w' ⟨he,hf⟩=>⟨he,hw.call hf⟩⟩
def Outc(Γ:Gh)(U:List Rowb)(w:World)(Res:List Rowb→Gh→Value→Prop):Ending→World→Prop:=λe w' => ∃v,e = .returned v∧∃Δ U',Eff Γ Δ U U' w w'∧Res U' Δ v
theorem CE{is:List Nat}{f:FuncId}{args:Array Value}{Res:List Rowb→Gh→Value→Prop}(hg:o.guard=none)(hd:bR N o.dst=true)(hr:∀w,(execOp (ev σ) o).run P w = .ok (.enter f args) w)(hi:okp is L.length=true)
  (h:∀w,Pre (pkU is L) Γ w→Calls P f args w (Outc Γ (pkU is L) w Res))
  (k:∀Δ U' v,Γ.le Δ→Res U' Δ v→WR P N ops (CC F Δ (U'++pkR is L)) Q rest (updo σ o.dst v)):WR P N ops (CC F Γ L) Q (o::rest) σ:=by
 refine WR.call hg hd hr λw hw=>?_
 have hp:=hw.pick hi
 refine(h w (hw.only hi).pre).mono ?_
 rintro e w' ⟨v,rfl,Δ,U',he,hres⟩
 exact⟨v,rfl,k Δ U' v he.le hres w' (hp.eff he)⟩
theorem aI{Γ0:Gh}{E:World}{is:List Nat}{Res:List Rowb→Gh→Value→Prop}{x v:Value}(hv:x=v)(hw:Cur ⟨ids U,E,Γ0⟩ Δ L w)(hi:okp is L.length=true)(hr:Res (pkU is L) Δ v):Outc Γ0 U E Res (.returned x) w:=by
 subst hv; exact⟨x,rfl,Δ,_,(hw.only hi).toEff,hr⟩
theorem Cur.ra(h:Cur F Γ L w){row:Rowb}(i:Nat)(hi:L[i]? = some row):∀p∈row,Gh.all w p.1=some p.2:=h.loc row (List.mem_of_getElem? hi)
theorem Own.owns[Inhabited α]{w:World}{e:TypeId}{row:Rowb}{A:Option Addr}{c:Nat}{xs:List α}(h:Own T Γ e row A c xs)(hr:∀p∈row,w.heap[p.1]? = some p.2):
  ∃css:List (List Value),w.ownsRow 0 e T.n (.slice A xs.length c) xs.length css.flatten∧css.length=xs.length∧∀i (h1:i<css.length),T.rd Γ css[i] (gt xs i):=by
 rcases h.is with ⟨rfl,rfl,rfl,rfl⟩ | ⟨g,cur,css,rfl,rfl,h3,h4,h5,h6,h7,h8⟩
 ·exact⟨[],World.ownsRow_nil w 0 e T.n,rfl,λi h1=>by simp at h1⟩
 ·have hall:∀cs∈css,cs.length=T.n:=by
   intro cs hcs
   obtain⟨k,hk,rfl⟩:=List.getElem_of_mem hcs
   exact T.len (h8 k hk)
  have hl:css.flatten.length=xs.length*T.n:=by rw [da T.n css hall,h6]
  exact⟨css,⟨hl,.inr ⟨g,c,cur,rfl,E7 _,hr (g,.cells cur e (0,0)) (by simp),h3,h4,h5,h7⟩⟩,h6,h8⟩
theorem Own.of_owns[Inhabited α]{w:World}{e:TypeId}{A:Option Addr}{c:Nat}{xs:List α}{css:List (List Value)}(h:w.ownsRow 0 e T.n (.slice A xs.length c) xs.length css.flatten)(hn:css.length=xs.length)(hle:xs.length≤lim)
  (hrd:∀i (h1:i<css.length),T.rd Γ css[i] (gt xs i)):∃row,Own T Γ e row A c xs∧(∀p∈row,w.heap[p.1]? = some p.2)∧(row.map (·.1)).Nodup∧∀p∈row,(Value.slice A xs.length c).ownBlock=some p.1:=by
 rcases h.2 with ⟨hv,h0⟩ | ⟨g,cap,cur,hv,_,hh,h3,h4,h5,h6⟩
 ·injection hv with e1 e2 e3
  subst e1 e3
  exact⟨[],⟨hle,.inl ⟨rfl,List.eq_nil_of_length_eq_zero h0,rfl,rfl⟩⟩,by simp,by simp,by simp⟩
 ·injection hv with e1 e2 e3
  subst e1 e3
  refine⟨[(g,.cells cur e (0,0))],⟨hle,.inr ⟨g,cur,css,rfl,rfl,h3,h4,h5,hn,h6,hrd⟩⟩,?_,by simp,?_⟩
  ·intro p hp; rw [List.mem_singleton.1 hp]; exact hh
  ·intro p hp; rw [List.mem_singleton.1 hp]; rfl
structure ir (P:Program) (t e:TypeId) (T:Ty α):Prop where
 sl:P.underlying t=some (.slice e)
 ex:∃ti,P.info? e=some ti∧ti.zero.map (λz=>z.cells.size)=some T.n∧ti.size=T.n∧ti.bytes≤65536
theorem uv{P:Program}{w w':World}{t ty e:TypeId}{i:TypeInfo}{z:Value}{size:Nat}(ht:P.underlying t=some (.slice e))(hi:P.info? e=some i)(hz:i.zero=some z)(hsize:i.size=size)
  {v v':Value} {n:Nat} {xs:List Value} (hown:w.ownsRow 0 e size v n xs) {m c:Nat} {news:List Value} {a:Addr} (hl:news.length=m*size) (hnews:∀j u,news[j]? = some u→w.cell? (a.add j)=some u) (h1:∀u∈news,u.oneCell'=true)
  (h63:n+m≤maxLen) (hbytes:(n+m)*i.bytes≤140737488355328) (a':Addr) (hrun:(Builtin.append_ #[t,t] ty #[v,.slice (some a) m c]).run P w = .ok v' w'):w.drawn≤w'.drawn:=by
 subst hsize
 have hsmall:n+m≤9223372036854775807:=by simp only [maxLen] at h63; omega
 rcases hown.2 with ⟨rfl,rfl⟩ | ⟨g,cap,cur,rfl,hbg,hg,hnc,hcm,hcs,htake⟩
 ·by_cases hm:m=0
  ·subst hm
   have hrun2:(Builtin.append_ #[t,t] ty #[.slice none 0 0,.slice (some a) 0 c]).run P w = .ok (.slice none 0 0) w:=by
    simp [Builtin.append_,run_underlying ht,sizeOf,typeInfo,hi,Builtin.lenOf,Builtin.firstCells,loadCells,loadCellsFrom]
   rw [hrun2] at hrun
   injection hrun with _ h; subst h
   exact E6 _
  ·have hr:=run_append_nil (P:=P) w t ty e i z ht hi hz a m c news hl hnews (by omega) (by omega) (by have hb:=hbytes; simp only [Nat.zero_add] at hb; omega)
   rw [hr] at hrun
   injection hrun with _ h; subst h
   exact Nat.le_succ w.drawn
 ·by_cases hroom:n+m≤cap
  ·have hfit:n*i.size+news.length≤cur.size:=by rw [hl,hcs, ← Nat.add_mul]; exact Nat.mul_le_mul_right _ hroom
   have hr:=run_append_room (P:=P) w t ty e i ht hi g n cap cur hg a m c news hl hnews h1 hroom hfit
   rw [hr] at hrun
   injection hrun with _ h; subst h
   exact E6 _
  ·have holds:∀j u,xs[j]? = some u→w.cell? ((⟨g,0,none⟩:Addr).add j)=some u:=hown.cells (g:=g) rfl
   have hr:=run_append_grow (P:=P) w t ty e i z ht hi hz ⟨g,0,none⟩ n cap xs hown.1 holds a m c news hl hnews (by omega) (by omega) (growslice_fits (by omega) hbytes)
   rw [hr] at hrun
   injection hrun with _ h; subst h
   exact Nat.le_succ w.drawn
theorem l7[Inhabited α]{t e:TypeId}{x y:Operand}{d i:Nat}{A:Option Addr}{c:Nat}{xs ys:List α}{row:Rowb}{A2:Option Addr}{c2:Nat}(hE:ir P t e T)(hg:o.guard=none)(hdst:o.dst=some d)(hd:bR N (some d)=true)
  (ho:o.op = .call { callee:=.builtin .append,args:=#[x,y],argTypes:=#[t,t] })
  (hx:ev σ x = .slice A xs.length c) (hy:ev σ y = .slice A2 ys.length c2) (hL:L[i]? = some row) (hown:Own T Γ e row A c xs) (hlen:xs.length+ys.length≤lim)
  (hsrc:∀w,Cur F Γ L w→(A2=none∧ys = [])∨∃a2,A2=some a2∧∃css:List (List Value),css.length=ys.length∧(∀k (h1:k<css.length),T.rd Γ css[k] (gt ys k))∧∀j u,css.flatten[j]? = some u→w.cell? (a2.add j)=some u)
  (k:∀row' A' c',Own T Γ e row' A' c' (xs++ys)→WR P N ops (CC F Γ (L.set i row')) Q rest (upd σ d (.slice A' (xs++ys).length c'))):WR P N ops (CC F Γ L) Q (o::rest) σ:=by
 obtain⟨ht,ti,hi,hzz,hsize,hby⟩:=hE
 obtain⟨z,hz,hzs⟩:=Option.map_eq_some_iff.1 hzz
 refine WR.eff hg (by rw [hdst]; exact hd) λw hw=>?_
 have hmem:row∈L:=List.mem_of_getElem? hL
 obtain⟨css,ho1,hcl,hrd⟩:=hown.owns (w:=w) (hw.loc row hmem)
 rcases hsrc w hw with ⟨rfl,rfl⟩ | ⟨a2,rfl,css2,hc2,hrd2,hcell⟩
 ·refine⟨.slice A xs.length c,w,.inl ?_,?_⟩
  ·have hrun:(Builtin.append_ #[t,t] o.type #[.slice A xs.length c,.slice none 0 c2]).run P w = .ok (.slice A xs.length c) w:=by
    have hnc:=hown.capz
    rcases hown.is with ⟨rfl,rfl,rfl,_⟩ | ⟨g,cur,_,rfl,_⟩
    ·simp [Builtin.append_,run_underlying ht,sizeOf,typeInfo,hi,Builtin.lenOf,Builtin.firstCells]
    ·simp [Builtin.append_,run_underlying ht,sizeOf,typeInfo,hi,Builtin.lenOf,Builtin.firstCells,hnc,storeCells]
   simp only [Ea] at hy
   simp [execOp,ho,resolve,invoke,builtin,hx,hy,hrun,E4,E3]
  ·rw [hdst]
   have:=k row A c (by rw [Eb]; exact hown)
   rw [Eb] at this
   refine this w ?_
   rw [show L.set i row=L from by
    apply List.ext_getElem?
    intro q
    rw [List.getElem?_set]
    split
    ·rename_i hq; subst hq; split
     ·exact hL.symm
     ·rename_i hlt; rw [List.getElem?_eq_none (by omega)]
    ·rfl]
   exact hw
 have hall:∀cs∈css2,cs.length=T.n:=by
  intro cs hcs
  obtain⟨q,hq,rfl⟩:=List.getElem_of_mem hcs
  exact T.len (hrd2 q hq)
 have hone:∀u∈css2.flatten,u.oneCell'=true:=by
  intro u hu
  obtain⟨cs,hcs,hu⟩:=List.mem_flatten.1 hu
  obtain⟨q,hq,rfl⟩:=List.getElem_of_mem hcs
  exact T.one (hrd2 q hq) u hu
 have hl2:css2.flatten.length=ys.length*T.n:=by rw [da T.n css2 hall,hc2]
 have hbytes:(xs.length+ys.length)*ti.bytes≤140737488355328:=by
  have h1:(xs.length+ys.length)*ti.bytes≤2147483648*65536:=Nat.mul_le_mul hlen hby
  omega
 have hmax:xs.length+ys.length≤maxLen:=by have h1:=hlen; unfold lim at h1; unfold maxLen; omega
 obtain⟨v',w',hrun,h2,h3,_,h5⟩:=run_append_own_at (P:=P) w 0 t o.type e ti z T.n ti.bytes ht hi hz hsize rfl hzs T.pos (.slice A xs.length c) xs.length css.flatten ho1 a2 ys.length c2 css2.flatten hl2 hcell hone hmax hbytes (E7 _)
 have hform:∃A' c',v' = .slice A' (xs++ys).length c':=by
  rw [DS]
  rcases h2.2 with ⟨hv,h0⟩ | ⟨g,cap,cur,hv,_⟩
  ·exact⟨none,0,by rw [hv,h0]⟩
  ·exact⟨_,_,hv⟩
 obtain⟨A',c',rfl⟩:=hform
 rw [← List.flatten_append, ← DS] at h2
 obtain⟨row',hown',hrow',hnd',hob⟩:=Own.of_owns (T:=T) (Γ:=Γ) (xs:=xs++ys) h2 (by simp [hcl,hc2]) (by rw [DS]; exact hlen) (λq h1=>by
  by_cases hq:q<css.length
  ·rw [List.getElem_append_left hq,iC (by omega)]
   exact hrd q hq
  ·rw [List.getElem_append_right (by omega),gN (by omega)]
   simp only [hcl]
   exact hrd2 _ _)
 refine⟨.slice A' (xs++ys).length c',w',.inl ?_,?_⟩
 ·simp only [execOp,ho,resolve,invoke,builtin,E4,E3,Result.andThen_ok,List.map_toArray,E0,List.map_nil,hx,hy,hrun]
 ·rw [hdst]
  refine k row' A' c' hown' w' (hw.set hL ?_ hrow' ?_ hnd')
  ·refine(Fr.of_grown h3 (uv ht hi hz hsize ho1 hl2 hcell hone hmax hbytes a2 hrun)).mono λq hq=>?_
   rcases hown.is with ⟨rfl,_⟩ | ⟨g,cur,_,rfl,rfl,_⟩
   ·simp [Value.ownBlock] at hq
   ·simp [Value.ownBlock] at hq; exact⟨_,List.mem_singleton.2 rfl,hq.symm⟩
  ·intro p hp
   have:=hob p hp
   rcases h5 with h5 | h5
   ·rw [h5] at this
    rcases hown.is with ⟨rfl,_⟩ | ⟨g,cur,_,rfl,rfl,_⟩
    ·simp [Value.ownBlock] at this
    ·simp [Value.ownBlock] at this; exact .inl ⟨_,List.mem_singleton.2 rfl,this⟩
   ·rw [h5] at this; injection this with this; exact .inr (by omega)
theorem mQ[Inhabited α]{A2:Option Addr}{ys:List α}(h:Sl T Γ A2 ys){w:World}(hw:Cur F Γ L w):(A2=none∧ys = [])∨∃a2,A2=some a2∧∃css:List (List Value),css.length=ys.length∧(∀k (h1:k<css.length),T.rd Γ css[k] (gt ys k))∧∀j u,css.flatten[j]? = some u→w.cell? (a2.add j)=some u:=by
 have hf:∃f:Nat→List Value, ∀i,i<ys.length→T.rd Γ (f i) (gt ys i)∧eQ Γ A2 (i*T.n) (f i):=by
  refine⟨λi=>if hi:i<ys.length then Classical.choose (h.get i hi) else [],λi hi=>?_⟩
  simp only [hi,dif_pos]
  exact Classical.choose_spec (h.get i hi)
 obtain⟨f,hf⟩:=hf
 cases A2 with
 | none=>
  left
  refine⟨rfl,?_⟩
  rcases Nat.eq_zero_or_pos ys.length with h0 | h0
  ·exact List.eq_nil_of_length_eq_zero h0
  ·have:=h.some_ h0; cases this
 | some a2=>
  right
  have hall:∀cs∈(List.range ys.length).map f,cs.length=T.n:=by
   intro cs hcs
   obtain⟨i,hi,rfl⟩:=List.mem_map.1 hcs
   exact T.len (hf i (List.mem_range.1 hi)).1
  refine⟨a2,rfl,(List.range ys.length).map f,by simp,λk hk=>?_,λj u hu=>?_⟩
  ·have hk':k<ys.length:=by simpa using hk
   simpa using (hf k hk').1
  ·have hj:j<ys.length*T.n:=by
    have:=(List.getElem?_eq_some_iff.1 hu).1
    rwa [da T.n _ hall,E8,List.length_range] at this
   have hn:=T.pos
   have hq:j / T.n<ys.length:=(Nat.div_lt_iff_lt_mul hn).2 hj
   have hr:j % T.n<T.n:=Nat.mod_lt _ hn
   have hjj:j / T.n*T.n+j % T.n=j:=by rw [Nat.mul_comm]; exact Nat.div_add_mod j T.n
   have h1:=jj T.n ((List.range ys.length).map f) (j / T.n) (j % T.n) (by simpa using hq) hall hr
   rw [hjj,hu] at h1
   simp only [List.getElem_map,List.getElem_range] at h1
   obtain⟨hlt,he⟩:=List.getElem?_eq_some_iff.1 h1.symm
   obtain⟨b,o',hb,hc⟩:=((hf _ hq).2 _ _ h1.symm).now hw.sat
   cases hb
   rw [cx, ← hjj,hc]
theorem br[Inhabited α]{i g:Nat}{cs:Array Value}{e:TypeId}{y:α}(hi:L[i]? = some [(g,.cells cs e (0,0))])(hr:T.rd Γ cs.toList y){w:World}(hw:Cur F Γ L w):
  (some (⟨g,0,none⟩:Addr)=none∧[y] = [])∨∃a2,some (⟨g,0,none⟩:Addr)=some a2∧∃css:List (List Value),css.length = [y].length∧(∀k (h1:k<css.length),T.rd Γ css[k] (gt [y] k))∧∀j u,css.flatten[j]? = some u→w.cell? (a2.add j)=some u:=by
 refine .inr ⟨_,rfl,[cs.toList],rfl,λk h1=>?_,λj u hu=>?_⟩
 ·have:k=0:=by simpa using h1
  subst this
  exact hr
 ·simp only [Ef,List.flatten_nil,Eb] at hu
  rw [cx,Nat.zero_add,hw.cell hi, ← Array.getElem?_toList,hu]
section
variable [Inhabited α] {row:Rowb} {e:TypeId} {A:Option Addr} {c:Nat} {xs:List α}
theorem qM{β:Type}{n:Nat}{cs:List β}:∀{css:List (List β)} {q:Nat},(∀c∈css,c.length=n)→q<css.length→(css.set q cs).flatten=css.flatten.take (q*n)++cs++css.flatten.drop (q*n+n)
 | [],q,_,h=>by simp at h
 | c::css,0,hl,_=>by
  have h0:=hl c (by simp)
  simp [List.drop_append,h0]
 | c::css,q+1,hl,hq=>by
  have h0:=hl c (by simp)
  have ih:=qM (cs:=cs) (css:=css) (q:=q) (λc hc=>hl c (by simp [hc])) (by simpa using hq)
  simp only [List.set_cons_succ,Ef,ih]
  rw [show (q+1)*n=c.length+q*n by rw [Nat.add_mul]; omega,List.take_length_add_append,show c.length+q*n+n=c.length+(q*n+n) by omega,List.drop_length_add_append]
  simp [DV]
theorem wk{β:Type}{f tl cs:List β}{j n m:Nat}(hf:f.length=m)(hj:j+n≤m)(hc:cs.length=n):((f++tl).take j++cs++(f++tl).drop (j+n)).take m=f.take j++cs++f.drop (j+n):=by
 have h1:(f++tl).take j=f.take j:=List.take_append_of_le_length (by omega)
 have h2:(f++tl).drop (j+n)=f.drop (j+n)++tl:=List.drop_append_of_le_length (by omega)
 rw [h1,h2, ← DV]
 exact List.take_left' (by simp; omega)
theorem qA{t:TypeId}{ad x:Operand}{i q:Nat}{v:Value}{y:α}(hg:o.guard=none)(hdst:o.dst=none)(ho:o.op = .store t ad x)(ha:ev σ ad=eR A (q*T.n))(hx:ev σ x=v)
  (hz:∀w,(sizeOf t).run P w = .ok T.n w) (hrd:T.rd Γ v.cells.toList y) (hi:L[i]? = some row) (hown:Own T Γ e row A c xs) (hq:q<xs.length)
  (k:∀row',Own T Γ e row' A c (xs.set q y)→WR P N ops (CC F Γ (L.set i row')) Q rest σ):WR P N ops (CC F Γ L) Q (o::rest) σ:=by
 refine WR.eff hg (by rw [hdst]; rfl) λw hw=>?_
 rcases hown.is with ⟨_,rfl,_⟩ | ⟨g,cur,css,rfl,rfl,h3,h4,h5,h6,h7,h8⟩
 ·simp at hq
 have hall:∀cs∈css,cs.length=T.n:=by
  intro cs hcs
  obtain⟨k,hk,rfl⟩:=List.getElem_of_mem hcs
  exact T.len (h8 k hk)
 have hvl:=T.len hrd
 have hcl:cur.toList.length=c*T.n:=by simpa using h5
 have hfit:q*T.n+T.n≤xs.length*T.n:=by
  have:(q+1)*T.n≤xs.length*T.n:=Nat.mul_le_mul_right _ hq
  rw [Nat.add_mul] at this; omega
 have hfit2:xs.length*T.n≤c*T.n:=Nat.mul_le_mul_right _ h3
 have hb:=hw.at_ hi (p:=(g,.cells cur e (0,0))) (by simp)
 have hs:=run_storeCells_at P g (q*T.n) e v.cells.toList 0 cur w hb (by rw [hvl]; omega) (λu hu=>T.one hrd u hu)
 simp only [Nat.add_zero] at hs
 refine⟨undef,w.setRow g (cur.toList.take (q*T.n)++v.cells.toList++cur.toList.drop (q*T.n+v.cells.toList.length)).toArray,.inr ⟨?_,rfl⟩,?_⟩
 rotate_left 1
 ·rw [hdst]
  refine k [(g,.cells (cur.toList.take (q*T.n)++v.cells.toList++cur.toList.drop (q*T.n+v.cells.toList.length)).toArray e (0,0))] ?_ _ (hw.setRow hi)
  have hfl:css.flatten.length=xs.length*T.n:=by rw [da T.n css hall,h6]
  have hcur:cur.toList=css.flatten++cur.toList.drop (xs.length*T.n):=by rw [← h7,List.take_append_drop]
  refine⟨by simpa using hown.le,.inr ⟨g,_,css.set q v.cells.toList,rfl,rfl,by simpa using h3,h4,?_,by simp [h6],?_,?_⟩⟩
  ·simp only [List.size_toArray,DS,Ei,Ej,hvl,hcl]
   omega
  ·rw [qM hall (by omega),hvl]
   simp only [List.length_set]
   have h9:=wk (tl:=cur.toList.drop (xs.length*T.n)) (cs:=v.cells.toList) hfl hfit hvl
   rw [← hcur] at h9
   exact h9
  ·intro p hp
   have hp':p<css.length:=by simpa using hp
   by_cases he:q=p
   ·subst he
    have:gt (xs.set q y) q=y:=by rw [bA (by simpa using hq)]; simp
    rw [this]; simpa using hrd
   ·have:gt (xs.set q y) p=gt xs p:=by
     rw [bA (by simp; omega),bA (by omega),List.getElem_set_ne he]
    rw [this]
    simpa [List.getElem_set_ne he] using h8 p hp'
 ·have hsz:v.cells.size=T.n:=by simpa using hvl
  simp [execOp,ho,ha,hx,eR,cx,Instr.storeAt,Instr.sureAddr,storeVar,hz,hsz,hs,E4,E3]
end
end
end Fw
end Go.Proofs.YtgaplodcdhhefaaGreat
