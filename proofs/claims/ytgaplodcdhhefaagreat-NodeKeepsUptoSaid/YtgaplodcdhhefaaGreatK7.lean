/- Regions that draw their order and have effects: quiet operations first, the others where they stand alone. No condition. -/
import Derived.Test.YtgaplodcdhhefaaGreatK6
import Derived.Deep.RegionHeld3
namespace Go.Proofs.YtgaplodcdhhefaaGreat
namespace Fw
set_option linter.unusedVariables false
set_option linter.unusedSimpArgs false
set_option linter.unusedSectionVars false
open Go.RowKit
section
variable {P:Program} {N:FN} {Q:Exit→Env→World→Prop} {σ:Env} {S0 C:World→Prop} {ops:Array Oper} {fuel:Nat} {listed:Array Bool}
def AP(N:FN)(Q:Exit→Env→World→Prop):Exit→Act→World→Prop
  | .panic ch,a,w=>(a.tmps.size=N.n∧a.defers=N.ds)∧∀σ,Q (.panic ch) σ w
  | e,a,w=>lift N Q e a w
theorem AP.put{c:List PanicEntry}{a:Act}{d:Option Nat}{v:Value}{w:World}(h:AP N Q (.panic c) (a.put d v) w):AP N Q (.panic c) a w:=by
  obtain⟨⟨h1,h2⟩,h3⟩:=h
  refine⟨⟨?_,?_⟩,h3⟩
  · cases d <;> simpa [Act.put] using h1
  · cases d <;> simpa [Act.put] using h2
theorem uf{id:Nat}{ops:Array Oper}{b:Bool}{a:Act}{w:World}(h:(Code.region id ops b).wp P (AP N Q) a w):(Code.region id ops b).wp P (lift N Q) a w:=by
  refine Code.wp_mono ?_ h
  intro e a' w' h'
  cases e with
  | panic ch=>exact⟨λt=>a'.tmps.getD t undef,⟨h'.1.1,h'.1.2,λt=>rfl⟩,h'.2 _⟩
  | _=>exact h'
def WHp(P:Program)(N:FN)(ops:Array Oper)(S0:World→Prop)(Q:Exit→Env→World→Prop)(fuel:Nat)(listed:Array Bool)(σ:Env)(w:World):Prop:=
  ∀a,Agr N a σ→wpAnyH P .any ops (AP N Q) S0 fuel listed a w
def WH(P:Program)(N:FN)(ops:Array Oper)(S0 C:World→Prop)(Q:Exit→Env→World→Prop)(fuel:Nat)(listed:Array Bool)(σ:Env):Prop := ∀w,C w→WHp P N ops S0 Q fuel listed σ w
theorem WC.held{id:Nat}{l:List Oper}(S0:World→Prop)(hm:P.follows .mixedOrders=true)(hC:∀w,C w→C { w with drawn:=w.drawn+1 })(h:WH P N l.toArray S0 C Q l.toArray.size (Array.replicate l.toArray.size false) σ):WC P N C (.region id l.toArray true) Q σ:=
  λw hw a ha=>uf (wp_region_held (S:=S0) hm (h _ (hC w hw) a ha))
theorem DH(hr:Region.ready .any ops listed = [])(h:∀w,C w→Q .normal σ w):WH P N ops S0 C Q fuel listed σ:=
  λw hw a ha=>wpAnyH_done hr ⟨σ,ha,h w hw⟩ fuel
theorem WH.take{i:Nat}{o:Oper}{v:Value}{d:Nat}(hi:ops[i]? = some o)(hs:Region.noSelect ops=true)(hf:Region.free .any ops listed i=true)(hr:(Region.ready .any ops listed).contains i=true)
    (hg:o.guard=none) (hdst:o.dst=some d) (hd:Nat.blt d N.n=true) (hSC:∀w,C w→S0 w) (hv:QV P S0 σ o v) (k:WH P N ops S0 C Q fuel (listed.setIfInBounds i true) (upd σ d v)):WH P N ops S0 C Q (fuel+1) listed σ:=by
  intro w hw a ha
  refine wpAnyH_take hi hs hf hr (λ_ _ _ h=>AP.put h) (.inl ⟨by simp [Region.wanted,hg],λw' hw'=>by rw [ha.eval]; exact hv w' hw'⟩) (hSC w hw) ?_
  have:=k w hw _ (ha.put (dst:=o.dst) (by rw [hdst]; exact hd) v |> λh=>by rw [hdst] at h; exact h)
  rwa [hdst]
theorem WH.takeg{i:Nat}{o:Oper}{v:Value}{d j dj:Nat}{c0 g want:Bool}(hi:ops[i]? = some o)(hs:Region.noSelect ops=true)(hf:Region.free .any ops listed i=true)(hr:(Region.ready .any ops listed).contains i=true)
    (hg:o.guard=some (j,want)) (hj:(ops[j]?).bind (·.dst)=some dj) (hsl:σ dj=gv c0 (.bool g)) (hdst:o.dst=some d) (hd:Nat.blt d N.n=true) (hSC:∀w,C w→S0 w)
    (hv:(c0&&(bif want then g else !g))=true→QV P S0 σ o v) (k:WH P N ops S0 C Q fuel (listed.setIfInBounds i true) (upd σ d (gv (c0&&(bif want then g else !g)) v))):WH P N ops S0 C Q (fuel+1) listed σ:=by
  intro w hw a ha
  have hput:∀u,Agr N (a.put o.dst u) (upd σ d u):=λu=>by
    have:=ha.put (dst:=o.dst) (by rw [hdst]; exact hd) u
    rw [hdst] at this ⊢; exact this
  have hyi:∀b:Bool,c0=true→b=g→yielded ops a.tmps j=some g:=λb hc _=>ha.yield hj (by rw [hsl,hc]; rfl)
  cases hc:(c0&&(bif want then g else !g)) with
  | true=>
    have hc0:c0=true:=bV hc
    have hgw:g=want:=by have:=de hc; cases want <;> cases g <;> simp_all
    have hy:=hyi g hc0 rfl
    rw [hc] at k
    refine wpAnyH_take hi hs hf hr (λ_ _ _ h=>AP.put h) (.inl ⟨by simp [Region.wanted,hg,hy,hgw],λw' hw'=>by rw [ha.eval]; exact hv hc w' hw'⟩) (hSC w hw) ?_
    exact k w hw _ (hput _)
  | false=>
    rw [hc] at k
    have hnw:Region.wanted o (yielded ops a.tmps)=false:=by
      cases c0 with
      | true=>
        have hy:=hyi g rfl rfl
        have:g≠want:=by cases want <;> cases g <;> simp_all
        simp [Region.wanted,hg,hy,this]
      | false=>
        have hy:yielded ops a.tmps j=none:=by
          have h1:=ha.read dj
          rw [hsl,Array.getD_eq_getD_getElem?] at h1
          unfold yielded
          rw [hj]
          simp only [E2]
          cases hq:a.tmps[dj]? with
          | none=>rfl
          | some x=>rw [hq] at h1; simp [gv,undef] at h1; subst h1; rfl
        simp [Region.wanted,hg,hy]
    refine wpAnyH_take hi hs hf hr (λ_ _ _ h=>AP.put h) (.inr ⟨hnw,rfl⟩) (hSC w hw) ?_
    exact k w hw _ (hput _)
def hq(P:Program)(N:FN)(ops:Array Oper)(S0:World→Prop)(Q:Exit→Env→World→Prop)(fuel:Nat)(listed:Array Bool):Exit→Env→World→Prop
  | .normal,σ,w=>S0 w∧WHp P N ops S0 Q fuel listed σ w
  | .panic ch,_,w => ∀σ',Q (.panic ch) σ' w
  | e,σ,w=>Q e σ w
theorem WH.lone{i:Nat}{o:Oper}(hr:Region.ready .any ops listed = [i])(hi:ops[i]? = some o)(h:WR P N ops C (hq P N ops S0 Q fuel (listed.setIfInBounds i true)) [o] σ):WH P N ops S0 C Q (fuel+1) listed σ:=by
  intro w hw a ha
  refine wpAnyH_all hr (by simp) λj hj=>?_
  obtain rfl:j=i:=by simpa using hj
  have h1:=h w hw a ha
  have hpost:∀e a' w',lift N (hq P N ops S0 Q fuel (listed.setIfInBounds j true)) e a' w'→(match e with | .normal=>S0 w'∧wpAnyH P .any ops (AP N Q) S0 fuel (listed.setIfInBounds j true) a' w' | e=>AP N Q e a' w'):=by
    rintro e a' w' ⟨σ',ha',hq'⟩
    cases e with
    | normal=>exact⟨hq'.1,hq'.2 a' ha'⟩
    | panic c=>exact⟨⟨ha'.size,ha'.defs⟩,hq'⟩
    | _=>exact⟨σ',ha',hq'⟩
  unfold wpOp
  simp only [hi]
  unfold wpList at h1
  split
  · rename_i hwn
    rw [if_pos hwn] at h1
    rcases h1 with h1 | ⟨h1,a2,w2,h2⟩
    · left
      unfold Oper.wp at *
      generalize (execOp a.eval o).run P w=r at *
      cases r with
      | ok n w'=>
        cases n <;> simp only [Oper.upon] at h1 ⊢ <;> first
          | exact hpost .normal _ _ h1
          | (refine h1.mono ?_; intro e w'' h3
             cases e with
             | returned u=>exact hpost .normal _ _ h3
             | panicked c=>exact hpost (.panic c) _ _ h3
             | outgrown=>obtain⟨a3,w3,h4⟩:=h3; exact⟨a3,w3,hpost .outgrown _ _ h4⟩)
          | (refine h1.mono ?_; intro u w'' h3; exact hpost .normal _ _ h3)
          | exact h1
      | halt x w'=>
        cases x <;> simp only [Oper.upon] at h1 ⊢ <;> first
          | exact hpost (.panic _) _ _ h1
          | exact h1
    · exact .inr ⟨h1,a2,w2,hpost .outgrown _ _ h2⟩
  · rename_i hwn
    rw [if_neg hwn] at h1
    exact hpost .normal _ _ h1
theorem WH.next{C':World→Prop}(hS:∀w,C' w→S0 w)(h:WH P N ops S0 C' Q fuel listed σ):∀w,C' w→hq P N ops S0 Q fuel listed .normal σ w:=λw hw=>⟨hS w hw,h w hw⟩
theorem WH.sub{C':World→Prop}(hS:∀w,C w→C' w)(h:WH P N ops S0 C' Q fuel listed σ):WH P N ops S0 C Q fuel listed σ:=λw hw=>h w (hS w hw)
theorem WH.each{l:List Nat}(hr:Region.ready .any ops listed=l)(hne:l≠[])(h:∀i∈l, ∃o,ops[i]? = some o∧WR P N ops C (hq P N ops S0 Q fuel (listed.setIfInBounds i true)) [o] σ):WH P N ops S0 C Q (fuel+1) listed σ:=by
  intro w hw a ha
  refine wpAnyH_all hr hne λj hj=>?_
  obtain⟨o,hi,h⟩:=h j hj
  have h1:=h w hw a ha
  have hpost:∀e a' w',lift N (hq P N ops S0 Q fuel (listed.setIfInBounds j true)) e a' w'→(match e with | .normal=>S0 w'∧wpAnyH P .any ops (AP N Q) S0 fuel (listed.setIfInBounds j true) a' w' | e=>AP N Q e a' w'):=by
    rintro e a' w' ⟨σ',ha',hq'⟩
    cases e with
    | normal=>exact⟨hq'.1,hq'.2 a' ha'⟩
    | panic c=>exact⟨⟨ha'.size,ha'.defs⟩,hq'⟩
    | _=>exact⟨σ',ha',hq'⟩
  unfold wpOp
  simp only [hi]
  unfold wpList at h1
  split
  · rename_i hwn
    rw [if_pos hwn] at h1
    rcases h1 with h1 | ⟨h1,a2,w2,h2⟩
    · left
      unfold Oper.wp at *
      generalize (execOp a.eval o).run P w=r at *
      cases r with
      | ok n w'=>
        cases n <;> simp only [Oper.upon] at h1 ⊢ <;> first
          | exact hpost .normal _ _ h1
          | (refine h1.mono ?_; intro e w'' h3
             cases e with
             | returned u=>exact hpost .normal _ _ h3
             | panicked c=>exact hpost (.panic c) _ _ h3
             | outgrown=>obtain⟨a3,w3,h4⟩:=h3; exact⟨a3,w3,hpost .outgrown _ _ h4⟩)
          | (refine h1.mono ?_; intro u w'' h3; exact hpost .normal _ _ h3)
          | exact h1
      | halt x w'=>
        cases x <;> simp only [Oper.upon] at h1 ⊢ <;> first
          | exact hpost (.panic _) _ _ h1
          | exact h1
    · exact .inr ⟨h1,a2,w2,hpost .outgrown _ _ h2⟩
  · rename_i hwn
    rw [if_neg hwn] at h1
    exact hpost .normal _ _ h1
section
variable {rest:List Oper}
theorem wz{a:Act}(ha:Agr N a σ){ops:Array Oper}{j dj:Nat}(hj:(ops[j]?).bind (·.dst)=some dj)(hs:σ dj=undef):yielded ops a.tmps j=none:=by
  have h1:=ha.read dj
  rw [hs,Array.getD_eq_getD_getElem?] at h1
  unfold yielded
  rw [hj]
  simp only [E2]
  cases hq:a.tmps[dj]? with
  | none=>rfl
  | some x=>rw [hq] at h1; simp [undef] at h1; subst h1; rfl
theorem WR.sat{o:Oper}{rest:List Oper}{j dj:Nat}{c0 g want:Bool}(hg:o.guard=some (j,want))(hj:(ops[j]?).bind (·.dst)=some dj)(hs:σ dj=gv c0 (.bool g))(hc:(c0&&(bif want then g else !g))=true)
    (k:WR P N ops C Q ({ o with guard:=none }::rest) σ):WR P N ops C Q (o::rest) σ:=by
  intro w hw a ha
  have h:=k w hw a ha
  have hc0:c0=true:=bV hc
  have hgw:g=want:=by have:=de hc; cases want <;> cases g <;> simp_all
  have hy:yielded ops a.tmps j=some g:=ha.yield hj (by rw [hs,hc0]; rfl)
  unfold wpList at h ⊢
  have h1:Region.wanted o (yielded ops a.tmps)=true:=by simp [Region.wanted,hg,hy,hgw]
  have h2:Region.wanted { o with guard:=none } (yielded ops a.tmps)=true:=by simp [Region.wanted]
  rw [if_pos h1]
  rw [if_pos h2] at h
  exact h
theorem WR.unsat{o:Oper}{rest:List Oper}{j dj:Nat}{c0 g want:Bool}(hg:o.guard=some (j,want))(hj:(ops[j]?).bind (·.dst)=some dj)(hs:σ dj=gv c0 (.bool g))(hc:(c0&&(bif want then g else !g))=false)(hd:bR N o.dst=true)
    (k:WR P N ops C Q rest (updo σ o.dst undef)):WR P N ops C Q (o::rest) σ:=by
  intro w hw a ha
  refine wpList_step λK hK=>?_
  have hnw:Region.wanted o (yielded ops a.tmps)=false:=by
    cases c0 with
    | true=>
      have hy:=ha.yield (g:=g) hj hs
      have:g≠want:=by cases want <;> cases g <;> simp_all
      simp [Region.wanted,hg,hy,this]
    | false=>simp [Region.wanted,hg,wz ha hj hs]
  rw [if_neg (by simp [hnw])]
  exact hK _ _ (k w hw _ (ha.put hd undef))
end
def tk(ops:Array Oper)(listed:Array Bool)(i:Nat):Bool:=Region.noSelect ops&&(Region.free .any ops listed i&&(Region.ready .any ops listed).contains i)
theorem ht{i:Nat}{o:Oper}{v:Value}{d:Nat}(hi:ops[i]? = some o)(hk:tk ops listed i=true)(hg:o.guard=none)(hdst:o.dst=some d)(hd:Nat.blt d N.n=true)(hSC:∀w,C w→S0 w)(hv:QV P S0 σ o v)
    (k:WH P N ops S0 C Q fuel (listed.setIfInBounds i true) (upd σ d v)):WH P N ops S0 C Q (fuel+1) listed σ:=WH.take hi (bV hk) (bV (de hk)) (de (de hk)) hg hdst hd hSC hv k
theorem hg1{i:Nat}{o:Oper}{v:Value}{d j dj:Nat}{g:Bool}(hi:ops[i]? = some o)(hk:tk ops listed i=true)(hg:o.guard=some (j,true))(hj:(ops[j]?).bind (·.dst)=some dj)(hs:σ dj = .bool g)(hdst:o.dst=some d)(hd:Nat.blt d N.n=true)(hSC:∀w,C w→S0 w)(hv:g=true→QV P S0 σ o v)
    (k:WH P N ops S0 C Q fuel (listed.setIfInBounds i true) (upd σ d (gv g v))):WH P N ops S0 C Q (fuel+1) listed σ:=WH.takeg (c0:=true) hi (bV hk) (bV (de hk)) (de (de hk)) hg hj hs hdst hd hSC (λe=>hv e) k
theorem hg0{i:Nat}{o:Oper}{v:Value}{d j dj:Nat}{g:Bool}(hi:ops[i]? = some o)(hk:tk ops listed i=true)(hg:o.guard=some (j,false))(hj:(ops[j]?).bind (·.dst)=some dj)(hs:σ dj = .bool g)(hdst:o.dst=some d)(hd:Nat.blt d N.n=true)(hSC:∀w,C w→S0 w)(hv:(!g)=true→QV P S0 σ o v)
    (k:WH P N ops S0 C Q fuel (listed.setIfInBounds i true) (upd σ d (gv (!g) v))):WH P N ops S0 C Q (fuel+1) listed σ:=WH.takeg (c0:=true) hi (bV hk) (bV (de hk)) (de (de hk)) hg hj hs hdst hd hSC (λe=>hv e) k
theorem hh0{i:Nat}{o:Oper}{v:Value}{d j dj:Nat}{c0 g:Bool}(hi:ops[i]? = some o)(hk:tk ops listed i=true)(hg:o.guard=some (j,false))(hj:(ops[j]?).bind (·.dst)=some dj)(hs:σ dj=gv c0 (.bool g))(hdst:o.dst=some d)(hd:Nat.blt d N.n=true)(hSC:∀w,C w→S0 w)(hv:(c0&&!g)=true→QV P S0 σ o v)
    (k:WH P N ops S0 C Q fuel (listed.setIfInBounds i true) (upd σ d (gv (c0&&!g) v))):WH P N ops S0 C Q (fuel+1) listed σ:=WH.takeg hi (bV hk) (bV (de hk)) (de (de hk)) hg hj hs hdst hd hSC hv k
end
end Fw
end Go.Proofs.YtgaplodcdhhefaaGreat
