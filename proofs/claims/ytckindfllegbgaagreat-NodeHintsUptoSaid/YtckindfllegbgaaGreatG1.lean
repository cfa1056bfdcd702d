/- Merging, out of layer 16. No condition. -/
import Derived.Test.YtckindfllegbgaaGreatA1
namespace Go.Proofs.YtckindfllegbgaaGreat
namespace Fw
namespace Mg
set_option linter.unusedVariables false
set_option linter.unusedSimpArgs false
set_option linter.unusedSectionVars false
def allFrom(p:Nat→Bool)(k n:Nat):Bool:=(List.range' k (n - k)).all p
def anyFrom(p:Nat→Bool)(k n:Nat):Bool:=(List.range' k (n - k)).any p
theorem allFrom_step{p:Nat→Bool}{k n:Nat}(h:k<n):allFrom p k n=(p k&&allFrom p (k+1) n):=by
 unfold allFrom
 rw [show n - k=(n - (k+1))+1 by omega,List.range'_succ]; rfl
theorem allFrom_end{p:Nat→Bool}{k n:Nat}(h:n≤k):allFrom p k n=true:=by
 unfold allFrom
 rw [show n - k=0 by omega]; rfl
def spHas:List Span→Dot→Bool
 | [],_=>false
 | x::l,d=>((x.s==d.s)&&decide (x.f≤d.n))&&decide (d.n≤x.t)||spHas l d
def r3Has:List Span→Dot→Bool
 | [],_=>false
 | x::l,d=>((x.s==d.s)&&decide (x.f≤d.n))&&decide (d.n≤x.t)||r3Has l d
def spBad(x last:Span):Bool:=
 ((((((decide (x.s<1)||decide (16<x.s))||decide (x.f<1))||decide (x.t<x.f))||decide (4611686018427387904<x.t))||decide (x.s<last.s))||((x.s==last.s)&&decide (x.f≤(last.t+1))))
def spGo:List Span→Span→Bool
 | [],_=>true
 | x::l,last=>bif spBad x last then false else spGo l x
def spRight(l:List Span):Bool:=spGo l ⟨0,0,0⟩&&decide ((l.length:Int)≤1024)
def spTopGo:List Span→Int→Int→Int
 | [],_,top=>top
 | x::l,s,top=>spTopGo l s (bif x.s==s then max top x.t else top)
def spTop(l:List Span)(s:Int):Int:=spTopGo l s 0
def r3Dot(d:Dot):Bool:=(((decide (1≤d.s)&&decide (d.s≤16))&&decide (1≤d.n))&&decide (d.n≤4611686018427387904))
theorem r3Dot_t{d:Dot}(h:r3Dot d=true):1≤d.s∧d.s≤16∧1≤d.n∧d.n≤4611686018427387904:=by simp [r3Dot] at h; omega
def r3One(x:Span):Bool:=(((!(r3Dot ⟨x.s,x.f⟩))||(!(r3Dot ⟨x.s,x.t⟩)))||decide (x.t<x.f))
def r3Two(p x:Span):Bool:=(decide (x.s<p.s)||((x.s==p.s)&&decide ((x.f - 1)≤p.t)))
def r3Right(l:List Span):Bool:=bif decide (1024<l.length) then false else allFrom (λi=>!(r3One (gt l i))&&!(decide (0<(i:Int))&&r3Two (gt l (i - 1)) (gt l i))) 0 l.length
def r3TopGo:List Span→Int→Int→Int
 | [],_,n=>n
 | x::l,s,n=>r3TopGo l s (bif (x.s==s)&&decide (n<x.t) then x.t else n)
def r3Top(l:List Span)(s:Int):Int:=r3TopGo l s 0
def r3Same(a b:List Span):Bool:=bif a.length==b.length then allFrom (λi=>gt a i==gt b i) 0 a.length else false
def r5Less(a b:Dot):Bool:=bif a.s != b.s then decide (a.s<b.s) else decide (a.n<b.n)
def r5RightOne(v:Ver):Bool:=bif (((!(r3Dot v.dot))||(!(r3Right v.past)))||decide (v.dot.n≤r3Top v.past v.dot.s)) then false else bif v.gone then v.val==⟨#[]⟩ else decide ((v.val.size:Int)≤256)
def r5Behind:List Ver→Dot→Bool
 | [],_=>false
 | v::l,d=>r3Has v.past d||r5Behind l d
def r5Right(l:List Ver):Bool:=bif decide (512<l.length) then false else allFrom (λi=>!((!(r5RightOne (gt l i)))||r5Behind l (gt l i).dot)&&!(decide (0<(i:Int))&&!(r5Less (gt l (i - 1)).dot (gt l i).dot))) 0 l.length
def r5SameOne(a b:Ver):Bool:=(((a.dot==b.dot)&&(a.gone==b.gone))&&(a.val==b.val))&&r3Same a.past b.past
def r5Same(a b:List Ver):Bool:=bif a.length==b.length then allFrom (λi=>r5SameOne (gt a i) (gt b i)) 0 a.length else false
def vsBefore(a b:Dot):Bool:=(decide (a.s<b.s)||((a.s==b.s)&&decide (a.n<b.n)))
def vsBehind:Dot→List Ver→Bool
 | _,[]=>false
 | d,v::l=>spHas v.past d||vsBehind d l
def vsSame(a b:Ver):Bool:=bif ((((a.dot != b.dot)||(a.gone != b.gone))||(a.val != b.val))||((a.past.length:Int) != (b.past.length:Int))) then false else allFrom (λi=>!(gt a.past i != gt b.past i)) 0 a.past.length
def vsRightOne(v:Ver):Bool:=(((((spRight [⟨v.dot.s,v.dot.n,v.dot.n⟩])&&(spRight v.past))&&decide (spTop v.past v.dot.s<v.dot.n))&&decide ((v.val.size:Int)≤256))&&((!v.gone)||(v.val==⟨#[]⟩)))
def vsRight(l:List Ver):Bool:=allFrom (λi=>!(((!(vsRightOne (gt l i)))||(decide (0<(i:Int))&&(!(vsBefore (gt l (i - 1)).dot (gt l i).dot))))||vsBehind (gt l i).dot l)) 0 l.length&&decide ((l.length:Int)≤512)
def vsKeep(v:Ver)(a b out:List Ver):List Ver:=bif ((!(vsBehind v.dot a))&&(!(vsBehind v.dot b))) then out++[v] else out
def vsGo(A B:List Ver):Nat→List Ver→List Ver→Bool→List Ver→Bool×List Ver
 | 0,_,_,tw,out=>(tw,out)
 | _+1,[],[],tw,out=>(tw,out)
 | n+1,[],y::b,tw,out=>vsGo A B n [] b tw (vsKeep y A B out)
 | n+1,x::a,[],tw,out=>vsGo A B n a [] tw (vsKeep x A B out)
 | n+1,x::a,y::b,tw,out=>bif vsBefore x.dot y.dot then vsGo A B n a (y::b) tw (vsKeep x A B out) else
   bif x.dot==y.dot then vsGo A B n a (y::b) (tw||(!(vsSame x y))) out else vsGo A B n (x::a) b tw (vsKeep y A B out)
theorem vsGo_a{A B a b:List Ver}{i k:Nat}{tw:Bool}{out:List Ver}(hi:i<a.length)(hk:k≤b.length)(hc:(((k:Int)==(b.length:Int))||(decide ((i:Int)<(a.length:Int))&&(vsBefore (gt a i).dot (gt b k).dot)))=true):
  vsGo A B ((a.length - i)+(b.length - k)) (a.drop i) (b.drop k) tw out=vsGo A B ((a.length - (i+1))+(b.length - k)) (a.drop (i+1)) (b.drop k) tw (vsKeep (gt a i) A B out):=by
 rw [show (a.length - i)+(b.length - k)=((a.length - (i+1))+(b.length - k))+1 by omega,drop_gt hi]
 by_cases hkb:k<b.length
 ·have h1:((k:Int)==(b.length:Int))=false:=by simp; omega
  have h2:decide ((i:Int)<(a.length:Int))=true:=by simp; omega
  rw [h1,h2] at hc
  simp only [Bool.false_or,Bool.true_and] at hc
  rw [drop_gt hkb]
  simp only [vsGo,hc,cond_true]
 ·rw [List.drop_of_length_le (Nat.le_of_not_lt hkb)]
  simp only [vsGo]
theorem vsGo_t{A B a b:List Ver}{i k:Nat}{tw:Bool}{out:List Ver}(hi:i<a.length)(hk:k<b.length)(hc:(((k:Int)==(b.length:Int))||(decide ((i:Int)<(a.length:Int))&&(vsBefore (gt a i).dot (gt b k).dot)))=false)(he:((gt a i).dot==(gt b k).dot)=true):
  vsGo A B ((a.length - i)+(b.length - k)) (a.drop i) (b.drop k) tw out=vsGo A B ((a.length - (i+1))+(b.length - k)) (a.drop (i+1)) (b.drop k) (tw||(!(vsSame (gt a i) (gt b k)))) out:=by
 rw [show (a.length - i)+(b.length - k)=((a.length - (i+1))+(b.length - k))+1 by omega,drop_gt hi,drop_gt hk]
 have h2:decide ((i:Int)<(a.length:Int))=true:=by simp; omega
 have h1:=or_r hc
 rw [h2,Bool.true_and] at h1
 simp only [vsGo,h1,he,cond_false,cond_true]
theorem vsGo_b{A B a b:List Ver}{i k:Nat}{tw:Bool}{out:List Ver}(hi:i≤a.length)(hk:k<b.length)(hc:(((k:Int)==(b.length:Int))||(decide ((i:Int)<(a.length:Int))&&(vsBefore (gt a i).dot (gt b k).dot)))=false)
  (he:(decide ((i:Int)<(a.length:Int))&&((gt a i).dot==(gt b k).dot))=false) :
  vsGo A B ((a.length - i)+(b.length - k)) (a.drop i) (b.drop k) tw out=vsGo A B ((a.length - i)+(b.length - (k+1))) (a.drop i) (b.drop (k+1)) tw (vsKeep (gt b k) A B out):=by
 rw [show (a.length - i)+(b.length - k)=((a.length - i)+(b.length - (k+1)))+1 by omega,drop_gt hk]
 by_cases hia:i<a.length
 ·have h2:decide ((i:Int)<(a.length:Int))=true:=by simp; omega
  have h1:=or_r hc
  rw [h2,Bool.true_and] at h1 he
  rw [drop_gt hia]
  simp only [vsGo,h1,he,cond_false]
 ·rw [List.drop_of_length_le (Nat.le_of_not_lt hia)]
  simp only [vsGo]
def vsMerge(a b:List Ver):List Ver×Int:=
 bif ((!(vsRight a))||(!(vsRight b))) then ([],1) else bif (vsGo a b (a.length+b.length) a b false []).1 then ([],50) else
 bif decide ((512:Int)<((vsGo a b (a.length+b.length) a b false []).2.length:Int)) then ([],3) else ((vsGo a b (a.length+b.length) a b false []).2,0)
theorem vsRight_len{l:List Ver}(h:vsRight l=true):l.length≤512:=by
 unfold vsRight at h
 have:=and_r h
 simp at this; omega
theorem vsKeep_len(v:Ver)(a b out:List Ver):(vsKeep v a b out).length≤out.length+1:=by
 unfold vsKeep
 cases ((!(vsBehind v.dot a))&&(!(vsBehind v.dot b))) <;> simp
def r5AtGo:List Ver→Dot→Nat→Nat
 | [],_,k=>k
 | x::l,d,k=>bif r5Less x.dot d then r5AtGo l d (k+1) else k
def r5Put(l:List Ver)(v:Ver):List Ver:=
 bif (decide ((r5AtGo l v.dot 0:Int)<(l.length:Int))&&((gt l (r5AtGo l v.dot 0)).dot==v.dot)) then l else (l.take (r5AtGo l v.dot 0)++[v])++l.drop (r5AtGo l v.dot 0)
def r5Twin(a b:List Ver):Bool:=anyFrom (λi=>anyFrom (λk=>((gt a i).dot==(gt b k).dot)&&(!(r5SameOne (gt a i) (gt b k)))) 0 b.length) 0 a.length
def r5Fold:List Ver→List Ver→List Ver→List Ver
 | [],_,out=>out
 | x::l,skip,out=>r5Fold l skip (bif (!(r5Behind skip x.dot)) then r5Put out x else out)
def r5Merge(a b:List Ver):List Ver×Int:=
 bif ((!(r5Right a))||(!(r5Right b))) then ([],1) else bif r5Twin a b then ([],50) else
 bif decide ((512:Int)<((r5Fold b a (r5Fold a b [])).length:Int)) then ([],3) else (r5Fold b a (r5Fold a b []),0)
def vsSameL(a b:List Ver):Bool:=bif allFrom (λk=>vsSame (gt a k) (gt b k)) 0 (min a.length b.length) then ((a.length:Int)==(b.length:Int)) else false
def vsLacks(a b:List Ver):Bool:=(((vsMerge a b).2==0)&&(!(vsSameL (vsMerge a b).1 a)))
end Mg
end Fw
end Go.Proofs.YtckindfllegbgaaGreat
