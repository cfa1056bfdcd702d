/- sync.Once: what is done once. No condition. -/
import Derived.Test.YtiakfgdgafljnaaGreatE
import Derived.Tactics
import Derived.Tactics2
import Derived.Defers
import Derived.Laws.Pointers
import Derived.Laws.LoneSync
import Derived.RegionTactic
import Derived.RegionCalls
import Derived.ChangeAlike
namespace Go.Proofs.YtiakfgdgafljnaaGreat
namespace Once
set_option linter.unusedVariables false
set_option linter.unusedSimpArgs false
set_option linter.unusedSectionVars false
theorem disable(w:World):(callFunc 150 #[]).run Tryz.prog w = .ok (.value (.tuple #[])) w:=run_call_mark0 Tryz.func150 (by kernel_rfl) (by kernel_rfl) (by kernel_rfl) .disable (by kernel_rfl) w
theorem enable(w:World):(callFunc 152 #[]).run Tryz.prog w = .ok (.value (.tuple #[])) w:=run_call_mark0 Tryz.func152 (by kernel_rfl) (by kernel_rfl) (by kernel_rfl) .enable (by kernel_rfl) w
theorem acquire(a:Addr)(w:World):(callFunc 153 #[.pointer (some a)]).run Tryz.prog w = .ok (.value (.tuple #[])) w:=run_call_marked Tryz.func153 (by kernel_rfl) (by kernel_rfl) (by kernel_rfl) .acquire (by kernel_rfl) a w
theorem releaseMerge(a:Addr)(w:World):(callFunc 155 #[.pointer (some a)]).run Tryz.prog w = .ok (.value (.tuple #[])) w:=run_call_marked Tryz.func155 (by kernel_rfl) (by kernel_rfl) (by kernel_rfl) .releaseMerge (by kernel_rfl) a w
theorem b32_true:∀w,Calls Tryz.prog 143 #[.bool true] w λe w'=>e = .returned (.int .u32 1)∧w'=w:=by
  intro w
  go_enter Tryz.func143,Tryz.ntmps143
  go_wp2
  first | go_end0 | (simp only [Exit.inBlock,Exit.then]; refine bodyPost_ret (results_none rfl _ _ _) rfl ?_) | skip
  all_goals first | exact⟨rfl,rfl⟩ | (go_ret; exact⟨rfl,rfl⟩)
theorem store_deferred(a:Addr)(x:Value)(u:FrameMode)(w:World)(hc:w.cell? a=some x)(hz:w.frozen? a=false):
    CallsD Tryz.prog 123 #[.pointer (some a),.bool true] u w λe u' w'=>u'=u∧(e = .returned (.tuple #[])∧w'=w.drew.setCell a (.int .u32 1)):=by
  have hc':w.drew.cell? a=some x:=by go_simp
  have hz':w.drew.frozen? a=false:=by go_simp
  have hst:=run_call_store (P:=Tryz.prog) Tryz.func142 (by kernel_rfl) (by kernel_rfl) (by kernel_rfl) (by kernel_rfl) (k:=.u32) (y:=1) hc' hz'
  go_enter_d Tryz.func123,Tryz.ntmps123
  go_wp2
  go_region_calls
  all_goals (go_end0; exact⟨rfl,rfl⟩)
set_option maxRecDepth 100000 in
set_option maxHeartbeats 1600000 in
theorem unlock_deferred(a:Addr)(u:FrameMode)(w:World)(hc:w.cell? a=some (.int .i32 1))(hz:w.frozen? a=false):
    CallsD Tryz.prog 122 #[.pointer (some a)] u w λe u' w'=>u'=u∧(e = .returned (.tuple #[])∧w'=w.setCell a (.int .i32 0)):=by
  have hd:=disable
  have he:=enable
  have hr:=releaseMerge
  have hadd:=run_call_add (P:=Tryz.prog) Tryz.func156 (by kernel_rfl) (by kernel_rfl) (by kernel_rfl) .i32 (by kernel_rfl) (y := -1) (s:=0) hc hz (by simp [go_sem]; rfl)
  have hcv:=run_convert_to_unsafe (P:=Tryz.prog) (src:=205) (dst:=209) Tryz.underlying205 Tryz.underlying209 (by kernel_rfl) hc
  go_enter_d Tryz.func122,Tryz.ntmps122
  go_wp2
  go_end0
  go_wp2
  go_end0
  exact⟨rfl,rfl⟩
set_option maxRecDepth 100000 in
set_option maxHeartbeats 1600000 in
theorem lock_free(a:Addr)(w:World)(hc:w.cell? a=some (.int .i32 0))(hz:w.frozen? a=false):
    Calls Tryz.prog 121 #[.pointer (some a)] w λe w'=>e = .returned (.tuple #[])∧w'=w.setCell a (.int .i32 1):=by
  have hd:=disable
  have he:=enable
  have ha:=acquire
  have hcas:=run_call_cas_hit (P:=Tryz.prog) Tryz.func151 (by kernel_rfl) (by kernel_rfl) (by kernel_rfl) .i32 (by kernel_rfl) (y:=1) hc hz
  have hc':(w.setCell a (.int .i32 1)).cell? a=some (.int .i32 1):=World.cell?_setCell_same w a _ hc
  have hcv:=run_convert_to_unsafe (P:=Tryz.prog) (src:=205) (dst:=209) Tryz.underlying205 Tryz.underlying209 (by kernel_rfl) hc'
  go_enter Tryz.func121,Tryz.ntmps121
  go_wp2
  first | go_end0 | (simp only [Exit.inBlock,Exit.then]; refine bodyPost_ret (results_none rfl _ _ _) rfl ?_) | refine bodyPost_ret (results_none rfl _ _ _) rfl ?_
  go_wp2
  go_end0
  exact⟨rfl,rfl⟩
set_option maxRecDepth 100000 in
set_option maxHeartbeats 1600000 in
/-- done already -/
theorem do_done(a:Addr)(fv:Value)(w:World)(h0:w.cell? a=some (.int .u32 1)):
    Calls Tryz.prog 89 #[.pointer (some a),fv] w λe w'=>e = .returned (.tuple #[])∧w'=w:=by
  have hl:=run_call_load (P:=Tryz.prog) Tryz.func120 (by kernel_rfl) (by kernel_rfl) (by kernel_rfl) .u32 (by kernel_rfl) h0
  have hnot:∀(x:Bool) (w:World),(Op.unary .not (.bool x)).run Tryz.prog w = .ok (.bool (!x)) w:=λ_ _=>rfl
  go_enter Tryz.func89,Tryz.ntmps89
  go_wp2
  go_end0
  exact⟨rfl,rfl⟩
set_option maxRecDepth 100000 in
set_option maxHeartbeats 1600000 in
theorem slow(b:Nat)(fc:FuncId)(caps:Array Value)(R:World→Prop)(w:World)(h0:w.cell? ⟨b,0,none⟩=some (.int .u32 0))(h1:w.cell? ⟨b,1,none⟩=some (.int .i32 0))(f1:w.frozen? ⟨b,1,none⟩=false)
    (hcall:∀(args:Array Value) (w:World),(callFunc fc args).run Tryz.prog w = .ok (.enter fc args) w)
    (hcl:Calls Tryz.prog fc caps (w.setCell ⟨b,1,none⟩ (.int .i32 1)) λe w2=>e = .returned (.tuple #[])∧R w2)
    (hR:∀w2,R w2→w2.cell? ⟨b,0,none⟩=some (.int .u32 0)∧w2.cell? ⟨b,1,none⟩=some (.int .i32 1)∧w2.frozen? ⟨b,0,none⟩=false∧w2.frozen? ⟨b,1,none⟩=false) :
    Calls Tryz.prog 105 #[.pointer (some ⟨b,0,none⟩),.func (.func fc) #[] caps] w λe w'=>e = .returned (.tuple #[]) ∧
      ∃w2,R w2∧w'=(w2.drew.setCell ⟨b,0,none⟩ (.int .u32 1)).setCell ⟨b,1,none⟩ (.int .i32 0):=by
  have hl:=run_call_load (P:=Tryz.prog) Tryz.func120 (by kernel_rfl) (by kernel_rfl) (by kernel_rfl) .u32 (by kernel_rfl) (w:=w.setCell ⟨b,1,none⟩ (.int .i32 1)) (a:=⟨b,0,none⟩) (x:=0) ((World.cell?_setCell_other _ ⟨b,1,none⟩ ⟨b,0,none⟩ _ (by simp)).trans h0)
  have hnot:∀(x:Bool) (w:World),(Op.unary .not (.bool x)).run Tryz.prog w = .ok (.bool (!x)) w:=λ_ _=>rfl
  go_enter_defers Tryz.func105,Tryz.ntmps105
  go_wp2_with (go_at_call 121; refine(lock_free ⟨b,1,none⟩ _ (by go_simp) (by go_simp)).mono ?_; rintro e w' ⟨rfl,rfl⟩)
  go_wp2
  refine hcl.mono ?_
  rintro e w2 ⟨rfl,hRw⟩
  obtain⟨g0,g1,g2,g3⟩:=hR w2 hRw
  rename_i hK
  refine hK _ _ ?_
  go_wp2
  refine leaves_cons (f:=123) (args:=#[.pointer (some ⟨b,0,none⟩),.bool true]) (by simp) (by simp [go_sem]) ?_
  refine(store_deferred ⟨b,0,none⟩ (.int .u32 0) .returning _ g0 g2).mono ?_
  rintro e u' w'' ⟨rfl,rfl,rfl⟩
  refine leaves_cons (f:=122) (args:=#[.pointer (some ⟨b,1,none⟩)]) (by simp [settle]) (by simp [go_sem]) ?_
  refine(unlock_deferred ⟨b,1,none⟩ _ _ ?_ (by simp [g3])).mono ?_
  · refine(World.cell?_setCell_other _ ⟨b,0,none⟩ ⟨b,1,none⟩ _ (by simp)).trans ?_
    rw [World.cell?_drew]
    exact g1
  rintro e u' w'' ⟨rfl,rfl,rfl⟩
  simp [Leaves,settle,results,Tryz.results105]
  exact⟨w2,hRw,rfl⟩
set_option maxRecDepth 100000 in
set_option maxHeartbeats 1600000 in
theorem do_first(b:Nat)(fc:FuncId)(caps:Array Value)(R:World→Prop)(w:World)(h0:w.cell? ⟨b,0,none⟩=some (.int .u32 0))(h1:w.cell? ⟨b,1,none⟩=some (.int .i32 0))(f1:w.frozen? ⟨b,1,none⟩=false)
    (hcall:∀(args:Array Value) (w:World),(callFunc fc args).run Tryz.prog w = .ok (.enter fc args) w)
    (hcl:Calls Tryz.prog fc caps (w.setCell ⟨b,1,none⟩ (.int .i32 1)) λe w2=>e = .returned (.tuple #[])∧R w2)
    (hR:∀w2,R w2→w2.cell? ⟨b,0,none⟩=some (.int .u32 0)∧w2.cell? ⟨b,1,none⟩=some (.int .i32 1)∧w2.frozen? ⟨b,0,none⟩=false∧w2.frozen? ⟨b,1,none⟩=false) :
    Calls Tryz.prog 89 #[.pointer (some ⟨b,0,none⟩),.func (.func fc) #[] caps] w λe w'=>e = .returned (.tuple #[]) ∧
      ∃w2,R w2∧w'=(w2.drew.setCell ⟨b,0,none⟩ (.int .u32 1)).setCell ⟨b,1,none⟩ (.int .i32 0):=by
  have hl:=run_call_load (P:=Tryz.prog) Tryz.func120 (by kernel_rfl) (by kernel_rfl) (by kernel_rfl) .u32 (by kernel_rfl) h0
  have hnot:∀(x:Bool) (w:World),(Op.unary .not (.bool x)).run Tryz.prog w = .ok (.bool (!x)) w:=λ_ _=>rfl
  go_enter Tryz.func89,Tryz.ntmps89
  go_wp2_with (first | (go_at_call 105; refine(slow b fc caps R _ h0 h1 f1 hcall hcl hR).mono ?_; rintro e w' ⟨rfl,h9⟩) | (go_at_call 104; go_in))
  go_end0
  exact⟨rfl,h9⟩
end Once
end Go.Proofs.YtiakfgdgafljnaaGreat
