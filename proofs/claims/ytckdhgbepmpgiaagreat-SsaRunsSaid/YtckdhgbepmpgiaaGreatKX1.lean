/-
  Contracts and the mathematics that the proof needs. Nothing here is a claim.
-/
import Derived.WalkKit
import Derived.Deep.Quiet
import Derived.Deep.LoopGhost
import Derived.Below
import Derived.OrdersHeld
import Derived.KernelRfl
import Derived.WalkSpells
import Derived.ChangeKeysEq
import Derived.Lib.SliceRun
import Derived.Laws.Strings
import Derived.Test.YtckdhgbepmpgiaaGreatProg
import Derived.Maps.RangeRun
import Derived.MapKept
import Derived.Shelf.Sort.Plain
import Derived.Ground.Names2Prog
import Derived.Shelf.Slices.In.SortNone
import Derived.Lib.AppendStr
import Derived.Lib.SmallJoins
import Derived.WideKeyMaps
import Derived.Lib.ItoaNum
import Derived.Lib.ItoaMem
import Derived.Laws.CopyRow
import Derived.Laws.IdiomCopy
namespace Go.GL
theorem O.{u} {α:Sort u} {a:α}:a=a:=rfl
theorem gE_ {α:Type} (l:List α) (i:Nat) (h:i<l.length):∃ z,l[i]?=some z/\z ∈ l:=⟨_,List.getElem?_eq_getElem h,List.getElem_mem h⟩
abbrev zpk:=@List.getElem?_eq_getElem
abbrev zpl:=@List.mem_of_getElem?
abbrev zpm:=@World.block_lt_of_cell?
abbrev zpn:=@List.mem_cons_of_mem
abbrev zpo:=@List.mem_cons_self
abbrev zpp:=@List.take_length
abbrev zpq:=@Nat.le_trans
abbrev zpr:=@Nat.eq_of_beq_eq_true
abbrev zps:=@List.length_append
abbrev zpt:=@Decidable.not_not
abbrev zpu:=@if_neg
abbrev zpv:=@if_pos
abbrev zpw:=@decide_eq_true
abbrev zpx:=@decide_eq_false
abbrev zpy:=@List.getElem?_eq_some_iff
abbrev zpz:=@Nat.zero_le
abbrev zpA:=@List.mem_cons
abbrev zpB:=@List.getElem?_map
abbrev zpC:=@List.mem_singleton
abbrev zpD:=@List.mem_append
abbrev zpE:=@List.length_map
abbrev zpF:=@List.length_singleton
abbrev zpG:=@Int.toNat_natCast
abbrev zpH:=@not_not_intro
abbrev zpI:=@List.getElem?_eq_none
abbrev zpJ:=@Nat.le_refl
abbrev zpK:=@List.getElem?_append_left
abbrev zpL:=@List.getElem?_append_right
abbrev zpM:=@decide_eq_decide
abbrev zpN:=@List.length_cons
abbrev zpO:=@List.length_take
abbrev zpP:=@Int.mul_nonneg
abbrev zpQ:=@List.getElem?_take
abbrev zpR:=@Array.getD_eq_getD_getElem?
abbrev zpS:=@Array.length_toList
abbrev zpT:=@Array.setIfInBounds_comm
abbrev zpU:=@Array.toList_inj
abbrev zpV:=@Array.toList_modify
abbrev zpW:=@Bool.and_eq_true
abbrev zpX:=@Bool.and_false
abbrev zpY:=@Bool.and_true
abbrev zpZ:=@Bool.eq_false_iff
abbrev zq0:=@Bool.eq_iff_iff
abbrev zq1:=@Bool.false_and
abbrev zq2:=@Bool.false_eq_true
abbrev zq3:=@Bool.false_or
abbrev zq4:=@Bool.not_eq_true'
abbrev zq5:=@Bool.not_false
abbrev zq6:=@Bool.not_true
abbrev zq7:=@Bool.or_eq_false_iff
abbrev zq8:=@Bool.or_eq_true
abbrev zq9:=@Bool.or_false
abbrev zqa:=@Bool.or_true
abbrev zqb:=@Bool.toNat_true
abbrev zqc:=@Bool.true_and
abbrev zqd:=@Bool.true_or
abbrev zqe:=@Int.emod_lt_of_pos
abbrev zqf:=@Int.emod_nonneg
abbrev zqg:=@Int.eq_ofNat_of_zero_le
abbrev zqh:=@Int.fdiv_eq_ediv_of_nonneg
abbrev zqi:=@Int.fmod_eq_emod_of_nonneg
abbrev zqj:=@Int.le_refl
abbrev zqk:=@Int.lt_or_le
abbrev zql:=@Int.mul_le_mul
abbrev zqm:=@Int.mul_le_mul_of_nonneg_left
abbrev zqn:=@Int.mul_le_mul_of_nonneg_right
abbrev zqo:=@Int.mul_le_mul_of_nonpos_left
abbrev zqp:=@Int.mul_le_mul_of_nonpos_right
abbrev zqq:=@Int.natAbs_tdiv_le_natAbs
abbrev zqr:=@Int.natCast_mul
abbrev zqs:=@Int.natCast_nonneg
abbrev zqt:=@Int.tdiv_eq_ediv_of_nonneg
abbrev zqu:=@Int.tmod_eq_emod_of_nonneg
abbrev zqv:=@List.all_eq_true
abbrev zqw:=@List.any_append
abbrev zqx:=@List.any_eq_true
abbrev zqy:=@List.append_assoc
abbrev zqz:=@List.append_nil
abbrev zqA:=@List.cons_append
abbrev zqB:=@List.count_append
abbrev zqC:=@List.drop_append_of_le_length
abbrev zqD:=@List.drop_drop
abbrev zqE:=@List.drop_eq_getElem_cons
abbrev zqF:=@List.drop_length
abbrev zqG:=@List.drop_set_of_lt
abbrev zqH:=@List.drop_succ_cons
abbrev zqI:=@List.eq_nil_of_length_eq_zero
abbrev zqJ:=@List.eq_of_mem_replicate
abbrev zqK:=@List.ext_getElem?
abbrev zqL:=@List.filter_append
abbrev zqM:=@List.filter_cons_of_neg
abbrev zqN:=@List.filter_cons_of_pos
abbrev zqO:=@List.flatMap_append
abbrev zqP:=@List.flatMap_cons
abbrev zqQ:=@List.flatMap_def
abbrev zqR:=@List.flatMap_singleton
abbrev zqS:=@List.flatten_cons
abbrev zqT:=@List.foldl_append
abbrev zqU:=@List.foldl_cons
abbrev zqV:=@List.forall_mem_cons
abbrev zqW:=@List.isEmpty_iff
abbrev zqX:=@List.length_drop
abbrev zqY:=@List.length_eq_zero_iff
abbrev zqZ:=@List.length_filter_le
abbrev zr0:=@List.length_range
abbrev zr1:=@List.length_replicate
abbrev zr2:=@List.length_set
abbrev zr3:=@List.map_append
abbrev zr4:=@List.map_congr_left
abbrev zr5:=@List.map_cons
abbrev zr6:=@List.map_map
abbrev zr7:=@List.map_nil
abbrev zr8:=@List.map_replicate
abbrev zr9:=@List.map_set
abbrev zra:=@List.mem_append_left
abbrev zrb:=@List.mem_append_right
abbrev zrc:=@List.mem_filter
abbrev zrd:=@List.mem_flatMap
abbrev zre:=@List.mem_iff_getElem?
abbrev zrf:=@List.mem_map
abbrev zrg:=@List.mem_of_find?_eq_some
abbrev zrh:=@List.mem_of_mem_drop
abbrev zri:=@List.mem_of_mem_take
abbrev zrj:=@List.mem_range
abbrev zrk:=@List.nil_append
abbrev zrl:=@List.nodup_cons
abbrev zrm:=@List.not_mem_nil
abbrev zrn:=@List.pairwise_append
abbrev zro:=@List.pairwise_cons
abbrev zrp:=@List.pairwise_iff_getElem
abbrev zrq:=@List.pairwise_singleton
abbrev zrr:=@List.range_eq_range'
abbrev zrs:=@List.range_succ
abbrev zrt:=@List.replicate_succ
abbrev zru:=@List.replicate_zero
abbrev zrv:=@List.set_append_left
abbrev zrw:=@List.set_append_right
abbrev zrx:=@List.singleton_append
abbrev zry:=@List.size_toArray
abbrev zrz:=@List.sublist_flatten_of_mem
abbrev zrA:=@List.sum_append
abbrev zrB:=@List.sum_cons
abbrev zrC:=@List.take_add_one
abbrev zrD:=@List.take_append_drop
abbrev zrE:=@List.take_append_of_le_length
abbrev zrF:=@List.take_of_length_le
abbrev zrG:=@List.take_set_of_le
abbrev zrH:=@List.take_succ_eq_append_getElem
abbrev zrI:=@List.take_zero
abbrev zrJ:=@Nat.add_assoc
abbrev zrK:=@Nat.add_comm
abbrev zrL:=@Nat.add_mul
abbrev zrM:=@Nat.add_sub_cancel_left
abbrev zrN:=@Nat.add_zero
abbrev zrO:=@Nat.beq_refl
abbrev zrP:=@Nat.div_lt_iff_lt_mul
abbrev zrQ:=@Nat.eq_of_mul_eq_mul_right
abbrev zrR:=@Nat.eq_zero_or_pos
abbrev zrS:=@Nat.le_of_eq
abbrev zrT:=@Nat.lt_of_lt_of_le
abbrev zrU:=@Nat.lt_or_ge
abbrev zrV:=@Nat.mod_lt
abbrev zrW:=@Nat.mul_le_mul
abbrev zrX:=@Nat.mul_le_mul_right
abbrev zrY:=@Nat.mul_one
abbrev zrZ:=@Nat.not_lt_zero
abbrev zs0:=@Nat.sub_self
abbrev zs1:=@Nat.succ_mul
abbrev zs3:=@Nat.zero_add
abbrev zs4:=@Nat.zero_mul
abbrev zs5:=@Option.bind_eq_some_iff
abbrev zs6:=@Option.getD_some
abbrev zs7:=@Option.isNone_iff_eq_none
abbrev zs8:=@Option.isSome_iff_exists
abbrev zs9:=@Option.isSome_some
abbrev zsa:=@Option.map_eq_some_iff
abbrev zsb:=@Option.map_some
end Go.GL
namespace Go.Proofs
abbrev tc113:=@Tryz.call113
abbrev tc114:=@Tryz.call114
abbrev tc130:=@Tryz.call130
abbrev tc131:=@Tryz.call131
abbrev tc138:=@Tryz.call138
abbrev tc172:=@Tryz.call172
abbrev tc25:=@Tryz.call25
abbrev tc37:=@Tryz.call37
abbrev tc42:=@Tryz.call42
abbrev tc56:=@Tryz.call56
abbrev tc64:=@Tryz.call64
abbrev tc66:=@Tryz.call66
abbrev tc68:=@Tryz.call68
abbrev tg100:=@Tryz.isAgg100
abbrev tg109:=@Tryz.isAgg109
abbrev tg117:=@Tryz.isAgg117
abbrev tg142:=@Tryz.isAgg142
abbrev tg159:=@Tryz.isAgg159
abbrev tg22:=@Tryz.isAgg22
abbrev tg23:=@Tryz.isAgg23
abbrev tg24:=@Tryz.isAgg24
abbrev tg26:=@Tryz.isAgg26
abbrev tg27:=@Tryz.isAgg27
abbrev tg3:=@Tryz.isAgg3
abbrev tg34:=@Tryz.isAgg34
abbrev tg36:=@Tryz.isAgg36
abbrev tg4:=@Tryz.isAgg4
abbrev tg45:=@Tryz.isAgg45
abbrev tg47:=@Tryz.isAgg47
abbrev tg66:=@Tryz.isAgg66
abbrev tg67:=@Tryz.isAgg67
abbrev tg68:=@Tryz.isAgg68
abbrev tg70:=@Tryz.isAgg70
abbrev tg72:=@Tryz.isAgg72
abbrev tg9:=@Tryz.isAgg9
abbrev tr108:=@Tryz.results108
abbrev tr110:=@Tryz.results110
abbrev tr112:=@Tryz.results112
abbrev tr117:=@Tryz.results117
abbrev tr121:=@Tryz.results121
abbrev tr122:=@Tryz.results122
abbrev tr123:=@Tryz.results123
abbrev tr128:=@Tryz.results128
abbrev tr129:=@Tryz.results129
abbrev tr13:=@Tryz.results13
abbrev tr133:=@Tryz.results133
abbrev tr138:=@Tryz.results138
abbrev tr15:=@Tryz.results15
abbrev tr150:=@Tryz.results150
abbrev tr151:=@Tryz.results151
abbrev tr153:=@Tryz.results153
abbrev tr157:=@Tryz.results157
abbrev tr16:=@Tryz.results16
abbrev tr163:=@Tryz.results163
abbrev tr164:=@Tryz.results164
abbrev tr170:=@Tryz.results170
abbrev tr173:=@Tryz.results173
abbrev tr183:=@Tryz.results183
abbrev tr200:=@Tryz.results200
abbrev tr205:=@Tryz.results205
abbrev tr23:=@Tryz.results23
abbrev tr25:=@Tryz.results25
abbrev tr29:=@Tryz.results29
abbrev tr32:=@Tryz.results32
abbrev tr34:=@Tryz.results34
abbrev tr38:=@Tryz.results38
abbrev tr39:=@Tryz.results39
abbrev tr4:=@Tryz.results4
abbrev tr43:=@Tryz.results43
abbrev tr44:=@Tryz.results44
abbrev tr48:=@Tryz.results48
abbrev tr59:=@Tryz.results59
abbrev tr60:=@Tryz.results60
abbrev tr61:=@Tryz.results61
abbrev tr64:=@Tryz.results64
abbrev tr68:=@Tryz.results68
abbrev tr71:=@Tryz.results71
abbrev tr72:=@Tryz.results72
abbrev tr78:=@Tryz.results78
abbrev tr79:=@Tryz.results79
abbrev tr86:=@Tryz.results86
abbrev tr87:=@Tryz.results87
abbrev tr90:=@Tryz.results90
abbrev tr93:=@Tryz.results93
abbrev tr94:=@Tryz.results94
abbrev tR198:=@Tryz.runUnderlying198
abbrev tR203:=@Tryz.runUnderlying203
abbrev tR22:=@Tryz.runUnderlying22
abbrev tR23:=@Tryz.runUnderlying23
abbrev tR24:=@Tryz.runUnderlying24
abbrev tR27:=@Tryz.runUnderlying27
abbrev tR28:=@Tryz.runUnderlying28
abbrev tR34:=@Tryz.runUnderlying34
abbrev tR42:=@Tryz.runUnderlying42
abbrev tR52:=@Tryz.runUnderlying52
abbrev tR56:=@Tryz.runUnderlying56
abbrev tR57:=@Tryz.runUnderlying57
abbrev tR68:=@Tryz.runUnderlying68
abbrev tR89:=@Tryz.runUnderlying89
abbrev ts100:=@Tryz.sizeOf100
abbrev ts109:=@Tryz.sizeOf109
abbrev ts117:=@Tryz.sizeOf117
abbrev ts120:=@Tryz.sizeOf120
abbrev ts142:=@Tryz.sizeOf142
abbrev ts159:=@Tryz.sizeOf159
abbrev ts193:=@Tryz.sizeOf193
abbrev ts24:=@Tryz.sizeOf24
abbrev ts26:=@Tryz.sizeOf26
abbrev ts27:=@Tryz.sizeOf27
abbrev ts3:=@Tryz.sizeOf3
abbrev ts30:=@Tryz.sizeOf30
abbrev ts34:=@Tryz.sizeOf34
abbrev ts36:=@Tryz.sizeOf36
abbrev ts4:=@Tryz.sizeOf4
abbrev ts45:=@Tryz.sizeOf45
abbrev ts47:=@Tryz.sizeOf47
abbrev ts59:=@Tryz.sizeOf59
abbrev ts65:=@Tryz.sizeOf65
abbrev ts70:=@Tryz.sizeOf70
abbrev ts72:=@Tryz.sizeOf72
abbrev ts85:=@Tryz.sizeOf85
abbrev ts88:=@Tryz.sizeOf88
abbrev ts89:=@Tryz.sizeOf89
abbrev ts9:=@Tryz.sizeOf9
abbrev ts94:=@Tryz.sizeOf94
abbrev tu100:=@Tryz.underlying100
abbrev tu156:=@Tryz.underlying156
abbrev tu24:=@Tryz.underlying24
abbrev tu27:=@Tryz.underlying27
abbrev tu34:=@Tryz.underlying34
abbrev tu89:=@Tryz.underlying89
abbrev tu9:=@Tryz.underlying9
abbrev tz109:=@Tryz.zeroValue109
abbrev tz117:=@Tryz.zeroValue117
abbrev tz120:=@Tryz.zeroValue120
abbrev tz142:=@Tryz.zeroValue142
abbrev tz159:=@Tryz.zeroValue159
abbrev tz193:=@Tryz.zeroValue193
abbrev tz26:=@Tryz.zeroValue26
abbrev tz27:=@Tryz.zeroValue27
abbrev tz3:=@Tryz.zeroValue3
abbrev tz30:=@Tryz.zeroValue30
abbrev tz36:=@Tryz.zeroValue36
abbrev tz45:=@Tryz.zeroValue45
abbrev tz47:=@Tryz.zeroValue47
abbrev tz59:=@Tryz.zeroValue59
abbrev tz65:=@Tryz.zeroValue65
abbrev tz70:=@Tryz.zeroValue70
abbrev tz72:=@Tryz.zeroValue72
abbrev tz85:=@Tryz.zeroValue85
abbrev tz88:=@Tryz.zeroValue88
end Go.Proofs
namespace Go.GL
abbrev Env:=List (Nat × Value)
def get:Env->Nat->Option Value
 | [],_=>none
 | (k,v)::r,j=>cond (Nat.beq k j) (some v) (get r j)
def ev (env:Env):Operand->Option Value
 | .tmp t=>get env t
 | .const v=>some v
 | .global g=>some (.pointer (some ⟨g,0,none⟩))
 | .func f=>some (.func (.func f) #[] #[])
structure Ok (n:Nat) (env:Env) (a:Act):Prop where
 size:a.tmps.size=n
 defs:a.defers=[]
 get:∀ k v,get env k=some v->a.tmps[k]?=some v
theorem Ok.eval {n:Nat} {env:Env} {a:Act} (h:Ok n env a) {x:Operand} {v:Value} (hx:ev env x=some v):a.eval x=v:=by
 cases x with
 | tmp t =>
  have:=h.get t v hx
  simp[Act.eval,this]
 | const u=>simpa[ev,Act.eval] using hx
 | «global» g=>simpa[ev,Act.eval] using hx
 | func f=>simpa[ev,Act.eval] using hx
theorem Ok.put {n:Nat} {env:Env} {a:Act} (h:Ok n env a) {d:Nat} {v:Value} (hd:Nat.blt d n=true):Ok n ((d,v)::env) (a.put (some d) v):=by
 have hY:d<n:=by simpa[Nat.blt_eq] using hd
 refine⟨by simp[Act.put,h.size],by simp[Act.put,h.defs],?_⟩
 intro k u hu
 simp only[GL.get]at hu
 cases hb:Nat.beq d k with
 | true =>
  rw[hb]at hu
  simp at hu
  have:d=k:=zpr hb
  subst this
  subst hu
  simp[Act.put,h.size,hY]
 | false =>
  rw[hb]at hu
  simp at hu
  have da:d ≠ k:=Nat.ne_of_beq_eq_false hb
  simp only[Act.put]
  rw[Array.getElem?_setIfInBounds_ne da]
  exact h.get k u hu
theorem Ok.put0 {n:Nat} {env:Env} {a:Act} (h:Ok n env a) {v:Value}:Ok n env (a.put none v):=h
def Sub (env' env:Env):Prop:=∀ k v,get env' k=some v->get env k=some v
theorem Sub.nil {env:Env}:Sub [] env:=fun _ _ h=>by simp[get]at h
theorem Sub.cons {env' env:Env} {d:Nat} {v:Value} (h:get env d=some v) (hs:Sub env' env):Sub ((d,v)::env') env:=by
 intro k u hu
 simp only[GL.get]at hu
 cases hb:Nat.beq d k with
 | true =>
  rw[hb]at hu
  simp at hu
  have:d=k:=zpr hb
  subst this;subst hu;exact h
 | false =>
  rw[hb]at hu
  simp at hu
  exact hs k u hu
theorem Ok.sub {n:Nat} {env env':Env} {a:Act} (h:Ok n env a) (hs:Sub env' env):Ok n env' a:=⟨h.size,h.defs,fun k v hk=>h.get k v (hs k v hk)⟩
section
variable (P:Program) (n:Nat)
def WO (ops:Array Oper) (Q:Exit->Act->World->Prop) (l:List Oper) (env:Env) (w:World):Prop:=∀ a,Ok n env a->wpList P ops Q l a w
def WC (c:Code) (Q:Exit->Act->World->Prop) (env:Env) (w:World):Prop:=∀ a,Ok n env a->c.wp P Q a w
def WX (e:Exit) (Q:Exit->Act->World->Prop) (env:Env) (w:World):Prop:=∀ a,Ok n env a->Q e a w
abbrev Ret (R:Value->World->Prop):Ending->World->Prop:=fun e w'=>∃ v,e=.returned v/\R v w'
def yA (o:Oper) (env:Env) (w:World) (v:Value) (w':World):Prop:=∀ n a,Ok n env a->(execOp a.eval o).run P w=.ok (.value v) w'
def zkJ (o:Oper) (env:Env) (w:World) (w':World):Prop:=∀ n a,Ok n env a->(execOp a.eval o).run P w=.ok .skip w'
def zcA (o:Oper) (env:Env) (w:World) (f:FuncId) (args:Array Value):Prop:=∀ n a,Ok n env a->(execOp a.eval o).run P w=.ok (.enter f args) w
end
section
variable {P:Program} {n:Nat} {ops:Array Oper} {Q:Exit->Act->World->Prop} {o:Oper} {rest:List Oper} {env:Env} {w w':World} {v:Value}
theorem WO.op {d:Nat} (hg:o.guard=none) (hd:o.dst=some d) (hn:Nat.blt d n=true) (hr:yA P o env w v w') (h:WO P n ops Q rest ((d,v)::env) w'):WO P n ops Q (o::rest) env w:=by
 intro a ha
 refine wpList_plain hg fun K hK=>?_
 unfold Oper.wp
 rw[hr n a ha,Oper.upon_value,hd]
 exact hK _ _ (h _ (ha.put hn))
theorem zlD (hg:o.guard=none) (hd:o.dst=none) (hr:zkJ P o env w w') (h:WO P n ops Q rest env w'):WO P n ops Q (o::rest) env w:=by
 intro a ha
 refine wpList_plain hg fun K hK=>?_
 unfold Oper.wp
 rw[hr n a ha,Oper.upon_skip,hd]
 exact hK _ _ (h _ ha.put0)
theorem WO.call {d:Nat} {f:FuncId} {args:Array Value} {R:Value->World->Prop} (hg:o.guard=none) (hd:o.dst=some d) (hn:Nat.blt d n=true) (hr:zcA P o env w f args)
  (hc:Calls P f args w (fun e w'=>∃ v,e=.returned v/\R v w')) (h:∀ v w',R v w'->WO P n ops Q rest ((d,v)::env) w'):WO P n ops Q (o::rest) env w:=by
 intro a ha
 refine wpList_plain hg fun K hK=>?_
 unfold Oper.wp
 rw[hr n a ha,Oper.upon_enter]
 refine hc.mono ?_
 rintro e w'' ⟨v,rfl,hR⟩
 simp only[hd]
 exact hK _ _ (h v w'' hR _ (ha.put hn))
theorem WO.nil (h:WX n .normal Q env w):WO P n ops Q [] env w:=fun a ha=>wpList_nil (h a ha)
theorem WO.sub {env':Env} {l:List Oper} (hs:Sub env' env) (h:WO P n ops Q l env' w):WO P n ops Q l env w:=fun a ha=>h a (ha.sub hs)
theorem WC.sub {env':Env} {c:Code} (hs:Sub env' env) (h:WC P n c Q env' w):WC P n c Q env w:=fun a ha=>h a (ha.sub hs)
theorem WX.sub {env':Env} {e:Exit} (hs:Sub env' env) (h:WX n e Q env' w):WX n e Q env w:=fun a ha=>h a (ha.sub hs)
theorem WC.seq {x y:Code} (h:WC P n x (Exit.then (fun a w=>y.wp P Q a w) Q) env w):WC P n (x.seq y) Q env w:=fun a ha=>wp_seq (h a ha)
theorem WC.region {id:Nat} {l:List Oper} (h:WO P n l.toArray Q l env w):WC P n (.region id l.toArray false) Q env w:=fun a ha=>wp_region_lit (h a ha)
theorem WC.block {id:Nat} {c:Code} (h:WC P n c (Exit.inBlock id Q) env w):WC P n (.block id c) Q env w:=fun a ha=>wp_block (h a ha)
theorem WC.skip (h:WX n .normal Q env w):WC P n .skip Q env w:=fun a ha=>wp_skip (h a ha)
theorem WC.exit {id:Nat} (h:WX n (.exit id) Q env w):WC P n (.exit id) Q env w:=fun a ha=>wp_exit (h a ha)
theorem WC.ret (h:WX n .ret Q env w):WC P n .ret Q env w:=fun a ha=>wp_ret (h a ha)
theorem WC.bool {c:Operand} {x y:Code} {b:Bool} (hc:ev env c=some (.bool b)) (h1:b=true->WC P n x Q env w) (h2:b=false->WC P n y Q env w):WC P n (.cond c x y) Q env w :=
 fun a ha=>wp_cond_split (ha.eval hc) (fun h=>h1 h a ha) (fun h=>h2 h a ha)
theorem zlE {c:Operand} {x y:Code} {p:Prop} [Decidable p] (hc:ev env c=some (.bool (decide p))) (h1:p->WC P n x Q env w) (h2:¬ p->WC P n y Q env w):WC P n (.cond c x y) Q env w :=
 WC.bool hc (fun h=>h1 (of_decide_eq_true h)) (fun h=>h2 (of_decide_eq_false h))
theorem zlH {c:Operand} {x y:Code} {b:Bool} (hc:ev env c=some (.bool b)) (hb:b=true) (h1:WC P n x Q env w):WC P n (.cond c x y) Q env w :=
 WC.bool hc (fun _=>h1) (fun h=>by rw[hb]at h;cases h)
theorem zlI {c:Operand} {x y:Code} {b:Bool} (hc:ev env c=some (.bool b)) (hb:b=false) (h1:WC P n y Q env w):WC P n (.cond c x y) Q env w :=
 WC.bool hc (fun h=>by rw[hb]at h;cases h) (fun _=>h1)
theorem WX.next {c:Code} {Q':Exit->Act->World->Prop} (h:WC P n c Q env w):WX n .normal (Exit.then (fun a w=>c.wp P Q a w) Q') env w:=h
theorem zlJ {id:Nat} {K:Act->World->Prop} (h:WX n (.exit id) Q env w):WX n (.exit id) (Exit.then K Q) env w:=h
theorem zlK {K:Act->World->Prop} (h:WX n .ret Q env w):WX n .ret (Exit.then K Q) env w:=h
theorem zlL {id:Nat} (h:WX n .normal Q env w):WX n .normal (Exit.inBlock id Q) env w:=h
theorem zlM {id:Nat} (h:WX n .ret Q env w):WX n .ret (Exit.inBlock id Q) env w:=h
theorem zlN {id:Nat} (h:WX n .normal Q env w):WX n (.exit id) (Exit.inBlock id Q) env w:=by
 intro a ha;simp only[Exit.inBlock,if_true];exact h a ha
theorem zlO {id id':Nat} (hY:Nat.beq id' id=false) (h:WX n (.exit id') Q env w):WX n (.exit id') (Exit.inBlock id Q) env w:=by
 intro a ha;simp only[Exit.inBlock,zpu (Nat.ne_of_beq_eq_false hY)];exact h a ha
def zjS {σ:Type} (n:Nat) (env':σ->Env) (I:σ->World->Prop) (μ:σ->Nat) (m:Nat) (a:Act) (w:World):Prop:=∃ s,Ok n (env' s) a/\I s w/\μ s<m
theorem WC.loop {σ:Type} (env':σ->Env) (I:σ->World->Prop) (μ:σ->Nat) {c:Code} (s₀:σ) (h₀:Sub (env' s₀) env) (hI:I s₀ w)
  (h:∀ s w',I s w'->WC P n c (Exit.then (zjS n env' I μ (μ s)) Q) (env' s) w'):WC P n (.loop c) Q env w:=by
 intro a ha
 refine wp_loop_ghost (fun m a w=>∃ s,μ s=m/\Ok n (env' s) a/\I s w) (μ s₀) ⟨s₀,rfl,ha.sub h₀,hI⟩ ?_
 rintro m a w ⟨s,rfl,hY,da⟩
 refine Code.wp_mono ?_ (h s w da a hY)
 intro e a' w' hq
 cases e<;>first | exact hq | skip
 obtain⟨s',h1,h2,h3⟩:=hq
 exact⟨μ s',h3,s',rfl,h1,h2⟩
theorem WX.back {σ:Type} {env':σ->Env} {I:σ->World->Prop} {μ:σ->Nat} {m:Nat} (s:σ) (h0:Sub (env' s) env) (hI:I s w) (hm:μ s<m):WX n .normal (Exit.then (zjS n env' I μ m) Q) env w :=
 fun _ ha=>⟨s,ha.sub h0,hI,hm⟩
def zjT {σ:Type} (n:Nat) (env':σ->Env) (I:σ->World->Prop) (a:Act) (w:World):Prop:=∃ s,Ok n (env' s) a/\I s w
theorem zlP {σ:Type} (env':σ->Env) (I:σ->World->Prop) {c:Code} (h:WC P n c (Exit.then (zjT n env' I) Q) env w) (hk:∀ s w',I s w'->WX n .normal Q (env' s) w'):WC P n c Q env w:=by
 intro a ha
 refine Code.wp_mono ?_ (h a ha)
 intro e a' w' hq
 cases e<;>first | exact hq | skip
 obtain⟨s,h1,h2⟩:=hq
 exact hk s w' h2 a' h1
theorem zlR {σ:Type} {env':σ->Env} {I:σ->World->Prop} (s:σ) (h0:Sub (env' s) env) (hI:I s w):WX n .normal (Exit.then (zjT n env' I) Q) env w:=fun _ ha=>⟨s,ha.sub h0,hI⟩
end
theorem calls {P:Program} {f:FuncId} {fn:Func} {c:Code} {args:Array Value} {w:World} {R:Ending->World->Prop} (hf:P.funcs[f]?=some fn) (hb:fn.body=some c) (env:Env) (n:Nat) (hn:args.size<=n/\fn.ntmps=n)
  (hY:∀ k v,get env k=some v->args[k]?=some v) (h:WC P n c (bodyPost P fn R) env w):Calls P f args w R:=by
 refine calls_of_wp hf hb (h _ ⟨?_,rfl,?_⟩)
 . simp[hn.2];omega
 intro k v hk
 have h1:=hY k v hk
 have da:k<args.size:=by
  rcases zrU k args.size with h' | h'
  . exact h'
  rw[Array.getElem?_eq_none h']at h1;cases h1
 simp[Array.getElem?_append,da]
 simpa[da] using h1
theorem zkK {vs:List Value} {env:Env} (h:Sub env ((List.range vs.length).zip vs)):∀ k v,get env k=some v->vs.toArray[k]?=some v:=by
 intro k v hk
 have h1:=h k v hk
 have key:∀ (vs:List Value) (s:Nat),get ((List.range' s vs.length).zip vs) k=some v->s<=k/\vs[k - s]?=some v:=by
  intro vs
  induction vs with
  | nil=>intro s h;simp[get]at h
  | cons x r ih =>
   intro s h
   simp only[zpN,List.range'_succ,List.zip_cons_cons,get]at h
   cases hb:Nat.beq s k with
   | true =>
    have:s=k:=zpr hb
    subst this
    rw[hb]at h
    simp at h
    simp[h]
   | false =>
    rw[hb]at h
    simp at h
    obtain⟨h2,h3⟩:=ih (s+1) h
    refine⟨by omega,?_⟩
    have e:k - s=(k - (s+1))+1:=by omega
    rw[e]
    simpa using h3
 rw[zrr]at h1
 simpa using (key vs 0 h1).2
section
variable {P:Program} {fn:Func} {R:Ending->World->Prop} {n:Nat} {env:Env} {w:World}
theorem zlU {t:Tmp} {v:Value} (h:fn.results=#[.tmp t]) (hv:get env t=some v) (hR:R (.returned v) w):WX n .ret (bodyPost P fn R) env w:=by
 intro a ha
 refine bodyPost_ret (results_tmp h _ _ _) ha.defs ?_
 have:=ha.get t v hv
 simpa[zpR,this] using hR
theorem zlX {t u:Tmp} {v x:Value} (h:fn.results=#[.tmp t,.tmp u]) (hv:get env t=some v) (hx:get env u=some x) (hR:R (.returned (.tuple #[v,x])) w):WX n .ret (bodyPost P fn R) env w:=by
 intro a ha
 refine bodyPost_ret (results_tmp2 h _ _ _) ha.defs ?_
 have h1:=ha.get t v hv
 have h2:=ha.get u x hx
 simpa[zpR,h1,h2] using hR
theorem zm0 {t u s:Tmp} {v x y:Value} (h:fn.results=#[.tmp t,.tmp u,.tmp s]) (hv:get env t=some v) (hx:get env u=some x) (hy:get env s=some y) (hR:R (.returned (.tuple #[v,x,y])) w):WX n .ret (bodyPost P fn R) env w:=by
 intro a ha
 refine bodyPost_ret (results_tmp3 h _ _ _) ha.defs ?_
 have h1:=ha.get t v hv
 have h2:=ha.get u x hx
 have h3:=ha.get s y hy
 simpa[zpR,h1,h2,h3] using hR
theorem zm2 {p:Tmp} {ty:TypeId} {a0:Addr} {v:Value} (h:fn.results=#[.cell p ty]) (hp:get env p=some (.pointer (some a0))) (hl:(loadVar ty a0).run P w=.ok v w) (hR:R (.returned v) w):WX n .ret (bodyPost P fn R) env w:=by
 intro a ha
 have:=ha.get p _ hp
 refine bodyPost_ret (v:=v) ?_ ha.defs hR
 simp[results,h,this,asAddr,hl]
theorem zm5 {p t:Tmp} {ty:TypeId} {a0:Addr} {v x:Value} (h:fn.results=#[.cell p ty,.tmp t]) (hp:get env p=some (.pointer (some a0))) (hl:(loadVar ty a0).run P w=.ok v w) (hx:get env t=some x) (hR:R (.returned (.tuple #[v,x])) w):WX n .ret (bodyPost P fn R) env w:=by
 intro a ha
 have h1:=ha.get p _ hp
 have h2:=ha.get t _ hx
 refine bodyPost_ret (v:=.tuple #[v,x]) ?_ ha.defs hR
 simp[results,h,h1,h2,asAddr,hl]
theorem zm8 (h:fn.results=#[]) (hR:R (.returned (.tuple #[])) w):WX n .normal (bodyPost P fn R) env w:=by
 intro a ha
 exact bodyPost_end (results_none h _ _ _) ha.defs hR
end
section
variable {P:Program} {env:Env} {w:World} {dst:Option Tmp} {ty:TypeId} {pos:String} {aft:Array Edge} {g:Option (Nat × Bool)}
theorem R.move {x:Operand} {v:Value} (hx:ev env x=some v):yA P ⟨dst,.move x,ty,pos,aft,g⟩ env w v w:=by
 intro n a ha;simp[execOp,ha.eval hx]
theorem R.assign {x:Operand} {v:Value} (hx:ev env x=some v):yA P ⟨dst,.assign x,ty,pos,aft,g⟩ env w v w:=by
 intro n a ha;simp[execOp,ha.eval hx]
theorem zmb {c x y:Operand} {b:Bool} {v:Value} (hc:ev env c=some (.bool b)) (hb:b=true) (hx:ev env x=some v):yA P ⟨dst,.pick c x y,ty,pos,aft,g⟩ env w v w:=by
 intro n a ha;simp[execOp,ha.eval hc,ha.eval hx,asBool,hb]
theorem zmc {c x y:Operand} {b:Bool} {v:Value} (hc:ev env c=some (.bool b)) (hb:b=false) (hy:ev env y=some v):yA P ⟨dst,.pick c x y,ty,pos,aft,g⟩ env w v w:=by
 intro n a ha;simp[execOp,ha.eval hc,ha.eval hy,asBool,hb]
theorem R.nilCheck {x:Operand} {a0:Addr} (hx:ev env x=some (.pointer (some a0))):yA P ⟨dst,.nilCheck x,ty,pos,aft,g⟩ env w (.pointer (some a0)) w:=by
 intro n a ha;simp[execOp,ha.eval hx]
theorem zmd {x:Operand} {f:FuncId} {fs cs:Array Value} (hx:ev env x=some (.func (.func f) fs cs)):yA P ⟨dst,.nilCheck x,ty,pos,aft,g⟩ env w (.func (.func f) fs cs) w:=by
 intro n a ha;simp[execOp,ha.eval hx]
theorem R.extract {x:Operand} {i:Nat} {vs:Array Value} {v:Value} (hx:ev env x=some (.tuple vs)) (hi:vs[i]?=some v):yA P ⟨dst,.extract x i,ty,pos,aft,g⟩ env w v w:=by
 intro n a ha;simp[execOp,ha.eval hx,Instr.extract,hi]
section
variable {t t':TypeId} {x y:Operand} {k:IntKind} {m j:Int}
theorem R.add (hx:ev env x=some (.int k m)) (hy:ev env y=some (.int k j)) (hr:k.wrap (m+j)=m+j):yA P ⟨dst,.binOp .add t x y t',ty,pos,aft,g⟩ env w (.int k (m+j)) w:=by
 intro n a ha;simp[execOp,ha.eval hx,ha.eval hy,eqGuard_add,binOp_add,Op.intArith,hr]
theorem R.sub (hx:ev env x=some (.int k m)) (hy:ev env y=some (.int k j)) (hr:k.wrap (m - j)=m - j):yA P ⟨dst,.binOp .sub t x y t',ty,pos,aft,g⟩ env w (.int k (m - j)) w:=by
 intro n a ha;simp[execOp,ha.eval hx,ha.eval hy,eqGuard_sub,binOp_sub,Op.intArith,hr]
theorem R.mul (hx:ev env x=some (.int k m)) (hy:ev env y=some (.int k j)) (hr:k.wrap (m*j)=m*j):yA P ⟨dst,.binOp .mul t x y t',ty,pos,aft,g⟩ env w (.int k (m*j)) w:=by
 intro n a ha;simp[execOp,ha.eval hx,ha.eval hy,eqGuard_mul,binOp_mul,Op.intArith,hr]
theorem R.lss (hx:ev env x=some (.int k m)) (hy:ev env y=some (.int k j)):yA P ⟨dst,.binOp .lss t x y t',ty,pos,aft,g⟩ env w (.bool (decide (m<j))) w:=by
 intro n a ha;simp[execOp,ha.eval hx,ha.eval hy,eqGuard_lss,binOp_lss]
theorem R.leq (hx:ev env x=some (.int k m)) (hy:ev env y=some (.int k j)):yA P ⟨dst,.binOp .leq t x y t',ty,pos,aft,g⟩ env w (.bool (decide (m<=j))) w:=by
 intro n a ha;simp[execOp,ha.eval hx,ha.eval hy,eqGuard_leq,binOp_leq]
theorem R.gtr (hx:ev env x=some (.int k m)) (hy:ev env y=some (.int k j)):yA P ⟨dst,.binOp .gtr t x y t',ty,pos,aft,g⟩ env w (.bool (decide (j<m))) w:=by
 intro n a ha;simp[execOp,ha.eval hx,ha.eval hy,eqGuard_gtr,binOp_gtr]
theorem R.geq (hx:ev env x=some (.int k m)) (hy:ev env y=some (.int k j)):yA P ⟨dst,.binOp .geq t x y t',ty,pos,aft,g⟩ env w (.bool (decide (j<=m))) w:=by
 intro n a ha;simp[execOp,ha.eval hx,ha.eval hy,eqGuard_geq,binOp_geq]
theorem R.eql (hx:ev env x=some (.int k m)) (hy:ev env y=some (.int k j)):yA P ⟨dst,.binOp .eql t x y t',ty,pos,aft,g⟩ env w (.bool (decide (m=j))) w:=by
 intro n a ha;simp[execOp,ha.eval hx,ha.eval hy,eqGuard_at_int,binOp_eql];rfl
theorem R.neq (hx:ev env x=some (.int k m)) (hy:ev env y=some (.int k j)):yA P ⟨dst,.binOp .neq t x y t',ty,pos,aft,g⟩ env w (.bool (decide (m ≠ j))) w:=by
 intro n a ha;simp[execOp,ha.eval hx,ha.eval hy,eqGuard_at_int,binOp_neq,bne];by_cases h:m=j<;>simp[h]
theorem zme {p q:Bool} (ht:P.underlying t=some .bool) (hx:ev env x=some (.bool p)) (hy:ev env y=some (.bool q)):yA P ⟨dst,.binOp .eql t x y t',ty,pos,aft,g⟩ env w (.bool (decide (p=q))) w:=by
 intro n a ha;simp[execOp,ha.eval hx,ha.eval hy,eqGuard_at_bool,run_eql_bool _ _ _ _ ht];cases p<;>cases q<;>rfl
theorem zmf {p q:Bool} (ht:P.underlying t=some .bool) (hx:ev env x=some (.bool p)) (hy:ev env y=some (.bool q)):yA P ⟨dst,.binOp .neq t x y t',ty,pos,aft,g⟩ env w (.bool (decide (p ≠ q))) w:=by
 intro n a ha;simp[execOp,ha.eval hx,ha.eval hy,eqGuard_at_bool,run_neq_bool _ _ _ _ ht];cases p<;>cases q<;>rfl
theorem R.not {b:Bool} (hx:ev env x=some (.bool b)):yA P ⟨dst,.unOp .not t x,ty,pos,aft,g⟩ env w (.bool (!b)) w:=by
 intro n a ha;simp[execOp,ha.eval hx,Op.unary]
end
theorem xY {m:Int} (h:-9223372036854775808<=m/\m<=9223372036854775807):IntKind.i64.wrap m=m:=by
 rw[IntKind.wrap_i64];omega
def Cells (w:World) (b o:Nat) (cs:List Value):Prop:=∀ j v,cs[j]?=some v->w.cell? ⟨b,o+j,none⟩=some v
def Blk (w:World) (b:Nat) (cs:List Value) (e:TypeId):Prop:=w.heap[b]?=some (.cells cs.toArray e (0,0))
theorem Blk.cells {w:World} {b:Nat} {cs:List Value} {e:TypeId} (h:Blk w b cs e):Cells w b 0 cs:=by
 intro j v hv
 unfold Blk at h
 simp only[World.cell?,h]
 simpa using hv
theorem Blk.lt {w:World} {b:Nat} {cs:List Value} {e:TypeId} (h:Blk w b cs e):b<w.heap.size:=by
 unfold Blk at h
 rcases zrU b w.heap.size with h' | h'
 . exact h'
 rw[Array.getElem?_eq_none h']at h;cases h
theorem Blk.frozen {w:World} {b o:Nat} {cs:List Value} {e:TypeId} (h:Blk w b cs e):w.frozen? ⟨b,o,none⟩=false:=frozen_of_row w b o _ e h
theorem Cells.part {w:World} {b o:Nat} {cs ds:List Value} (h:Cells w b o cs) (i:Nat) (hd:∀ j v,ds[j]?=some v->cs[i+j]?=some v):Cells w b (o+i) ds:=by
 intro j v hv
 rw[zrJ]
 exact h _ _ (hd j v hv)
theorem Cells.el1 {w:World} {b o:Nat} {cs:List Value} (h:Cells w b o cs) {i:Int} (a:Nat) (hi:i=(a:Int)) {v:Value} (hv:cs[a]?=some v):w.cell? ⟨b,o+i.toNat*1,none⟩=some v:=by
 subst hi
 rw[zpG,zrY]
 exact h a v hv
theorem xz (b o n:Nat):(⟨b,o,none⟩:Addr).add n=⟨b,o+n,none⟩:=Addr.add_lit b o n
theorem zmg {x:Operand} {ts:Array TypeId} {t e:TypeId} {ao:Option Addr} {l c:Nat} (ht:ts[0]?=some t) (hu:∀ w,(underlying t).run P w=.ok (.slice e) w) (hx:ev env x=some (.slice ao l c)) :
  yA P ⟨dst,.call ⟨.builtin .len,#[x],ts⟩,ty,pos,aft,g⟩ env w (.int .i64 l) w:=by
 intro n a ha
 simp[execOp,resolve,invoke,builtin,ha.eval hx,Builtin.len_,ht,hu,goInt]
theorem zmh {t e:TypeId} {k:Nat} {x y:Operand} {ao:Option Addr} {b o l c:Nat} {kd:IntKind} {i:Int} (hu:∀ w,(underlying t).run P w=.ok (.slice e) w) (hs:∀ w,(sizeOf e).run P w=.ok k w)
  (hx:ev env x=some (.slice ao l c)) (hy:ev env y=some (.int kd i)) (hY:ao=some ⟨b,o,none⟩) (h0:0<=i/\i<l) :
  yA P ⟨dst,.indexAddr t x y,ty,pos,aft,g⟩ env w (.pointer (some ⟨b,o+i.toNat*k,none⟩)) w:=by
 intro n a ha
 subst hY
 simp[execOp,ha.eval hx,ha.eval hy,Instr.indexAt,asIntOf,hu,hs,h0,xz]
theorem zmi {t e:TypeId} {k len:Nat} {x y:Operand} {b o:Nat} {kd:IntKind} {i:Int} (hu:∀ w,(underlying t).run P w=.ok (.array len e) w) (hs:∀ w,(sizeOf e).run P w=.ok k w)
  (hx:ev env x=some (.pointer (some ⟨b,o,none⟩))) (hy:ev env y=some (.int kd i)) (h0:0<=i/\i<len) :
  yA P ⟨dst,.indexAddr t x y,ty,pos,aft,g⟩ env w (.pointer (some ⟨b,o+i.toNat*k,none⟩)) w:=by
 intro n a ha
 simp[execOp,ha.eval hx,ha.eval hy,Instr.indexAt,asIntOf,hu,hs,h0,Instr.sureAddr,xz]
theorem R.fieldAddr {s:TypeId} {x:Operand} {fld k:Nat} {b o:Nat} {fields:Array Field} {f:Field} (hu:∀ w,(underlying s).run P w=.ok (.struct fields) w) (hf:fields[fld]?=some f) (hs:∀ w,(sizeOf f.type).run P w=.ok (k+1) w)
  (hx:ev env x=some (.pointer (some ⟨b,o,none⟩))):yA P ⟨dst,.fieldAddr s x fld,ty,pos,aft,g⟩ env w (.pointer (some ⟨b,o+f.offset,none⟩)) w:=by
 intro n a ha
 simp[execOp,ha.eval hx,Instr.fieldAt,hu,hf,Instr.sureAddr,fieldPlace,hs,xz]
theorem R.load {t:TypeId} {x:Operand} {a0:Addr} {v:Value} (ht:∀ w,(isAgg t).run P w=.ok false w) (hx:ev env x=some (.pointer (some a0))) (hc:w.cell? a0=some v) :
  yA P ⟨dst,.load t x,ty,pos,aft,g⟩ env w v w:=by
 intro n a ha
 simp[execOp,ha.eval hx,Instr.loadAt,Instr.sureAddr,loadVar,ht,hc]
theorem zn {t:TypeId} {k:Nat} {b o:Nat} {cs:List Value} (ht:∀ w,(isAgg t).run P w=.ok true w) (hs:∀ w,(sizeOf t).run P w=.ok k w) (hl:cs.length=k) (hc:Cells w b o cs):(loadVar t ⟨b,o,none⟩).run P w=.ok (.agg cs.toArray) w:=by
 have:=run_loadCells_list (P:=P) (w:=w) ⟨b,o,none⟩ cs (fun j v hv=>by rw[Addr.add_lit];exact hc j v hv)
 simp[loadVar,ht,hs,<- hl,this]
theorem zmj {t:TypeId} {k:Nat} {x:Operand} {b o:Nat} {cs:List Value} (ht:∀ w,(isAgg t).run P w=.ok true w) (hs:∀ w,(sizeOf t).run P w=.ok k w) (hx:ev env x=some (.pointer (some ⟨b,o,none⟩))) (hl:cs.length=k) (hc:Cells w b o cs) :
  yA P ⟨dst,.load t x,ty,pos,aft,g⟩ env w (.agg cs.toArray) w:=by
 intro n a ha
 have:=run_loadCells_list (P:=P) (w:=w) ⟨b,o,none⟩ cs (fun j v hv=>by rw[Addr.add_lit];exact hc j v hv)
 simp[execOp,ha.eval hx,Instr.loadAt,Instr.sureAddr,loadVar,ht,hs,<- hl,this]
theorem R.field {s:TypeId} {x:Operand} {fld:Nat} {fields:Array Field} {f:Field} {cs:List Value} {v:Value} (hu:∀ w,(underlying s).run P w=.ok (.struct fields) w) (hf:fields[fld]?=some f) (ht:∀ w,(isAgg f.type).run P w=.ok false w)
  (hx:ev env x=some (.agg cs.toArray)) (hv:cs[f.offset]?=some v):yA P ⟨dst,.field s x fld,ty,pos,aft,g⟩ env w v w:=by
 intro n a ha
 simp[execOp,ha.eval hx,Instr.field,hu,hf,asAgg,part,ht,hv]
theorem zmk {t e:TypeId} {k:Nat} {x lo:Operand} {ao:Option Addr} {l c:Nat} {kd:IntKind} {i:Int} (hu:∀ w,(underlying t).run P w=.ok (.slice e) w) (hs:∀ w,(sizeOf e).run P w=.ok k w) (hx:ev env x=some (.slice ao l c)) (hy:ev env lo=some (.int kd i)) (h0:0<=i/\i<=l) :
  yA P ⟨dst,.slice t x (some lo) none none,ty,pos,aft,g⟩ env w (.slice (if c=i.toNat then ao else ao.map (·.add (i.toNat*k))) (l - i.toNat) (c - i.toNat)) w:=by
 intro n a ha
 simp[execOp,ha.eval hx,ha.eval hy,Instr.sliceAt,Instr.slice,Instr.sliceBounds,Instr.sliceBound,asIntOf,hu,hs,h0]
theorem zml {t e:TypeId} {k:Nat} {x hi:Operand} {ao:Option Addr} {l c:Nat} {kd:IntKind} {i:Int} (hu:∀ w,(underlying t).run P w=.ok (.slice e) w) (hs:∀ w,(sizeOf e).run P w=.ok k w) (hx:ev env x=some (.slice ao l c)) (hy:ev env hi=some (.int kd i)) (h0:0<=i/\i<=c) :
  yA P ⟨dst,.slice t x none (some hi) none,ty,pos,aft,g⟩ env w (.slice (if c=0 then ao else ao.map (·.add (0*k))) i.toNat c) w:=by
 intro n a ha
 simp[execOp,ha.eval hx,ha.eval hy,Instr.sliceAt,Instr.slice,Instr.sliceBounds,Instr.sliceBound,asIntOf,hu,hs,h0]
theorem zmm {t e:TypeId} {k:Nat} {x lo hi:Operand} {ao:Option Addr} {l c:Nat} {kd kh:IntKind} {i j:Int} (hu:∀ w,(underlying t).run P w=.ok (.slice e) w) (hs:∀ w,(sizeOf e).run P w=.ok k w) (hx:ev env x=some (.slice ao l c)) (hy:ev env lo=some (.int kd i)) (hz:ev env hi=some (.int kh j)) (h0:0<=i/\i<=j) (h1:j<=c) :
  yA P ⟨dst,.slice t x (some lo) (some hi) none,ty,pos,aft,g⟩ env w (.slice (if c=i.toNat then ao else ao.map (·.add (i.toNat*k))) (j.toNat - i.toNat) (c - i.toNat)) w:=by
 intro n a ha
 have h2:0<=j:=by omega
 have h3:¬ max j 0<i:=by omega
 simp[execOp,ha.eval hx,ha.eval hy,ha.eval hz,Instr.sliceAt,Instr.slice,Instr.sliceBounds,Instr.sliceBound,asIntOf,hu,hs,h0,h1,h2]
 exact fun h=>absurd h h3
theorem R.build {t:TypeId} {parts:Array (Nat × Operand)} {v:Value} (ps:List (Nat × Value)) (hp:parts.toList.map (fun p=>(p.1,ev env p.2))=ps.map (fun p=>(p.1,some p.2))) (hb:∀ w,(Instr.build t ps.toArray).run P w=.ok v w) :
  yA P ⟨dst,.build t parts,ty,pos,aft,g⟩ env w v w:=by
 intro n a ha
 have e:(parts.map fun (i,x)=>(i,a.eval x))=ps.toArray:=by
  have key:∀ (l:List (Nat × Operand)) (ps:List (Nat × Value)),l.map (fun p=>(p.1,ev env p.2))=ps.map (fun p=>(p.1,some p.2))->l.map (fun p=>(p.1,a.eval p.2))=ps:=by
   intro l
   induction l with
   | nil=>intro ps h;cases ps with
    | nil=>rfl
    | cons _ _=>simp at h
   | cons x r ih =>
    intro ps h
    cases ps with
    | nil=>simp at h
    | cons y s =>
     simp only[zr5,List.cons.injEq,Prod.mk.injEq]at h
     simp only[zr5,List.cons.injEq]
     refine⟨?_,ih s h.2⟩
     rw[ha.eval h.1.2,h.1.1]
  apply zpU.1
  simpa using key parts.toList ps hp
 simp[execOp,e,hb]
end
section
variable {P:Program} {env:Env} {w:World} {dst:Option Tmp} {ty:TypeId} {pos:String} {aft:Array Edge} {g:Option (Nat × Bool)}
theorem evs {n:Nat} {a:Act} (ha:Ok n env a):∀ (l:List Operand) (vs:List Value),l.map (ev env)=vs.map some->l.map a.eval=vs
 | [],[],_=>rfl
 | [],_::_,h=>by simp at h
 | _::_,[],h=>by simp at h
 | x::l,v::vs,h=>by
  simp only[zr5,List.cons.injEq]at h ⊢
  exact⟨ha.eval h.1,evs ha l vs h.2⟩
theorem F.call {f:FuncId} {xs:Array Operand} {ts:Array TypeId} {vs:List Value} (hf:∀ args w,(callFunc f args).run P w=.ok (.enter f args) w) (hx:xs.toList.map (ev env)=vs.map some) :
  zcA P ⟨dst,.call ⟨.value (.func f),xs,ts⟩,ty,pos,aft,g⟩ env w f vs.toArray:=by
 intro n a ha
 have e:xs.map a.eval=vs.toArray:=by
  apply zpU.1
  simpa using evs ha xs.toList vs hx
 simp[execOp,resolve,invoke,Deferred.ofValue,Act.eval,e,hf]
theorem zmn {f:FuncId} {x:Operand} {fs cs:List Value} {xs:Array Operand} {ts:Array TypeId} {vs:List Value} (hf:∀ args w,(callFunc f args).run P w=.ok (.enter f args) w) (hv:ev env x=some (.func (.func f) fs.toArray cs.toArray)) (hx:xs.toList.map (ev env)=vs.map some) :
  zcA P ⟨dst,.call ⟨.value x,xs,ts⟩,ty,pos,aft,g⟩ env w f (fs++vs++cs).toArray:=by
 intro n a ha
 have e:xs.map a.eval=vs.toArray:=by
  apply zpU.1
  simpa using evs ha xs.toList vs hx
 simp[execOp,resolve,invoke,Deferred.ofValue,ha.eval hv,e,hf]
end
open Go.RowKit
structure Keep (S:Nat->Prop) (w w':World):Prop where
 os:w'.os=w.os
 tape:w'.tape=w.tape
 output:w'.output=w.output
 drawn:w.drawn<=w'.drawn
 size:w.heap.size<=w'.heap.size
 block:∀ k,k<w.heap.size->¬ S k->w'.heap[k]?=w.heap[k]?
abbrev Ext (w w':World):Prop:=Keep (fun _=>False) w w'
section
variable {w w' w'':World} {S T:Nat->Prop}
theorem Keep.refl (S:Nat->Prop) (w:World):Keep S w w:=⟨rfl,rfl,rfl,zpJ _,zpJ _,fun _ _ _=>rfl⟩
theorem Keep.mono (h:Keep S w w') (hs:∀ k,k<w.heap.size->S k->T k):Keep T w w':=⟨h.os,h.tape,h.output,h.drawn,h.size,fun k hk hn=>h.block k hk (fun hS=>hn (hs k hk hS))⟩
theorem Keep.trans (h:Keep S w w') (h':Keep T w' w'') (hs:∀ k,k<w.heap.size->T k->S k):Keep S w w'' :=
 ⟨h'.os.trans h.os,h'.tape.trans h.tape,h'.output.trans h.output,zpq h.drawn h'.drawn,zpq h.size h'.size,fun k hk hn=>(h'.block k (zrT hk h.size) (fun hT=>hn (hs k hk hT))).trans (h.block k hk hn)⟩
theorem Keep.ext (h:Keep S w w') (h':Ext w' w''):Keep S w w'':=h.trans h' (fun _ _ h=>h.elim)
theorem Keep.blk (h:Keep S w w') {b:Nat} {cs:List Value} {e:TypeId} (hb:Blk w b cs e) (hn:¬ S b):Blk w' b cs e:=by
 unfold Blk at *
 rw[h.block b (Blk.lt hb) hn];exact hb
theorem Keep.cell (h:Keep S w w') {a:Addr} {v:Value} (hc:w.cell? a=some v) (hn:¬ S a.block):w'.cell? a=some v:=by
 rw[World.cell?_of_block (w:=w) (h.block a.block (zpm w a hc) hn)];exact hc
theorem Keep.cells (h:Keep S w w') {b o:Nat} {cs:List Value} (hc:Cells w b o cs) (hn:¬ S b):Cells w' b o cs:=fun j v hv=>h.cell (hc j v hv) hn
theorem Keep.alloc (w:World) (o:Obj):Ext w (w.alloc o):=⟨rfl,rfl,rfl,zpJ _,by simp,fun k hk _=>Below.heap_alloc w o k hk⟩
theorem Keep.drew (w:World):Ext w w.drew:=⟨rfl,rfl,rfl,Nat.le_succ _,zpJ _,fun _ _ _=>rfl⟩
end
theorem Blk.alloc (w:World) (cs:List Value) (e:TypeId):Blk (w.alloc (.cells cs.toArray e)) w.heap.size cs e:=heap_alloc_new w _
theorem Blk.set {w:World} {b o:Nat} {cs:List Value} {e:TypeId} (h:Blk w b cs e) (v:Value):Blk (w.setCell ⟨b,o,none⟩ v) b (cs.set o v) e:=by
 unfold Blk at *
 rw[heap_setCell_same w b o cs.toArray e v h]
 simp
theorem Keep.setCell (w:World) (b o:Nat) (v:Value):Keep (fun k=>k=b) w (w.setCell ⟨b,o,none⟩ v) :=
 ⟨rfl,rfl,rfl,zpJ _,by simp,fun k _ hn=>heap_setCell_other w ⟨b,o,none⟩ k v hn⟩
section
variable {P:Program} {n:Nat} {ops:Array Oper} {Q:Exit->Act->World->Prop} {o:Oper} {rest:List Oper} {env:Env} {w:World}
def yH (P:Program) (o:Oper) (env:Env) (w:World) (R:Value->World->Prop):Prop:=∃ v w',yA P o env w v w'/\R v w'
def xZ (P:Program) (o:Oper) (env:Env) (w:World) (R:World->Prop):Prop:=∃ w',zkJ P o env w w'/\R w'
theorem zmp {d:Nat} {R:Value->World->Prop} (hg:o.guard=none) (hd:o.dst=some d) (hn:Nat.blt d n=true) (hr:yH P o env w R) (h:∀ v w',R v w'->WO P n ops Q rest ((d,v)::env) w'):WO P n ops Q (o::rest) env w:=by
 obtain⟨v,w',h1,h2⟩:=hr
 exact WO.op hg hd hn h1 (h v w' h2)
theorem zms {R:Value->World->Prop} (hg:o.guard=none) (hd:o.dst=none) (hr:yH P o env w R) (h:∀ v w',R v w'->WO P n ops Q rest env w'):WO P n ops Q (o::rest) env w:=by
 obtain⟨v,w',h1,h2⟩:=hr
 intro a ha
 refine wpList_plain hg fun K hK=>?_
 unfold Oper.wp
 rw[h1 n a ha,Oper.upon_value,hd]
 exact hK _ _ (h v w' h2 _ ha.put0)
theorem zmu {R:World->Prop} (hg:o.guard=none) (hd:o.dst=none) (hr:xZ P o env w R) (h:∀ w',R w'->WO P n ops Q rest env w'):WO P n ops Q (o::rest) env w:=by
 obtain⟨w',h1,h2⟩:=hr
 exact zlD hg hd h1 (h w' h2)
end
def New (w:World) (cs:List Value) (e:TypeId) (b:Nat) (w':World):Prop:=b=w.heap.size/\w'.heap.size=w.heap.size+1/\Blk w' b cs e/\Ext w w'
theorem New.mk (w:World) (cs:List Value) (e:TypeId):New w cs e w.heap.size (w.alloc (.cells cs.toArray e)):=⟨rfl,by simp,Blk.alloc w cs e,Keep.alloc w _⟩
def zev (w:World) (b:Nat) (cs:List Value) (e:TypeId) (w':World):Prop:=w'.heap.size=w.heap.size/\Blk w' b cs e/\Keep (fun k=>k=b) w w'
section
variable {P:Program} {env:Env} {w:World} {dst:Option Tmp} {ty:TypeId} {pos:String} {aft:Array Edge} {g:Option (Nat × Bool)}
theorem M.box {e:TypeId} {x:Operand} {v:Value} {cs:List Value} (hx:ev env x=some v) (hc:v.cells=cs.toArray) :
  yH P ⟨dst,.box e x,ty,pos,aft,g⟩ env w (fun u w'=>∃ b,u=.pointer (some ⟨b,0,none⟩)/\New w cs e b w'):=by
 refine⟨.pointer (some ⟨w.heap.size,0,none⟩),w.alloc (.cells cs.toArray e),?_,_,rfl,New.mk w cs e⟩
 intro n a ha
 simp[execOp,ha.eval hx,Instr.box,newVar,newRow,hc]
theorem M.alloc {e:TypeId} {z:Value} {cs:List Value} (hz:∀ w,(zeroValue e).run P w=.ok z w) (hc:z.cells=cs.toArray) :
  yH P ⟨dst,.alloc e,ty,pos,aft,g⟩ env w (fun u w'=>∃ b,u=.pointer (some ⟨b,0,none⟩)/\New w cs e b w'):=by
 refine⟨.pointer (some ⟨w.heap.size,0,none⟩),w.alloc (.cells cs.toArray e),?_,_,rfl,New.mk w cs e⟩
 intro n a ha
 simp[execOp,Instr.alloc,hz,newVar,newRow,hc]
theorem M.store {t:TypeId} {x y:Operand} {b o:Nat} {cs:List Value} {e:TypeId} {v:Value} (hs:∀ w,(sizeOf t).run P w=.ok 1 w) (hx:ev env x=some (.pointer (some ⟨b,o,none⟩))) (hy:ev env y=some v) (h1:v.oneCell'=true) (hc:v.cells=#[v]) (hb:Blk w b cs e) (ho:o<cs.length) :
  xZ P ⟨dst,.store t x y,ty,pos,aft,g⟩ env w (fun w'=>zev w b (cs.set o v) e w'):=by
 refine⟨w.setCell ⟨b,o,none⟩ v,?_,by simp,hb.set v,Keep.setCell w b o v⟩
 intro n a ha
 have hY:w.cell? ⟨b,o,none⟩=some cs[o]:=by
  have:=hb.cells o cs[o] (zpk ho)
  simpa using this
 have da:∀ m,(Go.store ⟨b,o,none⟩ v m).run P w=.ok () (w.setCell ⟨b,o,none⟩ v):=by
  intro m
  rw[run_store P w _ v m h1]
  simp[hY,hb.frozen]
 simp[execOp,ha.eval hx,ha.eval hy,Instr.storeAt,Instr.sureAddr,storeVar,hs,hc,storeCells,xz,da]
theorem zmx {t:TypeId} {k:Nat} {x y:Operand} {b o:Nat} {cs us:List Value} {e:TypeId} {v:Value} (hs:∀ w,(sizeOf t).run P w=.ok k w) (hx:ev env x=some (.pointer (some ⟨b,o,none⟩))) (hy:ev env y=some v) (hv:v.cells=us.toArray) (hk:us.length=k) (h1:∀ u ∈ us,u.oneCell'=true) (hb:Blk w b cs e) (ho:o+k<=cs.length) :
  xZ P ⟨dst,.store t x y,ty,pos,aft,g⟩ env w (fun w'=>zev w b (cs.take o++us++cs.drop (o+k)) e w'):=by
 have key:∀ (us:List Value) (i:Nat) (w:World) (cs:List Value),(∀ u ∈ us,u.oneCell'=true)->Blk w b cs e->o+i+us.length<=cs.length ->
   ∃ w',(storeCells ⟨b,o,none⟩ us i).run P w=.ok () w'/\zev w b (cs.take (o+i)++us++cs.drop (o+i+us.length)) e w':=by
  intro us
  induction us with
  | nil =>
   intro i w cs _ hb _
   refine⟨w,by simp[storeCells],rfl,?_,Keep.refl _ _⟩
   simpa using hb
  | cons u r ih =>
   intro i w cs h1 hb hl
   simp only[zpN]at hl
   have hY:w.cell? ⟨b,o+i,none⟩=some cs[o+i]:=by
    have:=hb.cells (o+i) cs[o+i] (zpk (by omega))
    simpa using this
   have da:∀ m,(Go.store ⟨b,o+i,none⟩ u m).run P w=.ok () (w.setCell ⟨b,o+i,none⟩ u):=by
    intro m
    rw[run_store P w _ u m (h1 u (by simp))]
    simp[hY,hb.frozen]
   obtain⟨w',hr,db,hB,hK⟩:=ih (i+1) (w.setCell ⟨b,o+i,none⟩ u) (cs.set (o+i) u) (fun x hx=>h1 x (by simp[hx])) (hb.set u) (by simp;omega)
   refine⟨w',?_,by rw[db];simp,?_,(Keep.setCell w b (o+i) u).trans hK (fun _ _ h=>h)⟩
   . simp[storeCells,xz,da,hr]
   have e1:(cs.set (o+i) u).take (o+(i+1))=cs.take (o+i)++[u]:=by
    rw[show o+(i+1)=(o+i)+1 from by omega,zrH (by simp;omega)]
    simp[zrG]
   have e2:(cs.set (o+i) u).drop (o+(i+1)+r.length)=cs.drop (o+i+(u::r).length):=by
    rw[zqG (by omega)]
    simp only[zpN,zrJ,zrK 1]
   rw[e1,e2]at hB
   simpa using hB
 obtain⟨w',hr,hW⟩:=key us 0 w cs h1 hb (by omega)
 refine⟨w',?_,by simpa[hk] using hW⟩
 intro n a ha
 simp[execOp,ha.eval hx,ha.eval hy,Instr.storeAt,Instr.sureAddr,storeVar,hs,hv,hk,hr]
theorem M.buildSlice {t e:TypeId} {len k:Nat} {parts:Array (Nat × Operand)} {z:Value} {cs:List Value} (ps:List (Nat × Value)) (hu:∀ w,(underlying t).run P w=.ok (.slice e) w) (hs:∀ w,(sizeOf e).run P w=.ok k w) (hz:∀ w,(zeroValue e).run P w=.ok z w)
  (hY:len*k ≠ 0/\len*k<=16777216) (hp:parts.toList.map (fun p=>(p.1,ev env p.2))=ps.map (fun p=>(p.1,some p.2))) (hf:Instr.fill (fun i=>some (i*k,k)) ((Array.range (len*k)).map (z.cells[· % z.cells.size]!)) ps=some cs.toArray) :
  yH P ⟨dst,.buildSlice t len parts,ty,pos,aft,g⟩ env w (fun u w'=>∃ b,u=.slice (some ⟨b,0,none⟩) len len/\New w cs e b w'):=by
 refine⟨.slice (some ⟨w.heap.size,0,none⟩) len len,w.alloc (.cells cs.toArray e),?_,_,rfl,New.mk w cs e⟩
 intro n a ha
 have e1:(parts.map fun (i,x)=>(i,a.eval x))=ps.toArray:=by
  have key:∀ (l:List (Nat × Operand)) (ps:List (Nat × Value)),l.map (fun p=>(p.1,ev env p.2))=ps.map (fun p=>(p.1,some p.2))->l.map (fun p=>(p.1,a.eval p.2))=ps:=by
   intro l
   induction l with
   | nil=>intro ps h;cases ps with
    | nil=>rfl
    | cons _ _=>simp at h
   | cons x r ih =>
    intro ps h
    cases ps with
    | nil=>simp at h
    | cons y s =>
     simp only[zr5,List.cons.injEq,Prod.mk.injEq]at h
     simp only[zr5,List.cons.injEq]
     refine⟨?_,ih s h.2⟩
     rw[ha.eval h.1.2,h.1.1]
  apply zpU.1
  simpa using key parts.toList ps hp
 have h2:¬ (16777216<len*k):=by omega
 simp[execOp,e1,Instr.buildSlice,hu,hs,hz,hY.1,h2,hf,newRow]
theorem qa (z:Value) (n:Nat) (hz:z.cells=#[z]):madeCells z.cells (n*1)=(List.replicate n z).toArray:=by
 rw[hz]
 apply Array.ext
 . simp[madeCells]
 intro i h1 h2
 simp[madeCells,Nat.mod_one]
theorem zmy {t e:TypeId} {k by':Nat} {z:Value} {x y:Operand} {m:Nat} {kl kc:IntKind} {zs:List Value} (hu:P.underlying t=some (.slice e)) (he:(P.info? e).map (fun i=>(i.zero,i.size,i.bytes))=some (some z,k,by')) (hx:ev env x=some (.int kl (m:Int))) (hy:ev env y=some (.int kc (m:Int)))
  (hb:by'*m<=281474976710656) (hm:m<=9223372036854775807) (hz:madeCells z.cells (m*k)=zs.toArray) :
  yH P ⟨dst,.makeSlice t x y,ty,pos,aft,g⟩ env w (fun u w'=>∃ b,u=.slice (some ⟨b,0,none⟩) m m/\New w zs e b w'):=by
 obtain⟨i,hi,hY,da,db⟩:=info_parts he
 refine⟨.slice (some ⟨w.heap.size,0,none⟩) m m,w.alloc (.cells zs.toArray e),?_,_,rfl,New.mk w zs e⟩
 intro n a ha
 have:=run_make (P:=P) w t e i z hu hi hY kl kc (m:Int) (m:Int) (by omega) (by omega) (by rw[db];omega) (by omega)
 rw[da]at this
 simp only[zpG,hz]at this
 simp[execOp,ha.eval hx,ha.eval hy,this]
theorem Cells.add {w:World} {b o:Nat} {cs:List Value} (h:Cells w b o cs):∀ q u,cs[q]?=some u->w.cell? ((⟨b,o,none⟩:Addr).add q)=some u:=fun q u hq=>by rw[xz];exact h q u hq
theorem M.append {t e:TypeId} {k by':Nat} {z:Value} {x y:Operand} {v:Value} {m:Nat} {xs:List Value} {a0:Addr} {j c:Nat} {news:List Value} (hu:P.underlying t=some (.slice e)) (he:(P.info? e).map (fun i=>(i.zero,i.size,i.bytes))=some (some z,k,by')) (dr:z.cells.size=k) (hk:0<k)
  (hx:ev env x=some v) (hy:ev env y=some (.slice (some a0) j c)) (hY:w.ownsRow 0 e k v m xs) (hl:news.length=j*k) (da:∀ q u,news[q]?=some u->w.cell? (a0.add q)=some u) (h1:∀ u ∈ news,u.oneCell'=true) (df:m+j<=9223372036854775807) (di:(m+j)*by'<=140737488355328) :
  yH P ⟨dst,.call ⟨.builtin .append,#[x,y],#[t,t]⟩,ty,pos,aft,g⟩ env w (fun u w'=>w'.ownsRow 0 e k u (m+j) (xs++news)/\(u.ownBlock=v.ownBlock\/∃ g,u.ownBlock=some g/\w.heap.size<=g)/\Keep (fun k=>v.ownBlock=some k) w w'/\(u=.slice none 0 0 ↔ v=.slice none 0 0/\j=0)):=by
 obtain⟨i,hi,dk,dt,du⟩:=info_parts he
 subst dt
 subst du
 have dc:(xs++news).length=(m+j)*i.size:=by rw[zps,hY.1,hl,zrL]
 have dw:m+j<=maxLen:=by simpa[maxLen] using df
 suffices H:∃ v' w',(Builtin.append_ #[t,t] ty #[v,.slice (some a0) j c]).run P w=.ok v' w'/\(w'.ownsRow 0 e i.size v' (m+j) (xs++news)/\(v'.ownBlock=v.ownBlock\/∃ g,v'.ownBlock=some g/\w.heap.size<=g)/\Keep (fun k=>v.ownBlock=some k) w w'/\(v'=.slice none 0 0 ↔ v=.slice none 0 0/\j=0)) by
  obtain⟨v',w',hr,h⟩:=H
  refine⟨v',w',?_,h⟩
  intro n a ha
  simp[execOp,resolve,invoke,builtin,ha.eval hx,ha.eval hy,hr]
 have grown:∀ (old:Nat),old<m+j ->
   (w.drew.alloc (.cells (xs.toArray++news.toArray++Builtin.zeroCells z.cells (grownCap w (m+j) old e - (m+j))) e)).ownsRow 0 e i.size
    (.slice (some ⟨w.heap.size,0,none⟩) (m+j) (grownCap w (m+j) old e)) (m+j) (xs++news):=by
  intro old ho
  have dx:=grownCap_ge w (m+j) old e
  have dg:grownCap w (m+j) old e<=maxLen:=grownCap_le_maxLen w (m+j) old e dw
  refine⟨dc,.inr ⟨w.heap.size,_,_,rfl,zpz _,heap_alloc_new w.drew _,dx,dg,?_,?_⟩⟩
  .
   simp only[Array.size_append,zry,size_zeroCells,dr,hY.1,hl,<- zrL]
   congr 1
   omega
  simp only[Array.toList_append,zqy]
  rw[<- zqy,<- dc]
  exact List.take_left
 have kp:∀ (o1:Obj) (S:Nat->Prop),Keep S w (w.drew.alloc o1):=fun o1 S=>((Keep.refl S w).ext (Keep.drew w)).ext (Keep.alloc _ _)
 rcases hY.2 with⟨rfl,rfl⟩ | ⟨g0,cap,cur,rfl,dy,dl,dB,dg,dz,de⟩
 .
  have dA:xs=[]:=zqI (by simpa using hY.1)
  subst dA
  by_cases hj:j=0
  .
   subst hj
   have hn:news=[]:=zqI (by simpa using hl)
   subst hn
   refine⟨.slice none 0 0,w,?_,World.ownsRow_nil w 0 e i.size,.inl rfl,Keep.refl _ _,by simp⟩
   simp[Builtin.append_,run_underlying hu,sizeOf,typeInfo,hi,Builtin.lenOf,Builtin.firstCells,loadCells,loadCellsFrom]
  have hr:=run_append_nil (P:=P) w t ty e i z hu hi dk a0 j c news hl da (by omega) (by omega) (by have hb:=di;simp only[zs3]at hb;omega)
  have dm:=grown 0 (by omega)
  simp only[zs3,zrk,Array.empty_append]at dm ⊢
  exact⟨_,_,hr,dm,.inr ⟨_,rfl,zpJ _⟩,kp _ _,by simp[hj]⟩
 by_cases db:m+j<=cap
 .
  have dh:m*i.size+news.length<=cur.size:=by rw[hl,dz,<- zrL];exact zrX _ db
  have hr:=run_append_room (P:=P) w t ty e i hu hi g0 m cap cur dl a0 j c news hl da h1 db dh
  refine⟨_,_,hr,⟨dc,.inr ⟨g0,cap,_,rfl,dy,setRow_heap w g0 cur _ e _ dl,db,dg,?_,?_⟩⟩,.inl rfl,⟨rfl,rfl,rfl,zpJ _,by simp,fun k _ hk=>setRow_other w g0 k _ (fun e=>hk (by simp[Value.ownBlock,e]))⟩,by simp⟩
  .
   simp only[zry,zps,zpO,zqX,zpS]
   omega
  rw[de,<- dc]
  exact List.take_left
 have holds:∀ q u,xs[q]?=some u->w.cell? ((⟨g0,0,none⟩:Addr).add q)=some u:=hY.cells (g:=g0) rfl
 have hr:=run_append_grow (P:=P) w t ty e i z hu hi dk ⟨g0,0,none⟩ m cap xs hY.1 holds a0 j c news hl da (by omega) (by omega) (growslice_fits (by omega) di)
 exact⟨_,_,hr,grown cap (by omega),.inr ⟨_,rfl,zpJ _⟩,kp _ _,by simp⟩
end
section
variable {P:Program} {n:Nat} {ops:Array Oper} {Q:Exit->Act->World->Prop} {o:Oper} {rest:List Oper} {env:Env} {w:World} {v:Value}
def WQ (P:Program) (n:Nat) (ops:Array Oper) (Q:Exit->Act->World->Prop) (w:World) (l:List Oper) (env:Env):Prop :=
 ∀ a,Ok n env a->wpQuiet P ops (Ext w) (fun a'=>∀ w',Ext w w'->Q .normal a' w') l a
theorem zmC {id:Nat} {l:List Oper} (hm:P.follows .mixedOrders=true) (hB:Region.lexB .any l.toArray=true) (h:WQ P n l.toArray Q w l env):WC P n (.region id l.toArray true) Q env w :=
 fun a ha=>wp_region_quiet (C:=Ext w) hm hB (Keep.drew w) (by simpa using h a ha)
theorem WQ.op {d:Nat} (hg:o.guard=none) (hd:o.dst=some d) (hn:Nat.blt d n=true) (hr:∀ w',Ext w w'->yA P o env w' v w') (h:WQ P n ops Q w rest ((d,v)::env)):WQ P n ops Q w (o::rest) env:=by
 intro a ha
 unfold wpQuiet
 rw[zpv (by simp[Region.wanted,hg])]
 refine⟨v,?_,by rw[hd];exact h _ (ha.put hn)⟩
 intro w' hY
 unfold Oper.quietAt
 rw[hr w' hY n a ha]
 exact⟨rfl,rfl⟩
theorem WQ.nil (h:∀ w',Ext w w'->WX n .normal Q env w'):WQ P n ops Q w [] env:=fun a ha w' hY=>h w' hY a ha
theorem WQ.sub {env':Env} {l:List Oper} (hs:Sub env' env) (h:WQ P n ops Q w l env'):WQ P n ops Q w l env:=fun a ha=>h a (ha.sub hs)
end
def NQ (Q:Exit->Act->World->Prop):Exit->Act->World->Prop
 | .normal,a,w=>Q .normal a w
 | _,_,_=>False
def ko (P:Program) (md:Region.Mode) (ops:Array Oper) (Q:Exit->Act->World->Prop) (S:World->Prop) (L:List Nat):Nat->Array Bool->Act->World->Prop
 | 0,listed,a,w=>Region.ready md ops listed=[]/\Q .normal a w
 | fuel+1,listed,a,w =>
  (Region.ready md ops listed=[]->Q .normal a w) /\
  ∀ i ∈ Region.ready md ops listed,wpOp P ops Q i (fun a' w'=>(i ∉ L->S w->S w')/\ko P md ops Q S L fuel (listed.setIfInBounds i true) a' w') a w
def jv (md:Region.Mode) (ops:Array Oper) (i j:Nat):Bool:=match ops[j]? with
 | none=>true
 | some o=>o.after.any fun e=>Region.binds md e&&e.on == i
section
variable {P:Program} {n:Nat} {ops:Array Oper} {Q:Exit->Act->World->Prop} {md:Region.Mode} {S:World->Prop} {L:List Nat}
theorem zca:∀ (fuel:Nat) (listed:Array Bool) (a:Act) (w:World),ko P md ops Q S L fuel listed a w->wpAny P md ops Q fuel listed a w
 | 0,_,_,_,h=>h
 | fuel+1,_,_,_,h=>⟨h.1,fun i hi=>wpOp_mono (fun a' w' h'=>zca fuel _ a' w' h'.2) (h.2 i hi)⟩
theorem zat {i:Nat} {oi:Oper} {v:Value} (hi:ops[i]?=some oi) (dc:∀ (j:Nat) (o:Oper) cs b,ops[j]?=some o->o.op ≠ .select cs b)
  (hQ:∀ c a w,Q (.panic c) (a.put oi.dst v) w->Q (.panic c) a w) (hL:∀ j ∈ L,jv md ops i j=true) (du:i ∉ L) :
  ∀ (fuel:Nat) (listed:Array Bool) (a:Act) (w:World),
   (∀ j oj,ops[j]?=some oj->j ≠ i->listed.getD j true=false->(∀ e ∈ oj.after,Region.binds md e=true->e.on ≠ i)->oi.apart ops oj=true) ->
   i ∈ Region.ready md ops listed->YieldsIf P ops S oi v a->S w ->
   ko P md ops Q S L fuel (listed.setIfInBounds i true) (a.put oi.dst v) w->ko P md ops Q S L (fuel+1) listed a w:=by
 intro fuel
 induction fuel with
 | zero =>
  intro listed a w _ hr hy hS H
  refine⟨fun h=>(by rw[h]at hr;cases hr),fun j hj=>?_⟩
  by_cases hY:j=i
  . subst hY;exact hy.wpOp hi hS ⟨fun _ _=>hS,H⟩
  have:=ready_mono hj hY
  rw[H.1]at this
  cases this
 | succ fuel ih =>
  intro listed a w da hr hy hS H
  refine⟨fun h=>(by rw[h]at hr;cases hr),fun j hj=>?_⟩
  by_cases hY:j=i
  . subst hY;exact hy.wpOp hi hS ⟨fun _ _=>hS,H⟩
  have h1:=H.2 j (ready_mono hj hY)
  obtain⟨de,oj,dg,dh⟩:=mem_ready.1 hj
  have df:∀ e ∈ oj.after,Region.binds md e=true->e.on ≠ i:=by
   intro e he hb dm
   have h2:=dh e he hb
   have h0:=(mem_ready.1 hr).1
   rw[dm]at h2
   rcases zrU i listed.size with h' | h'
   . simp[h']at h0 h2;rw[h0]at h2;cases h2
   simp[Array.getElem?_eq_none h']at h2
  have di:j ∉ L:=by
   intro di
   have:=hL j di
   unfold jv at this
   rw[dg]at this
   obtain⟨e,he,hb⟩:=Array.any_eq_true'.1 this
   simp only[zpW,beq_iff_eq]at hb
   exact df e he hb.1 hb.2
  have h2:=wpOp_putIf dg (da j oj dg hY de df) (fun cs b=>dc i oi cs b hi) (fun cs b=>dc j oj cs b dg) hQ hy h1
  have db:∀ k ok,ops[k]?=some ok->k ≠ i->(listed.setIfInBounds j true).getD k true=false ->
    (∀ e ∈ ok.after,Region.binds md e=true->e.on ≠ i)->oi.apart ops ok=true:=by
   intro k ok hk dr dk dt
   refine da k ok hk dr ?_ dt
   by_cases dl:j=k
   . subst dl;exact de
   rw[getD_set_ne true dl]at dk;exact dk
  refine wpOp_mono (fun a' w' h3=>⟨h3.2.1,ih (listed.setIfInBounds j true) a' w' db (ready_mono hr (Ne.symm hY)) h3.1 (h3.2.1 di hS) ?_⟩) h2
  rw[zpT _ _ hY]
  exact h3.2.2
theorem kq {i:Nat} {oi:Oper} {v:Value} (hi:ops[i]?=some oi) (dc:∀ (j:Nat) (o:Oper) cs b,ops[j]?=some o->o.op ≠ .select cs b)
  (hQ:∀ c a w,Q (.panic c) (a.put oi.dst v) w->Q (.panic c) a w) :
  ∀ (fuel:Nat) (listed:Array Bool) (a:Act) (w:World),
   (∀ j oj,ops[j]?=some oj->j ≠ i->listed.getD j true=false->(∀ e ∈ oj.after,Region.binds md e=true->e.on ≠ i)->oi.apart ops oj=true) ->
   i ∈ Region.ready md ops listed->YieldsIf P ops (fun _=>True) oi v a ->
   ko P md ops Q S L fuel (listed.setIfInBounds i true) (a.put oi.dst v) w->ko P md ops Q S L (fuel+1) listed a w:=by
 intro fuel
 induction fuel with
 | zero =>
  intro listed a w _ hr hy H
  refine⟨fun h=>(by rw[h]at hr;cases hr),fun j hj=>?_⟩
  by_cases hY:j=i
  . subst hY;exact hy.wpOp hi trivial ⟨fun _ h=>h,H⟩
  have:=ready_mono hj hY
  rw[H.1]at this
  cases this
 | succ fuel ih =>
  intro listed a w da hr hy H
  refine⟨fun h=>(by rw[h]at hr;cases hr),fun j hj=>?_⟩
  by_cases hY:j=i
  . subst hY;exact hy.wpOp hi trivial ⟨fun _ h=>h,H⟩
  have h1:=H.2 j (ready_mono hj hY)
  obtain⟨de,oj,df,dg⟩:=mem_ready.1 hj
  have dh:∀ e ∈ oj.after,Region.binds md e=true->e.on ≠ i:=by
   intro e he hb dl
   have h2:=dg e he hb
   have h0:=(mem_ready.1 hr).1
   rw[dl]at h2
   rcases zrU i listed.size with h' | h'
   . simp[h']at h0 h2;rw[h0]at h2;cases h2
   simp[Array.getElem?_eq_none h']at h2
  have h2:=wpOp_putIf df (da j oj df hY de dh) (fun cs b=>dc i oi cs b hi) (fun cs b=>dc j oj cs b df) hQ hy h1
  have db:∀ k ok,ops[k]?=some ok->k ≠ i->(listed.setIfInBounds j true).getD k true=false ->
    (∀ e ∈ ok.after,Region.binds md e=true->e.on ≠ i)->oi.apart ops ok=true:=by
   intro k ok hk dm di dr
   refine da k ok hk dm ?_ dr
   by_cases dk:j=k
   . subst dk;exact de
   rw[getD_set_ne true dk]at di;exact di
  refine wpOp_mono (fun a' w' h3=>⟨h3.2.1,ih (listed.setIfInBounds j true) a' w' db (ready_mono hr (Ne.symm hY)) h3.1 ?_⟩) h2
  rw[zpT _ _ hY]
  exact h3.2.2
end
def WD (P:Program) (n:Nat) (ops:Array Oper) (Q:Exit->Act->World->Prop) (S:World->Prop) (L:List Nat) (fuel:Nat) (listed:Array Bool) (env:Env) (w:World):Prop :=
 ∀ a,Ok n env a->ko P .any ops (NQ Q) S L fuel listed a w
section
variable {P:Program} {n:Nat} {ops:Array Oper} {Q:Exit->Act->World->Prop} {S:World->Prop} {L:List Nat} {env:Env} {w:World} {fuel:Nat} {listed:Array Bool} {v:Value} {o:Oper}
theorem zmF {id:Nat} {l:List Oper} (S:World->Prop) (L:List Nat) (hm:P.follows .mixedOrders=true) (h:∀ w',Ext w w'->w'.heap=w.heap->WD P n l.toArray Q S L l.length (Array.replicate l.length false) env w'):WC P n (.region id l.toArray true) Q env w:=by
 intro a ha
 refine Code.wp_mono ?_ (wp_region_any (id:=id) (Q:=NQ Q) (ops:=l.toArray) hm (zca (S:=S) (L:=L) _ _ _ _ ?_))
 .
  intro e a w hq
  cases e<;>first | exact hq | exact hq.elim
 have:=h w.drew (Keep.drew w) rfl a ha
 simpa using this
theorem WD.done (hr:Region.ready .any ops listed=[]) (h:WX n .normal Q env w):∀ fuel,WD P n ops Q S L fuel listed env w
 | 0=>fun a ha=>⟨hr,h a ha⟩
 | _+1=>fun a ha=>⟨fun _=>h a ha,by rw[hr];simp⟩
theorem WD.take (i:Nat) {d:Nat} (hi:ops[i]?=some o) (hs:(Region.noSelect ops&&Region.free .any ops listed i&&(Region.ready .any ops listed).contains i&&L.all (jv .any ops i)&&!L.contains i)=true)
  (hg:o.guard=none) (hd:o.dst=some d) (hn:Nat.blt d n=true) (hS:S w) (hr:∀ w',S w'->yA P o env w' v w') (h:WD P n ops Q S L fuel (listed.setIfInBounds i true) ((d,v)::env) w):WD P n ops Q S L (fuel+1) listed env w:=by
 intro a ha
 simp only[zpW,zq4]at hs
 obtain⟨⟨⟨⟨h1,h2⟩,h3⟩,h4⟩,h5⟩:=hs
 refine zat hi (Region.noSelect_spec h1) (fun _ _ _ h=>h) (by simpa using h4) (by simpa using h5) fuel listed a w (Region.free_spec hi h2) (by simpa using h3) (v:=v) ?_ hS ?_
 . exact .inl ⟨by simp[Region.wanted,hg],fun w' hY=>hr w' hY n a ha⟩
 rw[hd];exact h _ (ha.put hn)
theorem zmI (i:Nat) {d:Nat} (hi:ops[i]?=some o) (hs:(Region.noSelect ops&&Region.free .any ops listed i&&(Region.ready .any ops listed).contains i)=true)
  (hg:o.guard=none) (hd:o.dst=some d) (hn:Nat.blt d n=true) (hr:∀ w',yA P o env w' v w') (h:WD P n ops Q S L fuel (listed.setIfInBounds i true) ((d,v)::env) w):WD P n ops Q S L (fuel+1) listed env w:=by
 intro a ha
 simp only[zpW]at hs
 obtain⟨⟨h1,h2⟩,h3⟩:=hs
 refine kq hi (Region.noSelect_spec h1) (fun _ _ _ h=>h) fuel listed a w (Region.free_spec hi h2) (by simpa using h3) (v:=v) ?_ ?_
 . exact .inl ⟨by simp[Region.wanted,hg],fun w' _=>hr w' n a ha⟩
 rw[hd];exact h _ (ha.put hn)
theorem zb0 {i:Nat} {K:Act->World->Prop} {Q:Exit->Act->World->Prop} {a:Act} (hi:ops[i]?=some o) (hg:o.guard=none) (h:o.wp P a w K Q):wpOp P ops Q i K a w:=by
 unfold wpOp
 simp only[hi]
 rw[zpv (by simp[Region.wanted,hg])]
 exact .inl h
theorem zmq (i:Nat) {d:Nat} {R:Value->World->Prop} (hi:ops[i]?=some o) (hr:Region.ready .any ops listed=[i]) (hg:o.guard=none) (hd:o.dst=some d) (hn:Nat.blt d n=true)
  (hm:yH P o env w R) (h:∀ v w',R v w'->(i ∉ L->S w')/\WD P n ops Q S L fuel (listed.setIfInBounds i true) ((d,v)::env) w'):WD P n ops Q S L (fuel+1) listed env w:=by
 intro a ha
 refine⟨fun h0=>(by rw[hr]at h0;cases h0),fun j hj=>?_⟩
 rw[hr]at hj
 have:j=i:=by simpa using hj
 subst this
 obtain⟨v,w',hY,hR⟩:=hm
 refine zb0 hi hg ?_
 unfold Oper.wp
 rw[hY n a ha,Oper.upon_value,hd]
 exact⟨fun h0 _=>(h v w' hR).1 h0,(h v w' hR).2 _ (ha.put hn)⟩
theorem zmv (i:Nat) {R:World->Prop} (hi:ops[i]?=some o) (hr:Region.ready .any ops listed=[i]) (hg:o.guard=none) (hd:o.dst=none)
  (hm:xZ P o env w R) (h:∀ w',R w'->(i ∉ L->S w')/\WD P n ops Q S L fuel (listed.setIfInBounds i true) env w'):WD P n ops Q S L (fuel+1) listed env w:=by
 intro a ha
 refine⟨fun h0=>(by rw[hr]at h0;cases h0),fun j hj=>?_⟩
 rw[hr]at hj
 have:j=i:=by simpa using hj
 subst this
 obtain⟨w',hY,hR⟩:=hm
 refine zb0 hi hg ?_
 unfold Oper.wp
 rw[hY n a ha,Oper.upon_skip,hd]
 exact⟨fun h0 _=>(h w' hR).1 h0,(h w' hR).2 _ ha.put0⟩
theorem WD.call (i:Nat) {d:Nat} {f:FuncId} {args:Array Value} {R:Value->World->Prop} (hi:ops[i]?=some o) (hr:Region.ready .any ops listed=[i]) (hg:o.guard=none) (hd:o.dst=some d) (hn:Nat.blt d n=true)
  (hm:zcA P o env w f args) (hc:Calls P f args w (fun e w'=>∃ v,e=.returned v/\R v w')) (h:∀ v w',R v w'->(i ∉ L->S w')/\WD P n ops Q S L fuel (listed.setIfInBounds i true) ((d,v)::env) w'):WD P n ops Q S L (fuel+1) listed env w:=by
 intro a ha
 refine⟨fun h0=>(by rw[hr]at h0;cases h0),fun j hj=>?_⟩
 rw[hr]at hj
 have:j=i:=by simpa using hj
 subst this
 refine zb0 hi hg ?_
 unfold Oper.wp
 rw[hm n a ha,Oper.upon_enter]
 refine hc.mono ?_
 rintro e w' ⟨v,rfl,hR⟩
 simp only[hd]
 exact⟨fun h0 _=>(h v w' hR).1 h0,(h v w' hR).2 _ (ha.put hn)⟩
theorem zmJ (i j:Nat) {oj:Oper} {d dj:Nat} {R Rj:Value->World->Prop} (hi:ops[i]?=some o) (hj:ops[j]?=some oj) (hr:Region.ready .any ops listed=[i,j]) (hg:o.guard=none) (hd:o.dst=some d) (hn:Nat.blt d n=true) (da:oj.guard=none) (db:oj.dst=some dj) (dc:Nat.blt dj n=true)
  (hm:(∃ v w',yA P o env w v w'/\R v w')\/∃ f args,zcA P o env w f args/\Calls P f args w (fun e w'=>∃ v,e=.returned v/\R v w'))
  (de:(∃ v w',yA P oj env w v w'/\Rj v w')\/∃ f args,zcA P oj env w f args/\Calls P f args w (fun e w'=>∃ v,e=.returned v/\Rj v w'))
  (h:∀ v w',R v w'->(i ∉ L->S w')/\WD P n ops Q S L fuel (listed.setIfInBounds i true) ((d,v)::env) w')
  (h':∀ v w',Rj v w'->(j ∉ L->S w')/\WD P n ops Q S L fuel (listed.setIfInBounds j true) ((dj,v)::env) w'):WD P n ops Q S L (fuel+1) listed env w:=by
 intro a ha
 refine⟨fun h0=>(by rw[hr]at h0;cases h0),fun k hk=>?_⟩
 rw[hr]at hk
 have key:∀ (q:Nat) (oq:Oper) (dq:Nat) (Rq:Value->World->Prop),ops[q]?=some oq->oq.guard=none->oq.dst=some dq->Nat.blt dq n=true ->
   ((∃ v w',yA P oq env w v w'/\Rq v w')\/∃ f args,zcA P oq env w f args/\Calls P f args w (fun e w'=>∃ v,e=.returned v/\Rq v w')) ->
   (∀ v w',Rq v w'->(q ∉ L->S w')/\WD P n ops Q S L fuel (listed.setIfInBounds q true) ((dq,v)::env) w') ->
   wpOp P ops (NQ Q) q (fun a' w'=>(q ∉ L->S w->S w')/\ko P .any ops (NQ Q) S L fuel (listed.setIfInBounds q true) a' w') a w:=by
  intro q oq dq Rq h1 h2 h3 h4 h5 h6
  refine zb0 h1 h2 ?_
  unfold Oper.wp
  rcases h5 with⟨v,w',hY,hR⟩ | ⟨f,args,hm,hc⟩
  .
   rw[hY n a ha,Oper.upon_value,h3]
   exact⟨fun h0 _=>(h6 v w' hR).1 h0,(h6 v w' hR).2 _ (ha.put h4)⟩
  rw[hm n a ha,Oper.upon_enter]
  refine hc.mono ?_
  rintro e w' ⟨v,rfl,hR⟩
  simp only[h3]
  exact⟨fun h0 _=>(h6 v w' hR).1 h0,(h6 v w' hR).2 _ (ha.put h4)⟩
 simp only[zpA,zrm,or_false]at hk
 rcases hk with rfl | rfl
 . exact key k o d R hi hg hd hn hm h
 exact key k oj dj Rj hj da db dc de h'
end
abbrev Rel (α:Type):=(Nat->Prop)->World->α->List Value->Prop
def SlR {α:Type} (k:Nat) (R:Rel α) (D:Nat->Prop) (w:World) (v:Value) (l:List α):Prop :=
 ∃ ao cap,v=.slice ao l.length cap/\l.length<=cap/\cap<=9223372036854775807 /\
  ∀ i x,l[i]?=some x->∃ b o cs,ao=some ⟨b,o,none⟩/\D b/\cs.length=k/\Cells w b (o+i*k) cs/\R D w x cs
def zC:Rel Int:=fun _ _ x cs=>cs=[.int .i64 x]
def zkL:Rel Bool:=fun _ _ x cs=>cs=[.bool x]
def zb1:Rel (Int × Int):=fun _ _ p cs=>cs=[.int .i64 p.1,.int .i64 p.2]
def RSl {α:Type} (k:Nat) (R:Rel α):Rel (List α):=fun D w l cs=>∃ v,cs=[v]/\SlR k R D w v l
def zR {α:Type} (R:Rel α):Prop:=∀ (D D':Nat->Prop) (w w':World),(∀ b,D b->D' b)->(∀ b,D b->b<w.heap.size->w'.heap[b]?=w.heap[b]?)->∀ x cs,R D w x cs->R D' w' x cs
theorem Cells.same {w w':World} {b o:Nat} {cs:List Value} (h:Cells w b o cs) (hk:b<w.heap.size->w'.heap[b]?=w.heap[b]?):Cells w' b o cs:=by
 intro j v hv
 have h1:=h j v hv
 have hY:=zpm w _ h1
 rw[World.cell?_of_block (w:=w) (hk hY)]
 exact h1
theorem zb:zR zC:=fun _ _ _ _ _ _ _ _ h=>h
theorem zew:zR zb1:=fun _ _ _ _ _ _ _ _ h=>h
theorem SlR.stable {α:Type} {k:Nat} {R:Rel α} (hR:zR R) {D D':Nat->Prop} {w w':World} (hD:∀ b,D b->D' b) (hk:∀ b,D b->b<w.heap.size->w'.heap[b]?=w.heap[b]?) {v:Value} {l:List α} (h:SlR k R D w v l):SlR k R D' w' v l:=by
 obtain⟨ao,cap,rfl,h1,h2,h3⟩:=h
 refine⟨ao,cap,rfl,h1,h2,fun i x hx=>?_⟩
 obtain⟨b,o,cs,ha,hb,hl,hc,hr⟩:=h3 i x hx
 exact⟨b,o,cs,ha,hD b hb,hl,hc.same (hk b hb),hR D D' w w' hD hk x cs hr⟩
theorem qz {α:Type} {k:Nat} {R:Rel α} (hR:zR R):zR (RSl k R):=by
 intro D D' w w' hD hk x cs ⟨v,hv,h⟩
 exact⟨v,hv,h.stable hR hD hk⟩
theorem SlR.keep {α:Type} {k:Nat} {R:Rel α} (hR:zR R) {D S:Nat->Prop} {w w':World} {v:Value} {l:List α} (h:SlR k R D w v l) (hk:Keep S w w') (hS:∀ b,D b->b<w.heap.size->¬ S b):SlR k R D w' v l :=
 h.stable hR (fun _ h=>h) (fun b hb hY=>hk.block b hY (hS b hb hY))
theorem SlR.ext {α:Type} {k:Nat} {R:Rel α} (hR:zR R) {D:Nat->Prop} {w w':World} {v:Value} {l:List α} (h:SlR k R D w v l) (hk:Ext w w'):SlR k R D w' v l:=h.keep hR hk (fun _ _ _ h=>h)
theorem SlR.wide {α:Type} {k:Nat} {R:Rel α} (hR:zR R) {D D':Nat->Prop} {w:World} {v:Value} {l:List α} (h:SlR k R D w v l) (hD:∀ b,D b->D' b):SlR k R D' w v l:=h.stable hR hD (fun _ _ _=>rfl)
theorem SlR.nil {α:Type} {k:Nat} {R:Rel α} {D:Nat->Prop} {w:World}:SlR k R D w (.slice none 0 0) ([]:List α):=⟨none,0,rfl,zpJ _,by omega,fun i x h=>by simp at h⟩
theorem zmK {α:Type} {k:Nat} {R:Rel α} {D:Nat->Prop} {w:World} {b n cap:Nat} {cs:List Value} {e:TypeId} {l:List α} (hb:Blk w b cs e) (hD:D b) (hn:n=l.length) (hc:l.length<=cap) (hm:cap<=9223372036854775807)
  (he:∀ i x,l[i]?=some x->∃ us,us.length=k/\(∀ j u,us[j]?=some u->cs[i*k+j]?=some u)/\R D w x us):SlR k R D w (.slice (some ⟨b,0,none⟩) n cap) l:=by
 subst hn
 refine⟨_,_,rfl,hc,hm,fun i x hx=>?_⟩
 obtain⟨us,h1,h2,h3⟩:=he i x hx
 refine⟨b,0,us,rfl,hD,h1,?_,h3⟩
 exact hb.cells.part (i*k) h2
theorem zmL {α:Type} {R:Rel α} {D:Nat->Prop} {w:World} {b n cap:Nat} {cs:List Value} {e:TypeId} {l:List α} (enc:α->Value) (hR:∀ x,x ∈ l->R D w x [enc x]) (hb:Blk w b cs e) (hD:D b) (hY:cs.take n=l.map enc) (hn:n=l.length) (hc:l.length<=cap) (hm:cap<=9223372036854775807):SlR 1 R D w (.slice (some ⟨b,0,none⟩) n cap) l:=by
 refine zmK hb hD hn hc hm (fun i x hx=>⟨[enc x],rfl,?_,hR x (zpl hx)⟩)
 intro j u hu
 cases j with
 | zero =>
  simp at hu
  subst hu
  have da:i<l.length:=(zpy.1 hx).1
  have h1:(cs.take n)[i]?=some (enc x):=by rw[hY];simp[hx]
  rw[zpQ]at h1
  simp only[zrY,zrN]
  rw[zpv (by omega)]at h1
  exact h1
 | succ j=>simp at hu
theorem zmM {α:Type} {R:Rel α} {D:Nat->Prop} {w:World} {v:Value} {n:Nat} {e:TypeId} {l:List α} (enc:α->Value) (hR:∀ x,x ∈ l->R D w x [enc x]) (h:w.ownsRow 0 e 1 v n (l.map enc)) (hD:∀ g,v.ownBlock=some g->D g):SlR 1 R D w v l:=by
 obtain⟨h1,h2⟩:=h
 have hn:l.length=n:=by simpa using h1
 rcases h2 with⟨rfl,rfl⟩ | ⟨g,cap,cur,rfl,_,hg,db,da,_,hY⟩
 .
  have:l=[]:=zqI hn
  subst this
  exact SlR.nil
 have hb:Blk w g cur.toList e:=by unfold Blk;simpa using hg
 refine zmL enc hR hb (hD g O) (by simpa using hY) hn.symm (by omega) (by simpa[maxLen] using da)
theorem zmN {α:Type} {k:Nat} {R:Rel α} {D:Nat->Prop} {w:World} {v:Value} {n:Nat} {e:TypeId} {l:List α} (hk:0<k) (enc:α->List Value) (hl:∀ x,(enc x).length=k) (hR:∀ x,x ∈ l->R D w x (enc x)) (h:w.ownsRow 0 e k v n (l.flatMap enc)) (hD:∀ g,v.ownBlock=some g->D g):SlR k R D w v l:=by
 have flat:∀ (l:List α),(l.flatMap enc).length=l.length*k:=by
  intro l
  induction l with
  | nil=>simp
  | cons x r ih=>simp[hl,ih,zrL,zrK]
 have at':∀ (l:List α) (i:Nat) (x:α),l[i]?=some x->∀ j u,(enc x)[j]?=some u->(l.flatMap enc)[i*k+j]?=some u:=by
  intro l
  induction l with
  | nil=>intro i x h;simp at h
  | cons y r ih =>
   intro i x hx j u hu
   have hj:j<k:=by rw[<- hl x];exact(zpy.1 hu).1
   cases i with
   | zero =>
    simp at hx
    subst hx
    simp only[zqP,zs4,zs3]
    rw[zpK (by rw[hl];exact hj)]
    exact hu
   | succ i =>
    simp only[List.getElem?_cons_succ]at hx
    simp only[zqP]
    rw[zpL (by rw[hl,zs1];omega),hl]
    have:=ih i x hx j u hu
    rw[show (i+1)*k+j - k=i*k+j from by rw[zs1];omega]
    exact this
 obtain⟨h1,h2⟩:=h
 have hn:l.length=n:=by
  rw[flat]at h1
  exact zrQ hk h1
 rcases h2 with⟨rfl,rfl⟩ | ⟨g,cap,cur,rfl,_,hg,db,da,_,hY⟩
 .
  have:l=[]:=zqI hn
  subst this
  exact SlR.nil
 have hb:Blk w g cur.toList e:=by unfold Blk;simpa using hg
 refine zmK hb (hD g O) hn.symm (by omega) (by simpa[maxLen] using da) (fun i x hx=>⟨enc x,hl x,?_,hR x (zpl hx)⟩)
 intro j u hu
 have h3:=at' l i x hx j u hu
 rw[<- hY,zpQ]at h3
 split at h3
 . exact h3
 cases h3
theorem zm {w w':World} {S:Nat->Prop} {e:TypeId} {k:Nat} {v:Value} {n:Nat} {xs:List Value} (h:w.ownsRow 0 e k v n xs) (hk:Keep S w w') (hS:∀ g,v.ownBlock=some g->¬ S g):w'.ownsRow 0 e k v n xs:=by
 obtain⟨h1,h2⟩:=h
 refine⟨h1,?_⟩
 rcases h2 with h2 | ⟨g,cap,cur,rfl,hb,hg,r⟩
 . exact .inl h2
 refine .inr ⟨g,cap,cur,rfl,hb,?_,r⟩
 rw[hk.block g (Array.getElem?_eq_some_iff.1 hg).1 (hS g rfl)]
 exact hg
theorem xB {w:World} {e:TypeId} {k:Nat} {v:Value} {n:Nat} {xs:List Value} (h:w.ownsRow 0 e k v n xs) {g:Nat} (hg:v.ownBlock=some g):g<w.heap.size:=(World.ownsRow.lt h g hg).2
theorem ye {w:World} {b n cap:Nat} {cs:List Value} {e:TypeId} {k:Nat} (h:Blk w b cs e) (hn:n<=cap) (hc:cap<=9223372036854775807) (hl:cs.length=cap*k):w.ownsRow 0 e k (.slice (some ⟨b,0,none⟩) n cap) n (cs.take (n*k)):=by
 refine⟨by rw[zpO,hl];exact Nat.min_eq_left (zrX _ hn),.inr ⟨b,cap,cs.toArray,rfl,zpz _,h,hn,by simpa[maxLen] using hc,by simpa using hl,by simp⟩⟩
theorem xa {w:World} {e:TypeId} {k:Nat} {v:Value} {n:Nat} {xs:List Value} (h:w.ownsRow 0 e k v n xs):∃ ao c,v=.slice ao n c:=by
 rcases h.2 with⟨rfl,rfl⟩ | ⟨g,cap,cur,rfl,_⟩<;>exact⟨_,_,rfl⟩
theorem jS (w:World) (e:TypeId) (k:Nat):w.ownsRow 0 e k (.slice none 0 0) 0 []:=World.ownsRow_nil w 0 e k
section
variable {α:Type} {c:Nat} {enc:α->List Value}
theorem yu (hc:∀ x,(enc x).length=c):∀ (L:List α),(L.flatMap enc).length=L.length*c
 | []=>by simp
 | x::r=>by simp[hc,yu hc r,zrL,zrK]
theorem kr (hc:∀ x,(enc x).length=c):∀ (k:Nat) (L:List α),(L.flatMap enc).take (k*c)=(L.take k).flatMap enc
 | 0,L=>by simp
 | k+1,[]=>by simp
 | k+1,x::r=>by
  rw[List.take_succ_cons,zqP,zqP,zs1,zrK,List.take_append,hc]
  rw[zrF (by rw[hc];omega),show c+k*c - c=k*c from by omega,kr hc k r]
theorem zb2 (hc:∀ x,(enc x).length=c):∀ (k:Nat) (L:List α),(L.flatMap enc).drop (k*c)=(L.drop k).flatMap enc
 | 0,L=>by simp
 | k+1,[]=>by simp
 | k+1,x::r=>by
  rw[zqH,zqP,zs1,zrK,List.drop_append,hc]
  rw[List.drop_of_length_le (by rw[hc];omega),show c+k*c - c=k*c from by omega,zb2 hc k r,zrk]
theorem zf4 (hc:∀ x,(enc x).length=c) {L:List α} {k:Nat} (hk:k<L.length) (x:α) (sp:List Value) :
  (L.flatMap enc++sp).take (k*c)++enc x++(L.flatMap enc++sp).drop (k*c+c)=(L.set k x).flatMap enc++sp:=by
 have hl:=yu hc L
 have h1:(k+1)*c<=L.length*c:=zrX _ hk
 have h2:(k+1)*c=k*c+c:=zs1 _ _
 rw[zrE (by omega),zqC (by omega),kr hc,<- h2,zb2 hc]
 rw[List.set_eq_take_append_cons_drop,zpv hk]
 simp
theorem zgB (hc:∀ x,(enc x).length=c) {L:List α} {i:Nat} {x:α} (hx:L[i]?=some x) (sp:List Value):∀ j u,(enc x)[j]?=some u->(L.flatMap enc++sp)[i*c+j]?=some u:=by
 obtain⟨hi,rfl⟩:=zpy.1 hx
 intro j u hu
 have hj:j<c:=by rw[<- hc L[i]];exact(zpy.1 hu).1
 have hl:=yu hc L
 have h1:(i+1)*c<=L.length*c:=zrX _ hi
 have h2:(i+1)*c=i*c+c:=zs1 _ _
 rw[zpK (by omega),<- List.getElem?_drop,zb2 hc,zqE hi,zqP]
 rw[zpK (by rw[hc];exact hj)]
 exact hu
theorem jw (hc:∀ x,(enc x).length=c) {w:World} {b:Nat} {e:TypeId} {L:List α} {sp:List Value} (hb:Blk w b (L.flatMap enc++sp) e) {i:Nat} {x:α} (hx:L[i]?=some x):Cells w b (0+i*c) (enc x) :=
 hb.cells.part (i*c) (zgB hc hx sp)
theorem ku (hc:∀ x,(enc x).length=c) (da:0<c) {w:World} {e:TypeId} {v:Value} {n:Nat} {L:List α} (h:w.ownsRow 0 e c v n (L.flatMap enc)) (hL:L ≠ []) :
  ∃ g cap sp,v=.slice (some ⟨g,0,none⟩) n cap/\n=L.length/\n<=cap/\cap<=9223372036854775807/\Blk w g (L.flatMap enc++sp) e/\(L.flatMap enc++sp).length=cap*c:=by
 obtain⟨h1,h2⟩:=h
 have hn:L.length=n:=by
  rw[yu hc]at h1
  exact zrQ da h1
 rcases h2 with⟨_,rfl⟩ | ⟨g,cap,cur,rfl,_,hg,db,dc,de,hY⟩
 . exact absurd (zqI hn) hL
 refine⟨g,cap,cur.toList.drop (n*c),rfl,hn.symm,db,by simpa[maxLen] using dc,?_,?_⟩
 .
  rw[<- hY,zrD]
  unfold Blk
  simpa using hg
 rw[<- hY,zrD]
 simpa using de
theorem zcB (hc:∀ x,(enc x).length=c) {w:World} {e:TypeId} {g cap k:Nat} {L:List α} {sp:List Value} (hb:Blk w g (L.flatMap enc++sp) e) (hl:(L.flatMap enc++sp).length=cap*c) (hk:k<=L.length) (hY:k<=cap) (hm:cap<=9223372036854775807) :
  w.ownsRow 0 e c (.slice (some ⟨g,0,none⟩) k cap) k ((L.take k).flatMap enc):=by
 have h:=ye (k:=c) hb hY hm hl
 have h1:k*c<=L.length*c:=zrX _ hk
 rw[zrE (by rw[yu hc];exact h1),kr hc]at h
 exact h
end
section
variable {α:Type} {f:α->Value}
theorem zcC (l:List α):l.map f=l.flatMap (fun x=>[f x]):=by
 induction l with
 | nil=>rfl
 | cons x r ih=>simp[ih]
theorem zgC {w:World} {e:TypeId} {v:Value} {n:Nat} {L:List α} (h:w.ownsRow 0 e 1 v n (L.map f)) (hL:L ≠ []) :
  ∃ g cap sp,v=.slice (some ⟨g,0,none⟩) n cap/\n=L.length/\n<=cap/\cap<=9223372036854775807/\Blk w g (L.map f++sp) e/\(L.map f++sp).length=cap:=by
 rw[zcC]at h
 obtain⟨g,cap,sp,h1,h2,h3,h4,h5,h6⟩:=ku (c:=1) (fun _=>rfl) (by decide) h hL
 rw[<- zcC]at h5 h6
 exact⟨g,cap,sp,h1,h2,h3,h4,h5,by rw[h6,zrY]⟩
theorem zgD {w:World} {e:TypeId} {g cap:Nat} {L:List α} {sp:List Value} (hb:Blk w g (L.map f++sp) e) (hl:(L.map f++sp).length=cap) (hm:cap<=9223372036854775807) :
  w.ownsRow 0 e 1 (.slice (some ⟨g,0,none⟩) L.length cap) L.length (L.map f):=by
 have h:=ye (k:=1) (n:=L.length) hb (by rw[<- hl];simp) hm (by rw[hl,zrY])
 rw[zrY,zrE (by simp),zrF (by simp)]at h
 exact h
theorem zih {w:World} {e:TypeId} {v:Value} {n:Nat} {L:List α} (h:w.ownsRow 0 e 1 v n (L.map f)):n=L.length:=by
 have:=h.1
 simpa using this.symm
end
section
variable {P:Program} {env:Env} {w:World} {dst:Option Tmp} {ty:TypeId} {pos:String} {aft:Array Edge} {g:Option (Nat × Bool)}
theorem zmO {t e:TypeId} {k:Nat} {x hi:Operand} {ao:Option Addr} {l c:Nat} {kd:IntKind} {i:Int} (hu:∀ w,(underlying t).run P w=.ok (.slice e) w) (hs:∀ w,(sizeOf e).run P w=.ok k w) (hx:ev env x=some (.slice ao l c)) (hy:ev env hi=some (.int kd i)) (h0:0<=i/\i<=c) :
  yA P ⟨dst,.slice t x none (some hi) none,ty,pos,aft,g⟩ env w (.slice ao i.toNat c) w:=by
 have h:=zml (dst:=dst) (ty:=ty) (pos:=pos) (aft:=aft) (g:=g) (w:=w) hu hs hx hy h0
 have e1:(if c=0 then ao else ao.map (·.add (0*k)))=ao:=by
  cases ao<;>simp[Addr.add]
 rwa [e1]at h
theorem zmP {t e:TypeId} {k:Nat} {x lo:Operand} {ao:Option Addr} {b o l c:Nat} {kd:IntKind} {i:Int} (hu:∀ w,(underlying t).run P w=.ok (.slice e) w) (hs:∀ w,(sizeOf e).run P w=.ok k w) (hx:ev env x=some (.slice ao l c)) (hy:ev env lo=some (.int kd i)) (hY:ao=some ⟨b,o,none⟩) (h0:0<=i/\i<=l) (h1:i<c) :
  yA P ⟨dst,.slice t x (some lo) none none,ty,pos,aft,g⟩ env w (.slice (some ⟨b,o+i.toNat*k,none⟩) (l - i.toNat) (c - i.toNat)) w:=by
 have h:=zmk (dst:=dst) (ty:=ty) (pos:=pos) (aft:=aft) (g:=g) (w:=w) hu hs hx hy h0
 rw[zpu (by omega),hY]at h
 simpa[xz] using h
theorem zmQ {t e:TypeId} {k:Nat} (hu:∀ w,(underlying t).run P w=.ok (.slice e) w) (hs:∀ w,(sizeOf e).run P w=.ok k w) :
  yH P ⟨dst,.buildSlice t 0 #[],ty,pos,aft,g⟩ env w (fun u w'=>∃ b,u=.slice (some ⟨b,0,none⟩) 0 0/\New w [] e b w'):=by
 refine⟨.slice (some ⟨w.heap.size,0,none⟩) 0 0,w.alloc (.cells #[] e),?_,_,rfl,New.mk w [] e⟩
 intro n a ha
 have e1:Array.range 0=#[]:=rfl
 simp[execOp,Instr.buildSlice,hu,hs,Instr.fill,newRow,e1]
theorem kw {b:Nat} {e:TypeId}:∀ (us:List Value) (o i:Nat) (w:World) (cs:List Value),(∀ u ∈ us,u.oneCell'=true)->Blk w b cs e->o+i+us.length<=cs.length ->
   ∃ w',(storeCells ⟨b,o,none⟩ us i).run P w=.ok () w'/\zev w b (cs.take (o+i)++us++cs.drop (o+i+us.length)) e w':=by
 intro us
 induction us with
 | nil =>
  intro o i w cs _ hb _
  refine⟨w,by simp[storeCells],rfl,?_,Keep.refl _ _⟩
  simpa using hb
 | cons u r ih =>
  intro o i w cs h1 hb hl
  simp only[zpN]at hl
  have hY:w.cell? ⟨b,o+i,none⟩=some cs[o+i]:=by
   have:=hb.cells (o+i) cs[o+i] (zpk (by omega))
   simpa using this
  have da:∀ m,(Go.store ⟨b,o+i,none⟩ u m).run P w=.ok () (w.setCell ⟨b,o+i,none⟩ u):=by
   intro m
   rw[run_store P w _ u m (h1 u (by simp))]
   simp[hY,hb.frozen]
  obtain⟨w',hr,db,hB,hK⟩:=ih o (i+1) (w.setCell ⟨b,o+i,none⟩ u) (cs.set (o+i) u) (fun x hx=>h1 x (by simp[hx])) (hb.set u) (by simp;omega)
  refine⟨w',?_,by rw[db];simp,?_,(Keep.setCell w b (o+i) u).trans hK (fun _ _ h=>h)⟩
  . simp[storeCells,xz,da,hr]
  have e1:(cs.set (o+i) u).take (o+(i+1))=cs.take (o+i)++[u]:=by
   rw[show o+(i+1)=(o+i)+1 from by omega,zrH (by simp;omega)]
   simp[zrG]
  have e2:(cs.set (o+i) u).drop (o+(i+1)+r.length)=cs.drop (o+i+(u::r).length):=by
   rw[zqG (by omega)]
   simp only[zpN,zrJ,zrK 1]
  rw[e1,e2]at hB
  simpa using hB
theorem M.clear {t e:TypeId} {k:Nat} {z:Value} {x:Operand} {b o m c:Nat} {cs:List Value} {zs:List Value} (hu:∀ w,(underlying t).run P w=.ok (.slice e) w) (hz:∀ w,(zeroValue e).run P w=.ok z w) (hx:ev env x=some (.slice (some ⟨b,o,none⟩) m c)) (hm:0<m) (da:Builtin.zeroCells z.cells m=zs.toArray) (hl:zs.length=m*k) (h1:∀ u ∈ zs,u.oneCell'=true) (hb:Blk w b cs e) (ho:o+m*k<=cs.length) :
  yH P ⟨dst,.call ⟨.builtin .clear,#[x],#[t]⟩,ty,pos,aft,g⟩ env w (fun u w'=>u=.tuple #[]/\zev w b (cs.take o++zs++cs.drop (o+m*k)) e w'):=by
 obtain⟨w',hr,hW⟩:=kw (P:=P) zs o 0 w cs h1 hb (by rw[hl];omega)
 refine⟨.tuple #[],w',?_,rfl,by rw[<- hl];simpa using hW⟩
 intro n a ha
 obtain⟨m',rfl⟩:∃ m',m=m'+1:=⟨m - 1,by omega⟩
 have hY:(Builtin.clear_ #[t] ty #[.slice (some ⟨b,o,none⟩) (m'+1) c]).run P w=.ok (.tuple #[]) w':=by
  simp[Builtin.clear_,hu,hz,da,hr]
 simp[execOp,resolve,invoke,builtin,ha.eval hx,hY]
end
open Go.RowKit
section
variable {P:Program} {env:Env} {w:World} {dst:Option Tmp} {ty:TypeId} {pos:String} {aft:Array Edge} {g:Option (Nat × Bool)}
theorem zmR {t e:TypeId} {x y:Operand} {a1 ao:Option Addr} {l1 c1 c:Nat} {r:Option Value × Nat × Nat} (hu:P.underlying t=some (.slice e)) (he:(P.info? e).map (fun i=>(i.zero,i.size,i.bytes))=some r)
  (hx:ev env x=some (.slice a1 l1 c1)) (hy:ev env y=some (.slice ao 0 c)) (hY:l1<=c1) :
  yH P ⟨dst,.call ⟨.builtin .append,#[x,y],#[t,t]⟩,ty,pos,aft,g⟩ env w (fun u w'=>u=.slice a1 l1 c1/\w'=w):=by
 obtain⟨i,hi⟩:∃ i,P.info? e=some i:=by
  cases h:P.info? e with
  | none=>rw[h]at he;cases he
  | some i=>exact⟨i,rfl⟩
 refine⟨_,w,?_,rfl,rfl⟩
 intro n a ha
 have:(Builtin.append_ #[t,t] ty #[.slice a1 l1 c1,.slice ao 0 c]).run P w=.ok (.slice a1 l1 c1) w:=by
  cases a1<;>cases ao<;>simp[Builtin.append_,run_underlying hu,sizeOf,typeInfo,hi,Builtin.lenOf,Builtin.firstCells,loadCells,loadCellsFrom,storeCells,hY]
 simp[execOp,resolve,invoke,builtin,ha.eval hx,ha.eval hy,this]
theorem zmS {α:Type} {R:Rel α} {D:Nat->Prop} {t e:TypeId} {k by':Nat} {z:Value} {x y:Operand} {v vy:Value} {m:Nat} {xs:List Value} {l:List α} (enc:α->List Value) (hc:∀ x,(enc x).length=k) (h1:∀ x,∀ u ∈ enc x,u.oneCell'=true) (hR:∀ x cs,R D w x cs->cs=enc x)
  (hu:P.underlying t=some (.slice e)) (he:(P.info? e).map (fun i=>(i.zero,i.size,i.bytes))=some (some z,k,by')) (di:z.cells.size=k) (hk:0<k)
  (hx:ev env x=some v) (hy:ev env y=some vy) (dk:SlR k R D w vy l) (hY:w.ownsRow 0 e k v m xs) (db:m+l.length<=9223372036854775807) (dl:(m+l.length)*by'<=140737488355328) :
  yH P ⟨dst,.call ⟨.builtin .append,#[x,y],#[t,t]⟩,ty,pos,aft,g⟩ env w (fun u w'=>w'.ownsRow 0 e k u (m+l.length) (xs++l.flatMap enc)/\(u.ownBlock=v.ownBlock\/∃ g,u.ownBlock=some g/\w.heap.size<=g)/\Keep (fun k=>v.ownBlock=some k) w w'):=by
 obtain⟨ao,cap,rfl,dy,dm,de⟩:=dk
 by_cases hl:l.length=0
 .
  have dr:l=[]:=zqI hl
  subst dr
  have hv:∃ a1 c1,v=.slice a1 m c1/\m<=c1:=by
   rcases hY.2 with⟨rfl,rfl⟩ | ⟨g0,cap,cur,rfl,dz,dA,dt,dm,df,dg⟩
   . exact⟨none,0,rfl,zpJ _⟩
   exact⟨_,_,rfl,dt⟩
  obtain⟨a1,c1,rfl,du⟩:=hv
  obtain⟨u,w',hr,rfl,rfl⟩:=zmR (g:=g) (pos:=pos) (aft:=aft) (dst:=dst) (ty:=ty) hu he hx hy du
  exact⟨_,_,hr,by simpa using hY,.inl rfl,Keep.refl _ _⟩
 obtain⟨a0,rfl⟩:∃ a0,ao=some a0:=by
  obtain⟨x,hx⟩:∃ x,l[0]?=some x:=⟨_,zpk (by omega)⟩
  obtain⟨b,o,cs,dc,_⟩:=de 0 x hx
  exact⟨_,dc⟩
 have da:∀ q u,(l.flatMap enc)[q]?=some u->w.cell? (a0.add q)=some u:=by
  intro q u hq
  have dw:q<l.length*k:=by rw[<- yu hc];exact(zpy.1 hq).1
  have hd:q / k*k+q % k=q:=by rw[Nat.mul_comm];exact Nat.div_add_mod q k
  obtain⟨x,hx⟩:∃ x,l[q / k]?=some x:=⟨_,zpk (by rw[zrP hk];exact dw)⟩
  obtain⟨b',o',cs,dc,_,dB,df,dx⟩:=de (q / k) x hx
  have:=hR x cs dx
  subst this
  cases dc
  have h3:∃ u',(enc x)[q % k]?=some u':=⟨_,zpk (by rw[hc];exact zrV _ hk)⟩
  obtain⟨u',dh⟩:=h3
  have h2:=zgB hc hx [] (q % k) u' dh
  rw[zqz,hd,hq]at h2
  cases h2
  have h4:=df (q % k) u dh
  rw[xz]
  rw[zrJ,hd]at h4
  exact h4
 obtain⟨u,w',hr,h5,h6,h7,_⟩:=M.append (g:=g) (pos:=pos) (aft:=aft) (dst:=dst) (ty:=ty) hu he di hk hx hy hY (yu hc l) da (by intro u hu;obtain⟨x,_,hx⟩:=zrd.1 hu;exact h1 x u hx) db dl
 exact⟨u,w',hr,h5,h6,h7⟩
end
open Go.RowKit
section
variable {P:Program} {env:Env} {w:World} {dst:Option Tmp} {ty:TypeId} {pos:String} {aft:Array Edge} {g:Option (Nat × Bool)}
theorem za {p:Prop} [Decidable p]:(!decide p)=decide (¬ p):=by by_cases h:p<;>simp[h]
theorem zmT {t:TypeId} {x:Operand} {b c:Bool} (hx:ev env x=some (.bool b)) (hc:(!b)=c):yA P ⟨dst,.unOp .not t x,ty,pos,aft,g⟩ env w (.bool c) w:=by
 intro n a ha;simp[execOp,ha.eval hx,Op.unary,hc]
theorem R.makeFunc {fn:Fn} {first captured:Array Operand} {fs cs:List Value} (hf:first.toList.map (ev env)=fs.map some) (hc:captured.toList.map (ev env)=cs.map some):yA P ⟨dst,.makeFunc fn first captured,ty,pos,aft,g⟩ env w (.func fn fs.toArray cs.toArray) w:=by
 intro n a ha
 have e1:first.map a.eval=fs.toArray:=by apply zpU.1;simpa using evs ha first.toList fs hf
 have e2:captured.map a.eval=cs.toArray:=by apply zpU.1;simpa using evs ha captured.toList cs hc
 simp[execOp,Instr.makeFunc,e1,e2]
theorem R.neg {t:TypeId} {x:Operand} {k:IntKind} {m:Int} (hx:ev env x=some (.int k m)) (hr:k.wrap (-m)=-m):yA P ⟨dst,.unOp .neg t x,ty,pos,aft,g⟩ env w (.int k (-m)) w:=by
 intro n a ha;simp[execOp,ha.eval hx,Op.unary,Op.intArith,hr]
theorem zmU {x y:Operand} {t t':TypeId} {m j:Int} (hx:ev env x=some (.int .i64 m)) (hy:ev env y=some (.int .i64 j)):yA P ⟨dst,.call ⟨.builtin .max,#[x,y],#[t,t']⟩,ty,pos,aft,g⟩ env w (.int .i64 (max m j)) w:=by
 intro n a ha
 have e:(if j > m then j else m)=max m j:=by split<;>omega
 simp[execOp,resolve,invoke,builtin,ha.eval hx,ha.eval hy,run_max_int2,e]
theorem zmV {x y:Operand} {t t':TypeId} {m j:Int} (hx:ev env x=some (.int .i64 m)) (hy:ev env y=some (.int .i64 j)):yA P ⟨dst,.call ⟨.builtin .min,#[x,y],#[t,t']⟩,ty,pos,aft,g⟩ env w (.int .i64 (min m j)) w:=by
 intro n a ha
 have e:(if j<m then j else m)=min m j:=by split<;>omega
 simp[execOp,resolve,invoke,builtin,ha.eval hx,ha.eval hy,run_min_int2,e]
theorem zmW {x:Operand} {ts:Array TypeId} {t:TypeId} {s:ByteArray} (ht:ts=#[t]) (hu:P.underlying t=some .string) (hx:ev env x=some (.string s)) :
  yA P ⟨dst,.call ⟨.builtin .len,#[x],ts⟩,ty,pos,aft,g⟩ env w (.int .i64 s.size) w:=by
 subst ht
 intro n a ha
 simp[execOp,resolve,invoke,builtin,ha.eval hx,run_len_string (h:=hu),goInt]
theorem zmX {t:TypeId} {x y:Operand} {s:ByteArray} {k:IntKind} {i:Int} (hu:P.underlying t=some .string) (hx:ev env x=some (.string s)) (hy:ev env y=some (.int k i)) (j:Nat) (hi:i=(j:Int)) (hj:j<s.size) :
  yA P ⟨dst,.index t x y,ty,pos,aft,g⟩ env w (.int .u8 (s[j].toNat:Int)) w:=by
 subst hi
 intro n a ha
 have h0:(0:Int)<=(j:Int)/\(j:Int)<(s.size:Int):=⟨by omega,by omega⟩
 simp[execOp,ha.eval hx,ha.eval hy,run_index_string (h:=hu),h0]
theorem zmY {t t':TypeId} {x y:Operand} {a b:ByteArray} (hx:ev env x=some (.string a)) (hy:ev env y=some (.string b)):yA P ⟨dst,.binOp .eql t x y t',ty,pos,aft,g⟩ env w (.bool (decide (a.toList=b.toList))) w:=by
 intro n c hc
 have e:(a.toList == b.toList)=decide (a.toList=b.toList):=by by_cases h:a.toList=b.toList<;>simp[h]
 simp[execOp,hc.eval hx,hc.eval hy,eqGuard_at_string,binOp_string_eql,e]
theorem zmZ {t t':TypeId} {x y:Operand} {a b:ByteArray} (hx:ev env x=some (.string a)) (hy:ev env y=some (.string b)):yA P ⟨dst,.binOp .neq t x y t',ty,pos,aft,g⟩ env w (.bool (decide (a.toList ≠ b.toList))) w:=by
 intro n c hc
 have e:(!(a.toList == b.toList))=decide (a.toList ≠ b.toList):=by by_cases h:a.toList=b.toList<;>simp[h]
 simp only[execOp,hc.eval hx,hc.eval hy,eqGuard_at_string,binOp_string_neq,e]
 simp
end
theorem Sub.refl (env:Env):Sub env env:=fun _ _ h=>h
def Does (P:Program) (o:Oper) (env:Env) (w:World) (R:Value->World->Prop):Prop:=(∃ v w',yA P o env w v w'/\R v w')\/∃ f args,zcA P o env w f args/\Calls P f args w (fun e w'=>∃ v,e=.returned v/\R v w')
theorem Does.sub {P:Program} {o:Oper} {env env':Env} {w:World} {R:Value->World->Prop} (h:Does P o env w R) (hs:Sub env env'):Does P o env' w R:=by
 rcases h with⟨v,w',h1,h2⟩ | ⟨f,args,h1,h2⟩
 . exact .inl ⟨v,w',fun n a ha=>h1 n a (ha.sub hs),h2⟩
 exact .inr ⟨f,args,fun n a ha=>h1 n a (ha.sub hs),h2⟩
theorem Does.of {P:Program} {o:Oper} {env:Env} {w:World} {R:Value->World->Prop} (h:yH P o env w R):Does P o env w R:=.inl h
theorem Does.call {P:Program} {o:Oper} {env:Env} {w:World} {R:Value->World->Prop} {f:FuncId} {args:Array Value} (h:zcA P o env w f args) (h':Calls P f args w (Ret R)):Does P o env w R:=.inr ⟨f,args,h,h'⟩
section
variable {P:Program} {n:Nat} {ops:Array Oper} {Q:Exit->Act->World->Prop} {S:World->Prop} {L:List Nat} {env:Env} {w:World} {fuel:Nat} {listed:Array Bool}
theorem WD.sub {env':Env} (hs:Sub env' env) (h:WD P n ops Q S L fuel listed env' w):WD P n ops Q S L fuel listed env w:=fun a ha=>h a (ha.sub hs)
def zlt (w:World) (R:World->Value->World->Prop) (v:Value) (w':World):Prop:=∃ a a',Ext w a/\R a v a'/\Ext a' w'
end
section
variable {P:Program} {n:Nat} {ops:Array Oper} {Q:Exit->Act->World->Prop} {S:World->Prop} {L:List Nat} {env:Env} {w:World} {fuel:Nat} {listed:Array Bool} {v:Value} {o:Oper}
theorem zb3 {j dj:Nat} {b c x:Bool} {a:Act} (ha:Ok n env a) (hY:o.guard=some (j,b)) (hj:(ops[j]?).bind (·.dst)=some dj) (hget:get env dj=some (.bool c)) (hx:(c == b)=x):Region.wanted o (yielded ops a.tmps)=x:=by
 have hy:yielded ops a.tmps j=some c:=by
  have:=ha.get dj _ hget
  simp[yielded,hj,this]
 simp[Region.wanted,hY,hy,hx]
theorem zdi {j dj:Nat} {b:Bool} {a:Act} (ha:Ok n env a) (hY:o.guard=some (j,b)) (hj:(ops[j]?).bind (·.dst)=some dj) (hget:get env dj=some undef):Region.wanted o (yielded ops a.tmps)=false:=by
 have hy:yielded ops a.tmps j=none:=by
  have:=ha.get dj _ hget
  simp[yielded,hj,this,undef]
 simp[Region.wanted,hY,hy]
theorem xl {j dj:Nat} {b c:Bool} {a:Act} (ha:Ok n env a) (hY:o.guard=some (j,b)) (hj:(ops[j]?).bind (·.dst)=some dj) (hget:get env dj=some (.bool c)) (hc:c=b):Region.wanted o (yielded ops a.tmps)=true:=zb3 ha hY hj hget (by rw[hc];simp)
theorem WD.skip (i:Nat) {d:Nat} (hi:ops[i]?=some o) (hr:Region.ready .any ops listed=[i]) (hw:∀ a,Ok n env a->Region.wanted o (yielded ops a.tmps)=false) (hd:o.dst=some d) (hn:Nat.blt d n=true)
  (hS:S w) (h:WD P n ops Q S L fuel (listed.setIfInBounds i true) ((d,undef)::env) w):WD P n ops Q S L (fuel+1) listed env w:=by
 intro a ha
 refine⟨fun h0=>(by rw[hr]at h0;cases h0),fun j hj=>?_⟩
 rw[hr]at hj
 have:j=i:=by simpa using hj
 subst this
 unfold wpOp
 simp only[hi]
 rw[zpu (by rw[hw a ha];simp),hd]
 exact⟨fun _ _=>hS,h _ (ha.put hn)⟩
theorem zn0 (i:Nat) {d:Nat} (hi:ops[i]?=some o) (hs:(Region.noSelect ops&&Region.free .any ops listed i&&(Region.ready .any ops listed).contains i&&L.all (jv .any ops i)&&!L.contains i)=true)
  (hd:o.dst=some d) (hn:Nat.blt d n=true) (hS:S w) (hr:(∀ a,Ok n env a->Region.wanted o (yielded ops a.tmps)=true)/\(∀ w',S w'->yA P o env w' v w')\/(∀ a,Ok n env a->Region.wanted o (yielded ops a.tmps)=false)/\v=undef) (h:WD P n ops Q S L fuel (listed.setIfInBounds i true) ((d,v)::env) w):WD P n ops Q S L (fuel+1) listed env w:=by
 intro a ha
 simp only[zpW,zq4]at hs
 obtain⟨⟨⟨⟨h1,h2⟩,h3⟩,h4⟩,h5⟩:=hs
 refine zat hi (Region.noSelect_spec h1) (fun _ _ _ h=>h) (by simpa using h4) (by simpa using h5) fuel listed a w (Region.free_spec hi h2) (by simpa using h3) (v:=v) ?_ hS ?_
 .
  rcases hr with⟨h6,h7⟩ | ⟨h6,h7⟩
  . exact .inl ⟨h6 a ha,fun w' hY=>h7 w' hY n a ha⟩
  exact .inr ⟨h6 a ha,h7⟩
 rw[hd];exact h _ (ha.put hn)
end
inductive TI where
 | sl (e:TypeId) (k:Nat)
 | bool
 | str
 | st (offs:List Nat)
 | ar (n k:Nat)
def TI.ok (P:Program) (t:TypeId):TI->Prop
 | .sl e k=>(∀ w,(underlying t).run P w=.ok (.slice e) w)/\∀ w,(sizeOf e).run P w=.ok k w
 | .bool=>P.underlying t=some .bool
 | .str=>P.underlying t=some .string
 | .st offs=>∃ fields:Array Field,(∀ w,(underlying t).run P w=.ok (.struct fields) w)/\∀ (i off:Nat),offs[i]?=some off->∃ f:Field,fields[i]?=some f/\f.offset=off/\∃ m,∀ w,(sizeOf f.type).run P w=.ok (m+1) w
 | .ar n k=>∃ e,(∀ w,(underlying t).run P w=.ok (.array n e) w)/\∀ w,(sizeOf e).run P w=.ok k w
abbrev Tab:=List (Nat × TI)
def zii:Tab->Nat->Option TI
 | [],_=>none
 | (k,v)::r,j=>cond (Nat.beq k j) (some v) (zii r j)
def zn1 (P:Program) (T:Tab):Prop:=∀ t i,zii T t=some i->i.ok P t
theorem zn3 {P:Program}:zn1 P []:=fun _ _ h=>by cases h
theorem zn5 {P:Program} {T:Tab} {t:Nat} {i:TI} (h:i.ok P t) (hT:zn1 P T):zn1 P ((t,i)::T):=by
 intro t' i' h'
 simp only[zii]at h'
 cases hb:Nat.beq t t' with
 | true=>rw[hb]at h';cases h';rw[<- zpr hb];exact h
 | false=>rw[hb]at h';exact hT _ _ h'
def FOk (P:Program) (fields:Array Field):Nat->List Nat->Prop
 | _,[]=>True
 | i,off::r=>(∃ f:Field,fields[i]?=some f/\f.offset=off/\∃ m,∀ w,(sizeOf f.type).run P w=.ok (m+1) w)/\FOk P fields (i+1) r
theorem FOk.at {P:Program} {fields:Array Field}:∀ {offs:List Nat} {s:Nat},FOk P fields s offs->∀ (i off:Nat),offs[i]?=some off->∃ f:Field,fields[s+i]?=some f/\f.offset=off/\∃ m,∀ w,(sizeOf f.type).run P w=.ok (m+1) w
 | [],_,_,i,off,h=>by simp at h
 | x::r,s,h,0,off,hi=>by simp at hi;subst hi;exact h.1
 | x::r,s,h,i+1,off,hi=>by
  have:=FOk.at h.2 i off (by simpa using hi)
  rw[show s+(i+1)=s+1+i from by omega]
  exact this
theorem zn7 {P:Program} {t:TypeId} {fields:Array Field} {offs:List Nat} (hu:∀ w,(underlying t).run P w=.ok (.struct fields) w) (h:FOk P fields 0 offs):TI.ok P t (.st offs) :=
 ⟨fields,hu,fun i off hi=>by have:=h.at i off hi;rwa [zs3]at this⟩
def nth {α:Type}:List α->Nat->Option α
 | [],_=>none
 | x::_,0=>some x
 | _::r,n+1=>nth r n
theorem kz {α:Type}:∀ (l:List α) (n:Nat),nth l n=l[n]?
 | [],_=>by simp[nth]
 | x::_,0=>by simp[nth]
 | _::r,n+1=>by simp[nth,kz r n]
def jc (env:Env):List Operand->Option (List Value)
 | []=>some []
 | x::r=>match ev env x with
  | some v=>(match jc env r with
   | some vs=>some (v::vs)
   | none=>none)
  | none=>none
theorem xd {env:Env}:∀ {l:List Operand} {vs:List Value},jc env l=some vs->l.map (ev env)=vs.map some
 | [],vs,h=>by cases h;rfl
 | x::r,vs,h=>by
  unfold jc at h
  split at h
  .
   rename_i v hv
   split at h
   .
    rename_i us hY
    cases h
    simp[hv,xd hY]
   cases h
  cases h
def wr (m:Int):Option Prop:=some (-9223372036854775808<=m/\m<=9223372036854775807)
def zli (o:BinOp) (m j:Int):Option (Option Prop × Value):=match o with
 | .add=>some (wr (m+j),.int .i64 (m+j))
 | .sub=>some (wr (m - j),.int .i64 (m - j))
 | .mul=>some (wr (m*j),.int .i64 (m*j))
 | .lss=>some (none,.bool (decide (m<j)))
 | .leq=>some (none,.bool (decide (m<=j)))
 | .gtr=>some (none,.bool (decide (j<m)))
 | .geq=>some (none,.bool (decide (j<=m)))
 | .eql=>some (none,.bool (decide (m=j)))
 | .neq=>some (none,.bool (decide (m ≠ j)))
 | _=>none
def zlj (o:BinOp) (m j:Int):Option (Option Prop × Value):=match o with
 | .eql=>some (none,.bool (decide (m=j)))
 | .neq=>some (none,.bool (decide (m ≠ j)))
 | .lss=>some (none,.bool (decide (m<j)))
 | .leq=>some (none,.bool (decide (m<=j)))
 | .gtr=>some (none,.bool (decide (j<m)))
 | .geq=>some (none,.bool (decide (j<=m)))
 | _=>none
def zlk (T:Tab) (t:TypeId) (o:BinOp) (p q:Bool):Option (Option Prop × Value):=match zii T t with
 | some .bool=>(match o with
  | .eql=>some (none,.bool (decide (p=q)))
  | .neq=>some (none,.bool (decide (p ≠ q)))
  | _=>none)
 | _=>none
def pv (T:Tab) (env:Env):Op->Option (Option Prop × Value)
 | .move x=>(match ev env x with
  | some v=>some (none,v)
  | none=>none)
 | .assign x=>(match ev env x with
  | some v=>some (none,v)
  | none=>none)
 | .pick c x y=>(match ev env c with
  | some (.bool true)=>(match ev env x with
   | some v=>some (none,v)
   | none=>none)
  | some (.bool false)=>(match ev env y with
   | some v=>some (none,v)
   | none=>none)
  | _=>none)
 | .nilCheck x=>(match ev env x with
  | some (.pointer (some a))=>some (none,.pointer (some a))
  | some (.func (.func f) fs cs)=>some (none,.func (.func f) fs cs)
  | _=>none)
 | .extract x i=>(match ev env x with
  | some (.tuple ⟨l⟩)=>(match nth l i with
   | some v=>some (none,v)
   | none=>none)
  | _=>none)
 | .binOp o t x y _=>(match ev env x with
  | some (.int .i64 m)=>(match ev env y with
   | some (.int .i64 j)=>zli o m j
   | _=>none)
  | some (.int .u8 m)=>(match ev env y with
   | some (.int .u8 j)=>zlj o m j
   | _=>none)
  | some (.bool p)=>(match ev env y with
   | some (.bool q)=>zlk T t o p q
   | _=>none)
  | some (.string a)=>(match ev env y with
   | some (.string b)=>(match o with
    | .eql=>some (none,.bool (decide (a.toList=b.toList)))
    | .neq=>some (none,.bool (decide (a.toList ≠ b.toList)))
    | _=>none)
   | _=>none)
  | _=>none)
 | .unOp .not _ x=>(match ev env x with
  | some (.bool true)=>some (none,.bool false)
  | some (.bool false)=>some (none,.bool true)
  | _=>none)
 | .unOp .neg _ x=>(match ev env x with
  | some (.int .i64 m)=>some (wr (-m),.int .i64 (-m))
  | _=>none)
 | .fieldAddr s x f=>(match zii T s with
  | some (.st offs)=>(match nth offs f with
   | some off=>(match ev env x with
    | some (.pointer (some ⟨b,o,none⟩))=>some (none,.pointer (some ⟨b,o+off,none⟩))
    | _=>none)
   | none=>none)
  | _=>none)
 | .indexAddr t x y=>(match zii T t with
  | some (.sl _ k)=>(match ev env x with
   | some (.slice (some ⟨b,o,none⟩) l _)=>(match ev env y with
    | some (.int _ i)=>some (some (0<=i/\i<(l:Int)),.pointer (some ⟨b,o+i.toNat*k,none⟩))
    | _=>none)
   | _=>none)
  | some (.ar n k)=>(match ev env x with
   | some (.pointer (some ⟨b,o,none⟩))=>(match y with
    | .const (.int _ i)=>(match decide (0<=i/\i<(n:Int)) with
     | true=>some (none,.pointer (some ⟨b,o+i.toNat*k,none⟩))
     | false=>none)
    | .tmp j=>(match get env j with
     | some (.int _ i)=>some (some (0<=i/\i<(n:Int)),.pointer (some ⟨b,o+i.toNat*k,none⟩))
     | _=>none)
    | _=>none)
   | _=>none)
  | _=>none)
 | .makeFunc fn first captured=>(match jc env first.toList with
  | some fs=>(match jc env captured.toList with
   | some cs=>some (none,.func fn fs.toArray cs.toArray)
   | none=>none)
  | none=>none)
 | .call ⟨.builtin .len,⟨[x]⟩,⟨[t]⟩⟩=>(match zii T t with
  | some (.sl _ _)=>(match ev env x with
   | some (.slice _ l _)=>some (none,.int .i64 l)
   | _=>none)
  | some .str=>(match ev env x with
   | some (.string s)=>some (none,.int .i64 s.size)
   | _=>none)
  | _=>none)
 | .call ⟨.builtin .max,⟨[x,y]⟩,⟨[_,_]⟩⟩=>(match ev env x with
  | some (.int .i64 m)=>(match ev env y with
   | some (.int .i64 j)=>some (none,.int .i64 (max m j))
   | _=>none)
  | _=>none)
 | .call ⟨.builtin .min,⟨[x,y]⟩,⟨[_,_]⟩⟩=>(match ev env x with
  | some (.int .i64 m)=>(match ev env y with
   | some (.int .i64 j)=>some (none,.int .i64 (min m j))
   | _=>none)
  | _=>none)
 | _=>none
def Ask:Option Prop->Prop
 | none=>True
 | some p=>p
section
variable {P:Program} {env:Env} {w:World} {dst:Option Tmp} {ty:TypeId} {pos:String} {aft:Array Edge} {g:Option (Nat × Bool)} {T:Tab} {ob:Option Prop} {v:Value}
theorem zjU {t t':TypeId} {x y:Operand} {o:BinOp} {m j:Int} (hx:ev env x=some (.int .i64 m)) (hy:ev env y=some (.int .i64 j)) (h:zli o m j=some (ob,v)) (ha:Ask ob):yA P ⟨dst,.binOp o t x y t',ty,pos,aft,g⟩ env w v w:=by
 cases o<;>simp only[zli,wr,Option.some.injEq,Prod.mk.injEq,reduceCtorEq]at h
 all_goals (obtain⟨rfl,rfl⟩:=h)
 . exact R.add hx hy (xY ha)
 . exact R.sub hx hy (xY ha)
 . exact R.mul hx hy (xY ha)
 all_goals first | exact R.eql hx hy | exact R.neq hx hy | exact R.lss hx hy | exact R.leq hx hy | exact R.gtr hx hy | exact R.geq hx hy
theorem zjV {t t':TypeId} {x y:Operand} {k:IntKind} {o:BinOp} {m j:Int} (hx:ev env x=some (.int k m)) (hy:ev env y=some (.int k j)) (h:zlj o m j=some (ob,v)):yA P ⟨dst,.binOp o t x y t',ty,pos,aft,g⟩ env w v w:=by
 cases o<;>simp only[zlj,Option.some.injEq,Prod.mk.injEq,reduceCtorEq]at h
 all_goals (obtain⟨rfl,rfl⟩:=h)
 all_goals first | exact R.eql hx hy | exact R.neq hx hy | exact R.lss hx hy | exact R.leq hx hy | exact R.gtr hx hy | exact R.geq hx hy
theorem zjW (hT:zn1 P T) {t t':TypeId} {x y:Operand} {o:BinOp} {p q:Bool} (hx:ev env x=some (.bool p)) (hy:ev env y=some (.bool q)) (h:zlk T t o p q=some (ob,v)):yA P ⟨dst,.binOp o t x y t',ty,pos,aft,g⟩ env w v w:=by
 unfold zlk at h
 split at h
 .
  rename_i ht
  have hb:P.underlying t=some .bool:=hT _ _ ht
  cases o<;>simp only[Option.some.injEq,Prod.mk.injEq,reduceCtorEq]at h
  all_goals (obtain⟨rfl,rfl⟩:=h)
  . exact zme hb hx hy
  exact zmf hb hx hy
 cases h
theorem zb4 (hT:zn1 P T) {op:Op} (h:pv T env op=some (ob,v)) (ha:Ask ob):yA P ⟨dst,op,ty,pos,aft,g⟩ env w v w:=by
 unfold pv at h
 split at h
 .
  split at h
  . rename_i hx;cases h;exact R.move hx
  cases h
 .
  split at h
  . rename_i hx;cases h;exact R.assign hx
  cases h
 .
  split at h
  .
   rename_i hc;split at h
   . rename_i hx;cases h;exact zmb hc rfl hx
   cases h
  .
   rename_i hc;split at h
   . rename_i hx;cases h;exact zmc hc rfl hx
   cases h
  cases h
 .
  split at h
  . rename_i hx;cases h;exact R.nilCheck hx
  . rename_i hx;cases h;exact zmd hx
  cases h
 .
  split at h
  .
   rename_i hx;split at h
   . rename_i hn;cases h;exact R.extract hx (by rw[kz]at hn;simpa using hn)
   cases h
  cases h
 .
  split at h
  .
   rename_i hx;split at h
   . rename_i hy;exact zjU hx hy h ha
   cases h
  .
   rename_i hx;split at h
   . rename_i hy;exact zjV hx hy h
   cases h
  .
   rename_i hx;split at h
   . rename_i hy;exact zjW hT hx hy h
   cases h
  .
   rename_i hx;split at h
   .
    rename_i hy;split at h
    . cases h;exact zmY hx hy
    . cases h;exact zmZ hx hy
    cases h
   cases h
  cases h
 .
  split at h
  . rename_i hx;cases h;exact R.not hx
  . rename_i hx;cases h;exact R.not hx
  cases h
 .
  split at h
  . rename_i hx;cases h;exact R.neg hx (xY ha)
  cases h
 .
  split at h
  .
   rename_i ht;split at h
   .
    rename_i hn;split at h
    .
     rename_i hx;cases h
     obtain⟨fields,hu,hf⟩:=hT _ _ ht
     rw[kz]at hn
     obtain⟨f,h1,rfl,m,h3⟩:=hf _ _ hn
     exact R.fieldAddr hu h1 h3 hx
    cases h
   cases h
  cases h
 .
  split at h
  .
   rename_i ht;split at h
   .
    rename_i hx;split at h
    .
     rename_i hy;cases h
     obtain⟨h1,h2⟩:=hT _ _ ht
     exact zmh h1 h2 hx hy O ha
    cases h
   cases h
  .
   rename_i ht;split at h
   .
    rename_i hx;split at h
    .
     split at h
     .
      rename_i hd;cases h
      obtain⟨e,h1,h2⟩:=hT _ _ ht
      exact zmi h1 h2 hx O (of_decide_eq_true hd)
     cases h
    .
     split at h
     .
      rename_i hy;cases h
      obtain⟨e,h1,h2⟩:=hT _ _ ht
      exact zmi h1 h2 hx hy ha
     cases h
    cases h
   cases h
  cases h
 .
  split at h
  .
   rename_i h1;split at h
   . rename_i h2;cases h;exact R.makeFunc (xd h1) (xd h2)
   cases h
  cases h
 .
  split at h
  .
   rename_i ht;split at h
   . rename_i hx;cases h;exact zmg rfl (hT _ _ ht).1 hx
   cases h
  .
   rename_i ht;split at h
   . rename_i hx;cases h;exact zmW rfl (hT _ _ ht) hx
   cases h
  cases h
 .
  split at h
  .
   rename_i hx;split at h
   . rename_i hy;cases h;exact zmU hx hy
   cases h
  cases h
 .
  split at h
  .
   rename_i hx;split at h
   . rename_i hy;cases h;exact zmV hx hy
   cases h
  cases h
 cases h
end
inductive Pos where
 | c (x:Code)
 | o (ops:Array Oper) (l:List Oper)
 | q (ops:Array Oper) (l:List Oper)
 | e (x:Exit)
inductive Fr where
 | s (y:Code)
 | b (id:Nat)
 | k (B:Act->World->Prop)
def QK (P:Program) (Q:Exit->Act->World->Prop):List Fr->Exit->Act->World->Prop
 | []=>Q
 | .s y::ks=>Exit.then (fun a w=>y.wp P (QK P Q ks) a w) (QK P Q ks)
 | .b id::ks=>Exit.inBlock id (QK P Q ks)
 | .k B::ks=>Exit.then B (QK P Q ks)
def G (P:Program) (n:Nat) (Q:Exit->Act->World->Prop) (ks:List Fr):Pos->Env->World->Prop
 | .c x,env,w=>WC P n x (QK P Q ks) env w
 | .o ops l,env,w=>WO P n ops (QK P Q ks) l env w
 | .q ops l,env,w=>WQ P n ops (QK P Q ks) w l env
 | .e x,env,w=>WX n x (QK P Q ks) env w
def gd (ops:Array Oper) (env:Env):Option (Nat × Bool)->Option Bool
 | none=>some true
 | some (j,b)=>match nth ops.toList j with
  | some ⟨some d,_,_,_,_,_⟩=>(match get env d with
   | some (.bool true)=>(match b with
    | true=>some true
    | false=>some false)
   | some (.bool false)=>(match b with
    | true=>some false
    | false=>some true)
   | some (.tuple ⟨[]⟩)=>some false
   | _=>none)
  | _=>none
def qZ (T:Tab) (n:Nat) (ks:List Fr) (env:Env):Pos->Option (Option Prop × List Fr × Pos × Env)
 | .c (.seq x y)=>some (none,.s y::ks,.c x,env)
 | .c (.block id x)=>some (none,.b id::ks,.c x,env)
 | .c .skip=>some (none,ks,.e .normal,env)
 | .c (.exit id)=>some (none,ks,.e (.exit id),env)
 | .c .ret=>some (none,ks,.e .ret,env)
 | .c (.region _ ops false)=>some (none,ks,.o ops ops.toList,env)
 | .c (.cond c x y)=>(match ev env c with
  | some (.bool true)=>some (none,ks,.c x,env)
  | some (.bool false)=>some (none,ks,.c y,env)
  | _=>none)
 | .e .normal=>(match ks with
  | .s y::ks=>some (none,ks,.c y,env)
  | .b _::ks=>some (none,ks,.e .normal,env)
  | _=>none)
 | .e .ret=>(match ks with
  | _::ks=>some (none,ks,.e .ret,env)
  | []=>none)
 | .e (.exit id)=>(match ks with
  | .b id'::ks=>(match Nat.beq id id' with
   | true=>some (none,ks,.e .normal,env)
   | false=>some (none,ks,.e (.exit id),env))
  | .s _::ks=>some (none,ks,.e (.exit id),env)
  | .k _::ks=>some (none,ks,.e (.exit id),env)
  | []=>none)
 | .o _ []=>some (none,ks,.e .normal,env)
 | .o ops (⟨some d,op,_,_,_,g⟩::r)=>(match Nat.blt d n with
  | true=>(match gd ops env g with
   | some true=>(match pv T env op with
    | some (ob,v)=>some (ob,ks,.o ops r,(d,v)::env)
    | none=>none)
   | some false=>some (none,ks,.o ops r,(d,undef)::env)
   | none=>none)
  | false=>none)
 | .q ops (⟨some d,op,_,_,_,g⟩::r)=>(match Nat.blt d n with
  | true=>(match gd ops env g with
   | some true=>(match pv T env op with
    | some (ob,v)=>some (ob,ks,.q ops r,(d,v)::env)
    | none=>none)
   | some false=>some (none,ks,.q ops r,(d,undef)::env)
   | none=>none)
  | false=>none)
 | _=>none
def zkM:Option Prop->Prop->Option Prop
 | none,p=>some p
 | some q,p=>some (q/\p)
def zdj (T:Tab) (n:Nat):Nat->Option Prop->List Fr->Pos->Env->Option (Option Prop × List Fr × Pos × Env)
 | 0,ob,ks,pos,env=>some (ob,ks,pos,env)
 | k+1,ob,ks,pos,env=>match qZ T n ks env pos with
  | some (none,ks',pos',env')=>zdj T n k ob ks' pos' env'
  | some (some p,ks',pos',env')=>zdj T n k (zkM ob p) ks' pos' env'
  | none=>none
section
variable {P:Program} {T:Tab} {n:Nat} {Q:Exit->Act->World->Prop} {ks ks':List Fr} {env env':Env} {w:World} {pos pos':Pos} {ob:Option Prop}
theorem qv {ops:Array Oper} {dst:Option Tmp} {op:Op} {ty:TypeId} {ps:String} {aft:Array Edge} {g:Option (Nat × Bool)} {x:Bool} (h:gd ops env g=some x):∀ a,Ok n env a->Region.wanted ⟨dst,op,ty,ps,aft,g⟩ (yielded ops a.tmps)=x:=by
 intro a ha
 unfold gd at h
 split at h
 . cases h;rfl
 rename_i j b
 split at h
 .
  rename_i d _ _ _ _ _ hj
  have hY:(ops[j]?).bind (·.dst)=some d:=by
   rw[kz]at hj
   have:ops[j]?=ops.toList[j]?:=by simp
   rw[this,hj];rfl
  split at h
  . rename_i hg;split at h<;>(cases h;exact zb3 ha rfl hY hg rfl)
  . rename_i hg;split at h<;>(cases h;exact zb3 ha rfl hY hg rfl)
  . rename_i hg;cases h;exact zdi ha rfl hY hg
  cases h
 cases h
theorem qG {ops:Array Oper} {Q:Exit->Act->World->Prop} {dst:Option Tmp} {op:Op} {ty:TypeId} {ps:String} {aft:Array Edge} {g:Option (Nat × Bool)} {r:List Oper} (hg:gd ops env g=some true) (h:WO P n ops Q (⟨dst,op,ty,ps,aft,none⟩::r) env w):WO P n ops Q (⟨dst,op,ty,ps,aft,g⟩::r) env w:=by
 intro a ha
 have h1:=h a ha
 unfold wpList at h1 ⊢
 rw[zpv (show Region.wanted ⟨dst,op,ty,ps,aft,none⟩ (yielded ops a.tmps)=true from rfl)]at h1
 rw[zpv (qv hg a ha)]
 exact h1
theorem zgE {ops:Array Oper} {Q:Exit->Act->World->Prop} {d:Nat} {op:Op} {ty:TypeId} {ps:String} {aft:Array Edge} {g:Option (Nat × Bool)} {r:List Oper} (hn:Nat.blt d n=true) (hg:gd ops env g=some false) (h:WO P n ops Q r ((d,undef)::env) w):WO P n ops Q (⟨some d,op,ty,ps,aft,g⟩::r) env w:=by
 intro a ha
 unfold wpList
 rw[zpu (by rw[qv hg a ha];simp)]
 exact h _ (ha.put hn)
theorem zf5 {ops:Array Oper} {Q:Exit->Act->World->Prop} {dst:Option Tmp} {op:Op} {ty:TypeId} {ps:String} {aft:Array Edge} {g:Option (Nat × Bool)} {r:List Oper} (hg:gd ops env g=some true) (h:WQ P n ops Q w (⟨dst,op,ty,ps,aft,none⟩::r) env):WQ P n ops Q w (⟨dst,op,ty,ps,aft,g⟩::r) env:=by
 intro a ha
 have h1:=h a ha
 unfold wpQuiet at h1 ⊢
 rw[zpv (show Region.wanted ⟨dst,op,ty,ps,aft,none⟩ (yielded ops a.tmps)=true from rfl)]at h1
 rw[zpv (qv hg a ha)]
 exact h1
theorem zgF {ops:Array Oper} {Q:Exit->Act->World->Prop} {d:Nat} {op:Op} {ty:TypeId} {ps:String} {aft:Array Edge} {g:Option (Nat × Bool)} {r:List Oper} (hn:Nat.blt d n=true) (hg:gd ops env g=some false) (h:WQ P n ops Q w r ((d,undef)::env)):WQ P n ops Q w (⟨some d,op,ty,ps,aft,g⟩::r) env:=by
 intro a ha
 unfold wpQuiet
 rw[zpu (by rw[qv hg a ha];simp)]
 exact h _ (ha.put hn)
theorem zaK (hT:zn1 P T) (h:qZ T n ks env pos=some (ob,ks',pos',env')) (ha:Ask ob) (hr:G P n Q ks' pos' env' w):G P n Q ks pos env w:=by
 unfold qZ at h
 split at h
 . cases h;exact WC.seq hr
 . cases h;exact WC.block hr
 . cases h;exact WC.skip hr
 . cases h;exact WC.exit hr
 . cases h;exact WC.ret hr
 .
  rename_i id ops
  cases h
  have:G P n Q ks (.c (.region id ops.toList.toArray false)) env w:=WC.region hr
  simpa using this
 .
  split at h
  . rename_i hc;cases h;exact zlH hc rfl hr
  . rename_i hc;cases h;exact zlI hc rfl hr
  cases h
 .
  split at h
  . cases h;exact WX.next hr
  . cases h;exact zlL hr
  cases h
 .
  split at h
  .
   rename_i f _
   cases h
   cases f
   . exact zlK hr
   . exact zlM hr
   exact zlK hr
  cases h
 .
  split at h
  .
   split at h
   .
    rename_i hb;cases h
    have:=zpr hb
    subst this
    exact zlN hr
   rename_i hb;cases h;exact zlO hb hr
  . cases h;exact zlJ hr
  . cases h;exact zlJ hr
  cases h
 . cases h;exact WO.nil hr
 .
  split at h
  .
   rename_i hn;split at h
   .
    rename_i hg;split at h
    . rename_i hv;cases h;exact qG hg (WO.op rfl rfl hn (zb4 hT hv ha) hr)
    cases h
   . rename_i hg;cases h;exact zgE hn hg hr
   cases h
  cases h
 .
  split at h
  .
   rename_i hn;split at h
   .
    rename_i hg;split at h
    . rename_i hv;cases h;exact zf5 hg (WQ.op rfl rfl hn (fun _ _=>zb4 hT hv ha) hr)
    cases h
   . rename_i hg;cases h;exact zgF hn hg hr
   cases h
  cases h
 cases h
theorem Ask.of_and {ob:Option Prop} {p:Prop} (h:Ask (zkM ob p)):Ask ob/\p:=by
 cases ob with
 | none=>exact⟨trivial,h⟩
 | some q=>exact h
theorem zaL (hT:zn1 P T):∀ (k:Nat) (ob ob':Option Prop) (ks:List Fr) (pos:Pos) (env:Env),zdj T n k ob ks pos env=some (ob',ks',pos',env')->Ask ob'->Ask ob/\(G P n Q ks' pos' env' w->G P n Q ks pos env w)
 | 0,ob,ob',ks,pos,env,h,ha=>by cases h;exact⟨ha,fun h=>h⟩
 | k+1,ob,ob',ks,pos,env,h,ha=>by
  unfold zdj at h
  split at h
  .
   rename_i h1
   obtain⟨h2,h3⟩:=zaL hT k _ _ _ _ _ h ha
   exact⟨h2,fun hr=>zaK hT h1 trivial (h3 hr)⟩
  .
   rename_i h1
   obtain⟨h2,h3⟩:=zaL hT k _ _ _ _ _ h ha
   obtain⟨h4,h5⟩:=h2.of_and
   exact⟨h4,fun hr=>zaK hT h1 h5 (h3 hr)⟩
  cases h
theorem G.go (hT:zn1 P T) (k:Nat) (h:zdj T n k none ks pos env=some (none,ks',pos',env')) (hr:G P n Q ks' pos' env' w):G P n Q ks pos env w:=(zaL hT k _ _ _ _ _ h trivial).2 hr
theorem G.goA (hT:zn1 P T) (k:Nat) {p:Prop} (h:zdj T n k none ks pos env=some (some p,ks',pos',env')) (hp:p) (hr:G P n Q ks' pos' env' w):G P n Q ks pos env w:=(zaL hT k _ _ _ _ _ h hp).2 hr
end
theorem Sub.of {env' env:Env} (h:env'.map (fun p=>get env p.1)=env'.map (fun p=>some p.2)):Sub env' env:=by
 induction env' with
 | nil=>exact Sub.nil
 | cons p r ih =>
  obtain⟨k,u⟩:=p
  simp only[zr5,List.cons.injEq]at h
  exact Sub.cons h.1 (ih h.2)
section
variable {P:Program} {T:Tab} {n:Nat} {Q:Exit->Act->World->Prop} {ks ks':List Fr} {env env':Env} {w w':World} {pos pos':Pos} {ob:Option Prop} {ops:Array Oper} {rest:List Oper} {v:Value}
theorem G.sub (hs:Sub env' env) (h:G P n Q ks pos env' w):G P n Q ks pos env w:=by
 cases pos
 . exact WC.sub hs h
 . exact WO.sub hs h
 . exact WQ.sub hs h
 exact WX.sub hs h
theorem Sub.lit {d:Nat} {v:Value} (h:get env d=some v):Sub ((d,v)::env) env:=Sub.cons h (fun _ _ h=>h)
theorem G.sp (d:Nat) {p:Prop} [Decidable p] (h:get env d=some (.bool (decide p))) (h1:p->G P n Q ks pos ((d,.bool true)::env) w) (h2:¬ p->G P n Q ks pos ((d,.bool false)::env) w):G P n Q ks pos env w:=by
 by_cases hp:p
 . exact G.sub (Sub.lit (by rw[h,zpw hp])) (h1 hp)
 exact G.sub (Sub.lit (by rw[h,zpx hp])) (h2 hp)
theorem zn8 (d:Nat) {b:Bool} (h:get env d=some (.bool b)) (h1:b=true->G P n Q ks pos ((d,.bool true)::env) w) (h2:b=false->G P n Q ks pos ((d,.bool false)::env) w):G P n Q ks pos env w:=by
 cases b
 . exact G.sub (Sub.lit h) (h2 O)
 exact G.sub (Sub.lit h) (h1 O)
theorem zlF {t:Nat} {x y:Code} {p:Prop} [Decidable p] (h:get env t=some (.bool (decide p))) (h1:p->G P n Q ks (.c x) ((t,.bool true)::env) w) (h2:¬ p->G P n Q ks (.c y) ((t,.bool false)::env) w):G P n Q ks (.c (.cond (.tmp t) x y)) env w :=
 zlE (c:=.tmp t) (x:=x) (y:=y) h (fun hp=>G.sub (pos:=.c x) (Sub.lit (by rw[h,zpw hp])) (h1 hp)) (fun hp=>G.sub (pos:=.c y) (Sub.lit (by rw[h,zpx hp])) (h2 hp))
theorem G.bool {t:Nat} {x y:Code} {b:Bool} (h:get env t=some (.bool b)) (h1:b=true->G P n Q ks (.c x) ((t,.bool true)::env) w) (h2:b=false->G P n Q ks (.c y) ((t,.bool false)::env) w):G P n Q ks (.c (.cond (.tmp t) x y)) env w :=
 WC.bool (c:=.tmp t) (x:=x) (y:=y) h (fun hp=>G.sub (pos:=.c x) (Sub.lit (by rw[h,hp])) (h1 hp)) (fun hp=>G.sub (pos:=.c y) (Sub.lit (by rw[h,hp])) (h2 hp))
theorem zn9 {c:Operand} {x y:Code} {p:Prop} [Decidable p] (h:ev env c=some (.bool (decide p))) (h1:p->G P n Q ks (.c x) env w) (h2:¬ p->G P n Q ks (.c y) env w):G P n Q ks (.c (.cond c x y)) env w:=zlE h h1 h2
theorem G.tt {c:Operand} {x y:Code} {b:Bool} (h:ev env c=some (.bool b)) (hb:b=true) (h1:G P n Q ks (.c x) env w):G P n Q ks (.c (.cond c x y)) env w:=zlH h hb h1
theorem G.ff {c:Operand} {x y:Code} {b:Bool} (h:ev env c=some (.bool b)) (hb:b=false) (h1:G P n Q ks (.c y) env w):G P n Q ks (.c (.cond c x y)) env w:=zlI h hb h1
section
variable {d:Nat} {op:Op} {ty:TypeId} {ps:String} {aft:Array Edge} {g:Option (Nat × Bool)}
theorem zna (hn:Nat.blt d n=true) (hg:gd ops env g=some true) (hr:yA P ⟨some d,op,ty,ps,aft,none⟩ env w v w') (h:G P n Q ks (.o ops rest) ((d,v)::env) w'):G P n Q ks (.o ops (⟨some d,op,ty,ps,aft,g⟩::rest)) env w :=
 qG hg (WO.op rfl rfl hn hr h)
theorem znd (hn:Nat.blt d n=true) (hg:gd ops env g=some true) (hr:∀ w',Ext w w'->yA P ⟨some d,op,ty,ps,aft,none⟩ env w' v w') (h:G P n Q ks (.q ops rest) ((d,v)::env) w):G P n Q ks (.q ops (⟨some d,op,ty,ps,aft,g⟩::rest)) env w :=
 zf5 hg (WQ.op rfl rfl hn hr h)
theorem zmr {R:Value->World->Prop} (hn:Nat.blt d n=true) (hg:gd ops env g=some true) (hr:yH P ⟨some d,op,ty,ps,aft,none⟩ env w R) (h:∀ v w',R v w'->G P n Q ks (.o ops rest) ((d,v)::env) w'):G P n Q ks (.o ops (⟨some d,op,ty,ps,aft,g⟩::rest)) env w :=
 qG hg (zmp rfl rfl hn hr h)
theorem zmt {R:Value->World->Prop} (hg:gd ops env g=some true) (hr:yH P ⟨none,op,ty,ps,aft,none⟩ env w R) (h:∀ v w',R v w'->G P n Q ks (.o ops rest) env w'):G P n Q ks (.o ops (⟨none,op,ty,ps,aft,g⟩::rest)) env w :=
 qG hg (zms rfl rfl hr h)
theorem zmw {R:World->Prop} (hg:gd ops env g=some true) (hr:xZ P ⟨none,op,ty,ps,aft,none⟩ env w R) (h:∀ w',R w'->G P n Q ks (.o ops rest) env w'):G P n Q ks (.o ops (⟨none,op,ty,ps,aft,g⟩::rest)) env w :=
 qG hg (zmu rfl rfl hr h)
theorem zne {t:TypeId} {x:Operand} {a0:Addr} (hn:(Nat.blt d n,gd ops env g,ev env x)=(true,some true,some (.pointer (some a0)))) (ht:∀ w,(isAgg t).run P w=.ok false w) (hc:w.cell? a0=some v) (h:G P n Q ks (.o ops rest) ((d,v)::env) w):G P n Q ks (.o ops (⟨some d,.load t x,ty,ps,aft,g⟩::rest)) env w:=by
 simp only[Prod.mk.injEq]at hn
 exact zna hn.1 hn.2.1 (R.load ht hn.2.2 hc) h
theorem znf {t:TypeId} {x:Operand} {a0:Addr} (hn:(Nat.blt d n,gd ops env g,ev env x)=(true,some true,some (.pointer (some a0)))) (ht:∀ w,(isAgg t).run P w=.ok false w) (hc:∀ w1,Ext w w1->w1.cell? a0=some v) (h:G P n Q ks (.q ops rest) ((d,v)::env) w):G P n Q ks (.q ops (⟨some d,.load t x,ty,ps,aft,g⟩::rest)) env w:=by
 simp only[Prod.mk.injEq]at hn
 exact znd hn.1 hn.2.1 (fun w1 hw=>R.load ht hn.2.2 (hc w1 hw)) h
theorem zng {t:TypeId} {x:Operand} {b o k:Nat} {cs:List Value} (hn:(Nat.blt d n,gd ops env g,ev env x)=(true,some true,some (.pointer (some ⟨b,o,none⟩)))) (ht:∀ w,(isAgg t).run P w=.ok true w) (hs:∀ w,(sizeOf t).run P w=.ok k w) (hc:Cells w b o cs) (hl:cs.length=k) (h:G P n Q ks (.o ops rest) ((d,.agg cs.toArray)::env) w):G P n Q ks (.o ops (⟨some d,.load t x,ty,ps,aft,g⟩::rest)) env w:=by
 simp only[Prod.mk.injEq]at hn
 exact zna hn.1 hn.2.1 (zmj ht hs hn.2.2 hl hc) h
theorem G.call {f:FuncId} {xs:Array Operand} {ts:Array TypeId} {vs:List Value} {R:Value->World->Prop} (hn:(Nat.blt d n,gd ops env g,jc env xs.toList)=(true,some true,some vs)) (hf:∀ args w,(callFunc f args).run P w=.ok (.enter f args) w)
  (hc:Calls P f vs.toArray w (Ret R)) (h:∀ v w',R v w'->G P n Q ks (.o ops rest) ((d,v)::env) w'):G P n Q ks (.o ops (⟨some d,.call ⟨.value (.func f),xs,ts⟩,ty,ps,aft,g⟩::rest)) env w:=by
 simp only[Prod.mk.injEq]at hn
 exact qG hn.2.1 (WO.call O O hn.1 (F.call hf (xd hn.2.2)) hc h)
theorem zmo {f:FuncId} {x:Operand} {fs cs:List Value} {xs:Array Operand} {ts:Array TypeId} {vs:List Value} {R:Value->World->Prop} (hn:(Nat.blt d n,gd ops env g,jc env xs.toList,ev env x)=(true,some true,some vs,some (.func (.func f) fs.toArray cs.toArray))) (hf:∀ args w,(callFunc f args).run P w=.ok (.enter f args) w)
  (hc:Calls P f (fs++vs++cs).toArray w (Ret R)) (h:∀ v w',R v w'->G P n Q ks (.o ops rest) ((d,v)::env) w'):G P n Q ks (.o ops (⟨some d,.call ⟨.value x,xs,ts⟩,ty,ps,aft,g⟩::rest)) env w:=by
 simp only[Prod.mk.injEq]at hn
 exact qG hn.2.1 (WO.call O O hn.1 (zmn hf hn.2.2.2 (xd hn.2.2.1)) hc h)
end
theorem znh (h:∀ w',Ext w w'->G P n Q ks (.e .normal) env w'):G P n Q ks (.q ops []) env w:=WQ.nil h
theorem zmD {id:Nat} {l:List Oper} (hm:P.follows .mixedOrders=true) (hB:Region.lexB .any l.toArray=true) (h:G P n Q ks (.q l.toArray l) env w):G P n Q ks (.c (.region id l.toArray true)) env w:=zmC hm hB h
theorem zmG {id:Nat} {l:List Oper} (S:World->Prop) (L:List Nat) (hm:P.follows .mixedOrders=true) (h:∀ w',Ext w w'->w'.heap=w.heap->WD P n l.toArray (QK P Q ks) S L l.length (Array.replicate l.length false) env w'):G P n Q ks (.c (.region id l.toArray true)) env w:=zmF S L hm h
theorem G.done {S:World->Prop} {L:List Nat} {listed:Array Bool} (hr:Region.ready .any ops listed=[]) (h:G P n Q ks (.e .normal) env w):∀ fuel,WD P n ops (QK P Q ks) S L fuel listed env w:=WD.done hr h
theorem G.loop {σ:Type} (env':σ->Env) (I:σ->World->Prop) (μ:σ->Nat) {c:Code} (s₀:σ) (h₀:Sub (env' s₀) env) (hI:I s₀ w)
  (h:∀ s w',I s w'->G P n Q (.k (zjS n env' I μ (μ s))::ks) (.c c) (env' s) w'):G P n Q ks (.c (.loop c)) env w:=WC.loop env' I μ s₀ h₀ hI h
theorem G.back {σ:Type} {env':σ->Env} {I:σ->World->Prop} {μ:σ->Nat} {m:Nat} (s:σ) (h0:Sub (env' s) env) (hI:I s w) (hm:μ s<m):G P n Q (.k (zjS n env' I μ m)::ks) (.e .normal) env w:=WX.back s h0 hI hm
theorem zlQ {σ:Type} (env':σ->Env) (I:σ->World->Prop) {c:Code} (h:G P n Q (.k (zjT n env' I)::ks) (.c c) env w) (hk:∀ s w',I s w'->G P n Q ks (.e .normal) (env' s) w'):G P n Q ks (.c c) env w:=zlP env' I h hk
theorem zlS {σ:Type} {env':σ->Env} {I:σ->World->Prop} (s:σ) (h0:Sub (env' s) env) (hI:I s w):G P n Q (.k (zjT n env' I)::ks) (.e .normal) env w:=zlR s h0 hI
end
section
variable {P:Program} {f:FuncId} {fn:Func} {c:Code} {w:World} {R:Ending->World->Prop} {n:Nat} {env:Env}
theorem G.calls {args:Array Value} (hf:P.funcs[f]?=some fn) (hb:fn.body=some c) (env:Env) (n:Nat) (hn:args.size<=n/\fn.ntmps=n) (hY:∀ k v,get env k=some v->args[k]?=some v) (h:G P n (bodyPost P fn R) [] (.c c) env w):Calls P f args w R:=Go.GL.calls hf hb env n hn hY h
theorem zni {vs:List Value} (hf:P.funcs[f]?=some fn) (hb:fn.body=some c) (hn:fn.ntmps=n) (hl:Nat.ble vs.length n=true) (h:G P n (bodyPost P fn R) [] (.c c) ((List.range vs.length).zip vs) w):Calls P f vs.toArray w R:=calls hf hb _ n ⟨by simpa using Nat.le_of_ble_eq_true hl,hn⟩ (zkK (fun _ _ h=>h)) h
theorem znj (hf:P.funcs[f]?=some fn) (hb:fn.body=some c) (hn:fn.ntmps=n) (h:G P n (bodyPost P fn R) [] (.c c) [] w):Calls P f #[] w R:=zni (vs:=[]) hf hb hn (by cases n<;>rfl) h
theorem znk {a1:Value} (hf:P.funcs[f]?=some fn) (hb:fn.body=some c) (hn:fn.ntmps=n) (hl:Nat.ble 1 n=true) (h:G P n (bodyPost P fn R) [] (.c c) [(0,a1)] w):Calls P f #[a1] w R:=zni (vs:=[a1]) hf hb hn hl h
theorem znl {a1 a2:Value} (hf:P.funcs[f]?=some fn) (hb:fn.body=some c) (hn:fn.ntmps=n) (hl:Nat.ble 2 n=true) (h:G P n (bodyPost P fn R) [] (.c c) [(0,a1),(1,a2)] w):Calls P f #[a1,a2] w R:=zni (vs:=[a1,a2]) hf hb hn hl h
theorem znm {a1 a2 a3:Value} (hf:P.funcs[f]?=some fn) (hb:fn.body=some c) (hn:fn.ntmps=n) (hl:Nat.ble 3 n=true) (h:G P n (bodyPost P fn R) [] (.c c) [(0,a1),(1,a2),(2,a3)] w):Calls P f #[a1,a2,a3] w R:=zni (vs:=[a1,a2,a3]) hf hb hn hl h
theorem znn {a1 a2 a3 a4:Value} (hf:P.funcs[f]?=some fn) (hb:fn.body=some c) (hn:fn.ntmps=n) (hl:Nat.ble 4 n=true) (h:G P n (bodyPost P fn R) [] (.c c) [(0,a1),(1,a2),(2,a3),(3,a4)] w):Calls P f #[a1,a2,a3,a4] w R:=zni (vs:=[a1,a2,a3,a4]) hf hb hn hl h
theorem G.in5 {a1 a2 a3 a4 a5:Value} (hf:P.funcs[f]?=some fn) (hb:fn.body=some c) (hn:fn.ntmps=n) (hl:Nat.ble 5 n=true) (h:G P n (bodyPost P fn R) [] (.c c) [(0,a1),(1,a2),(2,a3),(3,a4),(4,a5)] w):Calls P f #[a1,a2,a3,a4,a5] w R:=zni (vs:=[a1,a2,a3,a4,a5]) hf hb hn hl h
theorem zlV {t:Tmp} {v:Value} (h:fn.results=#[.tmp t]) (hv:get env t=some v) (hR:R (.returned v) w):G P n (bodyPost P fn R) [] (.e .ret) env w:=zlU h hv hR
theorem zlY {t u:Tmp} {v x:Value} (h:fn.results=#[.tmp t,.tmp u]) (hv:get env t=some v) (hx:get env u=some x) (hR:R (.returned (.tuple #[v,x])) w):G P n (bodyPost P fn R) [] (.e .ret) env w:=zlX h hv hx hR
theorem zm1 {t u s:Tmp} {v x y:Value} (h:fn.results=#[.tmp t,.tmp u,.tmp s]) (hv:get env t=some v) (hx:get env u=some x) (hy:get env s=some y) (hR:R (.returned (.tuple #[v,x,y])) w):G P n (bodyPost P fn R) [] (.e .ret) env w:=zm0 h hv hx hy hR
theorem zm3 {p:Tmp} {ty:TypeId} {a0:Addr} {v:Value} (h:fn.results=#[.cell p ty]) (hp:get env p=some (.pointer (some a0))) (hl:(loadVar ty a0).run P w=.ok v w) (hR:R (.returned v) w):G P n (bodyPost P fn R) [] (.e .ret) env w:=zm2 h hp hl hR
theorem zm6 {p t:Tmp} {ty:TypeId} {a0:Addr} {v x:Value} (h:fn.results=#[.cell p ty,.tmp t]) (hp:get env p=some (.pointer (some a0))) (hl:(loadVar ty a0).run P w=.ok v w) (hx:get env t=some x) (hR:R (.returned (.tuple #[v,x])) w):G P n (bodyPost P fn R) [] (.e .ret) env w:=zm5 h hp hl hx hR
theorem zm9 (h:fn.results=#[]) (hR:R (.returned (.tuple #[])) w):G P n (bodyPost P fn R) [] (.e .normal) env w:=zm8 h hR
end
def addN:List Nat->Nat->Nat
 | [],f=>f
 | _::r,f=>addN r f+1
def zdk:List Nat->Array Bool->Array Bool
 | [],l=>l
 | i::r,l=>zdk r (l.setIfInBounds i true)
def zf6 (ops:Array Oper):List Nat->Array Bool->Bool
 | [],_=>true
 | i::r,listed=>Region.noSelect ops&&Region.free .any ops listed i&&(Region.ready .any ops listed).contains i&&zf6 ops r (listed.setIfInBounds i true)
def dpv (T:Tab) (n:Nat) (ops:Array Oper):List Nat->Option Prop->Env->Option (Option Prop × Env)
 | [],ob,env=>some (ob,env)
 | i::r,ob,env=>match nth ops.toList i with
  | some ⟨some d,op,_,_,_,g⟩=>(match Nat.blt d n with
   | true=>(match gd ops env g with
    | some true=>(match pv T env op with
     | some (none,v)=>dpv T n ops r ob ((d,v)::env)
     | some (some p,v)=>dpv T n ops r (zkM ob p) ((d,v)::env)
     | none=>none)
    | some false=>dpv T n ops r ob ((d,undef)::env)
    | none=>none)
   | false=>none)
  | _=>none
section
variable {P:Program} {T:Tab} {n:Nat} {ops:Array Oper} {Q:Exit->Act->World->Prop} {S:World->Prop} {L:List Nat} {env env':Env} {w:World} {fuel:Nat} {listed:Array Bool} {v:Value} {o:Oper}
theorem zno (i:Nat) {d:Nat} (hi:ops[i]?=some o) (hs:(Region.noSelect ops&&Region.free .any ops listed i&&(Region.ready .any ops listed).contains i)=true) (hd:o.dst=some d) (hn:Nat.blt d n=true)
  (hr:(∀ a,Ok n env a->Region.wanted o (yielded ops a.tmps)=true)/\(∀ w',yA P o env w' v w')\/(∀ a,Ok n env a->Region.wanted o (yielded ops a.tmps)=false)/\v=undef) (h:WD P n ops Q S L fuel (listed.setIfInBounds i true) ((d,v)::env) w):WD P n ops Q S L (fuel+1) listed env w:=by
 intro a ha
 simp only[zpW]at hs
 obtain⟨⟨h1,h2⟩,h3⟩:=hs
 refine kq hi (Region.noSelect_spec h1) (fun _ _ _ h=>h) fuel listed a w (Region.free_spec hi h2) (by simpa using h3) (v:=v) ?_ ?_
 .
  rcases hr with⟨h6,h7⟩ | ⟨h6,h7⟩
  . exact .inl ⟨h6 a ha,fun w' _=>h7 w' n a ha⟩
  exact .inr ⟨h6 a ha,h7⟩
 rw[hd];exact h _ (ha.put hn)
theorem znp (hT:zn1 P T):∀ (is:List Nat) (ob ob':Option Prop) (listed:Array Bool) (env:Env),zf6 ops is listed=true->dpv T n ops is ob env=some (ob',env')->Ask ob'->Ask ob/\(WD P n ops Q S L fuel (zdk is listed) env' w->WD P n ops Q S L (addN is fuel) listed env w)
 | [],ob,ob',listed,env,_,h,ha=>by cases h;exact⟨ha,fun h=>h⟩
 | i::r,ob,ob',listed,env,hc,h,ha=>by
  unfold zf6 at hc
  rw[zpW]at hc
  unfold dpv at h
  split at h
  .
   rename_i hj
   have hi:=hj
   rw[kz]at hi
   split at h
   .
    rename_i hn;split at h
    .
     rename_i hg;split at h
     .
      rename_i hv
      obtain⟨h2,h3⟩:=znp hT r _ _ _ _ hc.2 h ha
      exact⟨h2,fun hr=>zno i (by simpa using hi) hc.1 O hn (.inl ⟨qv hg,fun _ n a ha=>by have:=zb4 (dst:=none) (ty:=0) (pos := "") (aft:=#[]) (g:=none) (w:=w) hT hv trivial;exact zb4 hT hv trivial n a ha⟩) (h3 hr)⟩
     .
      rename_i hv
      obtain⟨h2,h3⟩:=znp hT r _ _ _ _ hc.2 h ha
      obtain⟨h4,h5⟩:=h2.of_and
      exact⟨h4,fun hr=>zno i (by simpa using hi) hc.1 O hn (.inl ⟨qv hg,fun _ n a ha=>zb4 hT hv h5 n a ha⟩) (h3 hr)⟩
     cases h
    .
     rename_i hg
     obtain⟨h2,h3⟩:=znp hT r _ _ _ _ hc.2 h ha
     exact⟨h2,fun hr=>zno i (by simpa using hi) hc.1 O hn (.inr ⟨qv hg,rfl⟩) (h3 hr)⟩
    cases h
   cases h
  cases h
theorem WD.ps (hT:zn1 P T) (is:List Nat) (hc:zf6 ops is listed=true) (hv:dpv T n ops is none env=some (none,env')) (h:WD P n ops Q S L fuel (zdk is listed) env' w):WD P n ops Q S L (addN is fuel) listed env w:=(znp hT is _ _ _ _ hc hv trivial).2 h
theorem zns (hT:zn1 P T) (is:List Nat) {p:Prop} (hc:zf6 ops is listed=true) (hv:dpv T n ops is none env=some (some p,env')) (hp:p) (h:WD P n ops Q S L fuel (zdk is listed) env' w):WD P n ops Q S L (addN is fuel) listed env w:=(znp hT is _ _ _ _ hc hv hp).2 h
theorem WD.sp (d:Nat) {p:Prop} [Decidable p] (h:get env d=some (.bool (decide p))) (h1:p->WD P n ops Q S L fuel listed ((d,.bool true)::env) w) (h2:¬ p->WD P n ops Q S L fuel listed ((d,.bool false)::env) w):WD P n ops Q S L fuel listed env w:=by
 by_cases hp:p
 . exact WD.sub (Sub.lit (by rw[h,zpw hp])) (h1 hp)
 exact WD.sub (Sub.lit (by rw[h,zpx hp])) (h2 hp)
theorem WD.sb (d:Nat) {b:Bool} (h:get env d=some (.bool b)) (h1:b=true->WD P n ops Q S L fuel listed ((d,.bool true)::env) w) (h2:b=false->WD P n ops Q S L fuel listed ((d,.bool false)::env) w):WD P n ops Q S L fuel listed env w:=by
 cases b
 . exact WD.sub (Sub.lit h) (h2 O)
 exact WD.sub (Sub.lit h) (h1 O)
end
class StC {α:Type} (R:Rel α):Prop where
 s:zR R
instance:StC zC:=⟨zb⟩
instance:StC zb1:=⟨zew⟩
instance {α:Type} {k:Nat} {R:Rel α} [h:StC R]:StC (RSl k R):=⟨qz h.s⟩
class Tr (p:Prop) (w w':World) (q:outParam Prop):Prop where
 t:p->Ext w w'->q
section
variable {w w':World}
instance {S:Nat->Prop} {w0:World}:Tr (Keep S w0 w) w w' (Keep S w0 w'):=⟨fun h hk=>h.ext hk⟩
instance {b:Nat} {cs:List Value} {e:TypeId}:Tr (Blk w b cs e) w w' (Blk w' b cs e):=⟨fun h hk=>hk.blk h (fun h=>h)⟩
instance {b o:Nat} {cs:List Value}:Tr (Cells w b o cs) w w' (Cells w' b o cs):=⟨fun h hk=>hk.cells h (fun h=>h)⟩
instance {α:Type} {k:Nat} {R:Rel α} {D:Nat->Prop} {v:Value} {l:List α} [h:StC R]:Tr (SlR k R D w v l) w w' (SlR k R D w' v l):=⟨fun h' hk=>h'.ext h.s hk⟩
instance {e:TypeId} {k:Nat} {v:Value} {n:Nat} {xs:List Value}:Tr (w.ownsRow 0 e k v n xs) w w' (w'.ownsRow 0 e k v n xs):=⟨fun h hk=>zm h hk (fun _ _ h=>h)⟩
variable {a b c d e f g a' b' c' d' e' f' g':Prop}
theorem Tr1 (x:Ext w w') (ha:a) [Tr a w w' a']:a':=Tr.t ha x
theorem Tr2 (x:Ext w w') (ha:a) (hb:b) [Tr a w w' a'] [Tr b w w' b']:a'/\b':=⟨Tr.t ha x,Tr.t hb x⟩
theorem Tr3 (x:Ext w w') (ha:a) (hb:b) (hc:c) [Tr a w w' a'] [Tr b w w' b'] [Tr c w w' c']:a'/\b'/\c':=⟨Tr.t ha x,Tr2 x hb hc⟩
theorem Tr4 (x:Ext w w') (ha:a) (hb:b) (hc:c) (hd:d) [Tr a w w' a'] [Tr b w w' b'] [Tr c w w' c'] [Tr d w w' d']:a'/\b'/\c'/\d':=⟨Tr.t ha x,Tr3 x hb hc hd⟩
theorem Tr5 (x:Ext w w') (ha:a) (hb:b) (hc:c) (hd:d) (he:e) [Tr a w w' a'] [Tr b w w' b'] [Tr c w w' c'] [Tr d w w' d'] [Tr e w w' e']:a'/\b'/\c'/\d'/\e':=⟨Tr.t ha x,Tr4 x hb hc hd he⟩
theorem Tr6 (x:Ext w w') (ha:a) (hb:b) (hc:c) (hd:d) (he:e) (hf:f) [Tr a w w' a'] [Tr b w w' b'] [Tr c w w' c'] [Tr d w w' d'] [Tr e w w' e'] [Tr f w w' f']:a'/\b'/\c'/\d'/\e'/\f':=⟨Tr.t ha x,Tr5 x hb hc hd he hf⟩
theorem Tr7 (x:Ext w w') (ha:a) (hb:b) (hc:c) (hd:d) (he:e) (hf:f) (hg:g) [Tr a w w' a'] [Tr b w w' b'] [Tr c w w' c'] [Tr d w w' d'] [Tr e w w' e'] [Tr f w w' f'] [Tr g w w' g']:a'/\b'/\c'/\d'/\e'/\f'/\g':=⟨Tr.t ha x,Tr6 x hb hc hd he hf hg⟩
end
end Go.GL
namespace Go.Proofs
open Go.GL
def Tryz.tab:Tab:=[(27,.sl 3 1),(72,.st [0,1,2,3,4,7,8,9]),(124,.sl 169 2),(26,.st [0,1,2]),(142,.st [0,1,2,3,4]),(22,.sl 142 5),(70,.st [0,1,2]),(24,.sl 72 10),(34,.sl 65 4),(89,.sl 27 1),(30,.st [0,1]),(59,.st [0,1,2]),(65,.st [0,1,2,3]),(88,.st [0,1,2,3]),(159,.st [0,1]),(68,.sl 70 3),(28,.sl 59 3),(56,.sl 88 4),(107,.st [0,1,3,4,5,6]),(113,.st [0,3,4,5]),(193,.st [0,1,2]),(203,.sl 159 2),(36,.st [0]),(123,.st [0,1,3,4]),(175,.st [0,1,2,3,4]),(97,.st [0,1,3,4]),(23,.sl 109 6),(52,.sl 4 1),(109,.st [0,1,2,3]),(47,.st [0,1]),(57,.sl 85 2),(117,.st [0,1,2]),(126,.st [0,1]),(85,.st [0,1]),(197,.st [0,1]),(45,.st [0,1,2]),(169,.ar 2 1),(189,.st [0,1]),(240,.st [0,1]),(42,.sl 45 3),(198,.sl 120 1),(4,.bool),(9,.str),(241,.sl 240 2),(226,.sl 100 1),(230,.sl 24 1)]
theorem Tryz.tabOk:zn1 Tryz.prog Tryz.tab :=
 zn5 (show TI.ok _ 27 (.sl 3 1) from⟨tR27,ts3⟩) <|
 zn5 (show TI.ok _ 72 (.st [0,1,2,3,4,7,8,9]) from zn7 Tryz.runUnderlying72 ⟨⟨_,rfl,rfl,0,Tryz.sizeOf66⟩,⟨_,rfl,rfl,0,ts3⟩,⟨_,rfl,rfl,0,ts3⟩,⟨_,rfl,rfl,0,ts3⟩,⟨_,rfl,rfl,2,ts70⟩,⟨_,rfl,rfl,0,ts24⟩,⟨_,rfl,rfl,0,ts24⟩,⟨_,rfl,rfl,0,ts27⟩,trivial⟩) <|
 zn5 (show TI.ok _ 124 (.sl 169 2) from⟨Tryz.runUnderlying124,Tryz.sizeOf169⟩) <|
 zn5 (show TI.ok _ 26 (.st [0,1,2]) from zn7 Tryz.runUnderlying26 ⟨⟨_,rfl,rfl,0,Tryz.sizeOf22⟩,⟨_,rfl,rfl,0,Tryz.sizeOf23⟩,⟨_,rfl,rfl,0,ts24⟩,trivial⟩) <|
 zn5 (show TI.ok _ 142 (.st [0,1,2,3,4]) from zn7 Tryz.runUnderlying142 ⟨⟨_,rfl,rfl,0,ts9⟩,⟨_,rfl,rfl,0,ts100⟩,⟨_,rfl,rfl,0,ts3⟩,⟨_,rfl,rfl,0,ts3⟩,⟨_,rfl,rfl,0,ts3⟩,trivial⟩) <|
 zn5 (show TI.ok _ 22 (.sl 142 5) from⟨tR22,ts142⟩) <|
 zn5 (show TI.ok _ 70 (.st [0,1,2]) from zn7 Tryz.runUnderlying70 ⟨⟨_,rfl,rfl,0,Tryz.sizeOf67⟩,⟨_,rfl,rfl,0,ts3⟩,⟨_,rfl,rfl,0,Tryz.sizeOf68⟩,trivial⟩) <|
 zn5 (show TI.ok _ 24 (.sl 72 10) from⟨tR24,ts72⟩) <|
 zn5 (show TI.ok _ 34 (.sl 65 4) from⟨tR34,ts65⟩) <|
 zn5 (show TI.ok _ 89 (.sl 27 1) from⟨tR89,ts27⟩) <|
 zn5 (show TI.ok _ 30 (.st [0,1]) from zn7 Tryz.runUnderlying30 ⟨⟨_,rfl,rfl,0,ts27⟩,⟨_,rfl,rfl,0,Tryz.sizeOf28⟩,trivial⟩) <|
 zn5 (show TI.ok _ 59 (.st [0,1,2]) from zn7 Tryz.runUnderlying59 ⟨⟨_,rfl,rfl,0,Tryz.sizeOf56⟩,⟨_,rfl,rfl,0,Tryz.sizeOf57⟩,⟨_,rfl,rfl,0,ts3⟩,trivial⟩) <|
 zn5 (show TI.ok _ 65 (.st [0,1,2,3]) from zn7 Tryz.runUnderlying65 ⟨⟨_,rfl,rfl,0,Tryz.sizeOf63⟩,⟨_,rfl,rfl,0,ts3⟩,⟨_,rfl,rfl,0,ts3⟩,⟨_,rfl,rfl,0,ts3⟩,trivial⟩) <|
 zn5 (show TI.ok _ 88 (.st [0,1,2,3]) from zn7 Tryz.runUnderlying88 ⟨⟨_,rfl,rfl,0,ts3⟩,⟨_,rfl,rfl,0,ts3⟩,⟨_,rfl,rfl,0,ts27⟩,⟨_,rfl,rfl,0,ts27⟩,trivial⟩) <|
 zn5 (show TI.ok _ 159 (.st [0,1]) from zn7 Tryz.runUnderlying159 ⟨⟨_,rfl,rfl,0,ts3⟩,⟨_,rfl,rfl,0,ts3⟩,trivial⟩) <|
 zn5 (show TI.ok _ 68 (.sl 70 3) from⟨tR68,ts70⟩) <|
 zn5 (show TI.ok _ 28 (.sl 59 3) from⟨tR28,ts59⟩) <|
 zn5 (show TI.ok _ 56 (.sl 88 4) from⟨tR56,ts88⟩) <|
 zn5 (show TI.ok _ 107 (.st [0,1,3,4,5,6]) from zn7 Tryz.runUnderlying107 ⟨⟨_,rfl,rfl,0,ts94⟩,⟨_,rfl,rfl,1,ts30⟩,⟨_,rfl,rfl,0,ts27⟩,⟨_,rfl,rfl,0,ts27⟩,⟨_,rfl,rfl,0,ts27⟩,⟨_,rfl,rfl,1,ts47⟩,trivial⟩) <|
 zn5 (show TI.ok _ 113 (.st [0,3,4,5]) from zn7 Tryz.runUnderlying113 ⟨⟨_,rfl,rfl,2,ts26⟩,⟨_,rfl,rfl,0,ts34⟩,⟨_,rfl,rfl,0,ts24⟩,⟨_,rfl,rfl,0,ts89⟩,trivial⟩) <|
 zn5 (show TI.ok _ 193 (.st [0,1,2]) from zn7 Tryz.runUnderlying193 ⟨⟨_,rfl,rfl,0,ts3⟩,⟨_,rfl,rfl,0,ts3⟩,⟨_,rfl,rfl,0,ts3⟩,trivial⟩) <|
 zn5 (show TI.ok _ 203 (.sl 159 2) from⟨tR203,ts159⟩) <|
 zn5 (show TI.ok _ 36 (.st [0]) from zn7 Tryz.runUnderlying36 ⟨⟨_,rfl,rfl,0,ts34⟩,trivial⟩) <|
 zn5 (show TI.ok _ 123 (.st [0,1,3,4]) from zn7 Tryz.runUnderlying123 ⟨⟨_,rfl,rfl,0,ts94⟩,⟨_,rfl,rfl,1,ts30⟩,⟨_,rfl,rfl,0,ts89⟩,⟨_,rfl,rfl,0,ts89⟩,trivial⟩) <|
 zn5 (show TI.ok _ 175 (.st [0,1,2,3,4]) from zn7 Tryz.runUnderlying175 ⟨⟨_,rfl,rfl,0,ts89⟩,⟨_,rfl,rfl,0,ts89⟩,⟨_,rfl,rfl,0,ts27⟩,⟨_,rfl,rfl,0,ts27⟩,⟨_,rfl,rfl,0,ts27⟩,trivial⟩) <|
 zn5 (show TI.ok _ 97 (.st [0,1,3,4]) from zn7 Tryz.runUnderlying97 ⟨⟨_,rfl,rfl,0,ts94⟩,⟨_,rfl,rfl,1,ts30⟩,⟨_,rfl,rfl,0,ts89⟩,⟨_,rfl,rfl,0,Tryz.sizeOf52⟩,trivial⟩) <|
 zn5 (show TI.ok _ 23 (.sl 109 6) from⟨tR23,ts109⟩) <|
 zn5 (show TI.ok _ 52 (.sl 4 1) from⟨tR52,ts4⟩) <|
 zn5 (show TI.ok _ 109 (.st [0,1,2,3]) from zn7 Tryz.runUnderlying109 ⟨⟨_,rfl,rfl,0,ts9⟩,⟨_,rfl,rfl,0,ts3⟩,⟨_,rfl,rfl,0,ts3⟩,⟨_,rfl,rfl,2,ts70⟩,trivial⟩) <|
 zn5 (show TI.ok _ 47 (.st [0,1]) from zn7 Tryz.runUnderlying47 ⟨⟨_,rfl,rfl,0,ts27⟩,⟨_,rfl,rfl,0,ts3⟩,trivial⟩) <|
 zn5 (show TI.ok _ 57 (.sl 85 2) from⟨tR57,ts85⟩) <|
 zn5 (show TI.ok _ 117 (.st [0,1,2]) from zn7 Tryz.runUnderlying117 ⟨⟨_,rfl,rfl,0,ts27⟩,⟨_,rfl,rfl,0,ts27⟩,⟨_,rfl,rfl,0,ts3⟩,trivial⟩) <|
 zn5 (show TI.ok _ 126 (.st [0,1]) from zn7 Tryz.runUnderlying126 ⟨⟨_,rfl,rfl,0,ts3⟩,⟨_,rfl,rfl,0,Tryz.sizeOf124⟩,trivial⟩) <|
 zn5 (show TI.ok _ 85 (.st [0,1]) from zn7 Tryz.runUnderlying85 ⟨⟨_,rfl,rfl,0,ts3⟩,⟨_,rfl,rfl,0,ts3⟩,trivial⟩) <|
 zn5 (show TI.ok _ 197 (.st [0,1]) from zn7 Tryz.runUnderlying197 ⟨⟨_,rfl,rfl,0,ts34⟩,⟨_,rfl,rfl,0,ts3⟩,trivial⟩) <|
 zn5 (show TI.ok _ 45 (.st [0,1,2]) from zn7 Tryz.runUnderlying45 ⟨⟨_,rfl,rfl,0,ts27⟩,⟨_,rfl,rfl,0,ts27⟩,⟨_,rfl,rfl,0,ts27⟩,trivial⟩) <|
 zn5 (show TI.ok _ 169 (.ar 2 1) from⟨_,Tryz.runUnderlying169,ts3⟩) <|
 zn5 (show TI.ok _ 189 (.st [0,1]) from zn7 Tryz.runUnderlying189 ⟨⟨_,rfl,rfl,0,ts3⟩,⟨_,rfl,rfl,0,ts4⟩,trivial⟩) <|
 zn5 (show TI.ok _ 240 (.st [0,1]) from zn7 Tryz.runUnderlying240 ⟨⟨_,rfl,rfl,0,ts3⟩,⟨_,rfl,rfl,0,ts3⟩,trivial⟩) <|
 zn5 (show TI.ok _ 42 (.sl 45 3) from⟨tR42,ts45⟩) <|
 zn5 (show TI.ok _ 198 (.sl 120 1) from⟨tR198,ts120⟩) <|
 zn5 (show TI.ok _ 4 (.bool) from Tryz.underlying4) <|
 zn5 (show TI.ok _ 9 (.str) from tu9) <|
 zn5 (show TI.ok _ 241 (.sl 240 2) from⟨Tryz.runUnderlying241,Tryz.sizeOf240⟩) <|
 zn5 (show TI.ok _ 226 (.sl 100 1) from⟨Tryz.runUnderlying226,ts100⟩) <|
 zn5 (show TI.ok _ 230 (.sl 24 1) from⟨Tryz.runUnderlying230,ts24⟩) <|
 zn3
theorem Tryz.mixed:Tryz.prog.follows .mixedOrders=true:=by kernel_rfl
end Go.Proofs
namespace Go.Proofs.YtckdhgbepmpgiaaGreat
open Go.GL
section
variable {n:Nat} {Q:Exit->Act->World->Prop} {ks ks':List Fr} {pos pos':Pos} {env env':Env} {w:World}
theorem Gs (k:Nat) (h:zdj Tryz.tab n k none ks pos env=some (none,ks',pos',env')) (hr:G Tryz.prog n Q ks' pos' env' w):G Tryz.prog n Q ks pos env w:=G.go Tryz.tabOk k h hr
theorem Ga (k:Nat) {p:Prop} (h:zdj Tryz.tab n k none ks pos env=some (some p,ks',pos',env')) (hp:p) (hr:G Tryz.prog n Q ks' pos' env' w):G Tryz.prog n Q ks pos env w:=G.goA Tryz.tabOk k h hp hr
theorem Qt {id:Nat} {l:List Oper} (hB:Region.lexB .any l.toArray=true) (h:G Tryz.prog n Q ks (.q l.toArray l) env w):G Tryz.prog n Q ks (.c (.region id l.toArray true)) env w:=zmD Tryz.mixed hB h
theorem Dw {id:Nat} {l:List Oper} (S:World->Prop) (L:List Nat) (h:∀ w',Ext w w'->w'.heap=w.heap->WD Tryz.prog n l.toArray (QK Tryz.prog Q ks) S L l.length (Array.replicate l.length false) env w'):G Tryz.prog n Q ks (.c (.region id l.toArray true)) env w:=zmG S L Tryz.mixed h
end
section
variable {n:Nat} {ops:Array Oper} {Q:Exit->Act->World->Prop} {S:World->Prop} {L:List Nat} {env env':Env} {w:World} {fuel:Nat} {listed:Array Bool}
theorem Ds (is:List Nat) (hc:zf6 ops is listed=true) (hv:dpv Tryz.tab n ops is none env=some (none,env')) (h:WD Tryz.prog n ops Q S L fuel (zdk is listed) env' w):WD Tryz.prog n ops Q S L (addN is fuel) listed env w:=WD.ps Tryz.tabOk is hc hv h
theorem Da (is:List Nat) {p:Prop} (hc:zf6 ops is listed=true) (hv:dpv Tryz.tab n ops is none env=some (some p,env')) (hp:p) (h:WD Tryz.prog n ops Q S L fuel (zdk is listed) env' w):WD Tryz.prog n ops Q S L (addN is fuel) listed env w:=zns Tryz.tabOk is hc hv hp h
end
end Go.Proofs.YtckdhgbepmpgiaaGreat
namespace Go.GL
open Go.RowKit
section
variable {P:Program} {env:Env} {w:World} {dst:Option Tmp} {ty:TypeId} {pos:String} {aft:Array Edge} {g:Option (Nat × Bool)}
theorem xC {w:World} {e:TypeId} {k:Nat} {v:Value} {n:Nat} {xs:List Value} (h:w.ownsRow 0 e k v n xs):∃ ao c,v=.slice ao n c/\n<=c/\c<=9223372036854775807:=by
 rcases h.2 with⟨rfl,rfl⟩ | ⟨g,cap,cur,rfl,_,_,h5,h6,_⟩
 . exact⟨_,_,rfl,zpJ _,by omega⟩
 exact⟨_,_,rfl,h5,by simpa[maxLen] using h6⟩
theorem jx {w:World} {e:TypeId} {k:Nat} {a0:Addr} {n c:Nat} {xs:List Value} (h:w.ownsRow 0 e k (.slice (some a0) n c) n xs):a0.off=0/\a0.spot=none/\Cells w a0.block 0 xs:=by
 rcases h.2 with⟨h1,_⟩ | ⟨g,cap,cur,h1,_,h4,h5,h6,h7,h8⟩
 . cases h1
 cases h1
 refine⟨rfl,rfl,fun j u hu=>?_⟩
 have hb:Blk w g cur.toList e:=by unfold Blk;simpa using h4
 have:=hb.cells j u (by rw[<- h8,zpQ]at hu;split at hu;exact hu;cases hu)
 simpa using this
theorem znu {t e:TypeId} {k by':Nat} {z:Value} {x y:Operand} {v vy:Value} {m j:Nat} {xs ys:List Value} (hu:P.underlying t=some (.slice e)) (he:(P.info? e).map (fun i=>(i.zero,i.size,i.bytes))=some (some z,k,by')) (dc:z.cells.size=k) (hk:0<k)
  (hx:ev env x=some v) (hy:ev env y=some vy) (hY:w.ownsRow 0 e k v m xs) (da:w.ownsRow 0 e k vy j ys) (h1:∀ u ∈ ys,u.oneCell'=true) (db:m+j<=9223372036854775807) (de:(m+j)*by'<=140737488355328) :
  yH P ⟨dst,.call ⟨.builtin .append,#[x,y],#[t,t]⟩,ty,pos,aft,g⟩ env w (fun u w'=>w'.ownsRow 0 e k u (m+j) (xs++ys)/\(u.ownBlock=v.ownBlock\/∃ g,u.ownBlock=some g/\w.heap.size<=g)/\Keep (fun k=>v.ownBlock=some k) w w'):=by
 obtain⟨a2,c2,rfl,dh,_⟩:=xC da
 by_cases hj:j=0
 .
  subst hj
  have df:ys=[]:=zqI (by rw[da.1];omega)
  subst df
  obtain⟨a1,c1,rfl,dg,_⟩:=xC hY
  obtain⟨u,w',hr,rfl,rfl⟩:=zmR (g:=g) (pos:=pos) (aft:=aft) (dst:=dst) (ty:=ty) hu he hx hy dg
  exact⟨_,_,hr,by simpa using hY,.inl rfl,Keep.refl _ _⟩
 obtain⟨a0,rfl⟩:∃ a0,a2=some a0:=by
  cases a2 with
  | some a0=>exact⟨a0,rfl⟩
  | none =>
   rcases da.2 with⟨_,h⟩ | ⟨g,cap,cur,h,_⟩
   . exact absurd h hj
   cases h
 obtain⟨e1,e2,hc⟩:=jx da
 obtain⟨b0,o0,s0⟩:=a0
 simp only at e1 e2 hc
 subst e1;subst e2
 obtain⟨u,w',hr,h5,h6,h7,_⟩:=M.append (g:=g) (pos:=pos) (aft:=aft) (dst:=dst) (ty:=ty) hu he dc hk hx hy hY da.1 (Cells.add hc) h1 db de
 exact⟨u,w',hr,h5,h6,h7⟩
end
inductive Tm where
 | mk (op n:Int) (kids:List Tm)
def Tm.op:Tm->Int | .mk o _ _=>o
def Tm.n:Tm->Int | .mk _ n _=>n
def Tm.kids:Tm->List Tm | .mk _ _ k=>k
mutual
theorem znv {p:Tm->Prop} (h:∀ t:Tm,(∀ k ∈ t.kids,p k)->p t):∀ t,p t
 | .mk o n ks=>h (.mk o n ks) (zny h ks)
theorem zny {p:Tm->Prop} (h:∀ t:Tm,(∀ k ∈ t.kids,p k)->p t):∀ ks:List Tm,∀ k ∈ ks,p k
 | []=>fun _ hk=>by simp at hk
 | k::r=>fun x hx=>by
  rcases zpA.1 hx with he | hx
  . rw[he];exact znv h k
  exact zny h r x hx
end
inductive St where
 | mk (act cost var n:Int) (term:Tm) (thn els:List St) (bounds:List Int)
def St.act:St->Int | .mk a _ _ _ _ _ _ _=>a
def St.cost:St->Int | .mk _ a _ _ _ _ _ _=>a
def St.var:St->Int | .mk _ _ a _ _ _ _ _=>a
def St.n:St->Int | .mk _ _ _ a _ _ _ _=>a
def St.term:St->Tm | .mk _ _ _ _ a _ _ _=>a
def St.thn:St->List St | .mk _ _ _ _ _ a _ _=>a
def St.els:St->List St | .mk _ _ _ _ _ _ a _=>a
def St.bounds:St->List Int | .mk _ _ _ _ _ _ _ a=>a
mutual
theorem znw {p:St->Prop} (h:∀ s:St,(∀ k ∈ s.thn,p k)->(∀ k ∈ s.els,p k)->p s):∀ s,p s
 | .mk a b c d e f g i=>h (.mk a b c d e f g i) (znz h f) (znz h g)
theorem znz {p:St->Prop} (h:∀ s:St,(∀ k ∈ s.thn,p k)->(∀ k ∈ s.els,p k)->p s):∀ ks:List St,∀ k ∈ ks,p k
 | []=>fun _ hk=>by simp at hk
 | k::r=>fun x hx=>by
  rcases zpA.1 hx with he | hx
  . rw[he];exact znw h k
  exact znz h r x hx
end
theorem znx {p:List St->Prop} (h:∀ l:List St,(∀ s ∈ l,p s.thn/\p s.els)->p l) (l:List St):p l :=
 h l (znz (p:=fun s=>p s.thn/\p s.els) (fun _ h1 h2=>⟨h _ h1,h _ h2⟩) l)
structure Vr where
 name:ByteArray
 kind:Int
 low:Int
 high:Int
 init:Int
structure Ht where
 name:ByteArray
 low:Int
 high:Int
 term:Tm
structure Fl where
 vars:List Vr
 hatches:List Ht
 body:List St
structure Ins where
 secret:List Int
 pub:List Int
 random:List Int
structure Nd where
 kind:Int
 at_:Int
 next:Int
 other:Int
def RT:Nat->Rel Tm
 | 0=>fun _ _ _ _=>False
 | k+1=>fun D w t cs=>∃ v,cs=[.int .i64 t.op,.int .i64 t.n,v]/\SlR 3 (RT k) D w v t.kids
def RTm:Rel Tm:=fun D w t cs=>∃ k,RT k D w t cs
theorem SlR.map {α:Type} {k:Nat} {R R':Rel α} {D:Nat->Prop} {w:World} {v:Value} {l:List α} (h:SlR k R D w v l) (hR:∀ x cs,x ∈ l->R D w x cs->R' D w x cs):SlR k R' D w v l:=by
 obtain⟨ao,cap,h1,h2,h3,h4⟩:=h
 refine⟨ao,cap,h1,h2,h3,fun i x hx=>?_⟩
 obtain⟨b,o,cs,h5,h6,h7,h8,h9⟩:=h4 i x hx
 exact⟨b,o,cs,h5,h6,h7,h8,hR x cs (zpl hx) h9⟩
theorem znA:∀ (k:Nat) (D:Nat->Prop) (w:World) (t:Tm) (cs:List Value),RT k D w t cs->RT (k+1) D w t cs
 | 0,_,_,_,_,h=>h.elim
 | k+1,D,w,_,_,⟨v,h1,h2⟩=>⟨v,h1,h2.map (fun x cs _ h=>znA k D w x cs h)⟩
theorem RT.le {k j:Nat} (hY:k<=j) {D:Nat->Prop} {w:World} {t:Tm} {cs:List Value} (h:RT k D w t cs):RT j D w t cs:=by
 induction hY with
 | refl=>exact h
 | step _ ih=>exact znA _ _ _ _ _ ih
theorem zdl:∀ k,zR (RT k)
 | 0=>fun _ _ _ _ _ _ _ _ h=>h.elim
 | k+1=>fun _ _ _ _ hD hk _ _ ⟨v,h1,h2⟩=>⟨v,h1,h2.stable (zdl k) hD hk⟩
theorem zh:zR RTm:=fun D D' w w' hD hk t cs ⟨k,h⟩=>⟨k,zdl k D D' w w' hD hk t cs h⟩
theorem RTm.get {D:Nat->Prop} {w:World} {t:Tm} {cs:List Value} (h:RTm D w t cs):∃ v,cs=[.int .i64 t.op,.int .i64 t.n,v]/\SlR 3 RTm D w v t.kids:=by
 obtain⟨k,h⟩:=h
 cases k with
 | zero=>exact h.elim
 | succ k =>
  obtain⟨v,h1,h2⟩:=h
  exact⟨v,h1,h2.map (fun x cs _ h=>⟨k,h⟩)⟩
theorem znC {α:Type} {k:Nat} {R:Nat->Rel α} (hR:∀ (i j:Nat),i<=j->∀ D w x cs,R i D w x cs->R j D w x cs) {D:Nat->Prop} {w:World} {v:Value} {l:List α} (h:SlR k (fun D w x cs=>∃ i,R i D w x cs) D w v l):∃ i,SlR k (R i) D w v l:=by
 obtain⟨ao,cap,h1,h2,h3,h4⟩:=h
 have key:∀ m,m<=l.length->∃ i,∀ (j:Nat) x,j<m->l[j]?=some x->∃ b o cs,ao=some ⟨b,o,none⟩/\D b/\cs.length=k/\Cells w b (o+j*k) cs/\R i D w x cs:=by
  intro m
  induction m with
  | zero=>intro _;exact⟨0,fun j x h=>absurd h (zrZ _)⟩
  | succ m ih =>
   intro hm
   obtain⟨i,hi⟩:=ih (by omega)
   obtain⟨x,hx⟩:∃ x,l[m]?=some x:=⟨_,zpk (by omega)⟩
   obtain⟨b,o,cs,h5,h6,h7,h8,i',h9⟩:=h4 m x hx
   refine⟨max i i',fun j y hj hy=>?_⟩
   by_cases e:j=m
   .
    subst e
    rw[hx]at hy;cases hy
    exact⟨b,o,cs,h5,h6,h7,h8,hR _ _ (Nat.le_max_right ..) _ _ _ _ h9⟩
   obtain⟨b,o,cs,h5,h6,h7,h8,h9⟩:=hi j y (by omega) hy
   exact⟨b,o,cs,h5,h6,h7,h8,hR _ _ (Nat.le_max_left ..) _ _ _ _ h9⟩
 obtain⟨i,hi⟩:=key l.length (zpJ _)
 exact⟨i,ao,cap,h1,h2,h3,fun j x hx=>hi j x (zpy.1 hx).1 hx⟩
theorem RTm.put {D:Nat->Prop} {w:World} {t:Tm} {v:Value} (h:SlR 3 RTm D w v t.kids):RTm D w t [.int .i64 t.op,.int .i64 t.n,v]:=by
 obtain⟨i,hi⟩:=znC (R:=RT) (fun i j hY D w x cs h=>h.le hY) h
 exact⟨i+1,v,rfl,hi⟩
def RS:Nat->Rel St
 | 0=>fun _ _ _ _=>False
 | k+1=>fun D w s cs=>∃ v1 v2 v3 v4,cs=[.int .i64 s.act,.int .i64 s.cost,.int .i64 s.var,.int .i64 s.n,.int .i64 s.term.op,.int .i64 s.term.n,v1,v2,v3,v4]/\SlR 3 RTm D w v1 s.term.kids/\SlR 10 (RS k) D w v2 s.thn/\SlR 10 (RS k) D w v3 s.els/\SlR 1 zC D w v4 s.bounds
def RSt:Rel St:=fun D w s cs=>∃ k,RS k D w s cs
theorem znB:∀ (k:Nat) (D:Nat->Prop) (w:World) (s:St) (cs:List Value),RS k D w s cs->RS (k+1) D w s cs
 | 0,_,_,_,_,h=>h.elim
 | k+1,D,w,_,_,⟨v1,v2,v3,v4,h0,h1,h2,h3,h4⟩=>⟨v1,v2,v3,v4,h0,h1,h2.map (fun x cs _ h=>znB k D w x cs h),h3.map (fun x cs _ h=>znB k D w x cs h),h4⟩
theorem RS.le {k j:Nat} (hY:k<=j) {D:Nat->Prop} {w:World} {s:St} {cs:List Value} (h:RS k D w s cs):RS j D w s cs:=by
 induction hY with
 | refl=>exact h
 | step _ ih=>exact znB _ _ _ _ _ ih
theorem zb5:∀ k,zR (RS k)
 | 0=>fun _ _ _ _ _ _ _ _ h=>h.elim
 | k+1=>fun _ _ _ _ hD hk _ _ ⟨v1,v2,v3,v4,h0,h1,h2,h3,h4⟩=>⟨v1,v2,v3,v4,h0,h1.stable zh hD hk,h2.stable (zb5 k) hD hk,h3.stable (zb5 k) hD hk,h4.stable zb hD hk⟩
theorem zd:zR RSt:=fun D D' w w' hD hk t cs ⟨k,h⟩=>⟨k,zb5 k D D' w w' hD hk t cs h⟩
theorem RSt.get {D:Nat->Prop} {w:World} {s:St} {cs:List Value} (h:RSt D w s cs):∃ v1 v2 v3 v4,cs=[.int .i64 s.act,.int .i64 s.cost,.int .i64 s.var,.int .i64 s.n,.int .i64 s.term.op,.int .i64 s.term.n,v1,v2,v3,v4]/\SlR 3 RTm D w v1 s.term.kids/\SlR 10 RSt D w v2 s.thn/\SlR 10 RSt D w v3 s.els/\SlR 1 zC D w v4 s.bounds:=by
 obtain⟨k,h⟩:=h
 cases k with
 | zero=>exact h.elim
 | succ k =>
  obtain⟨v1,v2,v3,v4,h0,h1,h2,h3,h4⟩:=h
  exact⟨v1,v2,v3,v4,h0,h1,h2.map (fun x cs _ h=>⟨k,h⟩),h3.map (fun x cs _ h=>⟨k,h⟩),h4⟩
theorem RSt.put {D:Nat->Prop} {w:World} {s:St} {v1 v2 v3 v4:Value} (h1:SlR 3 RTm D w v1 s.term.kids) (h2:SlR 10 RSt D w v2 s.thn) (h3:SlR 10 RSt D w v3 s.els) (h4:SlR 1 zC D w v4 s.bounds) :
  RSt D w s [.int .i64 s.act,.int .i64 s.cost,.int .i64 s.var,.int .i64 s.n,.int .i64 s.term.op,.int .i64 s.term.n,v1,v2,v3,v4]:=by
 obtain⟨i,hi⟩:=znC (R:=RS) (fun i j hY D w x cs h=>h.le hY) h2
 obtain⟨j,hj⟩:=znC (R:=RS) (fun i j hY D w x cs h=>h.le hY) h3
 exact⟨max i j+1,v1,v2,v3,v4,rfl,h1,hi.map (fun x cs _ h=>h.le (Nat.le_max_left ..)),hj.map (fun x cs _ h=>h.le (Nat.le_max_right ..)),h4⟩
def RVr:Rel Vr:=fun _ _ v cs=>cs=[.string v.name,.int .i64 v.kind,.int .i64 v.low,.int .i64 v.high,.int .i64 v.init]
def RHt:Rel Ht:=fun D w h cs=>∃ v,cs=[.string h.name,.int .i64 h.low,.int .i64 h.high,.int .i64 h.term.op,.int .i64 h.term.n,v]/\SlR 3 RTm D w v h.term.kids
def RNd:Rel Nd:=fun _ _ x cs=>cs=[.int .i64 x.kind,.int .i64 x.at_,.int .i64 x.next,.int .i64 x.other]
theorem xD:zR RVr:=fun _ _ _ _ _ _ _ _ h=>h
theorem zH:zR RNd:=fun _ _ _ _ _ _ _ _ h=>h
theorem xE:zR RHt:=fun _ _ _ _ hD hk _ _ ⟨v,h1,h2⟩=>⟨v,h1,h2.stable zh hD hk⟩
structure RFl (D:Nat->Prop) (w:World) (f:Fl) (v1 v2 v3:Value):Prop where
 vars:SlR 5 RVr D w v1 f.vars
 hatches:SlR 6 RHt D w v2 f.hatches
 body:SlR 10 RSt D w v3 f.body
theorem RFl.ext {D:Nat->Prop} {w w':World} {f:Fl} {v1 v2 v3:Value} (h:RFl D w f v1 v2 v3) (hk:Ext w w'):RFl D w' f v1 v2 v3:=⟨h.vars.ext xD hk,h.hatches.ext xE hk,h.body.ext zd hk⟩
instance:StC RTm:=⟨zh⟩
instance:StC RSt:=⟨zd⟩
instance:StC RVr:=⟨xD⟩
instance:StC RNd:=⟨zH⟩
instance:StC RHt:=⟨xE⟩
instance {D:Nat->Prop} {w w':World} {f:Fl} {v1 v2 v3:Value}:Tr (RFl D w f v1 v2 v3) w w' (RFl D w' f v1 v2 v3):=⟨RFl.ext⟩
theorem SlR.form {α:Type} {k:Nat} {R:Rel α} {D:Nat->Prop} {w:World} {v:Value} {l:List α} (h:SlR k R D w v l):∃ ao cap,v=.slice ao l.length cap:=by
 obtain⟨ao,cap,h1,_⟩:=h
 exact⟨ao,cap,h1⟩
theorem SlR.max {α:Type} {k:Nat} {R:Rel α} {D:Nat->Prop} {w:World} {v:Value} {l:List α} (h:SlR k R D w v l):l.length<=9223372036854775807:=by
 obtain⟨ao,cap,h1,h2,h3,_⟩:=h
 omega
theorem SlR.at {α:Type} {k:Nat} {R:Rel α} {D:Nat->Prop} {w:World} {ao:Option Addr} {n cap:Nat} {l:List α} (h:SlR k R D w (.slice ao n cap) l) {i:Nat} {x:α} (hx:l[i]?=some x):∃ b o cs,ao=some ⟨b,o,none⟩/\cs.length=k/\Cells w b (o+i*k) cs/\R D w x cs:=by
 obtain⟨ao',cap',h1,h2,h3,h4⟩:=h
 cases h1
 obtain⟨b,o,cs,h5,_,h7,h8,h9⟩:=h4 i x hx
 exact⟨b,o,cs,h5,h7,h8,h9⟩
theorem SlR.one {α:Type} {k:Nat} {R:Rel α} {D:Nat->Prop} {w:World} {v:Value} {l:List α} (h:SlR k R D w v l):v.oneCell'=true:=by
 obtain⟨ao,cap,rfl,_⟩:=h
 rfl
theorem RTm.one {D:Nat->Prop} {w:World} {t:Tm} {cs:List Value} (h:RTm D w t cs):∀ u ∈ cs,u.oneCell'=true:=by
 obtain⟨v,rfl,hs⟩:=h.get
 simp only[zpA,zrm,or_false,forall_eq_or_imp,forall_eq]
 exact⟨rfl,rfl,SlR.one hs⟩
theorem RSt.one {D:Nat->Prop} {w:World} {s:St} {cs:List Value} (h:RSt D w s cs):∀ u ∈ cs,u.oneCell'=true:=by
 obtain⟨v1,v2,v3,v4,rfl,h1,h2,h3,h4⟩:=h.get
 simp only[zpA,zrm,or_false,forall_eq_or_imp,forall_eq]
 exact⟨rfl,rfl,rfl,rfl,rfl,rfl,SlR.one h1,SlR.one h2,SlR.one h3,SlR.one h4⟩
theorem RHt.one {D:Nat->Prop} {w:World} {x:Ht} {cs:List Value} (h:RHt D w x cs):∀ u ∈ cs,u.oneCell'=true:=by
 obtain⟨v,rfl,hs⟩:=h
 simp only[zpA,zrm,or_false,forall_eq_or_imp,forall_eq]
 exact⟨rfl,rfl,rfl,rfl,rfl,SlR.one hs⟩
theorem RVr.one {D:Nat->Prop} {w:World} {x:Vr} {cs:List Value} (h:RVr D w x cs):∀ u ∈ cs,u.oneCell'=true:=by
 obtain rfl:=h
 simp[Value.oneCell']
theorem SlR.drop {α:Type} {k:Nat} {R:Rel α} {D:Nat->Prop} {w:World} {ao:Option Addr} {n c:Nat} {l:List α} (h:SlR k R D w (.slice ao n c) l) (i:Nat) (hi:i<=l.length):SlR k R D w (.slice (if c=i then ao else ao.map (·.add (i*k))) (n - i) (c - i)) (l.drop i):=by
 obtain⟨ao',cap',h1,h2,h3,h4⟩:=h
 cases h1
 refine⟨_,_,by rw[zqX],by rw[zqX];omega,by omega,fun j x hx=>?_⟩
 rw[List.getElem?_drop]at hx
 obtain⟨b,o,cs,h5,h6,h7,h8,h9⟩:=h4 (i+j) x hx
 have hY:=(zpy.1 hx).1
 refine⟨b,o+i*k,cs,?_,h6,h7,?_,h9⟩
 .
  rw[zpu (by omega),h5]
  simp[xz]
 rw[show o+i*k+j*k=o+(i+j)*k by rw[zrL,zrJ]];exact h8
theorem SlR.take {α:Type} {k:Nat} {R:Rel α} {D:Nat->Prop} {w:World} {ao:Option Addr} {n c:Nat} {l:List α} (h:SlR k R D w (.slice ao n c) l) (i:Nat) (hi:i<=l.length):SlR k R D w (.slice ao i c) (l.take i):=by
 obtain⟨ao',cap',h1,h2,h3,h4⟩:=h
 cases h1
 refine⟨_,_,by rw[zpO,Nat.min_eq_left hi],by rw[zpO];omega,h3,fun j x hx=>?_⟩
 rw[zpQ]at hx
 split at hx
 . exact h4 j x hx
 cases hx
theorem SlR.len_cap {α:Type} {k:Nat} {R:Rel α} {D:Nat->Prop} {w:World} {ao:Option Addr} {n c:Nat} {l:List α} (h:SlR k R D w (.slice ao n c) l):n=l.length/\l.length<=c:=by
 obtain⟨ao',cap',h1,h2,h3,h4⟩:=h
 cases h1
 exact⟨rfl,h2⟩
theorem yC {k:IntKind} {a b:Int} {o:Option Value} (h:o=some (.int k a)) (e:a=b):o=some (.int k b):=by rw[h,e]
theorem Cells.sub {w:World} {b o:Nat} {cs:List Value} (h:Cells w b o cs) (i n:Nat):Cells w b (o+i) ((cs.drop i).take n):=by
 refine h.part i (fun j v hj=>?_)
 rw[zpQ]at hj
 split at hj
 . rw[List.getElem?_drop]at hj;exact hj
 cases hj
def qm {α:Type} (R:Rel α):Prop:=∀ D w x cs,R D w x cs->R (fun b=>D b/\b<w.heap.size) w x cs
theorem SlR.narrow {α:Type} {k:Nat} {R:Rel α} (hk:0<k) (hR:qm R) {D:Nat->Prop} {w:World} {v:Value} {l:List α} (h:SlR k R D w v l):SlR k R (fun b=>D b/\b<w.heap.size) w v l:=by
 obtain⟨ao,cap,h1,h2,h3,h4⟩:=h
 refine⟨ao,cap,h1,h2,h3,fun i x hx=>?_⟩
 obtain⟨b,o,cs,h5,h6,h7,h8,h9⟩:=h4 i x hx
 obtain⟨v0,hY⟩:∃ v0,cs[0]?=some v0:=⟨_,zpk (by omega)⟩
 exact⟨b,o,cs,h5,⟨h6,zpm _ _ (h8 0 _ hY)⟩,h7,h8,hR _ _ _ _ h9⟩
theorem zdm:∀ k,qm (RT k)
 | 0=>fun _ _ _ _ h=>h.elim
 | k+1=>fun D w t cs ⟨v,h1,h2⟩=>⟨v,h1,h2.narrow (by omega) (zdm k)⟩
theorem zb6:qm RTm:=fun D w t cs ⟨k,h⟩=>⟨k,zdm k D w t cs h⟩
theorem yl:qm zC:=fun _ _ _ _ h=>h
theorem zdn:qm RHt:=fun _ _ _ _ ⟨v,h1,h2⟩=>⟨v,h1,h2.narrow (by omega) zb6⟩
theorem zdo:qm RVr:=fun _ _ _ _ h=>h
theorem zb7:∀ k,qm (RS k)
 | 0=>fun _ _ _ _ h=>h.elim
 | k+1=>fun D w t cs ⟨v1,v2,v3,v4,h0,h1,h2,h3,h4⟩=>⟨v1,v2,v3,v4,h0,h1.narrow (by omega) zb6,h2.narrow (by omega) (zb7 k),h3.narrow (by omega) (zb7 k),h4.narrow (by omega) yl⟩
theorem jd:qm RSt:=fun D w t cs ⟨k,h⟩=>⟨k,zb7 k D w t cs h⟩
theorem RFl.narrow {D:Nat->Prop} {w:World} {f:Fl} {v1 v2 v3:Value} (h:RFl D w f v1 v2 v3):RFl (fun b=>D b/\b<w.heap.size) w f v1 v2 v3 :=
 ⟨h.vars.narrow (by omega) zdo,h.hatches.narrow (by omega) zdn,h.body.narrow (by omega) jd⟩
open Go.RowKit
inductive HE where
 | own (b:Nat) (cs:List Value) (t:TypeId)
 | fro (b o:Nat) (cs:List Value)
 | row (t:TypeId) (k:Nat) (v:Value) (n:Nat) (xs:List Value)
 | res (S:Nat->Prop) (p:World->Prop)
 | dat (F:Nat->Prop) (p:World->Prop)
def HE.S:HE->Nat->Prop
 | .own b _ _=>fun q=>q=b
 | .fro ..=>fun _=>False
 | .row _ _ v _ _=>fun q=>v.ownBlock=some q
 | .res S _=>S
 | .dat ..=>fun _=>False
def HE.holds (w:World):HE->Prop
 | .own b cs t=>Blk w b cs t
 | .fro b o cs=>b<w.heap.size/\Cells w b o cs
 | .row t k v n xs=>w.ownsRow 0 t k v n xs
 | .res _ p=>p w
 | .dat F p=>p w/\∀ q,F q->q<w.heap.size
def HE.loc:HE->Prop
 | .res S p=>∀ (w w':World) (T:Nat->Prop),p w->Keep T w w'->(∀ q,q<w.heap.size->S q->¬ T q)->p w'
 | .dat F p=>∀ (w w':World) (T:Nat->Prop),p w->Keep T w w'->(∀ q,F q->¬ T q)->p w'
 | _=>True
def HE.fz (b:Nat):HE->Prop
 | .fro b' _ _=>b'=b
 | .dat F _=>F b
 | _=>False
abbrev Hp:=List (Nat × HE)
abbrev zF:=List (World × (Nat->Prop))
def hget:Hp->Nat->Option HE
 | [],_=>none
 | (k,e)::r,j=>cond (Nat.beq k j) (some e) (hget r j)
def yx:Hp->Nat->HE->Hp
 | [],_,_=>[]
 | (k,e)::r,j,e'=>cond (Nat.beq k j) ((k,e')::r) ((k,e)::yx r j e')
def zgz:Hp->Nat->Hp
 | [],_=>[]
 | (k,e)::r,j=>cond (Nat.beq k j) r ((k,e)::zgz r j)
theorem zr:∀ {H:Hp} {k:Nat} {e:HE},hget H k=some e->(k,e) ∈ H
 | [],_,_,h=>by cases h
 | (k',e')::r,k,e,h=>by
  simp only[hget]at h
  cases hb:Nat.beq k' k with
  | true=>rw[hb]at h;cases h;rw[zpr hb];exact zpo ..
  | false=>rw[hb]at h;exact zpn _ (zr h)
structure VI (Bs:zF) (H:Hp) (w:World):Prop where
 holds:∀ x ∈ H,x.2.holds w
 loc:∀ x ∈ H,x.2.loc
 apart:H.Pairwise (fun x y=>∀ q,x.2.S q->¬ y.2.S q)
 froz:∀ x ∈ H,∀ y ∈ H,∀ b,x.2.fz b->¬ y.2.S b
 low:∀ x ∈ H,∀ q,x.2.S q->q<w.heap.size
 base:∀ p ∈ Bs,Keep p.2 p.1 w/\∀ x ∈ H,∀ q,x.2.S q->p.2 q\/p.1.heap.size<=q
section
variable {Bs:zF} {H:Hp} {w w':World} {k:Nat} {e e':HE} {T:Nat->Prop}
theorem HE.keep (h:e.holds w) (hl:e.loc) (hk:Keep T w w') (hT:∀ q,e.S q->¬ T q) (hf:∀ b,e.fz b->¬ T b):e.holds w':=by
 cases e with
 | own b cs t=>exact hk.blk h (hT b rfl)
 | fro b o cs=>exact⟨zrT h.1 hk.size,hk.cells h.2 (hf b rfl)⟩
 | row t k v n xs=>exact zm h hk hT
 | res S p=>exact hl w w' T h hk (fun q _ hq=>hT q hq)
 | dat F p=>exact⟨hl w w' T h.1 hk hf,fun q hq=>zrT (h.2 q hq) hk.size⟩
theorem znD (h:e.holds w) {b:Nat} (hb:e.fz b):b<w.heap.size:=by
 cases e with
 | fro b' o cs=>have hb:b'=b:=hb;rw[<- hb];exact h.1
 | dat F p=>exact h.2 b hb
 | _=>exact hb.elim
theorem VI.keep (h:VI Bs H w) (hk:Keep T w w') (hT:∀ x ∈ H,∀ q,x.2.S q->¬ T q) (hf:∀ x ∈ H,∀ b,x.2.fz b->¬ T b) (hB:∀ p ∈ Bs,∀ q,q<p.1.heap.size->T q->p.2 q):VI Bs H w' where
 holds:=fun x hx=>HE.keep (e:=x.2) (h.holds x hx) (h.loc x hx) hk (hT x hx) (hf x hx)
 loc:=h.loc
 apart:=h.apart
 froz:=h.froz
 low:=fun x hx q hq=>zrT (h.low x hx q hq) hk.size
 base:=fun p hp=>⟨(h.base p hp).1.trans hk (hB p hp),(h.base p hp).2⟩
theorem VI.ext (h:VI Bs H w) (hk:Ext w w'):VI Bs H w':=h.keep hk (fun _ _ _ _ h=>h) (fun _ _ _ _ h=>h) (fun _ _ _ _ h=>h.elim)
theorem VI.nil (w:World):VI [(w,fun _=>False)] [] w where
 holds:=fun _ h=>by cases h
 loc:=fun _ h=>by cases h
 apart:=List.Pairwise.nil
 froz:=fun _ h=>by cases h
 low:=fun _ h=>by cases h
 base:=fun p hp=>by
  rw[zpC]at hp
  subst hp
  exact⟨Keep.refl _ _,fun _ h=>by cases h⟩
theorem VI.new (h:VI Bs H w) (hk:Ext w w') (k:Nat) (he:e.holds w') (hl:e.loc) (hz:∀ b,¬ e.fz b) (hS:∀ q,e.S q->w.heap.size<=q/\q<w'.heap.size):VI Bs ((k,e)::H) w':=by
 have h':=h.ext hk
 have hY:∀ x ∈ H,∀ q,x.2.S q->¬ e.S q:=fun x hx q hq hs=>by have:=h.low x hx q hq;have:=(hS q hs).1;omega
 have da:∀ x ∈ H,∀ b,x.2.fz b->¬ e.S b:=fun x hx b hb hs=>by
  have h1:=znD (h.holds x hx) hb
  have:=(hS b hs).1
  omega
 refine⟨?_,?_,?_,?_,?_,?_⟩
 .
  intro x hx
  rcases zpA.1 hx with rfl | hx
  . exact he
  exact h'.holds x hx
 .
  intro x hx
  rcases zpA.1 hx with rfl | hx
  . exact hl
  exact h'.loc x hx
 . exact zro.2 ⟨fun x hx q hq hs=>hY x hx q hs hq,h'.apart⟩
 .
  intro x hx y hy b hb
  rcases zpA.1 hx with rfl | hx
  . exact absurd hb (hz b)
  rcases zpA.1 hy with rfl | hy
  . exact da x hx b hb
  exact h'.froz x hx y hy b hb
 .
  intro x hx q hq
  rcases zpA.1 hx with rfl | hx
  . exact(hS q hq).2
  exact h'.low x hx q hq
 intro p hp
 refine⟨(h'.base p hp).1,fun x hx q hq=>?_⟩
 rcases zpA.1 hx with rfl | hx
 . exact .inr (zpq (h.base p hp).1.size (hS q hq).1)
 exact(h'.base p hp).2 x hx q hq
theorem kB:∀ {H:Hp} {k:Nat} {e e':HE},hget H k=some e->∀ x ∈ yx H k e',x=(k,e')\/x ∈ H
 | [],_,_,_,h=>by cases h
 | (k1,e1)::r,k,e,e',h=>by
  intro x hx
  simp only[hget]at h
  simp only[yx]at hx
  cases hb:Nat.beq k1 k with
  | true =>
   rw[hb]at hx
   rcases zpA.1 hx with rfl | hx
   . rw[zpr hb];exact .inl rfl
   exact .inr (zpn _ hx)
  | false =>
   rw[hb]at h hx
   rcases zpA.1 hx with rfl | hx
   . exact .inr (zpo ..)
   exact(kB h x hx).imp id (zpn _)
theorem za8:∀ {H:Hp} {k:Nat} {e e':HE} {B:Nat},hget H k=some e->H.Pairwise (fun x y=>∀ q,x.2.S q->¬ y.2.S q)->(∀ q,e'.S q->e.S q\/B<=q)->(∀ x ∈ H,∀ q,x.2.S q->q<B) ->
  (yx H k e').Pairwise (fun x y=>∀ q,x.2.S q->¬ y.2.S q)/\∀ (P:Nat × HE->Prop),P (k,e')->(∀ x ∈ H,(∀ q,x.2.S q->¬ e.S q)->P x)->∀ x ∈ yx H k e',P x
 | [],_,_,_,_,h,_,_,_=>by cases h
 | (k1,e1)::r,k,e,e',B,h,hp,hS,hB=>by
  simp only[hget]at h
  simp only[yx]
  rw[zro]at hp
  cases hb:Nat.beq k1 k with
  | true =>
   rw[hb]at h
   cases h
   have hk:=zpr hb
   subst hk
   refine⟨zro.2 ⟨fun x hx q hq hs=>?_,hp.2⟩,fun P h1 h2 x hx=>?_⟩
   .
    rcases hS q hq with h3 | h3
    . exact hp.1 x hx q h3 hs
    have:=hB x (zpn _ hx) q hs;omega
   rcases zpA.1 hx with rfl | hx
   . exact h1
   exact h2 x (zpn _ hx) (fun q hq hs=>hp.1 x hx q hs hq)
  | false =>
   rw[hb]at h
   obtain⟨h4,h5⟩:=za8 (e':=e') h hp.2 hS (fun x hx=>hB x (zpn _ hx))
   have hm:=zr h
   refine⟨zro.2 ⟨fun x hx=>?_,h4⟩,fun P h1 h2 x hx=>?_⟩
   .
    refine h5 (fun x=>∀ q,e1.S q->¬ x.2.S q) (fun q hq hs=>?_) (fun x hx _=>hp.1 x hx) x hx
    rcases hS q hs with h3 | h3
    . exact hp.1 _ hm q hq h3
    have:=hB _ (zpo ..) q hq;omega
   rcases zpA.1 hx with rfl | hx
   . exact h2 _ (zpo ..) (fun q hq=>hp.1 _ hm q hq)
   exact h5 P h1 (fun y hy=>h2 y (zpn _ hy)) x hx
theorem VI.set (h:VI Bs H w) (hg:hget H k=some e) (hk:Keep e.S w w') (he:e'.holds w') (hl:e'.loc) (hz:∀ b,¬ e'.fz b) (hS:∀ q,e'.S q->(e.S q\/w.heap.size<=q)/\q<w'.heap.size):VI Bs (yx H k e') w':=by
 have hm:=zr hg
 obtain⟨h1,h2⟩:=za8 (e':=e') (B:=w.heap.size) hg h.apart (fun q hq=>(hS q hq).1) h.low
 have hY:∀ x ∈ H,∀ b,x.2.fz b->¬ e.S b:=fun x hx b hb=>h.froz x hx _ hm b hb
 have da:∀ x ∈ H,∀ b,x.2.fz b->b<w.heap.size:=fun x hx b hb=>znD (h.holds x hx) hb
 refine⟨?_,?_,h1,?_,?_,?_⟩
 . exact h2 (fun x=>x.2.holds w') he (fun x hx hq=>HE.keep (e:=x.2) (h.holds x hx) (h.loc x hx) hk hq (hY x hx))
 . exact h2 (fun x=>x.2.loc) hl (fun x hx _=>h.loc x hx)
 .
  intro x hx y hy b hb
  rcases kB hg x hx with rfl | hx
  . exact absurd hb (hz b)
  rcases kB hg y hy with rfl | hy
  .
   intro hs
   rcases (hS b hs).1 with h3 | h3
   . exact hY x hx b hb h3
   have:=da x hx b hb;omega
  exact h.froz x hx y hy b hb
 . exact h2 (fun x=>∀ q,x.2.S q->q<w'.heap.size) (fun q hq=>(hS q hq).2) (fun x hx _ q hq=>zrT (h.low x hx q hq) hk.size)
 intro p hp
 obtain⟨h3,h4⟩:=h.base p hp
 refine⟨h3.trans hk (fun q hq hs=>(h4 _ hm q hs).resolve_right (by omega)),?_⟩
 refine h2 (fun x=>∀ q,x.2.S q->p.2 q\/p.1.heap.size<=q) (fun q hq=>?_) (fun x hx _=>h4 x hx)
 rcases (hS q hq).1 with h5 | h5
 . exact h4 _ hm q h5
 exact .inr (zpq h3.size h5)
theorem VI.frz (h:VI Bs H w) (k:Nat) (he:e.holds w) (hl:e.loc) (hs:∀ q,¬ e.S q) (hf:∀ b,e.fz b->∀ x ∈ H,¬ x.2.S b):VI Bs ((k,e)::H) w:=by
 refine⟨?_,?_,?_,?_,?_,?_⟩
 .
  intro x hx
  rcases zpA.1 hx with rfl | hx
  . exact he
  exact h.holds x hx
 .
  intro x hx
  rcases zpA.1 hx with rfl | hx
  . exact hl
  exact h.loc x hx
 . exact zro.2 ⟨fun x hx q hq=>(hs q hq).elim,h.apart⟩
 .
  intro x hx y hy b' hY
  rcases zpA.1 hy with rfl | hy
  . exact hs b'
  rcases zpA.1 hx with rfl | hx
  . exact hf b' hY y hy
  exact h.froz x hx y hy b' hY
 .
  intro x hx q hq
  rcases zpA.1 hx with rfl | hx
  . exact(hs q hq).elim
  exact h.low x hx q hq
 intro p' da
 refine⟨(h.base p' da).1,fun x hx q hq=>?_⟩
 rcases zpA.1 hx with rfl | hx
 . exact(hs q hq).elim
 exact(h.base p' da).2 x hx q hq
theorem VI.off (h:VI Bs H w) {p:World × (Nat->Prop)} {b:Nat} (hp:p ∈ Bs) (hb:b<p.1.heap.size) (hn:¬ p.2 b):∀ x ∈ H,¬ x.2.S b:=fun x hx hs=>((h.base p hp).2 x hx b hs).elim hn (fun h=>by omega)
theorem VI.fro (h:VI Bs H w) (k:Nat) {p:World × (Nat->Prop)} {b o:Nat} {cs:List Value} (hp:p ∈ Bs) (hb:b<p.1.heap.size) (hn:¬ p.2 b) (hc:Cells p.1 b o cs):VI Bs ((k,.fro b o cs)::H) w :=
 h.frz k ⟨zrT hb (h.base p hp).1.size,(h.base p hp).1.cells hc hn⟩ trivial (fun _ h=>h) (fun b' hY=>by have hY:b=b':=hY;rw[<- hY];exact h.off hp hb hn)
theorem VI.few {H':Hp} (h:VI Bs H w) (hs:∀ x ∈ H',x ∈ H) (ha:H'.Pairwise (fun x y=>∀ q,x.2.S q->¬ y.2.S q)):VI Bs H' w :=
 ⟨fun x hx=>h.holds x (hs x hx),fun x hx=>h.loc x (hs x hx),ha,fun x hx y hy=>h.froz x (hs x hx) y (hs y hy),fun x hx=>h.low x (hs x hx),fun p hp=>⟨(h.base p hp).1,fun x hx=>(h.base p hp).2 x (hs x hx)⟩⟩
theorem za9:∀ {H:Hp} {k k':Nat} {e e':HE},H.Pairwise (fun x y=>∀ q,x.2.S q->¬ y.2.S q)->hget H k=some e->hget H k'=some e'->Nat.beq k k'=false->∀ q,e.S q->¬ e'.S q
 | [],_,_,_,_,_,h,_,_=>by cases h
 | (k1,e1)::r,k,k',e,e',hp,h,h',hn=>by
  simp only[hget]at h h'
  rw[zro]at hp
  intro q hq hs
  cases hb:Nat.beq k1 k with
  | true =>
   rw[hb]at h
   cases h
   cases hb':Nat.beq k1 k' with
   | true=>rw[<- zpr hb,<- zpr hb',zrO]at hn;cases hn
   | false=>rw[hb']at h';exact hp.1 _ (zr h') q hq hs
  | false =>
   rw[hb]at h
   cases hb':Nat.beq k1 k' with
   | true=>rw[hb']at h';cases h';exact hp.1 _ (zr h) q hs hq
   | false=>rw[hb']at h';exact za9 hp.2 h h' hn q hq hs
def qn (k:Nat):List Nat->Bool
 | []=>true
 | j::r=>cond (Nat.beq k j) false (qn k r)
def qA:List Nat->Bool
 | []=>true
 | k::r=>cond (qn k r) (qA r) false
theorem zb8 {k:Nat}:∀ {l:List Nat},qn k l=true->∀ j ∈ l,Nat.beq k j=false
 | [],_,j,h=>by cases h
 | x::r,h,j,hj=>by
  simp only[qn]at h
  cases hb:Nat.beq k x with
  | true=>rw[hb]at h;cases h
  | false =>
   rw[hb]at h
   rcases zpA.1 hj with rfl | hj
   . exact hb
   exact zb8 h j hj
def Has (H' H:Hp):Prop:=∀ x ∈ H',hget H x.1=some x.2
theorem Has.of {H' H:Hp} (h:H'.map (fun x=>hget H x.1)=H'.map (fun x=>some x.2)):Has H' H:=by
 intro x hx
 have:=List.map_inj_left.1 h x hx
 exact this
theorem Has.nil {H:Hp}:Has [] H:=fun _ h=>by cases h
theorem Has.cons {H' H:Hp} {k:Nat} {e:HE} (h:hget H k=some e) (hr:Has H' H):Has ((k,e)::H') H:=fun x hx=>by
 rcases zpA.1 hx with rfl | hx
 . exact h
 exact hr x hx
theorem VI.pick {H':Hp} (h:VI Bs H w) (hs:Has H' H) (hu:qA (H'.map (·.1))=true):VI Bs H' w:=by
 refine h.few (fun x hx=>zr (hs x hx)) ?_
 induction H' with
 | nil=>exact List.Pairwise.nil
 | cons x r ih =>
  simp only[zr5,qA]at hu
  cases hf:qn x.1 (r.map (·.1)) with
  | false=>rw[hf]at hu;cases hu
  | true =>
   rw[hf]at hu
   refine zro.2 ⟨fun y hy=>?_,ih (fun y hy=>hs y (zpn _ hy)) hu⟩
   exact za9 h.apart (hs x (zpo ..)) (hs y (zpn _ hy)) (zb8 hf y.1 (zrf.2 ⟨y,hy,rfl⟩))
def HS (H:Hp) (q:Nat):Prop:=∃ x ∈ H,x.2.S q
theorem VI.here (h:VI Bs H w):VI ((w,HS H)::Bs) H w :=
 ⟨h.holds,h.loc,h.apart,h.froz,h.low,fun p hp=>by
  rcases zpA.1 hp with rfl | hp
  . exact⟨Keep.refl _ _,fun x hx q hq=>.inl ⟨x,hx,hq⟩⟩
  .
   exact h.base p hp⟩
theorem VI.drop (h:VI Bs H w) (j:Nat):VI (Bs.drop j) H w:=⟨h.holds,h.loc,h.apart,h.froz,h.low,fun p hp=>h.base p (zrh hp)⟩
theorem VI.at (h:VI Bs H w) (k:Nat) (hg:hget H k=some e):e.holds w:=h.holds _ (zr hg)
theorem VI.k0 {p:World × (Nat->Prop)} (h:VI (p::Bs) H w):Keep p.2 p.1 w:=(h.base p (zpo ..)).1
theorem VI.k1 {p q:World × (Nat->Prop)} (h:VI (p::q::Bs) H w):Keep q.2 q.1 w:=(h.base q (by simp)).1
theorem VI.k2 {p q r:World × (Nat->Prop)} (h:VI (p::q::r::Bs) H w):Keep r.2 r.1 w:=(h.base r (by simp)).1
theorem VI.k3 {p q r s:World × (Nat->Prop)} (h:VI (p::q::r::s::Bs) H w):Keep s.2 s.1 w:=(h.base s (by simp)).1
theorem VI.own {w0:World} (h:VI Bs H w) (k j:Nat) (hg:hget H k=some e) (hb:Bs[j]?=some (w0,fun _=>False)):∀ q,e.S q->w0.heap.size<=q:=fun q hq=>((h.base _ (zpl hb)).2 _ (zr hg) q hq).resolve_left (fun h=>h)
theorem VI.offF {F:Nat->Prop} {p:World->Prop} (h:VI Bs H w) (k:Nat) (hg:hget H k=some (.dat F p)):∀ b,F b->¬ HS H b:=fun b hb ⟨y,hy,hs⟩=>h.froz _ (zr hg) y hy b hb hs
theorem hdel_sub:∀ {H:Hp} {k:Nat},(zgz H k).Sublist H
 | [],_=>List.Sublist.refl _
 | (k',e)::r,k=>by
  simp only[zgz]
  cases Nat.beq k' k with
  | true=>exact List.sublist_cons_self ..
  | false=>exact hdel_sub.cons_cons _
theorem VI.del (h:VI Bs H w) (k:Nat):VI Bs (zgz H k) w:=h.few (fun _ hx=>hdel_sub.subset hx) (h.apart.sublist hdel_sub)
theorem VI.freeze (h:VI Bs H w) (hg:hget H k=some e) (he:e'.holds w) (hl:e'.loc) (hs:∀ q,¬ e'.S q) (hf:∀ b,e'.fz b->e.S b):VI Bs (yx H k e') w:=by
 have hm:=zr hg
 obtain⟨h1,h2⟩:=za8 (e':=e') (B:=w.heap.size) hg h.apart (fun q hq=>(hs q hq).elim) h.low
 have hY:∀ x ∈ yx H k e',(∀ q,x.2.S q->¬ e.S q)\/∀ q,¬ x.2.S q:=h2 (fun x=>(∀ q,x.2.S q->¬ e.S q)\/∀ q,¬ x.2.S q) (.inr hs) (fun x _ hq=>.inl hq)
 refine⟨h2 (fun x=>x.2.holds w) he (fun x hx _=>h.holds x hx),h2 (fun x=>x.2.loc) hl (fun x hx _=>h.loc x hx),h1,?_,h2 (fun x=>∀ q,x.2.S q->q<w.heap.size) (fun q hq=>(hs q hq).elim) (fun x hx _=>h.low x hx),fun p hp=>⟨(h.base p hp).1,h2 (fun x=>∀ q,x.2.S q->p.2 q\/p.1.heap.size<=q) (fun q hq=>(hs q hq).elim) (fun x hx _=>(h.base p hp).2 x hx)⟩⟩
 intro x hx y hy b hb da
 have db:¬ e.S b:=(hY y hy).elim (fun h=>h b da) (fun h=>(h b da).elim)
 rcases kB hg y hy with rfl | dc
 . exact hs b da
 rcases kB hg x hx with rfl | de
 . exact db (hf b hb)
 exact h.froz x de y dc b hb da
class Dt {α:Type} (R:Rel α):Prop where
 s:zR R
 n:qm R
instance:Dt zC:=⟨zb,yl⟩
theorem VI.dat {α:Type} {kk:Nat} {R:Rel α} [hR:Dt R] {D:Nat->Prop} {v:Value} {l:List α} (h:VI Bs H w) (k:Nat) {p:World × (Nat->Prop)} (hp:p ∈ Bs) (hk:0<kk) (hd:SlR kk R D p.1 v l) (hn:∀ b,D b->b<p.1.heap.size->¬ p.2 b) :
  VI Bs ((k,.dat (fun b=>D b/\b<p.1.heap.size) (fun w=>SlR kk R (fun b=>D b/\b<p.1.heap.size) w v l))::H) w:=by
 have hK:=(h.base p hp).1
 refine h.frz k ⟨(hd.narrow hk hR.n).keep hR.s hK (fun q hq _=>hn q hq.1 hq.2),fun q hq=>zrT hq.2 hK.size⟩ ?_ (fun _ h=>h) (fun b hb=>h.off hp hb.2 (hn b hb.1 hb.2))
 exact fun w w' T h1 h2 h3=>h1.keep hR.s h2 (fun q hq _=>h3 q hq)
end
abbrev Tgs:=List (Nat × Option (Nat × Nat))
def tgt:Tgs->Nat->Option (Nat × Nat)
 | [],_=>none
 | (k,v)::r,j=>cond (Nat.beq k j) v (tgt r j)
def tgo (A:Tgs):Operand->Option (Nat × Nat)
 | .tmp t=>tgt A t
 | _=>none
def qH (H:Hp) (k:Nat):Option (Nat × Nat):=match hget H k with
 | some (.own b _ _)=>some (b,0)
 | some (.fro b o _)=>some (b,o)
 | _=>none
def TgOk (A:Tgs) (env:Env) (H:Hp):Prop:=∀ s k off,tgt A s=some (k,off)->∃ b o,qH H k=some (b,o)/\get env s=some (.pointer (some ⟨b,o+off,none⟩))
section
variable {A:Tgs} {env:Env} {H:Hp} {d:Nat} {v:Value}
theorem TgOk.nil:TgOk [] env H:=fun _ _ _ h=>by cases h
theorem TgOk.push {g:Option (Nat × Nat)} (h:TgOk A env H) (hg:∀ k off,g=some (k,off)->∃ b o,qH H k=some (b,o)/\v=.pointer (some ⟨b,o+off,none⟩)):TgOk ((d,g)::A) ((d,v)::env) H:=by
 intro s k off hs
 simp only[tgt,get]at hs ⊢
 cases hb:Nat.beq d s with
 | true =>
  rw[hb]at hs
  obtain⟨b,o,h1,h2⟩:=hg k off hs
  exact⟨b,o,h1,by simp[h2]⟩
 | false=>rw[hb]at hs;simpa using h s k off hs
theorem TgOk.none (h:TgOk A env H):TgOk ((d,.none)::A) ((d,v)::env) H:=h.push (fun _ _ h=>by cases h)
theorem TgOk.copy {x:Operand} (h:TgOk A env H) (hx:ev env x=some v):TgOk ((d,tgo A x)::A) ((d,v)::env) H:=by
 refine h.push (fun k off hg=>?_)
 cases x with
 | tmp t =>
  obtain⟨b,o,h1,h2⟩:=h t k off hg
  have h3:get env t=some v:=hx
  rw[h2]at h3
  cases h3
  exact⟨b,o,h1,rfl⟩
 | _=>cases hg
theorem TgOk.heap {H':Hp} (h:TgOk A env H) (hh:∀ k b o,qH H k=some (b,o)->qH H' k=some (b,o)):TgOk A env H':=fun s k off hs=>by
 obtain⟨b,o,h1,h2⟩:=h s k off hs
 exact⟨b,o,hh k b o h1,h2⟩
theorem kC:∀ {H:Hp} {k j:Nat} {e e':HE},hget H k=some e->hget (yx H k e') j=cond (Nat.beq k j) (some e') (hget H j)
 | [],_,_,_,_,h=>by cases h
 | (k1,e1)::r,k,j,e,e',h=>by
  simp only[hget]at h
  simp only[yx]
  cases hb:Nat.beq k1 k with
  | true =>
   have:=zpr hb
   subst this
   simp only[cond_true,hget]
   cases Nat.beq k1 j<;>rfl
  | false =>
   rw[hb]at h
   simp only[cond_false,hget]
   rw[kC h]
   cases hj:Nat.beq k1 j with
   | true =>
    have:=zpr hj
    subst this
    cases hk:Nat.beq k k1 with
    | true=>rw[<- zpr hk,zrO]at hb;cases hb
    | false=>rfl
   | false=>rfl
theorem TgOk.set {k b t t':Nat} {cs cs':List Value} (h:TgOk A env H) (hg:hget H k=some (.own b cs t)):TgOk A env (yx H k (.own b cs' t')):=by
 refine h.heap (fun j b' o hj=>?_)
 unfold qH at hj ⊢
 rw[kC hg]
 cases hb:Nat.beq k j with
 | true =>
  have:=zpr hb
  subst this
  rw[hg]at hj
  exact hj
 | false=>exact hj
theorem TgOk.res {k:Nat} {e e':HE} (h:TgOk A env H) (hg:hget H k=some e) (hn:qH H k=.none):TgOk A env (yx H k e'):=by
 refine h.heap (fun j b' o hj=>?_)
 have hY:Nat.beq k j=false:=by
  cases hb:Nat.beq k j with
  | true=>rw[<- zpr hb,hn]at hj;cases hj
  | false=>rfl
 unfold qH at hj ⊢
 rw[kC hg,hY]
 exact hj
theorem TgOk.new {k:Nat} {e:HE} (h:TgOk A env H) (hn:hget H k=.none):TgOk A env ((k,e)::H):=by
 refine h.heap (fun j b o hj=>?_)
 unfold qH at hj ⊢
 simp only[hget]
 cases hb:Nat.beq k j with
 | true=>rw[<- zpr hb,hn]at hj;cases hj
 | false=>exact hj
def zet (env:Env) (s:Nat):Option (Nat × Nat):=match get env s with
 | some (.pointer (some ⟨b,o,.none⟩))=>some (b,o)
 | _=>.none
def jT (H:Hp):Option (Nat × Nat)->Option (Nat × Nat)
 | some (k,off)=>(match qH H k with
  | some (b,o)=>some (b,o+off)
  | .none=>.none)
 | .none=>.none
theorem TgOk.of:∀ {A:Tgs},A.map (fun p=>zet env p.1)=A.map (fun p=>jT H p.2)->A.all (fun p=>(jT H p.2).isSome)=true->TgOk A env H
 | [],_,_=>TgOk.nil
 | (s0,g)::r,h,hs=>by
  simp only[zr5,List.cons.injEq]at h
  simp only[List.all_cons,zpW]at hs
  have ih:=TgOk.of (A:=r) h.2 hs.2
  intro s k off hk
  simp only[tgt]at hk
  cases hb:Nat.beq s0 s with
  | false=>rw[hb]at hk;exact ih s k off hk
  | true =>
   rw[hb]at hk
   simp only[cond_true]at hk
   subst hk
   have he:=zpr hb
   subst he
   have h1:=h.1
   have h2:=hs.1
   simp only[jT]at h1 h2
   cases ha:qH H k with
   | none=>rw[ha]at h2;cases h2
   | some p =>
    obtain⟨b,o⟩:=p
    rw[ha]at h1
    refine⟨b,o,rfl,?_⟩
    simp only[zet]at h1
    split at h1
    .
     rename_i hg
     cases h1
     exact hg
    cases h1
end
def zij:Nat->List Value->Option (List Value)
 | 0,_=>some []
 | _+1,[]=>none
 | n+1,x::r=>match zij n r with
  | some l=>some (x::l)
  | none=>none
def zjD (k:Nat):Nat->List Value->Option (List Value)
 | 0,cs=>zij k cs
 | _+1,[]=>none
 | n+1,_::r=>zjD k n r
def zle:List Value->List Value->Option (List Value)
 | cs,[]=>some cs
 | [],_::_=>none
 | _::r,u::us=>match zle r us with
  | some l=>some (u::l)
  | none=>none
def wrE (us:List Value):Nat->List Value->Option (List Value)
 | 0,cs=>zle cs us
 | _+1,[]=>none
 | n+1,c::r=>match wrE us n r with
  | some l=>some (c::l)
  | none=>none
theorem zf7:∀ {n:Nat} {cs l:List Value},zij n cs=some l->l=cs.take n/\n<=cs.length
 | 0,cs,l,h=>by cases h;simp
 | n+1,[],l,h=>by cases h
 | n+1,x::r,l,h=>by
  simp only[zij]at h
  split at h
  .
   rename_i l' hl
   cases h
   obtain⟨h1,h2⟩:=zf7 hl
   subst h1
   exact⟨rfl,by simpa using h2⟩
  cases h
theorem zcD {k:Nat}:∀ {n:Nat} {cs l:List Value},zjD k n cs=some l->l=(cs.drop n).take k/\n+k<=cs.length
 | 0,cs,l,h=>by have:=zf7 h;simpa using this
 | n+1,[],l,h=>by cases h
 | n+1,x::r,l,h=>by
  obtain⟨h1,h2⟩:=zcD (n:=n) h
  exact⟨by simpa using h1,by simp;omega⟩
theorem zgG:∀ {us cs l:List Value},zle cs us=some l->l=us++cs.drop us.length/\us.length<=cs.length
 | [],cs,l,h=>by cases cs<;>(cases h;simp)
 | u::us,[],l,h=>by cases h
 | u::us,c::r,l,h=>by
  simp only[zle]at h
  split at h
  .
   rename_i l' hl
   cases h
   obtain⟨h1,h2⟩:=zgG hl
   subst h1
   exact⟨rfl,by simpa using h2⟩
  cases h
theorem zjE {us:List Value}:∀ {n:Nat} {cs l:List Value},wrE us n cs=some l->l=cs.take n++us++cs.drop (n+us.length)/\n+us.length<=cs.length
 | 0,cs,l,h=>by have:=zgG h;simpa using this
 | n+1,[],l,h=>by cases h
 | n+1,c::r,l,h=>by
  simp only[wrE]at h
  split at h
  .
   rename_i l' hl
   cases h
   obtain⟨h1,h2⟩:=zjE hl
   subst h1
   refine⟨?_,by simp;omega⟩
   rw[show n+1+us.length=n+us.length+1 by omega]
   simp
  cases h
def one:Value->Bool
 | .bool _=>true
 | .int _ _=>true
 | .string _=>true
 | .pointer _=>true
 | .slice _ _ _=>true
 | .map _=>true
 | .func _ _ _=>true
 | .nilFunc=>true
 | _=>false
def ones:List Value->Bool
 | []=>true
 | v::r=>cond (one v) (ones r) false
def zf8:Value->Option (List Value)
 | .agg ⟨l⟩=>(match ones l with
  | true=>some l
  | false=>none)
 | v=>(match one v with
  | true=>some [v]
  | false=>none)
theorem xQ {v:Value} (h:one v=true):v.oneCell'=true/\v.cells=#[v]:=by
 cases v<;>first | exact⟨rfl,rfl⟩ | cases h
theorem zcE:∀ {l:List Value},ones l=true->∀ u ∈ l,u.oneCell'=true
 | [],_,u,h=>by cases h
 | v::r,h,u,hu=>by
  simp only[ones]at h
  cases h1:one v with
  | false=>rw[h1]at h;cases h
  | true =>
   rw[h1]at h
   rcases zpA.1 hu with rfl | hu
   . exact(xQ h1).1
   exact zcE h u hu
theorem zgH {v:Value} {us:List Value} (h:zf8 v=some us):v.cells=us.toArray/\∀ u ∈ us,u.oneCell'=true:=by
 unfold zf8 at h
 split at h
 .
  split at h
  . rename_i h1;cases h;exact⟨rfl,zcE h1⟩
  cases h
 split at h
 .
  rename_i h1;cases h
  obtain⟨h2,h3⟩:=xQ h1
  exact⟨h3,fun u hu=>by rw[zpC]at hu;rw[hu];exact h2⟩
 cases h
abbrev Szs:=List (Nat × Nat)
def zkN:Szs->Nat->Option Nat
 | [],_=>none
 | (k,v)::r,j=>cond (Nat.beq k j) (some v) (zkN r j)
def Szs.one (P:Program) (t:TypeId):Nat->Prop
 | 0=>(∀ w,(isAgg t).run P w=.ok false w)/\∀ w,(sizeOf t).run P w=.ok 1 w
 | k+1=>(∀ w,(isAgg t).run P w=.ok true w)/\∀ w,(sizeOf t).run P w=.ok (k+1) w
def zn2 (P:Program) (Z:Szs):Prop:=∀ t k,zkN Z t=some k->Szs.one P t k
theorem zn4 {P:Program}:zn2 P []:=fun _ _ h=>by cases h
theorem zn6 {P:Program} {Z:Szs} {t k:Nat} (h:Szs.one P t k) (hZ:zn2 P Z):zn2 P ((t,k)::Z):=by
 intro t' k' h'
 simp only[zkN]at h'
 cases hb:Nat.beq t t' with
 | true=>rw[hb]at h';cases h';rw[<- zpr hb];exact h
 | false=>rw[hb]at h';exact hZ _ _ h'
def V (P:Program) (n:Nat) (Q:Exit->Act->World->Prop) (ks:List Fr) (pos:Pos) (env:Env) (A:Tgs) (H:Hp) (Bs:zF):Prop:=TgOk A env H->∀ w,VI Bs H w->G P n Q ks pos env w
def je (H:Hp) (k:Nat):Option (List Value):=match hget H k with
 | some (.own _ cs _)=>some cs
 | some (.fro _ _ cs)=>some cs
 | _=>none
def opV (T:Tab) (Z:Szs) (env:Env) (A:Tgs) (H:Hp):Op->Option (Option Prop × Value × Option (Nat × Nat))
 | .load t x=>(match tgo A x with
  | some (k,off)=>(match je H k with
   | some cs=>(match zkN Z t with
    | some 0=>(match nth cs off with
     | some v=>some (none,v,none)
     | none=>none)
    | some (s+1)=>(match zjD (s+1) off cs with
     | some l=>some (none,.agg ⟨l⟩,none)
     | none=>none)
    | none=>none)
   | none=>none)
  | none=>none)
 | .fieldAddr s x f=>(match pv T env (.fieldAddr s x f) with
  | some (ob,v)=>(match tgo A x with
   | some (k,off)=>(match zii T s with
    | some (.st offs)=>(match nth offs f with
     | some fo=>some (ob,v,some (k,off+fo))
     | none=>some (ob,v,none))
    | _=>some (ob,v,none))
   | none=>some (ob,v,none))
  | none=>none)
 | .indexAddr t x y=>(match pv T env (.indexAddr t x y) with
  | some (ob,v)=>(match tgo A x with
   | some (k,off)=>(match zii T t with
    | some (.ar _ s)=>(match y with
     | .const (.int _ i)=>some (ob,v,some (k,off+i.toNat*s))
     | _=>some (ob,v,none))
    | _=>some (ob,v,none))
   | none=>some (ob,v,none))
  | none=>none)
 | .move x=>(match ev env x with
  | some v=>(match tgo A x with
   | some g=>some (none,v,some g)
   | none=>some (none,v,none))
  | none=>none)
 | .assign x=>(match ev env x with
  | some v=>(match tgo A x with
   | some g=>some (none,v,some g)
   | none=>some (none,v,none))
  | none=>none)
 | .nilCheck x=>(match pv T env (.nilCheck x) with
  | some (ob,v)=>(match tgo A x with
   | some g=>some (ob,v,some g)
   | none=>some (ob,v,none))
  | none=>none)
 | op=>(match pv T env op with
  | some (ob,v)=>some (ob,v,none)
  | none=>none)
def zb9 (Z:Szs) (env:Env) (A:Tgs) (H:Hp) (t:TypeId) (x y:Operand):Option Hp:=match tgo A x with
 | some (k,off)=>(match hget H k with
  | some (.own b cs e)=>(match ev env y with
   | some v=>(match zf8 v with
    | some us=>(match zkN Z t with
     | some s=>(match Nat.beq us.length (cond (Nat.beq s 0) 1 s) with
      | true=>(match wrE us off cs with
       | some cs'=>some (yx H k (.own b cs' e))
       | none=>none)
      | false=>none)
     | none=>none)
    | none=>none)
   | none=>none)
  | _=>none)
 | none=>none
def zgI (T:Tab) (Z:Szs) (n:Nat) (ks:List Fr) (env:Env) (A:Tgs) (H:Hp):Pos->Option (Option Prop × List Fr × Pos × Env × Tgs × Hp)
 | .o ops (⟨some d,op,_,_,_,g⟩::r)=>(match Nat.blt d n with
  | true=>(match gd ops env g with
   | some true=>(match opV T Z env A H op with
    | some (ob,v,g)=>some (ob,ks,.o ops r,(d,v)::env,(d,g)::A,H)
    | none=>none)
   | some false=>some (none,ks,.o ops r,(d,undef)::env,(d,none)::A,H)
   | none=>none)
  | false=>none)
 | .q ops (⟨some d,op,_,_,_,g⟩::r)=>(match Nat.blt d n with
  | true=>(match gd ops env g with
   | some true=>(match opV T Z env A H op with
    | some (ob,v,g)=>some (ob,ks,.q ops r,(d,v)::env,(d,g)::A,H)
    | none=>none)
   | some false=>some (none,ks,.q ops r,(d,undef)::env,(d,none)::A,H)
   | none=>none)
  | false=>none)
 | .o ops (⟨none,.store t x y,_,_,_,g⟩::r)=>(match gd ops env g with
  | some true=>(match zb9 Z env A H t x y with
   | some H'=>some (none,ks,.o ops r,env,A,H')
   | none=>none)
  | _=>none)
 | .q _ []=>some (none,ks,.e .normal,env,A,H)
 | .o _ []=>some (none,ks,.e .normal,env,A,H)
 | .o _ _=>none
 | .q _ _=>none
 | .c x=>(match qZ T n ks env (.c x) with
  | some (ob,ks',pos',env')=>some (ob,ks',pos',env',A,H)
  | none=>none)
 | .e x=>(match qZ T n ks env (.e x) with
  | some (ob,ks',pos',env')=>some (ob,ks',pos',env',A,H)
  | none=>none)
def zdp (T:Tab) (Z:Szs) (n:Nat):Nat->Option Prop->List Fr->Pos->Env->Tgs->Hp->Option (Option Prop × List Fr × Pos × Env × Tgs × Hp)
 | 0,ob,ks,pos,env,A,H=>some (ob,ks,pos,env,A,H)
 | k+1,ob,ks,pos,env,A,H=>match zgI T Z n ks env A H pos with
  | some (none,ks',pos',env',A',H')=>zdp T Z n k ob ks' pos' env' A' H'
  | some (some p,ks',pos',env',A',H')=>zdp T Z n k (zkM ob p) ks' pos' env' A' H'
  | none=>none
section
variable {P:Program} {T:Tab} {Z:Szs} {n:Nat} {Q:Exit->Act->World->Prop} {ks ks':List Fr} {env env':Env} {w:World} {pos pos':Pos} {ob:Option Prop} {A A':Tgs} {H H':Hp} {Bs:zF} {v:Value}
theorem zba {k off:Nat} {cs:List Value} {x:Operand} (hA:TgOk A env H) (hI:VI Bs H w) (hx:tgo A x=some (k,off)) (hc:je H k=some cs):∃ b o,ev env x=some (.pointer (some ⟨b,o+off,none⟩))/\Cells w b o cs:=by
 cases x with
 | tmp t =>
  obtain⟨b,o,h1,h2⟩:=hA t k off hx
  refine⟨b,o,h2,?_⟩
  unfold qH at h1
  unfold je at hc
  cases hg:hget H k with
  | none=>rw[hg]at hc;cases hc
  | some e =>
   rw[hg]at h1 hc
   have hh:=hI.at k hg
   cases e with
   | own b' cs' e'=>cases h1;cases hc;exact Blk.cells hh
   | fro b' o' cs'=>cases h1;cases hc;exact hh.2
   | _=>cases hc
 | _=>cases hx
theorem zdq (hT:zn1 P T) (hZ:zn2 P Z) {op:Op} {g:Option (Nat × Nat)} (h:opV T Z env A H op=some (ob,v,g)) (hA:TgOk A env H) :
  (∀ d,TgOk ((d,g)::A) ((d,v)::env) H)/\∀ (_:VI Bs H w) (_:Ask ob) (dst:Option Tmp) (ty:TypeId) (ps:String) (aft:Array Edge),yA P ⟨dst,op,ty,ps,aft,none⟩ env w v w:=by
 unfold opV at h
 split at h
 .
  rename_i t x
  split at h
  .
   rename_i k off hx;split at h
   .
    rename_i cs hc;split at h
    .
     rename_i hz;split at h
     .
      rename_i hn;cases h
      refine⟨fun _=>hA.none,fun hI _ dst ty ps aft=>?_⟩
      obtain⟨b,o,h1,h2⟩:=zba hA hI hx hc
      rw[kz]at hn
      exact R.load (hZ _ _ hz).1 h1 (h2 off _ hn)
     cases h
    .
     rename_i s hz;split at h
     .
      rename_i l hl;cases h
      refine⟨fun _=>hA.none,fun hI _ dst ty ps aft=>?_⟩
      obtain⟨b,o,h1,h2⟩:=zba hA hI hx hc
      obtain⟨h3,h4⟩:=zcD hl
      refine zmj (cs:=l) (hZ _ _ hz).1 (hZ _ _ hz).2 h1 (by rw[h3,zpO,zqX];omega) (h2.part off ?_)
      intro j u hu
      rw[h3,zpQ]at hu
      split at hu
      . rw[List.getElem?_drop]at hu;exact hu
      cases hu
     cases h
    cases h
   cases h
  cases h
 .
  rename_i s x f
  split at h
  .
   rename_i ob' v' hp
   have hr:∀ (_:Ask ob') (dst:Option Tmp) (ty:TypeId) (ps:String) (aft:Array Edge),yA P ⟨dst,.fieldAddr s x f,ty,ps,aft,none⟩ env w v' w:=fun ha dst ty ps aft=>zb4 hT hp ha
   split at h
   .
    rename_i k off hx;split at h
    .
     rename_i offs ht;split at h
     .
      rename_i fo hn;cases h
      refine⟨fun d=>hA.push (fun k' off' hg=>?_),fun _=>hr⟩
      cases hg
      cases x with
      | tmp t =>
       obtain⟨b,o,h1,h2⟩:=hA t k off hx
       refine⟨b,o,h1,?_⟩
       have h3:ev env (.tmp t)=some (.pointer (some ⟨b,o+off,none⟩)):=h2
       simp only[pv,ht,hn,h3]at hp
       cases hp
       rw[zrJ]
      | _=>cases hx
     cases h;exact⟨fun _=>hA.none,fun _=>hr⟩
    cases h;exact⟨fun _=>hA.none,fun _=>hr⟩
   cases h;exact⟨fun _=>hA.none,fun _=>hr⟩
  cases h
 .
  rename_i t x y
  split at h
  .
   rename_i ob' v' hp
   have hr:∀ (_:Ask ob') (dst:Option Tmp) (ty:TypeId) (ps:String) (aft:Array Edge),yA P ⟨dst,.indexAddr t x y,ty,ps,aft,none⟩ env w v' w:=fun ha dst ty ps aft=>zb4 hT hp ha
   split at h
   .
    rename_i k off hx;split at h
    .
     rename_i ln s ht;split at h
     .
      rename_i kd i;cases h
      refine⟨fun d=>hA.push (fun k' off' hg=>?_),fun _=>hr⟩
      cases hg
      cases x with
      | tmp q =>
       obtain⟨b,o,h1,h2⟩:=hA q k off hx
       refine⟨b,o,h1,?_⟩
       have h3:ev env (.tmp q)=some (.pointer (some ⟨b,o+off,none⟩)):=h2
       simp only[pv,ht,h3]at hp
       split at hp
       .
        cases hp
        rw[zrJ]
       cases hp
      | _=>cases hx
     cases h;exact⟨fun _=>hA.none,fun _=>hr⟩
    cases h;exact⟨fun _=>hA.none,fun _=>hr⟩
   cases h;exact⟨fun _=>hA.none,fun _=>hr⟩
  cases h
 .
  split at h
  .
   rename_i v' hx
   split at h
   .
    rename_i g' hg;cases h
    have:=fun d=>hA.copy (d:=d) hx
    rw[hg]at this
    exact⟨this,fun _ _ _ _ _ _=>R.move hx⟩
   cases h;exact⟨fun _=>hA.none,fun _ _ _ _ _ _=>R.move hx⟩
  cases h
 .
  split at h
  .
   rename_i v' hx
   split at h
   .
    rename_i g' hg;cases h
    have:=fun d=>hA.copy (d:=d) hx
    rw[hg]at this
    exact⟨this,fun _ _ _ _ _ _=>R.assign hx⟩
   cases h;exact⟨fun _=>hA.none,fun _ _ _ _ _ _=>R.assign hx⟩
  cases h
 .
  rename_i x
  split at h
  .
   rename_i ob' v' hp
   have hr:∀ (_:Ask ob') (dst:Option Tmp) (ty:TypeId) (ps:String) (aft:Array Edge),yA P ⟨dst,.nilCheck x,ty,ps,aft,none⟩ env w v' w:=fun ha dst ty ps aft=>zb4 hT hp ha
   split at h
   .
    rename_i g' hg;cases h
    refine⟨fun d=>?_,fun _=>hr⟩
    have hx:ev env x=some v:=by
     simp only[pv]at hp
     split at hp
     . rename_i hx;cases hp;exact hx
     . rename_i hx;cases hp;exact hx
     cases hp
    have:=hA.copy (d:=d) hx
    rw[hg]at this
    exact this
   cases h;exact⟨fun _=>hA.none,fun _=>hr⟩
  cases h
 split at h
 .
  rename_i hp;cases h
  exact⟨fun _=>hA.none,fun _ ha dst ty ps aft=>zb4 hT hp ha⟩
 cases h
theorem zbb (hZ:zn2 P Z) {t:TypeId} {x y:Operand} (h:zb9 Z env A H t x y=some H') (hA:TgOk A env H) :
  TgOk A env H'/\∀ (_:VI Bs H w) (ty:TypeId) (ps:String) (aft:Array Edge),xZ P ⟨none,.store t x y,ty,ps,aft,none⟩ env w (fun w'=>VI Bs H' w'):=by
 unfold zb9 at h
 split at h
 .
  rename_i k off hx;split at h
  .
   rename_i b cs e hg;split at h
   .
    rename_i v hv;split at h
    .
     rename_i us hu;split at h
     .
      rename_i s hz;split at h
      .
       rename_i hl;split at h
       .
        rename_i cs' hs;cases h
        refine⟨hA.set hg,fun hI ty ps aft=>?_⟩
        obtain⟨h1,h2⟩:=zgH hu
        obtain⟨h3,h4⟩:=zjE hs
        cases x with
        | tmp tt =>
         obtain⟨b',o,h5,h6⟩:=hA tt k off hx
         unfold qH at h5
         rw[hg]at h5
         cases h5
         have hB:Blk w b cs e:=hI.at k hg
         have hY:=zpr hl
         have da:∀ w,(sizeOf t).run P w=.ok us.length w:=by
          cases s with
          | zero=>rw[hY];exact(hZ _ _ hz).2
          | succ m=>rw[hY];exact(hZ _ _ hz).2
         obtain⟨w',hr,h7,h8,h9⟩:=zmx (P:=P) (dst:=none) (ty:=ty) (pos:=ps) (aft:=aft) (g:=none) da (x:=.tmp tt) (y:=y) (env:=env) h6 hv h1 rfl h2 hB (by omega)
         refine⟨w',hr,?_⟩
         simp only[zs3]at h8
         rw[<- h3]at h8
         refine hI.set hg h9 h8 trivial (fun _ h=>h) (fun q hq=>⟨.inl hq,?_⟩)
         have hq:q=b:=hq
         rw[hq];exact h8.lt
        | _=>cases hx
       cases h
      cases h
     cases h
    cases h
   cases h
  cases h
 cases h
theorem zjX {x:Code} (h:qZ T n ks env (.c x)=some (ob,ks',pos',env')):env'=env:=by
 unfold qZ at h
 repeat' split at h
 all_goals simp_all
theorem zjY {x:Exit} (h:qZ T n ks env (.e x)=some (ob,ks',pos',env')):env'=env:=by
 unfold qZ at h
 repeat' split at h
 all_goals simp_all
theorem zdr (hT:zn1 P T) (hZ:zn2 P Z) (h:zgI T Z n ks env A H pos=some (ob,ks',pos',env',A',H')) (ha:Ask ob) (hr:V P n Q ks' pos' env' A' H' Bs):V P n Q ks pos env A H Bs:=by
 intro hA w hI
 unfold zgI at h
 split at h
 .
  split at h
  .
   rename_i hn;split at h
   .
    rename_i hg;split at h
    .
     rename_i hv;cases h
     obtain⟨h1,h2⟩:=zdq (w:=w) (Bs:=Bs) hT hZ hv hA
     exact zna hn hg (h2 hI ha _ _ _ _) (hr (h1 _) w hI)
    cases h
   . rename_i hg;cases h;exact zgE hn hg (hr hA.none w hI)
   cases h
  cases h
 .
  split at h
  .
   rename_i hn;split at h
   .
    rename_i hg;split at h
    .
     rename_i hv;cases h
     obtain⟨h1,_⟩:=zdq (w:=w) (Bs:=Bs) hT hZ hv hA
     exact znd hn hg (fun w1 da=>(zdq (w:=w1) (Bs:=Bs) hT hZ hv hA).2 (hI.ext da) ha _ _ _ _) (hr (h1 _) w hI)
    cases h
   . rename_i hg;cases h;exact zgF hn hg (hr hA.none w hI)
   cases h
  cases h
 .
  split at h
  .
   rename_i hg;split at h
   .
    rename_i hv;cases h
    obtain⟨h1,h2⟩:=zbb (w:=w) (Bs:=Bs) hZ hv hA
    exact zmw hg (h2 hI _ _ _) (fun w' hY=>hr h1 w' hY)
   cases h
  cases h
 . cases h;exact znh (fun w' hY=>hr hA w' (hI.ext hY))
 . cases h;exact WO.nil (hr hA w hI)
 . cases h
 . cases h
 .
  split at h
  .
   rename_i h1;cases h
   have:=zjX h1
   subst this
   exact zaK hT h1 ha (hr hA w hI)
  cases h
 split at h
 .
  rename_i h1;cases h
  have:=zjY h1
  subst this
  exact zaK hT h1 ha (hr hA w hI)
 cases h
theorem zaM (hT:zn1 P T) (hZ:zn2 P Z):∀ (k:Nat) (ob ob':Option Prop) (ks:List Fr) (pos:Pos) (env:Env) (A:Tgs) (H:Hp),zdp T Z n k ob ks pos env A H=some (ob',ks',pos',env',A',H')->Ask ob'->Ask ob/\(V P n Q ks' pos' env' A' H' Bs->V P n Q ks pos env A H Bs)
 | 0,ob,ob',ks,pos,env,A,H,h,ha=>by cases h;exact⟨ha,fun h=>h⟩
 | k+1,ob,ob',ks,pos,env,A,H,h,ha=>by
  unfold zdp at h
  split at h
  .
   rename_i h1
   obtain⟨h2,h3⟩:=zaM hT hZ k _ _ _ _ _ _ _ h ha
   exact⟨h2,fun hr=>zdr hT hZ h1 trivial (h3 hr)⟩
  .
   rename_i h1
   obtain⟨h2,h3⟩:=zaM hT hZ k _ _ _ _ _ _ _ h ha
   obtain⟨h4,h5⟩:=h2.of_and
   exact⟨h4,fun hr=>zdr hT hZ h1 h5 (h3 hr)⟩
  cases h
theorem V.go (hT:zn1 P T) (hZ:zn2 P Z) (k:Nat) (h:zdp T Z n k none ks pos env A H=some (none,ks',pos',env',A',H')) (hr:V P n Q ks' pos' env' A' H' Bs):V P n Q ks pos env A H Bs:=(zaM hT hZ k _ _ _ _ _ _ _ h trivial).2 hr
theorem V.goA (hT:zn1 P T) (hZ:zn2 P Z) (k:Nat) {p:Prop} (h:zdp T Z n k none ks pos env A H=some (some p,ks',pos',env',A',H')) (hp:p) (hr:V P n Q ks' pos' env' A' H' Bs):V P n Q ks pos env A H Bs:=(zaM hT hZ k _ _ _ _ _ _ _ h hp).2 hr
end
open Go.RowKit
section
variable {P:Program} {n:Nat} {Q:Exit->Act->World->Prop} {ks:List Fr} {env:Env} {pos:Pos} {A:Tgs} {H:Hp} {Bs:zF} {ops:Array Oper} {rest:List Oper} {v:Value}
variable {d:Nat} {op:Op} {ty:TypeId} {ps:String} {aft:Array Edge} {g:Option (Nat × Bool)}
theorem znE {w:World} (h:V P n Q ks pos env [] [] [(w,fun _=>False)]):G P n Q ks pos env w:=h TgOk.nil w (VI.nil w)
theorem TgOk.lit {p:Value} (h:TgOk A env H) (hv:get env d=some v) (hp:v=p):TgOk A ((d,p)::env) H:=by
 intro s k off hs
 obtain⟨b,o,h1,h2⟩:=h s k off hs
 refine⟨b,o,h1,?_⟩
 simp only[get]
 cases hb:Nat.beq d s with
 | true=>rw[<- zpr hb,hv,hp]at h2;simpa using h2
 | false=>exact h2
theorem V.sp (d:Nat) {p:Prop} [Decidable p] (h:get env d=some (.bool (decide p))) (h1:p->V P n Q ks pos ((d,.bool true)::env) A H Bs) (h2:¬ p->V P n Q ks pos ((d,.bool false)::env) A H Bs):V P n Q ks pos env A H Bs :=
 fun hA w hI=>G.sp d h (fun hp=>h1 hp (hA.lit h (by rw[zpw hp])) w hI) (fun hp=>h2 hp (hA.lit h (by rw[zpx hp])) w hI)
theorem V.sb (d:Nat) {b:Bool} (h:get env d=some (.bool b)) (h1:b=true->V P n Q ks pos ((d,.bool true)::env) A H Bs) (h2:b=false->V P n Q ks pos ((d,.bool false)::env) A H Bs):V P n Q ks pos env A H Bs :=
 fun hA w hI=>zn8 d h (fun hp=>h1 hp (hA.lit h (by rw[hp])) w hI) (fun hp=>h2 hp (hA.lit h (by rw[hp])) w hI)
theorem znF {p:Prop} (h1:p->V P n Q ks pos env A H Bs) (h2:¬ p->V P n Q ks pos env A H Bs):V P n Q ks pos env A H Bs:=by
 by_cases h:p
 . exact h1 h
 exact h2 h
theorem zlG {t:Nat} {x y:Code} {p:Prop} [Decidable p] (h:get env t=some (.bool (decide p))) (h1:p->V P n Q ks (.c x) ((t,.bool true)::env) A H Bs) (h2:¬ p->V P n Q ks (.c y) ((t,.bool false)::env) A H Bs):V P n Q ks (.c (.cond (.tmp t) x y)) env A H Bs :=
 fun hA w hI=>zlF h (fun hp=>h1 hp (hA.lit h (by rw[zpw hp])) w hI) (fun hp=>h2 hp (hA.lit h (by rw[zpx hp])) w hI)
theorem V.bool {t:Nat} {x y:Code} {b:Bool} (h:get env t=some (.bool b)) (h1:b=true->V P n Q ks (.c x) ((t,.bool true)::env) A H Bs) (h2:b=false->V P n Q ks (.c y) ((t,.bool false)::env) A H Bs):V P n Q ks (.c (.cond (.tmp t) x y)) env A H Bs :=
 fun hA w hI=>G.bool h (fun hp=>h1 hp (hA.lit h (by rw[hp])) w hI) (fun hp=>h2 hp (hA.lit h (by rw[hp])) w hI)
theorem znG {p:Prop} (hp:∀ w,VI Bs H w->p) (h:p->V P n Q ks pos env A H Bs):V P n Q ks pos env A H Bs:=fun hA w hI=>h (hp w hI) hA w hI
theorem V.eq (d:Nat) {u:Value} (h:get env d=some u) (he:u=v) (h1:V P n Q ks pos ((d,v)::env) A H Bs):V P n Q ks pos env A H Bs :=
 fun hA w hI=>G.sub (Sub.lit (by rw[h,he])) (h1 (hA.lit h he) w hI)
theorem znb (hn:(Nat.blt d n,gd ops env g)=(true,some true)) (hr:∀ w,VI Bs H w->yA P ⟨some d,op,ty,ps,aft,none⟩ env w v w) (h:V P n Q ks (.o ops rest) ((d,v)::env) ((d,none)::A) H Bs):V P n Q ks (.o ops (⟨some d,op,ty,ps,aft,g⟩::rest)) env A H Bs:=by
 simp only[Prod.mk.injEq]at hn
 exact fun hA w hI=>zna hn.1 hn.2 (hr w hI) (h hA.none w hI)
theorem znH (k:Nat) {cs:List Value} {e:TypeId} {u:Nat->Value} (hn:(Nat.blt d n,gd ops env g,(hget H k).isNone)=(true,some true,true)) (hm:∀ w,VI Bs H w->yH P ⟨some d,op,ty,ps,aft,none⟩ env w (fun r w'=>∃ b,r=u b/\New w cs e b w'))
  (h:∀ b,V P n Q ks (.o ops rest) ((d,u b)::env) ((d,none)::A) ((k,.own b cs e)::H) Bs):V P n Q ks (.o ops (⟨some d,op,ty,ps,aft,g⟩::rest)) env A H Bs:=by
 simp only[Prod.mk.injEq,zs7]at hn
 refine fun hA w hI=>zmr hn.1 hn.2.1 (hm w hI) ?_
 rintro _ w' ⟨b,rfl,hb,hs,hB,hk⟩
 refine h b (TgOk.none (hA.new hn.2.2)) w' (hI.new hk k hB trivial (fun _ h=>h) (fun q hq=>?_))
 have hq:q=b:=hq
 omega
theorem znJ (k:Nat) {cs:List Value} {e:TypeId} (hn:(Nat.blt d n,gd ops env g,(hget H k).isNone)=(true,some true,true)) (hm:∀ w,VI Bs H w->yH P ⟨some d,op,ty,ps,aft,none⟩ env w (fun r w'=>∃ b,r=.pointer (some ⟨b,0,none⟩)/\New w cs e b w'))
  (h:∀ b,V P n Q ks (.o ops rest) ((d,.pointer (some ⟨b,0,none⟩))::env) ((d,some (k,0))::A) ((k,.own b cs e)::H) Bs):V P n Q ks (.o ops (⟨some d,op,ty,ps,aft,g⟩::rest)) env A H Bs:=by
 simp only[Prod.mk.injEq,zs7]at hn
 refine fun hA w hI=>zmr hn.1 hn.2.1 (hm w hI) ?_
 rintro _ w' ⟨b,rfl,hb,hs,hB,hk⟩
 refine h b ((hA.new hn.2.2).push (fun k' off hg=>?_)) w' (hI.new hk k hB trivial (fun _ h=>h) (fun q hq=>?_))
 .
  cases hg
  exact⟨b,0,by simp[qH,hget,],rfl⟩
 have hq:q=b:=hq
 omega
theorem V.alloc (k:Nat) {e:TypeId} {z:Value} {cs:List Value} (hz:∀ w,(zeroValue e).run P w=.ok z w) (hn:(Nat.blt d n,gd ops env g,(hget H k).isNone)=(true,some true,true)) (hc:z.cells=cs.toArray)
  (h:∀ b,V P n Q ks (.o ops rest) ((d,.pointer (some ⟨b,0,none⟩))::env) ((d,some (k,0))::A) ((k,.own b cs e)::H) Bs):V P n Q ks (.o ops (⟨some d,.alloc e,ty,ps,aft,g⟩::rest)) env A H Bs :=
 znJ k hn (fun _ _=>M.alloc hz hc) h
theorem V.box (k:Nat) {e:TypeId} {x:Operand} {cs:List Value} (hn:(Nat.blt d n,gd ops env g,(hget H k).isNone,ev env x)=(true,some true,true,some v)) (hc:v.cells=cs.toArray)
  (h:∀ b,V P n Q ks (.o ops rest) ((d,.pointer (some ⟨b,0,none⟩))::env) ((d,some (k,0))::A) ((k,.own b cs e)::H) Bs):V P n Q ks (.o ops (⟨some d,.box e x,ty,ps,aft,g⟩::rest)) env A H Bs:=by
 simp only[Prod.mk.injEq]at hn
 exact znJ k (by rw[hn.1,hn.2.1,hn.2.2.1]) (fun _ _=>M.box hn.2.2.2 hc) h
theorem znL (s k off:Nat) (h:zet env s=jT H (some (k,off))) (hs:(jT H (some (k,off))).isSome=true) (h1:V P n Q ks pos env ((s,some (k,off))::A) H Bs):V P n Q ks pos env A H Bs:=by
 refine fun hA w hI=>h1 (fun s' k' off' hk=>?_) w hI
 simp only[tgt]at hk
 cases hb:Nat.beq s s' with
 | false=>rw[hb]at hk;exact hA s' k' off' hk
 | true =>
  rw[hb]at hk
  cases hk
  have:=TgOk.of (A:=[(s,some (k,off))]) (env:=env) (H:=H) (by simpa using h) (by simpa using hs)
  exact this s' k off (by simp[tgt,hb])
theorem V.fro (k:Nat) {p:World × (Nat->Prop)} {b o:Nat} {cs:List Value} (hn:hget H k=none) (hp:p ∈ Bs) (hb:b<p.1.heap.size) (hY:¬ p.2 b) (hc:Cells p.1 b o cs) (h:V P n Q ks pos env A ((k,.fro b o cs)::H) Bs):V P n Q ks pos env A H Bs :=
 fun hA w hI=>h (hA.new hn) w (hI.fro k hp hb hY hc)
theorem znN (k:Nat) {t e:TypeId} {kk b o l c:Nat} {x y:Operand} {ao:Option Addr} {kd:IntKind} {i:Int} {cs:List Value} (hu:∀ w,(underlying t).run P w=.ok (.slice e) w) (hs:∀ w,(sizeOf e).run P w=.ok kk w)
  (hn:(Nat.blt d n,gd ops env g,ev env x,ev env y)=(true,some true,some (.slice ao l c),some (.int kd i))) (hY:ao=some ⟨b,o,none⟩) (h0:0<=i/\i<l) (j:Nat) (hj:i=(j:Int)) (hk:hget H k=some (.fro b (o+j*kk) cs))
  (h:V P n Q ks (.o ops rest) ((d,.pointer (some ⟨b,o+j*kk,none⟩))::env) ((d,some (k,0))::A) H Bs):V P n Q ks (.o ops (⟨some d,.indexAddr t x y,ty,ps,aft,g⟩::rest)) env A H Bs:=by
 simp only[Prod.mk.injEq]at hn
 subst hj
 refine fun hA w hI=>zna hn.1 hn.2.1 (zmh hu hs hn.2.2.1 hn.2.2.2 hY h0) (h (hA.push (fun k' off hg=>?_)) w hI)
 cases hg
 exact⟨b,o+j*kk,by simp[qH,hk],rfl⟩
theorem znQ (k:Nat) {t e:TypeId} {kk b o l c:Nat} {x y:Operand} {ao:Option Addr} {kd:IntKind} {i:Int} {cs:List Value} (hu:∀ w,(underlying t).run P w=.ok (.slice e) w) (hs:∀ w,(sizeOf e).run P w=.ok kk w)
  (hn:(Nat.blt d n,gd ops env g,ev env x,ev env y)=(true,some true,some (.slice ao l c),some (.int kd i))) (hY:ao=some ⟨b,o,none⟩) (h0:0<=i/\i<l) (j:Nat) (hj:i=(j:Int)) (hk:hget H k=some (.fro b (o+j*kk) cs))
  (h:V P n Q ks (.q ops rest) ((d,.pointer (some ⟨b,o+j*kk,none⟩))::env) ((d,some (k,0))::A) H Bs):V P n Q ks (.q ops (⟨some d,.indexAddr t x y,ty,ps,aft,g⟩::rest)) env A H Bs:=by
 simp only[Prod.mk.injEq]at hn
 subst hj
 refine fun hA w hI=>znd hn.1 hn.2.1 (fun _ _=>zmh hu hs hn.2.2.1 hn.2.2.2 hY h0) (h (hA.push (fun k' off hg=>?_)) w hI)
 cases hg
 exact⟨b,o+j*kk,by simp[qH,hk],rfl⟩
theorem zmz (k:Nat) {t e:TypeId} {kk by' m:Nat} {z:Value} {x y:Operand} {kl kc:IntKind} {zs:List Value} (hu:P.underlying t=some (.slice e)) (he:(P.info? e).map (fun i=>(i.zero,i.size,i.bytes))=some (some z,kk,by'))
  (hn:(Nat.blt d n,gd ops env g,(hget H k).isNone,ev env x,ev env y)=(true,some true,true,some (.int kl (m:Int)),some (.int kc (m:Int)))) (hb:by'*m<=281474976710656) (hm:m<=9223372036854775807) (hz:madeCells z.cells (m*kk)=zs.toArray) (hl:zs.length=m*kk)
  (h:∀ b,V P n Q ks (.o ops rest) ((d,.slice (some ⟨b,0,none⟩) m m)::env) ((d,none)::A) ((k,.row e kk (.slice (some ⟨b,0,none⟩) m m) m zs)::H) Bs):V P n Q ks (.o ops (⟨some d,.makeSlice t x y,ty,ps,aft,g⟩::rest)) env A H Bs:=by
 simp only[Prod.mk.injEq,zs7]at hn
 refine fun hA w hI=>zmr hn.1 hn.2.1 (zmy hu he hn.2.2.2.1 hn.2.2.2.2 hb hm hz) ?_
 rintro _ w' ⟨b,rfl,hb,hs,hB,hk⟩
 refine h b (TgOk.none (hA.new hn.2.2.1)) w' (hI.new hk k ?_ trivial (fun _ h=>h) (fun q hq=>?_))
 .
  have:=ye (k:=kk) (n:=m) (cap:=m) hB (zpJ _) hm hl
  rw[<- hl,zpp]at this
  exact this
 have hq:some b=some q:=hq
 cases hq
 omega
theorem znR (k:Nat) (t:TypeId) (kk:Nat) (hn:(hget H k).isNone=true) (h:V P n Q ks pos env A ((k,.row t kk (.slice none 0 0) 0 [])::H) Bs):V P n Q ks pos env A H Bs:=by
 rw[zs7]at hn
 exact fun hA w hI=>h (hA.new hn) w (hI.new (Keep.refl _ w) k (jS w t kk) trivial (fun _ h=>h) (fun q hq=>by cases hq))
theorem znS (k kb:Nat) {t e:TypeId} {kk by':Nat} {z:Value} {x y:Operand} {m b j c:Nat} {xs cs:List Value} {tb:TypeId} (hu:P.underlying t=some (.slice e)) (he:(P.info? e).map (fun i=>(i.zero,i.size,i.bytes))=some (some z,kk,by')) (da:z.cells.size=kk) (db:0<kk)
  (hn:(Nat.blt d n,gd ops env g,hget H k,ev env x,hget H kb,ev env y,ones cs)=(true,some true,some (.row e kk v m xs),some v,some (.own b cs tb),some (.slice (some ⟨b,0,none⟩) j c),true)) (hl:cs.length=j*kk) (hY:m+j<=9223372036854775807) (dc:(m+j)*by'<=140737488355328)
  (h:∀ u,V P n Q ks (.o ops rest) ((d,u)::env) ((d,none)::A) (yx H k (.row e kk u (m+j) (xs++cs))) Bs):V P n Q ks (.o ops (⟨some d,.call ⟨.builtin .append,#[x,y],#[t,t]⟩,ty,ps,aft,g⟩::rest)) env A H Bs:=by
 simp only[Prod.mk.injEq]at hn
 obtain⟨h1,h2,h3,h4,h5,h6,h7⟩:=hn
 refine fun hA w hI=>zmr h1 h2 (M.append hu he da db h4 h6 (hI.at k h3) hl (Cells.add (Blk.cells (hI.at kb h5))) (zcE h7) hY dc) ?_
 rintro u w' ⟨ho,hf,hk,_⟩
 refine h u (TgOk.none (hA.res h3 ?_)) w' (hI.set h3 hk ho trivial (fun _ h=>h) (fun q hq=>⟨?_,xB ho hq⟩))
 . simp[qH,h3]
 rcases hf with hf | ⟨g',hf,de⟩
 . exact .inl (by show v.ownBlock=some q;rw[<- hf];exact hq)
 have hq:u.ownBlock=some q:=hq
 rw[hf]at hq;cases hq;exact .inr de
theorem znU (k:Nat) {t:TypeId} {kk m:Nat} {xs:List Value} (hn:hget H k=some (.row t kk v m xs)) (hm:0<m) (h:∀ b c,v=.slice (some ⟨b,0,none⟩) m c->m<=c->V P n Q ks pos env A H Bs):V P n Q ks pos env A H Bs:=by
 intro hA w hI
 have ho:w.ownsRow 0 t kk v m xs:=hI.at k hn
 rcases ho.2 with⟨_,hY⟩ | ⟨b,cap,cur,hv,_,_,hc,_⟩
 . omega
 exact h b cap hv hc hA w hI
theorem jf {w:World} {t:TypeId} {kk b m c:Nat} {xs:List Value} (h:w.ownsRow 0 t kk (.slice (some ⟨b,0,none⟩) m c) m xs):∃ sp,Blk w b (xs++sp) t/\m<=c/\c<=9223372036854775807/\(xs++sp).length=c*kk:=by
 obtain⟨h1,h2⟩:=h
 rcases h2 with⟨h2,_⟩ | ⟨b',cap,cur,hv,_,hg,hc,da,db,hY⟩
 . cases h2
 cases hv
 refine⟨cur.toList.drop (m*kk),?_,hc,by simpa[maxLen] using da,?_⟩
 .
  rw[<- hY,zrD]
  unfold Blk
  simpa using hg
 rw[<- hY,zrD]
 simpa using db
theorem znW (k:Nat) {t tl:TypeId} {x:Operand} {b o m c:Nat} {xs:List Value} (j:Nat) (ht:∀ w,(isAgg tl).run P w=.ok false w) (hn:(Nat.blt d n,gd ops env g,hget H k,ev env x)=(true,some true,some (.row t 1 (.slice (some ⟨b,0,none⟩) m c) m xs),some (.pointer (some ⟨b,o,none⟩)))) (hj:o=j) (hv:xs[j]?=some v)
  (h:V P n Q ks (.o ops rest) ((d,v)::env) ((d,none)::A) H Bs):V P n Q ks (.o ops (⟨some d,.load tl x,ty,ps,aft,g⟩::rest)) env A H Bs:=by
 simp only[Prod.mk.injEq]at hn
 subst hj
 refine fun hA w hI=>zna hn.1 hn.2.1 (R.load ht hn.2.2.2 ?_) (h hA.none w hI)
 obtain⟨sp,hB,_⟩:=jf (show w.ownsRow 0 t 1 _ m xs from hI.at k hn.2.2.1)
 have:=hB.cells o v (by rw[zpK (zpy.1 hv).1];exact hv)
 simpa using this
theorem V.rlQ (k:Nat) {t tl:TypeId} {x:Operand} {b o m c:Nat} {xs:List Value} (j:Nat) (ht:∀ w,(isAgg tl).run P w=.ok false w) (hn:(Nat.blt d n,gd ops env g,hget H k,ev env x)=(true,some true,some (.row t 1 (.slice (some ⟨b,0,none⟩) m c) m xs),some (.pointer (some ⟨b,o,none⟩)))) (hj:o=j) (hv:xs[j]?=some v)
  (h:V P n Q ks (.q ops rest) ((d,v)::env) ((d,none)::A) H Bs):V P n Q ks (.q ops (⟨some d,.load tl x,ty,ps,aft,g⟩::rest)) env A H Bs:=by
 simp only[Prod.mk.injEq]at hn
 subst hj
 refine fun hA w hI=>znd hn.1 hn.2.1 (fun w1 hY=>R.load ht hn.2.2.2 ?_) (h hA.none w hI)
 obtain⟨sp,hB,_⟩:=jf (show w1.ownsRow 0 t 1 _ m xs from (hI.ext hY).at k hn.2.2.1)
 have:=hB.cells o v (by rw[zpK (zpy.1 hv).1];exact hv)
 simpa using this
theorem znX (k:Nat) {t tl:TypeId} {x y:Operand} {b o m c:Nat} {xs:List Value} (j:Nat) (hs:∀ w,(sizeOf tl).run P w=.ok 1 w) (hn:(gd ops env g,hget H k,ev env x,ev env y,one v)=(some true,some (.row t 1 (.slice (some ⟨b,0,none⟩) m c) m xs),some (.pointer (some ⟨b,o,none⟩)),some v,true)) (hj:o=j) (hl:j<xs.length)
  (h:V P n Q ks (.o ops rest) env A (yx H k (.row t 1 (.slice (some ⟨b,0,none⟩) m c) m (xs.set j v))) Bs):V P n Q ks (.o ops (⟨none,.store tl x y,ty,ps,aft,g⟩::rest)) env A H Bs:=by
 simp only[Prod.mk.injEq]at hn
 obtain⟨h1,h2,h3,h4,h5⟩:=hn
 subst hj
 intro hA w hI
 have ho:w.ownsRow 0 t 1 (.slice (some ⟨b,0,none⟩) m c) m xs:=hI.at k h2
 obtain⟨sp,hB,hc,db,hY⟩:=jf ho
 have dc:xs.length=m:=by have:=ho.1;omega
 obtain⟨h6,h7⟩:=xQ h5
 refine zmw h1 (M.store hs h3 h4 h6 h7 hB (by rw[zps];omega)) ?_
 rintro w' ⟨de,da,hk⟩
 refine h (hA.res h2 (by simp[qH,h2])) w' (hI.set h2 (hk.mono (fun q _ hq=>by have hq:q=b:=hq;subst hq;exact rfl)) ?_ trivial (fun _ h=>h) (fun q hq=>⟨.inl hq,?_⟩))
 .
  have:=ye (k:=1) (n:=m) (cap:=c) da hc db (by rw[zr2];exact hY)
  rw[zrv _ _ hl,zrY,zrE (by rw[zr2];omega),zrF (by rw[zr2];omega)]at this
  exact this
 have hq:some b=some q:=hq
 cases hq
 exact da.lt
theorem znZ {f:FuncId} {xs:Array Operand} {ts:Array TypeId} {vs:List Value} (hf:∀ args w,(callFunc f args).run P w=.ok (.enter f args) w) (hn:(Nat.blt d n,gd ops env g,jc env xs.toList)=(true,some true,some vs))
  (hc:∀ w,VI Bs H w->Calls P f vs.toArray w (Ret fun r w'=>r=v/\Ext w w')) (h:V P n Q ks (.o ops rest) ((d,v)::env) ((d,none)::A) H Bs):V P n Q ks (.o ops (⟨some d,.call ⟨.value (.func f),xs,ts⟩,ty,ps,aft,g⟩::rest)) env A H Bs:=by
 refine fun hA w hI=>G.call hn hf (hc w hI) ?_
 rintro _ w' ⟨rfl,hk⟩
 exact h hA.none w' (hI.ext hk)
theorem zo1 {f:FuncId} {xs:Array Operand} {ts:Array TypeId} {vs:List Value} {Φ:Value->World->World->Prop} (hf:∀ args w,(callFunc f args).run P w=.ok (.enter f args) w) (hn:(Nat.blt d n,gd ops env g,jc env xs.toList)=(true,some true,some vs))
  (hc:∀ w,VI Bs H w->Calls P f vs.toArray w (Ret fun r w'=>Φ r w w'/\Ext w w'))
  (h:∀ r w w',VI Bs H w->Ext w w'->Φ r w w'->(∀ q,HS H q->q<w.heap.size)->V P n Q ks (.o ops rest) ((d,r)::env) ((d,none)::A) H ((w',HS H)::Bs)):V P n Q ks (.o ops (⟨some d,.call ⟨.value (.func f),xs,ts⟩,ty,ps,aft,g⟩::rest)) env A H Bs:=by
 refine fun hA w hI=>G.call hn hf (hc w hI) ?_
 rintro r w' ⟨hP,hk⟩
 exact h r w w' hI hk hP (fun q ⟨x,hx,hq⟩=>hI.low x hx q hq) hA.none w' (hI.ext hk).here
theorem zo4 (k:Nat) {f:FuncId} {xs:Array Operand} {ts:Array TypeId} {vs:List Value} {e:HE} {α:Type} {E:α->HE} {Φ:Value->α->Prop} (hf:∀ args w,(callFunc f args).run P w=.ok (.enter f args) w) (hn:(Nat.blt d n,gd ops env g,jc env xs.toList,hget H k,qH H k)=(true,some true,some vs,some e,none))
  (hE:∀ x,(E x).loc/\∀ b,¬ (E x).fz b) (hc:∀ w,VI Bs H w->Calls P f vs.toArray w (Ret fun r w'=>∃ x,Φ r x/\(E x).holds w'/\Keep e.S w w'/\∀ q,(E x).S q->(e.S q\/w.heap.size<=q)/\q<w'.heap.size))
  (h:∀ r x,Φ r x->V P n Q ks (.o ops rest) ((d,r)::env) ((d,none)::A) (yx H k (E x)) Bs):V P n Q ks (.o ops (⟨some d,.call ⟨.value (.func f),xs,ts⟩,ty,ps,aft,g⟩::rest)) env A H Bs:=by
 simp only[Prod.mk.injEq]at hn
 refine fun hA w hI=>G.call (by rw[hn.1,hn.2.1,hn.2.2.1]) hf (hc w hI) ?_
 rintro r w' ⟨x,hP,hh,hk,hS⟩
 exact h r x hP (TgOk.none (hA.res hn.2.2.2.1 hn.2.2.2.2)) w' (hI.set hn.2.2.2.1 hk hh (hE x).1 (hE x).2 hS)
theorem zmE {id:Nat} {l:List Oper} (hm:P.follows .mixedOrders=true) (hB:Region.lexB .any l.toArray=true) (h:V P n Q ks (.q l.toArray l) env A H Bs):V P n Q ks (.c (.region id l.toArray true)) env A H Bs:=fun hA w hI=>zmD hm hB (h hA w hI)
theorem V.loop {σ:Type} (env':σ->Env) (A':Tgs) (H':σ->Hp) (I:σ->Prop) (μ:σ->Nat) {c:Code} (s₀:σ) (h₀:Sub (env' s₀) env) (hH:Has (H' s₀) H) (hu:∀ s,qA ((H' s).map (·.1))=true) (hY:∀ s,A'.map (fun p=>zet (env' s) p.1)=A'.map (fun p=>jT (H' s) p.2)/\A'.all (fun p=>(jT (H' s) p.2).isSome)=true) (hI:I s₀)
  (h:∀ s,I s->V P n Q (.k (zjS n env' (fun s w=>I s/\VI Bs (H' s) w) μ (μ s))::ks) (.c c) (env' s) A' (H' s) Bs):V P n Q ks (.c (.loop c)) env A H Bs :=
 fun _ _ hw=>G.loop env' (fun s w=>I s/\VI Bs (H' s) w) μ s₀ h₀ ⟨hI,hw.pick hH (hu s₀)⟩ (fun s w' hs=>h s hs.1 (TgOk.of (hY s).1 (hY s).2) w' hs.2)
theorem V.back {σ:Type} {env':σ->Env} {H':σ->Hp} {I:σ->Prop} {μ:σ->Nat} {m:Nat} {Bs0:zF} (s:σ) (h0:Sub (env' s) env) (hH:Has (H' s) H) (hI:I s) (hm:μ s<m) (j:Nat) (hB:Bs.drop j=Bs0) (hu:qA ((H' s).map (·.1))=true) :
  V P n Q (.k (zjS n env' (fun s w=>I s/\VI Bs0 (H' s) w) μ m)::ks) (.e .normal) env A H Bs:=by
 subst hB
 exact fun _ w hw=>G.back s h0 ⟨hI,(hw.drop j).pick hH hu⟩ hm
theorem V.cut {σ:Type} (env':σ->Env) (A':Tgs) (H':σ->Hp) (I:σ->Prop) {c:Code} (hY:∀ s,A'.map (fun p=>zet (env' s) p.1)=A'.map (fun p=>jT (H' s) p.2)/\A'.all (fun p=>(jT (H' s) p.2).isSome)=true)
  (h:V P n Q (.k (zjT n env' (fun s w=>I s/\VI Bs (H' s) w))::ks) (.c c) env A H Bs) (hk:∀ s,I s->V P n Q ks (.e .normal) (env' s) A' (H' s) Bs):V P n Q ks (.c c) env A H Bs :=
 fun hA w hw=>zlQ env' (fun s w=>I s/\VI Bs (H' s) w) (h hA w hw) (fun s w' hs=>hk s hs.1 (TgOk.of (hY s).1 (hY s).2) w' hs.2)
theorem zlT {σ:Type} {env':σ->Env} {H':σ->Hp} {I:σ->Prop} {Bs0:zF} (s:σ) (h0:Sub (env' s) env) (hH:Has (H' s) H) (hI:I s) (j:Nat) (hB:Bs.drop j=Bs0) (hu:qA ((H' s).map (·.1))=true) :
  V P n Q (.k (zjT n env' (fun s w=>I s/\VI Bs0 (H' s) w))::ks) (.e .normal) env A H Bs:=by
 subst hB
 exact fun _ w hw=>zlS s h0 ⟨hI,(hw.drop j).pick hH hu⟩
end
section
variable {P:Program} {fn:Func} {R:Ending->World->Prop} {n:Nat} {env:Env} {A:Tgs} {H:Hp} {Bs:zF}
theorem zlW {t:Tmp} {v:Value} (h:fn.results=#[.tmp t]) (hv:get env t=some v) (hR:∀ w,VI Bs H w->R (.returned v) w):V P n (bodyPost P fn R) [] (.e .ret) env A H Bs:=fun _ w hw=>zlV h hv (hR w hw)
theorem zlZ {t u:Tmp} {v x:Value} (h:fn.results=#[.tmp t,.tmp u]) (hv:get env t=some v) (hx:get env u=some x) (hR:∀ w,VI Bs H w->R (.returned (.tuple #[v,x])) w):V P n (bodyPost P fn R) [] (.e .ret) env A H Bs:=fun _ w hw=>zlY h hv hx (hR w hw)
theorem zaN {p:Tmp} {ty:TypeId} {k off s:Nat} {cs l:List Value} (hA:TgOk A env H) {w:World} (hw:VI Bs H w) (hp:tgt A p=some (k,off)) (hc:je H k=some cs) (hs:zjD s off cs=some l) (ht:∀ w,(isAgg ty).run P w=.ok true w) (hz:∀ w,(sizeOf ty).run P w=.ok s w) :
  ∃ a,get env p=some (.pointer (some a))/\(loadVar ty a).run P w=.ok (.agg l.toArray) w:=by
 obtain⟨b,o,h1,h2⟩:=zba (x:=.tmp p) hA hw hp hc
 obtain⟨h3,h4⟩:=zcD hs
 refine⟨_,h1,zn ht hz (by rw[h3,zpO,zqX];omega) (h2.part off ?_)⟩
 intro j u hu
 rw[h3,zpQ]at hu
 split at hu
 . rw[List.getElem?_drop]at hu;exact hu
 cases hu
theorem zm4 {p:Tmp} {ty:TypeId} {k off s:Nat} {cs l:List Value} (h:fn.results=#[.cell p ty]) (ht:∀ w,(isAgg ty).run P w=.ok true w) (hz:∀ w,(sizeOf ty).run P w=.ok s w) (hn:tgt A p=some (k,off)) (hc:je H k=some cs) (hs:zjD s off cs=some l) (hR:∀ w,VI Bs H w->R (.returned (.agg l.toArray)) w):V P n (bodyPost P fn R) [] (.e .ret) env A H Bs:=fun hA w hw=>by
 obtain⟨a,h1,h2⟩:=zaN hA hw hn hc hs ht hz
 exact zm3 h h1 h2 (hR w hw)
theorem zm7 {p t:Tmp} {ty:TypeId} {k off s:Nat} {cs l:List Value} {x:Value} (h:fn.results=#[.cell p ty,.tmp t]) (ht:∀ w,(isAgg ty).run P w=.ok true w) (hz:∀ w,(sizeOf ty).run P w=.ok s w) (hn:tgt A p=some (k,off)) (hc:je H k=some cs) (hs:zjD s off cs=some l) (hx:get env t=some x) (hR:∀ w,VI Bs H w->R (.returned (.tuple #[.agg l.toArray,x])) w):V P n (bodyPost P fn R) [] (.e .ret) env A H Bs:=fun hA w hw=>by
 obtain⟨a,h1,h2⟩:=zaN hA hw hn hc hs ht hz
 exact zm6 h h1 h2 hx (hR w hw)
theorem zma (h:fn.results=#[]) (hR:∀ w,VI Bs H w->R (.returned (.tuple #[])) w):V P n (bodyPost P fn R) [] (.e .normal) env A H Bs:=fun _ w hw=>zm9 h (hR w hw)
end
def VD (P:Program) (n:Nat) (Q:Exit->Act->World->Prop) (ks:List Fr) (ops:Array Oper) (Hs:Hp) (B0:zF) (L:List Nat) (fuel:Nat) (listed:Array Bool) (env:Env) (A:Tgs) (H:Hp) (Bs:zF):Prop :=
 Has Hs H->TgOk A env H->∀ w,VI Bs H w->WD P n ops (QK P Q ks) (VI B0 Hs) L fuel listed env w
section
variable {P:Program} {T:Tab} {Z:Szs} {n:Nat} {Q:Exit->Act->World->Prop} {ks:List Fr} {env env':Env} {A A':Tgs} {H Hs:Hp} {Bs B0:zF} {ops:Array Oper} {v:Value} {L:List Nat} {fuel:Nat} {listed:Array Bool}
theorem zmH {id:Nat} {l:List Oper} (Hs:Hp) (L:List Nat) (hm:P.follows .mixedOrders=true) (hH:Has Hs H) (h:VD P n Q ks l.toArray Hs Bs L l.length (Array.replicate l.length false) env A H Bs):V P n Q ks (.c (.region id l.toArray true)) env A H Bs :=
 fun hA _ hI=>zmG (VI Bs Hs) L hm (fun w' hY _=>h hH hA w' (hI.ext hY))
theorem VD.done (hr:Region.ready .any ops listed=[]) (h:V P n Q ks (.e .normal) env A H Bs):VD P n Q ks ops Hs B0 L fuel listed env A H Bs:=fun _ hA w hI=>G.done hr (h hA w hI) fuel
def zcb:Op->Bool
 | .load _ _=>true
 | _=>false
def zcF (ops:Array Oper) (L:List Nat):List Nat->Array Bool->Bool
 | [],_=>true
 | i::r,listed=>Region.noSelect ops&&Region.free .any ops listed i&&(Region.ready .any ops listed).contains i&&(L.all (jv .any ops i)&&!L.contains i || !(match ops[i]? with
   | some o=>zcb o.op
   | none=>true))&&zcF ops L r (listed.setIfInBounds i true)
def zfR (T:Tab) (Z:Szs) (n:Nat) (ops:Array Oper) (Hs:Hp):List Nat->Option Prop->Env->Tgs->Option (Option Prop × Env × Tgs)
 | [],ob,env,A=>some (ob,env,A)
 | i::r,ob,env,A=>match nth ops.toList i with
  | some ⟨some d,op,_,_,_,g⟩=>(match Nat.blt d n with
   | true=>(match gd ops env g with
    | some true=>(match opV T Z env A Hs op with
     | some (none,v,g)=>zfR T Z n ops Hs r ob ((d,v)::env) ((d,g)::A)
     | some (some p,v,g)=>zfR T Z n ops Hs r (zkM ob p) ((d,v)::env) ((d,g)::A)
     | none=>none)
    | some false=>zfR T Z n ops Hs r ob ((d,undef)::env) ((d,none)::A)
    | none=>none)
   | false=>none)
  | _=>none
theorem zds {op:Op} {ob:Option Prop} {g:Option (Nat × Nat)} (hl:zcb op=false) {H':Hp} (h:opV T Z env A H op=some (ob,v,g)):opV T Z env A H' op=some (ob,v,g):=by
 unfold opV at h ⊢
 split at h
 . cases hl
 all_goals exact h
theorem zjF {op:Op} {ob:Option Prop} {g:Option (Nat × Nat)} (hl:zcb op=false) (h:opV T Z env A H op=some (ob,v,g)):pv T env op=some (ob,v):=by
 unfold opV at h
 split at h
 . cases hl
 .
  split at h
  .
   rename_i hp
   rw[hp]
   repeat' split at h
   all_goals (cases h;rfl)
  cases h
 .
  split at h
  .
   rename_i hp
   rw[hp]
   repeat' split at h
   all_goals (cases h;rfl)
  cases h
 .
  split at h
  .
   rename_i hx
   simp only[pv,hx]
   split at h<;>(cases h;rfl)
  cases h
 .
  split at h
  .
   rename_i hx
   simp only[pv,hx]
   split at h<;>(cases h;rfl)
  cases h
 .
  split at h
  .
   rename_i hp
   rw[hp]
   split at h<;>(cases h;rfl)
  cases h
 split at h
 . rename_i hp;cases h;exact hp
 cases h
theorem zik (hZ:zn2 P Z) {t:TypeId} {x:Operand} {ob:Option Prop} {g:Option (Nat × Nat)} (h:opV T Z env A Hs (.load t x)=some (ob,v,g)) (hA:TgOk A env H) (hH:Has Hs H) :
  ob=none/\g=none/\∀ w,VI B0 Hs w->∀ (dst:Option Tmp) (ty:TypeId) (ps:String) (aft:Array Edge) (gg:Option (Nat × Bool)),yA P ⟨dst,.load t x,ty,ps,aft,gg⟩ env w v w:=by
 have key:∀ {k off:Nat} {cs:List Value} {w:World},VI B0 Hs w->tgo A x=some (k,off)->je Hs k=some cs->∃ b o,ev env x=some (.pointer (some ⟨b,o+off,none⟩))/\Cells w b o cs:=by
  intro k off cs w hI hx hc
  cases x with
  | tmp t =>
   obtain⟨b,o,h1,h2⟩:=hA t k off hx
   refine⟨b,o,h2,?_⟩
   unfold je at hc
   cases hg:hget Hs k with
   | none=>rw[hg]at hc;cases hc
   | some e =>
    rw[hg]at hc
    have h3:=hH _ (zr hg)
    unfold qH at h1
    rw[h3]at h1
    have hh:=hI.at k hg
    cases e with
    | own b' cs' e'=>cases h1;cases hc;exact Blk.cells hh
    | fro b' o' cs'=>cases h1;cases hc;exact hh.2
    | _=>cases hc
  | _=>cases hx
 simp only[opV]at h
 split at h
 .
  rename_i k off hx;split at h
  .
   rename_i cs hc;split at h
   .
    rename_i hz;split at h
    .
     rename_i hn;cases h
     refine⟨rfl,rfl,fun w hI dst ty ps aft gg=>?_⟩
     obtain⟨b,o,h1,h2⟩:=key hI hx hc
     rw[kz]at hn
     exact R.load (hZ _ _ hz).1 h1 (h2 off _ hn)
    cases h
   .
    rename_i s hz;split at h
    .
     rename_i l hl;cases h
     refine⟨rfl,rfl,fun w hI dst ty ps aft gg=>?_⟩
     obtain⟨b,o,h1,h2⟩:=key hI hx hc
     obtain⟨h3,h4⟩:=zcD hl
     refine zmj (cs:=l) (hZ _ _ hz).1 (hZ _ _ hz).2 h1 (by rw[h3,zpO,zqX];omega) (h2.part off ?_)
     intro j u hu
     rw[h3,zpQ]at hu
     split at hu
     . rw[List.getElem?_drop]at hu;exact hu
     cases hu
    cases h
   cases h
  cases h
 cases h
theorem zbc (hT:zn1 P T) (hZ:zn2 P Z) (hB:∀ w,VI Bs H w->VI B0 Hs w):∀ (is:List Nat) (ob ob':Option Prop) (listed:Array Bool) (env:Env) (A:Tgs),zcF ops L is listed=true->zfR T Z n ops Hs is ob env A=some (ob',env',A')->Ask ob' ->
  Ask ob/\(VD P n Q ks ops Hs B0 L fuel (zdk is listed) env' A' H Bs->VD P n Q ks ops Hs B0 L (addN is fuel) listed env A H Bs)
 | [],ob,ob',listed,env,A,_,h,ha=>by cases h;exact⟨ha,fun h=>h⟩
 | i::r,ob,ob',listed,env,A,hc,h,ha=>by
  unfold zcF at hc
  rw[zpW,zpW]at hc
  obtain⟨⟨da,hY⟩,db⟩:=hc
  unfold zfR at h
  split at h
  .
   rename_i d op ty ps aft g hj
   have hi:ops[i]?=some ⟨some d,op,ty,ps,aft,g⟩:=by rw[kz]at hj;simpa using hj
   have take:∀ {ob1:Option Prop} {v:Value} {g1:Option (Nat × Nat)},Nat.blt d n=true->gd ops env g=some true->opV T Z env A Hs op=some (ob1,v,g1)->Ask ob1->VD P n Q ks ops Hs B0 L (addN r fuel) (listed.setIfInBounds i true) ((d,v)::env) ((d,g1)::A) H Bs->VD P n Q ks ops Hs B0 L (addN r fuel+1) listed env A H Bs:=by
    intro ob1 v g1 hn hg hv dc hr hH hA w hI
    cases hl:zcb op with
    | true =>
     cases op with
     | load t x =>
      obtain⟨e1,e2,h3⟩:=zik (B0:=B0) hZ hv hA hH
      subst e1;subst e2
      rw[hi]at hY
      simp only[zcb,zq6,zq9,zpW]at hY
      refine zn0 i hi ?_ O hn (hB w hI) (.inl ⟨qv hg,fun w' de=>h3 w' de _ _ _ _ _⟩) (hr hH hA.none w hI)
      rw[da,hY.1,hY.2];rfl
     | _=>cases hl
    | false =>
     have df:=zds (H':=H) hl hv
     obtain⟨h1,_⟩:=zdq (w:=w) (Bs:=Bs) hT hZ df hA
     refine zno i hi da O hn (.inl ⟨qv hg,fun w' nn a dg=>?_⟩) (hr hH (h1 _) w hI)
     exact zb4 hT (zjF hl hv) dc nn a dg
   split at h
   .
    rename_i hn;split at h
    .
     rename_i hg;split at h
     .
      rename_i hv
      obtain⟨h2,h3⟩:=zbc hT hZ hB r _ _ _ _ _ db h ha
      exact⟨h2,fun hr=>take hn hg hv trivial (h3 hr)⟩
     .
      rename_i hv
      obtain⟨h2,h3⟩:=zbc hT hZ hB r _ _ _ _ _ db h ha
      obtain⟨h4,h5⟩:=h2.of_and
      exact⟨h4,fun hr=>take hn hg hv h5 (h3 hr)⟩
     cases h
    .
     rename_i hg
     obtain⟨h2,h3⟩:=zbc hT hZ hB r _ _ _ _ _ db h ha
     exact⟨h2,fun hr hH hA w hI=>zno i hi da O hn (.inr ⟨qv hg,rfl⟩) (h3 hr hH hA.none w hI)⟩
    cases h
   cases h
  cases h
theorem VD.ps (hT:zn1 P T) (hZ:zn2 P Z) (is:List Nat) (j:Nat) (hc:zcF ops L is listed=true) (hB:Bs.drop j=B0) (hv:zfR T Z n ops Hs is none env A=some (none,env',A')) (hY:qA (Hs.map (·.1))=true) (h:VD P n Q ks ops Hs B0 L fuel (zdk is listed) env' A' H Bs):VD P n Q ks ops Hs B0 L (addN is fuel) listed env A H Bs:=by
 subst hB
 intro hH
 exact(zbc hT hZ (fun w hw=>(hw.drop j).pick hH hY) is _ _ _ _ _ hc hv trivial).2 h hH
theorem znt (hT:zn1 P T) (hZ:zn2 P Z) (is:List Nat) (j:Nat) {p:Prop} (hc:zcF ops L is listed=true) (hB:Bs.drop j=B0) (hv:zfR T Z n ops Hs is none env A=some (some p,env',A')) (hY:qA (Hs.map (·.1))=true) (hp:p) (h:VD P n Q ks ops Hs B0 L fuel (zdk is listed) env' A' H Bs):VD P n Q ks ops Hs B0 L (addN is fuel) listed env A H Bs:=by
 subst hB
 intro hH
 exact(zbc hT hZ (fun w hw=>(hw.drop j).pick hH hY) is _ _ _ _ _ hc hv hp).2 h hH
theorem VD.sp (d:Nat) {p:Prop} [Decidable p] (h:get env d=some (.bool (decide p))) (h1:p->VD P n Q ks ops Hs B0 L fuel listed ((d,.bool true)::env) A H Bs) (h2:¬ p->VD P n Q ks ops Hs B0 L fuel listed ((d,.bool false)::env) A H Bs):VD P n Q ks ops Hs B0 L fuel listed env A H Bs :=
 fun hH hA w hI=>WD.sp d h (fun hp=>h1 hp hH (hA.lit h (by rw[zpw hp])) w hI) (fun hp=>h2 hp hH (hA.lit h (by rw[zpx hp])) w hI)
theorem znO (i k:Nat) {d:Nat} {ty:TypeId} {ps:String} {aft:Array Edge} {g:Option (Nat × Bool)} {t e:TypeId} {kk b o l c:Nat} {x y:Operand} {ao:Option Addr} {kd:IntKind} {ii:Int} {cs:List Value} (hu:∀ w,(underlying t).run P w=.ok (.slice e) w) (hs:∀ w,(sizeOf e).run P w=.ok kk w)
  (hi:ops[i]?=some ⟨some d,.indexAddr t x y,ty,ps,aft,g⟩) (hc:zcF ops L [i] listed=true)
  (hn:(Nat.blt d n,gd ops env g,ev env x,ev env y)=(true,some true,some (.slice ao l c),some (.int kd ii))) (hY:ao=some ⟨b,o,none⟩) (h0:0<=ii/\ii<l) (j:Nat) (hj:ii=(j:Int)) (hk:hget H k=some (.fro b (o+j*kk) cs))
  (h:VD P n Q ks ops Hs B0 L fuel (listed.setIfInBounds i true) ((d,.pointer (some ⟨b,o+j*kk,none⟩))::env) ((d,some (k,0))::A) H Bs):VD P n Q ks ops Hs B0 L (fuel+1) listed env A H Bs:=by
 simp only[Prod.mk.injEq]at hn
 subst hj
 unfold zcF at hc
 rw[zpW,zpW]at hc
 refine fun hH hA w hI=>zno i hi hc.1.1 O hn.1 (.inl ⟨qv hn.2.1,fun w' nn a da=>zmh hu hs hn.2.2.1 hn.2.2.2 hY h0 nn a da⟩) (h hH (hA.push (fun k' off hg=>?_)) w hI)
 cases hg
 exact⟨b,o+j*kk,by simp[qH,hk],rfl⟩
theorem zo6 (i:Nat) {d:Nat} {op:Op} {ty:TypeId} {ps:String} {aft:Array Edge} {g:Option (Nat × Bool)} (hi:ops[i]?=some ⟨some d,op,ty,ps,aft,g⟩) (hr:Region.ready .any ops listed=[i]) (hn:Nat.blt d n=true) (hg:gd ops env g=some true) {w:World} {R:Value->World->Prop}
  (hm:Does P ⟨some d,op,ty,ps,aft,g⟩ env w R) (h:∀ v w',R v w'->VI B0 Hs w'/\WD P n ops (QK P Q ks) (VI B0 Hs) L fuel (listed.setIfInBounds i true) ((d,v)::env) w'):WD P n ops (QK P Q ks) (VI B0 Hs) L (fuel+1) listed env w:=by
 intro a ha
 refine⟨fun h0=>(by rw[hr]at h0;cases h0),fun k hk=>?_⟩
 rw[hr]at hk
 have:k=i:=by simpa using hk
 subst this
 unfold wpOp
 simp only[hi]
 rw[zpv (qv hg a ha)]
 refine .inl ?_
 unfold Oper.wp
 rcases hm with⟨v,w',hY,hR⟩ | ⟨f,args,hm,hc⟩
 .
  rw[hY n a ha,Oper.upon_value]
  exact⟨fun _ _=>(h v w' hR).1,(h v w' hR).2 _ (ha.put hn)⟩
 rw[hm n a ha,Oper.upon_enter]
 refine hc.mono ?_
 rintro e w' ⟨v,rfl,hR⟩
 exact⟨fun _ _=>(h v w' hR).1,(h v w' hR).2 _ (ha.put hn)⟩
theorem zo8 (i:Nat) {op:Op} {ty:TypeId} {ps:String} {aft:Array Edge} {g:Option (Nat × Bool)} (hi:ops[i]?=some ⟨none,op,ty,ps,aft,g⟩) (hr:Region.ready .any ops listed=[i]) (hg:gd ops env g=some true) {w:World} {R:World->Prop}
  (hm:xZ P ⟨none,op,ty,ps,aft,g⟩ env w R) (h:∀ w',R w'->VI B0 Hs w'/\WD P n ops (QK P Q ks) (VI B0 Hs) L fuel (listed.setIfInBounds i true) env w'):WD P n ops (QK P Q ks) (VI B0 Hs) L (fuel+1) listed env w:=by
 intro a ha
 refine⟨fun h0=>(by rw[hr]at h0;cases h0),fun k hk=>?_⟩
 rw[hr]at hk
 have:k=i:=by simpa using hk
 subst this
 unfold wpOp
 simp only[hi]
 rw[zpv (qv hg a ha)]
 refine .inl ?_
 obtain⟨w',hY,hR⟩:=hm
 unfold Oper.wp
 rw[hY n a ha,Oper.upon_skip]
 exact⟨fun _ _=>(h w' hR).1,(h w' hR).2 _ ha.put0⟩
theorem Has.new {k:Nat} {e:HE} (h:Has Hs H) (hn:hget H k=none):Has Hs ((k,e)::H):=fun x hx=>by
 have h1:=h x hx
 simp only[hget]
 cases hb:Nat.beq k x.1 with
 | true=>rw[<- zpr hb,hn]at h1;cases h1
 | false=>exact h1
theorem Has.set {k:Nat} {e e':HE} (h:Has Hs H) (hg:hget H k=some e) (hf:qn k (Hs.map (·.1))=true):Has Hs (yx H k e'):=fun x hx=>by
 rw[kC hg,zb8 hf x.1 (zrf.2 ⟨x,hx,rfl⟩)]
 exact h x hx
section
variable {d:Nat} {op:Op} {ty:TypeId} {ps:String} {aft:Array Edge} {g:Option (Nat × Bool)}
theorem znK (i k j:Nat) {cs:List Value} {e:TypeId} (hi:ops[i]?=some ⟨some d,op,ty,ps,aft,g⟩) (hr:Region.ready .any ops listed=[i]) (hn:(Nat.blt d n,gd ops env g,(hget H k).isNone,qA (Hs.map (·.1)))=(true,some true,true,true)) (hB:Bs.drop j=B0)
  (hm:∀ w,VI Bs H w->yH P ⟨some d,op,ty,ps,aft,g⟩ env w (fun r w'=>∃ b,r=.pointer (some ⟨b,0,none⟩)/\New w cs e b w'))
  (h:∀ b,VD P n Q ks ops Hs B0 L fuel (listed.setIfInBounds i true) ((d,.pointer (some ⟨b,0,none⟩))::env) ((d,some (k,0))::A) ((k,.own b cs e)::H) Bs):VD P n Q ks ops Hs B0 L (fuel+1) listed env A H Bs:=by
 simp only[Prod.mk.injEq,zs7]at hn
 subst hB
 refine fun hH hA w hI=>zo6 i hi hr hn.1 hn.2.1 (.inl (hm w hI)) ?_
 rintro _ w' ⟨b,rfl,hb,hs,hB,hk⟩
 have hY:VI Bs ((k,.own b cs e)::H) w':=hI.new hk k hB trivial (fun _ h=>h) (fun q hq=>by have hq:q=b:=hq;omega)
 have da:Has Hs ((k,.own b cs e)::H):=hH.new hn.2.2.1
 refine⟨(hY.drop j).pick da hn.2.2.2,h b da ((hA.new hn.2.2.1).push (fun k' off hg=>?_)) w' hY⟩
 cases hg
 exact⟨b,0,by simp[qH,hget,],rfl⟩
theorem znI (i k j:Nat) {cs:List Value} {e:TypeId} {u:Nat->Value} (hi:ops[i]?=some ⟨some d,op,ty,ps,aft,g⟩) (hr:Region.ready .any ops listed=[i]) (hn:(Nat.blt d n,gd ops env g,(hget H k).isNone,qA (Hs.map (·.1)))=(true,some true,true,true)) (hB:Bs.drop j=B0)
  (hm:∀ w,VI Bs H w->yH P ⟨some d,op,ty,ps,aft,g⟩ env w (fun r w'=>∃ b,r=u b/\New w cs e b w'))
  (h:∀ b,VD P n Q ks ops Hs B0 L fuel (listed.setIfInBounds i true) ((d,u b)::env) ((d,none)::A) ((k,.own b cs e)::H) Bs):VD P n Q ks ops Hs B0 L (fuel+1) listed env A H Bs:=by
 simp only[Prod.mk.injEq,zs7]at hn
 subst hB
 refine fun hH hA w hI=>zo6 i hi hr hn.1 hn.2.1 (.inl (hm w hI)) ?_
 rintro _ w' ⟨b,rfl,hb,hs,hB,hk⟩
 have hY:VI Bs ((k,.own b cs e)::H) w':=hI.new hk k hB trivial (fun _ h=>h) (fun q hq=>by have hq:q=b:=hq;omega)
 have da:Has Hs ((k,.own b cs e)::H):=hH.new hn.2.2.1
 exact⟨(hY.drop j).pick da hn.2.2.2,h b da (TgOk.none (hA.new hn.2.2.1)) w' hY⟩
theorem VD.st (i j:Nat) (hZ:zn2 P Z) {t:TypeId} {x y:Operand} {H':Hp} (hi:ops[i]?=some ⟨none,.store t x y,ty,ps,aft,g⟩) (hr:Region.ready .any ops listed=[i]) (hn:(gd ops env g,zb9 Z env A H t x y,qA (Hs.map (·.1)))=(some true,some H',true)) (hB:Bs.drop j=B0) (hY:Hs.map (fun x=>hget H' x.1)=Hs.map (fun x=>some x.2))
  (h:VD P n Q ks ops Hs B0 L fuel (listed.setIfInBounds i true) env A H' Bs):VD P n Q ks ops Hs B0 L (fuel+1) listed env A H Bs:=by
 simp only[Prod.mk.injEq]at hn
 subst hB
 intro hH hA w hI
 obtain⟨h1,h2⟩:=zbb (w:=w) (Bs:=Bs) hZ hn.2.1 hA
 refine zo8 i hi hr hn.1 (h2 hI ty ps aft) (fun w' da=>⟨(da.drop j).pick (Has.of hY) hn.2.2,h (Has.of hY) h1 w' da⟩)
theorem zo0 (i j:Nat) {f:FuncId} {xs:Array Operand} {ts:Array TypeId} {vs:List Value} (hf:∀ args w,(callFunc f args).run P w=.ok (.enter f args) w) (hi:ops[i]?=some ⟨some d,.call ⟨.value (.func f),xs,ts⟩,ty,ps,aft,g⟩) (hr:Region.ready .any ops listed=[i]) (hn:(Nat.blt d n,gd ops env g,jc env xs.toList,qA (Hs.map (·.1)))=(true,some true,some vs,true)) (hB:Bs.drop j=B0)
  (hc:∀ w,VI Bs H w->Calls P f vs.toArray w (Ret fun r w'=>r=v/\Ext w w')) (h:VD P n Q ks ops Hs B0 L fuel (listed.setIfInBounds i true) ((d,v)::env) ((d,none)::A) H Bs):VD P n Q ks ops Hs B0 L (fuel+1) listed env A H Bs:=by
 simp only[Prod.mk.injEq]at hn
 subst hB
 refine fun hH hA w hI=>zo6 i hi hr hn.1 hn.2.1 (.inr ⟨f,_,F.call hf (xd hn.2.2.1),hc w hI⟩) ?_
 rintro _ w' ⟨rfl,hk⟩
 exact⟨((hI.ext hk).drop j).pick hH hn.2.2.2,h hH hA.none w' (hI.ext hk)⟩
theorem zo2 (i j:Nat) {f:FuncId} {xs:Array Operand} {ts:Array TypeId} {vs:List Value} {Φ:Value->World->World->Prop} (hf:∀ args w,(callFunc f args).run P w=.ok (.enter f args) w) (hi:ops[i]?=some ⟨some d,.call ⟨.value (.func f),xs,ts⟩,ty,ps,aft,g⟩) (hr:Region.ready .any ops listed=[i]) (hn:(Nat.blt d n,gd ops env g,jc env xs.toList,qA (Hs.map (·.1)))=(true,some true,some vs,true)) (hB:Bs.drop j=B0)
  (hc:∀ w,VI Bs H w->Calls P f vs.toArray w (Ret fun r w'=>Φ r w w'/\Ext w w'))
  (h:∀ r w w',VI Bs H w->Ext w w'->Φ r w w'->(∀ q,HS H q->q<w.heap.size)->VD P n Q ks ops Hs B0 L fuel (listed.setIfInBounds i true) ((d,r)::env) ((d,none)::A) H ((w',HS H)::Bs)):VD P n Q ks ops Hs B0 L (fuel+1) listed env A H Bs:=by
 simp only[Prod.mk.injEq]at hn
 subst hB
 refine fun hH hA w hI=>zo6 i hi hr hn.1 hn.2.1 (.inr ⟨f,_,F.call hf (xd hn.2.2.1),hc w hI⟩) ?_
 rintro r w' ⟨hP,hk⟩
 exact⟨((hI.ext hk).drop j).pick hH hn.2.2.2,h r w w' hI hk hP (fun q ⟨x,hx,hq⟩=>hI.low x hx q hq) hH hA.none w' (hI.ext hk).here⟩
theorem zo5 (i k j:Nat) {f:FuncId} {xs:Array Operand} {ts:Array TypeId} {vs:List Value} {e:HE} {α:Type} {E:α->HE} {Φ:Value->α->Prop} (hf:∀ args w,(callFunc f args).run P w=.ok (.enter f args) w) (hi:ops[i]?=some ⟨some d,.call ⟨.value (.func f),xs,ts⟩,ty,ps,aft,g⟩) (hr:Region.ready .any ops listed=[i]) (hn:(Nat.blt d n,gd ops env g,jc env xs.toList,hget H k,qH H k,qA (Hs.map (·.1)),qn k (Hs.map (·.1)))=(true,some true,some vs,some e,none,true,true)) (hB:Bs.drop j=B0)
  (hE:∀ x,(E x).loc/\∀ b,¬ (E x).fz b) (hc:∀ w,VI Bs H w->Calls P f vs.toArray w (Ret fun r w'=>∃ x,Φ r x/\(E x).holds w'/\Keep e.S w w'/\∀ q,(E x).S q->(e.S q\/w.heap.size<=q)/\q<w'.heap.size))
  (h:∀ r x,Φ r x->VD P n Q ks ops Hs B0 L fuel (listed.setIfInBounds i true) ((d,r)::env) ((d,none)::A) (yx H k (E x)) Bs):VD P n Q ks ops Hs B0 L (fuel+1) listed env A H Bs:=by
 simp only[Prod.mk.injEq]at hn
 subst hB
 refine fun hH hA w hI=>zo6 i hi hr hn.1 hn.2.1 (.inr ⟨f,_,F.call hf (xd hn.2.2.1),hc w hI⟩) ?_
 rintro r w' ⟨x,hP,hh,hk,hS⟩
 have hY:=hI.set hn.2.2.2.1 hk hh (hE x).1 (hE x).2 hS
 have da:Has Hs (yx H k (E x)):=hH.set hn.2.2.2.1 hn.2.2.2.2.2.2
 exact⟨(hY.drop j).pick da hn.2.2.2.2.2.1,h r x hP da (TgOk.none (hA.res hn.2.2.2.1 hn.2.2.2.2.1)) w' hY⟩
theorem znT (i k kb j:Nat) {t e:TypeId} {kk by':Nat} {z:Value} {x y:Operand} {m b l c:Nat} {xs cs:List Value} {tb:TypeId} (hu:P.underlying t=some (.slice e)) (he:(P.info? e).map (fun i=>(i.zero,i.size,i.bytes))=some (some z,kk,by')) (dc:z.cells.size=kk) (de:0<kk)
  (hi:ops[i]?=some ⟨some d,.call ⟨.builtin .append,#[x,y],#[t,t]⟩,ty,ps,aft,g⟩) (hr:Region.ready .any ops listed=[i]) (hB:Bs.drop j=B0)
  (hn:(Nat.blt d n,gd ops env g,hget H k,ev env x,hget H kb,ev env y,ones cs,qA (Hs.map (·.1)),qn k (Hs.map (·.1)))=(true,some true,some (.row e kk v m xs),some v,some (.own b cs tb),some (.slice (some ⟨b,0,none⟩) l c),true,true,true)) (hl:cs.length=l*kk) (hY:m+l<=9223372036854775807) (df:(m+l)*by'<=140737488355328)
  (h:∀ u,VD P n Q ks ops Hs B0 L fuel (listed.setIfInBounds i true) ((d,u)::env) ((d,none)::A) (yx H k (.row e kk u (m+l) (xs++cs))) Bs):VD P n Q ks ops Hs B0 L (fuel+1) listed env A H Bs:=by
 simp only[Prod.mk.injEq]at hn
 subst hB
 obtain⟨h1,h2,h3,h4,h5,h6,h7,h8,h9⟩:=hn
 refine fun hH hA w hI=>zo6 i hi hr h1 h2 (.inl (M.append hu he dc de h4 h6 (hI.at k h3) hl (Cells.add (Blk.cells (hI.at kb h5))) (zcE h7) hY df)) ?_
 rintro u w' ⟨ho,hf,hk,_⟩
 have da:VI Bs (yx H k (.row e kk u (m+l) (xs++cs))) w':=hI.set h3 hk ho trivial (fun _ h=>h) (fun q hq=>⟨by
  rcases hf with hf | ⟨g',hf,dg⟩
  . exact .inl (by show v.ownBlock=some q;rw[<- hf];exact hq)
  .
   have hq:u.ownBlock=some q:=hq
   rw[hf]at hq;cases hq;exact .inr dg,xB ho hq⟩)
 have db:Has Hs (yx H k (.row e kk u (m+l) (xs++cs))):=hH.set h3 h9
 exact⟨(da.drop j).pick db h8,h u db (TgOk.none (hA.res h3 (by simp[qH,h3]))) w' da⟩
theorem znY (i k j:Nat) {t tl:TypeId} {x y:Operand} {b o m c:Nat} {xs:List Value} (q:Nat) (hs:∀ w,(sizeOf tl).run P w=.ok 1 w) (hi:ops[i]?=some ⟨none,.store tl x y,ty,ps,aft,g⟩) (hr:Region.ready .any ops listed=[i]) (hB:Bs.drop j=B0)
  (hn:(gd ops env g,hget H k,ev env x,ev env y,one v,qA (Hs.map (·.1)),qn k (Hs.map (·.1)))=(some true,some (.row t 1 (.slice (some ⟨b,0,none⟩) m c) m xs),some (.pointer (some ⟨b,o,none⟩)),some v,true,true,true)) (hj:o=q) (hl:q<xs.length)
  (h:VD P n Q ks ops Hs B0 L fuel (listed.setIfInBounds i true) env A (yx H k (.row t 1 (.slice (some ⟨b,0,none⟩) m c) m (xs.set q v))) Bs):VD P n Q ks ops Hs B0 L (fuel+1) listed env A H Bs:=by
 simp only[Prod.mk.injEq]at hn
 obtain⟨h1,h2,h3,h4,h5,h8,h9⟩:=hn
 subst hj
 subst hB
 intro hH hA w hI
 have ho:w.ownsRow 0 t 1 (.slice (some ⟨b,0,none⟩) m c) m xs:=hI.at k h2
 obtain⟨sp,hB,hc,dc,de⟩:=jf ho
 have df:xs.length=m:=by have:=ho.1;omega
 obtain⟨h6,h7⟩:=xQ h5
 refine zo8 i hi hr h1 (M.store hs h3 h4 h6 h7 hB (by rw[zps];omega)) ?_
 rintro w' ⟨dg,hY,hk⟩
 have da:VI Bs (yx H k (.row t 1 (.slice (some ⟨b,0,none⟩) m c) m (xs.set o v))) w':=by
  refine hI.set h2 (hk.mono (fun q _ hq=>by have hq:q=b:=hq;subst hq;exact rfl)) ?_ trivial (fun _ h=>h) (fun q hq=>⟨.inl hq,?_⟩)
  .
   have:=ye (k:=1) (n:=m) (cap:=c) hY hc dc (by rw[zr2];omega)
   rw[zrv _ _ hl,zrY,zrE (by rw[zr2];omega),zrF (by rw[zr2];omega)]at this
   exact this
  have hq:some b=some q:=hq
  cases hq
  exact hY.lt
 have db:=Has.set (e':=.row t 1 (.slice (some ⟨b,0,none⟩) m c) m (xs.set o v)) hH h2 h9
 exact⟨(da.drop j).pick db h8,h db (hA.res h2 (by simp[qH,h2])) w' da⟩
theorem znc (i j:Nat) (hi:ops[i]?=some ⟨some d,op,ty,ps,aft,g⟩) (hr:Region.ready .any ops listed=[i]) (hn:(Nat.blt d n,gd ops env g,qA (Hs.map (·.1)))=(true,some true,true)) (hB:Bs.drop j=B0) (hm:∀ w,VI Bs H w->yA P ⟨some d,op,ty,ps,aft,g⟩ env w v w)
  (h:VD P n Q ks ops Hs B0 L fuel (listed.setIfInBounds i true) ((d,v)::env) ((d,none)::A) H Bs):VD P n Q ks ops Hs B0 L (fuel+1) listed env A H Bs:=by
 simp only[Prod.mk.injEq]at hn
 subst hB
 refine fun hH hA w hI=>zo6 i hi hr hn.1 hn.2.1 (R:=fun u w'=>u=v/\w'=w) (.inl ⟨v,w,hm w hI,rfl,rfl⟩) ?_
 rintro _ _ ⟨rfl,rfl⟩
 exact⟨(hI.drop j).pick hH hn.2.2,h hH hA.none _ hI⟩
end
def VDx (P:Program) (n:Nat) (Q:Exit->Act->World->Prop) (ks:List Fr) (ops:Array Oper) (S:World->Prop) (L:List Nat) (fuel:Nat) (listed:Array Bool) (env:Env) (A:Tgs) (H:Hp) (Bs:zF):Prop :=
 TgOk A env H->∀ w,VI Bs H w->WD P n ops (QK P Q ks) S L fuel listed env w
section
variable {S:World->Prop}
theorem VDx.done (hr:Region.ready .any ops listed=[]) (h:V P n Q ks (.e .normal) env A H Bs):VDx P n Q ks ops S L fuel listed env A H Bs:=fun hA w hI=>G.done hr (h hA w hI) fuel
theorem zo9 (i:Nat) (hZ:zn2 P Z) {t:TypeId} {x y:Operand} {H':Hp} {ty:TypeId} {ps:String} {aft:Array Edge} {g:Option (Nat × Bool)} (hi:ops[i]?=some ⟨none,.store t x y,ty,ps,aft,g⟩) (hr:Region.ready .any ops listed=[i]) (hn:(gd ops env g,zb9 Z env A H t x y,L.contains i)=(some true,some H',true))
  (h:VDx P n Q ks ops (VI B0 Hs) L fuel (listed.setIfInBounds i true) env A H' Bs):VD P n Q ks ops Hs B0 L (fuel+1) listed env A H Bs:=by
 simp only[Prod.mk.injEq]at hn
 intro hH hA w hI a ha
 obtain⟨h1,h2⟩:=zbb (w:=w) (Bs:=Bs) hZ hn.2.1 hA
 obtain⟨w',da,hR⟩:=h2 hI ty ps aft
 refine⟨fun h0=>(by rw[hr]at h0;cases h0),fun k hk=>?_⟩
 rw[hr]at hk
 have:k=i:=by simpa using hk
 subst this
 unfold wpOp
 simp only[hi]
 rw[zpv (qv hn.1 a ha)]
 refine .inl ?_
 unfold Oper.wp
 have hY:(execOp a.eval ⟨none,.store t x y,ty,ps,aft,g⟩).run P w=.ok .skip w':=da n a ha
 rw[hY,Oper.upon_skip]
 exact⟨fun hc _=>absurd (by simpa using hn.2.2) hc,h h1 w' hR _ ha.put0⟩
theorem znq (hT:zn1 P T) (hZ:zn2 P Z):∀ (is:List Nat) (ob ob':Option Prop) (listed:Array Bool) (env:Env) (A:Tgs),zf6 ops is listed=true->zfR T Z n ops [] is ob env A=some (ob',env',A')->Ask ob' ->
  Ask ob/\(VDx P n Q ks ops S L fuel (zdk is listed) env' A' H Bs->VDx P n Q ks ops S L (addN is fuel) listed env A H Bs)
 | [],ob,ob',listed,env,A,_,h,ha=>by cases h;exact⟨ha,fun h=>h⟩
 | i::r,ob,ob',listed,env,A,hc,h,ha=>by
  unfold zf6 at hc
  rw[zpW]at hc
  unfold zfR at h
  split at h
  .
   rename_i d op ty ps aft g hj
   have hi:ops[i]?=some ⟨some d,op,ty,ps,aft,g⟩:=by rw[kz]at hj;simpa using hj
   have take:∀ {ob1:Option Prop} {v:Value} {g1:Option (Nat × Nat)},Nat.blt d n=true->gd ops env g=some true->opV T Z env A [] op=some (ob1,v,g1)->Ask ob1->VDx P n Q ks ops S L (addN r fuel) (listed.setIfInBounds i true) ((d,v)::env) ((d,g1)::A) H Bs->VDx P n Q ks ops S L (addN r fuel+1) listed env A H Bs:=by
    intro ob1 v g1 hn hg hv hY hr hA w hI
    cases hl:zcb op with
    | true =>
     cases op with
     | load t x =>
      simp only[opV]at hv
      split at hv<;>first | cases hv | (simp only[je,hget]at hv;cases hv)
     | _=>cases hl
    | false =>
     obtain⟨h1,_⟩:=zdq (w:=w) (Bs:=Bs) hT hZ (zds (H':=H) hl hv) hA
     exact zno i hi hc.1 O hn (.inl ⟨qv hg,fun w' nn a da=>zb4 hT (zjF hl hv) hY nn a da⟩) (hr (h1 _) w hI)
   split at h
   .
    rename_i hn;split at h
    .
     rename_i hg;split at h
     .
      rename_i hv
      obtain⟨h2,h3⟩:=znq hT hZ r _ _ _ _ _ hc.2 h ha
      exact⟨h2,fun hr=>take hn hg hv trivial (h3 hr)⟩
     .
      rename_i hv
      obtain⟨h2,h3⟩:=znq hT hZ r _ _ _ _ _ hc.2 h ha
      obtain⟨h4,h5⟩:=h2.of_and
      exact⟨h4,fun hr=>take hn hg hv h5 (h3 hr)⟩
     cases h
    .
     rename_i hg
     obtain⟨h2,h3⟩:=znq hT hZ r _ _ _ _ _ hc.2 h ha
     exact⟨h2,fun hr hA w hI=>zno i hi hc.1 O hn (.inr ⟨qv hg,rfl⟩) (h3 hr hA.none w hI)⟩
    cases h
   cases h
  cases h
theorem znr (hT:zn1 P T) (hZ:zn2 P Z) (is:List Nat) (hc:zf6 ops is listed=true) (hv:zfR T Z n ops [] is none env A=some (none,env',A')) (h:VDx P n Q ks ops S L fuel (zdk is listed) env' A' H Bs):VDx P n Q ks ops S L (addN is fuel) listed env A H Bs:=(znq hT hZ is _ _ _ _ _ hc hv trivial).2 h
end
end
def zjZ (env:Env):List Nat->Option Env
 | []=>some []
 | k::r=>match get env k with
  | some v=>(match zjZ env r with
   | some l=>some ((k,v)::l)
   | none=>none)
  | none=>none
def zex (H:Hp):List Nat->Option Hp
 | []=>some []
 | k::r=>match hget H k with
  | some v=>(match zex H r with
   | some l=>some ((k,v)::l)
   | none=>none)
  | none=>none
def zk0 (A:Tgs):List Nat->Option Tgs
 | []=>some []
 | k::r=>match tgt A k with
  | some v=>(match zk0 A r with
   | some l=>some ((k,some v)::l)
   | none=>none)
  | none=>none
theorem zdt {H:Hp}:∀ {ks:List Nat} {H':Hp},zex H ks=some H'->Has H' H
 | [],H',h=>by cases h;exact Has.nil
 | k::r,H',h=>by
  unfold zex at h
  split at h
  .
   rename_i v hv;split at h
   . rename_i l hl;cases h;exact Has.cons hv (zdt hl)
   cases h
  cases h
section
variable {P:Program} {T:Tab} {Z:Szs} {n:Nat} {Q:Exit->Act->World->Prop} {ks:List Fr} {pos:Pos} {env:Env} {A:Tgs} {H:Hp} {Bs:zF} {ops:Array Oper} {v:Value}
theorem zoa (k j:Nat) {w:World} {b o:Nat} {c:Value} {cs:List Value} (hn:(hget H k).isNone=true) (hp:Bs[j]?=some (w,fun _=>False)) (hc:Cells w b o (c::cs)) (h:V P n Q ks pos env A ((k,.fro b o (c::cs))::H) Bs):V P n Q ks pos env A H Bs :=
 V.fro k (by simpa using hn) (zpl hp) (zpm _ _ (hc 0 c rfl)) (fun h=>h) hc h
theorem zob (k j:Nat) {w:World} {S:Nat->Prop} {b o:Nat} {c:Value} {cs:List Value} (hn:(hget H k).isNone=true) (hp:Bs[j]?=some (w,S)) (hS:¬ S b) (hc:Cells w b o (c::cs)) (h:V P n Q ks pos env A ((k,.fro b o (c::cs))::H) Bs):V P n Q ks pos env A H Bs :=
 V.fro k (by simpa using hn) (zpl hp) (zpm _ _ (hc 0 c rfl)) hS hc h
theorem V.dat {α:Type} {kk:Nat} {R:Rel α} [Dt R] {D:Nat->Prop} {l:List α} (k j:Nat) {w0:World} {S:Nat->Prop} (hn:(hget H k).isNone=true) (hp:Bs[j]?=some (w0,S)) (hk:Nat.blt 0 kk=true) (hd:SlR kk R D w0 v l) (hS:∀ b,D b->b<w0.heap.size->¬ S b)
  (h:V P n Q ks pos env A ((k,.dat (fun b=>D b/\b<w0.heap.size) (fun w=>SlR kk R (fun b=>D b/\b<w0.heap.size) w v l))::H) Bs):V P n Q ks pos env A H Bs :=
 fun hA w' hI=>h (hA.new (by simpa using hn)) w' (by
  have h1:=hI.dat k (p:=(w0,S)) (zpl hp) (show 0<kk by simpa[Nat.blt_eq] using hk) hd hS
  exact h1)
theorem zcG:∀ {H:Hp} {k j:Nat},Nat.beq k j=false->hget (zgz H k) j=hget H j
 | [],_,_,_=>rfl
 | (k1,e1)::r,k,j,h=>by
  simp only[zgz]
  cases hb:Nat.beq k1 k with
  | true =>
   have:=zpr hb
   subst this
   simp only[hget,h,cond_false,cond_true]
  | false=>simp only[hget,cond_false];rw[zcG h]
theorem V.del (k:Nat) (hn:qH H k=none) (h:V P n Q ks pos env A (zgz H k) Bs):V P n Q ks pos env A H Bs:=by
 refine fun hA w hI=>h (hA.heap (fun j b o hj=>?_)) w (hI.del k)
 have hY:Nat.beq k j=false:=by
  cases hb:Nat.beq k j with
  | true=>rw[<- zpr hb,hn]at hj;cases hj
  | false=>rfl
 unfold qH at hj ⊢
 rw[zcG hY]
 exact hj
theorem zf9:∀ {H:Hp} {k:Nat} {e':HE},∀ y ∈ zgz H k,y ∈ yx H k e'
 | [],_,_,_,h=>by cases h
 | (k1,e1)::r,k,e',y,h=>by
  simp only[zgz]at h
  simp only[yx]
  cases hb:Nat.beq k1 k with
  | true=>rw[hb]at h;exact zpn _ h
  | false =>
   rw[hb]at h
   rcases zpA.1 h with rfl | h
   . exact zpo ..
   exact zpn _ (zf9 y h)
theorem zfa:∀ {H:Hp} {k:Nat} {e e':HE},hget H k=some e->(k,e') ∈ yx H k e'
 | [],_,_,_,h=>by cases h
 | (k1,e1)::r,k,e,e',h=>by
  simp only[hget]at h
  simp only[yx]
  cases hb:Nat.beq k1 k with
  | true=>rw[zpr hb];exact zpo ..
  | false=>rw[hb]at h;exact zpn _ (zfa h)
theorem zoc {α:Type} {R:Rel α} [Dt R] (k k2:Nat) {t:TypeId} {m:Nat} {l:List α} (enc:α->Value) (hR:∀ D w x,R D w x [enc x]) (hg:hget H k=some (.row t 1 v m (l.map enc))) (hn:(hget (zgz H k) k2).isNone=true)
  (h:V P n Q ks pos env A ((k2,.dat (fun b=>v.ownBlock=some b) (fun w=>SlR 1 R (fun b=>v.ownBlock=some b) w v l))::zgz H k) Bs):V P n Q ks pos env A H Bs:=by
 rw[zs7]at hn
 refine fun hA w hI=>?_
 have ho:w.ownsRow 0 t 1 v m (l.map enc):=hI.at k hg
 have he:HE.holds w (.dat (fun b=>v.ownBlock=some b) (fun w=>SlR 1 R (fun b=>v.ownBlock=some b) w v l)):=⟨zmM enc (fun x _=>hR _ _ x) ho (fun g hg=>hg),fun q hq=>xB ho hq⟩
 have hl:HE.loc (.dat (fun b=>v.ownBlock=some b) (fun w=>SlR 1 R (fun b=>v.ownBlock=some b) w v l)):=fun w w' T h1 h2 h3=>h1.keep Dt.s h2 (fun q hq _=>h3 q hq)
 have hF:=hI.freeze hg he hl (fun _ h=>h) (fun _ h=>h)
 have hY:TgOk A env (zgz H k):=hA.heap (fun j b o hj=>by
  have da:Nat.beq k j=false:=by
   cases hb:Nat.beq k j with
   | true=>rw[<- zpr hb]at hj;simp[qH,hg]at hj
   | false=>rfl
  unfold qH at hj ⊢
  rw[zcG da]
  exact hj)
 exact h (hY.new hn) w ((hI.del k).frz k2 he hl (fun _ h=>h) (fun b hb x hx=>hF.froz _ (zfa hg) x (zf9 x hx) b hb))
theorem zod (k:Nat) {e e':HE} (hg:hget H k=some e) (he:e=e') (h:V P n Q ks pos env A (yx H k e') Bs):V P n Q ks pos env A H Bs:=by
 subst he
 intro hA w hI
 have hh:∀ (H:Hp),hget H k=some e->yx H k e=H:=by
  intro H
  induction H with
  | nil=>intro h;cases h
  | cons x r ih =>
   obtain⟨k',e'⟩:=x
   intro h
   simp only[hget]at h
   simp only[yx]
   cases hb:Nat.beq k' k with
   | true=>rw[hb]at h;cases h;rfl
   | false=>rw[hb]at h;simp only[cond_false];rw[ih h]
 rw[hh H hg]at h
 exact h hA w hI
theorem zoe {σ:Type} (es hs ts:List Nat) {E1:Env} {H1:Hp} {A1:Tgs} (_hp:(zjZ env es,zex H hs,zk0 A ts)=(some E1,some H1,some A1)) (env':Env->σ->Env) (H':Hp->σ->Hp) (I:σ->Prop) (μ:σ->Nat) {c:Code} (s₀:σ) (h₀:Sub (env' E1 s₀) env) (hH:Has (H' H1 s₀) H) (hu:∀ s,qA ((H' H1 s).map (·.1))=true)
  (hY:∀ s,A1.map (fun p=>zet (env' E1 s) p.1)=A1.map (fun p=>jT (H' H1 s) p.2)) (da:∀ s,A1.all (fun p=>(jT (H' H1 s) p.2).isSome)=true) (hI:I s₀)
  (h:∀ s,I s->V P n Q (.k (zjS n (env' E1) (fun s w=>I s/\VI Bs (H' H1 s) w) μ (μ s))::ks) (.c c) (env' E1 s) A1 (H' H1 s) Bs):V P n Q ks (.c (.loop c)) env A H Bs :=
 V.loop (env' E1) A1 (H' H1) I μ s₀ h₀ hH hu (fun s=>⟨hY s,da s⟩) hI h
theorem zof {σ:Type} (es hs ts:List Nat) {E1:Env} {H1:Hp} {A1:Tgs} (_hp:(zjZ env es,zex H hs,zk0 A ts)=(some E1,some H1,some A1)) (env':Env->σ->Env) (H':Hp->σ->Hp) (I:σ->Prop) {c:Code}
  (hY:∀ s,A1.map (fun p=>zet (env' E1 s) p.1)=A1.map (fun p=>jT (H' H1 s) p.2)) (da:∀ s,A1.all (fun p=>(jT (H' H1 s) p.2).isSome)=true)
  (h:V P n Q (.k (zjT n (env' E1) (fun s w=>I s/\VI Bs (H' H1 s) w))::ks) (.c c) env A H Bs) (hk:∀ s,I s->V P n Q ks (.e .normal) (env' E1 s) A1 (H' H1 s) Bs):V P n Q ks (.c c) env A H Bs :=
 V.cut (env' E1) A1 (H' H1) I (fun s=>⟨hY s,da s⟩) h hk
theorem zog {id:Nat} {l:List Oper} (hs L:List Nat) {Hs:Hp} (hm:P.follows .mixedOrders=true) (hp:zex H hs=some Hs) (h:VD P n Q ks l.toArray Hs Bs L l.length (Array.replicate l.length false) env A H Bs):V P n Q ks (.c (.region id l.toArray true)) env A H Bs:=zmH Hs L hm (zdt hp) h
end
def zlu:List Value->List Value->Option (List Value)
 | [],l=>some l
 | u::us,l=>match zlu us l with
  | some r=>some (u::r)
  | none=>none
def zcH:List Value->Option (List Value)
 | []=>some []
 | v::r=>match zf8 v with
  | some us=>(match zcH r with
   | some l=>zlu us l
   | none=>none)
  | none=>none
def zkO:Value->List Value
 | .agg ⟨l⟩=>l
 | v=>[v]
def zk1 (places:List (Nat × Nat)):List Value->List (Nat × Value)->Option (List Value)
 | cs,[]=>some cs
 | cs,(i,v)::r=>match nth places i with
  | some (off,_)=>(match wrE (zkO v) off cs with
   | some cs'=>zk1 places cs' r
   | none=>none)
  | none=>none
section
variable {P:Program} {T:Tab} {Z:Szs} {n:Nat} {Q:Exit->Act->World->Prop} {ks:List Fr} {pos:Pos} {env:Env} {A:Tgs} {H Hs:Hp} {Bs B0:zF} {ops:Array Oper} {rest:List Oper} {v:Value} {L:List Nat} {fuel:Nat} {listed:Array Bool}
variable {d:Nat} {op:Op} {ty:TypeId} {ps:String} {aft:Array Edge} {g:Option (Nat × Bool)}
theorem V.bs (k:Nat) {t e:TypeId} {len kk:Nat} {parts:Array (Nat × Operand)} {z:Value} {cs:List Value} (vs:List (Nat × Value)) (hu:∀ w,(underlying t).run P w=.ok (.slice e) w) (hs:∀ w,(sizeOf e).run P w=.ok kk w) (hz:∀ w,(zeroValue e).run P w=.ok z w)
  (hY:len*kk ≠ 0/\len*kk<=16777216) (hn:(Nat.blt d n,gd ops env g,(hget H k).isNone,parts.toList.map (fun p=>(p.1,ev env p.2)))=(true,some true,true,vs.map (fun p=>(p.1,some p.2)))) (_hcs:zcH (vs.map (·.2))=some cs) (hf:Instr.fill (fun i=>some (i*kk,kk)) ((Array.range (len*kk)).map (z.cells[· % z.cells.size]!)) vs=some cs.toArray)
  (h:∀ b,V P n Q ks (.o ops rest) ((d,.slice (some ⟨b,0,none⟩) len len)::env) ((d,none)::A) ((k,.own b cs e)::H) Bs):V P n Q ks (.o ops (⟨some d,.buildSlice t len parts,ty,ps,aft,g⟩::rest)) env A H Bs:=by
 simp only[Prod.mk.injEq]at hn
 exact znH k (u:=fun b=>.slice (some ⟨b,0,none⟩) len len) (by rw[hn.1,hn.2.1,hn.2.2.1]) (fun _ _=>M.buildSlice vs hu hs hz hY hn.2.2.2 hf) h
theorem zoh {α:Type} {R:Rel α} (k:Nat) {t e:TypeId} {kk by':Nat} {z:Value} {x y:Operand} {m:Nat} {xs:List Value} {vy:Value} {l:List α} (enc:α->List Value) (hc:∀ x,(enc x).length=kk) (h1:∀ x,∀ u ∈ enc x,u.oneCell'=true) (hR:∀ D w x cs,R D w x cs->cs=enc x)
  (hu:P.underlying t=some (.slice e)) (he:(P.info? e).map (fun i=>(i.zero,i.size,i.bytes))=some (some z,kk,by')) (db:z.cells.size=kk) (dc:0<kk) (hn:(Nat.blt d n,gd ops env g,hget H k,ev env x,ev env y)=(true,some true,some (.row e kk v m xs),some v,some vy))
  (hY:∀ w,VI Bs H w->∃ D,SlR kk R D w vy l) (da:m+l.length<=9223372036854775807) (de:(m+l.length)*by'<=140737488355328)
  (h:∀ u,V P n Q ks (.o ops rest) ((d,u)::env) ((d,none)::A) (yx H k (.row e kk u (m+l.length) (xs++l.flatMap enc))) Bs):V P n Q ks (.o ops (⟨some d,.call ⟨.builtin .append,#[x,y],#[t,t]⟩,ty,ps,aft,g⟩::rest)) env A H Bs:=by
 simp only[Prod.mk.injEq]at hn
 obtain⟨h2,h3,h4,h5,h6⟩:=hn
 intro hA w hI
 obtain⟨D,hY⟩:=hY w hI
 refine zmr h2 h3 (zmS enc hc h1 (fun x cs=>hR D w x cs) hu he db dc h5 h6 hY (hI.at k h4) da de) ?_
 rintro u w' ⟨ho,hf,hk⟩
 refine h u (TgOk.none (hA.res h4 ?_)) w' (hI.set h4 hk ho trivial (fun _ h=>h) (fun q hq=>⟨?_,xB ho hq⟩))
 . simp[qH,h4]
 rcases hf with hf | ⟨g',hf,df⟩
 . exact .inl (by show v.ownBlock=some q;rw[<- hf];exact hq)
 have hq:u.ownBlock=some q:=hq
 rw[hf]at hq;cases hq;exact .inr df
theorem zoj (k:Nat) {t e:TypeId} {kk:Nat} (hu:∀ w,(underlying t).run P w=.ok (.slice e) w) (hs:∀ w,(sizeOf e).run P w=.ok kk w) (hn:(Nat.blt d n,gd ops env g,(hget H k).isNone)=(true,some true,true))
  (h:∀ b,V P n Q ks (.o ops rest) ((d,.slice (some ⟨b,0,none⟩) 0 0)::env) ((d,none)::A) ((k,.row e kk (.slice (some ⟨b,0,none⟩) 0 0) 0 [])::H) Bs):V P n Q ks (.o ops (⟨some d,.buildSlice t 0 #[],ty,ps,aft,g⟩::rest)) env A H Bs:=by
 simp only[Prod.mk.injEq,zs7]at hn
 refine fun hA w hI=>zmr hn.1 hn.2.1 (zmQ hu hs) ?_
 rintro _ w' ⟨b,rfl,hb,hY,hB,hk⟩
 refine h b (TgOk.none (hA.new hn.2.2)) w' (hI.new hk k ?_ trivial (fun _ h=>h) (fun q hq=>?_))
 .
  have:=ye (k:=kk) (n:=0) (cap:=0) hB (zpJ _) (by omega) (by simp)
  show w'.ownsRow 0 e kk _ 0 []
  simpa using this
 have hq:some b=some q:=hq
 cases hq
 omega
theorem zol {t:TypeId} {parts:Array (Nat × Operand)} {l:List Value} (zs:List Value) (places:List (Nat × Nat)) (vs:List (Nat × Value)) (hn:(Nat.blt d n,gd ops env g,parts.toList.map (fun p=>(p.1,ev env p.2)))=(true,some true,vs.map (fun p=>(p.1,some p.2)))) (_hl:zk1 places zs vs=some l) (hb:∀ w,(Instr.build t vs.toArray).run P w=.ok (.agg l.toArray) w)
  (h:V P n Q ks (.o ops rest) ((d,.agg l.toArray)::env) ((d,none)::A) H Bs):V P n Q ks (.o ops (⟨some d,.build t parts,ty,ps,aft,g⟩::rest)) env A H Bs:=by
 simp only[Prod.mk.injEq]at hn
 exact znb (by rw[hn.1,hn.2.1]) (fun _ _=>R.build vs hn.2.2 hb) h
theorem zon (i:Nat) (hi:ops[i]?=some ⟨some d,op,ty,ps,aft,g⟩) (hc:zf6 ops [i] listed=true) (hn:(Nat.blt d n,gd ops env g)=(true,some true)) (hr:∀ w,yA P ⟨some d,op,ty,ps,aft,g⟩ env w v w)
  (h:VD P n Q ks ops Hs B0 L fuel (listed.setIfInBounds i true) ((d,v)::env) ((d,none)::A) H Bs):VD P n Q ks ops Hs B0 L (fuel+1) listed env A H Bs:=by
 simp only[Prod.mk.injEq]at hn
 unfold zf6 at hc
 rw[zpW]at hc
 exact fun hH hA w hI=>zno i hi hc.1 O hn.1 (.inl ⟨qv hn.2,fun w' nn a hY=>hr w' nn a hY⟩) (h hH hA.none w hI)
theorem zom (i:Nat) {t:TypeId} {parts:Array (Nat × Operand)} {l:List Value} (zs:List Value) (places:List (Nat × Nat)) (vs:List (Nat × Value)) (hi:ops[i]?=some ⟨some d,.build t parts,ty,ps,aft,g⟩) (hc:zf6 ops [i] listed=true) (hn:(Nat.blt d n,gd ops env g,parts.toList.map (fun p=>(p.1,ev env p.2)))=(true,some true,vs.map (fun p=>(p.1,some p.2)))) (_hl:zk1 places zs vs=some l) (hb:∀ w,(Instr.build t vs.toArray).run P w=.ok (.agg l.toArray) w)
  (h:VD P n Q ks ops Hs B0 L fuel (listed.setIfInBounds i true) ((d,.agg l.toArray)::env) ((d,none)::A) H Bs):VD P n Q ks ops Hs B0 L (fuel+1) listed env A H Bs:=by
 simp only[Prod.mk.injEq]at hn
 exact zon i hi hc (by rw[hn.1,hn.2.1]) (fun _=>R.build vs hn.2.2 hb) h
theorem VD.bs (i k j:Nat) {t e:TypeId} {len kk:Nat} {parts:Array (Nat × Operand)} {z:Value} {cs:List Value} (vs:List (Nat × Value)) (hu:∀ w,(underlying t).run P w=.ok (.slice e) w) (hs:∀ w,(sizeOf e).run P w=.ok kk w) (hz:∀ w,(zeroValue e).run P w=.ok z w)
  (hY:len*kk ≠ 0/\len*kk<=16777216) (hi:ops[i]?=some ⟨some d,.buildSlice t len parts,ty,ps,aft,g⟩) (hr:Region.ready .any ops listed=[i]) (hn:(Nat.blt d n,gd ops env g,(hget H k).isNone,qA (Hs.map (·.1)),parts.toList.map (fun p=>(p.1,ev env p.2)),Bs.drop j)=(true,some true,true,true,vs.map (fun p=>(p.1,some p.2)),B0)) (_hcs:zcH (vs.map (·.2))=some cs) (hf:Instr.fill (fun i=>some (i*kk,kk)) ((Array.range (len*kk)).map (z.cells[· % z.cells.size]!)) vs=some cs.toArray)
  (h:∀ b,VD P n Q ks ops Hs B0 L fuel (listed.setIfInBounds i true) ((d,.slice (some ⟨b,0,none⟩) len len)::env) ((d,none)::A) ((k,.own b cs e)::H) Bs):VD P n Q ks ops Hs B0 L (fuel+1) listed env A H Bs:=by
 simp only[Prod.mk.injEq]at hn
 exact znI i k j (u:=fun b=>.slice (some ⟨b,0,none⟩) len len) hi hr (by rw[hn.1,hn.2.1,hn.2.2.1,hn.2.2.2.1]) hn.2.2.2.2.2 (fun _ _=>M.buildSlice vs hu hs hz hY hn.2.2.2.2.1 hf) h
theorem znV (k:Nat) {t:TypeId} {kk m:Nat} {xs:List Value} (hn:hget H k=some (.row t kk v m xs)) (hm:0<m) (h:∀ b c,v=.slice (some ⟨b,0,none⟩) m c->m<=c->VD P n Q ks ops Hs B0 L fuel listed env A H Bs):VD P n Q ks ops Hs B0 L fuel listed env A H Bs:=by
 intro hH hA w hI
 have ho:w.ownsRow 0 t kk v m xs:=hI.at k hn
 rcases ho.2 with⟨_,hY⟩ | ⟨b,cap,cur,hv,_,_,hc,_⟩
 . omega
 exact h b cap hv hc hH hA w hI
theorem zok (i k j:Nat) {t e:TypeId} {kk:Nat} (hu:∀ w,(underlying t).run P w=.ok (.slice e) w) (hs:∀ w,(sizeOf e).run P w=.ok kk w) (hi:ops[i]?=some ⟨some d,.buildSlice t 0 #[],ty,ps,aft,g⟩) (hr:Region.ready .any ops listed=[i]) (hn:(Nat.blt d n,gd ops env g,(hget H k).isNone,qA (Hs.map (·.1)),Bs.drop j)=(true,some true,true,true,B0))
  (h:∀ b,VD P n Q ks ops Hs B0 L fuel (listed.setIfInBounds i true) ((d,.slice (some ⟨b,0,none⟩) 0 0)::env) ((d,none)::A) ((k,.row e kk (.slice (some ⟨b,0,none⟩) 0 0) 0 [])::H) Bs):VD P n Q ks ops Hs B0 L (fuel+1) listed env A H Bs:=by
 simp only[Prod.mk.injEq,zs7]at hn
 obtain⟨h1,h2,h3,h4,rfl⟩:=hn
 refine fun hH hA w hI=>zo6 i hi hr h1 h2 (.inl (zmQ hu hs)) ?_
 rintro _ w' ⟨b,rfl,hb,db,hB,hk⟩
 have hY:VI Bs ((k,.row e kk (.slice (some ⟨b,0,none⟩) 0 0) 0 [])::H) w':=hI.new hk k (by
  have:=ye (k:=kk) (n:=0) (cap:=0) hB (zpJ _) (by omega) (by simp)
  show w'.ownsRow 0 e kk _ 0 []
  simpa using this) trivial (fun _ h=>h) (fun q hq=>by
  have hq:some b=some q:=hq
  cases hq
  omega)
 have da:Has Hs ((k,.row e kk (.slice (some ⟨b,0,none⟩) 0 0) 0 [])::H):=hH.new h3
 exact⟨(hY.drop j).pick da h4,h b da (TgOk.none (hA.new h3)) w' hY⟩
theorem zoi {α:Type} {R:Rel α} (i k j:Nat) {t e:TypeId} {kk by':Nat} {z:Value} {x y:Operand} {m:Nat} {xs:List Value} {vy:Value} {l:List α} (enc:α->List Value) (hc:∀ x,(enc x).length=kk) (h1:∀ x,∀ u ∈ enc x,u.oneCell'=true) (hR:∀ D w x cs,R D w x cs->cs=enc x)
  (hu:P.underlying t=some (.slice e)) (he:(P.info? e).map (fun i=>(i.zero,i.size,i.bytes))=some (some z,kk,by')) (de:z.cells.size=kk) (df:0<kk) (hi:ops[i]?=some ⟨some d,.call ⟨.builtin .append,#[x,y],#[t,t]⟩,ty,ps,aft,g⟩) (hr:Region.ready .any ops listed=[i]) (hB:Bs.drop j=B0)
  (hn:(Nat.blt d n,gd ops env g,hget H k,ev env x,ev env y,qA (Hs.map (·.1)),qn k (Hs.map (·.1)))=(true,some true,some (.row e kk v m xs),some v,some vy,true,true))
  (hY:∀ w,VI Bs H w->∃ D,SlR kk R D w vy l) (da:m+l.length<=9223372036854775807) (dg:(m+l.length)*by'<=140737488355328)
  (h:∀ u,VD P n Q ks ops Hs B0 L fuel (listed.setIfInBounds i true) ((d,u)::env) ((d,none)::A) (yx H k (.row e kk u (m+l.length) (xs++l.flatMap enc))) Bs):VD P n Q ks ops Hs B0 L (fuel+1) listed env A H Bs:=by
 simp only[Prod.mk.injEq]at hn
 subst hB
 obtain⟨h2,h3,h4,h5,h6,h8,h9⟩:=hn
 intro hH hA w hI
 obtain⟨D,hY⟩:=hY w hI
 refine zo6 i hi hr h2 h3 (.inl (zmS enc hc h1 (fun x cs=>hR D w x cs) hu he de df h5 h6 hY (hI.at k h4) da dg)) ?_
 rintro u w' ⟨ho,hf,hk⟩
 have db:VI Bs (yx H k (.row e kk u (m+l.length) (xs++l.flatMap enc))) w':=hI.set h4 hk ho trivial (fun _ h=>h) (fun q hq=>⟨by
  rcases hf with hf | ⟨g',hf,dh⟩
  . exact .inl (by show v.ownBlock=some q;rw[<- hf];exact hq)
  .
   have hq:u.ownBlock=some q:=hq
   rw[hf]at hq;cases hq;exact .inr dh,xB ho hq⟩)
 have dc:Has Hs (yx H k (.row e kk u (m+l.length) (xs++l.flatMap enc))):=hH.set h4 h9
 exact⟨(db.drop j).pick dc h8,h u dc (TgOk.none (hA.res h4 (by simp[qH,h4]))) w' db⟩
end
end Go.GL
