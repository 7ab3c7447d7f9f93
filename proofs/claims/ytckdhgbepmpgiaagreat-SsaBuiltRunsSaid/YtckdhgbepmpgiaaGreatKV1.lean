/-
  Contracts and the mathematics that the proof needs. Nothing here is a claim.
-/
import Derived.WalkKit
import Derived.Deep.Quiet
import Derived.Deep.LoopGhost
import Derived.Below
import Derived.OrdersHeld
import Derived.KernelRfl
import Derived.WalkSpells
import Derived.ChangeKeysEq
import Derived.Lib.SliceRun
import Derived.Laws.Strings
import Derived.Test.YtckdhgbepmpgiaaGreatProg
import Derived.Maps.RangeRun
import Derived.MapKept
import Derived.Shelf.Sort.Plain
import Derived.Ground.Names2Prog
import Derived.Shelf.Slices.In.SortNone
import Derived.Lib.AppendStr
import Derived.Lib.SmallJoins
import Derived.WideKeyMaps
import Derived.Laws.CopyRow
import Derived.Laws.IdiomCopy
import Derived.Lib.ItoaNum
import Derived.Lib.ItoaMem
import Derived.Defers
import Derived.Shelf.SlSortCmp.WholeK
import Derived.Ground.SlsfProg
import Derived.Shelf.SlSortCmp.NoneTotal
theorem j1 {p:Prop}(h:p:=by exact fun _=>rfl):p:=h
theorem iA {p:Prop}(h:p:=by exact ⟨_,ztn tO⟩):p:=h
theorem iH {p:Prop}(h:p:=by exact ⟨_,rfl,rfl,0,ts3⟩):p:=h
theorem iU {p:Prop}(h:p:=by exact ⟨_,rfl,rfl,0,ts27⟩):p:=h
theorem iW {p:Prop}(h:p:=by exact ⟨fun _ _=>(h v w' hR).1,(h v w' hR).2 _ (ha.put hn)⟩):p:=h
theorem iq {p:Prop}(h:p:=by exact ztq _ hy):p:=h
theorem ix {p:Prop}(h:p:=by exact Keep.refl _ _):p:=h
theorem iz {p:Prop}(h:p:=by exact ⟨fun _=>hA.none,fun _=>hr⟩):p:=h
theorem x1 {p:Prop}(h:p:=by exact h.base p hp):p:=h
theorem x9 {p:Prop}(h:p:=by show v.ownBlock=some q;rw[<- hf];exact hq):p:=h
theorem JE {p:Prop}(h:p:=by exact fun q hq=>by have hq:q=b:=hq;omega):p:=h
theorem JG {p:Prop}(h:p:=by exact ⟨((hI.ext hk).drop j).pick hH hn.2.2.2,h r w w' hI hk hP (fun q ⟨x,hx,hq⟩=>hI.low x hx q hq) hH hA.none w' (hI.ext hk).here⟩):p:=h
theorem JL {p:Prop}(h:p:=by exact ⟨rfl,rfl⟩):p:=h
theorem Ja {p:Prop}(h:p:=by exact fun q _ hq=>by have hq:q=b:=hq;subst hq;exact rfl):p:=h
theorem Jd {p:Prop}(h:p:=by exact ⟨_,rfl,rfl,0,ts89⟩):p:=h
theorem Jf {p:Prop}(h:p:=by exact ⟨b,0,by simp[qA,hget,zwm],rfl⟩):p:=h
theorem Jl {p:Prop}(h:p:=by exact k1.ext k2):p:=h
theorem Jm {p:Prop}(h:p:=by exact ⟨_,rfl⟩):p:=h
theorem Jq {p:Prop}(h:p:=by exact ztq _ hx):p:=h
theorem Jv {p:Prop}(h:p:=by exact show Region.wanted ⟨dst,op,ty,ps,aft,none⟩ (yielded ops a.tmps)=true from rfl):p:=h
theorem J9 {p:Prop}(h:p:=by exact Sub.lit tD):p:=h
theorem UF {p:Prop}(h:p:=by exact yr hn.2.2.1):p:=h
theorem UG {p:Prop}(h:p:=by exact ⟨w2,w3,k1.ext k2,h3,Keep.refl _ _⟩):p:=h
theorem UN {p:Prop}(h:p:=by exact ⟨w,w1,Keep.refl _ _,h1,k2.ext k3⟩):p:=h
theorem UP {p:Prop}(h:p:=by exact Region.noSelect_spec h1):p:=h
theorem UX {p:Prop}(h:p:=by exact Region.free_spec hi h2):p:=h
theorem Uk {p:Prop}(h:p:=by exact h.base p hp):p:=h
theorem U6 {p:Prop}(h:p:=by exact h.base p hp):p:=h
open Go.Proofs.Tryz
variable {α σ:Type} {p:Prop} {a:Go.Act} {x y lo hi:Go.Operand} {v z vy a1 a2 a3 v1 v2 v3:Go.Value} {d j dj id m i b o c k fld by' fuel kk:Nat} {P:Go.Program} {ops:Array Go.Oper} {Q:Go.Exit->Go.Act->Go.World->Prop} {rest r:List Go.Oper} {w w':Go.World} {f:Go.FuncId} {args:Array Go.Value} {dst:Option Go.Tmp} {aft:Array Go.Edge} {K:Go.Act->Go.World->Prop} {fn:Go.Func} {vs cs fs us zs xs:List Go.Value} {u:Go.Tmp} {a0:Go.Addr} {g:Option (Nat × Bool)} {t t' e tb tl:Go.TypeId} {q:Bool} {ts:Array Go.TypeId} {ao:Option Go.Addr} {kd kl kc k':Go.IntKind} {fields:Array Go.Field} {parts:Array (Nat × Go.Operand)} {L:List Nat} {oi oj:Go.Oper} {listed:Array Bool} {D D':Nat->Prop} {l:List α} {ob:Option Prop} {Φ:Go.Value->Go.World->Go.World->Prop}
theorem tO(h:p:=by omega):p:=h
theorem tK(h:p:=by kernel_rfl):p:=h
theorem tD(h:p:=by grind):p:=h
theorem tS(h:p:=by decide):p:=h
theorem tR(h:p:=by simp):p:=h
theorem tZ(h:p:=by first | omega | (dsimp only;omega)):p:=h
theorem tY(h:p:=by simp[Value.oneCell']):p:=h
theorem tX(h:p:=by simp;omega):p:=h
namespace Go.GL
theorem O.{u} {α:Sort u} {a:α}:a=a:=rfl
theorem gE_ (l:List α) (i:Nat) (h:i<l.length):∃ z,l[i]?=some z/\z ∈ l:=⟨_,List.getElem?_eq_getElem h,List.getElem_mem h⟩
abbrev ztn:=@List.getElem?_eq_getElem
abbrev zto:=@List.mem_of_getElem?
abbrev ztp:=@World.block_lt_of_cell?
abbrev ztq:=@List.mem_cons_of_mem
abbrev ztr:=@List.mem_cons_self
abbrev zts:=@List.take_length
abbrev ztt:=@Nat.le_trans
abbrev ztu:=@Nat.eq_of_beq_eq_true
abbrev ztv:=@List.length_append
abbrev ztw:=@Decidable.not_not
abbrev ztx:=@if_neg
abbrev zty:=@if_pos
abbrev ztz:=@decide_eq_true
abbrev ztA:=@decide_eq_false
abbrev ztB:=@List.getElem?_eq_some_iff
abbrev ztC:=@Nat.zero_le
abbrev ztD:=@List.mem_cons
abbrev ztE:=@List.getElem?_map
abbrev ztF:=@List.mem_singleton
abbrev ztG:=@List.mem_append
abbrev ztH:=@List.length_map
abbrev ztI:=@List.length_singleton
abbrev ztJ:=@Int.toNat_natCast
abbrev ztK:=@not_not_intro
abbrev ztL:=@List.getElem?_eq_none
abbrev ztM:=@Nat.le_refl
abbrev ztN:=@List.getElem?_append_left
abbrev ztO:=@List.getElem?_append_right
abbrev ztP:=@decide_eq_decide
abbrev ztQ:=@List.length_cons
abbrev ztR:=@List.length_take
abbrev ztS:=@Int.mul_nonneg
abbrev ztT:=@List.getElem?_take
abbrev ztU:=@Array.ext_getElem?
abbrev ztV:=@Array.getD_eq_getD_getElem?
abbrev ztW:=@Array.getElem?_append_left
abbrev ztX:=@Array.getElem?_eq_getElem
abbrev ztY:=@Array.getElem?_eq_none
abbrev ztZ:=@Array.getElem?_eq_some_iff
abbrev zu0:=@Array.getElem?_modify
abbrev zu1:=@Array.getElem?_toList
abbrev zu2:=@Array.length_toList
abbrev zu3:=@Array.setIfInBounds_comm
abbrev zu4:=@Array.toList_inj
abbrev zu5:=@Array.toList_modify
abbrev zu8:=@Bool.and_eq_true
abbrev zu9:=@Bool.and_false
abbrev zua:=@Bool.eq_false_iff
abbrev zub:=@Bool.eq_iff_iff
abbrev zuc:=@Bool.false_eq_true
abbrev zud:=@Bool.false_or
abbrev zue:=@Bool.not_eq_true'
abbrev zuf:=@Bool.or_eq_false_iff
abbrev zug:=@Bool.or_eq_true
abbrev zuh:=@Bool.or_false
abbrev zui:=@Bool.true_and
abbrev zuj:=@Int.emod_lt_of_pos
abbrev zuk:=@Int.emod_nonneg
abbrev zul:=@Int.eq_ofNat_of_zero_le
abbrev zum:=@Int.fdiv_eq_ediv_of_nonneg
abbrev zun:=@Int.fmod_eq_emod_of_nonneg
abbrev zuo:=@Int.le_refl
abbrev zup:=@Int.lt_or_le
abbrev zuq:=@Int.mul_le_mul
abbrev zur:=@Int.mul_le_mul_of_nonneg_left
abbrev zus:=@Int.mul_le_mul_of_nonneg_right
abbrev zut:=@Int.mul_le_mul_of_nonpos_left
abbrev zuu:=@Int.mul_le_mul_of_nonpos_right
abbrev zuv:=@Int.natAbs_tdiv_le_natAbs
abbrev zuw:=@Int.natCast_mul
abbrev zux:=@Int.natCast_nonneg
abbrev zuy:=@Int.tdiv_eq_ediv_of_nonneg
abbrev zuz:=@Int.tmod_eq_emod_of_nonneg
abbrev zuA:=@List.all_append
abbrev zuB:=@List.all_eq_true
abbrev zuC:=@List.any_append
abbrev zuD:=@List.any_eq_true
abbrev zuE:=@List.append_assoc
abbrev zuF:=@List.append_nil
abbrev zuG:=@List.concat_eq_append
abbrev zuH:=@List.cons_append
abbrev zuI:=@List.count_append
abbrev zuJ:=@List.count_eq_zero
abbrev zuK:=@List.count_flatMap
abbrev zuL:=@List.dropLast_concat
abbrev zuM:=@List.drop_append_of_le_length
abbrev zuN:=@List.drop_drop
abbrev zuO:=@List.drop_eq_getElem_cons
abbrev zuP:=@List.drop_length
abbrev zuQ:=@List.drop_set_of_lt
abbrev zuR:=@List.drop_succ_cons
abbrev zuS:=@List.eq_nil_iff_forall_not_mem
abbrev zuT:=@List.eq_nil_of_length_eq_zero
abbrev zuU:=@List.eq_nil_or_concat
abbrev zuV:=@List.eq_of_mem_replicate
abbrev zuW:=@List.ext_getElem?
abbrev zuX:=@List.filter_append
abbrev zuY:=@List.filter_cons_of_neg
abbrev zuZ:=@List.filter_cons_of_pos
abbrev zv0:=@List.find?_cons_of_neg
abbrev zv1:=@List.find?_cons_of_pos
abbrev zv2:=@List.find?_eq_none
abbrev zv3:=@List.flatMap_append
abbrev zv4:=@List.flatMap_cons
abbrev zv5:=@List.flatMap_map
abbrev zv6:=@List.flatMap_singleton
abbrev zv7:=@List.flatten_cons
abbrev zv8:=@List.foldl_append
abbrev zv9:=@List.foldl_cons
abbrev zva:=@List.getElem?_cons_succ
abbrev zvb:=@List.getElem?_cons_zero
abbrev zvc:=@List.getElem?_drop
abbrev zvd:=@List.getElem?_inj
abbrev zve:=@List.getElem?_modify
abbrev zvf:=@List.getElem?_range
abbrev zvg:=@List.getElem?_replicate
abbrev zvh:=@List.getElem?_reverse
abbrev zvi:=@List.getElem?_set
abbrev zvj:=@List.getElem?_set_ne
abbrev zvk:=@List.getElem?_set_self
abbrev zvl:=@List.getElem?_take_of_lt
abbrev zvm:=@List.getElem_idxOf
abbrev zvn:=@List.getElem_mem
abbrev zvo:=@List.idxOf_lt_length_of_mem
abbrev zvp:=@List.isEmpty_iff
abbrev zvq:=@List.length_drop
abbrev zvr:=@List.length_filter_le
abbrev zvs:=@List.length_range
abbrev zvt:=@List.length_replicate
abbrev zvu:=@List.length_set
abbrev zvv:=@List.map_append
abbrev zvw:=@List.map_congr_left
abbrev zvx:=@List.map_cons
abbrev zvy:=@List.map_map
abbrev zvz:=@List.map_nil
abbrev zvA:=@List.map_replicate
abbrev zvB:=@List.map_set
abbrev zvC:=@List.mem_append_left
abbrev zvD:=@List.mem_append_right
abbrev zvE:=@List.mem_filter
abbrev zvF:=@List.mem_flatMap
abbrev zvG:=@List.mem_iff_getElem
abbrev zvH:=@List.mem_iff_getElem?
abbrev zvI:=@List.mem_map
abbrev zvJ:=@List.mem_of_find?_eq_some
abbrev zvK:=@List.mem_of_mem_drop
abbrev zvL:=@List.mem_of_mem_take
abbrev zvM:=@List.mem_or_eq_of_mem_set
abbrev zvN:=@List.mem_range
abbrev zvO:=@List.nil_append
abbrev zvP:=@List.nodup_append
abbrev zvQ:=@List.nodup_cons
abbrev zvR:=@List.nodup_range
abbrev zvS:=@List.not_mem_nil
abbrev zvT:=@List.pairwise_append
abbrev zvU:=@List.pairwise_cons
abbrev zvV:=@List.pairwise_iff_getElem
abbrev zvW:=@List.pairwise_map
abbrev zvX:=@List.pairwise_singleton
abbrev zvY:=@List.perm_iff_count
abbrev zvZ:=@List.range_eq_range'
abbrev zw0:=@List.range_succ
abbrev zw1:=@List.replicate_succ
abbrev zw2:=@List.reverse_append
abbrev zw3:=@List.set_append_left
abbrev zw4:=@List.set_append_right
abbrev zw5:=@List.set_set
abbrev zw6:=@List.singleton_append
abbrev zw7:=@List.sublist_flatten_of_mem
abbrev zw8:=@List.sum_cons
abbrev zw9:=@List.take_add_one
abbrev zwa:=@List.take_append_drop
abbrev zwb:=@List.take_append_of_le_length
abbrev zwc:=@List.take_of_length_le
abbrev zwd:=@List.take_set_of_le
abbrev zwe:=@List.take_succ_eq_append_getElem
abbrev zwf:=@List.take_zero
abbrev zwg:=@Nat.add_assoc
abbrev zwh:=@Nat.add_comm
abbrev zwi:=@Nat.add_mul
abbrev zwj:=@Nat.add_sub_cancel
abbrev zwk:=@Nat.add_sub_cancel_left
abbrev zwl:=@Nat.add_zero
abbrev zwm:=@Nat.beq_refl
abbrev zwn:=@Nat.div_add_mod
abbrev zwo:=@Nat.div_lt_iff_lt_mul
abbrev zwp:=@Nat.eq_of_mul_eq_mul_right
abbrev zwq:=@Nat.le_of_ble_eq_true
abbrev zwr:=@Nat.le_of_eq
abbrev zws:=@Nat.lt_of_lt_of_le
abbrev zwt:=@Nat.lt_or_ge
abbrev zwu:=@Nat.lt_trichotomy
abbrev zwv:=@Nat.mod_lt
abbrev zww:=@Nat.mul_le_mul
abbrev zwx:=@Nat.mul_le_mul_right
abbrev zwy:=@Nat.mul_one
abbrev zwz:=@Nat.not_lt_zero
abbrev zwA:=@Nat.sub_self
abbrev zwB:=@Nat.succ_mul
abbrev zwC:=@Nat.zero_add
abbrev zwD:=@Option.bind_eq_some_iff
abbrev zwE:=@Option.getD_some
abbrev zwF:=@Option.isNone_iff_eq_none
abbrev zwG:=@Option.isSome_iff_exists
abbrev zwH:=@Option.isSome_some
abbrev zwI:=@Option.map_eq_some_iff
abbrev zwJ:=@Option.map_some
end Go.GL
namespace Go.Proofs
abbrev tc101:=@call101
abbrev tc113:=@call113
abbrev tc114:=@call114
abbrev tc130:=@call130
abbrev tc131:=@call131
abbrev tc138:=@call138
abbrev tc172:=@call172
abbrev tc37:=@call37
abbrev tc42:=@call42
abbrev tc53:=@call53
abbrev tc66:=@call66
abbrev tg100:=@isAgg100
abbrev tg117:=@isAgg117
abbrev tg126:=@isAgg126
abbrev tg142:=@isAgg142
abbrev tg159:=@isAgg159
abbrev tg169:=@isAgg169
abbrev tg24:=@isAgg24
abbrev tg26:=@isAgg26
abbrev tg27:=@isAgg27
abbrev tg3:=@isAgg3
abbrev tg30:=@isAgg30
abbrev tg34:=@isAgg34
abbrev tg36:=@isAgg36
abbrev tg4:=@isAgg4
abbrev tg45:=@isAgg45
abbrev tg47:=@isAgg47
abbrev tg56:=@isAgg56
abbrev tg70:=@isAgg70
abbrev tg89:=@isAgg89
abbrev tg9:=@isAgg9
abbrev tr100:=@results100
abbrev tr108:=@results108
abbrev tr110:=@results110
abbrev tr112:=@results112
abbrev tr117:=@results117
abbrev tr121:=@results121
abbrev tr122:=@results122
abbrev tr123:=@results123
abbrev tr128:=@results128
abbrev tr129:=@results129
abbrev tr133:=@results133
abbrev tr138:=@results138
abbrev tr142:=@results142
abbrev tr150:=@results150
abbrev tr151:=@results151
abbrev tr153:=@results153
abbrev tr157:=@results157
abbrev tr16:=@results16
abbrev tr163:=@results163
abbrev tr170:=@results170
abbrev tr173:=@results173
abbrev tr178:=@results178
abbrev tr183:=@results183
abbrev tr200:=@results200
abbrev tr205:=@results205
abbrev tr29:=@results29
abbrev tr32:=@results32
abbrev tr38:=@results38
abbrev tr39:=@results39
abbrev tr43:=@results43
abbrev tr44:=@results44
abbrev tr48:=@results48
abbrev tr59:=@results59
abbrev tr60:=@results60
abbrev tr61:=@results61
abbrev tr64:=@results64
abbrev tr72:=@results72
abbrev tr78:=@results78
abbrev tr79:=@results79
abbrev tr86:=@results86
abbrev tr87:=@results87
abbrev tr90:=@results90
abbrev tr93:=@results93
abbrev tr94:=@results94
abbrev tr97:=@results97
abbrev tr99:=@results99
abbrev tR124:=@runUnderlying124
abbrev tR169:=@runUnderlying169
abbrev tR198:=@runUnderlying198
abbrev tR203:=@runUnderlying203
abbrev tR22:=@runUnderlying22
abbrev tR226:=@runUnderlying226
abbrev tR23:=@runUnderlying23
abbrev tR230:=@runUnderlying230
abbrev tR24:=@runUnderlying24
abbrev tR241:=@runUnderlying241
abbrev tR27:=@runUnderlying27
abbrev tR28:=@runUnderlying28
abbrev tR34:=@runUnderlying34
abbrev tR42:=@runUnderlying42
abbrev tR52:=@runUnderlying52
abbrev tR56:=@runUnderlying56
abbrev tR57:=@runUnderlying57
abbrev tR68:=@runUnderlying68
abbrev tR89:=@runUnderlying89
abbrev ts100:=@sizeOf100
abbrev ts109:=@sizeOf109
abbrev ts117:=@sizeOf117
abbrev ts120:=@sizeOf120
abbrev ts126:=@sizeOf126
abbrev ts142:=@sizeOf142
abbrev ts159:=@sizeOf159
abbrev ts169:=@sizeOf169
abbrev ts24:=@sizeOf24
abbrev ts240:=@sizeOf240
abbrev ts26:=@sizeOf26
abbrev ts27:=@sizeOf27
abbrev ts3:=@sizeOf3
abbrev ts30:=@sizeOf30
abbrev ts34:=@sizeOf34
abbrev ts36:=@sizeOf36
abbrev ts4:=@sizeOf4
abbrev ts45:=@sizeOf45
abbrev ts47:=@sizeOf47
abbrev ts56:=@sizeOf56
abbrev ts59:=@sizeOf59
abbrev ts65:=@sizeOf65
abbrev ts70:=@sizeOf70
abbrev ts72:=@sizeOf72
abbrev ts85:=@sizeOf85
abbrev ts88:=@sizeOf88
abbrev ts89:=@sizeOf89
abbrev ts9:=@sizeOf9
abbrev ts94:=@sizeOf94
abbrev tu100:=@underlying100
abbrev tu124:=@underlying124
abbrev tu156:=@underlying156
abbrev tu24:=@underlying24
abbrev tu27:=@underlying27
abbrev tu3:=@underlying3
abbrev tu34:=@underlying34
abbrev tu4:=@underlying4
abbrev tu52:=@underlying52
abbrev tu89:=@underlying89
abbrev tu9:=@underlying9
abbrev tz109:=@zeroValue109
abbrev tz117:=@zeroValue117
abbrev tz120:=@zeroValue120
abbrev tz126:=@zeroValue126
abbrev tz142:=@zeroValue142
abbrev tz159:=@zeroValue159
abbrev tz169:=@zeroValue169
abbrev tz193:=@zeroValue193
abbrev tz26:=@zeroValue26
abbrev tz27:=@zeroValue27
abbrev tz3:=@zeroValue3
abbrev tz30:=@zeroValue30
abbrev tz36:=@zeroValue36
abbrev tz45:=@zeroValue45
abbrev tz47:=@zeroValue47
abbrev tz59:=@zeroValue59
abbrev tz65:=@zeroValue65
abbrev tz70:=@zeroValue70
abbrev tz72:=@zeroValue72
abbrev tz85:=@zeroValue85
abbrev tz88:=@zeroValue88
end Go.Proofs
namespace Go.GL
abbrev Env:=List (Nat × Value)
variable {env env':Env}
def get:Env->Nat->Option Value
 | [],_=>none
 | (k,v)::r,j=>cond (Nat.beq k j) (some v) (get r j)
def ev (env:Env):Operand->Option Value
 | .tmp t=>get env t
 | .const v=>some v
 | .global g=>some (.pointer (some ⟨g,0,none⟩))
 | .func f=>some (.func (.func f) #[] #[])
structure Fm where
 sz:Nat
 ds:List Deferred
instance:Coe Fm Nat:=⟨Fm.sz⟩
instance:Coe Nat Fm:=⟨fun k=>⟨k,[]⟩⟩
structure Ok (n:Fm) (env:Env) (a:Act):Prop where
 size:a.tmps.size=n.sz
 defs:a.defers=n.ds
 get:∀ k v,get env k=some v->a.tmps[k]?=some v
theorem Ok.eval {n:Fm} (h:Ok n env a) (hx:ev env x=some v):a.eval x=v:=by
 cases x with
 | tmp t =>
  have:=h.get t v hx;simp[Act.eval,this]
 | const u=>simpa[ev,Act.eval] using hx
 | «global» g=>simpa[ev,Act.eval] using hx
 | func f=>simpa[ev,Act.eval] using hx
theorem Ok.put {n:Fm} (h:Ok n env a) (hd:Nat.blt d n=true):Ok n ((d,v)::env) (a.put (some d) v):=by
 have hY:d<n.sz:=by simpa[Nat.blt_eq] using hd
 refine⟨by simp[Act.put,h.size],by simp[Act.put,h.defs],?_⟩;intro k u hu;simp only[GL.get]at hu;cases hb:Nat.beq d k with
 | true =>
  rw[hb]at hu;simp at hu;have:d=k:=ztu hb;subst this;subst hu;simp[Act.put,h.size,hY]
 | false =>
  rw[hb]at hu;simp at hu;have da:d ≠ k:=Nat.ne_of_beq_eq_false hb;simp only[Act.put];rw[Array.getElem?_setIfInBounds_ne da];exact h.get k u hu
theorem Ok.put0 {n:Fm} (h:Ok n env a):Ok n env (a.put none v):=h
def Sub (env' env:Env):Prop:=∀ k v,get env' k=some v->get env k=some v
theorem Sub.nil:Sub [] env:=fun _ _ h=>by simp[get]at h
theorem Sub.cons (h:get env d=some v) (hs:Sub env' env):Sub ((d,v)::env') env:=by
 intro k u hu;simp only[GL.get]at hu;cases hb:Nat.beq d k with
 | true =>
  rw[hb]at hu;simp at hu;have:d=k:=ztu hb;subst this;subst hu;exact h
 | false =>
  rw[hb]at hu;simp at hu;exact hs k u hu
theorem Ok.sub {n:Fm} (h:Ok n env a) (hs:Sub env' env):Ok n env' a:=⟨h.size,h.defs,fun k v hk=>h.get k v (hs k v hk)⟩
section
variable (P:Program) (n:Fm)
def WO (ops:Array Oper) (Q:Exit->Act->World->Prop) (l:List Oper) (env:Env) (w:World):Prop:=∀ a,Ok n env a->wpList P ops Q l a w
def WC (c:Code) (Q:Exit->Act->World->Prop) (env:Env) (w:World):Prop:=∀ a,Ok n env a->c.wp P Q a w
def WX (e:Exit) (Q:Exit->Act->World->Prop) (env:Env) (w:World):Prop:=∀ a,Ok n env a->Q e a w
abbrev Ret (R:Value->World->Prop):Ending->World->Prop:=fun e w'=>∃ v,e=.returned v/\R v w'
def yx (o:Oper) (env:Env) (w:World) (v:Value) (w':World):Prop:=∀ n a,Ok n env a->(execOp a.eval o).run P w=.ok (.value v) w'
def znO (o:Oper) (env:Env) (w:World) (w':World):Prop:=∀ n a,Ok n env a->(execOp a.eval o).run P w=.ok .skip w'
def zdg (o:Oper) (env:Env) (w:World) (f:FuncId) (args:Array Value):Prop:=∀ n a,Ok n env a->(execOp a.eval o).run P w=.ok (.enter f args) w
end
section
variable {n:Fm} {o:Oper}
theorem WO.op (hg:o.guard=none) (hd:o.dst=some d) (hn:Nat.blt d n=true) (hr:yx P o env w v w') (h:WO P n ops Q rest ((d,v)::env) w'):WO P n ops Q (o::rest) env w:=by
 intro a ha;refine wpList_plain hg fun K hK=>?_;unfold Oper.wp;rw[hr n a ha,Oper.upon_value,hd];exact hK _ _ (h _ (ha.put hn))
theorem zp1 (hg:o.guard=none) (hd:o.dst=none) (hr:znO P o env w w') (h:WO P n ops Q rest env w'):WO P n ops Q (o::rest) env w:=by
 intro a ha;refine wpList_plain hg fun K hK=>?_;unfold Oper.wp;rw[hr n a ha,Oper.upon_skip,hd];exact hK _ _ (h _ ha.put0)
theorem WO.call {R:Value->World->Prop} (hg:o.guard=none) (hd:o.dst=some d) (hn:Nat.blt d n=true) (hr:zdg P o env w f args)
  (hc:Calls P f args w (fun e w'=>∃ v,e=.returned v/\R v w')) (h:∀ v w',R v w'->WO P n ops Q rest ((d,v)::env) w'):WO P n ops Q (o::rest) env w:=by
 intro a ha;refine wpList_plain hg fun K hK=>?_;unfold Oper.wp;rw[hr n a ha,Oper.upon_enter];refine hc.mono ?_;rintro e w'' ⟨v,rfl,hR⟩;simp only[hd];exact hK _ _ (h v w'' hR _ (ha.put hn))
theorem WO.yes {b c:Bool} {op:Op} {ty:TypeId} {pos:String} (hj:(ops[j]?).bind (·.dst)=some dj) (hget:get env dj=some (.bool c)) (hc:c=b)
  (h:WO P n ops Q (⟨dst,op,ty,pos,aft,none⟩::rest) env w):WO P n ops Q (⟨dst,op,ty,pos,aft,some (j,b)⟩::rest) env w:=by
 intro a ha;have h1:=h a ha
 have hy:yielded ops a.tmps j=some c:=by
  have:=ha.get dj _ hget;simp[yielded,hj,this]
 unfold wpList at h1 ⊢;have e1:Region.wanted ⟨dst,op,ty,pos,aft,none⟩ (yielded ops a.tmps)=true:=rfl;have e2:Region.wanted ⟨dst,op,ty,pos,aft,some (j,b)⟩ (yielded ops a.tmps)=true:=by simp[Region.wanted,hy,hc]
 rw[zty e1]at h1;rw[zty e2];exact h1
theorem WO.no {b c:Bool} {op:Op} {ty:TypeId} {pos:String} (hj:(ops[j]?).bind (·.dst)=some dj) (hget:get env dj=some (.bool c)) (hc:c=!b) (hn:Nat.blt d n=true)
  (h:WO P n ops Q rest ((d,undef)::env) w):WO P n ops Q (⟨some d,op,ty,pos,aft,some (j,b)⟩::rest) env w:=by
 intro a ha
 have hy:yielded ops a.tmps j=some c:=by
  have:=ha.get dj _ hget;simp[yielded,hj,this]
 unfold wpList;have e2:Region.wanted ⟨some d,op,ty,pos,aft,some (j,b)⟩ (yielded ops a.tmps)=false:=by simp[Region.wanted,hy,hc]
 rw[ztx tD];exact h _ (ha.put hn)
theorem WO.nil (h:WX n .normal Q env w):WO P n ops Q [] env w:=fun a ha=>wpList_nil (h a ha)
theorem WO.sub {l:List Oper} (hs:Sub env' env) (h:WO P n ops Q l env' w):WO P n ops Q l env w:=fun a ha=>h a (ha.sub hs)
theorem WC.sub {c:Code} (hs:Sub env' env) (h:WC P n c Q env' w):WC P n c Q env w:=fun a ha=>h a (ha.sub hs)
theorem WX.sub {e:Exit} (hs:Sub env' env) (h:WX n e Q env' w):WX n e Q env w:=fun a ha=>h a (ha.sub hs)
theorem WC.seq {x y:Code} (h:WC P n x (Exit.then (fun a w=>y.wp P Q a w) Q) env w):WC P n (x.seq y) Q env w:=fun a ha=>wp_seq (h a ha)
theorem WC.region {l:List Oper} (h:WO P n l.toArray Q l env w):WC P n (.region id l.toArray false) Q env w:=fun a ha=>wp_region_lit (h a ha)
theorem WC.block {c:Code} (h:WC P n c (Exit.inBlock id Q) env w):WC P n (.block id c) Q env w:=fun a ha=>wp_block (h a ha)
theorem WC.skip (h:WX n .normal Q env w):WC P n .skip Q env w:=fun a ha=>wp_skip (h a ha)
theorem WC.exit (h:WX n (.exit id) Q env w):WC P n (.exit id) Q env w:=fun a ha=>wp_exit (h a ha)
theorem WC.ret (h:WX n .ret Q env w):WC P n .ret Q env w:=fun a ha=>wp_ret (h a ha)
theorem WC.bool {c:Operand} {x y:Code} {b:Bool} (hc:ev env c=some (.bool b)) (h1:b=true->WC P n x Q env w) (h2:b=false->WC P n y Q env w):WC P n (.cond c x y) Q env w :=
 fun a ha=>wp_cond_split (ha.eval hc) (fun h=>h1 h a ha) (fun h=>h2 h a ha)
theorem zp2 {c:Operand} {x y:Code} [Decidable p] (hc:ev env c=some (.bool (decide p))) (h1:p->WC P n x Q env w) (h2:¬ p->WC P n y Q env w):WC P n (.cond c x y) Q env w :=
 WC.bool hc (fun h=>h1 (of_decide_eq_true h)) (fun h=>h2 (of_decide_eq_false h))
theorem zp5 {c:Operand} {x y:Code} {b:Bool} (hc:ev env c=some (.bool b)) (hb:b=true) (h1:WC P n x Q env w):WC P n (.cond c x y) Q env w :=
 WC.bool hc (fun _=>h1) (fun h=>tD)
theorem zp7 {c:Operand} {x y:Code} {b:Bool} (hc:ev env c=some (.bool b)) (hb:b=false) (h1:WC P n y Q env w):WC P n (.cond c x y) Q env w :=
 WC.bool hc (fun h=>tD) (fun _=>h1)
theorem WX.next {c:Code} {Q':Exit->Act->World->Prop} (h:WC P n c Q env w):WX n .normal (Exit.then (fun a w=>c.wp P Q a w) Q') env w:=h
theorem zp8 (h:WX n (.exit id) Q env w):WX n (.exit id) (Exit.then K Q) env w:=h
theorem zp9 (h:WX n .ret Q env w):WX n .ret (Exit.then K Q) env w:=h
theorem zpa (h:WX n .normal Q env w):WX n .normal (Exit.inBlock id Q) env w:=h
theorem zpb (h:WX n .ret Q env w):WX n .ret (Exit.inBlock id Q) env w:=h
theorem zpc (h:WX n .normal Q env w):WX n (.exit id) (Exit.inBlock id Q) env w:=by
 intro a ha;simp only[Exit.inBlock,if_true];exact h a ha
theorem zpd {id':Nat} (hY:Nat.beq id' id=false) (h:WX n (.exit id') Q env w):WX n (.exit id') (Exit.inBlock id Q) env w:=by
 intro a ha;simp only[Exit.inBlock,ztx (Nat.ne_of_beq_eq_false hY)];exact h a ha
def zmF {σ:Type} (n:Fm) (env':σ->Env) (I:σ->World->Prop) (μ:σ->Nat) (m:Nat) (a:Act) (w:World):Prop:=∃ s,Ok n (env' s) a/\I s w/\μ s<m
theorem WC.loop (env':σ->Env) (I:σ->World->Prop) (μ:σ->Nat) {c:Code} (s₀:σ) (h₀:Sub (env' s₀) env) (hI:I s₀ w)
  (h:∀ s w',I s w'->WC P n c (Exit.then (zmF n env' I μ (μ s)) Q) (env' s) w'):WC P n (.loop c) Q env w:=by
 intro a ha;refine wp_loop_ghost (fun m a w=>∃ s,μ s=m/\Ok n (env' s) a/\I s w) (μ s₀) ⟨s₀,rfl,ha.sub h₀,hI⟩ ?_;rintro m a w ⟨s,rfl,hY,da⟩;refine Code.wp_mono ?_ (h s w da a hY);intro e a' w' hq;cases e<;>first | exact hq | skip;obtain⟨s',h1,h2,h3⟩:=hq;exact⟨μ s',h3,s',rfl,h1,h2⟩
theorem WX.back {env':σ->Env} {I:σ->World->Prop} {μ:σ->Nat} (s:σ) (h0:Sub (env' s) env) (hI:I s w) (hm:μ s<m):WX n .normal (Exit.then (zmF n env' I μ m) Q) env w :=
 fun _ ha=>⟨s,ha.sub h0,hI,hm⟩
def zik {σ:Type} (n:Fm) (env':σ->Env) (I:σ->World->Prop) (a:Act) (w:World):Prop:=∃ s,Ok n (env' s) a/\I s w
theorem zpe (env':σ->Env) (I:σ->World->Prop) {c:Code} (h:WC P n c (Exit.then (zik n env' I) Q) env w) (hk:∀ s w',I s w'->WX n .normal Q (env' s) w'):WC P n c Q env w:=by
 intro a ha;refine Code.wp_mono ?_ (h a ha);intro e a' w' hq;cases e<;>first | exact hq | skip;obtain⟨s,h1,h2⟩:=hq;exact hk s w' h2 a' h1
theorem zpg {env':σ->Env} {I:σ->World->Prop} (s:σ) (h0:Sub (env' s) env) (hI:I s w):WX n .normal (Exit.then (zik n env' I) Q) env w:=fun _ ha=>⟨s,ha.sub h0,hI⟩
end
theorem calls {c:Code} {R:Ending->World->Prop} (hf:P.funcs[f]?=some fn) (hb:fn.body=some c) (env:Env) (n:Nat) (hn:args.size<=n/\fn.ntmps=n)
  (hY:∀ k v,get env k=some v->args[k]?=some v) (h:WC P n c (bodyPost P fn R) env w):Calls P f args w R:=by
 refine calls_of_wp hf hb (h _ ⟨?_,rfl,?_⟩)
 . grind
 intro k v hk;have h1:=hY k v hk
 have da:k<args.size:=by
  rcases zwt k args.size with h' | h'
  . exact h'
  rw[ztY h']at h1;cases h1
 simp[Array.getElem?_append,da];simpa[da] using h1
theorem zil (h:Sub env ((List.range vs.length).zip vs)):∀ k v,get env k=some v->vs.toArray[k]?=some v:=by
 intro k v hk;have h1:=h k v hk
 have key:∀ (vs:List Value) (s:Nat),get ((List.range' s vs.length).zip vs) k=some v->s<=k/\vs[k - s]?=some v:=by
  intro vs;induction vs with
  | nil=>intro s h;simp[get]at h
  | cons x r ih =>
   intro s h;simp only[ztQ,List.range'_succ,List.zip_cons_cons,get]at h;cases hb:Nat.beq s k with
   | true =>
    have:s=k:=ztu hb;subst this;rw[hb]at h;simp at h;simp[h]
   | false =>
    rw[hb]at h;simp at h;obtain⟨h2,h3⟩:=ih (s+1) h;refine⟨tO,?_⟩;have e:k - s=(k - (s+1))+1:=tO;rw[e];simpa using h3
 rw[zvZ]at h1;simpa using (key vs 0 h1).2
section
variable {R:Ending->World->Prop} {n:Nat}
theorem zpj {t:Tmp} (h:fn.results=#[.tmp t]) (hv:get env t=some v) (hR:R (.returned v) w):WX n .ret (bodyPost P fn R) env w:=by
 intro a ha;refine bodyPost_ret (results_tmp h _ _ _) ha.defs ?_;have:=ha.get t v hv;simpa[ztV,this] using hR
theorem zpm {t:Tmp} {x:Value} (h:fn.results=#[.tmp t,.tmp u]) (hv:get env t=some v) (hx:get env u=some x) (hR:R (.returned (.tuple #[v,x])) w):WX n .ret (bodyPost P fn R) env w:=by
 intro a ha;refine bodyPost_ret (results_tmp2 h _ _ _) ha.defs ?_;have h1:=ha.get t v hv;have h2:=ha.get u x hx;simpa[ztV,h1,h2] using hR
theorem zpp {t s:Tmp} {x y:Value} (h:fn.results=#[.tmp t,.tmp u,.tmp s]) (hv:get env t=some v) (hx:get env u=some x) (hy:get env s=some y) (hR:R (.returned (.tuple #[v,x,y])) w):WX n .ret (bodyPost P fn R) env w:=by
 intro a ha;refine bodyPost_ret (results_tmp3 h _ _ _) ha.defs ?_;have h1:=ha.get t v hv;have h2:=ha.get u x hx;have h3:=ha.get s y hy;simpa[ztV,h1,h2,h3] using hR
theorem zps {p:Tmp} {ty:TypeId} (h:fn.results=#[.cell p ty]) (hp:get env p=some (.pointer (some a0))) (hl:(loadVar ty a0).run P w=.ok v w) (hR:R (.returned v) w):WX n .ret (bodyPost P fn R) env w:=by
 intro a ha;have:=ha.get p _ hp;refine bodyPost_ret (v:=v) ?_ ha.defs hR;simp[results,h,this,asAddr,hl]
theorem zpv {p t:Tmp} {ty:TypeId} {x:Value} (h:fn.results=#[.cell p ty,.tmp t]) (hp:get env p=some (.pointer (some a0))) (hl:(loadVar ty a0).run P w=.ok v w) (hx:get env t=some x) (hR:R (.returned (.tuple #[v,x])) w):WX n .ret (bodyPost P fn R) env w:=by
 intro a ha;have h1:=ha.get p _ hp;have h2:=ha.get t _ hx;refine bodyPost_ret (v:=.tuple #[v,x]) ?_ ha.defs hR;simp[results,h,h1,h2,asAddr,hl]
theorem zpy (h:fn.results=#[]) (hR:R (.returned (.tuple #[])) w):WX n .normal (bodyPost P fn R) env w:=by
 intro a ha;exact bodyPost_end (results_none h _ _ _) ha.defs hR
end
section
variable {ty:TypeId} {pos:String}
theorem R.move (hx:ev env x=some v):yx P ⟨dst,.move x,ty,pos,aft,g⟩ env w v w:=by
 intro n a ha;simp[execOp,ha.eval hx]
theorem R.assign (hx:ev env x=some v):yx P ⟨dst,.assign x,ty,pos,aft,g⟩ env w v w:=by
 intro n a ha;simp[execOp,ha.eval hx]
theorem zpB {c:Operand} {b:Bool} (hc:ev env c=some (.bool b)) (hb:b=true) (hx:ev env x=some v):yx P ⟨dst,.pick c x y,ty,pos,aft,g⟩ env w v w:=by
 intro n a ha;simp[execOp,ha.eval hc,ha.eval hx,asBool,hb]
theorem zpC {c:Operand} {b:Bool} (hc:ev env c=some (.bool b)) (hb:b=false) (hy:ev env y=some v):yx P ⟨dst,.pick c x y,ty,pos,aft,g⟩ env w v w:=by
 intro n a ha;simp[execOp,ha.eval hc,ha.eval hy,asBool,hb]
theorem R.nilCheck (hx:ev env x=some (.pointer (some a0))):yx P ⟨dst,.nilCheck x,ty,pos,aft,g⟩ env w (.pointer (some a0)) w:=by
 intro n a ha;simp[execOp,ha.eval hx]
theorem zpD {fs cs:Array Value} (hx:ev env x=some (.func (.func f) fs cs)):yx P ⟨dst,.nilCheck x,ty,pos,aft,g⟩ env w (.func (.func f) fs cs) w:=by
 intro n a ha;simp[execOp,ha.eval hx]
theorem R.extract {vs:Array Value} (hx:ev env x=some (.tuple vs)) (hi:vs[i]?=some v):yx P ⟨dst,.extract x i,ty,pos,aft,g⟩ env w v w:=by
 intro n a ha;simp[execOp,ha.eval hx,Instr.extract,hi]
section
variable {k:IntKind} {m j:Int}
theorem R.add (hx:ev env x=some (.int k m)) (hy:ev env y=some (.int k j)) (hr:k.wrap (m+j)=m+j):yx P ⟨dst,.binOp .add t x y t',ty,pos,aft,g⟩ env w (.int k (m+j)) w:=by
 intro n a ha;simp[execOp,ha.eval hx,ha.eval hy,eqGuard_add,binOp_add,Op.intArith,hr]
theorem R.sub (hx:ev env x=some (.int k m)) (hy:ev env y=some (.int k j)) (hr:k.wrap (m - j)=m - j):yx P ⟨dst,.binOp .sub t x y t',ty,pos,aft,g⟩ env w (.int k (m - j)) w:=by
 intro n a ha;simp[execOp,ha.eval hx,ha.eval hy,eqGuard_sub,binOp_sub,Op.intArith,hr]
theorem R.mul (hx:ev env x=some (.int k m)) (hy:ev env y=some (.int k j)) (hr:k.wrap (m*j)=m*j):yx P ⟨dst,.binOp .mul t x y t',ty,pos,aft,g⟩ env w (.int k (m*j)) w:=by
 intro n a ha;simp[execOp,ha.eval hx,ha.eval hy,eqGuard_mul,binOp_mul,Op.intArith,hr]
theorem R.lss (hx:ev env x=some (.int k m)) (hy:ev env y=some (.int k j)):yx P ⟨dst,.binOp .lss t x y t',ty,pos,aft,g⟩ env w (.bool (decide (m<j))) w:=by
 intro n a ha;simp[execOp,ha.eval hx,ha.eval hy,eqGuard_lss,binOp_lss]
theorem R.leq (hx:ev env x=some (.int k m)) (hy:ev env y=some (.int k j)):yx P ⟨dst,.binOp .leq t x y t',ty,pos,aft,g⟩ env w (.bool (decide (m<=j))) w:=by
 intro n a ha;simp[execOp,ha.eval hx,ha.eval hy,eqGuard_leq,binOp_leq]
theorem R.gtr (hx:ev env x=some (.int k m)) (hy:ev env y=some (.int k j)):yx P ⟨dst,.binOp .gtr t x y t',ty,pos,aft,g⟩ env w (.bool (decide (j<m))) w:=by
 intro n a ha;simp[execOp,ha.eval hx,ha.eval hy,eqGuard_gtr,binOp_gtr]
theorem R.geq (hx:ev env x=some (.int k m)) (hy:ev env y=some (.int k j)):yx P ⟨dst,.binOp .geq t x y t',ty,pos,aft,g⟩ env w (.bool (decide (j<=m))) w:=by
 intro n a ha;simp[execOp,ha.eval hx,ha.eval hy,eqGuard_geq,binOp_geq]
theorem R.eql (hx:ev env x=some (.int k m)) (hy:ev env y=some (.int k j)):yx P ⟨dst,.binOp .eql t x y t',ty,pos,aft,g⟩ env w (.bool (decide (m=j))) w:=by
 intro n a ha;simp[execOp,ha.eval hx,ha.eval hy,eqGuard_at_int,binOp_eql];rfl
theorem R.neq (hx:ev env x=some (.int k m)) (hy:ev env y=some (.int k j)):yx P ⟨dst,.binOp .neq t x y t',ty,pos,aft,g⟩ env w (.bool (decide (m ≠ j))) w:=by
 intro n a ha;simp[execOp,ha.eval hx,ha.eval hy,eqGuard_at_int,binOp_neq,bne];by_cases h:m=j<;>simp[h]
theorem zpE {p:Bool} (ht:P.underlying t=some .bool) (hx:ev env x=some (.bool p)) (hy:ev env y=some (.bool q)):yx P ⟨dst,.binOp .eql t x y t',ty,pos,aft,g⟩ env w (.bool (decide (p=q))) w:=by
 intro n a ha;simp[execOp,ha.eval hx,ha.eval hy,eqGuard_at_bool,run_eql_bool _ _ _ _ ht];cases p<;>cases q<;>rfl
theorem zpF {p:Bool} (ht:P.underlying t=some .bool) (hx:ev env x=some (.bool p)) (hy:ev env y=some (.bool q)):yx P ⟨dst,.binOp .neq t x y t',ty,pos,aft,g⟩ env w (.bool (decide (p ≠ q))) w:=by
 intro n a ha;simp[execOp,ha.eval hx,ha.eval hy,eqGuard_at_bool,run_neq_bool _ _ _ _ ht];cases p<;>cases q<;>rfl
theorem R.not {b:Bool} (hx:ev env x=some (.bool b)):yx P ⟨dst,.unOp .not t x,ty,pos,aft,g⟩ env w (.bool (!b)) w:=by
 intro n a ha;simp[execOp,ha.eval hx,Op.unary]
end
theorem qp {m:Int} (h:-9223372036854775808<=m/\m<=9223372036854775807):IntKind.i64.wrap m=m:=by
 rw[IntKind.wrap_i64];omega
def Cells (w:World) (b o:Nat) (cs:List Value):Prop:=∀ j v,cs[j]?=some v->w.cell? ⟨b,o+j,none⟩=some v
def Blk (w:World) (b:Nat) (cs:List Value) (e:TypeId):Prop:=w.heap[b]?=some (.cells cs.toArray e (0,0))
theorem Blk.cells (h:Blk w b cs e):Cells w b 0 cs:=by
 intro j v hv;unfold Blk at h;simp only[World.cell?,h]
 grind
theorem Blk.lt (h:Blk w b cs e):b<w.heap.size:=by
 unfold Blk at h;rcases zwt b w.heap.size with h' | h'
 . exact h'
 rw[ztY h']at h;cases h
theorem Blk.frozen (h:Blk w b cs e):w.frozen? ⟨b,o,none⟩=false:=frozen_of_row w b o _ e h
theorem Cells.part {ds:List Value} (h:Cells w b o cs) (i:Nat) (hd:∀ j v,ds[j]?=some v->cs[i+j]?=some v):Cells w b (o+i) ds:=by
 intro j v hv;rw[zwg];exact h _ _ (hd j v hv)
theorem Cells.el1 (h:Cells w b o cs) {i:Int} (a:Nat) (hi:i=(a:Int)) (hv:cs[a]?=some v):w.cell? ⟨b,o+i.toNat*1,none⟩=some v:=by
 subst hi;rw[ztJ,zwy];exact h a v hv
theorem xg (b o n:Nat):(⟨b,o,none⟩:Addr).add n=⟨b,o+n,none⟩:=Addr.add_lit b o n
theorem zpG {l:Nat} (ht:ts[0]?=some t) (hu:∀ w,(underlying t).run P w=.ok (.slice e) w) (hx:ev env x=some (.slice ao l c)) :
  yx P ⟨dst,.call ⟨.builtin .len,#[x],ts⟩,ty,pos,aft,g⟩ env w (.int .i64 l) w:=by
 intro n a ha;simp[execOp,resolve,invoke,builtin,ha.eval hx,Builtin.len_,ht,hu,goInt]
theorem zpH {l:Nat} {i:Int} (hu:∀ w,(underlying t).run P w=.ok (.slice e) w) (hs:∀ w,(sizeOf e).run P w=.ok k w)
  (hx:ev env x=some (.slice ao l c)) (hy:ev env y=some (.int kd i)) (hY:ao=some ⟨b,o,none⟩) (h0:0<=i/\i<l) :
  yx P ⟨dst,.indexAddr t x y,ty,pos,aft,g⟩ env w (.pointer (some ⟨b,o+i.toNat*k,none⟩)) w:=by
 intro n a ha;subst hY;simp[execOp,ha.eval hx,ha.eval hy,Instr.indexAt,asIntOf,hu,hs,h0,xg]
theorem zpI {len:Nat} {i:Int} (hu:∀ w,(underlying t).run P w=.ok (.array len e) w) (hs:∀ w,(sizeOf e).run P w=.ok k w)
  (hx:ev env x=some (.pointer (some ⟨b,o,none⟩))) (hy:ev env y=some (.int kd i)) (h0:0<=i/\i<len) :
  yx P ⟨dst,.indexAddr t x y,ty,pos,aft,g⟩ env w (.pointer (some ⟨b,o+i.toNat*k,none⟩)) w:=by
 intro n a ha;simp[execOp,ha.eval hx,ha.eval hy,Instr.indexAt,asIntOf,hu,hs,h0,Instr.sureAddr,xg]
theorem R.fieldAddr {s:TypeId} {f:Field} (hu:∀ w,(underlying s).run P w=.ok (.struct fields) w) (hf:fields[fld]?=some f) (hs:∀ w,(sizeOf f.type).run P w=.ok (k+1) w)
  (hx:ev env x=some (.pointer (some ⟨b,o,none⟩))):yx P ⟨dst,.fieldAddr s x fld,ty,pos,aft,g⟩ env w (.pointer (some ⟨b,o+f.offset,none⟩)) w:=by
 intro n a ha;simp[execOp,ha.eval hx,Instr.fieldAt,hu,hf,Instr.sureAddr,fieldPlace,hs,xg]
theorem R.load (ht:∀ w,(isAgg t).run P w=.ok false w) (hx:ev env x=some (.pointer (some a0))) (hc:w.cell? a0=some v) :
  yx P ⟨dst,.load t x,ty,pos,aft,g⟩ env w v w:=by
 intro n a ha;simp[execOp,ha.eval hx,Instr.loadAt,Instr.sureAddr,loadVar,ht,hc]
theorem kH (ht:∀ w,(isAgg t).run P w=.ok true w) (hs:∀ w,(sizeOf t).run P w=.ok k w) (hl:cs.length=k) (hc:Cells w b o cs):(loadVar t ⟨b,o,none⟩).run P w=.ok (.agg cs.toArray) w:=by
 have:=run_loadCells_list (P:=P) (w:=w) ⟨b,o,none⟩ cs (fun j v hv=>by rw[Addr.add_lit];exact hc j v hv);simp[loadVar,ht,hs,<- hl,this]
theorem zpJ (ht:∀ w,(isAgg t).run P w=.ok true w) (hs:∀ w,(sizeOf t).run P w=.ok k w) (hx:ev env x=some (.pointer (some ⟨b,o,none⟩))) (hl:cs.length=k) (hc:Cells w b o cs) :
  yx P ⟨dst,.load t x,ty,pos,aft,g⟩ env w (.agg cs.toArray) w:=by
 intro n a ha;have:=run_loadCells_list (P:=P) (w:=w) ⟨b,o,none⟩ cs (fun j v hv=>by rw[Addr.add_lit];exact hc j v hv);simp[execOp,ha.eval hx,Instr.loadAt,Instr.sureAddr,loadVar,ht,hs,<- hl,this]
theorem R.field {s:TypeId} {f:Field} (hu:∀ w,(underlying s).run P w=.ok (.struct fields) w) (hf:fields[fld]?=some f) (ht:∀ w,(isAgg f.type).run P w=.ok false w)
  (hx:ev env x=some (.agg cs.toArray)) (hv:cs[f.offset]?=some v):yx P ⟨dst,.field s x fld,ty,pos,aft,g⟩ env w v w:=by
 intro n a ha;simp[execOp,ha.eval hx,Instr.field,hu,hf,asAgg,part,ht,hv]
theorem zpK {l:Nat} {i:Int} (hu:∀ w,(underlying t).run P w=.ok (.slice e) w) (hs:∀ w,(sizeOf e).run P w=.ok k w) (hx:ev env x=some (.slice ao l c)) (hy:ev env lo=some (.int kd i)) (h0:0<=i/\i<=l) :
  yx P ⟨dst,.slice t x (some lo) none none,ty,pos,aft,g⟩ env w (.slice (if c=i.toNat then ao else ao.map (·.add (i.toNat*k))) (l - i.toNat) (c - i.toNat)) w:=by
 intro n a ha;simp[execOp,ha.eval hx,ha.eval hy,Instr.sliceAt,Instr.slice,Instr.sliceBounds,Instr.sliceBound,asIntOf,hu,hs,h0]
theorem zpL {l:Nat} {i:Int} (hu:∀ w,(underlying t).run P w=.ok (.slice e) w) (hs:∀ w,(sizeOf e).run P w=.ok k w) (hx:ev env x=some (.slice ao l c)) (hy:ev env hi=some (.int kd i)) (h0:0<=i/\i<=c) :
  yx P ⟨dst,.slice t x none (some hi) none,ty,pos,aft,g⟩ env w (.slice (if c=0 then ao else ao.map (·.add (0*k))) i.toNat c) w:=by
 intro n a ha;simp[execOp,ha.eval hx,ha.eval hy,Instr.sliceAt,Instr.slice,Instr.sliceBounds,Instr.sliceBound,asIntOf,hu,hs,h0]
theorem zpM {l:Nat} {kh:IntKind} {i j:Int} (hu:∀ w,(underlying t).run P w=.ok (.slice e) w) (hs:∀ w,(sizeOf e).run P w=.ok k w) (hx:ev env x=some (.slice ao l c)) (hy:ev env lo=some (.int kd i)) (hz:ev env hi=some (.int kh j)) (h0:0<=i/\i<=j) (h1:j<=c) :
  yx P ⟨dst,.slice t x (some lo) (some hi) none,ty,pos,aft,g⟩ env w (.slice (if c=i.toNat then ao else ao.map (·.add (i.toNat*k))) (j.toNat - i.toNat) (c - i.toNat)) w:=by
 intro n a ha;have h2:0<=j:=tO;have h3:¬ max j 0<i:=tO;simp[execOp,ha.eval hx,ha.eval hy,ha.eval hz,Instr.sliceAt,Instr.slice,Instr.sliceBounds,Instr.sliceBound,asIntOf,hu,hs,h0,h1,h2];exact fun h=>absurd h h3
theorem R.build (ps:List (Nat × Value)) (hp:parts.toList.map (fun p=>(p.1,ev env p.2))=ps.map (fun p=>(p.1,some p.2))) (hb:∀ w,(Instr.build t ps.toArray).run P w=.ok v w) :
  yx P ⟨dst,.build t parts,ty,pos,aft,g⟩ env w v w:=by
 intro n a ha
 have e:(parts.map fun (i,x)=>(i,a.eval x))=ps.toArray:=by
  have key:∀ (l:List (Nat × Operand)) (ps:List (Nat × Value)),l.map (fun p=>(p.1,ev env p.2))=ps.map (fun p=>(p.1,some p.2))->l.map (fun p=>(p.1,a.eval p.2))=ps:=by
   intro l;induction l with
   | nil=>intro ps h;cases ps with
    | nil=>rfl
    | cons _ _=>simp at h
   | cons x r ih =>
    intro ps h;cases ps with
    | nil=>simp at h
    | cons y s =>
     simp only[zvx,List.cons.injEq,Prod.mk.injEq]at h;simp only[zvx,List.cons.injEq];refine⟨?_,ih s h.2⟩;rw[ha.eval h.1.2,h.1.1]
  apply zu4.1;simpa using key parts.toList ps hp
 simp[execOp,e,hb]
end
section
variable {ty:TypeId} {pos:String}
theorem evs {n:Fm} {a:Act} (ha:Ok n env a):∀ (l:List Operand) (vs:List Value),l.map (ev env)=vs.map some->l.map a.eval=vs
 | [],[],_=>rfl
 | [],_::_,h=>tD
 | _::_,[],h=>tD
 | x::l,v::vs,h=>by
  simp only[zvx,List.cons.injEq]at h ⊢;exact⟨ha.eval h.1,evs ha l vs h.2⟩
theorem F.call {xs:Array Operand} (hf:∀ args w,(callFunc f args).run P w=.ok (.enter f args) w) (hx:xs.toList.map (ev env)=vs.map some) :
  zdg P ⟨dst,.call ⟨.value (.func f),xs,ts⟩,ty,pos,aft,g⟩ env w f vs.toArray:=by
 intro n a ha
 have e:xs.map a.eval=vs.toArray:=by
  apply zu4.1;simpa using evs ha xs.toList vs hx
 simp[execOp,resolve,invoke,Deferred.ofValue,Act.eval,e,hf]
theorem zpN {xs:Array Operand} (hf:∀ args w,(callFunc f args).run P w=.ok (.enter f args) w) (hv:ev env x=some (.func (.func f) fs.toArray cs.toArray)) (hx:xs.toList.map (ev env)=vs.map some) :
  zdg P ⟨dst,.call ⟨.value x,xs,ts⟩,ty,pos,aft,g⟩ env w f (fs++vs++cs).toArray:=by
 intro n a ha
 have e:xs.map a.eval=vs.toArray:=by
  apply zu4.1;simpa using evs ha xs.toList vs hx
 simp[execOp,resolve,invoke,Deferred.ofValue,ha.eval hv,e,hf]
end
open Go.RowKit
structure Keep (S:Nat->Prop) (w w':World):Prop where
 os:w'.os=w.os
 tape:w'.tape=w.tape
 output:w'.output=w.output
 drawn:w.drawn<=w'.drawn
 size:w.heap.size<=w'.heap.size
 block:∀ k,k<w.heap.size->¬ S k->w'.heap[k]?=w.heap[k]?
abbrev Ext (w w':World):Prop:=Keep (fun _=>False) w w'
section
variable {w'':World} {S T:Nat->Prop}
theorem Keep.refl (S:Nat->Prop) (w:World):Keep S w w:=⟨rfl,rfl,rfl,ztM _,ztM _,fun _ _ _=>rfl⟩
theorem Keep.mono (h:Keep S w w') (hs:∀ k,k<w.heap.size->S k->T k):Keep T w w':=⟨h.os,h.tape,h.output,h.drawn,h.size,fun k hk hn=>h.block k hk (fun hS=>hn (hs k hk hS))⟩
theorem Keep.trans (h:Keep S w w') (h':Keep T w' w'') (hs:∀ k,k<w.heap.size->T k->S k):Keep S w w'' :=
 ⟨h'.os.trans h.os,h'.tape.trans h.tape,h'.output.trans h.output,ztt h.drawn h'.drawn,ztt h.size h'.size,fun k hk hn=>(h'.block k (zws hk h.size) (fun hT=>hn (hs k hk hT))).trans (h.block k hk hn)⟩
theorem Keep.ext (h:Keep S w w') (h':Ext w' w''):Keep S w w'':=h.trans h' (fun _ _ h=>h.elim)
theorem Keep.blk (h:Keep S w w') (hb:Blk w b cs e) (hn:¬ S b):Blk w' b cs e:=by
 unfold Blk at *;rw[h.block b (Blk.lt hb) hn];exact hb
theorem Keep.cell (h:Keep S w w') {a:Addr} (hc:w.cell? a=some v) (hn:¬ S a.block):w'.cell? a=some v:=by
 rw[World.cell?_of_block (w:=w) (h.block a.block (ztp w a hc) hn)];exact hc
theorem Keep.cells (h:Keep S w w') (hc:Cells w b o cs) (hn:¬ S b):Cells w' b o cs:=fun j v hv=>h.cell (hc j v hv) hn
theorem Keep.alloc (w:World) (o:Obj):Ext w (w.alloc o):=⟨rfl,rfl,rfl,ztM _,tR,fun k hk _=>Below.heap_alloc w o k hk⟩
theorem Keep.drew (w:World):Ext w w.drew:=⟨rfl,rfl,rfl,Nat.le_succ _,ztM _,fun _ _ _=>rfl⟩
end
theorem Blk.alloc (w:World) (cs:List Value) (e:TypeId):Blk (w.alloc (.cells cs.toArray e)) w.heap.size cs e:=heap_alloc_new w _
theorem Blk.set (h:Blk w b cs e) (v:Value):Blk (w.setCell ⟨b,o,none⟩ v) b (cs.set o v) e:=by
 unfold Blk at *;rw[heap_setCell_same w b o cs.toArray e v h];simp
theorem Keep.setCell (w:World) (b o:Nat) (v:Value):Keep (fun k=>k=b) w (w.setCell ⟨b,o,none⟩ v) :=
 ⟨rfl,rfl,rfl,ztM _,tR,fun k _ hn=>heap_setCell_other w ⟨b,o,none⟩ k v hn⟩
section
variable {n:Fm} {o:Oper}
def yM (P:Program) (o:Oper) (env:Env) (w:World) (R:Value->World->Prop):Prop:=∃ v w',yx P o env w v w'/\R v w'
def xY (P:Program) (o:Oper) (env:Env) (w:World) (R:World->Prop):Prop:=∃ w',znO P o env w w'/\R w'
theorem WO.mem {R:Value->World->Prop} (hg:o.guard=none) (hd:o.dst=some d) (hn:Nat.blt d n=true) (hr:yM P o env w R) (h:∀ v w',R v w'->WO P n ops Q rest ((d,v)::env) w'):WO P n ops Q (o::rest) env w:=by
 obtain⟨v,w',h1,h2⟩:=hr;exact WO.op hg hd hn h1 (h v w' h2)
theorem zpP {R:Value->World->Prop} (hg:o.guard=none) (hd:o.dst=none) (hr:yM P o env w R) (h:∀ v w',R v w'->WO P n ops Q rest env w'):WO P n ops Q (o::rest) env w:=by
 obtain⟨v,w',h1,h2⟩:=hr;intro a ha;refine wpList_plain hg fun K hK=>?_;unfold Oper.wp;rw[h1 n a ha,Oper.upon_value,hd];exact hK _ _ (h v w' h2 _ ha.put0)
theorem zpR {R:World->Prop} (hg:o.guard=none) (hd:o.dst=none) (hr:xY P o env w R) (h:∀ w',R w'->WO P n ops Q rest env w'):WO P n ops Q (o::rest) env w:=by
 obtain⟨w',h1,h2⟩:=hr;exact zp1 hg hd h1 (h w' h2)
end
def New (w:World) (cs:List Value) (e:TypeId) (b:Nat) (w':World):Prop:=b=w.heap.size/\w'.heap.size=w.heap.size+1/\Blk w' b cs e/\Ext w w'
theorem New.mk (w:World) (cs:List Value) (e:TypeId):New w cs e w.heap.size (w.alloc (.cells cs.toArray e)):=⟨rfl,tR,Blk.alloc w cs e,Keep.alloc w _⟩
def zdh (w:World) (b:Nat) (cs:List Value) (e:TypeId) (w':World):Prop:=w'.heap.size=w.heap.size/\Blk w' b cs e/\Keep (fun k=>k=b) w w'
section
variable {ty:TypeId} {pos:String}
theorem M.box (hx:ev env x=some v) (hc:v.cells=cs.toArray) :
  yM P ⟨dst,.box e x,ty,pos,aft,g⟩ env w (fun u w'=>∃ b,u=.pointer (some ⟨b,0,none⟩)/\New w cs e b w'):=by
 refine⟨.pointer (some ⟨w.heap.size,0,none⟩),w.alloc (.cells cs.toArray e),?_,_,rfl,New.mk w cs e⟩;intro n a ha;simp[execOp,ha.eval hx,Instr.box,newVar,newRow,hc]
theorem M.alloc (hz:∀ w,(zeroValue e).run P w=.ok z w) (hc:z.cells=cs.toArray) :
  yM P ⟨dst,.alloc e,ty,pos,aft,g⟩ env w (fun u w'=>∃ b,u=.pointer (some ⟨b,0,none⟩)/\New w cs e b w'):=by
 refine⟨.pointer (some ⟨w.heap.size,0,none⟩),w.alloc (.cells cs.toArray e),?_,_,rfl,New.mk w cs e⟩;intro n a ha;simp[execOp,Instr.alloc,hz,newVar,newRow,hc]
theorem M.store (hs:∀ w,(sizeOf t).run P w=.ok 1 w) (hx:ev env x=some (.pointer (some ⟨b,o,none⟩))) (hy:ev env y=some v) (h1:v.oneCell'=true) (hc:v.cells=#[v]) (hb:Blk w b cs e) (ho:o<cs.length) :
  xY P ⟨dst,.store t x y,ty,pos,aft,g⟩ env w (fun w'=>zdh w b (cs.set o v) e w'):=by
 refine⟨w.setCell ⟨b,o,none⟩ v,?_,tR,hb.set v,Keep.setCell w b o v⟩;intro n a ha
 have hY:w.cell? ⟨b,o,none⟩=some cs[o]:=by
  have:=hb.cells o cs[o] (ztn ho);simpa using this
 have da:∀ m,(Go.store ⟨b,o,none⟩ v m).run P w=.ok () (w.setCell ⟨b,o,none⟩ v):=by
  intro m;rw[run_store P w _ v m h1];simp[hY,hb.frozen]
 simp[execOp,ha.eval hx,ha.eval hy,Instr.storeAt,Instr.sureAddr,storeVar,hs,hc,storeCells,xg,da]
theorem zpU (hs:∀ w,(sizeOf t).run P w=.ok k w) (hx:ev env x=some (.pointer (some ⟨b,o,none⟩))) (hy:ev env y=some v) (hv:v.cells=us.toArray) (hk:us.length=k) (h1:∀ u ∈ us,u.oneCell'=true) (hb:Blk w b cs e) (ho:o+k<=cs.length) :
  xY P ⟨dst,.store t x y,ty,pos,aft,g⟩ env w (fun w'=>zdh w b (cs.take o++us++cs.drop (o+k)) e w'):=by
 have key:∀ (us:List Value) (i:Nat) (w:World) (cs:List Value),(∀ u ∈ us,u.oneCell'=true)->Blk w b cs e->o+i+us.length<=cs.length ->
   ∃ w',(storeCells ⟨b,o,none⟩ us i).run P w=.ok () w'/\zdh w b (cs.take (o+i)++us++cs.drop (o+i+us.length)) e w':=by
  intro us;induction us with
  | nil =>
   intro i w cs _ hb _;refine⟨w,by simp[storeCells],rfl,?_,Keep.refl _ _⟩;simpa using hb
  | cons u r ih =>
   intro i w cs h1 hb hl;simp only[ztQ]at hl
   have hY:w.cell? ⟨b,o+i,none⟩=some cs[o+i]:=by
    have:=hb.cells (o+i) cs[o+i] (ztn tO);simpa using this
   have da:∀ m,(Go.store ⟨b,o+i,none⟩ u m).run P w=.ok () (w.setCell ⟨b,o+i,none⟩ u):=by
    intro m;rw[run_store P w _ u m (h1 u tR)];simp[hY,hb.frozen]
   obtain⟨w',hr,db,hB,hK⟩:=ih (i+1) (w.setCell ⟨b,o+i,none⟩ u) (cs.set (o+i) u) (fun x hx=>h1 x tD) (hb.set u) tD;refine⟨w',?_,by rw[db];simp,?_,(Keep.setCell w b (o+i) u).trans hK (fun _ _ h=>h)⟩
   . simp[storeCells,xg,da,hr]
   have e1:(cs.set (o+i) u).take (o+(i+1))=cs.take (o+i)++[u]:=by
    rw[show o+(i+1)=(o+i)+1 from tO,zwe tD];simp[zwd]
   have e2:(cs.set (o+i) u).drop (o+(i+1)+r.length)=cs.drop (o+i+(u::r).length):=by
    rw[zuQ tO]
    grind
   grind
 obtain⟨w',hr,hW⟩:=key us 0 w cs h1 hb tO;refine⟨w',?_,tD⟩;intro n a ha;simp[execOp,ha.eval hx,ha.eval hy,Instr.storeAt,Instr.sureAddr,storeVar,hs,hv,hk,hr]
theorem M.buildSlice {len:Nat} (ps:List (Nat × Value)) (hu:∀ w,(underlying t).run P w=.ok (.slice e) w) (hs:∀ w,(sizeOf e).run P w=.ok k w) (hz:∀ w,(zeroValue e).run P w=.ok z w)
  (hY:len*k ≠ 0/\len*k<=16777216) (hp:parts.toList.map (fun p=>(p.1,ev env p.2))=ps.map (fun p=>(p.1,some p.2))) (hf:Instr.fill (fun i=>some (i*k,k)) ((Array.range (len*k)).map (z.cells[· % z.cells.size]!)) ps=some cs.toArray) :
  yM P ⟨dst,.buildSlice t len parts,ty,pos,aft,g⟩ env w (fun u w'=>∃ b,u=.slice (some ⟨b,0,none⟩) len len/\New w cs e b w'):=by
 refine⟨.slice (some ⟨w.heap.size,0,none⟩) len len,w.alloc (.cells cs.toArray e),?_,_,rfl,New.mk w cs e⟩;intro n a ha
 have e1:(parts.map fun (i,x)=>(i,a.eval x))=ps.toArray:=by
  have key:∀ (l:List (Nat × Operand)) (ps:List (Nat × Value)),l.map (fun p=>(p.1,ev env p.2))=ps.map (fun p=>(p.1,some p.2))->l.map (fun p=>(p.1,a.eval p.2))=ps:=by
   intro l;induction l with
   | nil=>intro ps h;cases ps with
    | nil=>rfl
    | cons _ _=>simp at h
   | cons x r ih =>
    intro ps h;cases ps with
    | nil=>simp at h
    | cons y s =>
     simp only[zvx,List.cons.injEq,Prod.mk.injEq]at h;simp only[zvx,List.cons.injEq];refine⟨?_,ih s h.2⟩;rw[ha.eval h.1.2,h.1.1]
  apply zu4.1;simpa using key parts.toList ps hp
 have h2:¬ (16777216<len*k):=tO;simp[execOp,e1,Instr.buildSlice,hu,hs,hz,hY.1,h2,hf,newRow]
theorem xj (z:Value) (n:Nat) (hz:z.cells=#[z]):madeCells z.cells (n*1)=(List.replicate n z).toArray:=by
 rw[hz];apply Array.ext
 . simp[madeCells]
 intro i h1 h2;simp[madeCells,Nat.mod_one]
theorem zpV (hu:P.underlying t=some (.slice e)) (he:(P.info? e).map (fun i=>(i.zero,i.size,i.bytes))=some (some z,k,by')) (hx:ev env x=some (.int kl (m:Int))) (hy:ev env y=some (.int kc (m:Int)))
  (hb:by'*m<=281474976710656) (hm:m<=9223372036854775807) (hz:madeCells z.cells (m*k)=zs.toArray) :
  yM P ⟨dst,.makeSlice t x y,ty,pos,aft,g⟩ env w (fun u w'=>∃ b,u=.slice (some ⟨b,0,none⟩) m m/\New w zs e b w'):=by
 obtain⟨i,hi,hY,da,db⟩:=info_parts he;refine⟨.slice (some ⟨w.heap.size,0,none⟩) m m,w.alloc (.cells zs.toArray e),?_,_,rfl,New.mk w zs e⟩;intro n a ha;have:=run_make (P:=P) w t e i z hu hi hY kl kc (m:Int) (m:Int) tO tO tD tO;rw[da]at this;simp only[ztJ,hz]at this;simp[execOp,ha.eval hx,ha.eval hy,this]
theorem Cells.add (h:Cells w b o cs):∀ q u,cs[q]?=some u->w.cell? ((⟨b,o,none⟩:Addr).add q)=some u:=fun q u hq=>by rw[xg];exact h q u hq
theorem M.append {news:List Value} (hu:P.underlying t=some (.slice e)) (he:(P.info? e).map (fun i=>(i.zero,i.size,i.bytes))=some (some z,k,by')) (dw:z.cells.size=k) (hk:0<k)
  (hx:ev env x=some v) (hy:ev env y=some (.slice (some a0) j c)) (hY:w.ownsRow 0 e k v m xs) (hl:news.length=j*k) (da:∀ q u,news[q]?=some u->w.cell? (a0.add q)=some u) (h1:∀ u ∈ news,u.oneCell'=true) (dg:m+j<=9223372036854775807) (dx:(m+j)*by'<=140737488355328) :
  yM P ⟨dst,.call ⟨.builtin .append,#[x,y],#[t,t]⟩,ty,pos,aft,g⟩ env w (fun u w'=>w'.ownsRow 0 e k u (m+j) (xs++news)/\(u.ownBlock=v.ownBlock\/∃ g,u.ownBlock=some g/\w.heap.size<=g)/\Keep (fun k=>v.ownBlock=some k) w w'/\(u=.slice none 0 0 ↔ v=.slice none 0 0/\j=0)):=by
 obtain⟨i,hi,dm,dy,dz⟩:=info_parts he;subst dy;subst dz;have dc:(xs++news).length=(m+j)*i.size:=by rw[ztv,hY.1,hl,zwi]
 have dA:m+j<=maxLen:=by simpa[maxLen] using dg
 suffices H:∃ v' w',(Builtin.append_ #[t,t] ty #[v,.slice (some a0) j c]).run P w=.ok v' w'/\(w'.ownsRow 0 e i.size v' (m+j) (xs++news)/\(v'.ownBlock=v.ownBlock\/∃ g,v'.ownBlock=some g/\w.heap.size<=g)/\Keep (fun k=>v.ownBlock=some k) w w'/\(v'=.slice none 0 0 ↔ v=.slice none 0 0/\j=0)) by
  obtain⟨v',w',hr,h⟩:=H;refine⟨v',w',?_,h⟩;intro n a ha;simp[execOp,resolve,invoke,builtin,ha.eval hx,ha.eval hy,hr]
 have grown:∀ (old:Nat),old<m+j ->
   (w.drew.alloc (.cells (xs.toArray++news.toArray++Builtin.zeroCells z.cells (grownCap w (m+j) old e - (m+j))) e)).ownsRow 0 e i.size
    (.slice (some ⟨w.heap.size,0,none⟩) (m+j) (grownCap w (m+j) old e)) (m+j) (xs++news):=by
  intro old ho;have dB:=grownCap_ge w (m+j) old e;have dh:grownCap w (m+j) old e<=maxLen:=grownCap_le_maxLen w (m+j) old e dA;refine⟨dc,.inr ⟨w.heap.size,_,_,rfl,ztC _,heap_alloc_new w.drew _,dB,dh,?_,?_⟩⟩
  .
   simp only[Array.size_append,List.size_toArray,size_zeroCells,dw,hY.1,hl,<- zwi]
   grind
  grind
 have kp:∀ (o1:Obj) (S:Nat->Prop),Keep S w (w.drew.alloc o1):=fun o1 S=>((Keep.refl S w).ext (Keep.drew w)).ext (Keep.alloc _ _);rcases hY.2 with⟨rfl,rfl⟩ | ⟨g0,cap,cur,rfl,dC,dr,dF,dh,dD,dt⟩
 .
  have dE:xs=[]:=zuT tD;subst dE;by_cases hj:j=0
  .
   subst hj;have hn:news=[]:=zuT tO;subst hn;refine⟨.slice none 0 0,w,?_,World.ownsRow_nil w 0 e i.size,.inl rfl,Keep.refl _ _,tR⟩;simp[Builtin.append_,run_underlying hu,sizeOf,typeInfo,hi,Builtin.lenOf,Builtin.firstCells,loadCells,loadCellsFrom]
  have hr:=run_append_nil (P:=P) w t ty e i z hu hi dm a0 j c news hl da tO tO tD;have du:=grown 0 tO;simp only[zwC,zvO,Array.empty_append]at du ⊢;exact⟨_,_,hr,du,.inr ⟨_,rfl,ztM _⟩,kp _ _,tD⟩
 by_cases db:m+j<=cap
 .
  have dl:m*i.size+news.length<=cur.size:=by rw[hl,dD,<- zwi];exact zwx _ db
  have hr:=run_append_room (P:=P) w t ty e i hu hi g0 m cap cur dr a0 j c news hl da h1 db dl;refine⟨_,_,hr,⟨dc,.inr ⟨g0,cap,_,rfl,dC,setRow_heap w g0 cur _ e _ dr,db,dh,?_,?_⟩⟩,.inl rfl,⟨rfl,rfl,rfl,ztM _,tR,fun k _ hk=>setRow_other w g0 k _ (fun e=>hk (by simp[Value.ownBlock,e]))⟩,tR⟩
  . grind
  grind
 have holds:∀ q u,xs[q]?=some u->w.cell? ((⟨g0,0,none⟩:Addr).add q)=some u:=hY.cells (g:=g0) rfl;have hr:=run_append_grow (P:=P) w t ty e i z hu hi dm ⟨g0,0,none⟩ m cap xs hY.1 holds a0 j c news hl da tO tO (growslice_fits tO dx);exact⟨_,_,hr,grown cap tO,.inr ⟨_,rfl,ztM _⟩,kp _ _,tR⟩
end
section
variable {n:Fm} {o:Oper}
def WQ (P:Program) (n:Fm) (ops:Array Oper) (Q:Exit->Act->World->Prop) (w:World) (l:List Oper) (env:Env):Prop :=
 ∀ a,Ok n env a->wpQuiet P ops (Ext w) (fun a'=>∀ w',Ext w w'->Q .normal a' w') l a
theorem zq0 {l:List Oper} (hm:P.follows .mixedOrders=true) (hB:Region.lexB .any l.toArray=true) (h:WQ P n l.toArray Q w l env):WC P n (.region id l.toArray true) Q env w :=
 fun a ha=>wp_region_quiet (C:=Ext w) hm hB (Keep.drew w) (by simpa using h a ha)
theorem WQ.op (hg:o.guard=none) (hd:o.dst=some d) (hn:Nat.blt d n=true) (hr:∀ w',Ext w w'->yx P o env w' v w') (h:WQ P n ops Q w rest ((d,v)::env)):WQ P n ops Q w (o::rest) env:=by
 intro a ha;unfold wpQuiet;rw[zty (by simp[Region.wanted,hg])];refine⟨v,?_,by rw[hd];exact h _ (ha.put hn)⟩;intro w' hY;unfold Oper.quietAt;rw[hr w' hY n a ha];exact JL
theorem WQ.nil (h:∀ w',Ext w w'->WX n .normal Q env w'):WQ P n ops Q w [] env:=fun a ha w' hY=>h w' hY a ha
theorem WQ.sub {l:List Oper} (hs:Sub env' env) (h:WQ P n ops Q w l env'):WQ P n ops Q w l env:=fun a ha=>h a (ha.sub hs)
end
def NQ (Q:Exit->Act->World->Prop):Exit->Act->World->Prop
 | .normal,a,w=>Q .normal a w
 | _,_,_=>False
def kn (P:Program) (md:Region.Mode) (ops:Array Oper) (Q:Exit->Act->World->Prop) (S:World->Prop) (L:List Nat):Nat->Array Bool->Act->World->Prop
 | 0,listed,a,w=>Region.ready md ops listed=[]/\Q .normal a w
 | fuel+1,listed,a,w =>
  (Region.ready md ops listed=[]->Q .normal a w) /\
  ∀ i ∈ Region.ready md ops listed,wpOp P ops Q i (fun a' w'=>(i ∉ L->S w->S w')/\kn P md ops Q S L fuel (listed.setIfInBounds i true) a' w') a w
def qZ (md:Region.Mode) (ops:Array Oper) (i j:Nat):Bool:=match ops[j]? with
 | none=>true
 | some o=>o.after.any fun e=>Region.binds md e&&e.on == i
section
variable {n:Fm} {md:Region.Mode} {S:World->Prop}
theorem zcH:∀ (fuel:Nat) (listed:Array Bool) (a:Act) (w:World),kn P md ops Q S L fuel listed a w->wpAny P md ops Q fuel listed a w
 | 0,_,_,_,h=>h
 | fuel+1,_,_,_,h=>⟨h.1,fun i hi=>wpOp_mono (fun a' w' h'=>zcH fuel _ a' w' h'.2) (h.2 i hi)⟩
theorem zaH (hi:ops[i]?=some oi) (dc:∀ (j:Nat) (o:Oper) cs b,ops[j]?=some o->o.op ≠ .select cs b)
  (hQ:∀ c a w,Q (.panic c) (a.put oi.dst v) w->Q (.panic c) a w) (hL:∀ j ∈ L,qZ md ops i j=true) (dz:i ∉ L) :
  ∀ (fuel:Nat) (listed:Array Bool) (a:Act) (w:World),
   (∀ j oj,ops[j]?=some oj->j ≠ i->listed.getD j true=false->(∀ e ∈ oj.after,Region.binds md e=true->e.on ≠ i)->oi.apart ops oj=true) ->
   i ∈ Region.ready md ops listed->YieldsIf P ops S oi v a->S w ->
   kn P md ops Q S L fuel (listed.setIfInBounds i true) (a.put oi.dst v) w->kn P md ops Q S L (fuel+1) listed a w:=by
 intro fuel;induction fuel with
 | zero =>
  intro listed a w _ hr hy hS H;refine⟨fun h=>tD,fun j hj=>?_⟩;by_cases hY:j=i
  . subst hY;exact hy.wpOp hi hS ⟨fun _ _=>hS,H⟩
  have:=ready_mono hj hY;rw[H.1]at this
  grind
 | succ fuel ih =>
  intro listed a w da hr hy hS H;refine⟨fun h=>tD,fun j hj=>?_⟩;by_cases hY:j=i
  . subst hY;exact hy.wpOp hi hS ⟨fun _ _=>hS,H⟩
  have h1:=H.2 j (ready_mono hj hY);obtain⟨dg,oj,dh,dl⟩:=mem_ready.1 hj
  have dm:∀ e ∈ oj.after,Region.binds md e=true->e.on ≠ i:=by
   intro e he hb du;have h2:=dl e he hb;have h0:=(mem_ready.1 hr).1;rw[du]at h2;rcases zwt i listed.size with h' | h'
   . grind
   simp[ztY h']at h2
  have dr:j ∉ L:=by
   intro dr;have:=hL j dr;unfold qZ at this
   grind
  have h2:=wpOp_putIf dh (da j oj dh hY dg dm) (fun cs b=>dc i oi cs b hi) (fun cs b=>dc j oj cs b dh) hQ hy h1
  have db:∀ k ok,ops[k]?=some ok->k ≠ i->(listed.setIfInBounds j true).getD k true=false ->
    (∀ e ∈ ok.after,Region.binds md e=true->e.on ≠ i)->oi.apart ops ok=true:=by
   intro k ok hk dw dt dx;refine da k ok hk dw ?_ dx;by_cases dy:j=k
   . grind
   rw[getD_set_ne true dy]at dt;exact dt
  refine wpOp_mono (fun a' w' h3=>⟨h3.2.1,ih (listed.setIfInBounds j true) a' w' db (ready_mono hr (Ne.symm hY)) h3.1 (h3.2.1 dr hS) ?_⟩) h2;rw[zu3 _ _ hY];exact h3.2.2
theorem kI (hi:ops[i]?=some oi) (dc:∀ (j:Nat) (o:Oper) cs b,ops[j]?=some o->o.op ≠ .select cs b)
  (hQ:∀ c a w,Q (.panic c) (a.put oi.dst v) w->Q (.panic c) a w) :
  ∀ (fuel:Nat) (listed:Array Bool) (a:Act) (w:World),
   (∀ j oj,ops[j]?=some oj->j ≠ i->listed.getD j true=false->(∀ e ∈ oj.after,Region.binds md e=true->e.on ≠ i)->oi.apart ops oj=true) ->
   i ∈ Region.ready md ops listed->YieldsIf P ops (fun _=>True) oi v a ->
   kn P md ops Q S L fuel (listed.setIfInBounds i true) (a.put oi.dst v) w->kn P md ops Q S L (fuel+1) listed a w:=by
 intro fuel;induction fuel with
 | zero =>
  intro listed a w _ hr hy H;refine⟨fun h=>tD,fun j hj=>?_⟩;by_cases hY:j=i
  . subst hY;exact hy.wpOp hi trivial ⟨fun _ h=>h,H⟩
  have:=ready_mono hj hY;rw[H.1]at this
  grind
 | succ fuel ih =>
  intro listed a w da hr hy H;refine⟨fun h=>tD,fun j hj=>?_⟩;by_cases hY:j=i
  . subst hY;exact hy.wpOp hi trivial ⟨fun _ h=>h,H⟩
  have h1:=H.2 j (ready_mono hj hY);obtain⟨dg,oj,dh,dl⟩:=mem_ready.1 hj
  have dm:∀ e ∈ oj.after,Region.binds md e=true->e.on ≠ i:=by
   intro e he hb dt;have h2:=dl e he hb;have h0:=(mem_ready.1 hr).1;rw[dt]at h2;rcases zwt i listed.size with h' | h'
   . grind
   simp[ztY h']at h2
  have h2:=wpOp_putIf dh (da j oj dh hY dg dm) (fun cs b=>dc i oi cs b hi) (fun cs b=>dc j oj cs b dh) hQ hy h1
  have db:∀ k ok,ops[k]?=some ok->k ≠ i->(listed.setIfInBounds j true).getD k true=false ->
    (∀ e ∈ ok.after,Region.binds md e=true->e.on ≠ i)->oi.apart ops ok=true:=by
   intro k ok hk du dr dw;refine da k ok hk du ?_ dw;by_cases dx:j=k
   . grind
   rw[getD_set_ne true dx]at dr;exact dr
  refine wpOp_mono (fun a' w' h3=>⟨h3.2.1,ih (listed.setIfInBounds j true) a' w' db (ready_mono hr (Ne.symm hY)) h3.1 ?_⟩) h2;rw[zu3 _ _ hY];exact h3.2.2
end
def WD (P:Program) (n:Fm) (ops:Array Oper) (Q:Exit->Act->World->Prop) (S:World->Prop) (L:List Nat) (fuel:Nat) (listed:Array Bool) (env:Env) (w:World):Prop :=
 ∀ a,Ok n env a->kn P .any ops (NQ Q) S L fuel listed a w
section
variable {n:Fm} {S:World->Prop} {o:Oper}
theorem zq3 {l:List Oper} (S:World->Prop) (L:List Nat) (hm:P.follows .mixedOrders=true) (h:∀ w',Ext w w'->w'.heap=w.heap->WD P n l.toArray Q S L l.length (Array.replicate l.length false) env w'):WC P n (.region id l.toArray true) Q env w:=by
 intro a ha;refine Code.wp_mono ?_ (wp_region_any (id:=id) (Q:=NQ Q) (ops:=l.toArray) hm (zcH (S:=S) (L:=L) _ _ _ _ ?_))
 .
  intro e a w hq;cases e<;>first | exact hq | exact hq.elim
 have:=h w.drew (Keep.drew w) rfl a ha;simpa using this
theorem WD.done (hr:Region.ready .any ops listed=[]) (h:WX n .normal Q env w):∀ fuel,WD P n ops Q S L fuel listed env w
 | 0=>fun a ha=>⟨hr,h a ha⟩
 | _+1=>fun a ha=>⟨fun _=>h a ha,tD⟩
theorem WD.take (i:Nat) (hi:ops[i]?=some o) (hs:(Region.noSelect ops&&Region.free .any ops listed i&&(Region.ready .any ops listed).contains i&&L.all (qZ .any ops i)&&!L.contains i)=true)
  (hg:o.guard=none) (hd:o.dst=some d) (hn:Nat.blt d n=true) (hS:S w) (hr:∀ w',S w'->yx P o env w' v w') (h:WD P n ops Q S L fuel (listed.setIfInBounds i true) ((d,v)::env) w):WD P n ops Q S L (fuel+1) listed env w:=by
 intro a ha;simp only[zu8,zue]at hs;obtain⟨⟨⟨⟨h1,h2⟩,h3⟩,h4⟩,h5⟩:=hs;refine zaH hi UP (fun _ _ _ h=>h) tD tD fuel listed a w UX tD (v:=v) ?_ hS ?_
 . exact .inl ⟨by simp[Region.wanted,hg],fun w' hY=>hr w' hY n a ha⟩
 rw[hd];exact h _ (ha.put hn)
theorem zq6 (i:Nat) (hi:ops[i]?=some o) (hs:(Region.noSelect ops&&Region.free .any ops listed i&&(Region.ready .any ops listed).contains i)=true)
  (hg:o.guard=none) (hd:o.dst=some d) (hn:Nat.blt d n=true) (hr:∀ w',yx P o env w' v w') (h:WD P n ops Q S L fuel (listed.setIfInBounds i true) ((d,v)::env) w):WD P n ops Q S L (fuel+1) listed env w:=by
 intro a ha;simp only[zu8]at hs;obtain⟨⟨h1,h2⟩,h3⟩:=hs;refine kI hi UP (fun _ _ _ h=>h) fuel listed a w UX tD (v:=v) ?_ ?_
 . exact .inl ⟨by simp[Region.wanted,hg],fun w' _=>hr w' n a ha⟩
 rw[hd];exact h _ (ha.put hn)
theorem zbm (hi:ops[i]?=some o) (hg:o.guard=none) (h:o.wp P a w K Q):wpOp P ops Q i K a w:=by
 unfold wpOp;simp only[hi];rw[zty (by simp[Region.wanted,hg])]
 grind
theorem WD.mem (i:Nat) {R:Value->World->Prop} (hi:ops[i]?=some o) (hr:Region.ready .any ops listed=[i]) (hg:o.guard=none) (hd:o.dst=some d) (hn:Nat.blt d n=true)
  (hm:yM P o env w R) (h:∀ v w',R v w'->(i ∉ L->S w')/\WD P n ops Q S L fuel (listed.setIfInBounds i true) ((d,v)::env) w'):WD P n ops Q S L (fuel+1) listed env w:=by
 intro a ha;refine⟨fun h0=>tD,fun j hj=>?_⟩;rw[hr]at hj;have:j=i:=tD;subst this;obtain⟨v,w',hY,hR⟩:=hm;refine zbm hi hg ?_;unfold Oper.wp;rw[hY n a ha,Oper.upon_value,hd];exact⟨fun h0 _=>(h v w' hR).1 h0,(h v w' hR).2 _ (ha.put hn)⟩
theorem zpS (i:Nat) {R:World->Prop} (hi:ops[i]?=some o) (hr:Region.ready .any ops listed=[i]) (hg:o.guard=none) (hd:o.dst=none)
  (hm:xY P o env w R) (h:∀ w',R w'->(i ∉ L->S w')/\WD P n ops Q S L fuel (listed.setIfInBounds i true) env w'):WD P n ops Q S L (fuel+1) listed env w:=by
 intro a ha;refine⟨fun h0=>tD,fun j hj=>?_⟩;rw[hr]at hj;have:j=i:=tD;subst this;obtain⟨w',hY,hR⟩:=hm;refine zbm hi hg ?_;unfold Oper.wp;rw[hY n a ha,Oper.upon_skip,hd];exact⟨fun h0 _=>(h w' hR).1 h0,(h w' hR).2 _ ha.put0⟩
theorem WD.call (i:Nat) {R:Value->World->Prop} (hi:ops[i]?=some o) (hr:Region.ready .any ops listed=[i]) (hg:o.guard=none) (hd:o.dst=some d) (hn:Nat.blt d n=true)
  (hm:zdg P o env w f args) (hc:Calls P f args w (fun e w'=>∃ v,e=.returned v/\R v w')) (h:∀ v w',R v w'->(i ∉ L->S w')/\WD P n ops Q S L fuel (listed.setIfInBounds i true) ((d,v)::env) w'):WD P n ops Q S L (fuel+1) listed env w:=by
 intro a ha;refine⟨fun h0=>tD,fun j hj=>?_⟩;rw[hr]at hj;have:j=i:=tD;subst this;refine zbm hi hg ?_;unfold Oper.wp;rw[hm n a ha,Oper.upon_enter];refine hc.mono ?_;rintro e w' ⟨v,rfl,hR⟩;simp only[hd];exact⟨fun h0 _=>(h v w' hR).1 h0,(h v w' hR).2 _ (ha.put hn)⟩
theorem zq7 (i j:Nat) {R Rj:Value->World->Prop} (hi:ops[i]?=some o) (hj:ops[j]?=some oj) (hr:Region.ready .any ops listed=[i,j]) (hg:o.guard=none) (hd:o.dst=some d) (hn:Nat.blt d n=true) (da:oj.guard=none) (db:oj.dst=some dj) (dc:Nat.blt dj n=true)
  (hm:(∃ v w',yx P o env w v w'/\R v w')\/∃ f args,zdg P o env w f args/\Calls P f args w (fun e w'=>∃ v,e=.returned v/\R v w'))
  (dg:(∃ v w',yx P oj env w v w'/\Rj v w')\/∃ f args,zdg P oj env w f args/\Calls P f args w (fun e w'=>∃ v,e=.returned v/\Rj v w'))
  (h:∀ v w',R v w'->(i ∉ L->S w')/\WD P n ops Q S L fuel (listed.setIfInBounds i true) ((d,v)::env) w')
  (h':∀ v w',Rj v w'->(j ∉ L->S w')/\WD P n ops Q S L fuel (listed.setIfInBounds j true) ((dj,v)::env) w'):WD P n ops Q S L (fuel+1) listed env w:=by
 intro a ha;refine⟨fun h0=>tD,fun k hk=>?_⟩;rw[hr]at hk
 have key:∀ (q:Nat) (oq:Oper) (dq:Nat) (Rq:Value->World->Prop),ops[q]?=some oq->oq.guard=none->oq.dst=some dq->Nat.blt dq n=true ->
   ((∃ v w',yx P oq env w v w'/\Rq v w')\/∃ f args,zdg P oq env w f args/\Calls P f args w (fun e w'=>∃ v,e=.returned v/\Rq v w')) ->
   (∀ v w',Rq v w'->(q ∉ L->S w')/\WD P n ops Q S L fuel (listed.setIfInBounds q true) ((dq,v)::env) w') ->
   wpOp P ops (NQ Q) q (fun a' w'=>(q ∉ L->S w->S w')/\kn P .any ops (NQ Q) S L fuel (listed.setIfInBounds q true) a' w') a w:=by
  intro q oq dq Rq h1 h2 h3 h4 h5 h6;refine zbm h1 h2 ?_;unfold Oper.wp;rcases h5 with⟨v,w',hY,hR⟩ | ⟨f,args,hm,hc⟩
  .
   rw[hY n a ha,Oper.upon_value,h3];exact⟨fun h0 _=>(h6 v w' hR).1 h0,(h6 v w' hR).2 _ (ha.put h4)⟩
  rw[hm n a ha,Oper.upon_enter];refine hc.mono ?_;rintro e w' ⟨v,rfl,hR⟩;simp only[h3];exact⟨fun h0 _=>(h6 v w' hR).1 h0,(h6 v w' hR).2 _ (ha.put h4)⟩
 simp only[ztD,zvS,or_false]at hk;rcases hk with rfl | rfl
 . exact key k o d R hi hg hd hn hm h
 exact key k oj dj Rj hj da db dc dg h'
end
abbrev Rel (α:Type):=(Nat->Prop)->World->α->List Value->Prop
variable {R:Rel α}
def SlR {α:Type} (k:Nat) (R:Rel α) (D:Nat->Prop) (w:World) (v:Value) (l:List α):Prop :=
 ∃ ao cap,v=.slice ao l.length cap/\l.length<=cap/\cap<=9223372036854775807 /\
  ∀ i x,l[i]?=some x->∃ b o cs,ao=some ⟨b,o,none⟩/\D b/\cs.length=k/\Cells w b (o+i*k) cs/\R D w x cs
def zv:Rel Int:=fun _ _ x cs=>cs=[.int .i64 x]
def znP:Rel Bool:=fun _ _ x cs=>cs=[.bool x]
def xu:Rel (Int × Int):=fun _ _ p cs=>cs=[.int .i64 p.1,.int .i64 p.2]
def RSl {α:Type} (k:Nat) (R:Rel α):Rel (List α):=fun D w l cs=>∃ v,cs=[v]/\SlR k R D w v l
def ye {α:Type} (R:Rel α):Prop:=∀ (D D':Nat->Prop) (w w':World),(∀ b,D b->D' b)->(∀ b,D b->b<w.heap.size->w'.heap[b]?=w.heap[b]?)->∀ x cs,R D w x cs->R D' w' x cs
theorem Cells.same (h:Cells w b o cs) (hk:b<w.heap.size->w'.heap[b]?=w.heap[b]?):Cells w' b o cs:=by
 intro j v hv;have h1:=h j v hv;have hY:=ztp w _ h1;rw[World.cell?_of_block (w:=w) (hk hY)];exact h1
theorem zc:ye zv:=fun _ _ _ _ _ _ _ _ h=>h
theorem zW:ye xu:=fun _ _ _ _ _ _ _ _ h=>h
theorem SlR.stable (hR:ye R) (hD:∀ b,D b->D' b) (hk:∀ b,D b->b<w.heap.size->w'.heap[b]?=w.heap[b]?) (h:SlR k R D w v l):SlR k R D' w' v l:=by
 obtain⟨ao,cap,rfl,h1,h2,h3⟩:=h;refine⟨ao,cap,rfl,h1,h2,fun i x hx=>?_⟩;obtain⟨b,o,cs,ha,hb,hl,hc,hr⟩:=h3 i x hx;exact⟨b,o,cs,ha,hD b hb,hl,hc.same (hk b hb),hR D D' w w' hD hk x cs hr⟩
theorem zP (hR:ye R):ye (RSl k R):=by
 intro D D' w w' hD hk x cs ⟨v,hv,h⟩;exact⟨v,hv,h.stable hR hD hk⟩
theorem SlR.keep (hR:ye R) {S:Nat->Prop} (h:SlR k R D w v l) (hk:Keep S w w') (hS:∀ b,D b->b<w.heap.size->¬ S b):SlR k R D w' v l :=
 h.stable hR (fun _ h=>h) (fun b hb hY=>hk.block b hY (hS b hb hY))
theorem SlR.ext (hR:ye R) (h:SlR k R D w v l) (hk:Ext w w'):SlR k R D w' v l:=h.keep hR hk (fun _ _ _ h=>h)
theorem SlR.wide (hR:ye R) (h:SlR k R D w v l) (hD:∀ b,D b->D' b):SlR k R D' w v l:=h.stable hR hD (fun _ _ _=>rfl)
theorem SlR.nil:SlR k R D w (.slice none 0 0) ([]:List α):=⟨none,0,rfl,ztM _,tO,fun i x h=>tD⟩
theorem zq8 {n cap:Nat} (hb:Blk w b cs e) (hD:D b) (hn:n=l.length) (hc:l.length<=cap) (hm:cap<=9223372036854775807)
  (he:∀ i x,l[i]?=some x->∃ us,us.length=k/\(∀ j u,us[j]?=some u->cs[i*k+j]?=some u)/\R D w x us):SlR k R D w (.slice (some ⟨b,0,none⟩) n cap) l:=by
 subst hn;refine⟨_,_,rfl,hc,hm,fun i x hx=>?_⟩;obtain⟨us,h1,h2,h3⟩:=he i x hx;refine⟨b,0,us,rfl,hD,h1,?_,h3⟩;exact hb.cells.part (i*k) h2
theorem zq9 {n cap:Nat} (enc:α->Value) (hR:∀ x,x ∈ l->R D w x [enc x]) (hb:Blk w b cs e) (hD:D b) (hY:cs.take n=l.map enc) (hn:n=l.length) (hc:l.length<=cap) (hm:cap<=9223372036854775807):SlR 1 R D w (.slice (some ⟨b,0,none⟩) n cap) l:=by
 refine zq8 hb hD hn hc hm (fun i x hx=>⟨[enc x],rfl,?_,hR x (zto hx)⟩);intro j u hu;cases j with
 | zero =>
  simp at hu;subst hu;have da:i<l.length:=(ztB.1 hx).1;have h1:(cs.take n)[i]?=some (enc x):=tD;rw[ztT]at h1;simp only[zwy,zwl];rw[zty tO]at h1;exact h1
 | succ j=>simp at hu
theorem zqa {n:Nat} (enc:α->Value) (hR:∀ x,x ∈ l->R D w x [enc x]) (h:w.ownsRow 0 e 1 v n (l.map enc)) (hD:∀ g,v.ownBlock=some g->D g):SlR 1 R D w v l:=by
 obtain⟨h1,h2⟩:=h;have hn:l.length=n:=tD;rcases h2 with⟨rfl,rfl⟩ | ⟨g,cap,cur,rfl,_,hg,db,da,_,hY⟩
 .
  have:l=[]:=zuT hn;subst this;exact SlR.nil
 have hb:Blk w g cur.toList e:=by unfold Blk;simpa using hg
 refine zq9 enc hR hb (hD g O) tD hn.symm tO (by simpa[maxLen] using da)
theorem zqb {n:Nat} (hk:0<k) (enc:α->List Value) (hl:∀ x,(enc x).length=k) (hR:∀ x,x ∈ l->R D w x (enc x)) (h:w.ownsRow 0 e k v n (l.flatMap enc)) (hD:∀ g,v.ownBlock=some g->D g):SlR k R D w v l:=by
 have flat:∀ (l:List α),(l.flatMap enc).length=l.length*k:=by
  intro l;induction l with
  | nil=>simp
  | cons x r ih=>simp[hl,ih,zwi,zwh]
 have at':∀ (l:List α) (i:Nat) (x:α),l[i]?=some x->∀ j u,(enc x)[j]?=some u->(l.flatMap enc)[i*k+j]?=some u:=by
  intro l;induction l with
  | nil=>intro i x h;simp at h
  | cons y r ih =>
   intro i x hx j u hu;have hj:j<k:=by rw[<- hl x];exact(ztB.1 hu).1
   cases i with
   | zero =>
    simp at hx;subst hx;simp only[zv4,Nat.zero_mul,zwC];rw[ztN tD];exact hu
   | succ i =>
    simp only[zva]at hx;simp only[zv4];rw[ztO tD,hl];have:=ih i x hx j u hu;rw[show (i+1)*k+j - k=i*k+j from tD];exact this
 obtain⟨h1,h2⟩:=h
 have hn:l.length=n:=by
  rw[flat]at h1;exact zwp hk h1
 rcases h2 with⟨rfl,rfl⟩ | ⟨g,cap,cur,rfl,_,hg,db,da,_,hY⟩
 .
  have:l=[]:=zuT hn;subst this;exact SlR.nil
 have hb:Blk w g cur.toList e:=by unfold Blk;simpa using hg
 refine zq8 hb (hD g O) hn.symm tO (by simpa[maxLen] using da) (fun i x hx=>⟨enc x,hl x,?_,hR x (zto hx)⟩);intro j u hu;have h3:=at' l i x hx j u hu;rw[<- hY,ztT]at h3;split at h3
 . exact h3
 cases h3
theorem zj {S:Nat->Prop} {n:Nat} (h:w.ownsRow 0 e k v n xs) (hk:Keep S w w') (hS:∀ g,v.ownBlock=some g->¬ S g):w'.ownsRow 0 e k v n xs:=by
 obtain⟨h1,h2⟩:=h;refine⟨h1,?_⟩;rcases h2 with h2 | ⟨g,cap,cur,rfl,hb,hg,r⟩
 . grind
 refine .inr ⟨g,cap,cur,rfl,hb,?_,r⟩;rw[hk.block g (ztZ.1 hg).1 (hS g rfl)];exact hg
theorem xp {n:Nat} (h:w.ownsRow 0 e k v n xs) {g:Nat} (hg:v.ownBlock=some g):g<w.heap.size:=(World.ownsRow.lt h g hg).2
theorem zG {n cap:Nat} (h:Blk w b cs e) (hn:n<=cap) (hc:cap<=9223372036854775807) (hl:cs.length=cap*k):w.ownsRow 0 e k (.slice (some ⟨b,0,none⟩) n cap) n (cs.take (n*k)):=by
 refine⟨by rw[ztR,hl];exact Nat.min_eq_left (zwx _ hn),.inr ⟨b,cap,cs.toArray,rfl,ztC _,h,hn,by simpa[maxLen] using hc,tO,tR⟩⟩
theorem zI {n:Nat} (h:w.ownsRow 0 e k v n xs):∃ ao c,v=.slice ao n c:=by
 rcases h.2 with⟨rfl,rfl⟩ | ⟨g,cap,cur,rfl,_⟩<;>exact⟨_,_,rfl⟩
theorem qq (w:World) (e:TypeId) (k:Nat):w.ownsRow 0 e k (.slice none 0 0) 0 []:=World.ownsRow_nil w 0 e k
section
variable {enc:α->List Value}
theorem zQ (hc:∀ x,(enc x).length=c):∀ (L:List α),(L.flatMap enc).length=L.length*c
 | []=>tR
 | x::r=>by simp[hc,zQ hc r,zwi,zwh]
theorem jC (hc:∀ x,(enc x).length=c):∀ (k:Nat) (L:List α),(L.flatMap enc).take (k*c)=(L.take k).flatMap enc
 | 0,L=>tR
 | k+1,[]=>tR
 | k+1,x::r=>by
  rw[List.take_succ_cons,zv4,zv4,zwB,zwh,List.take_append,hc];rw[zwc tD,show c+k*c - c=k*c from tO,jC hc k r]
theorem zbn (hc:∀ x,(enc x).length=c):∀ (k:Nat) (L:List α),(L.flatMap enc).drop (k*c)=(L.drop k).flatMap enc
 | 0,L=>tR
 | k+1,[]=>tR
 | k+1,x::r=>by
  rw[zuR,zv4,zwB,zwh,List.drop_append,hc];rw[List.drop_of_length_le tD,show c+k*c - c=k*c from tO,zbn hc k r,zvO]
theorem zdi (hc:∀ x,(enc x).length=c) {L:List α} (hk:k<L.length) (x:α) (sp:List Value) :
  (L.flatMap enc++sp).take (k*c)++enc x++(L.flatMap enc++sp).drop (k*c+c)=(L.set k x).flatMap enc++sp:=by
 have hl:=zQ hc L;have h1:(k+1)*c<=L.length*c:=zwx _ hk;have h2:(k+1)*c=k*c+c:=zwB _ _;rw[zwb tO,zuM tO,jC hc,<- h2,zbn hc];rw[List.set_eq_take_append_cons_drop,zty hk];simp
theorem zbo (hc:∀ x,(enc x).length=c) {L:List α} {x:α} (hx:L[i]?=some x) (sp:List Value):∀ j u,(enc x)[j]?=some u->(L.flatMap enc++sp)[i*c+j]?=some u:=by
 obtain⟨hi,rfl⟩:=ztB.1 hx;intro j u hu;have hj:j<c:=by rw[<- hc L[i]];exact(ztB.1 hu).1
 have hl:=zQ hc L;have h1:(i+1)*c<=L.length*c:=zwx _ hi;have h2:(i+1)*c=i*c+c:=zwB _ _;rw[ztN tO,<- zvc,zbn hc,zuO hi,zv4];rw[ztN tD];exact hu
theorem yU (hc:∀ x,(enc x).length=c) {L:List α} {sp:List Value} (hb:Blk w b (L.flatMap enc++sp) e) {x:α} (hx:L[i]?=some x):Cells w b (0+i*c) (enc x) :=
 hb.cells.part (i*c) (zbo hc hx sp)
theorem qC (hc:∀ x,(enc x).length=c) (da:0<c) {n:Nat} {L:List α} (h:w.ownsRow 0 e c v n (L.flatMap enc)) (hL:L ≠ []) :
  ∃ g cap sp,v=.slice (some ⟨g,0,none⟩) n cap/\n=L.length/\n<=cap/\cap<=9223372036854775807/\Blk w g (L.flatMap enc++sp) e/\(L.flatMap enc++sp).length=cap*c:=by
 obtain⟨h1,h2⟩:=h
 have hn:L.length=n:=by
  rw[zQ hc]at h1;exact zwp da h1
 rcases h2 with⟨_,rfl⟩ | ⟨g,cap,cur,rfl,_,hg,db,dc,dg,hY⟩
 . grind
 refine⟨g,cap,cur.toList.drop (n*c),rfl,hn.symm,db,by simpa[maxLen] using dc,?_,?_⟩
 .
  rw[<- hY,zwa];unfold Blk;omega
 grind
theorem ja (hc:∀ x,(enc x).length=c) {g cap:Nat} {L:List α} {sp:List Value} (hb:Blk w g (L.flatMap enc++sp) e) (hl:(L.flatMap enc++sp).length=cap*c) (hk:k<=L.length) (hY:k<=cap) (hm:cap<=9223372036854775807) :
  w.ownsRow 0 e c (.slice (some ⟨g,0,none⟩) k cap) k ((L.take k).flatMap enc):=by
 have h:=zG (k:=c) hb hY hm hl;have h1:k*c<=L.length*c:=zwx _ hk;rw[zwb (by rw[zQ hc];exact h1),jC hc]at h;exact h
end
section
variable {f:α->Value}
theorem zb3 (l:List α):l.map f=l.flatMap (fun x=>[f x]):=by
 induction l with
 | nil=>rfl
 | cons x r ih=>simp[ih]
theorem jD {n:Nat} {L:List α} (h:w.ownsRow 0 e 1 v n (L.map f)) (hL:L ≠ []) :
  ∃ g cap sp,v=.slice (some ⟨g,0,none⟩) n cap/\n=L.length/\n<=cap/\cap<=9223372036854775807/\Blk w g (L.map f++sp) e/\(L.map f++sp).length=cap:=by
 rw[zb3]at h;obtain⟨g,cap,sp,h1,h2,h3,h4,h5,h6⟩:=qC (c:=1) j1 tS h hL;rw[<- zb3]at h5 h6;exact⟨g,cap,sp,h1,h2,h3,h4,h5,tO⟩
theorem zbp {g cap:Nat} {L:List α} {sp:List Value} (hb:Blk w g (L.map f++sp) e) (hl:(L.map f++sp).length=cap) (hm:cap<=9223372036854775807) :
  w.ownsRow 0 e 1 (.slice (some ⟨g,0,none⟩) L.length cap) L.length (L.map f):=by
 have h:=zG (k:=1) (n:=L.length) hb tD hm tO;rw[zwy,zwb tR,zwc tR]at h;exact h
theorem zgq {n:Nat} {L:List α} (h:w.ownsRow 0 e 1 v n (L.map f)):n=L.length:=by
 have:=h.1
 grind
end
structure Mat {α:Type} (enc:α->Value) (e eo:TypeId) (B:Nat) (w:World) (bo:Nat) (rv:List Value) (rows:List (List α)):Prop where
 out:Blk w bo rv eo
 len:rv.length=rows.length
 row:∀ (i:Nat) (v:Value) (r:List α),rv[i]?=some v->rows[i]?=some r->w.ownsRow 0 e 1 v r.length (r.map enc)
 far:∀ (i:Nat) (v:Value) (g:Nat),rv[i]?=some v->v.ownBlock=some g->B<=g/\g ≠ bo
 apart:∀ (i j:Nat) (vi vj:Value) (g:Nat),i ≠ j->rv[i]?=some vi->rv[j]?=some vj->vi.ownBlock=some g->vj.ownBlock ≠ some g
section
variable {enc:α->Value} {eo:TypeId} {B:Nat} {w1 w2:World} {bo:Nat} {rv:List Value} {rows:List (List α)}
theorem Mat.keep {S:Nat->Prop} (h:Mat enc e eo B w bo rv rows) (hk:Keep S w w') (hY:¬ S bo) (hS:∀ (i:Nat) v g,rv[i]?=some v->v.ownBlock=some g->¬ S g):Mat enc e eo B w' bo rv rows :=
 ⟨hk.blk h.out hY,h.len,fun i v r hv hr=>zj (h.row i v r hv hr) hk (fun g hg=>hS i v g hv hg),h.far,h.apart⟩
theorem Mat.ext (h:Mat enc e eo B w bo rv rows) (hk:Ext w w'):Mat enc e eo B w' bo rv rows:=h.keep hk (fun h=>h) (fun _ _ _ _ _ h=>h)
theorem Mat.at (h:Mat enc e eo B w bo rv rows) (hi:i<rows.length):∃ v r,rv[i]?=some v/\rows[i]?=some r :=
 ⟨_,_,ztn (by rw[h.len];exact hi),ztn hi⟩
theorem Mat.blk (h:Mat enc e eo B w bo rv rows) {g:Nat} (hv:rv[i]?=some v) (hg:v.ownBlock=some g):g<w.heap.size:=by
 have hi:i<rows.length:=by rw[<- h.len];exact(ztB.1 hv).1
 exact xp (h.row i v _ hv (ztn hi)) hg
theorem Mat.push (h:Mat enc e eo B w bo rv rows) (hB:B<=w.heap.size) {v':Value} {r:List α} {x:α} (hv:rv[i]?=some v) (_hr:rows[i]?=some r)
  (dc:w1.ownsRow 0 e 1 v' (r.length+1) (r.map enc++[enc x])) (dm:v'.ownBlock=v.ownBlock\/∃ g,v'.ownBlock=some g/\w.heap.size<=g) (hk:Keep (fun q=>v.ownBlock=some q) w w1)
  (dr:zdh w1 bo (rv.set i v') eo w2):Mat enc e eo B w2 bo (rv.set i v') (rows.set i (r++[x])):=by
 obtain⟨dw,dt,dh⟩:=dr;have dx:=h.out.lt
 have da:∀ g,v'.ownBlock=some g->B<=g/\g ≠ bo/\(v.ownBlock=some g\/w.heap.size<=g):=by
  intro g hg;rcases dm with h1 | ⟨g',h1,h2⟩
  .
   rw[h1]at hg;have:=h.far i v g hv hg
   grind
  grind
 have hi:i<rv.length:=(ztB.1 hv).1;refine⟨dt,by simp[h.len],?_,?_,?_⟩
 .
  intro j u s hu hs;by_cases hY:i=j
  .
   subst hY;rw[zvk hi]at hu;rw[zvk tD]at hs;cases hu;cases hs;have h1:=zj dc dh (fun g hg h=>tD);simpa using h1
  rw[zvj hY]at hu hs;have h1:=h.row j u s hu hs;have h2:=zj h1 hk (fun g hg du=>h.apart i j v u g hY hv hu du hg);exact zj h2 dh (fun g hg h'=>(h.far j u g hu hg).2 h')
 .
  intro j u g hu hg;by_cases hY:i=j
  .
   subst hY;rw[zvk hi]at hu;cases hu;exact⟨(da g hg).1,(da g hg).2.1⟩
  rw[zvj hY]at hu;exact h.far j u g hu hg
 intro j k u s g dg hu hs hg db;by_cases hY:i=j
 .
  subst hY;rw[zvk hi]at hu;rw[zvj dg]at hs;cases hu;rcases (da g hg).2.2 with h1 | h1
  . exact h.apart i k v s g dg hv hs h1 db
  have:=h.blk hs db;omega
 rw[zvj hY]at hu;by_cases dl:i=k
 .
  subst dl;rw[zvk hi]at hs;cases hs;rcases (da g db).2.2 with h1 | h1
  . exact h.apart i j v u g hY hv hu h1 hg
  have:=h.blk hu hg;omega
 rw[zvj dl]at hs;exact h.apart j k u s g dg hu hs hg db
theorem Mat.sl (h:Mat enc e eo B w bo rv rows) (hR:∀ x,R D w x [enc x]) (da:D bo) (hD:∀ (i:Nat) v g,rv[i]?=some v->v.ownBlock=some g->D g) {n cap:Nat} (hn:n=rows.length) (hc:rows.length<=cap) (hm:cap<=9223372036854775807):SlR 1 (RSl 1 R) D w (.slice (some ⟨bo,0,none⟩) n cap) rows:=by
 refine zq8 h.out da hn hc hm (fun i r hr=>?_);have hi:i<rows.length:=(ztB.1 hr).1;obtain⟨v,r',hv,hY⟩:=h.at hi;rw[hr]at hY;cases hY;refine⟨[v],rfl,?_,v,rfl,?_⟩
 . grind
 exact zqa enc (fun x _=>hR x) (h.row i v r hv hr) (fun g hg=>hD i v g hv hg)
theorem Mat.start {n:Nat} (hb:Blk w bo (List.replicate n (.slice none 0 0)) eo):Mat enc e eo B w bo (List.replicate n (.slice none 0 0)) (List.replicate n ([]:List α)):=by
 have hY:∀ (i:Nat) v,(List.replicate n (Value.slice none 0 0))[i]?=some v->v=.slice none 0 0:=by
  grind
 refine⟨hb,tR,?_,?_,?_⟩
 .
  intro i v r hv hr;have h1:=hY i v hv;have h2:=zuV (zto hr);subst h1;subst h2;exact qq _ _ _
 .
  intro i v g hv hg;rw[hY i v hv]at hg;simp[Value.ownBlock]at hg
 intro i j vi vj g _ da _ hg;rw[hY i vi da]at hg;simp[Value.ownBlock]at hg
end
section
variable {ty:TypeId} {pos:String}
theorem zqc {l:Nat} {i:Int} (hu:∀ w,(underlying t).run P w=.ok (.slice e) w) (hs:∀ w,(sizeOf e).run P w=.ok k w) (hx:ev env x=some (.slice ao l c)) (hy:ev env hi=some (.int kd i)) (h0:0<=i/\i<=c) :
  yx P ⟨dst,.slice t x none (some hi) none,ty,pos,aft,g⟩ env w (.slice ao i.toNat c) w:=by
 have h:=zpL (dst:=dst) (ty:=ty) (pos:=pos) (aft:=aft) (g:=g) (w:=w) hu hs hx hy h0
 have e1:(if c=0 then ao else ao.map (·.add (0*k)))=ao:=by
  cases ao<;>simp[Addr.add]
 rwa [e1]at h
theorem zqd {l:Nat} {i:Int} (hu:∀ w,(underlying t).run P w=.ok (.slice e) w) (hs:∀ w,(sizeOf e).run P w=.ok k w) (hx:ev env x=some (.slice ao l c)) (hy:ev env lo=some (.int kd i)) (hY:ao=some ⟨b,o,none⟩) (h0:0<=i/\i<=l) (h1:i<c) :
  yx P ⟨dst,.slice t x (some lo) none none,ty,pos,aft,g⟩ env w (.slice (some ⟨b,o+i.toNat*k,none⟩) (l - i.toNat) (c - i.toNat)) w:=by
 have h:=zpK (dst:=dst) (ty:=ty) (pos:=pos) (aft:=aft) (g:=g) (w:=w) hu hs hx hy h0;rw[ztx tO,hY]at h;simpa[xg] using h
theorem zqe {l n' c':Nat} (hu:P.underlying t=some (.slice e)) (hx:ev env x=some (.slice ao l c)) :
  yx P ⟨dst,.binOp .eql t x (.const (.slice none n' c')) t',ty,pos,aft,g⟩ env w (.bool ao.isNone) w:=by
 intro n a ha;have hc:a.eval (.const (.slice none n' c'))=.slice none n' c':=rfl;simp only[execOp,ha.eval hx,hc,eqGuard_at_slice];simp[Lib.run_eql_slice_nil w t e ao l c n' c' hu]
theorem zcI (hu:P.underlying t=some (.array 2 e)) (he:P.underlying e=some (.int k')) (hs:P.cellsOf e=1) (hi:(P.info? e).isSome=true) (ha:∀ w,(isAgg e).run P w=.ok false w) {k:IntKind} (a b c d:Int) (dd:Nat) :
  (Op.equalIn (dd+2) t (.agg #[.int k a,.int k b]) (.agg #[.int k c,.int k d])).run P w=.ok (decide ((a,b)=(c,d))) w:=by
 obtain⟨i,hi⟩:=zwG.1 hi;rw[run_equalIn_array w (dd+1) _ _ hu hi,hs];simp[zw0,Op.eqItems,part,ha,run_equalIn_int w dd e k k' _ _ he];by_cases h1:a=c
 . grind
 grind
theorem R.eqP {k:IntKind} {a b c d:Int} (hu:P.underlying t=some (.array 2 e)) (he:P.underlying e=some (.int k')) (hs:P.cellsOf e=1) (hi:(P.info? e).isSome=true) (hY:∀ w,(isAgg e).run P w=.ok false w) (hm:P.eqGuardType P.depth t=false) (hx:ev env x=some (.agg #[.int k a,.int k b])) (hy:ev env y=some (.agg #[.int k c,.int k d])) :
  yx P ⟨dst,.binOp .eql t x y t',ty,pos,aft,g⟩ env w (.bool (decide ((a,b)=(c,d)))) w:=by
 intro n a ha;simp[execOp,ha.eval hx,ha.eval hy,run_eqGuard_agg,hm,run_eql_struct,zcI hu he hs hi hY]
theorem R.neP {k:IntKind} {a b c d:Int} (hu:P.underlying t=some (.array 2 e)) (he:P.underlying e=some (.int k')) (hs:P.cellsOf e=1) (hi:(P.info? e).isSome=true) (hY:∀ w,(isAgg e).run P w=.ok false w) (hm:P.eqGuardType P.depth t=false) (hx:ev env x=some (.agg #[.int k a,.int k b])) (hy:ev env y=some (.agg #[.int k c,.int k d])) :
  yx P ⟨dst,.binOp .neq t x y t',ty,pos,aft,g⟩ env w (.bool (decide ((a,b) ≠ (c,d)))) w:=by
 intro n a ha;simp[execOp,ha.eval hx,ha.eval hy,run_eqGuard_agg,hm,run_neq_struct,zcI hu he hs hi hY]
theorem zqf (hu:∀ w,(underlying t).run P w=.ok (.slice e) w) (hs:∀ w,(sizeOf e).run P w=.ok k w) :
  yM P ⟨dst,.buildSlice t 0 #[],ty,pos,aft,g⟩ env w (fun u w'=>∃ b,u=.slice (some ⟨b,0,none⟩) 0 0/\New w [] e b w'):=by
 refine⟨.slice (some ⟨w.heap.size,0,none⟩) 0 0,w.alloc (.cells #[] e),?_,_,rfl,New.mk w [] e⟩;intro n a ha;have e1:Array.range 0=#[]:=rfl;simp[execOp,Instr.buildSlice,hu,hs,Instr.fill,newRow,e1]
theorem kJ:∀ (us:List Value) (o i:Nat) (w:World) (cs:List Value),(∀ u ∈ us,u.oneCell'=true)->Blk w b cs e->o+i+us.length<=cs.length ->
   ∃ w',(storeCells ⟨b,o,none⟩ us i).run P w=.ok () w'/\zdh w b (cs.take (o+i)++us++cs.drop (o+i+us.length)) e w':=by
 intro us;induction us with
 | nil =>
  intro o i w cs _ hb _;refine⟨w,by simp[storeCells],rfl,?_,Keep.refl _ _⟩;simpa using hb
 | cons u r ih =>
  intro o i w cs h1 hb hl;simp only[ztQ]at hl
  have hY:w.cell? ⟨b,o+i,none⟩=some cs[o+i]:=by
   have:=hb.cells (o+i) cs[o+i] (ztn tO);simpa using this
  have da:∀ m,(Go.store ⟨b,o+i,none⟩ u m).run P w=.ok () (w.setCell ⟨b,o+i,none⟩ u):=by
   intro m;rw[run_store P w _ u m (h1 u tR)];simp[hY,hb.frozen]
  obtain⟨w',hr,db,hB,hK⟩:=ih o (i+1) (w.setCell ⟨b,o+i,none⟩ u) (cs.set (o+i) u) (fun x hx=>h1 x tD) (hb.set u) tD;refine⟨w',?_,by rw[db];simp,?_,(Keep.setCell w b (o+i) u).trans hK (fun _ _ h=>h)⟩
  . simp[storeCells,xg,da,hr]
  have e1:(cs.set (o+i) u).take (o+(i+1))=cs.take (o+i)++[u]:=by
   rw[show o+(i+1)=(o+i)+1 from tO,zwe tD];simp[zwd]
  have e2:(cs.set (o+i) u).drop (o+(i+1)+r.length)=cs.drop (o+i+(u::r).length):=by
   rw[zuQ tO]
   grind
  grind
theorem M.clear (hu:∀ w,(underlying t).run P w=.ok (.slice e) w) (hz:∀ w,(zeroValue e).run P w=.ok z w) (hx:ev env x=some (.slice (some ⟨b,o,none⟩) m c)) (hm:0<m) (da:Builtin.zeroCells z.cells m=zs.toArray) (hl:zs.length=m*k) (h1:∀ u ∈ zs,u.oneCell'=true) (hb:Blk w b cs e) (ho:o+m*k<=cs.length) :
  yM P ⟨dst,.call ⟨.builtin .clear,#[x],#[t]⟩,ty,pos,aft,g⟩ env w (fun u w'=>u=.tuple #[]/\zdh w b (cs.take o++zs++cs.drop (o+m*k)) e w'):=by
 obtain⟨w',hr,hW⟩:=kJ (P:=P) zs o 0 w cs h1 hb tO;refine⟨.tuple #[],w',?_,rfl,tD⟩;intro n a ha;obtain⟨m',rfl⟩:∃ m',m=m'+1:=⟨m - 1,tO⟩
 have hY:(Builtin.clear_ #[t] ty #[.slice (some ⟨b,o,none⟩) (m'+1) c]).run P w=.ok (.tuple #[]) w':=by
  simp[Builtin.clear_,hu,hz,da,hr]
 simp[execOp,resolve,invoke,builtin,ha.eval hx,hY]
end
open Go.RowKit
section
variable {ty:TypeId} {pos:String}
theorem zqg {a1:Option Addr} {l1 c1:Nat} {r:Option Value × Nat × Nat} (hu:P.underlying t=some (.slice e)) (he:(P.info? e).map (fun i=>(i.zero,i.size,i.bytes))=some r)
  (hx:ev env x=some (.slice a1 l1 c1)) (hy:ev env y=some (.slice ao 0 c)) (hY:l1<=c1) :
  yM P ⟨dst,.call ⟨.builtin .append,#[x,y],#[t,t]⟩,ty,pos,aft,g⟩ env w (fun u w'=>u=.slice a1 l1 c1/\w'=w):=by
 obtain⟨i,hi⟩:∃ i,P.info? e=some i:=by
  cases h:P.info? e with
  | none=>rw[h]at he;cases he
  | some i=>exact⟨i,rfl⟩
 refine⟨_,w,?_,rfl,rfl⟩;intro n a ha
 have:(Builtin.append_ #[t,t] ty #[.slice a1 l1 c1,.slice ao 0 c]).run P w=.ok (.slice a1 l1 c1) w:=by
  cases a1<;>cases ao<;>simp[Builtin.append_,run_underlying hu,sizeOf,typeInfo,hi,Builtin.lenOf,Builtin.firstCells,loadCells,loadCellsFrom,storeCells,hY]
 simp[execOp,resolve,invoke,builtin,ha.eval hx,ha.eval hy,this]
theorem zqh (enc:α->List Value) (hc:∀ x,(enc x).length=k) (h1:∀ x,∀ u ∈ enc x,u.oneCell'=true) (hR:∀ x cs,R D w x cs->cs=enc x)
  (hu:P.underlying t=some (.slice e)) (he:(P.info? e).map (fun i=>(i.zero,i.size,i.bytes))=some (some z,k,by')) (dr:z.cells.size=k) (hk:0<k)
  (hx:ev env x=some v) (hy:ev env y=some vy) (dt:SlR k R D w vy l) (hY:w.ownsRow 0 e k v m xs) (db:m+l.length<=9223372036854775807) (du:(m+l.length)*by'<=140737488355328) :
  yM P ⟨dst,.call ⟨.builtin .append,#[x,y],#[t,t]⟩,ty,pos,aft,g⟩ env w (fun u w'=>w'.ownsRow 0 e k u (m+l.length) (xs++l.flatMap enc)/\(u.ownBlock=v.ownBlock\/∃ g,u.ownBlock=some g/\w.heap.size<=g)/\Keep (fun k=>v.ownBlock=some k) w w'):=by
 obtain⟨ao,cap,rfl,dB,dw,dg⟩:=dt;by_cases hl:l.length=0
 .
  have dx:l=[]:=zuT hl;subst dx
  have hv:∃ a1 c1,v=.slice a1 m c1/\m<=c1:=by
   rcases hY.2 with⟨rfl,rfl⟩ | ⟨g0,cap,cur,rfl,dC,dD,dE,dw,dh,dl⟩
   . grind
   grind
  obtain⟨a1,c1,rfl,dy⟩:=hv;obtain⟨u,w',hr,rfl,rfl⟩:=zqg (g:=g) (pos:=pos) (aft:=aft) (dst:=dst) (ty:=ty) hu he hx hy dy;exact⟨_,_,hr,tD,.inl rfl,Keep.refl _ _⟩
 obtain⟨a0,rfl⟩:∃ a0,ao=some a0:=by
  obtain⟨x,hx⟩:∃ x,l[0]?=some x:=iA;obtain⟨b,o,cs,dc,_⟩:=dg 0 x hx;exact⟨_,dc⟩
 have da:∀ q u,(l.flatMap enc)[q]?=some u->w.cell? (a0.add q)=some u:=by
  intro q u hq;have dz:q<l.length*k:=by rw[<- zQ hc];exact(ztB.1 hq).1
  have hd:q / k*k+q % k=q:=by rw[Nat.mul_comm];exact zwn q k
  obtain⟨x,hx⟩:∃ x,l[q / k]?=some x:=⟨_,ztn (by rw[zwo hk];exact dz)⟩;obtain⟨b',o',cs,dc,_,dF,dh,dA⟩:=dg (q / k) x hx;have:=hR x cs dA;subst this;cases dc;have h3:∃ u',(enc x)[q % k]?=some u':=⟨_,ztn (by rw[hc];exact zwv _ hk)⟩;obtain⟨u',dm⟩:=h3;have h2:=zbo hc hx [] (q % k) u' dm;rw[zuF,hd,hq]at h2;cases h2;have h4:=dh (q % k) u dm;rw[xg];rw[zwg,hd]at h4;exact h4
 obtain⟨u,w',hr,h5,h6,h7,_⟩:=M.append (g:=g) (pos:=pos) (aft:=aft) (dst:=dst) (ty:=ty) hu he dr hk hx hy hY (zQ hc l) da tD db du;exact⟨u,w',hr,h5,h6,h7⟩
end
open Go.RowKit
section
variable {ty:TypeId} {pos:String}
theorem za [Decidable p]:(!decide p)=decide (¬ p):=tD
theorem zqi {b c:Bool} (hx:ev env x=some (.bool b)) (hc:(!b)=c):yx P ⟨dst,.unOp .not t x,ty,pos,aft,g⟩ env w (.bool c) w:=by
 intro n a ha;simp[execOp,ha.eval hx,Op.unary,hc]
theorem R.makeFunc {fn:Fn} {first captured:Array Operand} (hf:first.toList.map (ev env)=fs.map some) (hc:captured.toList.map (ev env)=cs.map some):yx P ⟨dst,.makeFunc fn first captured,ty,pos,aft,g⟩ env w (.func fn fs.toArray cs.toArray) w:=by
 intro n a ha;have e1:first.map a.eval=fs.toArray:=by apply zu4.1;simpa using evs ha first.toList fs hf
 have e2:captured.map a.eval=cs.toArray:=by apply zu4.1;simpa using evs ha captured.toList cs hc
 simp[execOp,Instr.makeFunc,e1,e2]
theorem R.neg {k:IntKind} {m:Int} (hx:ev env x=some (.int k m)) (hr:k.wrap (-m)=-m):yx P ⟨dst,.unOp .neg t x,ty,pos,aft,g⟩ env w (.int k (-m)) w:=by
 intro n a ha;simp[execOp,ha.eval hx,Op.unary,Op.intArith,hr]
theorem zqj {m j:Int} (hx:ev env x=some (.int .i64 m)) (hy:ev env y=some (.int .i64 j)):yx P ⟨dst,.call ⟨.builtin .max,#[x,y],#[t,t']⟩,ty,pos,aft,g⟩ env w (.int .i64 (max m j)) w:=by
 intro n a ha;have e:(if j > m then j else m)=max m j:=tO;simp[execOp,resolve,invoke,builtin,ha.eval hx,ha.eval hy,run_max_int2,e]
theorem zqk {m j:Int} (hx:ev env x=some (.int .i64 m)) (hy:ev env y=some (.int .i64 j)):yx P ⟨dst,.call ⟨.builtin .min,#[x,y],#[t,t']⟩,ty,pos,aft,g⟩ env w (.int .i64 (min m j)) w:=by
 intro n a ha;have e:(if j<m then j else m)=min m j:=tO;simp[execOp,resolve,invoke,builtin,ha.eval hx,ha.eval hy,run_min_int2,e]
theorem zql {s:ByteArray} (ht:ts=#[t]) (hu:P.underlying t=some .string) (hx:ev env x=some (.string s)) :
  yx P ⟨dst,.call ⟨.builtin .len,#[x],ts⟩,ty,pos,aft,g⟩ env w (.int .i64 s.size) w:=by
 subst ht;intro n a ha;simp[execOp,resolve,invoke,builtin,ha.eval hx,run_len_string (h:=hu),goInt]
theorem zqm {s:ByteArray} {k:IntKind} {i:Int} (hu:P.underlying t=some .string) (hx:ev env x=some (.string s)) (hy:ev env y=some (.int k i)) (j:Nat) (hi:i=(j:Int)) (hj:j<s.size) :
  yx P ⟨dst,.index t x y,ty,pos,aft,g⟩ env w (.int .u8 (s[j].toNat:Int)) w:=by
 subst hi;intro n a ha;have h0:(0:Int)<=(j:Int)/\(j:Int)<(s.size:Int):=⟨tO,tO⟩;simp[execOp,ha.eval hx,ha.eval hy,run_index_string (h:=hu),h0]
theorem zqn {a b:ByteArray} (hx:ev env x=some (.string a)) (hy:ev env y=some (.string b)):yx P ⟨dst,.binOp .eql t x y t',ty,pos,aft,g⟩ env w (.bool (decide (a.toList=b.toList))) w:=by
 intro n c hc;have e:(a.toList == b.toList)=decide (a.toList=b.toList):=tD;simp[execOp,hc.eval hx,hc.eval hy,eqGuard_at_string,binOp_string_eql,e]
theorem zqo {a b:ByteArray} (hx:ev env x=some (.string a)) (hy:ev env y=some (.string b)):yx P ⟨dst,.binOp .neq t x y t',ty,pos,aft,g⟩ env w (.bool (decide (a.toList ≠ b.toList))) w:=by
 intro n c hc;have e:(!(a.toList == b.toList))=decide (a.toList ≠ b.toList):=tD;simp only[execOp,hc.eval hx,hc.eval hy,eqGuard_at_string,binOp_string_neq,e];simp
end
theorem Sub.refl (env:Env):Sub env env:=fun _ _ h=>h
theorem Sub.trans {a b c:Env} (h:Sub a b) (h':Sub b c):Sub a c:=fun k v hk=>h' k v (h k v hk)
theorem Sub.push (h:get env d=none):Sub env ((d,v)::env):=by
 intro k u hu;simp only[GL.get];cases hb:Nat.beq d k with
 | true =>
  have:=ztu hb;subst this;rw[h]at hu;cases hu
 | false=>exact hu
theorem zqp {a b:Env} (h:Sub a b):Sub ((d,v)::a) ((d,v)::b):=by
 intro k u hu;simp only[GL.get]at hu ⊢;cases hb:Nat.beq d k with
 | true=>rw[hb]at hu;exact hu
 | false=>rw[hb]at hu;exact h k u hu
theorem zqq {a:Nat} {x y:Value} (h:a ≠ b):Sub ((a,x)::(b,y)::env) ((b,y)::(a,x)::env):=by
 intro k u hu;simp only[GL.get]at hu ⊢;cases h1:Nat.beq a k<;>cases h2:Nat.beq b k<;>rw[h1,h2]at hu
 . exact hu
 . exact hu
 . exact hu
 have e1:=ztu h1;have e2:=ztu h2;omega
def Does (P:Program) (o:Oper) (env:Env) (w:World) (R:Value->World->Prop):Prop:=(∃ v w',yx P o env w v w'/\R v w')\/∃ f args,zdg P o env w f args/\Calls P f args w (fun e w'=>∃ v,e=.returned v/\R v w')
theorem Does.sub {o:Oper} {R:Value->World->Prop} (h:Does P o env w R) (hs:Sub env env'):Does P o env' w R:=by
 rcases h with⟨v,w',h1,h2⟩ | ⟨f,args,h1,h2⟩
 . exact .inl ⟨v,w',fun n a ha=>h1 n a (ha.sub hs),h2⟩
 exact .inr ⟨f,args,fun n a ha=>h1 n a (ha.sub hs),h2⟩
theorem Does.of {o:Oper} {R:Value->World->Prop} (h:yM P o env w R):Does P o env w R:=.inl h
theorem Does.call {o:Oper} {R:Value->World->Prop} (h:zdg P o env w f args) (h':Calls P f args w (Ret R)):Does P o env w R:=.inr ⟨f,args,h,h'⟩
section
variable {n:Fm} {S:World->Prop}
theorem WD.sub (hs:Sub env' env) (h:WD P n ops Q S L fuel listed env' w):WD P n ops Q S L fuel listed env w:=fun a ha=>h a (ha.sub hs)
theorem zqr {o:Oper} {R:Value->World->Prop} (hi:ops[i]?=some o) (hr:Region.ready .any ops listed=[i]) (hg:o.guard=none) (hd:o.dst=some d) (hn:Nat.blt d n=true) (hm:Does P o env w R)
  (h:∀ v w',R v w'->(i ∉ L->S w')/\WD P n ops Q S L fuel (listed.setIfInBounds i true) ((d,v)::env) w'):WD P n ops Q S L (fuel+1) listed env w:=by
 rcases hm with hm | ⟨f,args,h1,h2⟩
 . exact WD.mem i hi hr hg hd hn hm h
 exact WD.call i hi hr hg hd hn h1 h2 h
def Fresh (R:World->Value->World->Prop):Prop:=∀ a v a',R a v a'->Ext a a'/\∃ b,v.ownBlock=some b/\a.heap.size<=b/\b<a'.heap.size
def zox (w:World) (R:World->Value->World->Prop) (v:Value) (w':World):Prop:=∃ a a',Ext w a/\R a v a'/\Ext a' w'
theorem Fresh.apart {R R':World->Value->World->Prop} (hR:Fresh R) (hY:Fresh R') {a a' c c':World} {u:Value} (h:R a v a') (h':R' c u c') (hk:Ext a' c):v.ownBlock ≠ u.ownBlock:=by
 obtain⟨_,b,h1,_,h2⟩:=hR _ _ _ h;obtain⟨_,b',h3,h4,_⟩:=hY _ _ _ h';rw[h1,h3];intro e;have e:=Option.some.inj e;have:=hk.size;omega
theorem zqs (i j k:Nat) {ok:Oper} {di dk:Nat} {L3:Array Bool} {Ri Rj Rk:World->Value->World->Prop} (hi:ops[i]?=some oi) (hj:ops[j]?=some oj) (hk:ops[k]?=some ok)
  (dc:Region.ready .any ops listed=[i,j]) (dg:Region.ready .any ops (listed.setIfInBounds i true)=[j]) (dh:Region.ready .any ops ((listed.setIfInBounds i true).setIfInBounds j true)=[k]) (dl:Region.ready .any ops (listed.setIfInBounds j true)=[i,k]) (dm:Region.ready .any ops ((listed.setIfInBounds j true).setIfInBounds i true)=[k]) (dr:Region.ready .any ops ((listed.setIfInBounds j true).setIfInBounds k true)=[i])
  (e1:((listed.setIfInBounds i true).setIfInBounds j true).setIfInBounds k true=L3) (e2:((listed.setIfInBounds j true).setIfInBounds i true).setIfInBounds k true=L3) (e3:((listed.setIfInBounds j true).setIfInBounds k true).setIfInBounds i true=L3)
  (gi:oi.guard=none) (gj:oj.guard=none) (gk:ok.guard=none) (ti:oi.dst=some di) (tj:oj.dst=some dj) (tk:ok.dst=some dk) (ni:Nat.blt di n=true) (nj:Nat.blt dj n=true) (nk:Nat.blt dk n=true)
  (fi:get env di=none) (fj:get env dj=none) (fk:get env dk=none) (hY:Nat.beq di dj=false) (da:Nat.beq di dk=false) (db:Nat.beq dj dk=false)
  (hS:∀ w',Ext w w'->S w') (mi:∀ w',Ext w w'->Does P oi env w' (Ri w')) (mj:∀ w',Ext w w'->Does P oj env w' (Rj w')) (mk:∀ w',Ext w w'->Does P ok env w' (Rk w')) (ri:Fresh Ri) (rj:Fresh Rj) (rk:Fresh Rk)
  (h:∀ vi vj vk w',Ext w w'->zox w Ri vi w'->zox w Rj vj w'->zox w Rk vk w'->vi.ownBlock ≠ vj.ownBlock->vi.ownBlock ≠ vk.ownBlock->vj.ownBlock ≠ vk.ownBlock->WD P n ops Q S L fuel L3 ((dk,vk)::(dj,vj)::(di,vi)::env) w'):WD P n ops Q S L (fuel+3) listed env w:=by
 have nij:di ≠ dj:=fun e=>by rw[e,zwm]at hY;cases hY
 have nik:di ≠ dk:=fun e=>by rw[e,zwm]at da;cases da
 have njk:dj ≠ dk:=fun e=>by rw[e,zwm]at db;cases db
 have g1:∀ {a b:Nat} {v:Value},get env b=none->a ≠ b->get ((a,v)::env) b=none:=by
  intro a b v hb dt;simp only[GL.get];cases hq:Nat.beq a b with
  | true=>exact absurd (ztu hq) dt
  | false=>exact hb
 have pj:∀ {v:Value},Sub env ((di,v)::env):=fun {v}=>Sub.push fi;refine zq7 (R:=Ri w) (Rj:=Rj w) i j hi hj dc gi ti ni gj tj nj (mi w ix) (mj w ix) (fun vi w1 h1=>⟨fun _=>hS _ (ri _ _ _ h1).1,?_⟩) (fun vj w1 h1=>⟨fun _=>hS _ (rj _ _ _ h1).1,?_⟩)
 .
  have k1:=(ri _ _ _ h1).1;refine zqr (R:=Rj w1) hj dg gj tj nj ((mj w1 k1).sub (Sub.push fi)) (fun vj w2 h2=>?_);have k2:=(rj _ _ _ h2).1;refine⟨fun _=>hS _ Jl,?_⟩;refine zqr (R:=Rk w2) hk dh gk tk nk ((mk w2 Jl).sub ((Sub.push fi).trans (Sub.push (g1 fj nij)))) (fun vk w3 h3=>?_);have k3:=(rk _ _ _ h3).1;refine⟨fun _=>hS _ ((k1.ext k2).ext k3),?_⟩;rw[e1];exact h vi vj vk w3 ((k1.ext k2).ext k3) UN ⟨w1,w2,k1,h2,k3⟩ UG (ri.apart rj h1 h2 ix) (ri.apart rk h1 h3 k2) (rj.apart rk h2 h3 ix)
 have k1:=(rj _ _ _ h1).1;refine zq7 (R:=Ri w1) (Rj:=Rk w1) i k hi hk dl gi ti ni gk tk nk ((mi w1 k1).sub (Sub.push fj)) ((mk w1 k1).sub (Sub.push fj)) (fun vi w2 h2=>?_) (fun vk w2 h2=>?_)
 .
  have k2:=(ri _ _ _ h2).1;refine⟨fun _=>hS _ Jl,?_⟩;refine zqr (R:=Rk w2) hk dm gk tk nk ((mk w2 Jl).sub ((Sub.push fj).trans (Sub.push (g1 fi nij.symm)))) (fun vk w3 h3=>?_);have k3:=(rk _ _ _ h3).1;refine⟨fun _=>hS _ ((k1.ext k2).ext k3),?_⟩;rw[e2];exact(h vi vj vk w3 ((k1.ext k2).ext k3) ⟨w1,w2,k1,h2,k3⟩ UN UG (rj.apart ri h1 h2 ix).symm (ri.apart rk h2 h3 ix) (rj.apart rk h1 h3 k2)).sub (zqp (zqq nij.symm))
 have k2:=(rk _ _ _ h2).1;refine⟨fun _=>hS _ Jl,?_⟩;refine zqr (R:=Ri w2) hi dr gi ti ni ((mi w2 Jl).sub ((Sub.push fj).trans (Sub.push (g1 fk njk)))) (fun vi w3 h3=>?_);have k3:=(ri _ _ _ h3).1;refine⟨fun _=>hS _ ((k1.ext k2).ext k3),?_⟩;rw[e3];exact(h vi vj vk w3 ((k1.ext k2).ext k3) UG UN ⟨w1,w2,k1,h2,k3⟩ (rj.apart ri h1 h3 k2).symm (rk.apart ri h2 h3 ix).symm (rj.apart rk h1 h2 ix)).sub ((zqp (zqq nij.symm)).trans (zqq nik.symm))
end
section
variable {n:Fm} {S:World->Prop} {o:Oper}
theorem zeh {b c x:Bool} (ha:Ok n env a) (hY:o.guard=some (j,b)) (hj:(ops[j]?).bind (·.dst)=some dj) (hget:get env dj=some (.bool c)) (hx:(c == b)=x):Region.wanted o (yielded ops a.tmps)=x:=by
 have hy:yielded ops a.tmps j=some c:=by
  have:=ha.get dj _ hget;simp[yielded,hj,this]
 simp[Region.wanted,hY,hy,hx]
theorem zei {b:Bool} (ha:Ok n env a) (hY:o.guard=some (j,b)) (hj:(ops[j]?).bind (·.dst)=some dj) (hget:get env dj=some undef):Region.wanted o (yielded ops a.tmps)=false:=by
 have hy:yielded ops a.tmps j=none:=by
  have:=ha.get dj _ hget;simp[yielded,hj,this,undef]
 simp[Region.wanted,hY,hy]
theorem WD.skip (i:Nat) (hi:ops[i]?=some o) (hr:Region.ready .any ops listed=[i]) (hw:∀ a,Ok n env a->Region.wanted o (yielded ops a.tmps)=false) (hd:o.dst=some d) (hn:Nat.blt d n=true)
  (hS:S w) (h:WD P n ops Q S L fuel (listed.setIfInBounds i true) ((d,undef)::env) w):WD P n ops Q S L (fuel+1) listed env w:=by
 intro a ha;refine⟨fun h0=>tD,fun j hj=>?_⟩;rw[hr]at hj;have:j=i:=tD;subst this;unfold wpOp;simp only[hi];rw[ztx tD,hd];exact⟨fun _ _=>hS,h _ (ha.put hn)⟩
theorem zqt (i:Nat) (hi:ops[i]?=some o) (hs:(Region.noSelect ops&&Region.free .any ops listed i&&(Region.ready .any ops listed).contains i&&L.all (qZ .any ops i)&&!L.contains i)=true)
  (hd:o.dst=some d) (hn:Nat.blt d n=true) (hS:S w) (hr:(∀ a,Ok n env a->Region.wanted o (yielded ops a.tmps)=true)/\(∀ w',S w'->yx P o env w' v w')\/(∀ a,Ok n env a->Region.wanted o (yielded ops a.tmps)=false)/\v=undef) (h:WD P n ops Q S L fuel (listed.setIfInBounds i true) ((d,v)::env) w):WD P n ops Q S L (fuel+1) listed env w:=by
 intro a ha;simp only[zu8,zue]at hs;obtain⟨⟨⟨⟨h1,h2⟩,h3⟩,h4⟩,h5⟩:=hs;refine zaH hi UP (fun _ _ _ h=>h) tD tD fuel listed a w UX tD (v:=v) ?_ hS ?_
 .
  rcases hr with⟨h6,h7⟩ | ⟨h6,h7⟩
  . exact .inl ⟨h6 a ha,fun w' hY=>h7 w' hY n a ha⟩
  exact .inr ⟨h6 a ha,h7⟩
 rw[hd];exact h _ (ha.put hn)
end
inductive TI where
 | sl (e:TypeId) (k:Nat)
 | bool
 | str
 | st (offs:List Nat)
 | ar (n k:Nat)
def TI.ok (P:Program) (t:TypeId):TI->Prop
 | .sl e k=>(∀ w,(underlying t).run P w=.ok (.slice e) w)/\∀ w,(sizeOf e).run P w=.ok k w
 | .bool=>P.underlying t=some .bool
 | .str=>P.underlying t=some .string
 | .st offs=>∃ fields:Array Field,(∀ w,(underlying t).run P w=.ok (.struct fields) w)/\∀ (i off:Nat),offs[i]?=some off->∃ f:Field,fields[i]?=some f/\f.offset=off/\∃ m,∀ w,(sizeOf f.type).run P w=.ok (m+1) w
 | .ar n k=>∃ e,(∀ w,(underlying t).run P w=.ok (.array n e) w)/\∀ w,(sizeOf e).run P w=.ok k w
abbrev Tab:=List (Nat × TI)
variable {T:Tab}
def zkB:Tab->Nat->Option TI
 | [],_=>none
 | (k,v)::r,j=>cond (Nat.beq k j) (some v) (zkB r j)
def zqu (P:Program) (T:Tab):Prop:=∀ t i,zkB T t=some i->i.ok P t
theorem zqw:zqu P []:=fun _ _ h=>by cases h
theorem zqy {t:Nat} {i:TI} (h:i.ok P t) (hT:zqu P T):zqu P ((t,i)::T):=by
 intro t' i' h';simp only[zkB]at h';cases hb:Nat.beq t t' with
 | true=>rw[hb]at h';cases h';rw[<- ztu hb];exact h
 | false=>rw[hb]at h';exact hT _ _ h'
def FOk (P:Program) (fields:Array Field):Nat->List Nat->Prop
 | _,[]=>True
 | i,off::r=>(∃ f:Field,fields[i]?=some f/\f.offset=off/\∃ m,∀ w,(sizeOf f.type).run P w=.ok (m+1) w)/\FOk P fields (i+1) r
theorem FOk.at {P:Program} {fields:Array Field}:∀ {offs:List Nat} {s:Nat},FOk P fields s offs->∀ (i off:Nat),offs[i]?=some off->∃ f:Field,fields[s+i]?=some f/\f.offset=off/\∃ m,∀ w,(sizeOf f.type).run P w=.ok (m+1) w
 | [],_,_,i,off,h=>tD
 | x::r,s,h,0,off,hi=>by simp at hi;subst hi;exact h.1
 | x::r,s,h,i+1,off,hi=>by
  have:=FOk.at h.2 i off tD;rw[show s+(i+1)=s+1+i from tO];omega
theorem zqA {offs:List Nat} (hu:∀ w,(underlying t).run P w=.ok (.struct fields) w) (h:FOk P fields 0 offs):TI.ok P t (.st offs) :=
 ⟨fields,hu,fun i off hi=>by have:=h.at i off hi;rwa [zwC]at this⟩
def nth {α:Type}:List α->Nat->Option α
 | [],_=>none
 | x::_,0=>some x
 | _::r,n+1=>nth r n
theorem kK {α:Type}:∀ (l:List α) (n:Nat),nth l n=l[n]?
 | [],_=>by simp[nth]
 | x::_,0=>by simp[nth]
 | _::r,n+1=>by simp[nth,kK r n]
def qM (env:Env):List Operand->Option (List Value)
 | []=>some []
 | x::r=>match ev env x with
  | some v=>(match qM env r with
   | some vs=>some (v::vs)
   | none=>none)
  | none=>none
theorem yr {env:Env}:∀ {l:List Operand} {vs:List Value},qM env l=some vs->l.map (ev env)=vs.map some
 | [],vs,h=>by cases h;rfl
 | x::r,vs,h=>by
  unfold qM at h;split at h
  .
   rename_i v hv;split at h
   .
    rename_i us hY;cases h;simp[hv,yr hY]
   cases h
  cases h
def wr (m:Int):Option Prop:=some (-9223372036854775808<=m/\m<=9223372036854775807)
def zoy (o:BinOp) (m j:Int):Option (Option Prop × Value):=match o with
 | .add=>some (wr (m+j),.int .i64 (m+j))
 | .sub=>some (wr (m - j),.int .i64 (m - j))
 | .mul=>some (wr (m*j),.int .i64 (m*j))
 | .lss=>some (none,.bool (decide (m<j)))
 | .leq=>some (none,.bool (decide (m<=j)))
 | .gtr=>some (none,.bool (decide (j<m)))
 | .geq=>some (none,.bool (decide (j<=m)))
 | .eql=>some (none,.bool (decide (m=j)))
 | .neq=>some (none,.bool (decide (m ≠ j)))
 | _=>none
def zoz (o:BinOp) (m j:Int):Option (Option Prop × Value):=match o with
 | .eql=>some (none,.bool (decide (m=j)))
 | .neq=>some (none,.bool (decide (m ≠ j)))
 | .lss=>some (none,.bool (decide (m<j)))
 | .leq=>some (none,.bool (decide (m<=j)))
 | .gtr=>some (none,.bool (decide (j<m)))
 | .geq=>some (none,.bool (decide (j<=m)))
 | _=>none
def zoA (T:Tab) (t:TypeId) (o:BinOp) (p q:Bool):Option (Option Prop × Value):=match zkB T t with
 | some .bool=>(match o with
  | .eql=>some (none,.bool (decide (p=q)))
  | .neq=>some (none,.bool (decide (p ≠ q)))
  | _=>none)
 | _=>none
def pv (T:Tab) (env:Env):Op->Option (Option Prop × Value)
 | .move x=>(match ev env x with
  | some v=>some (none,v)
  | none=>none)
 | .assign x=>(match ev env x with
  | some v=>some (none,v)
  | none=>none)
 | .pick c x y=>(match ev env c with
  | some (.bool true)=>(match ev env x with
   | some v=>some (none,v)
   | none=>none)
  | some (.bool false)=>(match ev env y with
   | some v=>some (none,v)
   | none=>none)
  | _=>none)
 | .nilCheck x=>(match ev env x with
  | some (.pointer (some a))=>some (none,.pointer (some a))
  | some (.func (.func f) fs cs)=>some (none,.func (.func f) fs cs)
  | _=>none)
 | .extract x i=>(match ev env x with
  | some (.tuple ⟨l⟩)=>(match nth l i with
   | some v=>some (none,v)
   | none=>none)
  | _=>none)
 | .binOp o t x y _=>(match ev env x with
  | some (.int .i64 m)=>(match ev env y with
   | some (.int .i64 j)=>zoy o m j
   | _=>none)
  | some (.int .u8 m)=>(match ev env y with
   | some (.int .u8 j)=>zoz o m j
   | _=>none)
  | some (.bool p)=>(match ev env y with
   | some (.bool q)=>zoA T t o p q
   | _=>none)
  | some (.string a)=>(match ev env y with
   | some (.string b)=>(match o with
    | .eql=>some (none,.bool (decide (a.toList=b.toList)))
    | .neq=>some (none,.bool (decide (a.toList ≠ b.toList)))
    | _=>none)
   | _=>none)
  | _=>none)
 | .unOp .not _ x=>(match ev env x with
  | some (.bool true)=>some (none,.bool false)
  | some (.bool false)=>some (none,.bool true)
  | _=>none)
 | .unOp .neg _ x=>(match ev env x with
  | some (.int .i64 m)=>some (wr (-m),.int .i64 (-m))
  | _=>none)
 | .fieldAddr s x f=>(match zkB T s with
  | some (.st offs)=>(match nth offs f with
   | some off=>(match ev env x with
    | some (.pointer (some ⟨b,o,none⟩))=>some (none,.pointer (some ⟨b,o+off,none⟩))
    | _=>none)
   | none=>none)
  | _=>none)
 | .indexAddr t x y=>(match zkB T t with
  | some (.sl _ k)=>(match ev env x with
   | some (.slice (some ⟨b,o,none⟩) l _)=>(match ev env y with
    | some (.int _ i)=>some (some (0<=i/\i<(l:Int)),.pointer (some ⟨b,o+i.toNat*k,none⟩))
    | _=>none)
   | _=>none)
  | some (.ar n k)=>(match ev env x with
   | some (.pointer (some ⟨b,o,none⟩))=>(match y with
    | .const (.int _ i)=>(match decide (0<=i/\i<(n:Int)) with
     | true=>some (none,.pointer (some ⟨b,o+i.toNat*k,none⟩))
     | false=>none)
    | .tmp j=>(match get env j with
     | some (.int _ i)=>some (some (0<=i/\i<(n:Int)),.pointer (some ⟨b,o+i.toNat*k,none⟩))
     | _=>none)
    | _=>none)
   | _=>none)
  | _=>none)
 | .makeFunc fn first captured=>(match qM env first.toList with
  | some fs=>(match qM env captured.toList with
   | some cs=>some (none,.func fn fs.toArray cs.toArray)
   | none=>none)
  | none=>none)
 | .call ⟨.builtin .len,⟨[x]⟩,⟨[t]⟩⟩=>(match zkB T t with
  | some (.sl _ _)=>(match ev env x with
   | some (.slice _ l _)=>some (none,.int .i64 l)
   | _=>none)
  | some .str=>(match ev env x with
   | some (.string s)=>some (none,.int .i64 s.size)
   | _=>none)
  | _=>none)
 | .call ⟨.builtin .max,⟨[x,y]⟩,⟨[_,_]⟩⟩=>(match ev env x with
  | some (.int .i64 m)=>(match ev env y with
   | some (.int .i64 j)=>some (none,.int .i64 (max m j))
   | _=>none)
  | _=>none)
 | .call ⟨.builtin .min,⟨[x,y]⟩,⟨[_,_]⟩⟩=>(match ev env x with
  | some (.int .i64 m)=>(match ev env y with
   | some (.int .i64 j)=>some (none,.int .i64 (min m j))
   | _=>none)
  | _=>none)
 | _=>none
def Ask:Option Prop->Prop
 | none=>True
 | some p=>p
section
variable {ty:TypeId} {pos:String}
theorem zmG {o:BinOp} {m j:Int} (hx:ev env x=some (.int .i64 m)) (hy:ev env y=some (.int .i64 j)) (h:zoy o m j=some (ob,v)) (ha:Ask ob):yx P ⟨dst,.binOp o t x y t',ty,pos,aft,g⟩ env w v w:=by
 cases o<;>simp only[zoy,wr,Option.some.injEq,Prod.mk.injEq,reduceCtorEq]at h
 all_goals (obtain⟨rfl,rfl⟩:=h)
 . exact R.add hx hy (qp ha)
 . exact R.sub hx hy (qp ha)
 . exact R.mul hx hy (qp ha)
 all_goals first | exact R.eql hx hy | exact R.neq hx hy | exact R.lss hx hy | exact R.leq hx hy | exact R.gtr hx hy | exact R.geq hx hy
theorem zmH {k:IntKind} {o:BinOp} {m j:Int} (hx:ev env x=some (.int k m)) (hy:ev env y=some (.int k j)) (h:zoz o m j=some (ob,v)):yx P ⟨dst,.binOp o t x y t',ty,pos,aft,g⟩ env w v w:=by
 cases o<;>simp only[zoz,Option.some.injEq,Prod.mk.injEq,reduceCtorEq]at h
 all_goals (obtain⟨rfl,rfl⟩:=h)
 all_goals first | exact R.eql hx hy | exact R.neq hx hy | exact R.lss hx hy | exact R.leq hx hy | exact R.gtr hx hy | exact R.geq hx hy
theorem zmI (hT:zqu P T) {o:BinOp} {p:Bool} (hx:ev env x=some (.bool p)) (hy:ev env y=some (.bool q)) (h:zoA T t o p q=some (ob,v)):yx P ⟨dst,.binOp o t x y t',ty,pos,aft,g⟩ env w v w:=by
 unfold zoA at h;split at h
 .
  rename_i ht;have hb:P.underlying t=some .bool:=hT _ _ ht;cases o<;>simp only[Option.some.injEq,Prod.mk.injEq,reduceCtorEq]at h
  all_goals (obtain⟨rfl,rfl⟩:=h)
  . exact zpE hb hx hy
  exact zpF hb hx hy
 cases h
theorem zbq (hT:zqu P T) {op:Op} (h:pv T env op=some (ob,v)) (ha:Ask ob):yx P ⟨dst,op,ty,pos,aft,g⟩ env w v w:=by
 unfold pv at h;split at h
 .
  split at h
  . rename_i hx;cases h;exact R.move hx
  cases h
 .
  split at h
  . rename_i hx;cases h;exact R.assign hx
  cases h
 .
  split at h
  .
   rename_i hc;split at h
   . rename_i hx;cases h;exact zpB hc rfl hx
   cases h
  .
   rename_i hc;split at h
   . rename_i hx;cases h;exact zpC hc rfl hx
   cases h
  cases h
 .
  split at h
  . rename_i hx;cases h;exact R.nilCheck hx
  . rename_i hx;cases h;exact zpD hx
  cases h
 .
  split at h
  .
   rename_i hx;split at h
   . rename_i hn;cases h;exact R.extract hx (by rw[kK]at hn;simpa using hn)
   cases h
  cases h
 .
  split at h
  .
   rename_i hx;split at h
   . rename_i hy;exact zmG hx hy h ha
   cases h
  .
   rename_i hx;split at h
   . rename_i hy;exact zmH hx hy h
   cases h
  .
   rename_i hx;split at h
   . rename_i hy;exact zmI hT hx hy h
   cases h
  .
   rename_i hx;split at h
   .
    rename_i hy;split at h
    . cases h;exact zqn hx hy
    . cases h;exact zqo hx hy
    cases h
   cases h
  cases h
 .
  split at h
  . rename_i hx;cases h;exact R.not hx
  . rename_i hx;cases h;exact R.not hx
  cases h
 .
  split at h
  . rename_i hx;cases h;exact R.neg hx (qp ha)
  cases h
 .
  split at h
  .
   rename_i ht;split at h
   .
    rename_i hn;split at h
    .
     rename_i hx;cases h;obtain⟨fields,hu,hf⟩:=hT _ _ ht;rw[kK]at hn;obtain⟨f,h1,rfl,m,h3⟩:=hf _ _ hn;exact R.fieldAddr hu h1 h3 hx
    cases h
   cases h
  cases h
 .
  split at h
  .
   rename_i ht;split at h
   .
    rename_i hx;split at h
    .
     rename_i hy;cases h;obtain⟨h1,h2⟩:=hT _ _ ht;exact zpH h1 h2 hx hy O ha
    cases h
   cases h
  .
   rename_i ht;split at h
   .
    rename_i hx;split at h
    .
     split at h
     .
      rename_i hd;cases h;obtain⟨e,h1,h2⟩:=hT _ _ ht;exact zpI h1 h2 hx O (of_decide_eq_true hd)
     cases h
    .
     split at h
     .
      rename_i hy;cases h;obtain⟨e,h1,h2⟩:=hT _ _ ht;exact zpI h1 h2 hx hy ha
     cases h
    cases h
   cases h
  cases h
 .
  split at h
  .
   rename_i h1;split at h
   . rename_i h2;cases h;exact R.makeFunc (yr h1) (yr h2)
   cases h
  cases h
 .
  split at h
  .
   rename_i ht;split at h
   . rename_i hx;cases h;exact zpG rfl (hT _ _ ht).1 hx
   cases h
  .
   rename_i ht;split at h
   . rename_i hx;cases h;exact zql rfl (hT _ _ ht) hx
   cases h
  cases h
 .
  split at h
  .
   rename_i hx;split at h
   . rename_i hy;cases h;exact zqj hx hy
   cases h
  cases h
 .
  split at h
  .
   rename_i hx;split at h
   . rename_i hy;cases h;exact zqk hx hy
   cases h
  cases h
 cases h
end
inductive Pos where
 | c (x:Code)
 | o (ops:Array Oper) (l:List Oper)
 | q (ops:Array Oper) (l:List Oper)
 | e (x:Exit)
inductive Fr where
 | s (y:Code)
 | b (id:Nat)
 | k (B:Act->World->Prop)
def QK (P:Program) (Q:Exit->Act->World->Prop):List Fr->Exit->Act->World->Prop
 | []=>Q
 | .s y::ks=>Exit.then (fun a w=>y.wp P (QK P Q ks) a w) (QK P Q ks)
 | .b id::ks=>Exit.inBlock id (QK P Q ks)
 | .k B::ks=>Exit.then B (QK P Q ks)
def G (P:Program) (n:Fm) (Q:Exit->Act->World->Prop) (ks:List Fr):Pos->Env->World->Prop
 | .c x,env,w=>WC P n x (QK P Q ks) env w
 | .o ops l,env,w=>WO P n ops (QK P Q ks) l env w
 | .q ops l,env,w=>WQ P n ops (QK P Q ks) w l env
 | .e x,env,w=>WX n x (QK P Q ks) env w
def gd (ops:Array Oper) (env:Env):Option (Nat × Bool)->Option Bool
 | none=>some true
 | some (j,b)=>match nth ops.toList j with
  | some ⟨some d,_,_,_,_,_⟩=>(match get env d with
   | some (.bool true)=>(match b with
    | true=>some true
    | false=>some false)
   | some (.bool false)=>(match b with
    | true=>some false
    | false=>some true)
   | some (.tuple ⟨[]⟩)=>some false
   | _=>none)
  | _=>none
def jz (T:Tab) (n:Nat) (ks:List Fr) (env:Env):Pos->Option (Option Prop × List Fr × Pos × Env)
 | .c (.seq x y)=>some (none,.s y::ks,.c x,env)
 | .c (.block id x)=>some (none,.b id::ks,.c x,env)
 | .c .skip=>some (none,ks,.e .normal,env)
 | .c (.exit id)=>some (none,ks,.e (.exit id),env)
 | .c .ret=>some (none,ks,.e .ret,env)
 | .c (.region _ ops false)=>some (none,ks,.o ops ops.toList,env)
 | .c (.cond c x y)=>(match ev env c with
  | some (.bool true)=>some (none,ks,.c x,env)
  | some (.bool false)=>some (none,ks,.c y,env)
  | _=>none)
 | .e .normal=>(match ks with
  | .s y::ks=>some (none,ks,.c y,env)
  | .b _::ks=>some (none,ks,.e .normal,env)
  | _=>none)
 | .e .ret=>(match ks with
  | _::ks=>some (none,ks,.e .ret,env)
  | []=>none)
 | .e (.exit id)=>(match ks with
  | .b id'::ks=>(match Nat.beq id id' with
   | true=>some (none,ks,.e .normal,env)
   | false=>some (none,ks,.e (.exit id),env))
  | .s _::ks=>some (none,ks,.e (.exit id),env)
  | .k _::ks=>some (none,ks,.e (.exit id),env)
  | []=>none)
 | .o _ []=>some (none,ks,.e .normal,env)
 | .o ops (⟨some d,op,_,_,_,g⟩::r)=>(match Nat.blt d n with
  | true=>(match gd ops env g with
   | some true=>(match pv T env op with
    | some (ob,v)=>some (ob,ks,.o ops r,(d,v)::env)
    | none=>none)
   | some false=>some (none,ks,.o ops r,(d,undef)::env)
   | none=>none)
  | false=>none)
 | .q ops (⟨some d,op,_,_,_,g⟩::r)=>(match Nat.blt d n with
  | true=>(match gd ops env g with
   | some true=>(match pv T env op with
    | some (ob,v)=>some (ob,ks,.q ops r,(d,v)::env)
    | none=>none)
   | some false=>some (none,ks,.q ops r,(d,undef)::env)
   | none=>none)
  | false=>none)
 | _=>none
def znQ:Option Prop->Prop->Option Prop
 | none,p=>some p
 | some q,p=>some (q/\p)
def zej (T:Tab) (n:Nat):Nat->Option Prop->List Fr->Pos->Env->Option (Option Prop × List Fr × Pos × Env)
 | 0,ob,ks,pos,env=>some (ob,ks,pos,env)
 | k+1,ob,ks,pos,env=>match jz T n ks env pos with
  | some (none,ks',pos',env')=>zej T n k ob ks' pos' env'
  | some (some p,ks',pos',env')=>zej T n k (znQ ob p) ks' pos' env'
  | none=>none
section
variable {n:Fm} {ks ks':List Fr} {pos pos':Pos}
theorem qf {op:Op} {ty:TypeId} {ps:String} {x:Bool} (h:gd ops env g=some x):∀ a,Ok n env a->Region.wanted ⟨dst,op,ty,ps,aft,g⟩ (yielded ops a.tmps)=x:=by
 intro a ha;unfold gd at h;split at h
 . cases h;rfl
 rename_i j b;split at h
 .
  rename_i d _ _ _ _ _ hj
  have hY:(ops[j]?).bind (·.dst)=some d:=by
   rw[kK]at hj
   grind
  split at h
  . rename_i hg;split at h<;>(cases h;exact zeh ha rfl hY hg rfl)
  . rename_i hg;split at h<;>(cases h;exact zeh ha rfl hY hg rfl)
  . rename_i hg;cases h;exact zei ha rfl hY hg
  cases h
 cases h
theorem jb {op:Op} {ty:TypeId} {ps:String} (hg:gd ops env g=some true) (h:WO P n ops Q (⟨dst,op,ty,ps,aft,none⟩::r) env w):WO P n ops Q (⟨dst,op,ty,ps,aft,g⟩::r) env w:=by
 intro a ha;have h1:=h a ha;unfold wpList at h1 ⊢;rw[zty Jv]at h1;rw[zty (qf hg a ha)];exact h1
theorem zim {op:Op} {ty:TypeId} {ps:String} (hn:Nat.blt d n=true) (hg:gd ops env g=some false) (h:WO P n ops Q r ((d,undef)::env) w):WO P n ops Q (⟨some d,op,ty,ps,aft,g⟩::r) env w:=by
 intro a ha;unfold wpList;rw[ztx (by rw[qf hg a ha];simp)];exact h _ (ha.put hn)
theorem zgr {op:Op} {ty:TypeId} {ps:String} (hg:gd ops env g=some true) (h:WQ P n ops Q w (⟨dst,op,ty,ps,aft,none⟩::r) env):WQ P n ops Q w (⟨dst,op,ty,ps,aft,g⟩::r) env:=by
 intro a ha;have h1:=h a ha;unfold wpQuiet at h1 ⊢;rw[zty Jv]at h1;rw[zty (qf hg a ha)];exact h1
theorem zin {op:Op} {ty:TypeId} {ps:String} (hn:Nat.blt d n=true) (hg:gd ops env g=some false) (h:WQ P n ops Q w r ((d,undef)::env)):WQ P n ops Q w (⟨some d,op,ty,ps,aft,g⟩::r) env:=by
 intro a ha;unfold wpQuiet;rw[ztx (by rw[qf hg a ha];simp)];exact h _ (ha.put hn)
theorem zb4 (hT:zqu P T) (h:jz T n ks env pos=some (ob,ks',pos',env')) (ha:Ask ob) (hr:G P n Q ks' pos' env' w):G P n Q ks pos env w:=by
 unfold jz at h;split at h
 . cases h;exact WC.seq hr
 . cases h;exact WC.block hr
 . cases h;exact WC.skip hr
 . cases h;exact WC.exit hr
 . cases h;exact WC.ret hr
 .
  rename_i id ops;cases h;have:G P n Q ks (.c (.region id ops.toList.toArray false)) env w:=WC.region hr;simpa using this
 .
  split at h
  . rename_i hc;cases h;exact zp5 hc rfl hr
  . rename_i hc;cases h;exact zp7 hc rfl hr
  cases h
 .
  split at h
  . cases h;exact WX.next hr
  . cases h;exact zpa hr
  cases h
 .
  split at h
  .
   rename_i f _;cases h;cases f
   . exact zp9 hr
   . exact zpb hr
   exact zp9 hr
  cases h
 .
  split at h
  .
   split at h
   .
    rename_i hb;cases h;have:=ztu hb;subst this;exact zpc hr
   rename_i hb;cases h;exact zpd hb hr
  . cases h;exact zp8 hr
  . cases h;exact zp8 hr
  cases h
 . cases h;exact WO.nil hr
 .
  split at h
  .
   rename_i hn;split at h
   .
    rename_i hg;split at h
    . rename_i hv;cases h;exact jb hg (WO.op rfl rfl hn (zbq hT hv ha) hr)
    cases h
   . rename_i hg;cases h;exact zim hn hg hr
   cases h
  cases h
 .
  split at h
  .
   rename_i hn;split at h
   .
    rename_i hg;split at h
    . rename_i hv;cases h;exact zgr hg (WQ.op rfl rfl hn (fun _ _=>zbq hT hv ha) hr)
    cases h
   . rename_i hg;cases h;exact zin hn hg hr
   cases h
  cases h
 cases h
theorem Ask.of_and (h:Ask (znQ ob p)):Ask ob/\p:=by
 cases ob with
 | none=>exact⟨trivial,h⟩
 | some q=>exact h
theorem zb5 (hT:zqu P T):∀ (k:Nat) (ob ob':Option Prop) (ks:List Fr) (pos:Pos) (env:Env),zej T n k ob ks pos env=some (ob',ks',pos',env')->Ask ob'->Ask ob/\(G P n Q ks' pos' env' w->G P n Q ks pos env w)
 | 0,ob,ob',ks,pos,env,h,ha=>by cases h;exact⟨ha,fun h=>h⟩
 | k+1,ob,ob',ks,pos,env,h,ha=>by
  unfold zej at h;split at h
  .
   rename_i h1;obtain⟨h2,h3⟩:=zb5 hT k _ _ _ _ _ h ha;exact⟨h2,fun hr=>zb4 hT h1 trivial (h3 hr)⟩
  .
   rename_i h1;obtain⟨h2,h3⟩:=zb5 hT k _ _ _ _ _ h ha;obtain⟨h4,h5⟩:=h2.of_and;exact⟨h4,fun hr=>zb4 hT h1 h5 (h3 hr)⟩
  cases h
theorem G.go (hT:zqu P T) (k:Nat) (h:zej T n k none ks pos env=some (none,ks',pos',env')) (hr:G P n Q ks' pos' env' w):G P n Q ks pos env w:=(zb5 hT k _ _ _ _ _ h trivial).2 hr
theorem G.goA (hT:zqu P T) (k:Nat) (h:zej T n k none ks pos env=some (some p,ks',pos',env')) (hp:p) (hr:G P n Q ks' pos' env' w):G P n Q ks pos env w:=(zb5 hT k _ _ _ _ _ h hp).2 hr
end
theorem Sub.of (h:env'.map (fun p=>get env p.1)=env'.map (fun p=>some p.2)):Sub env' env:=by
 induction env' with
 | nil=>exact Sub.nil
 | cons p r ih =>
  obtain⟨k,u⟩:=p;simp only[zvx,List.cons.injEq]at h;exact Sub.cons h.1 (ih h.2)
section
variable {n:Fm} {ks ks':List Fr} {pos pos':Pos}
theorem G.sub (hs:Sub env' env) (h:G P n Q ks pos env' w):G P n Q ks pos env w:=by
 cases pos
 . exact WC.sub hs h
 . exact WO.sub hs h
 . exact WQ.sub hs h
 exact WX.sub hs h
theorem Sub.lit (h:get env d=some v):Sub ((d,v)::env) env:=Sub.cons h (fun _ _ h=>h)
theorem G.sp (d:Nat) [Decidable p] (h:get env d=some (.bool (decide p))) (h1:p->G P n Q ks pos ((d,.bool true)::env) w) (h2:¬ p->G P n Q ks pos ((d,.bool false)::env) w):G P n Q ks pos env w:=by
 by_cases hp:p
 . exact G.sub J9 (h1 hp)
 exact G.sub J9 (h2 hp)
theorem G.sb (d:Nat) {b:Bool} (h:get env d=some (.bool b)) (h1:b=true->G P n Q ks pos ((d,.bool true)::env) w) (h2:b=false->G P n Q ks pos ((d,.bool false)::env) w):G P n Q ks pos env w:=by
 cases b
 . exact G.sub (Sub.lit h) (h2 O)
 exact G.sub (Sub.lit h) (h1 O)
theorem zqC (h1:p->G P n Q ks pos env w) (h2:¬ p->G P n Q ks pos env w):G P n Q ks pos env w:=by
 grind
theorem zp3 {t:Nat} {x y:Code} [Decidable p] (h:get env t=some (.bool (decide p))) (h1:p->G P n Q ks (.c x) ((t,.bool true)::env) w) (h2:¬ p->G P n Q ks (.c y) ((t,.bool false)::env) w):G P n Q ks (.c (.cond (.tmp t) x y)) env w :=
 zp2 (c:=.tmp t) (x:=x) (y:=y) h (fun hp=>G.sub (pos:=.c x) J9 (h1 hp)) (fun hp=>G.sub (pos:=.c y) J9 (h2 hp))
theorem G.bool {t:Nat} {x y:Code} {b:Bool} (h:get env t=some (.bool b)) (h1:b=true->G P n Q ks (.c x) ((t,.bool true)::env) w) (h2:b=false->G P n Q ks (.c y) ((t,.bool false)::env) w):G P n Q ks (.c (.cond (.tmp t) x y)) env w :=
 WC.bool (c:=.tmp t) (x:=x) (y:=y) h (fun hp=>G.sub (pos:=.c x) J9 (h1 hp)) (fun hp=>G.sub (pos:=.c y) J9 (h2 hp))
theorem zqE {c:Operand} {x y:Code} [Decidable p] (h:ev env c=some (.bool (decide p))) (h1:p->G P n Q ks (.c x) env w) (h2:¬ p->G P n Q ks (.c y) env w):G P n Q ks (.c (.cond c x y)) env w:=zp2 h h1 h2
theorem zqF {c:Operand} {x y:Code} {b:Bool} (h:ev env c=some (.bool b)) (h1:b=true->G P n Q ks (.c x) env w) (h2:b=false->G P n Q ks (.c y) env w):G P n Q ks (.c (.cond c x y)) env w:=WC.bool h h1 h2
theorem zp6 {c:Operand} {x y:Code} {b:Bool} (h:ev env c=some (.bool b)) (hb:b=true) (h1:G P n Q ks (.c x) env w):G P n Q ks (.c (.cond c x y)) env w:=zp5 h hb h1
theorem G.ff {c:Operand} {x y:Code} {b:Bool} (h:ev env c=some (.bool b)) (hb:b=false) (h1:G P n Q ks (.c y) env w):G P n Q ks (.c (.cond c x y)) env w:=zp7 h hb h1
section
variable {op:Op} {ty:TypeId} {ps:String}
theorem zqG (hn:Nat.blt d n=true) (hg:gd ops env g=some true) (hr:yx P ⟨some d,op,ty,ps,aft,none⟩ env w v w') (h:G P n Q ks (.o ops rest) ((d,v)::env) w'):G P n Q ks (.o ops (⟨some d,op,ty,ps,aft,g⟩::rest)) env w :=
 jb hg (WO.op rfl rfl hn hr h)
theorem zqJ (hn:Nat.blt d n=true) (hg:gd ops env g=some true) (hr:∀ w',Ext w w'->yx P ⟨some d,op,ty,ps,aft,none⟩ env w' v w') (h:G P n Q ks (.q ops rest) ((d,v)::env) w):G P n Q ks (.q ops (⟨some d,op,ty,ps,aft,g⟩::rest)) env w :=
 zgr hg (WQ.op rfl rfl hn hr h)
theorem G.mem {R:Value->World->Prop} (hn:Nat.blt d n=true) (hg:gd ops env g=some true) (hr:yM P ⟨some d,op,ty,ps,aft,none⟩ env w R) (h:∀ v w',R v w'->G P n Q ks (.o ops rest) ((d,v)::env) w'):G P n Q ks (.o ops (⟨some d,op,ty,ps,aft,g⟩::rest)) env w :=
 jb hg (WO.mem rfl rfl hn hr h)
theorem zpQ {R:Value->World->Prop} (hg:gd ops env g=some true) (hr:yM P ⟨none,op,ty,ps,aft,none⟩ env w R) (h:∀ v w',R v w'->G P n Q ks (.o ops rest) env w'):G P n Q ks (.o ops (⟨none,op,ty,ps,aft,g⟩::rest)) env w :=
 jb hg (zpP rfl rfl hr h)
theorem zpT {R:World->Prop} (hg:gd ops env g=some true) (hr:xY P ⟨none,op,ty,ps,aft,none⟩ env w R) (h:∀ w',R w'->G P n Q ks (.o ops rest) env w'):G P n Q ks (.o ops (⟨none,op,ty,ps,aft,g⟩::rest)) env w :=
 jb hg (zpR rfl rfl hr h)
theorem G.yes {b c:Bool} (hj:(ops[j]?).bind (·.dst)=some dj) (hget:get env dj=some (.bool c)) (hc:c=b) (h:G P n Q ks (.o ops (⟨dst,op,ty,ps,aft,none⟩::rest)) env w):G P n Q ks (.o ops (⟨dst,op,ty,ps,aft,some (j,b)⟩::rest)) env w:=WO.yes hj hget hc h
theorem G.no {b c:Bool} (hj:(ops[j]?).bind (·.dst)=some dj) (hget:get env dj=some (.bool c)) (hc:c=!b) (hn:Nat.blt d n=true) (h:G P n Q ks (.o ops rest) ((d,undef)::env) w):G P n Q ks (.o ops (⟨some d,op,ty,ps,aft,some (j,b)⟩::rest)) env w:=WO.no hj hget hc hn h
theorem zqK (hn:(Nat.blt d n,gd ops env g,ev env x)=(true,some true,some (.pointer (some a0)))) (ht:∀ w,(isAgg t).run P w=.ok false w) (hc:w.cell? a0=some v) (h:G P n Q ks (.o ops rest) ((d,v)::env) w):G P n Q ks (.o ops (⟨some d,.load t x,ty,ps,aft,g⟩::rest)) env w:=by
 simp only[Prod.mk.injEq]at hn;exact zqG hn.1 hn.2.1 (R.load ht hn.2.2 hc) h
theorem zqL (hn:(Nat.blt d n,gd ops env g,ev env x)=(true,some true,some (.pointer (some a0)))) (ht:∀ w,(isAgg t).run P w=.ok false w) (hc:∀ w1,Ext w w1->w1.cell? a0=some v) (h:G P n Q ks (.q ops rest) ((d,v)::env) w):G P n Q ks (.q ops (⟨some d,.load t x,ty,ps,aft,g⟩::rest)) env w:=by
 simp only[Prod.mk.injEq]at hn;exact zqJ hn.1 hn.2.1 (fun w1 hw=>R.load ht hn.2.2 (hc w1 hw)) h
theorem zqM (hn:(Nat.blt d n,gd ops env g,ev env x)=(true,some true,some (.pointer (some ⟨b,o,none⟩)))) (ht:∀ w,(isAgg t).run P w=.ok true w) (hs:∀ w,(sizeOf t).run P w=.ok k w) (hc:Cells w b o cs) (hl:cs.length=k) (h:G P n Q ks (.o ops rest) ((d,.agg cs.toArray)::env) w):G P n Q ks (.o ops (⟨some d,.load t x,ty,ps,aft,g⟩::rest)) env w:=by
 simp only[Prod.mk.injEq]at hn;exact zqG hn.1 hn.2.1 (zpJ ht hs hn.2.2 hl hc) h
theorem G.call {xs:Array Operand} {R:Value->World->Prop} (hn:(Nat.blt d n,gd ops env g,qM env xs.toList)=(true,some true,some vs)) (hf:∀ args w,(callFunc f args).run P w=.ok (.enter f args) w)
  (hc:Calls P f vs.toArray w (Ret R)) (h:∀ v w',R v w'->G P n Q ks (.o ops rest) ((d,v)::env) w'):G P n Q ks (.o ops (⟨some d,.call ⟨.value (.func f),xs,ts⟩,ty,ps,aft,g⟩::rest)) env w:=by
 simp only[Prod.mk.injEq]at hn;exact jb hn.2.1 (WO.call O O hn.1 (F.call hf (yr hn.2.2)) hc h)
theorem zpO {xs:Array Operand} {R:Value->World->Prop} (hn:(Nat.blt d n,gd ops env g,qM env xs.toList,ev env x)=(true,some true,some vs,some (.func (.func f) fs.toArray cs.toArray))) (hf:∀ args w,(callFunc f args).run P w=.ok (.enter f args) w)
  (hc:Calls P f (fs++vs++cs).toArray w (Ret R)) (h:∀ v w',R v w'->G P n Q ks (.o ops rest) ((d,v)::env) w'):G P n Q ks (.o ops (⟨some d,.call ⟨.value x,xs,ts⟩,ty,ps,aft,g⟩::rest)) env w:=by
 simp only[Prod.mk.injEq]at hn;exact jb hn.2.1 (WO.call O O hn.1 (zpN hf hn.2.2.2 UF) hc h)
end
theorem zqN (h:∀ w',Ext w w'->G P n Q ks (.e .normal) env w'):G P n Q ks (.q ops []) env w:=WQ.nil h
theorem zq1 {l:List Oper} (hm:P.follows .mixedOrders=true) (hB:Region.lexB .any l.toArray=true) (h:G P n Q ks (.q l.toArray l) env w):G P n Q ks (.c (.region id l.toArray true)) env w:=zq0 hm hB h
theorem zq4 {l:List Oper} (S:World->Prop) (L:List Nat) (hm:P.follows .mixedOrders=true) (h:∀ w',Ext w w'->w'.heap=w.heap->WD P n l.toArray (QK P Q ks) S L l.length (Array.replicate l.length false) env w'):G P n Q ks (.c (.region id l.toArray true)) env w:=zq3 S L hm h
theorem G.done {S:World->Prop} (hr:Region.ready .any ops listed=[]) (h:G P n Q ks (.e .normal) env w):∀ fuel,WD P n ops (QK P Q ks) S L fuel listed env w:=WD.done hr h
theorem G.loop (env':σ->Env) (I:σ->World->Prop) (μ:σ->Nat) {c:Code} (s₀:σ) (h₀:Sub (env' s₀) env) (hI:I s₀ w)
  (h:∀ s w',I s w'->G P n Q (.k (zmF n env' I μ (μ s))::ks) (.c c) (env' s) w'):G P n Q ks (.c (.loop c)) env w:=WC.loop env' I μ s₀ h₀ hI h
theorem G.back {env':σ->Env} {I:σ->World->Prop} {μ:σ->Nat} (s:σ) (h0:Sub (env' s) env) (hI:I s w) (hm:μ s<m):G P n Q (.k (zmF n env' I μ m)::ks) (.e .normal) env w:=WX.back s h0 hI hm
theorem zpf (env':σ->Env) (I:σ->World->Prop) {c:Code} (h:G P n Q (.k (zik n env' I)::ks) (.c c) env w) (hk:∀ s w',I s w'->G P n Q ks (.e .normal) (env' s) w'):G P n Q ks (.c c) env w:=zpe env' I h hk
theorem zph {env':σ->Env} {I:σ->World->Prop} (s:σ) (h0:Sub (env' s) env) (hI:I s w):G P n Q (.k (zik n env' I)::ks) (.e .normal) env w:=zpg s h0 hI
end
section
variable {c:Code} {R:Ending->World->Prop} {n:Nat}
theorem G.calls (hf:P.funcs[f]?=some fn) (hb:fn.body=some c) (env:Env) (n:Nat) (hn:args.size<=n/\fn.ntmps=n) (hY:∀ k v,get env k=some v->args[k]?=some v) (h:G P n (bodyPost P fn R) [] (.c c) env w):Calls P f args w R:=Go.GL.calls hf hb env n hn hY h
theorem zqO (hf:P.funcs[f]?=some fn) (hb:fn.body=some c) (hn:fn.ntmps=n) (hl:Nat.ble vs.length n=true) (h:G P n (bodyPost P fn R) [] (.c c) ((List.range vs.length).zip vs) w):Calls P f vs.toArray w R:=calls hf hb _ n ⟨by simpa using zwq hl,hn⟩ (zil (fun _ _ h=>h)) h
theorem zqP (hf:P.funcs[f]?=some fn) (hb:fn.body=some c) (hn:fn.ntmps=n) (h:G P n (bodyPost P fn R) [] (.c c) [] w):Calls P f #[] w R:=zqO (vs:=[]) hf hb hn (by cases n<;>rfl) h
theorem zqQ (hf:P.funcs[f]?=some fn) (hb:fn.body=some c) (hn:fn.ntmps=n) (hl:Nat.ble 1 n=true) (h:G P n (bodyPost P fn R) [] (.c c) [(0,a1)] w):Calls P f #[a1] w R:=zqO (vs:=[a1]) hf hb hn hl h
theorem zqR (hf:P.funcs[f]?=some fn) (hb:fn.body=some c) (hn:fn.ntmps=n) (hl:Nat.ble 2 n=true) (h:G P n (bodyPost P fn R) [] (.c c) [(0,a1),(1,a2)] w):Calls P f #[a1,a2] w R:=zqO (vs:=[a1,a2]) hf hb hn hl h
theorem zqS (hf:P.funcs[f]?=some fn) (hb:fn.body=some c) (hn:fn.ntmps=n) (hl:Nat.ble 3 n=true) (h:G P n (bodyPost P fn R) [] (.c c) [(0,a1),(1,a2),(2,a3)] w):Calls P f #[a1,a2,a3] w R:=zqO (vs:=[a1,a2,a3]) hf hb hn hl h
theorem zqT {a4:Value} (hf:P.funcs[f]?=some fn) (hb:fn.body=some c) (hn:fn.ntmps=n) (hl:Nat.ble 4 n=true) (h:G P n (bodyPost P fn R) [] (.c c) [(0,a1),(1,a2),(2,a3),(3,a4)] w):Calls P f #[a1,a2,a3,a4] w R:=zqO (vs:=[a1,a2,a3,a4]) hf hb hn hl h
theorem zpk {t:Tmp} (h:fn.results=#[.tmp t]) (hv:get env t=some v) (hR:R (.returned v) w):G P n (bodyPost P fn R) [] (.e .ret) env w:=zpj h hv hR
theorem zpn {t:Tmp} {x:Value} (h:fn.results=#[.tmp t,.tmp u]) (hv:get env t=some v) (hx:get env u=some x) (hR:R (.returned (.tuple #[v,x])) w):G P n (bodyPost P fn R) [] (.e .ret) env w:=zpm h hv hx hR
theorem zpq {t s:Tmp} {x y:Value} (h:fn.results=#[.tmp t,.tmp u,.tmp s]) (hv:get env t=some v) (hx:get env u=some x) (hy:get env s=some y) (hR:R (.returned (.tuple #[v,x,y])) w):G P n (bodyPost P fn R) [] (.e .ret) env w:=zpp h hv hx hy hR
theorem zpt {p:Tmp} {ty:TypeId} (h:fn.results=#[.cell p ty]) (hp:get env p=some (.pointer (some a0))) (hl:(loadVar ty a0).run P w=.ok v w) (hR:R (.returned v) w):G P n (bodyPost P fn R) [] (.e .ret) env w:=zps h hp hl hR
theorem zpw {p t:Tmp} {ty:TypeId} {x:Value} (h:fn.results=#[.cell p ty,.tmp t]) (hp:get env p=some (.pointer (some a0))) (hl:(loadVar ty a0).run P w=.ok v w) (hx:get env t=some x) (hR:R (.returned (.tuple #[v,x])) w):G P n (bodyPost P fn R) [] (.e .ret) env w:=zpv h hp hl hx hR
theorem zpz (h:fn.results=#[]) (hR:R (.returned (.tuple #[])) w):G P n (bodyPost P fn R) [] (.e .normal) env w:=zpy h hR
end
def addN:List Nat->Nat->Nat
 | [],f=>f
 | _::r,f=>addN r f+1
def zek:List Nat->Array Bool->Array Bool
 | [],l=>l
 | i::r,l=>zek r (l.setIfInBounds i true)
def zel (ops:Array Oper):List Nat->Array Bool->Bool
 | [],_=>true
 | i::r,listed=>Region.noSelect ops&&Region.free .any ops listed i&&(Region.ready .any ops listed).contains i&&zel ops r (listed.setIfInBounds i true)
def dpv (T:Tab) (n:Nat) (ops:Array Oper):List Nat->Option Prop->Env->Option (Option Prop × Env)
 | [],ob,env=>some (ob,env)
 | i::r,ob,env=>match nth ops.toList i with
  | some ⟨some d,op,_,_,_,g⟩=>(match Nat.blt d n with
   | true=>(match gd ops env g with
    | some true=>(match pv T env op with
     | some (none,v)=>dpv T n ops r ob ((d,v)::env)
     | some (some p,v)=>dpv T n ops r (znQ ob p) ((d,v)::env)
     | none=>none)
    | some false=>dpv T n ops r ob ((d,undef)::env)
    | none=>none)
   | false=>none)
  | _=>none
section
variable {n:Fm} {S:World->Prop} {o:Oper}
theorem zqU (i:Nat) (hi:ops[i]?=some o) (hs:(Region.noSelect ops&&Region.free .any ops listed i&&(Region.ready .any ops listed).contains i)=true) (hd:o.dst=some d) (hn:Nat.blt d n=true)
  (hr:(∀ a,Ok n env a->Region.wanted o (yielded ops a.tmps)=true)/\(∀ w',yx P o env w' v w')\/(∀ a,Ok n env a->Region.wanted o (yielded ops a.tmps)=false)/\v=undef) (h:WD P n ops Q S L fuel (listed.setIfInBounds i true) ((d,v)::env) w):WD P n ops Q S L (fuel+1) listed env w:=by
 intro a ha;simp only[zu8]at hs;obtain⟨⟨h1,h2⟩,h3⟩:=hs;refine kI hi UP (fun _ _ _ h=>h) fuel listed a w UX tD (v:=v) ?_ ?_
 .
  rcases hr with⟨h6,h7⟩ | ⟨h6,h7⟩
  . exact .inl ⟨h6 a ha,fun w' _=>h7 w' n a ha⟩
  exact .inr ⟨h6 a ha,h7⟩
 rw[hd];exact h _ (ha.put hn)
theorem zqV (hT:zqu P T):∀ (is:List Nat) (ob ob':Option Prop) (listed:Array Bool) (env:Env),zel ops is listed=true->dpv T n ops is ob env=some (ob',env')->Ask ob'->Ask ob/\(WD P n ops Q S L fuel (zek is listed) env' w->WD P n ops Q S L (addN is fuel) listed env w)
 | [],ob,ob',listed,env,_,h,ha=>by cases h;exact⟨ha,fun h=>h⟩
 | i::r,ob,ob',listed,env,hc,h,ha=>by
  unfold zel at hc;rw[zu8]at hc;unfold dpv at h;split at h
  .
   rename_i hj;have hi:=hj;rw[kK]at hi;split at h
   .
    rename_i hn;split at h
    .
     rename_i hg;split at h
     .
      rename_i hv;obtain⟨h2,h3⟩:=zqV hT r _ _ _ _ hc.2 h ha;exact⟨h2,fun hr=>zqU i (by simpa using hi) hc.1 O hn (.inl ⟨qf hg,fun _ n a ha=>by have:=zbq (dst:=none) (ty:=0) (pos := "") (aft:=#[]) (g:=none) (w:=w) hT hv trivial;exact zbq hT hv trivial n a ha⟩) (h3 hr)⟩
     .
      rename_i hv;obtain⟨h2,h3⟩:=zqV hT r _ _ _ _ hc.2 h ha;obtain⟨h4,h5⟩:=h2.of_and;exact⟨h4,fun hr=>zqU i (by simpa using hi) hc.1 O hn (.inl ⟨qf hg,fun _ n a ha=>zbq hT hv h5 n a ha⟩) (h3 hr)⟩
     cases h
    .
     rename_i hg;obtain⟨h2,h3⟩:=zqV hT r _ _ _ _ hc.2 h ha;exact⟨h2,fun hr=>zqU i (by simpa using hi) hc.1 O hn (.inr ⟨qf hg,rfl⟩) (h3 hr)⟩
    cases h
   cases h
  cases h
theorem WD.ps (hT:zqu P T) (is:List Nat) (hc:zel ops is listed=true) (hv:dpv T n ops is none env=some (none,env')) (h:WD P n ops Q S L fuel (zek is listed) env' w):WD P n ops Q S L (addN is fuel) listed env w:=(zqV hT is _ _ _ _ hc hv trivial).2 h
theorem zqY (hT:zqu P T) (is:List Nat) (hc:zel ops is listed=true) (hv:dpv T n ops is none env=some (some p,env')) (hp:p) (h:WD P n ops Q S L fuel (zek is listed) env' w):WD P n ops Q S L (addN is fuel) listed env w:=(zqV hT is _ _ _ _ hc hv hp).2 h
theorem WD.sp (d:Nat) [Decidable p] (h:get env d=some (.bool (decide p))) (h1:p->WD P n ops Q S L fuel listed ((d,.bool true)::env) w) (h2:¬ p->WD P n ops Q S L fuel listed ((d,.bool false)::env) w):WD P n ops Q S L fuel listed env w:=by
 by_cases hp:p
 . exact WD.sub J9 (h1 hp)
 exact WD.sub J9 (h2 hp)
theorem WD.sb (d:Nat) {b:Bool} (h:get env d=some (.bool b)) (h1:b=true->WD P n ops Q S L fuel listed ((d,.bool true)::env) w) (h2:b=false->WD P n ops Q S L fuel listed ((d,.bool false)::env) w):WD P n ops Q S L fuel listed env w:=by
 cases b
 . exact WD.sub (Sub.lit h) (h2 O)
 exact WD.sub (Sub.lit h) (h1 O)
end
class StC {α:Type} (R:Rel α):Prop where
 s:ye R
instance:StC zv:=⟨zc⟩
instance:StC xu:=⟨zW⟩
instance {α:Type} {k:Nat} {R:Rel α} [h:StC R]:StC (RSl k R):=⟨zP h.s⟩
class Tr (p:Prop) (w w':World) (q:outParam Prop):Prop where
 t:p->Ext w w'->q
section
instance {S:Nat->Prop} {w0:World}:Tr (Keep S w0 w) w w' (Keep S w0 w'):=⟨fun h hk=>h.ext hk⟩
instance {b:Nat} {cs:List Value} {e:TypeId}:Tr (Blk w b cs e) w w' (Blk w' b cs e):=⟨fun h hk=>hk.blk h (fun h=>h)⟩
instance {b o:Nat} {cs:List Value}:Tr (Cells w b o cs) w w' (Cells w' b o cs):=⟨fun h hk=>hk.cells h (fun h=>h)⟩
instance {α:Type} {k:Nat} {R:Rel α} {D:Nat->Prop} {v:Value} {l:List α} [h:StC R]:Tr (SlR k R D w v l) w w' (SlR k R D w' v l):=⟨fun h' hk=>h'.ext h.s hk⟩
instance {e:TypeId} {k:Nat} {v:Value} {n:Nat} {xs:List Value}:Tr (w.ownsRow 0 e k v n xs) w w' (w'.ownsRow 0 e k v n xs):=⟨fun h hk=>zj h hk (fun _ _ h=>h)⟩
variable {a b c d e f g a' b' c' d' e' f' g':Prop}
theorem Tr1 (x:Ext w w') (ha:a) [Tr a w w' a']:a':=Tr.t ha x
theorem Tr2 (x:Ext w w') (ha:a) (hb:b) [Tr a w w' a'] [Tr b w w' b']:a'/\b':=⟨Tr.t ha x,Tr.t hb x⟩
theorem Tr3 (x:Ext w w') (ha:a) (hb:b) (hc:c) [Tr a w w' a'] [Tr b w w' b'] [Tr c w w' c']:a'/\b'/\c':=⟨Tr.t ha x,Tr2 x hb hc⟩
theorem Tr4 (x:Ext w w') (ha:a) (hb:b) (hc:c) (hd:d) [Tr a w w' a'] [Tr b w w' b'] [Tr c w w' c'] [Tr d w w' d']:a'/\b'/\c'/\d':=⟨Tr.t ha x,Tr3 x hb hc hd⟩
theorem Tr5 (x:Ext w w') (ha:a) (hb:b) (hc:c) (hd:d) (he:e) [Tr a w w' a'] [Tr b w w' b'] [Tr c w w' c'] [Tr d w w' d'] [Tr e w w' e']:a'/\b'/\c'/\d'/\e':=⟨Tr.t ha x,Tr4 x hb hc hd he⟩
theorem Tr6 (x:Ext w w') (ha:a) (hb:b) (hc:c) (hd:d) (he:e) (hf:f) [Tr a w w' a'] [Tr b w w' b'] [Tr c w w' c'] [Tr d w w' d'] [Tr e w w' e'] [Tr f w w' f']:a'/\b'/\c'/\d'/\e'/\f':=⟨Tr.t ha x,Tr5 x hb hc hd he hf⟩
end
end Go.GL
namespace Go.Proofs
open Go.GL
def Tryz.tab:Tab:=[(27,.sl 3 1),(72,.st [0,1,2,3,4,7,8,9]),(124,.sl 169 2),(26,.st [0,1,2]),(142,.st [0,1,2,3,4]),(22,.sl 142 5),(70,.st [0,1,2]),(24,.sl 72 10),(34,.sl 65 4),(89,.sl 27 1),(30,.st [0,1]),(59,.st [0,1,2]),(65,.st [0,1,2,3]),(88,.st [0,1,2,3]),(159,.st [0,1]),(68,.sl 70 3),(28,.sl 59 3),(56,.sl 88 4),(107,.st [0,1,3,4,5,6]),(113,.st [0,3,4,5]),(193,.st [0,1,2]),(203,.sl 159 2),(36,.st [0]),(123,.st [0,1,3,4]),(175,.st [0,1,2,3,4]),(97,.st [0,1,3,4]),(23,.sl 109 6),(52,.sl 4 1),(109,.st [0,1,2,3]),(47,.st [0,1]),(57,.sl 85 2),(117,.st [0,1,2]),(126,.st [0,1]),(85,.st [0,1]),(197,.st [0,1]),(45,.st [0,1,2]),(169,.ar 2 1),(189,.st [0,1]),(240,.st [0,1]),(42,.sl 45 3),(198,.sl 120 1),(4,.bool),(9,.str),(241,.sl 240 2),(226,.sl 100 1),(230,.sl 24 1)]
theorem Tryz.tabOk:zqu prog Tryz.tab :=
 zqy (show TI.ok _ 27 (.sl 3 1) from⟨tR27,ts3⟩) <|
 zqy (show TI.ok _ 72 (.st [0,1,2,3,4,7,8,9]) from zqA runUnderlying72 ⟨⟨_,rfl,rfl,0,sizeOf66⟩,iH,iH,iH,⟨_,rfl,rfl,2,ts70⟩,⟨_,rfl,rfl,0,ts24⟩,⟨_,rfl,rfl,0,ts24⟩,iU,trivial⟩) <|
 zqy (show TI.ok _ 124 (.sl 169 2) from⟨tR124,ts169⟩) <|
 zqy (show TI.ok _ 26 (.st [0,1,2]) from zqA runUnderlying26 ⟨⟨_,rfl,rfl,0,sizeOf22⟩,⟨_,rfl,rfl,0,sizeOf23⟩,⟨_,rfl,rfl,0,ts24⟩,trivial⟩) <|
 zqy (show TI.ok _ 142 (.st [0,1,2,3,4]) from zqA runUnderlying142 ⟨⟨_,rfl,rfl,0,ts9⟩,⟨_,rfl,rfl,0,ts100⟩,iH,iH,iH,trivial⟩) <|
 zqy (show TI.ok _ 22 (.sl 142 5) from⟨tR22,ts142⟩) <|
 zqy (show TI.ok _ 70 (.st [0,1,2]) from zqA runUnderlying70 ⟨⟨_,rfl,rfl,0,sizeOf67⟩,iH,⟨_,rfl,rfl,0,sizeOf68⟩,trivial⟩) <|
 zqy (show TI.ok _ 24 (.sl 72 10) from⟨tR24,ts72⟩) <|
 zqy (show TI.ok _ 34 (.sl 65 4) from⟨tR34,ts65⟩) <|
 zqy (show TI.ok _ 89 (.sl 27 1) from⟨tR89,ts27⟩) <|
 zqy (show TI.ok _ 30 (.st [0,1]) from zqA runUnderlying30 ⟨iU,⟨_,rfl,rfl,0,sizeOf28⟩,trivial⟩) <|
 zqy (show TI.ok _ 59 (.st [0,1,2]) from zqA runUnderlying59 ⟨⟨_,rfl,rfl,0,ts56⟩,⟨_,rfl,rfl,0,sizeOf57⟩,iH,trivial⟩) <|
 zqy (show TI.ok _ 65 (.st [0,1,2,3]) from zqA runUnderlying65 ⟨⟨_,rfl,rfl,0,sizeOf63⟩,iH,iH,iH,trivial⟩) <|
 zqy (show TI.ok _ 88 (.st [0,1,2,3]) from zqA runUnderlying88 ⟨iH,iH,iU,iU,trivial⟩) <|
 zqy (show TI.ok _ 159 (.st [0,1]) from zqA runUnderlying159 ⟨iH,iH,trivial⟩) <|
 zqy (show TI.ok _ 68 (.sl 70 3) from⟨tR68,ts70⟩) <|
 zqy (show TI.ok _ 28 (.sl 59 3) from⟨tR28,ts59⟩) <|
 zqy (show TI.ok _ 56 (.sl 88 4) from⟨tR56,ts88⟩) <|
 zqy (show TI.ok _ 107 (.st [0,1,3,4,5,6]) from zqA runUnderlying107 ⟨⟨_,rfl,rfl,0,ts94⟩,⟨_,rfl,rfl,1,ts30⟩,iU,iU,iU,⟨_,rfl,rfl,1,ts47⟩,trivial⟩) <|
 zqy (show TI.ok _ 113 (.st [0,3,4,5]) from zqA runUnderlying113 ⟨⟨_,rfl,rfl,2,ts26⟩,⟨_,rfl,rfl,0,ts34⟩,⟨_,rfl,rfl,0,ts24⟩,Jd,trivial⟩) <|
 zqy (show TI.ok _ 193 (.st [0,1,2]) from zqA runUnderlying193 ⟨iH,iH,iH,trivial⟩) <|
 zqy (show TI.ok _ 203 (.sl 159 2) from⟨tR203,ts159⟩) <|
 zqy (show TI.ok _ 36 (.st [0]) from zqA runUnderlying36 ⟨⟨_,rfl,rfl,0,ts34⟩,trivial⟩) <|
 zqy (show TI.ok _ 123 (.st [0,1,3,4]) from zqA runUnderlying123 ⟨⟨_,rfl,rfl,0,ts94⟩,⟨_,rfl,rfl,1,ts30⟩,Jd,Jd,trivial⟩) <|
 zqy (show TI.ok _ 175 (.st [0,1,2,3,4]) from zqA runUnderlying175 ⟨Jd,Jd,iU,iU,iU,trivial⟩) <|
 zqy (show TI.ok _ 97 (.st [0,1,3,4]) from zqA runUnderlying97 ⟨⟨_,rfl,rfl,0,ts94⟩,⟨_,rfl,rfl,1,ts30⟩,Jd,⟨_,rfl,rfl,0,sizeOf52⟩,trivial⟩) <|
 zqy (show TI.ok _ 23 (.sl 109 6) from⟨tR23,ts109⟩) <|
 zqy (show TI.ok _ 52 (.sl 4 1) from⟨tR52,ts4⟩) <|
 zqy (show TI.ok _ 109 (.st [0,1,2,3]) from zqA runUnderlying109 ⟨⟨_,rfl,rfl,0,ts9⟩,iH,iH,⟨_,rfl,rfl,2,ts70⟩,trivial⟩) <|
 zqy (show TI.ok _ 47 (.st [0,1]) from zqA runUnderlying47 ⟨iU,iH,trivial⟩) <|
 zqy (show TI.ok _ 57 (.sl 85 2) from⟨tR57,ts85⟩) <|
 zqy (show TI.ok _ 117 (.st [0,1,2]) from zqA runUnderlying117 ⟨iU,iU,iH,trivial⟩) <|
 zqy (show TI.ok _ 126 (.st [0,1]) from zqA runUnderlying126 ⟨iH,⟨_,rfl,rfl,0,sizeOf124⟩,trivial⟩) <|
 zqy (show TI.ok _ 85 (.st [0,1]) from zqA runUnderlying85 ⟨iH,iH,trivial⟩) <|
 zqy (show TI.ok _ 197 (.st [0,1]) from zqA runUnderlying197 ⟨⟨_,rfl,rfl,0,ts34⟩,iH,trivial⟩) <|
 zqy (show TI.ok _ 45 (.st [0,1,2]) from zqA runUnderlying45 ⟨iU,iU,iU,trivial⟩) <|
 zqy (show TI.ok _ 169 (.ar 2 1) from⟨_,tR169,ts3⟩) <|
 zqy (show TI.ok _ 189 (.st [0,1]) from zqA runUnderlying189 ⟨iH,⟨_,rfl,rfl,0,ts4⟩,trivial⟩) <|
 zqy (show TI.ok _ 240 (.st [0,1]) from zqA runUnderlying240 ⟨iH,iH,trivial⟩) <|
 zqy (show TI.ok _ 42 (.sl 45 3) from⟨tR42,ts45⟩) <|
 zqy (show TI.ok _ 198 (.sl 120 1) from⟨tR198,ts120⟩) <|
 zqy (show TI.ok _ 4 (.bool) from tu4) <|
 zqy (show TI.ok _ 9 (.str) from tu9) <|
 zqy (show TI.ok _ 241 (.sl 240 2) from⟨tR241,ts240⟩) <|
 zqy (show TI.ok _ 226 (.sl 100 1) from⟨tR226,ts100⟩) <|
 zqy (show TI.ok _ 230 (.sl 24 1) from⟨tR230,ts24⟩) <|
 zqw
theorem Tryz.mixed:Tryz.prog.follows .mixedOrders=true:=tK
end Go.Proofs
namespace Go.Proofs.YtckdhgbepmpgiaaGreat
open Go.GL
section
variable {n:Fm} {ks ks':List Fr} {pos pos':Pos} {env env':Env}
theorem Gs (k:Nat) (h:zej Tryz.tab n k none ks pos env=some (none,ks',pos',env')) (hr:G prog n Q ks' pos' env' w):G prog n Q ks pos env w:=G.go Tryz.tabOk k h hr
theorem Ga (k:Nat) (h:zej Tryz.tab n k none ks pos env=some (some p,ks',pos',env')) (hp:p) (hr:G prog n Q ks' pos' env' w):G prog n Q ks pos env w:=G.goA Tryz.tabOk k h hp hr
theorem Qt {l:List Oper} (hB:Region.lexB .any l.toArray=true) (h:G prog n Q ks (.q l.toArray l) env w):G prog n Q ks (.c (.region id l.toArray true)) env w:=zq1 Tryz.mixed hB h
theorem Dw {l:List Oper} (S:World->Prop) (L:List Nat) (h:∀ w',Ext w w'->w'.heap=w.heap->WD prog n l.toArray (QK prog Q ks) S L l.length (Array.replicate l.length false) env w'):G prog n Q ks (.c (.region id l.toArray true)) env w:=zq4 S L Tryz.mixed h
end
section
variable {n:Fm} {S:World->Prop} {env env':Env}
theorem Ds (is:List Nat) (hc:zel ops is listed=true) (hv:dpv Tryz.tab n ops is none env=some (none,env')) (h:WD prog n ops Q S L fuel (zek is listed) env' w):WD prog n ops Q S L (addN is fuel) listed env w:=WD.ps Tryz.tabOk is hc hv h
theorem Da (is:List Nat) (hc:zel ops is listed=true) (hv:dpv Tryz.tab n ops is none env=some (some p,env')) (hp:p) (h:WD prog n ops Q S L fuel (zek is listed) env' w):WD prog n ops Q S L (addN is fuel) listed env w:=zqY Tryz.tabOk is hc hv hp h
end
end Go.Proofs.YtckdhgbepmpgiaaGreat
namespace Go.GL
open Go.RowKit
section
variable {env:Env} {ty:TypeId} {pos:String}
theorem xv {n:Nat} (h:w.ownsRow 0 e k v n xs):∃ ao c,v=.slice ao n c/\n<=c/\c<=9223372036854775807:=by
 rcases h.2 with⟨rfl,rfl⟩ | ⟨g,cap,cur,rfl,_,_,h5,h6,_⟩
 . grind
 exact⟨_,_,rfl,h5,by simpa[maxLen] using h6⟩
theorem jR {n:Nat} (h:w.ownsRow 0 e k (.slice (some a0) n c) n xs):a0.off=0/\a0.spot=none/\Cells w a0.block 0 xs:=by
 rcases h.2 with⟨h1,_⟩ | ⟨g,cap,cur,h1,_,h4,h5,h6,h7,h8⟩
 . cases h1
 cases h1;refine⟨rfl,rfl,fun j u hu=>?_⟩;have hb:Blk w g cur.toList e:=by unfold Blk;simpa using h4
 have:=hb.cells j u (by rw[<- h8,ztT]at hu;split at hu;exact hu;cases hu);simpa using this
theorem zr0 {ys:List Value} (hu:P.underlying t=some (.slice e)) (he:(P.info? e).map (fun i=>(i.zero,i.size,i.bytes))=some (some z,k,by')) (dc:z.cells.size=k) (hk:0<k)
  (hx:ev env x=some v) (hy:ev env y=some vy) (hY:w.ownsRow 0 e k v m xs) (da:w.ownsRow 0 e k vy j ys) (h1:∀ u ∈ ys,u.oneCell'=true) (db:m+j<=9223372036854775807) (dg:(m+j)*by'<=140737488355328) :
  yM P ⟨dst,.call ⟨.builtin .append,#[x,y],#[t,t]⟩,ty,pos,aft,g⟩ env w (fun u w'=>w'.ownsRow 0 e k u (m+j) (xs++ys)/\(u.ownBlock=v.ownBlock\/∃ g,u.ownBlock=some g/\w.heap.size<=g)/\Keep (fun k=>v.ownBlock=some k) w w'):=by
 obtain⟨a2,c2,rfl,dm,_⟩:=xv da;by_cases hj:j=0
 .
  subst hj;have dh:ys=[]:=zuT (by rw[da.1];omega);subst dh;obtain⟨a1,c1,rfl,dl,_⟩:=xv hY;obtain⟨u,w',hr,rfl,rfl⟩:=zqg (g:=g) (pos:=pos) (aft:=aft) (dst:=dst) (ty:=ty) hu he hx hy dl;exact⟨_,_,hr,tD,.inl rfl,Keep.refl _ _⟩
 obtain⟨a0,rfl⟩:∃ a0,a2=some a0:=by
  cases a2 with
  | some a0=>exact⟨a0,rfl⟩
  | none =>
   rcases da.2 with⟨_,h⟩ | ⟨g,cap,cur,h,_⟩
   . omega
   cases h
 obtain⟨e1,e2,hc⟩:=jR da;obtain⟨b0,o0,s0⟩:=a0;simp only at e1 e2 hc;subst e1;subst e2;obtain⟨u,w',hr,h5,h6,h7,_⟩:=M.append (g:=g) (pos:=pos) (aft:=aft) (dst:=dst) (ty:=ty) hu he dc hk hx hy hY da.1 (Cells.add hc) h1 db dg;exact⟨u,w',hr,h5,h6,h7⟩
end
variable {R:Rel α} {env:Env}
inductive Tm where
 | mk (op n:Int) (kids:List Tm)
def Tm.op:Tm->Int | .mk o _ _=>o
def Tm.n:Tm->Int | .mk _ n _=>n
def Tm.kids:Tm->List Tm | .mk _ _ k=>k
mutual
theorem zr1 {p:Tm->Prop} (h:∀ t:Tm,(∀ k ∈ t.kids,p k)->p t):∀ t,p t
 | .mk o n ks=>h (.mk o n ks) (zr4 h ks)
theorem zr4 {p:Tm->Prop} (h:∀ t:Tm,(∀ k ∈ t.kids,p k)->p t):∀ ks:List Tm,∀ k ∈ ks,p k
 | []=>fun _ hk=>tD
 | k::r=>fun x hx=>by
  rcases ztD.1 hx with he | hx
  . rw[he];exact zr1 h k
  exact zr4 h r x hx
end
inductive St where
 | mk (act cost var n:Int) (term:Tm) (thn els:List St) (bounds:List Int)
variable {s:St}
def St.act:St->Int | .mk a _ _ _ _ _ _ _=>a
def St.cost:St->Int | .mk _ a _ _ _ _ _ _=>a
def St.var:St->Int | .mk _ _ a _ _ _ _ _=>a
def St.n:St->Int | .mk _ _ _ a _ _ _ _=>a
def St.term:St->Tm | .mk _ _ _ _ a _ _ _=>a
def St.thn:St->List St | .mk _ _ _ _ _ a _ _=>a
def St.els:St->List St | .mk _ _ _ _ _ _ a _=>a
def St.bounds:St->List Int | .mk _ _ _ _ _ _ _ a=>a
mutual
theorem zr2 {p:St->Prop} (h:∀ s:St,(∀ k ∈ s.thn,p k)->(∀ k ∈ s.els,p k)->p s):∀ s,p s
 | .mk a b c d e f g i=>h (.mk a b c d e f g i) (zr5 h f) (zr5 h g)
theorem zr5 {p:St->Prop} (h:∀ s:St,(∀ k ∈ s.thn,p k)->(∀ k ∈ s.els,p k)->p s):∀ ks:List St,∀ k ∈ ks,p k
 | []=>fun _ hk=>tD
 | k::r=>fun x hx=>by
  rcases ztD.1 hx with he | hx
  . rw[he];exact zr2 h k
  exact zr5 h r x hx
end
theorem zr3 {p:List St->Prop} (h:∀ l:List St,(∀ s ∈ l,p s.thn/\p s.els)->p l) (l:List St):p l :=
 h l (zr5 (p:=fun s=>p s.thn/\p s.els) (fun _ h1 h2=>⟨h _ h1,h _ h2⟩) l)
structure Vr where
 name:ByteArray
 kind:Int
 low:Int
 high:Int
 init:Int
structure Ht where
 name:ByteArray
 low:Int
 high:Int
 term:Tm
structure Fl where
 vars:List Vr
 hatches:List Ht
 body:List St
structure Ins where
 secret:List Int
 pub:List Int
 random:List Int
structure Nd where
 kind:Int
 at_:Int
 next:Int
 other:Int
def RT:Nat->Rel Tm
 | 0=>fun _ _ _ _=>False
 | k+1=>fun D w t cs=>∃ v,cs=[.int .i64 t.op,.int .i64 t.n,v]/\SlR 3 (RT k) D w v t.kids
def RTm:Rel Tm:=fun D w t cs=>∃ k,RT k D w t cs
theorem SlR.map {R':Rel α} (h:SlR k R D w v l) (hR:∀ x cs,x ∈ l->R D w x cs->R' D w x cs):SlR k R' D w v l:=by
 obtain⟨ao,cap,h1,h2,h3,h4⟩:=h;refine⟨ao,cap,h1,h2,h3,fun i x hx=>?_⟩;obtain⟨b,o,cs,h5,h6,h7,h8,h9⟩:=h4 i x hx;exact⟨b,o,cs,h5,h6,h7,h8,hR x cs (zto hx) h9⟩
theorem RT.succ:∀ (k:Nat) (D:Nat->Prop) (w:World) (t:Tm) (cs:List Value),RT k D w t cs->RT (k+1) D w t cs
 | 0,_,_,_,_,h=>h.elim
 | k+1,D,w,_,_,⟨v,h1,h2⟩=>⟨v,h1,h2.map (fun x cs _ h=>RT.succ k D w x cs h)⟩
theorem RT.le (hY:k<=j) {t:Tm} (h:RT k D w t cs):RT j D w t cs:=by
 induction hY with
 | refl=>exact h
 | step _ ih=>exact RT.succ _ _ _ _ _ ih
theorem zem:∀ k,ye (RT k)
 | 0=>fun _ _ _ _ _ _ _ _ h=>h.elim
 | k+1=>fun _ _ _ _ hD hk _ _ ⟨v,h1,h2⟩=>⟨v,h1,h2.stable (zem k) hD hk⟩
theorem yN:ye RTm:=fun D D' w w' hD hk t cs ⟨k,h⟩=>⟨k,zem k D D' w w' hD hk t cs h⟩
theorem RTm.get {t:Tm} (h:RTm D w t cs):∃ v,cs=[.int .i64 t.op,.int .i64 t.n,v]/\SlR 3 RTm D w v t.kids:=by
 obtain⟨k,h⟩:=h;cases k with
 | zero=>exact h.elim
 | succ k =>
  obtain⟨v,h1,h2⟩:=h;exact⟨v,h1,h2.map (fun x cs _ h=>⟨k,h⟩)⟩
theorem zr6 {R:Nat->Rel α} (hR:∀ (i j:Nat),i<=j->∀ D w x cs,R i D w x cs->R j D w x cs) (h:SlR k (fun D w x cs=>∃ i,R i D w x cs) D w v l):∃ i,SlR k (R i) D w v l:=by
 obtain⟨ao,cap,h1,h2,h3,h4⟩:=h
 have key:∀ m,m<=l.length->∃ i,∀ (j:Nat) x,j<m->l[j]?=some x->∃ b o cs,ao=some ⟨b,o,none⟩/\D b/\cs.length=k/\Cells w b (o+j*k) cs/\R i D w x cs:=by
  intro m;induction m with
  | zero=>intro _;exact⟨0,fun j x h=>absurd h (zwz _)⟩
  | succ m ih =>
   intro hm;obtain⟨i,hi⟩:=ih tO;obtain⟨x,hx⟩:∃ x,l[m]?=some x:=iA;obtain⟨b,o,cs,h5,h6,h7,h8,i',h9⟩:=h4 m x hx;refine⟨max i i',fun j y hj hy=>?_⟩;by_cases e:j=m
   . grind
   grind
 obtain⟨i,hi⟩:=key l.length (ztM _);exact⟨i,ao,cap,h1,h2,h3,fun j x hx=>hi j x (ztB.1 hx).1 hx⟩
theorem RTm.put {t:Tm} (h:SlR 3 RTm D w v t.kids):RTm D w t [.int .i64 t.op,.int .i64 t.n,v]:=by
 obtain⟨i,hi⟩:=zr6 (R:=RT) (fun i j hY D w x cs h=>h.le hY) h;exact⟨i+1,v,rfl,hi⟩
def RS:Nat->Rel St
 | 0=>fun _ _ _ _=>False
 | k+1=>fun D w s cs=>∃ v1 v2 v3 v4,cs=[.int .i64 s.act,.int .i64 s.cost,.int .i64 s.var,.int .i64 s.n,.int .i64 s.term.op,.int .i64 s.term.n,v1,v2,v3,v4]/\SlR 3 RTm D w v1 s.term.kids/\SlR 10 (RS k) D w v2 s.thn/\SlR 10 (RS k) D w v3 s.els/\SlR 1 zv D w v4 s.bounds
def RSt:Rel St:=fun D w s cs=>∃ k,RS k D w s cs
theorem RS.succ:∀ (k:Nat) (D:Nat->Prop) (w:World) (s:St) (cs:List Value),RS k D w s cs->RS (k+1) D w s cs
 | 0,_,_,_,_,h=>h.elim
 | k+1,D,w,_,_,⟨v1,v2,v3,v4,h0,h1,h2,h3,h4⟩=>⟨v1,v2,v3,v4,h0,h1,h2.map (fun x cs _ h=>RS.succ k D w x cs h),h3.map (fun x cs _ h=>RS.succ k D w x cs h),h4⟩
theorem RS.le (hY:k<=j) (h:RS k D w s cs):RS j D w s cs:=by
 induction hY with
 | refl=>exact h
 | step _ ih=>exact RS.succ _ _ _ _ _ ih
theorem zbr:∀ k,ye (RS k)
 | 0=>fun _ _ _ _ _ _ _ _ h=>h.elim
 | k+1=>fun _ _ _ _ hD hk _ _ ⟨v1,v2,v3,v4,h0,h1,h2,h3,h4⟩=>⟨v1,v2,v3,v4,h0,h1.stable yN hD hk,h2.stable (zbr k) hD hk,h3.stable (zbr k) hD hk,h4.stable zc hD hk⟩
theorem zg:ye RSt:=fun D D' w w' hD hk t cs ⟨k,h⟩=>⟨k,zbr k D D' w w' hD hk t cs h⟩
theorem RSt.get (h:RSt D w s cs):∃ v1 v2 v3 v4,cs=[.int .i64 s.act,.int .i64 s.cost,.int .i64 s.var,.int .i64 s.n,.int .i64 s.term.op,.int .i64 s.term.n,v1,v2,v3,v4]/\SlR 3 RTm D w v1 s.term.kids/\SlR 10 RSt D w v2 s.thn/\SlR 10 RSt D w v3 s.els/\SlR 1 zv D w v4 s.bounds:=by
 obtain⟨k,h⟩:=h;cases k with
 | zero=>exact h.elim
 | succ k =>
  obtain⟨v1,v2,v3,v4,h0,h1,h2,h3,h4⟩:=h;exact⟨v1,v2,v3,v4,h0,h1,h2.map (fun x cs _ h=>⟨k,h⟩),h3.map (fun x cs _ h=>⟨k,h⟩),h4⟩
theorem RSt.put {v4:Value} (h1:SlR 3 RTm D w v1 s.term.kids) (h2:SlR 10 RSt D w v2 s.thn) (h3:SlR 10 RSt D w v3 s.els) (h4:SlR 1 zv D w v4 s.bounds) :
  RSt D w s [.int .i64 s.act,.int .i64 s.cost,.int .i64 s.var,.int .i64 s.n,.int .i64 s.term.op,.int .i64 s.term.n,v1,v2,v3,v4]:=by
 obtain⟨i,hi⟩:=zr6 (R:=RS) (fun i j hY D w x cs h=>h.le hY) h2;obtain⟨j,hj⟩:=zr6 (R:=RS) (fun i j hY D w x cs h=>h.le hY) h3;exact⟨max i j+1,v1,v2,v3,v4,rfl,h1,hi.map (fun x cs _ h=>h.le (Nat.le_max_left ..)),hj.map (fun x cs _ h=>h.le (Nat.le_max_right ..)),h4⟩
def RVr:Rel Vr:=fun _ _ v cs=>cs=[.string v.name,.int .i64 v.kind,.int .i64 v.low,.int .i64 v.high,.int .i64 v.init]
def RHt:Rel Ht:=fun D w h cs=>∃ v,cs=[.string h.name,.int .i64 h.low,.int .i64 h.high,.int .i64 h.term.op,.int .i64 h.term.n,v]/\SlR 3 RTm D w v h.term.kids
def RNd:Rel Nd:=fun _ _ x cs=>cs=[.int .i64 x.kind,.int .i64 x.at_,.int .i64 x.next,.int .i64 x.other]
theorem yI:ye RVr:=fun _ _ _ _ _ _ _ _ h=>h
theorem zC:ye RNd:=fun _ _ _ _ _ _ _ _ h=>h
theorem yO:ye RHt:=fun _ _ _ _ hD hk _ _ ⟨v,h1,h2⟩=>⟨v,h1,h2.stable yN hD hk⟩
structure RFl (D:Nat->Prop) (w:World) (f:Fl) (v1 v2 v3:Value):Prop where
 vars:SlR 5 RVr D w v1 f.vars
 hatches:SlR 6 RHt D w v2 f.hatches
 body:SlR 10 RSt D w v3 f.body
theorem RFl.ext {f:Fl} (h:RFl D w f v1 v2 v3) (hk:Ext w w'):RFl D w' f v1 v2 v3:=⟨h.vars.ext yI hk,h.hatches.ext yO hk,h.body.ext zg hk⟩
instance:StC RTm:=⟨yN⟩
instance:StC RSt:=⟨zg⟩
instance:StC RVr:=⟨yI⟩
instance:StC RNd:=⟨zC⟩
instance:StC RHt:=⟨yO⟩
instance {D:Nat->Prop} {w w':World} {f:Fl} {v1 v2 v3:Value}:Tr (RFl D w f v1 v2 v3) w w' (RFl D w' f v1 v2 v3):=⟨RFl.ext⟩
theorem SlR.form (h:SlR k R D w v l):∃ ao cap,v=.slice ao l.length cap:=by
 obtain⟨ao,cap,h1,_⟩:=h
 grind
theorem SlR.max (h:SlR k R D w v l):l.length<=9223372036854775807:=by
 obtain⟨ao,cap,h1,h2,h3,_⟩:=h;omega
theorem SlR.at {n cap:Nat} (h:SlR k R D w (.slice ao n cap) l) {x:α} (hx:l[i]?=some x):∃ b o cs,ao=some ⟨b,o,none⟩/\cs.length=k/\Cells w b (o+i*k) cs/\R D w x cs:=by
 obtain⟨ao',cap',h1,h2,h3,h4⟩:=h
 grind
theorem SlR.one (h:SlR k R D w v l):v.oneCell'=true:=by
 obtain⟨ao,cap,rfl,_⟩:=h;rfl
theorem RTm.one {t:Tm} (h:RTm D w t cs):∀ u ∈ cs,u.oneCell'=true:=by
 obtain⟨v,rfl,hs⟩:=h.get;simp only[ztD,zvS,or_false,forall_eq_or_imp,forall_eq];exact⟨rfl,rfl,SlR.one hs⟩
theorem RSt.one (h:RSt D w s cs):∀ u ∈ cs,u.oneCell'=true:=by
 obtain⟨v1,v2,v3,v4,rfl,h1,h2,h3,h4⟩:=h.get;simp only[ztD,zvS,or_false,forall_eq_or_imp,forall_eq];exact⟨rfl,rfl,rfl,rfl,rfl,rfl,SlR.one h1,SlR.one h2,SlR.one h3,SlR.one h4⟩
theorem RHt.one {x:Ht} (h:RHt D w x cs):∀ u ∈ cs,u.oneCell'=true:=by
 obtain⟨v,rfl,hs⟩:=h;simp only[ztD,zvS,or_false,forall_eq_or_imp,forall_eq];exact⟨rfl,rfl,rfl,rfl,rfl,SlR.one hs⟩
theorem RVr.one {x:Vr} (h:RVr D w x cs):∀ u ∈ cs,u.oneCell'=true:=by
 obtain rfl:=h;simp[Value.oneCell']
theorem SlR.drop {n:Nat} (h:SlR k R D w (.slice ao n c) l) (i:Nat) (hi:i<=l.length):SlR k R D w (.slice (if c=i then ao else ao.map (·.add (i*k))) (n - i) (c - i)) (l.drop i):=by
 obtain⟨ao',cap',h1,h2,h3,h4⟩:=h;cases h1;refine⟨_,_,by rw[zvq],tD,tO,fun j x hx=>?_⟩;rw[zvc]at hx;obtain⟨b,o,cs,h5,h6,h7,h8,h9⟩:=h4 (i+j) x hx;have hY:=(ztB.1 hx).1;refine⟨b,o+i*k,cs,?_,h6,h7,?_,h9⟩
 .
  rw[ztx tO,h5];simp[xg]
 grind
theorem SlR.take {n:Nat} (h:SlR k R D w (.slice ao n c) l) (i:Nat) (hi:i<=l.length):SlR k R D w (.slice ao i c) (l.take i):=by
 obtain⟨ao',cap',h1,h2,h3,h4⟩:=h;cases h1;refine⟨_,_,by rw[ztR,Nat.min_eq_left hi],tD,h3,fun j x hx=>?_⟩;rw[ztT]at hx;split at hx
 . grind
 cases hx
theorem SlR.len_cap {n:Nat} (h:SlR k R D w (.slice ao n c) l):n=l.length/\l.length<=c:=by
 obtain⟨ao',cap',h1,h2,h3,h4⟩:=h
 grind
theorem qg {k:IntKind} {a b:Int} {o:Option Value} (h:o=some (.int k a)) (e:a=b):o=some (.int k b):=tD
def qD {α:Type} (R:Rel α):Prop:=∀ D w x cs,R D w x cs->R (fun b=>D b/\b<w.heap.size) w x cs
theorem SlR.narrow (hk:0<k) (hR:qD R) (h:SlR k R D w v l):SlR k R (fun b=>D b/\b<w.heap.size) w v l:=by
 obtain⟨ao,cap,h1,h2,h3,h4⟩:=h;refine⟨ao,cap,h1,h2,h3,fun i x hx=>?_⟩;obtain⟨b,o,cs,h5,h6,h7,h8,h9⟩:=h4 i x hx;obtain⟨v0,hY⟩:∃ v0,cs[0]?=some v0:=iA;exact⟨b,o,cs,h5,⟨h6,ztp _ _ (h8 0 _ hY)⟩,h7,h8,hR _ _ _ _ h9⟩
theorem zen:∀ k,qD (RT k)
 | 0=>fun _ _ _ _ h=>h.elim
 | k+1=>fun D w t cs ⟨v,h1,h2⟩=>⟨v,h1,h2.narrow tO (zen k)⟩
theorem zbs:qD RTm:=fun D w t cs ⟨k,h⟩=>⟨k,zen k D w t cs h⟩
theorem yt:qD zv:=fun _ _ _ _ h=>h
theorem zeo:qD RHt:=fun _ _ _ _ ⟨v,h1,h2⟩=>⟨v,h1,h2.narrow tO zbs⟩
theorem zep:qD RVr:=fun _ _ _ _ h=>h
theorem zbt:∀ k,qD (RS k)
 | 0=>fun _ _ _ _ h=>h.elim
 | k+1=>fun D w t cs ⟨v1,v2,v3,v4,h0,h1,h2,h3,h4⟩=>⟨v1,v2,v3,v4,h0,h1.narrow tO zbs,h2.narrow tO (zbt k),h3.narrow tO (zbt k),h4.narrow tO yt⟩
theorem zeq:qD RSt:=fun D w t cs ⟨k,h⟩=>⟨k,zbt k D w t cs h⟩
theorem RFl.narrow {f:Fl} (h:RFl D w f v1 v2 v3):RFl (fun b=>D b/\b<w.heap.size) w f v1 v2 v3 :=
 ⟨h.vars.narrow tO zep,h.hatches.narrow tO zeo,h.body.narrow tO zeq⟩
open Go.RowKit
inductive HE where
 | own (b:Nat) (cs:List Value) (t:TypeId)
 | fro (b o:Nat) (cs:List Value)
 | row (t:TypeId) (k:Nat) (v:Value) (n:Nat) (xs:List Value)
 | res (S:Nat->Prop) (p:World->Prop)
 | dat (F:Nat->Prop) (p:World->Prop)
variable {E:α->HE}
def HE.S:HE->Nat->Prop
 | .own b _ _=>fun q=>q=b
 | .fro ..=>fun _=>False
 | .row _ _ v _ _=>fun q=>v.ownBlock=some q
 | .res S _=>S
 | .dat ..=>fun _=>False
def HE.holds (w:World):HE->Prop
 | .own b cs t=>Blk w b cs t
 | .fro b o cs=>b<w.heap.size/\Cells w b o cs
 | .row t k v n xs=>w.ownsRow 0 t k v n xs
 | .res _ p=>p w
 | .dat F p=>p w/\∀ q,F q->q<w.heap.size
def HE.loc:HE->Prop
 | .res S p=>∀ (w w':World) (T:Nat->Prop),p w->Keep T w w'->(∀ q,q<w.heap.size->S q->¬ T q)->p w'
 | .dat F p=>∀ (w w':World) (T:Nat->Prop),p w->Keep T w w'->(∀ q,F q->¬ T q)->p w'
 | _=>True
def HE.fz (b:Nat):HE->Prop
 | .fro b' _ _=>b'=b
 | .dat F _=>F b
 | _=>False
abbrev Hp:=List (Nat × HE)
variable {H H':Hp}
abbrev zq:=List (World × (Nat->Prop))
def hget:Hp->Nat->Option HE
 | [],_=>none
 | (k,e)::r,j=>cond (Nat.beq k j) (some e) (hget r j)
def hset:Hp->Nat->HE->Hp
 | [],_,_=>[]
 | (k,e)::r,j,e'=>cond (Nat.beq k j) ((k,e')::r) ((k,e)::hset r j e')
def zih:Hp->Nat->Hp
 | [],_=>[]
 | (k,e)::r,j=>cond (Nat.beq k j) r ((k,e)::zih r j)
theorem zm:∀ {H:Hp} {k:Nat} {e:HE},hget H k=some e->(k,e) ∈ H
 | [],_,_,h=>by cases h
 | (k',e')::r,k,e,h=>by
  simp only[hget]at h;cases hb:Nat.beq k' k with
  | true=>rw[hb]at h;cases h;rw[ztu hb];exact ztr ..
  | false=>rw[hb]at h;exact ztq _ (zm h)
structure VI (Bs:zq) (H:Hp) (w:World):Prop where
 holds:∀ x ∈ H,x.2.holds w
 loc:∀ x ∈ H,x.2.loc
 apart:H.Pairwise (fun x y=>∀ q,x.2.S q->¬ y.2.S q)
 froz:∀ x ∈ H,∀ y ∈ H,∀ b,x.2.fz b->¬ y.2.S b
 low:∀ x ∈ H,∀ q,x.2.S q->q<w.heap.size
 base:∀ p ∈ Bs,Keep p.2 p.1 w/\∀ x ∈ H,∀ q,x.2.S q->p.2 q\/p.1.heap.size<=q
section
variable {Bs:zq} {e e':HE} {T:Nat->Prop}
theorem HE.keep (h:e.holds w) (hl:e.loc) (hk:Keep T w w') (hT:∀ q,e.S q->¬ T q) (hf:∀ b,e.fz b->¬ T b):e.holds w':=by
 cases e with
 | own b cs t=>exact hk.blk h (hT b rfl)
 | fro b o cs=>exact⟨zws h.1 hk.size,hk.cells h.2 (hf b rfl)⟩
 | row t k v n xs=>exact zj h hk hT
 | res S p=>exact hl w w' T h hk (fun q _ hq=>hT q hq)
 | dat F p=>exact⟨hl w w' T h.1 hk hf,fun q hq=>zws (h.2 q hq) hk.size⟩
theorem zr7 (h:e.holds w) (hb:e.fz b):b<w.heap.size:=by
 cases e with
 | fro b' o cs=>have hb:b'=b:=hb;rw[<- hb];exact h.1
 | dat F p=>exact h.2 b hb
 | _=>exact hb.elim
theorem VI.keep (h:VI Bs H w) (hk:Keep T w w') (hT:∀ x ∈ H,∀ q,x.2.S q->¬ T q) (hf:∀ x ∈ H,∀ b,x.2.fz b->¬ T b) (hB:∀ p ∈ Bs,∀ q,q<p.1.heap.size->T q->p.2 q):VI Bs H w' where
 holds:=fun x hx=>HE.keep (e:=x.2) (h.holds x hx) (h.loc x hx) hk (hT x hx) (hf x hx)
 loc:=h.loc
 apart:=h.apart
 froz:=h.froz
 low:=fun x hx q hq=>zws (h.low x hx q hq) hk.size
 base:=fun p hp=>⟨(h.base p hp).1.trans hk (hB p hp),(h.base p hp).2⟩
theorem VI.ext (h:VI Bs H w) (hk:Ext w w'):VI Bs H w':=h.keep hk (fun _ _ _ _ h=>h) (fun _ _ _ _ h=>h) (fun _ _ _ _ h=>h.elim)
theorem VI.nil (w:World):VI [(w,fun _=>False)] [] w where
 holds:=fun _ h=>tD
 loc:=fun _ h=>tD
 apart:=List.Pairwise.nil
 froz:=fun _ h=>tD
 low:=fun _ h=>tD
 base:=fun p hp=>by
  rw[ztF]at hp;subst hp;exact⟨Keep.refl _ _,fun _ h=>tD⟩
theorem VI.new (h:VI Bs H w) (hk:Ext w w') (k:Nat) (he:e.holds w') (hl:e.loc) (hz:∀ b,¬ e.fz b) (hS:∀ q,e.S q->w.heap.size<=q/\q<w'.heap.size):VI Bs ((k,e)::H) w':=by
 have h':=h.ext hk;have hY:∀ x ∈ H,∀ q,x.2.S q->¬ e.S q:=fun x hx q hq hs=>by have:=h.low x hx q hq;have:=(hS q hs).1;omega
 have da:∀ x ∈ H,∀ b,x.2.fz b->¬ e.S b:=fun x hx b hb hs=>by
  have h1:=zr7 (h.holds x hx) hb
  grind
 refine⟨?_,?_,?_,?_,?_,?_⟩
 .
  intro x hx;rcases ztD.1 hx with rfl | hx
  . exact he
  exact h'.holds x hx
 .
  intro x hx;rcases ztD.1 hx with rfl | hx
  . exact hl
  exact h'.loc x hx
 . exact zvU.2 ⟨fun x hx q hq hs=>hY x hx q hs hq,h'.apart⟩
 .
  intro x hx y hy b hb;rcases ztD.1 hx with rfl | hx
  . grind
  rcases ztD.1 hy with rfl | hy
  . grind
  exact h'.froz x hx y hy b hb
 .
  intro x hx q hq;rcases ztD.1 hx with rfl | hx
  . grind
  exact h'.low x hx q hq
 intro p hp;refine⟨(h'.base p hp).1,fun x hx q hq=>?_⟩;rcases ztD.1 hx with rfl | hx
 . exact .inr (ztt (h.base p hp).1.size (hS q hq).1)
 exact(h'.base p hp).2 x hx q hq
theorem kL:∀ {H:Hp} {k:Nat} {e e':HE},hget H k=some e->∀ x ∈ hset H k e',x=(k,e')\/x ∈ H
 | [],_,_,_,h=>by cases h
 | (k1,e1)::r,k,e,e',h=>by
  intro x hx;simp only[hget]at h;simp only[hset]at hx;cases hb:Nat.beq k1 k with
  | true =>
   rw[hb]at hx;rcases ztD.1 hx with rfl | hx
   . rw[ztu hb];exact .inl rfl
   grind
  | false =>
   rw[hb]at h hx;rcases ztD.1 hx with rfl | hx
   . grind
   exact(kL h x hx).imp id (ztq _)
theorem zak:∀ {H:Hp} {k:Nat} {e e':HE} {B:Nat},hget H k=some e->H.Pairwise (fun x y=>∀ q,x.2.S q->¬ y.2.S q)->(∀ q,e'.S q->e.S q\/B<=q)->(∀ x ∈ H,∀ q,x.2.S q->q<B) ->
  (hset H k e').Pairwise (fun x y=>∀ q,x.2.S q->¬ y.2.S q)/\∀ (P:Nat × HE->Prop),P (k,e')->(∀ x ∈ H,(∀ q,x.2.S q->¬ e.S q)->P x)->∀ x ∈ hset H k e',P x
 | [],_,_,_,_,h,_,_,_=>by cases h
 | (k1,e1)::r,k,e,e',B,h,hp,hS,hB=>by
  simp only[hget]at h;simp only[hset];rw[zvU]at hp;cases hb:Nat.beq k1 k with
  | true =>
   rw[hb]at h;cases h;have hk:=ztu hb;subst hk;refine⟨zvU.2 ⟨fun x hx q hq hs=>?_,hp.2⟩,fun P h1 h2 x hx=>?_⟩
   . grind
   grind
  | false =>
   rw[hb]at h;obtain⟨h4,h5⟩:=zak (e':=e') h hp.2 hS (fun x hx=>hB x Jq);have hm:=zm h;refine⟨zvU.2 ⟨fun x hx=>?_,h4⟩,fun P h1 h2 x hx=>?_⟩
   .
    refine h5 (fun x=>∀ q,e1.S q->¬ x.2.S q) (fun q hq hs=>?_) (fun x hx _=>hp.1 x hx) x hx;rcases hS q hs with h3 | h3
    . grind
    have:=hB _ (ztr ..) q hq;omega
   rcases ztD.1 hx with rfl | hx
   . grind
   exact h5 P h1 (fun y hy=>h2 y iq) x hx
theorem VI.set (h:VI Bs H w) (hg:hget H k=some e) (hk:Keep e.S w w') (he:e'.holds w') (hl:e'.loc) (hz:∀ b,¬ e'.fz b) (hS:∀ q,e'.S q->(e.S q\/w.heap.size<=q)/\q<w'.heap.size):VI Bs (hset H k e') w':=by
 have hm:=zm hg;obtain⟨h1,h2⟩:=zak (e':=e') (B:=w.heap.size) hg h.apart (fun q hq=>(hS q hq).1) h.low;have hY:∀ x ∈ H,∀ b,x.2.fz b->¬ e.S b:=fun x hx b hb=>h.froz x hx _ hm b hb;have da:∀ x ∈ H,∀ b,x.2.fz b->b<w.heap.size:=fun x hx b hb=>zr7 (h.holds x hx) hb;refine⟨?_,?_,h1,?_,?_,?_⟩
 . exact h2 (fun x=>x.2.holds w') he (fun x hx hq=>HE.keep (e:=x.2) (h.holds x hx) (h.loc x hx) hk hq (hY x hx))
 . exact h2 (fun x=>x.2.loc) hl (fun x hx _=>h.loc x hx)
 .
  intro x hx y hy b hb;rcases kL hg x hx with rfl | hx
  . grind
  rcases kL hg y hy with rfl | hy
  . grind
  exact h.froz x hx y hy b hb
 . exact h2 (fun x=>∀ q,x.2.S q->q<w'.heap.size) (fun q hq=>(hS q hq).2) (fun x hx _ q hq=>zws (h.low x hx q hq) hk.size)
 intro p hp;obtain⟨h3,h4⟩:=h.base p hp;refine⟨h3.trans hk (fun q hq hs=>(h4 _ hm q hs).resolve_right tO),?_⟩;refine h2 (fun x=>∀ q,x.2.S q->p.2 q\/p.1.heap.size<=q) (fun q hq=>?_) (fun x hx _=>h4 x hx);rcases (hS q hq).1 with h5 | h5
 . exact h4 _ hm q h5
 exact .inr (ztt h3.size h5)
theorem VI.frz (h:VI Bs H w) (k:Nat) (he:e.holds w) (hl:e.loc) (hs:∀ q,¬ e.S q) (hf:∀ b,e.fz b->∀ x ∈ H,¬ x.2.S b):VI Bs ((k,e)::H) w:=by
 refine⟨?_,?_,?_,?_,?_,?_⟩
 .
  intro x hx;rcases ztD.1 hx with rfl | hx
  . exact he
  exact h.holds x hx
 .
  intro x hx;rcases ztD.1 hx with rfl | hx
  . exact hl
  exact h.loc x hx
 . exact zvU.2 ⟨fun x hx q hq=>(hs q hq).elim,h.apart⟩
 .
  intro x hx y hy b' da;rcases ztD.1 hy with rfl | hy
  . grind
  rcases ztD.1 hx with rfl | hx
  . grind
  exact h.froz x hx y hy b' da
 .
  intro x hx q hq;rcases ztD.1 hx with rfl | hx
  . grind
  exact h.low x hx q hq
 intro p' hY;refine⟨(h.base p' hY).1,fun x hx q hq=>?_⟩;rcases ztD.1 hx with rfl | hx
 . grind
 exact(h.base p' hY).2 x hx q hq
theorem VI.off (h:VI Bs H w) {p:World × (Nat->Prop)} (hp:p ∈ Bs) (hb:b<p.1.heap.size) (hn:¬ p.2 b):∀ x ∈ H,¬ x.2.S b:=fun x hx hs=>((h.base p hp).2 x hx b hs).elim hn (fun h=>tO)
theorem VI.fro (h:VI Bs H w) (k:Nat) {p:World × (Nat->Prop)} (hp:p ∈ Bs) (hb:b<p.1.heap.size) (hn:¬ p.2 b) (hc:Cells p.1 b o cs):VI Bs ((k,.fro b o cs)::H) w :=
 h.frz k ⟨zws hb (h.base p hp).1.size,(h.base p hp).1.cells hc hn⟩ trivial (fun _ h=>h) (fun b' hY=>by have hY:b=b':=hY;rw[<- hY];exact h.off hp hb hn)
theorem VI.few (h:VI Bs H w) (hs:∀ x ∈ H',x ∈ H) (ha:H'.Pairwise (fun x y=>∀ q,x.2.S q->¬ y.2.S q)):VI Bs H' w :=
 ⟨fun x hx=>h.holds x (hs x hx),fun x hx=>h.loc x (hs x hx),ha,fun x hx y hy=>h.froz x (hs x hx) y (hs y hy),fun x hx=>h.low x (hs x hx),fun p hp=>⟨(h.base p hp).1,fun x hx=>(h.base p hp).2 x (hs x hx)⟩⟩
theorem zal:∀ {H:Hp} {k k':Nat} {e e':HE},H.Pairwise (fun x y=>∀ q,x.2.S q->¬ y.2.S q)->hget H k=some e->hget H k'=some e'->Nat.beq k k'=false->∀ q,e.S q->¬ e'.S q
 | [],_,_,_,_,_,h,_,_=>by cases h
 | (k1,e1)::r,k,k',e,e',hp,h,h',hn=>by
  simp only[hget]at h h';rw[zvU]at hp;intro q hq hs;cases hb:Nat.beq k1 k with
  | true =>
   rw[hb]at h;cases h;cases hb':Nat.beq k1 k' with
   | true=>rw[<- ztu hb,<- ztu hb',zwm]at hn;cases hn
   | false=>rw[hb']at h';exact hp.1 _ (zm h') q hq hs
  | false =>
   rw[hb]at h;cases hb':Nat.beq k1 k' with
   | true=>rw[hb']at h';cases h';exact hp.1 _ (zm h) q hs hq
   | false=>rw[hb']at h';exact zal hp.2 h h' hn q hq hs
def qr (k:Nat):List Nat->Bool
 | []=>true
 | j::r=>cond (Nat.beq k j) false (qr k r)
def qd:List Nat->Bool
 | []=>true
 | k::r=>cond (qr k r) (qd r) false
theorem zbu {k:Nat}:∀ {l:List Nat},qr k l=true->∀ j ∈ l,Nat.beq k j=false
 | [],_,j,h=>tD
 | x::r,h,j,hj=>by
  simp only[qr]at h;cases hb:Nat.beq k x with
  | true=>rw[hb]at h;cases h
  | false =>
   rw[hb]at h;rcases ztD.1 hj with rfl | hj
   . exact hb
   exact zbu h j hj
def Has (H' H:Hp):Prop:=∀ x ∈ H',hget H x.1=some x.2
theorem Has.of (h:H'.map (fun x=>hget H x.1)=H'.map (fun x=>some x.2)):Has H' H:=by
 intro x hx;have:=List.map_inj_left.1 h x hx;omega
theorem Has.nil:Has [] H:=fun _ h=>tD
theorem Has.cons {e:HE} (h:hget H k=some e) (hr:Has H' H):Has ((k,e)::H') H:=fun x hx=>by
 rcases ztD.1 hx with rfl | hx
 . exact h
 exact hr x hx
theorem VI.pick (h:VI Bs H w) (hs:Has H' H) (hu:qd (H'.map (·.1))=true):VI Bs H' w:=by
 refine h.few (fun x hx=>zm (hs x hx)) ?_;induction H' with
 | nil=>exact List.Pairwise.nil
 | cons x r ih =>
  simp only[zvx,qd]at hu;cases hf:qr x.1 (r.map (·.1)) with
  | false=>rw[hf]at hu;cases hu
  | true =>
   rw[hf]at hu;refine zvU.2 ⟨fun y hy=>?_,ih (fun y hy=>hs y iq) hu⟩;exact zal h.apart (hs x (ztr ..)) (hs y iq) (zbu hf y.1 (zvI.2 ⟨y,hy,rfl⟩))
def HS (H:Hp) (q:Nat):Prop:=∃ x ∈ H,x.2.S q
theorem VI.here (h:VI Bs H w):VI ((w,HS H)::Bs) H w :=
 ⟨h.holds,h.loc,h.apart,h.froz,h.low,fun p hp=>by
  rcases ztD.1 hp with rfl | hp
  . exact⟨Keep.refl _ _,fun x hx q hq=>.inl ⟨x,hx,hq⟩⟩
  .
   exact h.base p hp⟩
theorem VI.drop (h:VI Bs H w) (j:Nat):VI (Bs.drop j) H w:=⟨h.holds,h.loc,h.apart,h.froz,h.low,fun p hp=>h.base p (zvK hp)⟩
theorem VI.at (h:VI Bs H w) (k:Nat) (hg:hget H k=some e):e.holds w:=h.holds _ (zm hg)
theorem VI.k0 {p:World × (Nat->Prop)} (h:VI (p::Bs) H w):Keep p.2 p.1 w:=(h.base p (ztr ..)).1
theorem VI.k1 {p q:World × (Nat->Prop)} (h:VI (p::q::Bs) H w):Keep q.2 q.1 w:=(h.base q tR).1
theorem VI.k2 {p q r:World × (Nat->Prop)} (h:VI (p::q::r::Bs) H w):Keep r.2 r.1 w:=(h.base r tR).1
theorem VI.k3 {p q r s:World × (Nat->Prop)} (h:VI (p::q::r::s::Bs) H w):Keep s.2 s.1 w:=(h.base s tR).1
theorem VI.own {w0:World} (h:VI Bs H w) (k j:Nat) (hg:hget H k=some e) (hb:Bs[j]?=some (w0,fun _=>False)):∀ q,e.S q->w0.heap.size<=q:=fun q hq=>((h.base _ (zto hb)).2 _ (zm hg) q hq).resolve_left (fun h=>h)
theorem VI.offF {F:Nat->Prop} {p:World->Prop} (h:VI Bs H w) (k:Nat) (hg:hget H k=some (.dat F p)):∀ b,F b->¬ HS H b:=fun b hb ⟨y,hy,hs⟩=>h.froz _ (zm hg) y hy b hb hs
theorem hdel_sub:∀ {H:Hp} {k:Nat},(zih H k).Sublist H
 | [],_=>List.Sublist.refl _
 | (k',e)::r,k=>by
  simp only[zih];cases Nat.beq k' k with
  | true=>exact List.sublist_cons_self ..
  | false=>exact hdel_sub.cons_cons _
theorem VI.del (h:VI Bs H w) (k:Nat):VI Bs (zih H k) w:=h.few (fun _ hx=>hdel_sub.subset hx) (h.apart.sublist hdel_sub)
theorem VI.freeze (h:VI Bs H w) (hg:hget H k=some e) (he:e'.holds w) (hl:e'.loc) (hs:∀ q,¬ e'.S q) (hf:∀ b,e'.fz b->e.S b):VI Bs (hset H k e') w:=by
 have hm:=zm hg;obtain⟨h1,h2⟩:=zak (e':=e') (B:=w.heap.size) hg h.apart (fun q hq=>(hs q hq).elim) h.low;have hY:∀ x ∈ hset H k e',(∀ q,x.2.S q->¬ e.S q)\/∀ q,¬ x.2.S q:=h2 (fun x=>(∀ q,x.2.S q->¬ e.S q)\/∀ q,¬ x.2.S q) (.inr hs) (fun x _ hq=>.inl hq);refine⟨h2 (fun x=>x.2.holds w) he (fun x hx _=>h.holds x hx),h2 (fun x=>x.2.loc) hl (fun x hx _=>h.loc x hx),h1,?_,h2 (fun x=>∀ q,x.2.S q->q<w.heap.size) (fun q hq=>(hs q hq).elim) (fun x hx _=>h.low x hx),fun p hp=>⟨(h.base p hp).1,h2 (fun x=>∀ q,x.2.S q->p.2 q\/p.1.heap.size<=q) (fun q hq=>(hs q hq).elim) (fun x hx _=>(h.base p hp).2 x hx)⟩⟩;intro x hx y hy b hb da;have dg:¬ e.S b:=(hY y hy).elim (fun h=>h b da) (fun h=>(h b da).elim);rcases kL hg y hy with rfl | db
 . grind
 rcases kL hg x hx with rfl | dc
 . grind
 exact h.froz x dc y db b hb da
class Dt {α:Type} (R:Rel α):Prop where
 s:ye R
 n:qD R
instance:Dt zv:=⟨zc,yt⟩
instance:Dt xu:=⟨zW,fun _ _ _ _ h=>h⟩
theorem VI.dat [hR:Dt R] (h:VI Bs H w) (k:Nat) {p:World × (Nat->Prop)} (hp:p ∈ Bs) (hk:0<kk) (hd:SlR kk R D p.1 v l) (hn:∀ b,D b->b<p.1.heap.size->¬ p.2 b) :
  VI Bs ((k,.dat (fun b=>D b/\b<p.1.heap.size) (fun w=>SlR kk R (fun b=>D b/\b<p.1.heap.size) w v l))::H) w:=by
 have hK:=(h.base p hp).1;refine h.frz k ⟨(hd.narrow hk hR.n).keep hR.s hK (fun q hq _=>hn q hq.1 hq.2),fun q hq=>zws hq.2 hK.size⟩ ?_ (fun _ h=>h) (fun b hb=>h.off hp hb.2 (hn b hb.1 hb.2));exact fun w w' T h1 h2 h3=>h1.keep hR.s h2 (fun q hq _=>h3 q hq)
end
abbrev Tgs:=List (Nat × Option (Nat × Nat))
def tgt:Tgs->Nat->Option (Nat × Nat)
 | [],_=>none
 | (k,v)::r,j=>cond (Nat.beq k j) v (tgt r j)
def tgo (A:Tgs):Operand->Option (Nat × Nat)
 | .tmp t=>tgt A t
 | _=>none
def qA (H:Hp) (k:Nat):Option (Nat × Nat):=match hget H k with
 | some (.own b _ _)=>some (b,0)
 | some (.fro b o _)=>some (b,o)
 | _=>none
def TgOk (A:Tgs) (env:Env) (H:Hp):Prop:=∀ s k off,tgt A s=some (k,off)->∃ b o,qA H k=some (b,o)/\get env s=some (.pointer (some ⟨b,o+off,none⟩))
section
variable {A:Tgs}
theorem TgOk.nil:TgOk [] env H:=fun _ _ _ h=>by cases h
theorem TgOk.push {g:Option (Nat × Nat)} (h:TgOk A env H) (hg:∀ k off,g=some (k,off)->∃ b o,qA H k=some (b,o)/\v=.pointer (some ⟨b,o+off,none⟩)):TgOk ((d,g)::A) ((d,v)::env) H:=by
 intro s k off hs;simp only[tgt,get]at hs ⊢;cases hb:Nat.beq d s with
 | true =>
  rw[hb]at hs;obtain⟨b,o,h1,h2⟩:=hg k off hs;exact⟨b,o,h1,tD⟩
 | false=>rw[hb]at hs;simpa using h s k off hs
theorem TgOk.none (h:TgOk A env H):TgOk ((d,.none)::A) ((d,v)::env) H:=h.push (fun _ _ h=>tD)
theorem TgOk.copy (h:TgOk A env H) (hx:ev env x=some v):TgOk ((d,tgo A x)::A) ((d,v)::env) H:=by
 refine h.push (fun k off hg=>?_);cases x with
 | tmp t =>
  obtain⟨b,o,h1,h2⟩:=h t k off hg;have h3:get env t=some v:=hx;rw[h2]at h3;cases h3;exact⟨b,o,h1,rfl⟩
 | _=>cases hg
theorem TgOk.heap (h:TgOk A env H) (hh:∀ k b o,qA H k=some (b,o)->qA H' k=some (b,o)):TgOk A env H':=fun s k off hs=>by
 obtain⟨b,o,h1,h2⟩:=h s k off hs
 grind
theorem jS:∀ {H:Hp} {k j:Nat} {e e':HE},hget H k=some e->hget (hset H k e') j=cond (Nat.beq k j) (some e') (hget H j)
 | [],_,_,_,_,h=>by cases h
 | (k1,e1)::r,k,j,e,e',h=>by
  simp only[hget]at h;simp only[hset];cases hb:Nat.beq k1 k with
  | true =>
   have:=ztu hb;subst this;simp only[cond_true,hget];cases Nat.beq k1 j<;>rfl
  | false =>
   rw[hb]at h;simp only[cond_false,hget];rw[jS h];cases hj:Nat.beq k1 j with
   | true =>
    have:=ztu hj;subst this;cases hk:Nat.beq k k1 with
    | true=>rw[<- ztu hk,zwm]at hb;cases hb
    | false=>rfl
   | false=>rfl
theorem TgOk.set {t t':Nat} {cs':List Value} (h:TgOk A env H) (hg:hget H k=some (.own b cs t)):TgOk A env (hset H k (.own b cs' t')):=by
 refine h.heap (fun j b' o hj=>?_);unfold qA at hj ⊢;rw[jS hg];cases hb:Nat.beq k j with
 | true =>
  have:=ztu hb;subst this;rw[hg]at hj;exact hj
 | false=>exact hj
theorem TgOk.res {e e':HE} (h:TgOk A env H) (hg:hget H k=some e) (hn:qA H k=.none):TgOk A env (hset H k e'):=by
 refine h.heap (fun j b' o hj=>?_)
 have hY:Nat.beq k j=false:=by
  cases hb:Nat.beq k j with
  | true=>rw[<- ztu hb,hn]at hj;cases hj
  | false=>rfl
 unfold qA at hj ⊢;rw[jS hg,hY];exact hj
theorem TgOk.new {e:HE} (h:TgOk A env H) (hn:hget H k=.none):TgOk A env ((k,e)::H):=by
 refine h.heap (fun j b o hj=>?_);unfold qA at hj ⊢;simp only[hget];cases hb:Nat.beq k j with
 | true=>rw[<- ztu hb,hn]at hj;cases hj
 | false=>exact hj
def zcJ (env:Env) (s:Nat):Option (Nat × Nat):=match get env s with
 | some (.pointer (some ⟨b,o,.none⟩))=>some (b,o)
 | _=>.none
def jc (H:Hp):Option (Nat × Nat)->Option (Nat × Nat)
 | some (k,off)=>(match qA H k with
  | some (b,o)=>some (b,o+off)
  | .none=>.none)
 | .none=>.none
theorem TgOk.of:∀ {A:Tgs},A.map (fun p=>zcJ env p.1)=A.map (fun p=>jc H p.2)->A.all (fun p=>(jc H p.2).isSome)=true->TgOk A env H
 | [],_,_=>TgOk.nil
 | (s0,g)::r,h,hs=>by
  simp only[zvx,List.cons.injEq]at h;simp only[List.all_cons,zu8]at hs;have ih:=TgOk.of (A:=r) h.2 hs.2;intro s k off hk;simp only[tgt]at hk;cases hb:Nat.beq s0 s with
  | false=>rw[hb]at hk;exact ih s k off hk
  | true =>
   rw[hb]at hk;simp only[cond_true]at hk;subst hk;have he:=ztu hb;subst he;have h1:=h.1;have h2:=hs.1;simp only[jc]at h1 h2;cases ha:qA H k with
   | none=>rw[ha]at h2;cases h2
   | some p =>
    obtain⟨b,o⟩:=p;rw[ha]at h1;refine⟨b,o,rfl,?_⟩;simp only[zcJ]at h1;split at h1
    . grind
    cases h1
end
def zkC:Nat->List Value->Option (List Value)
 | 0,_=>some []
 | _+1,[]=>none
 | n+1,x::r=>match zkC n r with
  | some l=>some (x::l)
  | none=>none
def zmm (k:Nat):Nat->List Value->Option (List Value)
 | 0,cs=>zkC k cs
 | _+1,[]=>none
 | n+1,_::r=>zmm k n r
def zoq:List Value->List Value->Option (List Value)
 | cs,[]=>some cs
 | [],_::_=>none
 | _::r,u::us=>match zoq r us with
  | some l=>some (u::l)
  | none=>none
def wrE (us:List Value):Nat->List Value->Option (List Value)
 | 0,cs=>zoq cs us
 | _+1,[]=>none
 | n+1,c::r=>match wrE us n r with
  | some l=>some (c::l)
  | none=>none
theorem zgs:∀ {n:Nat} {cs l:List Value},zkC n cs=some l->l=cs.take n/\n<=cs.length
 | 0,cs,l,h=>by cases h;simp
 | n+1,[],l,h=>by cases h
 | n+1,x::r,l,h=>by
  simp only[zkC]at h;split at h
  .
   rename_i l' hl;cases h;obtain⟨h1,h2⟩:=zgs hl;subst h1;exact⟨rfl,by simpa using h2⟩
  cases h
theorem zdj {k:Nat}:∀ {n:Nat} {cs l:List Value},zmm k n cs=some l->l=(cs.drop n).take k/\n+k<=cs.length
 | 0,cs,l,h=>by have:=zgs h;simpa using this
 | n+1,[],l,h=>by cases h
 | n+1,x::r,l,h=>by
  obtain⟨h1,h2⟩:=zdj (n:=n) h
  grind
theorem zio:∀ {us cs l:List Value},zoq cs us=some l->l=us++cs.drop us.length/\us.length<=cs.length
 | [],cs,l,h=>by cases cs<;>(cases h;simp)
 | u::us,[],l,h=>by cases h
 | u::us,c::r,l,h=>by
  simp only[zoq]at h;split at h
  .
   rename_i l' hl;cases h;obtain⟨h1,h2⟩:=zio hl;subst h1;exact⟨rfl,by simpa using h2⟩
  cases h
theorem zmn {us:List Value}:∀ {n:Nat} {cs l:List Value},wrE us n cs=some l->l=cs.take n++us++cs.drop (n+us.length)/\n+us.length<=cs.length
 | 0,cs,l,h=>by have:=zio h;simpa using this
 | n+1,[],l,h=>by cases h
 | n+1,c::r,l,h=>by
  simp only[wrE]at h;split at h
  .
   rename_i l' hl;cases h;obtain⟨h1,h2⟩:=zmn hl;subst h1;refine⟨?_,tD⟩;rw[show n+1+us.length=n+us.length+1 by omega];simp
  cases h
def one:Value->Bool
 | .bool _=>true
 | .int _ _=>true
 | .string _=>true
 | .pointer _=>true
 | .slice _ _ _=>true
 | .map _=>true
 | .func _ _ _=>true
 | .nilFunc=>true
 | _=>false
def ones:List Value->Bool
 | []=>true
 | v::r=>cond (one v) (ones r) false
def zgt:Value->Option (List Value)
 | .agg ⟨l⟩=>(match ones l with
  | true=>some l
  | false=>none)
 | v=>(match one v with
  | true=>some [v]
  | false=>none)
theorem xU (h:one v=true):v.oneCell'=true/\v.cells=#[v]:=by
 cases v<;>first | exact JL | cases h
theorem zdk:∀ {l:List Value},ones l=true->∀ u ∈ l,u.oneCell'=true
 | [],_,u,h=>tD
 | v::r,h,u,hu=>by
  simp only[ones]at h;cases h1:one v with
  | false=>rw[h1]at h;cases h
  | true =>
   rw[h1]at h;rcases ztD.1 hu with rfl | hu
   . exact(xU h1).1
   exact zdk h u hu
theorem ziq (h:zgt v=some us):v.cells=us.toArray/\∀ u ∈ us,u.oneCell'=true:=by
 unfold zgt at h;split at h
 .
  split at h
  . rename_i h1;cases h;exact⟨rfl,zdk h1⟩
  cases h
 split at h
 .
  rename_i h1;cases h;obtain⟨h2,h3⟩:=xU h1
  grind
 cases h
abbrev Szs:=List (Nat × Nat)
def znR:Szs->Nat->Option Nat
 | [],_=>none
 | (k,v)::r,j=>cond (Nat.beq k j) (some v) (znR r j)
def Szs.one (P:Program) (t:TypeId):Nat->Prop
 | 0=>(∀ w,(isAgg t).run P w=.ok false w)/\∀ w,(sizeOf t).run P w=.ok 1 w
 | k+1=>(∀ w,(isAgg t).run P w=.ok true w)/\∀ w,(sizeOf t).run P w=.ok (k+1) w
def zqv (P:Program) (Z:Szs):Prop:=∀ t k,znR Z t=some k->Szs.one P t k
theorem zqx:zqv P []:=fun _ _ h=>by cases h
theorem zqz {Z:Szs} {t:Nat} (h:Szs.one P t k) (hZ:zqv P Z):zqv P ((t,k)::Z):=by
 intro t' k' h';simp only[znR]at h';cases hb:Nat.beq t t' with
 | true=>rw[hb]at h';cases h';rw[<- ztu hb];exact h
 | false=>rw[hb]at h';exact hZ _ _ h'
def V (P:Program) (n:Fm) (Q:Exit->Act->World->Prop) (ks:List Fr) (pos:Pos) (env:Env) (A:Tgs) (H:Hp) (Bs:zq):Prop:=TgOk A env H->∀ w,VI Bs H w->G P n Q ks pos env w
def cellAt (H:Hp) (k:Nat):Option (List Value):=match hget H k with
 | some (.own _ cs _)=>some cs
 | some (.fro _ _ cs)=>some cs
 | _=>none
def opV (T:Tab) (Z:Szs) (env:Env) (A:Tgs) (H:Hp):Op->Option (Option Prop × Value × Option (Nat × Nat))
 | .load t x=>(match tgo A x with
  | some (k,off)=>(match cellAt H k with
   | some cs=>(match znR Z t with
    | some 0=>(match nth cs off with
     | some v=>some (none,v,none)
     | none=>none)
    | some (s+1)=>(match zmm (s+1) off cs with
     | some l=>some (none,.agg ⟨l⟩,none)
     | none=>none)
    | none=>none)
   | none=>none)
  | none=>none)
 | .fieldAddr s x f=>(match pv T env (.fieldAddr s x f) with
  | some (ob,v)=>(match tgo A x with
   | some (k,off)=>(match zkB T s with
    | some (.st offs)=>(match nth offs f with
     | some fo=>some (ob,v,some (k,off+fo))
     | none=>some (ob,v,none))
    | _=>some (ob,v,none))
   | none=>some (ob,v,none))
  | none=>none)
 | .indexAddr t x y=>(match pv T env (.indexAddr t x y) with
  | some (ob,v)=>(match tgo A x with
   | some (k,off)=>(match zkB T t with
    | some (.ar _ s)=>(match y with
     | .const (.int _ i)=>some (ob,v,some (k,off+i.toNat*s))
     | _=>some (ob,v,none))
    | _=>some (ob,v,none))
   | none=>some (ob,v,none))
  | none=>none)
 | .move x=>(match ev env x with
  | some v=>(match tgo A x with
   | some g=>some (none,v,some g)
   | none=>some (none,v,none))
  | none=>none)
 | .assign x=>(match ev env x with
  | some v=>(match tgo A x with
   | some g=>some (none,v,some g)
   | none=>some (none,v,none))
  | none=>none)
 | .nilCheck x=>(match pv T env (.nilCheck x) with
  | some (ob,v)=>(match tgo A x with
   | some g=>some (ob,v,some g)
   | none=>some (ob,v,none))
  | none=>none)
 | op=>(match pv T env op with
  | some (ob,v)=>some (ob,v,none)
  | none=>none)
def zaI (Z:Szs) (env:Env) (A:Tgs) (H:Hp) (t:TypeId) (x y:Operand):Option Hp:=match tgo A x with
 | some (k,off)=>(match hget H k with
  | some (.own b cs e)=>(match ev env y with
   | some v=>(match zgt v with
    | some us=>(match znR Z t with
     | some s=>(match Nat.beq us.length (cond (Nat.beq s 0) 1 s) with
      | true=>(match wrE us off cs with
       | some cs'=>some (hset H k (.own b cs' e))
       | none=>none)
      | false=>none)
     | none=>none)
    | none=>none)
   | none=>none)
  | _=>none)
 | none=>none
def zir (T:Tab) (Z:Szs) (n:Nat) (ks:List Fr) (env:Env) (A:Tgs) (H:Hp):Pos->Option (Option Prop × List Fr × Pos × Env × Tgs × Hp)
 | .o ops (⟨some d,op,_,_,_,g⟩::r)=>(match Nat.blt d n with
  | true=>(match gd ops env g with
   | some true=>(match opV T Z env A H op with
    | some (ob,v,g)=>some (ob,ks,.o ops r,(d,v)::env,(d,g)::A,H)
    | none=>none)
   | some false=>some (none,ks,.o ops r,(d,undef)::env,(d,none)::A,H)
   | none=>none)
  | false=>none)
 | .q ops (⟨some d,op,_,_,_,g⟩::r)=>(match Nat.blt d n with
  | true=>(match gd ops env g with
   | some true=>(match opV T Z env A H op with
    | some (ob,v,g)=>some (ob,ks,.q ops r,(d,v)::env,(d,g)::A,H)
    | none=>none)
   | some false=>some (none,ks,.q ops r,(d,undef)::env,(d,none)::A,H)
   | none=>none)
  | false=>none)
 | .o ops (⟨none,.store t x y,_,_,_,g⟩::r)=>(match gd ops env g with
  | some true=>(match zaI Z env A H t x y with
   | some H'=>some (none,ks,.o ops r,env,A,H')
   | none=>none)
  | _=>none)
 | .q _ []=>some (none,ks,.e .normal,env,A,H)
 | .o _ []=>some (none,ks,.e .normal,env,A,H)
 | .o _ _=>none
 | .q _ _=>none
 | .c x=>(match jz T n ks env (.c x) with
  | some (ob,ks',pos',env')=>some (ob,ks',pos',env',A,H)
  | none=>none)
 | .e x=>(match jz T n ks env (.e x) with
  | some (ob,ks',pos',env')=>some (ob,ks',pos',env',A,H)
  | none=>none)
def zer (T:Tab) (Z:Szs) (n:Nat):Nat->Option Prop->List Fr->Pos->Env->Tgs->Hp->Option (Option Prop × List Fr × Pos × Env × Tgs × Hp)
 | 0,ob,ks,pos,env,A,H=>some (ob,ks,pos,env,A,H)
 | k+1,ob,ks,pos,env,A,H=>match zir T Z n ks env A H pos with
  | some (none,ks',pos',env',A',H')=>zer T Z n k ob ks' pos' env' A' H'
  | some (some p,ks',pos',env',A',H')=>zer T Z n k (znQ ob p) ks' pos' env' A' H'
  | none=>none
section
variable {T:Tab} {Z:Szs} {n:Fm} {ks ks':List Fr} {env':Env} {pos pos':Pos} {A A':Tgs} {Bs:zq}
theorem zbv {off:Nat} (hA:TgOk A env H) (hI:VI Bs H w) (hx:tgo A x=some (k,off)) (hc:cellAt H k=some cs):∃ b o,ev env x=some (.pointer (some ⟨b,o+off,none⟩))/\Cells w b o cs:=by
 cases x with
 | tmp t =>
  obtain⟨b,o,h1,h2⟩:=hA t k off hx;refine⟨b,o,h2,?_⟩;unfold qA at h1;unfold cellAt at hc;cases hg:hget H k with
  | none=>rw[hg]at hc;cases hc
  | some e =>
   rw[hg]at h1 hc;have hh:=hI.at k hg;cases e with
   | own b' cs' e'=>cases h1;cases hc;exact Blk.cells hh
   | fro b' o' cs'=>cases h1;cases hc;exact hh.2
   | _=>cases hc
 | _=>cases hx
theorem zcK (hT:zqu P T) (hZ:zqv P Z) {op:Op} {g:Option (Nat × Nat)} (h:opV T Z env A H op=some (ob,v,g)) (hA:TgOk A env H) :
  (∀ d,TgOk ((d,g)::A) ((d,v)::env) H)/\∀ (_:VI Bs H w) (_:Ask ob) (dst:Option Tmp) (ty:TypeId) (ps:String) (aft:Array Edge),yx P ⟨dst,op,ty,ps,aft,none⟩ env w v w:=by
 unfold opV at h;split at h
 .
  rename_i t x;split at h
  .
   rename_i k off hx;split at h
   .
    rename_i cs hc;split at h
    .
     rename_i hz;split at h
     .
      rename_i hn;cases h;refine⟨fun _=>hA.none,fun hI _ dst ty ps aft=>?_⟩;obtain⟨b,o,h1,h2⟩:=zbv hA hI hx hc;rw[kK]at hn;exact R.load (hZ _ _ hz).1 h1 (h2 off _ hn)
     cases h
    .
     rename_i s hz;split at h
     .
      rename_i l hl;cases h;refine⟨fun _=>hA.none,fun hI _ dst ty ps aft=>?_⟩;obtain⟨b,o,h1,h2⟩:=zbv hA hI hx hc;obtain⟨h3,h4⟩:=zdj hl;refine zpJ (cs:=l) (hZ _ _ hz).1 (hZ _ _ hz).2 h1 (by rw[h3,ztR,zvq];omega) (h2.part off ?_);intro j u hu;rw[h3,ztT]at hu;split at hu
      . rw[zvc]at hu;exact hu
      cases hu
     cases h
    cases h
   cases h
  cases h
 .
  rename_i s x f;split at h
  .
   rename_i ob' v' hp;have hr:∀ (_:Ask ob') (dst:Option Tmp) (ty:TypeId) (ps:String) (aft:Array Edge),yx P ⟨dst,.fieldAddr s x f,ty,ps,aft,none⟩ env w v' w:=fun ha dst ty ps aft=>zbq hT hp ha;split at h
   .
    rename_i k off hx;split at h
    .
     rename_i offs ht;split at h
     .
      rename_i fo hn;cases h;refine⟨fun d=>hA.push (fun k' off' hg=>?_),fun _=>hr⟩;cases hg;cases x with
      | tmp t =>
       obtain⟨b,o,h1,h2⟩:=hA t k off hx;refine⟨b,o,h1,?_⟩;have h3:ev env (.tmp t)=some (.pointer (some ⟨b,o+off,none⟩)):=h2;simp only[pv,ht,hn,h3]at hp;cases hp;rw[zwg]
      | _=>cases hx
     cases h;exact iz
    cases h;exact iz
   cases h;exact iz
  cases h
 .
  rename_i t x y;split at h
  .
   rename_i ob' v' hp;have hr:∀ (_:Ask ob') (dst:Option Tmp) (ty:TypeId) (ps:String) (aft:Array Edge),yx P ⟨dst,.indexAddr t x y,ty,ps,aft,none⟩ env w v' w:=fun ha dst ty ps aft=>zbq hT hp ha;split at h
   .
    rename_i k off hx;split at h
    .
     rename_i ln s ht;split at h
     .
      rename_i kd i;cases h;refine⟨fun d=>hA.push (fun k' off' hg=>?_),fun _=>hr⟩;cases hg;cases x with
      | tmp q =>
       obtain⟨b,o,h1,h2⟩:=hA q k off hx;refine⟨b,o,h1,?_⟩;have h3:ev env (.tmp q)=some (.pointer (some ⟨b,o+off,none⟩)):=h2;simp only[pv,ht,h3]at hp;split at hp
       . grind
       cases hp
      | _=>cases hx
     cases h;exact iz
    cases h;exact iz
   cases h;exact iz
  cases h
 .
  split at h
  .
   rename_i v' hx;split at h
   .
    rename_i g' hg;cases h;have:=fun d=>hA.copy (d:=d) hx;rw[hg]at this;exact⟨this,fun _ _ _ _ _ _=>R.move hx⟩
   cases h;exact⟨fun _=>hA.none,fun _ _ _ _ _ _=>R.move hx⟩
  cases h
 .
  split at h
  .
   rename_i v' hx;split at h
   .
    rename_i g' hg;cases h;have:=fun d=>hA.copy (d:=d) hx;rw[hg]at this;exact⟨this,fun _ _ _ _ _ _=>R.assign hx⟩
   cases h;exact⟨fun _=>hA.none,fun _ _ _ _ _ _=>R.assign hx⟩
  cases h
 .
  rename_i x;split at h
  .
   rename_i ob' v' hp;have hr:∀ (_:Ask ob') (dst:Option Tmp) (ty:TypeId) (ps:String) (aft:Array Edge),yx P ⟨dst,.nilCheck x,ty,ps,aft,none⟩ env w v' w:=fun ha dst ty ps aft=>zbq hT hp ha;split at h
   .
    rename_i g' hg;cases h;refine⟨fun d=>?_,fun _=>hr⟩
    have hx:ev env x=some v:=by
     simp only[pv]at hp;split at hp
     . rename_i hx;cases hp;exact hx
     . rename_i hx;cases hp;exact hx
     cases hp
    have:=hA.copy (d:=d) hx;rw[hg]at this;exact this
   cases h;exact iz
  cases h
 split at h
 .
  rename_i hp;cases h;exact⟨fun _=>hA.none,fun _ ha dst ty ps aft=>zbq hT hp ha⟩
 cases h
theorem kM (hZ:zqv P Z) (h:zaI Z env A H t x y=some H') (hA:TgOk A env H) :
  TgOk A env H'/\∀ (_:VI Bs H w) (ty:TypeId) (ps:String) (aft:Array Edge),xY P ⟨none,.store t x y,ty,ps,aft,none⟩ env w (fun w'=>VI Bs H' w'):=by
 unfold zaI at h;split at h
 .
  rename_i k off hx;split at h
  .
   rename_i b cs e hg;split at h
   .
    rename_i v hv;split at h
    .
     rename_i us hu;split at h
     .
      rename_i s hz;split at h
      .
       rename_i hl;split at h
       .
        rename_i cs' hs;cases h;refine⟨hA.set hg,fun hI ty ps aft=>?_⟩;obtain⟨h1,h2⟩:=ziq hu;obtain⟨h3,h4⟩:=zmn hs;cases x with
        | tmp tt =>
         obtain⟨b',o,h5,h6⟩:=hA tt k off hx;unfold qA at h5;rw[hg]at h5;cases h5;have hB:Blk w b cs e:=hI.at k hg;have hY:=ztu hl
         have da:∀ w,(sizeOf t).run P w=.ok us.length w:=by
          cases s with
          | zero=>rw[hY];exact(hZ _ _ hz).2
          | succ m=>rw[hY];exact(hZ _ _ hz).2
         obtain⟨w',hr,h7,h8,h9⟩:=zpU (P:=P) (dst:=none) (ty:=ty) (pos:=ps) (aft:=aft) (g:=none) da (x:=.tmp tt) (y:=y) (env:=env) h6 hv h1 rfl h2 hB tO;refine⟨w',hr,?_⟩;simp only[zwC]at h8;rw[<- h3]at h8;refine hI.set hg h9 h8 trivial (fun _ h=>h) (fun q hq=>⟨.inl hq,?_⟩);have hq:q=b:=hq;rw[hq];exact h8.lt
        | _=>cases hx
       cases h
      cases h
     cases h
    cases h
   cases h
  cases h
 cases h
theorem zmJ {x:Code} (h:jz T n ks env (.c x)=some (ob,ks',pos',env')):env'=env:=by
 unfold jz at h
 repeat' split at h
 all_goals simp_all
theorem zmK {x:Exit} (h:jz T n ks env (.e x)=some (ob,ks',pos',env')):env'=env:=by
 unfold jz at h
 repeat' split at h
 all_goals simp_all
theorem zes (hT:zqu P T) (hZ:zqv P Z) (h:zir T Z n ks env A H pos=some (ob,ks',pos',env',A',H')) (ha:Ask ob) (hr:V P n Q ks' pos' env' A' H' Bs):V P n Q ks pos env A H Bs:=by
 intro hA w hI;unfold zir at h;split at h
 .
  split at h
  .
   rename_i hn;split at h
   .
    rename_i hg;split at h
    .
     rename_i hv;cases h;obtain⟨h1,h2⟩:=zcK (w:=w) (Bs:=Bs) hT hZ hv hA;exact zqG hn hg (h2 hI ha _ _ _ _) (hr (h1 _) w hI)
    cases h
   . rename_i hg;cases h;exact zim hn hg (hr hA.none w hI)
   cases h
  cases h
 .
  split at h
  .
   rename_i hn;split at h
   .
    rename_i hg;split at h
    .
     rename_i hv;cases h;obtain⟨h1,_⟩:=zcK (w:=w) (Bs:=Bs) hT hZ hv hA;exact zqJ hn hg (fun w1 da=>(zcK (w:=w1) (Bs:=Bs) hT hZ hv hA).2 (hI.ext da) ha _ _ _ _) (hr (h1 _) w hI)
    cases h
   . rename_i hg;cases h;exact zin hn hg (hr hA.none w hI)
   cases h
  cases h
 .
  split at h
  .
   rename_i hg;split at h
   .
    rename_i hv;cases h;obtain⟨h1,h2⟩:=kM (w:=w) (Bs:=Bs) hZ hv hA;exact zpT hg (h2 hI _ _ _) (fun w' hY=>hr h1 w' hY)
   cases h
  cases h
 . cases h;exact zqN (fun w' hY=>hr hA w' (hI.ext hY))
 . cases h;exact WO.nil (hr hA w hI)
 . cases h
 . cases h
 .
  split at h
  .
   rename_i h1;cases h;have:=zmJ h1;subst this;exact zb4 hT h1 ha (hr hA w hI)
  cases h
 split at h
 .
  rename_i h1;cases h;have:=zmK h1;subst this;exact zb4 hT h1 ha (hr hA w hI)
 cases h
theorem zb6 (hT:zqu P T) (hZ:zqv P Z):∀ (k:Nat) (ob ob':Option Prop) (ks:List Fr) (pos:Pos) (env:Env) (A:Tgs) (H:Hp),zer T Z n k ob ks pos env A H=some (ob',ks',pos',env',A',H')->Ask ob'->Ask ob/\(V P n Q ks' pos' env' A' H' Bs->V P n Q ks pos env A H Bs)
 | 0,ob,ob',ks,pos,env,A,H,h,ha=>by cases h;exact⟨ha,fun h=>h⟩
 | k+1,ob,ob',ks,pos,env,A,H,h,ha=>by
  unfold zer at h;split at h
  .
   rename_i h1;obtain⟨h2,h3⟩:=zb6 hT hZ k _ _ _ _ _ _ _ h ha;exact⟨h2,fun hr=>zes hT hZ h1 trivial (h3 hr)⟩
  .
   rename_i h1;obtain⟨h2,h3⟩:=zb6 hT hZ k _ _ _ _ _ _ _ h ha;obtain⟨h4,h5⟩:=h2.of_and;exact⟨h4,fun hr=>zes hT hZ h1 h5 (h3 hr)⟩
  cases h
theorem V.go (hT:zqu P T) (hZ:zqv P Z) (k:Nat) (h:zer T Z n k none ks pos env A H=some (none,ks',pos',env',A',H')) (hr:V P n Q ks' pos' env' A' H' Bs):V P n Q ks pos env A H Bs:=(zb6 hT hZ k _ _ _ _ _ _ _ h trivial).2 hr
theorem V.goA (hT:zqu P T) (hZ:zqv P Z) (k:Nat) (h:zer T Z n k none ks pos env A H=some (some p,ks',pos',env',A',H')) (hp:p) (hr:V P n Q ks' pos' env' A' H' Bs):V P n Q ks pos env A H Bs:=(zb6 hT hZ k _ _ _ _ _ _ _ h hp).2 hr
end
open Go.RowKit
section
variable {n:Fm} {ks:List Fr} {pos:Pos} {A:Tgs} {Bs:zq}
variable {op:Op} {ty:TypeId} {ps:String}
theorem V.inn (h:V P n Q ks pos env [] [] [(w,fun _=>False)]):G P n Q ks pos env w:=h TgOk.nil w (VI.nil w)
theorem TgOk.lit {p:Value} (h:TgOk A env H) (hv:get env d=some v) (hp:v=p):TgOk A ((d,p)::env) H:=by
 intro s k off hs;obtain⟨b,o,h1,h2⟩:=h s k off hs;refine⟨b,o,h1,?_⟩;simp only[get];cases hb:Nat.beq d s with
 | true=>rw[<- ztu hb,hv,hp]at h2;simpa using h2
 | false=>exact h2
theorem V.sp (d:Nat) [Decidable p] (h:get env d=some (.bool (decide p))) (h1:p->V P n Q ks pos ((d,.bool true)::env) A H Bs) (h2:¬ p->V P n Q ks pos ((d,.bool false)::env) A H Bs):V P n Q ks pos env A H Bs :=
 fun hA w hI=>G.sp d h (fun hp=>h1 hp (hA.lit h tD) w hI) (fun hp=>h2 hp (hA.lit h tD) w hI)
theorem zqB (d:Nat) {b:Bool} (h:get env d=some (.bool b)) (h1:b=true->V P n Q ks pos ((d,.bool true)::env) A H Bs) (h2:b=false->V P n Q ks pos ((d,.bool false)::env) A H Bs):V P n Q ks pos env A H Bs :=
 fun hA w hI=>G.sb d h (fun hp=>h1 hp (hA.lit h tD) w hI) (fun hp=>h2 hp (hA.lit h tD) w hI)
theorem zqD (h1:p->V P n Q ks pos env A H Bs) (h2:¬ p->V P n Q ks pos env A H Bs):V P n Q ks pos env A H Bs:=by
 grind
theorem zp4 {t:Nat} {x y:Code} [Decidable p] (h:get env t=some (.bool (decide p))) (h1:p->V P n Q ks (.c x) ((t,.bool true)::env) A H Bs) (h2:¬ p->V P n Q ks (.c y) ((t,.bool false)::env) A H Bs):V P n Q ks (.c (.cond (.tmp t) x y)) env A H Bs :=
 fun hA w hI=>zp3 h (fun hp=>h1 hp (hA.lit h tD) w hI) (fun hp=>h2 hp (hA.lit h tD) w hI)
theorem V.bool {t:Nat} {x y:Code} {b:Bool} (h:get env t=some (.bool b)) (h1:b=true->V P n Q ks (.c x) ((t,.bool true)::env) A H Bs) (h2:b=false->V P n Q ks (.c y) ((t,.bool false)::env) A H Bs):V P n Q ks (.c (.cond (.tmp t) x y)) env A H Bs :=
 fun hA w hI=>G.bool h (fun hp=>h1 hp (hA.lit h tD) w hI) (fun hp=>h2 hp (hA.lit h tD) w hI)
theorem zr8 (hp:∀ w,VI Bs H w->p) (h:p->V P n Q ks pos env A H Bs):V P n Q ks pos env A H Bs:=fun hA w hI=>h (hp w hI) hA w hI
theorem V.eq (d:Nat) {u:Value} (h:get env d=some u) (he:u=v) (h1:V P n Q ks pos ((d,v)::env) A H Bs):V P n Q ks pos env A H Bs :=
 fun hA w hI=>G.sub J9 (h1 (hA.lit h he) w hI)
theorem zqH (hn:(Nat.blt d n,gd ops env g)=(true,some true)) (hr:∀ w,VI Bs H w->yx P ⟨some d,op,ty,ps,aft,none⟩ env w v w) (h:V P n Q ks (.o ops rest) ((d,v)::env) ((d,none)::A) H Bs):V P n Q ks (.o ops (⟨some d,op,ty,ps,aft,g⟩::rest)) env A H Bs:=by
 simp only[Prod.mk.injEq]at hn;exact fun hA w hI=>zqG hn.1 hn.2 (hr w hI) (h hA.none w hI)
theorem zr9 (k:Nat) {u:Nat->Value} (hn:(Nat.blt d n,gd ops env g,(hget H k).isNone)=(true,some true,true)) (hm:∀ w,VI Bs H w->yM P ⟨some d,op,ty,ps,aft,none⟩ env w (fun r w'=>∃ b,r=u b/\New w cs e b w'))
  (h:∀ b,V P n Q ks (.o ops rest) ((d,u b)::env) ((d,none)::A) ((k,.own b cs e)::H) Bs):V P n Q ks (.o ops (⟨some d,op,ty,ps,aft,g⟩::rest)) env A H Bs:=by
 simp only[Prod.mk.injEq,zwF]at hn;refine fun hA w hI=>G.mem hn.1 hn.2.1 (hm w hI) ?_;rintro _ w' ⟨b,rfl,hb,hs,hB,hk⟩;refine h b (TgOk.none (hA.new hn.2.2)) w' (hI.new hk k hB trivial (fun _ h=>h) (fun q hq=>?_));have hq:q=b:=hq;omega
theorem zrb (k:Nat) (hn:(Nat.blt d n,gd ops env g,(hget H k).isNone)=(true,some true,true)) (hm:∀ w,VI Bs H w->yM P ⟨some d,op,ty,ps,aft,none⟩ env w (fun r w'=>∃ b,r=.pointer (some ⟨b,0,none⟩)/\New w cs e b w'))
  (h:∀ b,V P n Q ks (.o ops rest) ((d,.pointer (some ⟨b,0,none⟩))::env) ((d,some (k,0))::A) ((k,.own b cs e)::H) Bs):V P n Q ks (.o ops (⟨some d,op,ty,ps,aft,g⟩::rest)) env A H Bs:=by
 simp only[Prod.mk.injEq,zwF]at hn;refine fun hA w hI=>G.mem hn.1 hn.2.1 (hm w hI) ?_;rintro _ w' ⟨b,rfl,hb,hs,hB,hk⟩;refine h b ((hA.new hn.2.2).push (fun k' off hg=>?_)) w' (hI.new hk k hB trivial (fun _ h=>h) (fun q hq=>?_))
 .
  cases hg;exact Jf
 have hq:q=b:=hq;omega
theorem V.alloc (k:Nat) (hz:∀ w,(zeroValue e).run P w=.ok z w) (hn:(Nat.blt d n,gd ops env g,(hget H k).isNone)=(true,some true,true)) (hc:z.cells=cs.toArray)
  (h:∀ b,V P n Q ks (.o ops rest) ((d,.pointer (some ⟨b,0,none⟩))::env) ((d,some (k,0))::A) ((k,.own b cs e)::H) Bs):V P n Q ks (.o ops (⟨some d,.alloc e,ty,ps,aft,g⟩::rest)) env A H Bs :=
 zrb k hn (fun _ _=>M.alloc hz hc) h
theorem V.box (k:Nat) (hn:(Nat.blt d n,gd ops env g,(hget H k).isNone,ev env x)=(true,some true,true,some v)) (hc:v.cells=cs.toArray)
  (h:∀ b,V P n Q ks (.o ops rest) ((d,.pointer (some ⟨b,0,none⟩))::env) ((d,some (k,0))::A) ((k,.own b cs e)::H) Bs):V P n Q ks (.o ops (⟨some d,.box e x,ty,ps,aft,g⟩::rest)) env A H Bs:=by
 simp only[Prod.mk.injEq]at hn;exact zrb k tD (fun _ _=>M.box hn.2.2.2 hc) h
theorem zre (s k off:Nat) (h:zcJ env s=jc H (some (k,off))) (hs:(jc H (some (k,off))).isSome=true) (h1:V P n Q ks pos env ((s,some (k,off))::A) H Bs):V P n Q ks pos env A H Bs:=by
 refine fun hA w hI=>h1 (fun s' k' off' hk=>?_) w hI;simp only[tgt]at hk;cases hb:Nat.beq s s' with
 | false=>rw[hb]at hk;exact hA s' k' off' hk
 | true =>
  rw[hb]at hk;cases hk;have:=TgOk.of (A:=[(s,some (k,off))]) (env:=env) (H:=H) tD tD;exact this s' k off (by simp[tgt,hb])
theorem V.fro (k:Nat) {p:World × (Nat->Prop)} (hn:hget H k=none) (hp:p ∈ Bs) (hb:b<p.1.heap.size) (hY:¬ p.2 b) (hc:Cells p.1 b o cs) (h:V P n Q ks pos env A ((k,.fro b o cs)::H) Bs):V P n Q ks pos env A H Bs :=
 fun hA w hI=>h (hA.new hn) w (hI.fro k hp hb hY hc)
theorem zrg (k:Nat) {l:Nat} {i:Int} (hu:∀ w,(underlying t).run P w=.ok (.slice e) w) (hs:∀ w,(sizeOf e).run P w=.ok kk w)
  (hn:(Nat.blt d n,gd ops env g,ev env x,ev env y)=(true,some true,some (.slice ao l c),some (.int kd i))) (hY:ao=some ⟨b,o,none⟩) (h0:0<=i/\i<l) (j:Nat) (hj:i=(j:Int)) (hk:hget H k=some (.fro b (o+j*kk) cs))
  (h:V P n Q ks (.o ops rest) ((d,.pointer (some ⟨b,o+j*kk,none⟩))::env) ((d,some (k,0))::A) H Bs):V P n Q ks (.o ops (⟨some d,.indexAddr t x y,ty,ps,aft,g⟩::rest)) env A H Bs:=by
 simp only[Prod.mk.injEq]at hn;subst hj;refine fun hA w hI=>zqG hn.1 hn.2.1 (zpH hu hs hn.2.2.1 hn.2.2.2 hY h0) (h (hA.push (fun k' off hg=>?_)) w hI);cases hg;exact⟨b,o+j*kk,by simp[qA,hk],rfl⟩
theorem zrj (k:Nat) {l:Nat} {i:Int} (hu:∀ w,(underlying t).run P w=.ok (.slice e) w) (hs:∀ w,(sizeOf e).run P w=.ok kk w)
  (hn:(Nat.blt d n,gd ops env g,ev env x,ev env y)=(true,some true,some (.slice ao l c),some (.int kd i))) (hY:ao=some ⟨b,o,none⟩) (h0:0<=i/\i<l) (j:Nat) (hj:i=(j:Int)) (hk:hget H k=some (.fro b (o+j*kk) cs))
  (h:V P n Q ks (.q ops rest) ((d,.pointer (some ⟨b,o+j*kk,none⟩))::env) ((d,some (k,0))::A) H Bs):V P n Q ks (.q ops (⟨some d,.indexAddr t x y,ty,ps,aft,g⟩::rest)) env A H Bs:=by
 simp only[Prod.mk.injEq]at hn;subst hj;refine fun hA w hI=>zqJ hn.1 hn.2.1 (fun _ _=>zpH hu hs hn.2.2.1 hn.2.2.2 hY h0) (h (hA.push (fun k' off hg=>?_)) w hI);cases hg;exact⟨b,o+j*kk,by simp[qA,hk],rfl⟩
theorem zpW (k:Nat) (hu:P.underlying t=some (.slice e)) (he:(P.info? e).map (fun i=>(i.zero,i.size,i.bytes))=some (some z,kk,by'))
  (hn:(Nat.blt d n,gd ops env g,(hget H k).isNone,ev env x,ev env y)=(true,some true,true,some (.int kl (m:Int)),some (.int kc (m:Int)))) (hb:by'*m<=281474976710656) (hm:m<=9223372036854775807) (hz:madeCells z.cells (m*kk)=zs.toArray) (hl:zs.length=m*kk)
  (h:∀ b,V P n Q ks (.o ops rest) ((d,.slice (some ⟨b,0,none⟩) m m)::env) ((d,none)::A) ((k,.row e kk (.slice (some ⟨b,0,none⟩) m m) m zs)::H) Bs):V P n Q ks (.o ops (⟨some d,.makeSlice t x y,ty,ps,aft,g⟩::rest)) env A H Bs:=by
 simp only[Prod.mk.injEq,zwF]at hn;refine fun hA w hI=>G.mem hn.1 hn.2.1 (zpV hu he hn.2.2.2.1 hn.2.2.2.2 hb hm hz) ?_;rintro _ w' ⟨b,rfl,hb,hs,hB,hk⟩;refine h b (TgOk.none (hA.new hn.2.2.1)) w' (hI.new hk k ?_ trivial (fun _ h=>h) (fun q hq=>?_))
 .
  have:=zG (k:=kk) (n:=m) (cap:=m) hB (ztM _) hm hl;rw[<- hl,zts]at this;exact this
 have hq:some b=some q:=hq
 grind
theorem zrk (k:Nat) (t:TypeId) (kk:Nat) (hn:(hget H k).isNone=true) (h:V P n Q ks pos env A ((k,.row t kk (.slice none 0 0) 0 [])::H) Bs):V P n Q ks pos env A H Bs:=by
 rw[zwF]at hn;exact fun hA w hI=>h (hA.new hn) w (hI.new (Keep.refl _ w) k (qq w t kk) trivial (fun _ h=>h) (fun q hq=>by cases hq))
theorem zrl (k kb:Nat) (hu:P.underlying t=some (.slice e)) (he:(P.info? e).map (fun i=>(i.zero,i.size,i.bytes))=some (some z,kk,by')) (da:z.cells.size=kk) (db:0<kk)
  (hn:(Nat.blt d n,gd ops env g,hget H k,ev env x,hget H kb,ev env y,ones cs)=(true,some true,some (.row e kk v m xs),some v,some (.own b cs tb),some (.slice (some ⟨b,0,none⟩) j c),true)) (hl:cs.length=j*kk) (hY:m+j<=9223372036854775807) (dc:(m+j)*by'<=140737488355328)
  (h:∀ u,V P n Q ks (.o ops rest) ((d,u)::env) ((d,none)::A) (hset H k (.row e kk u (m+j) (xs++cs))) Bs):V P n Q ks (.o ops (⟨some d,.call ⟨.builtin .append,#[x,y],#[t,t]⟩,ty,ps,aft,g⟩::rest)) env A H Bs:=by
 simp only[Prod.mk.injEq]at hn;obtain⟨h1,h2,h3,h4,h5,h6,h7⟩:=hn;refine fun hA w hI=>G.mem h1 h2 (M.append hu he da db h4 h6 (hI.at k h3) hl (Cells.add (Blk.cells (hI.at kb h5))) (zdk h7) hY dc) ?_;rintro u w' ⟨ho,hf,hk,_⟩;refine h u (TgOk.none (hA.res h3 ?_)) w' (hI.set h3 hk ho trivial (fun _ h=>h) (fun q hq=>⟨?_,xp ho hq⟩))
 . simp[qA,h3]
 rcases hf with hf | ⟨g',hf,dg⟩
 . exact .inl x9
 have hq:u.ownBlock=some q:=hq
 grind
theorem zrn (k:Nat) (hn:hget H k=some (.row t kk v m xs)) (hm:0<m) (h:∀ b c,v=.slice (some ⟨b,0,none⟩) m c->m<=c->V P n Q ks pos env A H Bs):V P n Q ks pos env A H Bs:=by
 intro hA w hI;have ho:w.ownsRow 0 t kk v m xs:=hI.at k hn;rcases ho.2 with⟨_,hY⟩ | ⟨b,cap,cur,hv,_,_,hc,_⟩
 . omega
 exact h b cap hv hc hA w hI
theorem xw (h:w.ownsRow 0 t kk (.slice (some ⟨b,0,none⟩) m c) m xs):∃ sp,Blk w b (xs++sp) t/\m<=c/\c<=9223372036854775807/\(xs++sp).length=c*kk:=by
 obtain⟨h1,h2⟩:=h;rcases h2 with⟨h2,_⟩ | ⟨b',cap,cur,hv,_,hg,hc,da,db,hY⟩
 . cases h2
 cases hv;refine⟨cur.toList.drop (m*kk),?_,hc,by simpa[maxLen] using da,?_⟩
 .
  rw[<- hY,zwa];unfold Blk;omega
 grind
theorem zrp (k:Nat) (j:Nat) (ht:∀ w,(isAgg tl).run P w=.ok false w) (hn:(Nat.blt d n,gd ops env g,hget H k,ev env x)=(true,some true,some (.row t 1 (.slice (some ⟨b,0,none⟩) m c) m xs),some (.pointer (some ⟨b,o,none⟩)))) (hj:o=j) (hv:xs[j]?=some v)
  (h:V P n Q ks (.o ops rest) ((d,v)::env) ((d,none)::A) H Bs):V P n Q ks (.o ops (⟨some d,.load tl x,ty,ps,aft,g⟩::rest)) env A H Bs:=by
 simp only[Prod.mk.injEq]at hn;subst hj;refine fun hA w hI=>zqG hn.1 hn.2.1 (R.load ht hn.2.2.2 ?_) (h hA.none w hI);obtain⟨sp,hB,_⟩:=xw (show w.ownsRow 0 t 1 _ m xs from hI.at k hn.2.2.1);have:=hB.cells o v (by rw[ztN (ztB.1 hv).1];exact hv);simpa using this
theorem V.rlQ (k:Nat) (j:Nat) (ht:∀ w,(isAgg tl).run P w=.ok false w) (hn:(Nat.blt d n,gd ops env g,hget H k,ev env x)=(true,some true,some (.row t 1 (.slice (some ⟨b,0,none⟩) m c) m xs),some (.pointer (some ⟨b,o,none⟩)))) (hj:o=j) (hv:xs[j]?=some v)
  (h:V P n Q ks (.q ops rest) ((d,v)::env) ((d,none)::A) H Bs):V P n Q ks (.q ops (⟨some d,.load tl x,ty,ps,aft,g⟩::rest)) env A H Bs:=by
 simp only[Prod.mk.injEq]at hn;subst hj;refine fun hA w hI=>zqJ hn.1 hn.2.1 (fun w1 hY=>R.load ht hn.2.2.2 ?_) (h hA.none w hI);obtain⟨sp,hB,_⟩:=xw (show w1.ownsRow 0 t 1 _ m xs from (hI.ext hY).at k hn.2.2.1);have:=hB.cells o v (by rw[ztN (ztB.1 hv).1];exact hv);simpa using this
theorem zrq (k:Nat) (j:Nat) (hs:∀ w,(sizeOf tl).run P w=.ok 1 w) (hn:(gd ops env g,hget H k,ev env x,ev env y,one v)=(some true,some (.row t 1 (.slice (some ⟨b,0,none⟩) m c) m xs),some (.pointer (some ⟨b,o,none⟩)),some v,true)) (hj:o=j) (hl:j<xs.length)
  (h:V P n Q ks (.o ops rest) env A (hset H k (.row t 1 (.slice (some ⟨b,0,none⟩) m c) m (xs.set j v))) Bs):V P n Q ks (.o ops (⟨none,.store tl x y,ty,ps,aft,g⟩::rest)) env A H Bs:=by
 simp only[Prod.mk.injEq]at hn;obtain⟨h1,h2,h3,h4,h5⟩:=hn;subst hj;intro hA w hI;have ho:w.ownsRow 0 t 1 (.slice (some ⟨b,0,none⟩) m c) m xs:=hI.at k h2;obtain⟨sp,hB,hc,da,db⟩:=xw ho;have dc:xs.length=m:=by have:=ho.1;omega
 obtain⟨h6,h7⟩:=xU h5;refine zpT h1 (M.store hs h3 h4 h6 h7 hB tO) ?_;rintro w' ⟨dg,hY,hk⟩;refine h (hA.res h2 (by simp[qA,h2])) w' (hI.set h2 (hk.mono Ja) ?_ trivial (fun _ h=>h) (fun q hq=>⟨.inl hq,?_⟩))
 .
  have:=zG (k:=1) (n:=m) (cap:=c) hY hc da tD;rw[zw3 _ _ hl,zwy,zwb tD,zwc tD]at this;exact this
 have hq:some b=some q:=hq;cases hq;exact hY.lt
theorem zrs {xs:Array Operand} (hf:∀ args w,(callFunc f args).run P w=.ok (.enter f args) w) (hn:(Nat.blt d n,gd ops env g,qM env xs.toList)=(true,some true,some vs))
  (hc:∀ w,VI Bs H w->Calls P f vs.toArray w (Ret fun r w'=>r=v/\Ext w w')) (h:V P n Q ks (.o ops rest) ((d,v)::env) ((d,none)::A) H Bs):V P n Q ks (.o ops (⟨some d,.call ⟨.value (.func f),xs,ts⟩,ty,ps,aft,g⟩::rest)) env A H Bs:=by
 refine fun hA w hI=>G.call hn hf (hc w hI) ?_;rintro _ w' ⟨rfl,hk⟩;exact h hA.none w' (hI.ext hk)
theorem zru {xs:Array Operand} (hf:∀ args w,(callFunc f args).run P w=.ok (.enter f args) w) (hn:(Nat.blt d n,gd ops env g,qM env xs.toList)=(true,some true,some vs))
  (hc:∀ w,VI Bs H w->Calls P f vs.toArray w (Ret fun r w'=>Φ r w w'/\Ext w w'))
  (h:∀ r w w',VI Bs H w->Ext w w'->Φ r w w'->(∀ q,HS H q->q<w.heap.size)->V P n Q ks (.o ops rest) ((d,r)::env) ((d,none)::A) H ((w',HS H)::Bs)):V P n Q ks (.o ops (⟨some d,.call ⟨.value (.func f),xs,ts⟩,ty,ps,aft,g⟩::rest)) env A H Bs:=by
 refine fun hA w hI=>G.call hn hf (hc w hI) ?_;rintro r w' ⟨hP,hk⟩;exact h r w w' hI hk hP (fun q ⟨x,hx,hq⟩=>hI.low x hx q hq) hA.none w' (hI.ext hk).here
theorem zrx (k:Nat) {xs:Array Operand} {e:HE} {Φ:Value->α->Prop} (hf:∀ args w,(callFunc f args).run P w=.ok (.enter f args) w) (hn:(Nat.blt d n,gd ops env g,qM env xs.toList,hget H k,qA H k)=(true,some true,some vs,some e,none))
  (hE:∀ x,(E x).loc/\∀ b,¬ (E x).fz b) (hc:∀ w,VI Bs H w->Calls P f vs.toArray w (Ret fun r w'=>∃ x,Φ r x/\(E x).holds w'/\Keep e.S w w'/\∀ q,(E x).S q->(e.S q\/w.heap.size<=q)/\q<w'.heap.size))
  (h:∀ r x,Φ r x->V P n Q ks (.o ops rest) ((d,r)::env) ((d,none)::A) (hset H k (E x)) Bs):V P n Q ks (.o ops (⟨some d,.call ⟨.value (.func f),xs,ts⟩,ty,ps,aft,g⟩::rest)) env A H Bs:=by
 simp only[Prod.mk.injEq]at hn;refine fun hA w hI=>G.call tD hf (hc w hI) ?_;rintro r w' ⟨x,hP,hh,hk,hS⟩;exact h r x hP (TgOk.none (hA.res hn.2.2.2.1 hn.2.2.2.2)) w' (hI.set hn.2.2.2.1 hk hh (hE x).1 (hE x).2 hS)
theorem zq2 {l:List Oper} (hm:P.follows .mixedOrders=true) (hB:Region.lexB .any l.toArray=true) (h:V P n Q ks (.q l.toArray l) env A H Bs):V P n Q ks (.c (.region id l.toArray true)) env A H Bs:=fun hA w hI=>zq1 hm hB (h hA w hI)
theorem V.loop (env':σ->Env) (A':Tgs) (H':σ->Hp) (I:σ->Prop) (μ:σ->Nat) {c:Code} (s₀:σ) (h₀:Sub (env' s₀) env) (hH:Has (H' s₀) H) (hu:∀ s,qd ((H' s).map (·.1))=true) (hY:∀ s,A'.map (fun p=>zcJ (env' s) p.1)=A'.map (fun p=>jc (H' s) p.2)/\A'.all (fun p=>(jc (H' s) p.2).isSome)=true) (hI:I s₀)
  (h:∀ s,I s->V P n Q (.k (zmF n env' (fun s w=>I s/\VI Bs (H' s) w) μ (μ s))::ks) (.c c) (env' s) A' (H' s) Bs):V P n Q ks (.c (.loop c)) env A H Bs :=
 fun _ _ hw=>G.loop env' (fun s w=>I s/\VI Bs (H' s) w) μ s₀ h₀ ⟨hI,hw.pick hH (hu s₀)⟩ (fun s w' hs=>h s hs.1 (TgOk.of (hY s).1 (hY s).2) w' hs.2)
theorem V.back {env':σ->Env} {H':σ->Hp} {I:σ->Prop} {μ:σ->Nat} {Bs0:zq} (s:σ) (h0:Sub (env' s) env) (hH:Has (H' s) H) (hI:I s) (hm:μ s<m) (j:Nat) (hB:Bs.drop j=Bs0) (hu:qd ((H' s).map (·.1))=true) :
  V P n Q (.k (zmF n env' (fun s w=>I s/\VI Bs0 (H' s) w) μ m)::ks) (.e .normal) env A H Bs:=by
 subst hB;exact fun _ w hw=>G.back s h0 ⟨hI,(hw.drop j).pick hH hu⟩ hm
theorem V.cut (env':σ->Env) (A':Tgs) (H':σ->Hp) (I:σ->Prop) {c:Code} (hY:∀ s,A'.map (fun p=>zcJ (env' s) p.1)=A'.map (fun p=>jc (H' s) p.2)/\A'.all (fun p=>(jc (H' s) p.2).isSome)=true)
  (h:V P n Q (.k (zik n env' (fun s w=>I s/\VI Bs (H' s) w))::ks) (.c c) env A H Bs) (hk:∀ s,I s->V P n Q ks (.e .normal) (env' s) A' (H' s) Bs):V P n Q ks (.c c) env A H Bs :=
 fun hA w hw=>zpf env' (fun s w=>I s/\VI Bs (H' s) w) (h hA w hw) (fun s w' hs=>hk s hs.1 (TgOk.of (hY s).1 (hY s).2) w' hs.2)
theorem zpi {env':σ->Env} {H':σ->Hp} {I:σ->Prop} {Bs0:zq} (s:σ) (h0:Sub (env' s) env) (hH:Has (H' s) H) (hI:I s) (j:Nat) (hB:Bs.drop j=Bs0) (hu:qd ((H' s).map (·.1))=true) :
  V P n Q (.k (zik n env' (fun s w=>I s/\VI Bs0 (H' s) w))::ks) (.e .normal) env A H Bs:=by
 subst hB;exact fun _ w hw=>zph s h0 ⟨hI,(hw.drop j).pick hH hu⟩
end
section
variable {R:Ending->World->Prop} {n:Nat} {A:Tgs} {Bs:zq}
theorem zpl {t:Tmp} (h:fn.results=#[.tmp t]) (hv:get env t=some v) (hR:∀ w,VI Bs H w->R (.returned v) w):V P n (bodyPost P fn R) [] (.e .ret) env A H Bs:=fun _ w hw=>zpk h hv (hR w hw)
theorem zrz {t:Tmp} {u:Value} {W:World} (j:Nat) (h:fn.results=#[.tmp t]) (hv:get env t=some v) (hj:Bs[j]?=some (W,fun _=>False)) (he:v=u):V P n (bodyPost P fn (Ret fun r w'=>r=u/\Ext W w')) [] (.e .ret) env A H Bs :=
 zpl h hv fun _ hI=>⟨_,rfl,he,(hI.base _ (zto hj)).1⟩
theorem zpo {t:Tmp} {x:Value} (h:fn.results=#[.tmp t,.tmp u]) (hv:get env t=some v) (hx:get env u=some x) (hR:∀ w,VI Bs H w->R (.returned (.tuple #[v,x])) w):V P n (bodyPost P fn R) [] (.e .ret) env A H Bs:=fun _ w hw=>zpn h hv hx (hR w hw)
theorem zpr {t s:Tmp} {x y:Value} (h:fn.results=#[.tmp t,.tmp u,.tmp s]) (hv:get env t=some v) (hx:get env u=some x) (hy:get env s=some y) (hR:∀ w,VI Bs H w->R (.returned (.tuple #[v,x,y])) w):V P n (bodyPost P fn R) [] (.e .ret) env A H Bs:=fun _ w hw=>zpq h hv hx hy (hR w hw)
theorem zb7 {p:Tmp} {ty:TypeId} {off s:Nat} {l:List Value} (hA:TgOk A env H) (hw:VI Bs H w) (hp:tgt A p=some (k,off)) (hc:cellAt H k=some cs) (hs:zmm s off cs=some l) (ht:∀ w,(isAgg ty).run P w=.ok true w) (hz:∀ w,(sizeOf ty).run P w=.ok s w) :
  ∃ a,get env p=some (.pointer (some a))/\(loadVar ty a).run P w=.ok (.agg l.toArray) w:=by
 obtain⟨b,o,h1,h2⟩:=zbv (x:=.tmp p) hA hw hp hc;obtain⟨h3,h4⟩:=zdj hs;refine⟨_,h1,kH ht hz tD (h2.part off ?_)⟩;intro j u hu;rw[h3,ztT]at hu;split at hu
 . rw[zvc]at hu;exact hu
 cases hu
theorem zpu {p:Tmp} {ty:TypeId} {off s:Nat} {l:List Value} (h:fn.results=#[.cell p ty]) (ht:∀ w,(isAgg ty).run P w=.ok true w) (hz:∀ w,(sizeOf ty).run P w=.ok s w) (hn:tgt A p=some (k,off)) (hc:cellAt H k=some cs) (hs:zmm s off cs=some l) (hR:∀ w,VI Bs H w->R (.returned (.agg l.toArray)) w):V P n (bodyPost P fn R) [] (.e .ret) env A H Bs:=fun hA w hw=>by
 obtain⟨a,h1,h2⟩:=zb7 hA hw hn hc hs ht hz;exact zpt h h1 h2 (hR w hw)
theorem zpx {p t:Tmp} {ty:TypeId} {off s:Nat} {l:List Value} {x:Value} (h:fn.results=#[.cell p ty,.tmp t]) (ht:∀ w,(isAgg ty).run P w=.ok true w) (hz:∀ w,(sizeOf ty).run P w=.ok s w) (hn:tgt A p=some (k,off)) (hc:cellAt H k=some cs) (hs:zmm s off cs=some l) (hx:get env t=some x) (hR:∀ w,VI Bs H w->R (.returned (.tuple #[.agg l.toArray,x])) w):V P n (bodyPost P fn R) [] (.e .ret) env A H Bs:=fun hA w hw=>by
 obtain⟨a,h1,h2⟩:=zb7 hA hw hn hc hs ht hz;exact zpw h h1 h2 hx (hR w hw)
theorem zpA (h:fn.results=#[]) (hR:∀ w,VI Bs H w->R (.returned (.tuple #[])) w):V P n (bodyPost P fn R) [] (.e .normal) env A H Bs:=fun _ w hw=>zpz h (hR w hw)
end
def VD (P:Program) (n:Fm) (Q:Exit->Act->World->Prop) (ks:List Fr) (ops:Array Oper) (Hs:Hp) (B0:zq) (L:List Nat) (fuel:Nat) (listed:Array Bool) (env:Env) (A:Tgs) (H:Hp) (Bs:zq):Prop :=
 Has Hs H->TgOk A env H->∀ w,VI Bs H w->WD P n ops (QK P Q ks) (VI B0 Hs) L fuel listed env w
section
variable {T:Tab} {Z:Szs} {n:Fm} {ks:List Fr} {env':Env} {A A':Tgs} {Hs:Hp} {Bs B0:zq}
theorem zq5 {l:List Oper} (Hs:Hp) (L:List Nat) (hm:P.follows .mixedOrders=true) (hH:Has Hs H) (h:VD P n Q ks l.toArray Hs Bs L l.length (Array.replicate l.length false) env A H Bs):V P n Q ks (.c (.region id l.toArray true)) env A H Bs :=
 fun hA _ hI=>zq4 (VI Bs Hs) L hm (fun w' hY _=>h hH hA w' (hI.ext hY))
theorem VD.done (hr:Region.ready .any ops listed=[]) (h:V P n Q ks (.e .normal) env A H Bs):VD P n Q ks ops Hs B0 L fuel listed env A H Bs:=fun _ hA w hI=>G.done hr (h hA w hI) fuel
def zcL:Op->Bool
 | .load _ _=>true
 | _=>false
def zdl (ops:Array Oper) (L:List Nat):List Nat->Array Bool->Bool
 | [],_=>true
 | i::r,listed=>Region.noSelect ops&&Region.free .any ops listed i&&(Region.ready .any ops listed).contains i&&(L.all (qZ .any ops i)&&!L.contains i || !(match ops[i]? with
   | some o=>zcL o.op
   | none=>true))&&zdl ops L r (listed.setIfInBounds i true)
def zhp (T:Tab) (Z:Szs) (n:Nat) (ops:Array Oper) (Hs:Hp):List Nat->Option Prop->Env->Tgs->Option (Option Prop × Env × Tgs)
 | [],ob,env,A=>some (ob,env,A)
 | i::r,ob,env,A=>match nth ops.toList i with
  | some ⟨some d,op,_,_,_,g⟩=>(match Nat.blt d n with
   | true=>(match gd ops env g with
    | some true=>(match opV T Z env A Hs op with
     | some (none,v,g)=>zhp T Z n ops Hs r ob ((d,v)::env) ((d,g)::A)
     | some (some p,v,g)=>zhp T Z n ops Hs r (znQ ob p) ((d,v)::env) ((d,g)::A)
     | none=>none)
    | some false=>zhp T Z n ops Hs r ob ((d,undef)::env) ((d,none)::A)
    | none=>none)
   | false=>none)
  | _=>none
theorem zet {op:Op} {g:Option (Nat × Nat)} (hl:zcL op=false) (h:opV T Z env A H op=some (ob,v,g)):opV T Z env A H' op=some (ob,v,g):=by
 unfold opV at h ⊢;split at h
 . cases hl
 all_goals exact h
theorem zmo {op:Op} {g:Option (Nat × Nat)} (hl:zcL op=false) (h:opV T Z env A H op=some (ob,v,g)):pv T env op=some (ob,v):=by
 unfold opV at h;split at h
 . cases hl
 . grind
 . grind
 .
  split at h
  .
   rename_i hx;simp only[pv,hx]
   grind
  cases h
 .
  split at h
  .
   rename_i hx;simp only[pv,hx]
   grind
  cases h
 . grind
 grind
theorem zkD (hZ:zqv P Z) {g:Option (Nat × Nat)} (h:opV T Z env A Hs (.load t x)=some (ob,v,g)) (hA:TgOk A env H) (hH:Has Hs H) :
  ob=none/\g=none/\∀ w,VI B0 Hs w->∀ (dst:Option Tmp) (ty:TypeId) (ps:String) (aft:Array Edge) (gg:Option (Nat × Bool)),yx P ⟨dst,.load t x,ty,ps,aft,gg⟩ env w v w:=by
 have key:∀ {k off:Nat} {cs:List Value} {w:World},VI B0 Hs w->tgo A x=some (k,off)->cellAt Hs k=some cs->∃ b o,ev env x=some (.pointer (some ⟨b,o+off,none⟩))/\Cells w b o cs:=by
  intro k off cs w hI hx hc;cases x with
  | tmp t =>
   obtain⟨b,o,h1,h2⟩:=hA t k off hx;refine⟨b,o,h2,?_⟩;unfold cellAt at hc;cases hg:hget Hs k with
   | none=>rw[hg]at hc;cases hc
   | some e =>
    rw[hg]at hc;have h3:=hH _ (zm hg);unfold qA at h1;rw[h3]at h1;have hh:=hI.at k hg;cases e with
    | own b' cs' e'=>cases h1;cases hc;exact Blk.cells hh
    | fro b' o' cs'=>cases h1;cases hc;exact hh.2
    | _=>cases hc
  | _=>cases hx
 simp only[opV]at h;split at h
 .
  rename_i k off hx;split at h
  .
   rename_i cs hc;split at h
   .
    rename_i hz;split at h
    .
     rename_i hn;cases h;refine⟨rfl,rfl,fun w hI dst ty ps aft gg=>?_⟩;obtain⟨b,o,h1,h2⟩:=key hI hx hc;rw[kK]at hn;exact R.load (hZ _ _ hz).1 h1 (h2 off _ hn)
    cases h
   .
    rename_i s hz;split at h
    .
     rename_i l hl;cases h;refine⟨rfl,rfl,fun w hI dst ty ps aft gg=>?_⟩;obtain⟨b,o,h1,h2⟩:=key hI hx hc;obtain⟨h3,h4⟩:=zdj hl;refine zpJ (cs:=l) (hZ _ _ hz).1 (hZ _ _ hz).2 h1 (by rw[h3,ztR,zvq];omega) (h2.part off ?_);intro j u hu;rw[h3,ztT]at hu;split at hu
     . rw[zvc]at hu;exact hu
     cases hu
    cases h
   cases h
  cases h
 cases h
theorem zbw (hT:zqu P T) (hZ:zqv P Z) (hB:∀ w,VI Bs H w->VI B0 Hs w):∀ (is:List Nat) (ob ob':Option Prop) (listed:Array Bool) (env:Env) (A:Tgs),zdl ops L is listed=true->zhp T Z n ops Hs is ob env A=some (ob',env',A')->Ask ob' ->
  Ask ob/\(VD P n Q ks ops Hs B0 L fuel (zek is listed) env' A' H Bs->VD P n Q ks ops Hs B0 L (addN is fuel) listed env A H Bs)
 | [],ob,ob',listed,env,A,_,h,ha=>by cases h;exact⟨ha,fun h=>h⟩
 | i::r,ob,ob',listed,env,A,hc,h,ha=>by
  unfold zdl at hc;rw[zu8,zu8]at hc;obtain⟨⟨da,hY⟩,db⟩:=hc;unfold zhp at h;split at h
  .
   rename_i d op ty ps aft g hj;have hi:ops[i]?=some ⟨some d,op,ty,ps,aft,g⟩:=by rw[kK]at hj;simpa using hj
   have take:∀ {ob1:Option Prop} {v:Value} {g1:Option (Nat × Nat)},Nat.blt d n=true->gd ops env g=some true->opV T Z env A Hs op=some (ob1,v,g1)->Ask ob1->VD P n Q ks ops Hs B0 L (addN r fuel) (listed.setIfInBounds i true) ((d,v)::env) ((d,g1)::A) H Bs->VD P n Q ks ops Hs B0 L (addN r fuel+1) listed env A H Bs:=by
    intro ob1 v g1 hn hg hv dc hr hH hA w hI;cases hl:zcL op with
    | true =>
     cases op with
     | load t x =>
      obtain⟨e1,e2,h3⟩:=zkD (B0:=B0) hZ hv hA hH;subst e1;subst e2;rw[hi]at hY;simp only[zcL,Bool.not_true,zuh,zu8]at hY;refine zqt i hi ?_ O hn (hB w hI) (.inl ⟨qf hg,fun w' dg=>h3 w' dg _ _ _ _ _⟩) (hr hH hA.none w hI);rw[da,hY.1,hY.2];rfl
     | _=>cases hl
    | false =>
     have dh:=zet (H':=H) hl hv;obtain⟨h1,_⟩:=zcK (w:=w) (Bs:=Bs) hT hZ dh hA;refine zqU i hi da O hn (.inl ⟨qf hg,fun w' nn a dl=>?_⟩) (hr hH (h1 _) w hI);exact zbq hT (zmo hl hv) dc nn a dl
   split at h
   .
    rename_i hn;split at h
    .
     rename_i hg;split at h
     .
      rename_i hv;obtain⟨h2,h3⟩:=zbw hT hZ hB r _ _ _ _ _ db h ha;exact⟨h2,fun hr=>take hn hg hv trivial (h3 hr)⟩
     .
      rename_i hv;obtain⟨h2,h3⟩:=zbw hT hZ hB r _ _ _ _ _ db h ha;obtain⟨h4,h5⟩:=h2.of_and;exact⟨h4,fun hr=>take hn hg hv h5 (h3 hr)⟩
     cases h
    .
     rename_i hg;obtain⟨h2,h3⟩:=zbw hT hZ hB r _ _ _ _ _ db h ha;exact⟨h2,fun hr hH hA w hI=>zqU i hi da O hn (.inr ⟨qf hg,rfl⟩) (h3 hr hH hA.none w hI)⟩
    cases h
   cases h
  cases h
theorem VD.ps (hT:zqu P T) (hZ:zqv P Z) (is:List Nat) (j:Nat) (hc:zdl ops L is listed=true) (hB:Bs.drop j=B0) (hv:zhp T Z n ops Hs is none env A=some (none,env',A')) (hY:qd (Hs.map (·.1))=true) (h:VD P n Q ks ops Hs B0 L fuel (zek is listed) env' A' H Bs):VD P n Q ks ops Hs B0 L (addN is fuel) listed env A H Bs:=by
 subst hB;intro hH;exact(zbw hT hZ (fun w hw=>(hw.drop j).pick hH hY) is _ _ _ _ _ hc hv trivial).2 h hH
theorem zqZ (hT:zqu P T) (hZ:zqv P Z) (is:List Nat) (j:Nat) (hc:zdl ops L is listed=true) (hB:Bs.drop j=B0) (hv:zhp T Z n ops Hs is none env A=some (some p,env',A')) (hY:qd (Hs.map (·.1))=true) (hp:p) (h:VD P n Q ks ops Hs B0 L fuel (zek is listed) env' A' H Bs):VD P n Q ks ops Hs B0 L (addN is fuel) listed env A H Bs:=by
 subst hB;intro hH;exact(zbw hT hZ (fun w hw=>(hw.drop j).pick hH hY) is _ _ _ _ _ hc hv hp).2 h hH
theorem VD.sp (d:Nat) [Decidable p] (h:get env d=some (.bool (decide p))) (h1:p->VD P n Q ks ops Hs B0 L fuel listed ((d,.bool true)::env) A H Bs) (h2:¬ p->VD P n Q ks ops Hs B0 L fuel listed ((d,.bool false)::env) A H Bs):VD P n Q ks ops Hs B0 L fuel listed env A H Bs :=
 fun hH hA w hI=>WD.sp d h (fun hp=>h1 hp hH (hA.lit h tD) w hI) (fun hp=>h2 hp hH (hA.lit h tD) w hI)
theorem VD.sb (d:Nat) {b:Bool} (h:get env d=some (.bool b)) (h1:b=true->VD P n Q ks ops Hs B0 L fuel listed ((d,.bool true)::env) A H Bs) (h2:b=false->VD P n Q ks ops Hs B0 L fuel listed ((d,.bool false)::env) A H Bs):VD P n Q ks ops Hs B0 L fuel listed env A H Bs :=
 fun hH hA w hI=>WD.sb d h (fun hp=>h1 hp hH (hA.lit h tD) w hI) (fun hp=>h2 hp hH (hA.lit h tD) w hI)
theorem zrh (i k:Nat) {ty:TypeId} {ps:String} {l:Nat} {ii:Int} (hu:∀ w,(underlying t).run P w=.ok (.slice e) w) (hs:∀ w,(sizeOf e).run P w=.ok kk w)
  (hi:ops[i]?=some ⟨some d,.indexAddr t x y,ty,ps,aft,g⟩) (hc:zdl ops L [i] listed=true)
  (hn:(Nat.blt d n,gd ops env g,ev env x,ev env y)=(true,some true,some (.slice ao l c),some (.int kd ii))) (hY:ao=some ⟨b,o,none⟩) (h0:0<=ii/\ii<l) (j:Nat) (hj:ii=(j:Int)) (hk:hget H k=some (.fro b (o+j*kk) cs))
  (h:VD P n Q ks ops Hs B0 L fuel (listed.setIfInBounds i true) ((d,.pointer (some ⟨b,o+j*kk,none⟩))::env) ((d,some (k,0))::A) H Bs):VD P n Q ks ops Hs B0 L (fuel+1) listed env A H Bs:=by
 simp only[Prod.mk.injEq]at hn;subst hj;unfold zdl at hc;rw[zu8,zu8]at hc;refine fun hH hA w hI=>zqU i hi hc.1.1 O hn.1 (.inl ⟨qf hn.2.1,fun w' nn a da=>zpH hu hs hn.2.2.1 hn.2.2.2 hY h0 nn a da⟩) (h hH (hA.push (fun k' off hg=>?_)) w hI);cases hg;exact⟨b,o+j*kk,by simp[qA,hk],rfl⟩
theorem zrA (i:Nat) {op:Op} {ty:TypeId} {ps:String} (hi:ops[i]?=some ⟨some d,op,ty,ps,aft,g⟩) (hr:Region.ready .any ops listed=[i]) (hn:Nat.blt d n=true) (hg:gd ops env g=some true) {R:Value->World->Prop}
  (hm:Does P ⟨some d,op,ty,ps,aft,g⟩ env w R) (h:∀ v w',R v w'->VI B0 Hs w'/\WD P n ops (QK P Q ks) (VI B0 Hs) L fuel (listed.setIfInBounds i true) ((d,v)::env) w'):WD P n ops (QK P Q ks) (VI B0 Hs) L (fuel+1) listed env w:=by
 intro a ha;refine⟨fun h0=>tD,fun k hk=>?_⟩;rw[hr]at hk;have:k=i:=tD;subst this;unfold wpOp;simp only[hi];rw[zty (qf hg a ha)];refine .inl ?_;unfold Oper.wp;rcases hm with⟨v,w',hY,hR⟩ | ⟨f,args,hm,hc⟩
 .
  rw[hY n a ha,Oper.upon_value];exact iW
 rw[hm n a ha,Oper.upon_enter];refine hc.mono ?_;rintro e w' ⟨v,rfl,hR⟩;exact iW
theorem zrD (i:Nat) {op:Op} {ty:TypeId} {ps:String} (hi:ops[i]?=some ⟨none,op,ty,ps,aft,g⟩) (hr:Region.ready .any ops listed=[i]) (hg:gd ops env g=some true) {R:World->Prop}
  (hm:xY P ⟨none,op,ty,ps,aft,g⟩ env w R) (h:∀ w',R w'->VI B0 Hs w'/\WD P n ops (QK P Q ks) (VI B0 Hs) L fuel (listed.setIfInBounds i true) env w'):WD P n ops (QK P Q ks) (VI B0 Hs) L (fuel+1) listed env w:=by
 intro a ha;refine⟨fun h0=>tD,fun k hk=>?_⟩;rw[hr]at hk;have:k=i:=tD;subst this;unfold wpOp;simp only[hi];rw[zty (qf hg a ha)];refine .inl ?_;obtain⟨w',hY,hR⟩:=hm;unfold Oper.wp;rw[hY n a ha,Oper.upon_skip];exact⟨fun _ _=>(h w' hR).1,(h w' hR).2 _ ha.put0⟩
theorem Has.new {e:HE} (h:Has Hs H) (hn:hget H k=none):Has Hs ((k,e)::H):=fun x hx=>by
 have h1:=h x hx;simp only[hget];cases hb:Nat.beq k x.1 with
 | true=>rw[<- ztu hb,hn]at h1;cases h1
 | false=>exact h1
theorem Has.set {e e':HE} (h:Has Hs H) (hg:hget H k=some e) (hf:qr k (Hs.map (·.1))=true):Has Hs (hset H k e'):=fun x hx=>by
 rw[jS hg,zbu hf x.1 (zvI.2 ⟨x,hx,rfl⟩)];exact h x hx
section
variable {op:Op} {ty:TypeId} {ps:String}
theorem zrc (i k j:Nat) (hi:ops[i]?=some ⟨some d,op,ty,ps,aft,g⟩) (hr:Region.ready .any ops listed=[i]) (hn:(Nat.blt d n,gd ops env g,(hget H k).isNone,qd (Hs.map (·.1)))=(true,some true,true,true)) (hB:Bs.drop j=B0)
  (hm:∀ w,VI Bs H w->yM P ⟨some d,op,ty,ps,aft,g⟩ env w (fun r w'=>∃ b,r=.pointer (some ⟨b,0,none⟩)/\New w cs e b w'))
  (h:∀ b,VD P n Q ks ops Hs B0 L fuel (listed.setIfInBounds i true) ((d,.pointer (some ⟨b,0,none⟩))::env) ((d,some (k,0))::A) ((k,.own b cs e)::H) Bs):VD P n Q ks ops Hs B0 L (fuel+1) listed env A H Bs:=by
 simp only[Prod.mk.injEq,zwF]at hn;subst hB;refine fun hH hA w hI=>zrA i hi hr hn.1 hn.2.1 (.inl (hm w hI)) ?_;rintro _ w' ⟨b,rfl,hb,hs,hB,hk⟩;have hY:VI Bs ((k,.own b cs e)::H) w':=hI.new hk k hB trivial (fun _ h=>h) JE;have da:Has Hs ((k,.own b cs e)::H):=hH.new hn.2.2.1;refine⟨(hY.drop j).pick da hn.2.2.2,h b da ((hA.new hn.2.2.1).push (fun k' off hg=>?_)) w' hY⟩;cases hg;exact Jf
theorem zra (i k j:Nat) {u:Nat->Value} (hi:ops[i]?=some ⟨some d,op,ty,ps,aft,g⟩) (hr:Region.ready .any ops listed=[i]) (hn:(Nat.blt d n,gd ops env g,(hget H k).isNone,qd (Hs.map (·.1)))=(true,some true,true,true)) (hB:Bs.drop j=B0)
  (hm:∀ w,VI Bs H w->yM P ⟨some d,op,ty,ps,aft,g⟩ env w (fun r w'=>∃ b,r=u b/\New w cs e b w'))
  (h:∀ b,VD P n Q ks ops Hs B0 L fuel (listed.setIfInBounds i true) ((d,u b)::env) ((d,none)::A) ((k,.own b cs e)::H) Bs):VD P n Q ks ops Hs B0 L (fuel+1) listed env A H Bs:=by
 simp only[Prod.mk.injEq,zwF]at hn;subst hB;refine fun hH hA w hI=>zrA i hi hr hn.1 hn.2.1 (.inl (hm w hI)) ?_;rintro _ w' ⟨b,rfl,hb,hs,hB,hk⟩;have hY:VI Bs ((k,.own b cs e)::H) w':=hI.new hk k hB trivial (fun _ h=>h) JE;have da:Has Hs ((k,.own b cs e)::H):=hH.new hn.2.2.1;exact⟨(hY.drop j).pick da hn.2.2.2,h b da (TgOk.none (hA.new hn.2.2.1)) w' hY⟩
theorem VD.st (i j:Nat) (hZ:zqv P Z) (hi:ops[i]?=some ⟨none,.store t x y,ty,ps,aft,g⟩) (hr:Region.ready .any ops listed=[i]) (hn:(gd ops env g,zaI Z env A H t x y,qd (Hs.map (·.1)))=(some true,some H',true)) (hB:Bs.drop j=B0) (hY:Hs.map (fun x=>hget H' x.1)=Hs.map (fun x=>some x.2))
  (h:VD P n Q ks ops Hs B0 L fuel (listed.setIfInBounds i true) env A H' Bs):VD P n Q ks ops Hs B0 L (fuel+1) listed env A H Bs:=by
 simp only[Prod.mk.injEq]at hn;subst hB;intro hH hA w hI;obtain⟨h1,h2⟩:=kM (w:=w) (Bs:=Bs) hZ hn.2.1 hA;refine zrD i hi hr hn.1 (h2 hI ty ps aft) (fun w' da=>⟨(da.drop j).pick (Has.of hY) hn.2.2,h (Has.of hY) h1 w' da⟩)
theorem zrt (i j:Nat) {xs:Array Operand} (hf:∀ args w,(callFunc f args).run P w=.ok (.enter f args) w) (hi:ops[i]?=some ⟨some d,.call ⟨.value (.func f),xs,ts⟩,ty,ps,aft,g⟩) (hr:Region.ready .any ops listed=[i]) (hn:(Nat.blt d n,gd ops env g,qM env xs.toList,qd (Hs.map (·.1)))=(true,some true,some vs,true)) (hB:Bs.drop j=B0)
  (hc:∀ w,VI Bs H w->Calls P f vs.toArray w (Ret fun r w'=>r=v/\Ext w w')) (h:VD P n Q ks ops Hs B0 L fuel (listed.setIfInBounds i true) ((d,v)::env) ((d,none)::A) H Bs):VD P n Q ks ops Hs B0 L (fuel+1) listed env A H Bs:=by
 simp only[Prod.mk.injEq]at hn;subst hB;refine fun hH hA w hI=>zrA i hi hr hn.1 hn.2.1 (.inr ⟨f,_,F.call hf (yr hn.2.2.1),hc w hI⟩) ?_;rintro _ w' ⟨rfl,hk⟩;exact⟨((hI.ext hk).drop j).pick hH hn.2.2.2,h hH hA.none w' (hI.ext hk)⟩
theorem zrv (i j:Nat) {xs:Array Operand} (hf:∀ args w,(callFunc f args).run P w=.ok (.enter f args) w) (hi:ops[i]?=some ⟨some d,.call ⟨.value (.func f),xs,ts⟩,ty,ps,aft,g⟩) (hr:Region.ready .any ops listed=[i]) (hn:(Nat.blt d n,gd ops env g,qM env xs.toList,qd (Hs.map (·.1)))=(true,some true,some vs,true)) (hB:Bs.drop j=B0)
  (hc:∀ w,VI Bs H w->Calls P f vs.toArray w (Ret fun r w'=>Φ r w w'/\Ext w w'))
  (h:∀ r w w',VI Bs H w->Ext w w'->Φ r w w'->(∀ q,HS H q->q<w.heap.size)->VD P n Q ks ops Hs B0 L fuel (listed.setIfInBounds i true) ((d,r)::env) ((d,none)::A) H ((w',HS H)::Bs)):VD P n Q ks ops Hs B0 L (fuel+1) listed env A H Bs:=by
 simp only[Prod.mk.injEq]at hn;subst hB;refine fun hH hA w hI=>zrA i hi hr hn.1 hn.2.1 (.inr ⟨f,_,F.call hf (yr hn.2.2.1),hc w hI⟩) ?_;rintro r w' ⟨hP,hk⟩;exact JG
theorem zry (i k j:Nat) {xs:Array Operand} {e:HE} {Φ:Value->α->Prop} (hf:∀ args w,(callFunc f args).run P w=.ok (.enter f args) w) (hi:ops[i]?=some ⟨some d,.call ⟨.value (.func f),xs,ts⟩,ty,ps,aft,g⟩) (hr:Region.ready .any ops listed=[i]) (hn:(Nat.blt d n,gd ops env g,qM env xs.toList,hget H k,qA H k,qd (Hs.map (·.1)),qr k (Hs.map (·.1)))=(true,some true,some vs,some e,none,true,true)) (hB:Bs.drop j=B0)
  (hE:∀ x,(E x).loc/\∀ b,¬ (E x).fz b) (hc:∀ w,VI Bs H w->Calls P f vs.toArray w (Ret fun r w'=>∃ x,Φ r x/\(E x).holds w'/\Keep e.S w w'/\∀ q,(E x).S q->(e.S q\/w.heap.size<=q)/\q<w'.heap.size))
  (h:∀ r x,Φ r x->VD P n Q ks ops Hs B0 L fuel (listed.setIfInBounds i true) ((d,r)::env) ((d,none)::A) (hset H k (E x)) Bs):VD P n Q ks ops Hs B0 L (fuel+1) listed env A H Bs:=by
 simp only[Prod.mk.injEq]at hn;subst hB;refine fun hH hA w hI=>zrA i hi hr hn.1 hn.2.1 (.inr ⟨f,_,F.call hf (yr hn.2.2.1),hc w hI⟩) ?_;rintro r w' ⟨x,hP,hh,hk,hS⟩;have hY:=hI.set hn.2.2.2.1 hk hh (hE x).1 (hE x).2 hS;have da:Has Hs (hset H k (E x)):=hH.set hn.2.2.2.1 hn.2.2.2.2.2.2;exact⟨(hY.drop j).pick da hn.2.2.2.2.2.1,h r x hP da (TgOk.none (hA.res hn.2.2.2.1 hn.2.2.2.2.1)) w' hY⟩
theorem zrm (i k kb j:Nat) {l:Nat} (hu:P.underlying t=some (.slice e)) (he:(P.info? e).map (fun i=>(i.zero,i.size,i.bytes))=some (some z,kk,by')) (dc:z.cells.size=kk) (dg:0<kk)
  (hi:ops[i]?=some ⟨some d,.call ⟨.builtin .append,#[x,y],#[t,t]⟩,ty,ps,aft,g⟩) (hr:Region.ready .any ops listed=[i]) (hB:Bs.drop j=B0)
  (hn:(Nat.blt d n,gd ops env g,hget H k,ev env x,hget H kb,ev env y,ones cs,qd (Hs.map (·.1)),qr k (Hs.map (·.1)))=(true,some true,some (.row e kk v m xs),some v,some (.own b cs tb),some (.slice (some ⟨b,0,none⟩) l c),true,true,true)) (hl:cs.length=l*kk) (hY:m+l<=9223372036854775807) (dh:(m+l)*by'<=140737488355328)
  (h:∀ u,VD P n Q ks ops Hs B0 L fuel (listed.setIfInBounds i true) ((d,u)::env) ((d,none)::A) (hset H k (.row e kk u (m+l) (xs++cs))) Bs):VD P n Q ks ops Hs B0 L (fuel+1) listed env A H Bs:=by
 simp only[Prod.mk.injEq]at hn;subst hB;obtain⟨h1,h2,h3,h4,h5,h6,h7,h8,h9⟩:=hn;refine fun hH hA w hI=>zrA i hi hr h1 h2 (.inl (M.append hu he dc dg h4 h6 (hI.at k h3) hl (Cells.add (Blk.cells (hI.at kb h5))) (zdk h7) hY dh)) ?_;rintro u w' ⟨ho,hf,hk,_⟩
 have da:VI Bs (hset H k (.row e kk u (m+l) (xs++cs))) w':=hI.set h3 hk ho trivial (fun _ h=>h) (fun q hq=>⟨by
  rcases hf with hf | ⟨g',hf,dl⟩
  . exact .inl x9
  .
   have hq:u.ownBlock=some q:=hq
   rw[hf]at hq;cases hq;exact .inr dl,xp ho hq⟩)
 have db:Has Hs (hset H k (.row e kk u (m+l) (xs++cs))):=hH.set h3 h9;exact⟨(da.drop j).pick db h8,h u db (TgOk.none (hA.res h3 (by simp[qA,h3]))) w' da⟩
theorem zrr (i k j:Nat) (q:Nat) (hs:∀ w,(sizeOf tl).run P w=.ok 1 w) (hi:ops[i]?=some ⟨none,.store tl x y,ty,ps,aft,g⟩) (hr:Region.ready .any ops listed=[i]) (hB:Bs.drop j=B0)
  (hn:(gd ops env g,hget H k,ev env x,ev env y,one v,qd (Hs.map (·.1)),qr k (Hs.map (·.1)))=(some true,some (.row t 1 (.slice (some ⟨b,0,none⟩) m c) m xs),some (.pointer (some ⟨b,o,none⟩)),some v,true,true,true)) (hj:o=q) (hl:q<xs.length)
  (h:VD P n Q ks ops Hs B0 L fuel (listed.setIfInBounds i true) env A (hset H k (.row t 1 (.slice (some ⟨b,0,none⟩) m c) m (xs.set q v))) Bs):VD P n Q ks ops Hs B0 L (fuel+1) listed env A H Bs:=by
 simp only[Prod.mk.injEq]at hn;obtain⟨h1,h2,h3,h4,h5,h8,h9⟩:=hn;subst hj;subst hB;intro hH hA w hI;have ho:w.ownsRow 0 t 1 (.slice (some ⟨b,0,none⟩) m c) m xs:=hI.at k h2;obtain⟨sp,hB,hc,dc,dg⟩:=xw ho;have dh:xs.length=m:=by have:=ho.1;omega
 obtain⟨h6,h7⟩:=xU h5;refine zrD i hi hr h1 (M.store hs h3 h4 h6 h7 hB tO) ?_;rintro w' ⟨dl,hY,hk⟩
 have da:VI Bs (hset H k (.row t 1 (.slice (some ⟨b,0,none⟩) m c) m (xs.set o v))) w':=by
  refine hI.set h2 (hk.mono Ja) ?_ trivial (fun _ h=>h) (fun q hq=>⟨.inl hq,?_⟩)
  .
   have:=zG (k:=1) (n:=m) (cap:=c) hY hc dc tD;rw[zw3 _ _ hl,zwy,zwb tD,zwc tD]at this;exact this
  have hq:some b=some q:=hq;cases hq;exact hY.lt
 have db:=Has.set (e':=.row t 1 (.slice (some ⟨b,0,none⟩) m c) m (xs.set o v)) hH h2 h9;exact⟨(da.drop j).pick db h8,h db (hA.res h2 (by simp[qA,h2])) w' da⟩
theorem zqI (i j:Nat) (hi:ops[i]?=some ⟨some d,op,ty,ps,aft,g⟩) (hr:Region.ready .any ops listed=[i]) (hn:(Nat.blt d n,gd ops env g,qd (Hs.map (·.1)))=(true,some true,true)) (hB:Bs.drop j=B0) (hm:∀ w,VI Bs H w->yx P ⟨some d,op,ty,ps,aft,g⟩ env w v w)
  (h:VD P n Q ks ops Hs B0 L fuel (listed.setIfInBounds i true) ((d,v)::env) ((d,none)::A) H Bs):VD P n Q ks ops Hs B0 L (fuel+1) listed env A H Bs:=by
 simp only[Prod.mk.injEq]at hn;subst hB;refine fun hH hA w hI=>zrA i hi hr hn.1 hn.2.1 (R:=fun u w'=>u=v/\w'=w) (.inl ⟨v,w,hm w hI,rfl,rfl⟩) ?_;rintro _ _ ⟨rfl,rfl⟩;exact⟨(hI.drop j).pick hH hn.2.2,h hH hA.none _ hI⟩
end
def VDx (P:Program) (n:Fm) (Q:Exit->Act->World->Prop) (ks:List Fr) (ops:Array Oper) (S:World->Prop) (L:List Nat) (fuel:Nat) (listed:Array Bool) (env:Env) (A:Tgs) (H:Hp) (Bs:zq):Prop :=
 TgOk A env H->∀ w,VI Bs H w->WD P n ops (QK P Q ks) S L fuel listed env w
section
variable {S:World->Prop}
theorem VDx.done (hr:Region.ready .any ops listed=[]) (h:V P n Q ks (.e .normal) env A H Bs):VDx P n Q ks ops S L fuel listed env A H Bs:=fun hA w hI=>G.done hr (h hA w hI) fuel
theorem zrE (i:Nat) (hZ:zqv P Z) {ty:TypeId} {ps:String} (hi:ops[i]?=some ⟨none,.store t x y,ty,ps,aft,g⟩) (hr:Region.ready .any ops listed=[i]) (hn:(gd ops env g,zaI Z env A H t x y,L.contains i)=(some true,some H',true))
  (h:VDx P n Q ks ops (VI B0 Hs) L fuel (listed.setIfInBounds i true) env A H' Bs):VD P n Q ks ops Hs B0 L (fuel+1) listed env A H Bs:=by
 simp only[Prod.mk.injEq]at hn;intro hH hA w hI a ha;obtain⟨h1,h2⟩:=kM (w:=w) (Bs:=Bs) hZ hn.2.1 hA;obtain⟨w',da,hR⟩:=h2 hI ty ps aft;refine⟨fun h0=>tD,fun k hk=>?_⟩;rw[hr]at hk;have:k=i:=tD;subst this;unfold wpOp;simp only[hi];rw[zty (qf hn.1 a ha)];refine .inl ?_;unfold Oper.wp;have hY:(execOp a.eval ⟨none,.store t x y,ty,ps,aft,g⟩).run P w=.ok .skip w':=da n a ha;rw[hY,Oper.upon_skip];exact⟨fun hc _=>absurd tD hc,h h1 w' hR _ ha.put0⟩
theorem zqW (hT:zqu P T) (hZ:zqv P Z):∀ (is:List Nat) (ob ob':Option Prop) (listed:Array Bool) (env:Env) (A:Tgs),zel ops is listed=true->zhp T Z n ops [] is ob env A=some (ob',env',A')->Ask ob' ->
  Ask ob/\(VDx P n Q ks ops S L fuel (zek is listed) env' A' H Bs->VDx P n Q ks ops S L (addN is fuel) listed env A H Bs)
 | [],ob,ob',listed,env,A,_,h,ha=>by cases h;exact⟨ha,fun h=>h⟩
 | i::r,ob,ob',listed,env,A,hc,h,ha=>by
  unfold zel at hc;rw[zu8]at hc;unfold zhp at h;split at h
  .
   rename_i d op ty ps aft g hj;have hi:ops[i]?=some ⟨some d,op,ty,ps,aft,g⟩:=by rw[kK]at hj;simpa using hj
   have take:∀ {ob1:Option Prop} {v:Value} {g1:Option (Nat × Nat)},Nat.blt d n=true->gd ops env g=some true->opV T Z env A [] op=some (ob1,v,g1)->Ask ob1->VDx P n Q ks ops S L (addN r fuel) (listed.setIfInBounds i true) ((d,v)::env) ((d,g1)::A) H Bs->VDx P n Q ks ops S L (addN r fuel+1) listed env A H Bs:=by
    intro ob1 v g1 hn hg hv hY hr hA w hI;cases hl:zcL op with
    | true =>
     cases op with
     | load t x =>
      simp only[opV]at hv;split at hv<;>first | cases hv | (simp only[cellAt,hget]at hv;cases hv)
     | _=>cases hl
    | false =>
     obtain⟨h1,_⟩:=zcK (w:=w) (Bs:=Bs) hT hZ (zet (H':=H) hl hv) hA;exact zqU i hi hc.1 O hn (.inl ⟨qf hg,fun w' nn a da=>zbq hT (zmo hl hv) hY nn a da⟩) (hr (h1 _) w hI)
   split at h
   .
    rename_i hn;split at h
    .
     rename_i hg;split at h
     .
      rename_i hv;obtain⟨h2,h3⟩:=zqW hT hZ r _ _ _ _ _ hc.2 h ha;exact⟨h2,fun hr=>take hn hg hv trivial (h3 hr)⟩
     .
      rename_i hv;obtain⟨h2,h3⟩:=zqW hT hZ r _ _ _ _ _ hc.2 h ha;obtain⟨h4,h5⟩:=h2.of_and;exact⟨h4,fun hr=>take hn hg hv h5 (h3 hr)⟩
     cases h
    .
     rename_i hg;obtain⟨h2,h3⟩:=zqW hT hZ r _ _ _ _ _ hc.2 h ha;exact⟨h2,fun hr hA w hI=>zqU i hi hc.1 O hn (.inr ⟨qf hg,rfl⟩) (h3 hr hA.none w hI)⟩
    cases h
   cases h
  cases h
theorem zqX (hT:zqu P T) (hZ:zqv P Z) (is:List Nat) (hc:zel ops is listed=true) (hv:zhp T Z n ops [] is none env A=some (none,env',A')) (h:VDx P n Q ks ops S L fuel (zek is listed) env' A' H Bs):VDx P n Q ks ops S L (addN is fuel) listed env A H Bs:=(zqW hT hZ is _ _ _ _ _ hc hv trivial).2 h
end
end
end Go.GL
