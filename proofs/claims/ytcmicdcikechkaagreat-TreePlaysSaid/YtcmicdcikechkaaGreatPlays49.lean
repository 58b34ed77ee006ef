import Derived.Test.YtcmicdcikechkaaGreatPlays34
import Derived.Shelf.SlicesE.DeleteFunc
import Derived.Ground.SlgfProg
import Derived.Lib.SliceRun
set_option linter.all false
set_option autoImplicit true
set_option relaxedAutoImplicit true
namespace Go.Proofs.YtcmicdcikechkaaGreat
open Go.RowKit Go.H Go.Shelf Go.Sort
set_option maxHeartbeats 2000000
set_option maxRecDepth 100000
section
def lay10_ren : Go.Shelf.Ren := ⟨fun | 10 => 66 | 6 => 98 | n => n, fun | 22 => 62 | 23 => 57 | 25 => 132 | 3 => 3 | 4 => 4 | 0 => 0 | n => n, fun | n => n⟩
theorem zjf:Go.Proofs.SlLaysH.n10 Tryz.prog lay10_ren:={
 mixed:=by kernel_rfl
 f6:=⟨Tryz.f98.name,by decide,Tryz.func98.trans (congrArg some (by kernel_rfl))⟩
 f10:=⟨Tryz.f66.name,by decide,Tryz.func66.trans (congrArg some (by kernel_rfl))⟩
 t0:=Tryz.underlying0
 a0:=Tryz.isAgg0
 z0:=Tryz.sizeOf0
 v0:=Tryz.zeroValue0
 t3:=Tryz.underlying3
 a3:=Tryz.isAgg3
 z3:=Tryz.sizeOf3
 v3:=Tryz.zeroValue3
 t4:=Tryz.underlying4
 a4:=Tryz.isAgg4
 z4:=Tryz.sizeOf4
 v4:=Tryz.zeroValue4
 t22:=Tryz.underlying62
 a22:=Tryz.isAgg62
 z22:=Tryz.sizeOf62
 v22:=Tryz.zeroValue62
 a23:=Tryz.isAgg57
 z23:=Tryz.sizeOf57
 t25:=Tryz.underlying132
 a25:=Tryz.isAgg132
 z25:=Tryz.sizeOf132
 v25:=Tryz.zeroValue132 }
abbrev SnV (L:List Nat):=Option {x:Nat // x∈L}
def snapV (x:Nat):Value:=.pointer (some ⟨x,0,none⟩)
def snapP (L:List Nat):SnV L→Value
 |none=>.pointer none
 |some x=>snapV x.1
def snapIs (L:List Nat) (sp:Nat):SnV L→Bool
 |none=>false
 |some x=>decide (x.1=sp)
def Laid1 (w:World) (L:List Nat):Prop:=∀x∈L,∃cs t,w.heap[x]?=some (.cells cs t (0,0))
theorem zjg:(Tryz.prog.info? 130).map (·.size)=some 4:=by kernel_rfl
theorem zjh {x sp:Nat} {tx ts:TypeId} (hx:w.heap[x]?=some (.cells cx tx (0,0))) (hs:w.heap[sp]?=some (.cells cs ts (0,0))):(binOp .eql 57 (snapV x) (snapV sp)).run Tryz.prog w=.ok (.bool (decide (x=sp))) w:=by
 obtain⟨j,hj,hjs⟩:=Option.map_eq_some_iff.1 zjg
 by_cases e:x=sp
 · subst e
   simpa [snapV] using run_eql_ptr_same (P:=Tryz.prog) w ⟨x,0,none⟩ Tryz.underlying57 hj
 · simpa [snapV,e] using run_eql_ptr_other (P:=Tryz.prog) w (a:=⟨x,0,none⟩) (b:=⟨sp,0,none⟩) Tryz.underlying57 hj (by rw[hjs];decide) (by simp[e]) hx hs
theorem zji (hL:Laid1 w L) {sp:Nat} (hs:sp∈L) (a:SnV L):(binOp .eql 57 (snapP L a) (snapV sp)).run Tryz.prog w=.ok (.bool (snapIs L sp a)) w:=by
 cases a with
 |none=>kernel_rfl
 | some x =>
   obtain⟨cx,tx,hx⟩:=hL x.1 x.2
   obtain⟨cs,ts,hs⟩:=hL sp hs
   exact zjh hx hs
theorem zjj {B sp:Nat} (hL:Laid1 W L) (hs:sp∈L) (a:SnV L) (hc:W.cell? ⟨B,0,none⟩=some (snapV sp)):
 FnGives Tryz.prog 67 #[.pointer (some ⟨B,0,none⟩)] #[snapP L a] (.bool (snapIs L sp a)) W:=by
 have hq:=zji hL hs a
 have hg:∀w_,(eqGuard .eql 57 (.tmp 4) (.tmp 5) (snapP L a) (snapV sp)).run Tryz.prog w_=.ok () w_:=fun w_=>by cases a<;>kernel_rfl
 show Calls Tryz.prog 67 #[snapP L a,.pointer (some ⟨B,0,none⟩)] W _
 generalize snapP L a=v at *
 generalize snapV sp=u at *
 go_enter Tryz.func67,Tryz.ntmps67
 go_wp2
 go_ret
 exact⟨rfl,0,rfl⟩
theorem Laid1.of (h:Laid1 w L) (he:∀x∈L,w'.heap[x]?=w.heap[x]?):Laid1 w' L:=fun x hx=>by
 obtain⟨cs,t,h1⟩:=h x hx
 exact⟨cs,t,(he x hx).trans h1⟩
theorem zjk {α:Type} [Inhabited α] (enc:α→Value) (w:World) (n g o:Nat) (d:Array α) (os:Array Obj) {k:Nat} (hk:k<w.heap.size) (hg:k≠g):(grow (putRow enc (Sort.ahead w n) g o d) os).heap[k]?=w.heap[k]?:=by
 rw[heap_grow_old _ _ (by simpa using hk)]
 simp[putRow,mapBlock,Sort.ahead,Array.getElem?_modify,Ne.symm hg]
theorem zjl {α:Type} [Inhabited α] (enc:α→Value) (cur:Array Value) (l l2:List α) (h:l.length+l2.length≤cur.size):(putCells enc 0 (l++l2).toArray cur).toList.take l.length=l.map enc:=by
 apply List.ext_getElem?
 intro j
 by_cases hj:j<l.length
 · have hjs:j<cur.size:=by omega
   have h1:(l++l2)[j]?=some l[j]:=by rw[List.getElem?_append_left hj];exact List.getElem?_eq_getElem hj
   rw[List.getElem?_take_of_lt hj,Array.getElem?_toList]
   simp[putCells,hj,hjs,h1,show j<l.length+l2.length by omega]
 · rw[List.getElem?_take_eq_none (by omega),List.getElem?_eq_none (by simp;omega)]
theorem zjm {B sp:Nat} (ho:w.ownsRow 0 57 1 ov L.length (L.map snapV)) (hL:Laid1 w L) (hsp:sp∈L) (hB:w.cell? ⟨B,0,none⟩=some (snapV sp)) (hBo:ov.ownBlock≠some B) (hLo:∀x∈L,ov.ownBlock≠some x):
 Calls Tryz.prog 66 #[ov,.func (.func 67) #[] #[.pointer (some ⟨B,0,none⟩)]] w fun e w'=>∃ov',e=.returned ov'∧ov'.ownBlock=ov.ownBlock∧w'.ownsRow 0 57 1 ov' (L.filter fun x=>decide (x≠sp)).length ((L.filter fun x=>decide (x≠sp)).map snapV)∧Fr (fun b=>ov.ownBlock=some b) w w':=by
 obtain⟨g,cap,cur,rfl,-,hg,h1,h2,h3,h4⟩:∃g cap cur,ov=.slice (some ⟨g,0,none⟩) L.length cap∧0≤g∧w.heap[g]?=some (.cells cur 57 (0,0))∧L.length≤cap∧cap≤maxLen∧cur.size=cap*1∧cur.toList.take (L.length*1)=L.map snapV:=by
  rcases ho.2 with⟨_,h⟩|h
  · have:L=[]:=List.eq_nil_of_length_eq_zero h
    subst this;simp at hsp
  · exact h
 have hBl:B<w.heap.size:=World.block_lt_of_cell? w _ hB
 have hBg:B≠g:=fun e=>hBo (by rw[e];rfl)
 have hLg:∀x∈L,x≠g:=fun x hx e=>hLo x hx (by rw[e];rfl)
 have hLl:∀x∈L,x<w.heap.size:=fun x hx=>by
  obtain⟨cs,t,h⟩:=hL x hx
  exact(Array.getElem?_eq_some_iff.1 h).1
 have hgl:g<w.heap.size:=(Array.getElem?_eq_some_iff.1 hg).1
 have eg:∀args w,(callFunc 67 args).run Tryz.prog w=.ok (.enter 67 args) w:=enters_of Tryz.func67 (by kernel_rfl) rfl
 have hd:((L.attach.map some).toArray:Array (SnV L)).size=L.length:=by simp
 have hcon:=AnyE.slices_DeleteFunc zjf (snapP L) (fun a=>by cases a<;>rfl) (snapIs L sp) 67 #[.pointer (some ⟨B,0,none⟩)] eg none (fun _=>by kernel_rfl) g 0 cap (L.attach.map some).toArray w
  (fun W a hb=>zjj (hL.of fun x hx=>hb.block x (hLl x hx)) hsp a ((hb.cell (p:=⟨B,0,none⟩) hBl).trans hB))
  (fun n os dk a _ => zjj (hL.of fun x hx => zjk _ _ _ _ _ _ _ (hLl x hx) (hLg x hx)) hsp a (by
   exact(World.cell?_of_block (w:=w) (w':=sortWorld (snapP L) w g 0 n dk os) (a:=⟨B,0,none⟩) (zjk _ _ _ _ _ _ _ hBl hBg)).trans hB))
  (fun j hj => by
   rw[hd] at hj
   refine⟨?_,by simp[World.frozen?,hg]⟩
   have h5:(cur.toList.take L.length)[j]?=(L.map snapV)[j]?:=by rw[←h4,Nat.mul_one]
   rw[List.getElem?_take_of_lt hj] at h5
   simp only[World.cell?,hg,Nat.zero_add]
   simp only[Option.isSome_none,Bool.false_eq_true,if_false]
   rw[←Array.getElem?_toList,h5]
   simp[hj,snapP,snapV])
  (by rw[hd];unfold maxLen at h2;omega) (by rw[hd];exact h1)
 have hfil:((L.attach.map some).filter fun a:SnV L=>!snapIs L sp a).map (snapP L)=(L.filter fun x=>decide (x≠sp)).map snapV:=by
  have key:∀l:List {x:Nat // x∈L},((l.map some).filter fun a:SnV L=>!snapIs L sp a).map (snapP L)=((l.map (·.1)).filter fun x=>decide (x≠sp)).map snapV:=by
   intro l
   induction l with
   |nil=>rfl
   | cons a l ih =>
     simp only[List.map_cons,List.filter_cons]
     by_cases e:a.1=sp
     · rw[if_neg (by simp[e,snapIs]),if_neg (by simp[e])]
       exact ih
     · rw[if_pos (by simp[e,snapIs]),if_pos (by simp[e])]
       simp only[List.map_cons]
       rw[ih]
       rfl
  rw[key,List.attach_map_subtype_val]
 have hflen:((L.attach.map some).filter fun a:SnV L=>!snapIs L sp a).length=(L.filter fun x=>decide (x≠sp)).length:=by
  have:=congrArg List.length hfil
  simpa using this
 rw[hd] at hcon
 simp only[] at hcon
 refine hcon.mono ?_
 rintro e w' ⟨rfl,q,rfl⟩
 have hlen:(L.filter fun x=>decide (x≠sp)).length≤L.length:=List.length_filter_le _ _
 rw[hflen]
 have hh:(putRow (snapP L) (Sort.ahead w q) g 0 (((L.attach.map some).filter fun a:SnV L=>!snapIs L sp a)++List.replicate (L.length-(L.filter fun x=>decide (x≠sp)).length) none).toArray).heap[g]?=some (.cells (putCells (snapP L) 0 (((L.attach.map some).filter fun a:SnV L=>!snapIs L sp a)++List.replicate (L.length-(L.filter fun x=>decide (x≠sp)).length) none).toArray cur) 57 (0,0)):=by
  simp[putRow,mapBlock,Sort.ahead,Array.getElem?_modify,hg,onCells]
 refine⟨_,rfl,rfl,⟨by simp,.inr ⟨g,cap,_,rfl,Nat.zero_le _,hh,by omega,h2,by simp[putCells,h3],?_⟩⟩,⟨rfl,rfl,by simp,fun k hk hne=>?_⟩⟩
 · rw[Nat.mul_one,←hfil,←hflen]
   exact zjl _ _ _ _ (by rw[hflen,List.length_replicate,h3];omega)
 · have:=zjk (snapP L) w q g 0 (((L.attach.map some).filter fun a:SnV L=>!snapIs L sp a)++List.replicate (L.length-(L.filter fun x=>decide (x≠sp)).length) none).toArray #[] hk (fun e=>hne (by rw[e];rfl))
   rw[grow_empty] at this
   exact this
end
end Go.Proofs.YtcmicdcikechkaaGreat
