import Derived.Test.YtidalepbkljkpaaGreatLocalSpaces02
import Derived.Test.YtidalepbkljkpaaGreatLocalSpaces01
import Derived.Test.YtidalepbkljkpaaGreatProg
set_option linter.all false
namespace Go.H
open Go.RowKit
section
section
variable {P : Program} {ops : Array Oper} {Q : Exit → Act → World → Prop} {md : Region.Mode} {S : World → Prop} {late : Nat → Bool}
def wpAnyL (P:Program) (md:Region.Mode) (ops:Array Oper) (Q:Exit→Act→World→Prop) (S:World→Prop) (late:Nat→Bool):Nat→Array Bool→Act→World→Prop
 |0,listed,a,w=>Region.ready md ops listed=[]∧Q .normal a w
 | fuel + 1, listed, a, w =>
   (Region.ready md ops listed=[]→Q .normal a w)∧
   ∀i∈Region.ready md ops listed,wpOp P ops Q i (fun a' w'=>(late i=false→S w')∧wpAnyL P md ops Q S late fuel (listed.setIfInBounds i true) a' w') a w
theorem z1p:∀(fuel:Nat) (listed:Array Bool) (a:Act) (w:World),wpAnyL P md ops Q S late fuel listed a w→wpAny P md ops Q fuel listed a w
 |0,_,_,_,h=>h
 |fuel+1,_,_,_,h=>⟨h.1,fun i hi=>wpOp_mono (fun a' w' h'=>z1p fuel _ a' w' h'.2) (h.2 i hi)⟩
def desc (md:Region.Mode) (ops:Array Oper) (i:Nat):List Nat:=
 (List.range ops.size).foldl (fun D x => match ops[x]? with
  |some o=>if o.after.any (fun e=>Region.binds md e && (e.on == i || D.contains e.on)) then x::D else D
  |none=>D) []
def lateOK (md:Region.Mode) (ops:Array Oper) (late:Nat→Bool) (listed:Array Bool) (i:Nat):Bool:=
 let D:=desc md ops i
 (List.range ops.size).all (fun j=>!late j || D.contains j) &&
 D.all fun x=>(listed.getD x true == false) && (match ops[x]? with
  |some o=>o.after.any (fun e=>Region.binds md e && (e.on == i || D.contains e.on))
  |none=>false)
def Waits (md:Region.Mode) (ops:Array Oper) (i:Nat) (D:List Nat):Prop:=∀x∈D,∃o,ops[x]?=some o∧∃e∈o.after,Region.binds md e=true∧(e.on=i∨e.on∈D)
theorem z1q {i:Nat} {listed:Array Bool} (h:lateOK md ops late listed i=true):∃D,(∀j oj,ops[j]?=some oj→late j=true→j∈D)∧Waits md ops i D∧∀x∈D,listed.getD x true=false:=by
 simp only[lateOK,Bool.and_eq_true,List.all_eq_true,List.mem_range] at h
 refine⟨desc md ops i,fun j oj hj hl=>?_,fun x hx=>?_,fun x hx=>?_⟩
 · have h1:=h.1 j (Array.getElem?_eq_some_iff.1 hj).1
   simpa [hl] using h1
 · have h1:=(h.2 x hx).2
   cases ho:ops[x]? with
   |none=>rw[ho] at h1;cases h1
   | some o =>
     rw[ho] at h1
     obtain⟨e,he,hb⟩:=Array.any_eq_true'.1 h1
     simp only[Bool.and_eq_true,Bool.or_eq_true,beq_iff_eq,List.contains_eq_mem,decide_eq_true_eq] at hb
     exact⟨o,rfl,e,he,hb⟩
 · simpa using (h.2 x hx).1
theorem z1r {i:Nat} {oi:Oper} {v:Value} (hi:ops[i]?=some oi) (hsel:∀(j:Nat) (o:Oper) cs b,ops[j]?=some o→o.op≠.select cs b)
 (hQ:∀c a w,Q (.panic c) (a.put oi.dst v) w→Q (.panic c) a w) {D:List Nat} (hD1:∀j oj,ops[j]?=some oj→late j=true→j∈D) (hD2:Waits md ops i D) :
 ∀ (fuel : Nat) (listed : Array Bool) (a : Act) (w : World), (∀ x ∈ D, listed.getD x true = false) →
   (∀j oj,ops[j]?=some oj→j≠i→listed.getD j true=false→(∀e∈oj.after,Region.binds md e=true→e.on≠i)→oi.apart ops oj=true)→
   i∈Region.ready md ops listed→YieldsIf P ops S oi v a→S w→
   wpAnyL P md ops Q S late fuel (listed.setIfInBounds i true) (a.put oi.dst v) w→wpAnyL P md ops Q S late (fuel+1) listed a w:=by
 intro fuel
 induction fuel with
 | zero =>
   intro listed a w _ _ hr hy hS H
   refine⟨fun h=>(by rw[h] at hr;cases hr),fun j hj=>?_⟩
   by_cases hji:j=i
   · subst hji;exact hy.wpOp hi hS ⟨fun _=>hS,H⟩
   · have:=ready_mono hj hji
     rw[H.1] at this
     cases this
 | succ fuel ih =>
   intro listed a w hDl hfree hr hy hS H
   refine⟨fun h=>(by rw[h] at hr;cases hr),fun j hj=>?_⟩
   by_cases hji:j=i
   · subst hji;exact hy.wpOp hi hS ⟨fun _=>hS,H⟩
   · have h1:=H.2 j (ready_mono hj hji)
     obtain⟨hjun,oj,hoj,hall⟩:=mem_ready.1 hj
     have hnot:∀e∈oj.after,Region.binds md e=true→e.on≠i:=fun e he hb heq=>by
      have h1:=hall e he hb
      have h0:=(mem_ready.1 hr).1
      rw[heq] at h1
      rcases Nat.lt_or_ge i listed.size with h'|h'
      · simp[h'] at h0 h1;rw[h0] at h1;cases h1
      · simp[Array.getElem?_eq_none h'] at h1
     have hjD:j∉D:=fun hjD=>by
      obtain⟨o,ho,e,he,hb,hor⟩:=hD2 j hjD
      obtain rfl:o=oj:=by rw[hoj] at ho;exact(Option.some.inj ho).symm
      rcases hor with heq|hin
      · exact hnot e he hb heq
      · have h1:=hall e he hb
        have h0:=hDl _ hin
        rcases Nat.lt_or_ge e.on listed.size with h'|h'
        · simp[h'] at h0 h1;rw[h0] at h1;cases h1
        · simp[Array.getElem?_eq_none h'] at h1
     have hjl:late j=false:=by
      cases h:late j with
      |false=>rfl
      |true=>exact absurd (hD1 j oj hoj h) hjD
     have hDl':∀x∈D,(listed.setIfInBounds j true).getD x true=false:=fun x hx=>by
      have hne:j≠x:=by rintro rfl;exact hjD hx
      rw[getD_set_ne true hne];exact hDl x hx
     have h2:=wpOp_putIf hoj (hfree j oj hoj hji hjun hnot) (fun cs b=>hsel i oi cs b hi) (fun cs b=>hsel j oj cs b hoj) hQ hy h1
     have hfree':∀k ok,ops[k]?=some ok→k≠i→(listed.setIfInBounds j true).getD k true=false→
      (∀e∈ok.after,Region.binds md e=true→e.on≠i)→oi.apart ops ok=true:=fun k ok hk hki hun hno=>by
      refine hfree k ok hk hki ?_ hno
      by_cases hjk:j=k
      · subst hjk;exact hjun
      · rw[getD_set_ne true hjk] at hun;exact hun
     refine wpOp_mono (fun a' w' h3=>⟨h3.2.1,ih (listed.setIfInBounds j true) a' w' hDl' hfree' (ready_mono hr (Ne.symm hji)) h3.1 (h3.2.1 hjl) ?_⟩) h2
     rw[Array.setIfInBounds_comm _ _ hji]
     exact h3.2.2
theorem z1s (i:Nat) {oi:Oper} {v:Value} {fuel:Nat} {listed:Array Bool} {a:Act} {w:World} (hi:ops[i]?=some oi)
 (hs:(Region.noSelect ops && Region.free md ops listed i && (Region.ready md ops listed).contains i && lateOK md ops late listed i)=true)
 (hQ:∀c a w,Q (.panic c) (a.put oi.dst v) w→Q (.panic c) a w) (hS:S w) (hy:YieldsIf P ops S oi v a)
 (h:wpAnyL P md ops Q S late fuel (listed.setIfInBounds i true) (a.put oi.dst v) w):wpAnyL P md ops Q S late (fuel+1) listed a w:=by
 simp only[Bool.and_eq_true] at hs
 obtain⟨⟨⟨s1,s2⟩,s3⟩,s4⟩:=hs
 obtain⟨D,d1,d2,d3⟩:=z1q s4
 exact z1r hi (Region.noSelect_spec s1) hQ d1 d2 fuel listed a w d3 (Region.free_spec hi s2) (by simpa using s3) hy hS h
theorem z1t (i:Nat) {o:Oper} {fuel:Nat} {listed:Array Bool} {a:Act} {w:World} (hi:ops[i]?=some o) (hr:Region.ready md ops listed=[i]) (hw:Region.wanted o (yielded ops a.tmps)=true) (hl:late i=false)
 (h:∀K:Act→World→Prop,Shut (∀a w,S w→(S w→wpAnyL P md ops Q S late fuel (listed.setIfInBounds i true) a w)→K a w)→o.wp P a w K Q) :
 wpAnyL P md ops Q S late (fuel+1) listed a w:=by
 refine⟨fun h0=>(by rw[hr] at h0;cases h0),fun j hj=>?_⟩
 rw[hr] at hj
 obtain rfl:j=i:=by simpa using hj
 have h1:=h (fun a' w'=>(late j=false→S w')∧wpAnyL P md ops Q S late fuel (listed.setIfInBounds j true) a' w') (fun a' w' hS hW=>⟨fun _=>hS,hW hS⟩)
 unfold wpOp
 simp only[hi]
 rw[if_pos hw]
 exact .inl h1
theorem z1u (i:Nat) {o:Oper} {fuel:Nat} {listed:Array Bool} {a:Act} {w:World} (hi:ops[i]?=some o) (hr:Region.ready md ops listed=[i]) (hw:Region.wanted o (yielded ops a.tmps)=true) (hl:late i=true)
 (h:∀K:Act→World→Prop,Shut (∀a w,wpAnyL P md ops Q S late fuel (listed.setIfInBounds i true) a w→K a w)→o.wp P a w K Q) :
 wpAnyL P md ops Q S late (fuel+1) listed a w:=by
 refine⟨fun h0=>(by rw[hr] at h0;cases h0),fun j hj=>?_⟩
 rw[hr] at hj
 obtain rfl:j=i:=by simpa using hj
 have h1:=h (fun a' w'=>(late j=false→S w')∧wpAnyL P md ops Q S late fuel (listed.setIfInBounds j true) a' w') (fun a' w' hW=>⟨fun h=>(by rw[hl] at h;cases h),hW⟩)
 unfold wpOp
 simp only[hi]
 rw[if_pos hw]
 exact .inl h1
theorem tk (i:Nat) {d_:Option Tmp} {op_:Op} {ty_:TypeId} {ps_:String} {af_:Array Edge} {gd_:Option (Nat×Bool)} {v:Value} {a':Act} {fuel:Nat} {listed:Array Bool} {a:Act} {w:World} (hS:S w) (h:wpAnyL P md ops Q S late fuel (listed.setIfInBounds i true) a' w)
 (hi:ops[i]?=some (⟨d_,op_,ty_,ps_,af_,gd_⟩:Oper):=by rfl)
 (hy:∀w,S w→(execOp a.eval (⟨d_,op_,ty_,ps_,af_,gd_⟩:Oper)).run P w=.ok (.value v) w:=by(intro w_ hS_;first|(go_simp;done)|(go_simp;with_reducible rfl)))
 (hp:a.put d_ v=a':=by(first|(simp only[Act.put,zs1,zs2,zs3];done)|(simp only[Act.put,zs1,zs2,zs3];exact rfl)|exact rfl))
 (hw:Region.wanted (⟨d_,op_,ty_,ps_,af_,gd_⟩:Oper) (yielded ops a.tmps)=true:=by rfl)
 (hs:(Region.noSelect ops && Region.free md ops listed i && (Region.ready md ops listed).contains i && lateOK md ops late listed i)=true:=by kernel_rfl)
 (hQ:∀c a w,Q (.panic c) (a.put d_ v) w→Q (.panic c) a w:=by exact fun _ _ _ h=>h):wpAnyL P md ops Q S late (fuel+1) listed a w:=by
 subst hp
 exact z1s i hi hs hQ hS (.inl ⟨hw,hy⟩) h
theorem tks (i:Nat) {d_:Option Tmp} {op_:Op} {ty_:TypeId} {ps_:String} {af_:Array Edge} {gd_:Option (Nat×Bool)} {fuel:Nat} {listed:Array Bool} {a:Act} {w:World} (hi:ops[i]?=some (⟨d_,op_,ty_,ps_,af_,gd_⟩:Oper)) (hS:S w) (h:wpAnyL P md ops Q S late fuel (listed.setIfInBounds i true) (a.put d_ undef) w)
 (hw:Region.wanted (⟨d_,op_,ty_,ps_,af_,gd_⟩:Oper) (yielded ops a.tmps)=false:=by rfl)
 (hs:(Region.noSelect ops && Region.free md ops listed i && (Region.ready md ops listed).contains i && lateOK md ops late listed i)=true:=by kernel_rfl)
 (hQ:∀c a w,Q (.panic c) (a.put d_ undef) w→Q (.panic c) a w:=by exact fun _ _ _ h=>h):wpAnyL P md ops Q S late (fuel+1) listed a w:=
 z1s i hi hs hQ hS (.inr ⟨hw,rfl⟩) h
theorem one_ (i:Nat) {d_:Option Tmp} {op_:Op} {ty_:TypeId} {ps_:String} {af_:Array Edge} {gd_:Option (Nat×Bool)} {fuel:Nat} {listed:Array Bool} {a:Act} {w:World} (hi:ops[i]?=some (⟨d_,op_,ty_,ps_,af_,gd_⟩:Oper))
 (h:∀K:Act→World→Prop,Shut (∀a w,S w→(S w→wpAnyL P md ops Q S late fuel (listed.setIfInBounds i true) a w)→K a w)→(⟨d_,op_,ty_,ps_,af_,gd_⟩:Oper).wp P a w K Q)
 (hr:Region.ready md ops listed=[i]:=by kernel_rfl) (hw:Region.wanted (⟨d_,op_,ty_,ps_,af_,gd_⟩:Oper) (yielded ops a.tmps)=true:=by rfl) (hl:late i=false:=by kernel_rfl) :
 wpAnyL P md ops Q S late (fuel+1) listed a w:=z1t i hi hr hw hl h
theorem z1v (i:Nat) {d_:Option Tmp} {op_:Op} {ty_:TypeId} {ps_:String} {af_:Array Edge} {gd_:Option (Nat×Bool)} {fuel:Nat} {listed:Array Bool} {a:Act} {w:World} (hi:ops[i]?=some (⟨d_,op_,ty_,ps_,af_,gd_⟩:Oper))
 (h:∀K:Act→World→Prop,Shut (∀a w,wpAnyL P md ops Q S late fuel (listed.setIfInBounds i true) a w→K a w)→(⟨d_,op_,ty_,ps_,af_,gd_⟩:Oper).wp P a w K Q)
 (hr:Region.ready md ops listed=[i]:=by kernel_rfl) (hw:Region.wanted (⟨d_,op_,ty_,ps_,af_,gd_⟩:Oper) (yielded ops a.tmps)=true:=by rfl) (hl:late i=true:=by kernel_rfl) :
 wpAnyL P md ops Q S late (fuel+1) listed a w:=z1u i hi hr hw hl h
theorem z1x (i j:Nat) {fuel:Nat} {listed:Array Bool} {a:Act} {w:World} {d_:Option Tmp} {op_:Op} {ty_:TypeId} {ps_:String} {af_:Array Edge} {gd_:Option (Nat×Bool)} {d2:Option Tmp} {op2:Op} {ty2:TypeId} {ps2:String} {af2:Array Edge} {gd2:Option (Nat×Bool)} (hi:ops[i]?=some (⟨d_,op_,ty_,ps_,af_,gd_⟩:Oper)) (hj:ops[j]?=some (⟨d2,op2,ty2,ps2,af2,gd2⟩:Oper)) (hr:Region.ready md ops listed=[i,j]) (hwi:Region.wanted (⟨d_,op_,ty_,ps_,af_,gd_⟩:Oper) (yielded ops a.tmps)=true) (hwj:Region.wanted (⟨d2,op2,ty2,ps2,af2,gd2⟩:Oper) (yielded ops a.tmps)=true)
 (h1:∀K:Act→World→Prop,Shut (∀a w,S w→(S w→wpAnyL P md ops Q S late fuel (listed.setIfInBounds i true) a w)→K a w)→(⟨d_,op_,ty_,ps_,af_,gd_⟩:Oper).wp P a w K Q)
 (h2:∀K:Act→World→Prop,Shut (∀a w,S w→(S w→wpAnyL P md ops Q S late fuel (listed.setIfInBounds j true) a w)→K a w)→(⟨d2,op2,ty2,ps2,af2,gd2⟩:Oper).wp P a w K Q) :
 wpAnyL P md ops Q S late (fuel+1) listed a w:=by
 refine⟨fun h0=>(by rw[hr] at h0;cases h0),fun k hk=>?_⟩
 rw[hr] at hk
 simp only[List.mem_cons,List.not_mem_nil,or_false] at hk
 rcases hk with rfl|rfl
 · have h1:=h1 (fun a' w'=>(late k=false→S w')∧wpAnyL P md ops Q S late fuel (listed.setIfInBounds k true) a' w') (fun a' w' hS hW=>⟨fun _=>hS,hW hS⟩)
   unfold wpOp
   simp only[hi]
   rw[if_pos hwi]
   exact .inl h1
 · have h1:=h2 (fun a' w'=>(late k=false→S w')∧wpAnyL P md ops Q S late fuel (listed.setIfInBounds k true) a' w') (fun a' w' hS hW=>⟨fun _=>hS,hW hS⟩)
   unfold wpOp
   simp only[hj]
   rw[if_pos hwj]
   exact .inl h1
theorem z1y {listed:Array Bool} {a:Act} {w:World} (hr:Region.ready md ops listed=[]) (h:Q .normal a w):∀fuel,wpAnyL P md ops Q S late fuel listed a w
 |0=>⟨hr,h⟩
 |_+1=>⟨fun _=>h,by rw[hr];simp⟩
theorem z1z (S:World→Prop) (late:List Nat) {id:Nat} {a:Act} {w:World} (hm:P.follows .mixedOrders=true)
 (h:wpAnyL P .any ops Q S (fun j=>late.contains j) ops.size (Array.replicate ops.size false) a w.drew):(Code.region id ops true).wp P Q a w:=
 wp_region_any hm (z1p _ _ _ _ h)
end
end
section
def aget {α:Type} (k:Int):List (Int×α)→Option α
 |[]=>none
 |p::L=>if p.1=k then some p.2 else aget k L
def aset {α:Type} (k:Int) (v:α):List (Int×α)→List (Int×α)
 |[]=>[(k,v)]
 |p::L=>if p.1=k then(k,v)::L else p::aset k v L
theorem z20 (k:Int):∀(L:List (Int×Value)) (i:Nat),findIx k L i=(findIx k L 0).map (fun q=>(q.1+i,q.2))
 |[],_=>rfl
 | p :: L, i => by
   by_cases h:p.1=k
   · simp[findIx,h]
   · simp only[findIx,if_neg h]
     rw[z20 k L (i+1),z20 k L (0+1)]
     cases findIx k L 0<;>simp;omega
theorem z21 (k:Int):∀L:List (Int×Value),mget L k=aget k L
 |[]=>rfl
 | p :: L => by
   by_cases h:p.1=k
   · simp[mget,findIx,aget,h]
   · rw[aget,if_neg h,←z21 k L]
     simp only[mget,findIx,if_neg h]
     rw[z20 k L 1]
     cases findIx k L 0<;>simp
theorem z22 (k:Int) (v:Value):∀L:List (Int×Value),mset L k v=aset k v L
 |[]=>rfl
 | p :: L => by
   by_cases h:p.1=k
   · simp[mset,findIx,aset,h]
   · rw[aset,if_neg h,←z22 k v L]
     simp only[mset,findIx,if_neg h]
     rw[z20 k L 1]
     cases hq:findIx k L 0<;>simp
theorem z23 {P:Program} {w:World} {o:Oper} {a:Act} {K:Act→World→Prop} {Q:Exit→Act→World→Prop} {T Kt E m:Nat} {L:List (Int×Value)} {k:Int} {v:Value}
 (hT:P.underlying T=some (.map Kt E)) (hK:P.underlying Kt=some (.int .i64)) (mo ko vo:Operand) (ho:o.op=.mapUpdate T mo ko vo) (hm:a.eval mo=.map (some m)) (hk:a.eval ko=.int .i64 k) (hv:a.eval vo=v)
 (h:MapIs w m L) (hw:∀w',MapIs w' m (aset k v L)→Fr (fun b=>b=m) w w'→K (a.put o.dst undef) w'):o.wp P a w K Q:=by
 obtain⟨ob,h1,h2⟩:=z0d hT hK h k v
 unfold Oper.wp execOp
 simp only[ho,hm,hk,hv,Sem.run_bind,Sem.run_pure,Result.andThen_ok,h1]
 rw[z22] at h2
 exact hw _ h2 ((Fr.refl (fun b=>b=m) w).putObj (.inr rfl) ob)
theorem z24 {P:Program} {w:World} {ops:Array Oper} {rest:List Oper} {o:Oper} {a:Act} {Q:Exit→Act→World→Prop} {T Kt E m:Nat} {L:List (Int×Value)} {k:Int} {v:Value} (hgd:o.guard=none)
 (hT:P.underlying T=some (.map Kt E)) (hK:P.underlying Kt=some (.int .i64)) (mo ko vo:Operand) (ho:o.op=.mapUpdate T mo ko vo) (hm:a.eval mo=.map (some m)) (hk:a.eval ko=.int .i64 k) (hv:a.eval vo=v)
 (h:MapIs w m L) (hw:∀w',MapIs w' m (aset k v L)→Fr (fun b=>b=m) w w'→wpList P ops Q rest (a.put o.dst undef) w'):wpList P ops Q (o::rest) a w:=
 wpList_plain hgd fun K hK'=>z23 hT hK mo ko vo ho hm hk hv h fun w' h1 h2=>hK' _ _ (hw w' h1 h2)
theorem z25 {P:Program} {w:World} {o:Oper} {a:Act} {K:Act→World→Prop} {Q:Exit→Act→World→Prop} {T Kt E m t2:Nat} {L:List (Int×Value)} {k:Int}
 (hT:P.underlying T=some (.map Kt E)) (hK:P.underlying Kt=some (.int .i64)) (mo ko:Operand) (ho:o.op=.call { callee:=.builtin .delete,args:=#[mo,ko],argTypes:=#[T,t2] }) (hm:a.eval mo=.map (some m)) (hk:a.eval ko=.int .i64 k)
 (h:MapIs w m L) (hw:∀w',MapIs w' m (mdel L k)→Fr (fun b=>b=m) w w'→K (a.put o.dst (.tuple #[])) w'):o.wp P a w K Q:=by
 obtain⟨ob,h1,h2⟩:=z0h (P:=P) (ats:=#[T,t2]) (ty:=o.type) rfl hT hK h k
 unfold Oper.wp execOp
 simp only[ho,resolve,invoke,builtin,Sem.run_bind,Sem.run_pure,Result.andThen_ok,List.map_toArray,List.map_cons,List.map_nil,hm,hk,h1]
 exact hw _ h2 ((Fr.refl (fun b=>b=m) w).putObj (.inr rfl) ob)
theorem z26 {P:Program} {w:World} {ops:Array Oper} {rest:List Oper} {o:Oper} {a:Act} {Q:Exit→Act→World→Prop} {T Kt E m t2:Nat} {L:List (Int×Value)} {k:Int} (hgd:o.guard=none)
 (hT:P.underlying T=some (.map Kt E)) (hK:P.underlying Kt=some (.int .i64)) (mo ko:Operand) (ho:o.op=.call { callee:=.builtin .delete,args:=#[mo,ko],argTypes:=#[T,t2] }) (hm:a.eval mo=.map (some m)) (hk:a.eval ko=.int .i64 k)
 (h:MapIs w m L) (hw:∀w',MapIs w' m (mdel L k)→Fr (fun b=>b=m) w w'→wpList P ops Q rest (a.put o.dst (.tuple #[])) w'):wpList P ops Q (o::rest) a w:=
 wpList_plain hgd fun K hK'=>z25 hT hK mo ko ho hm hk h fun w' h1 h2=>hK' _ _ (hw w' h1 h2)
end
section
abbrev Bs:=List UInt8
def padB (l:Bs):Bs:=l++List.replicate (8192-l.length) 0
theorem z27 {l:Bs} (h:l.length≤8192):(padB l).length=8192:=by simp[padB];omega
theorem z28 {n:Nat} {l:Bs} (h:l.length≤n):splice (zerosV n) 0 (l.map bv)=(l++List.replicate (n-l.length) 0).map bv:=by
 simp only[splice,zerosV,List.take_zero,List.nil_append,List.map_append,List.length_map,Nat.zero_add,←List.map_drop,List.drop_replicate]
theorem z29 {l:Bs} (h:l.length≤8192):splice (zerosV 8192) 0 (List.take (min l.length 8192) (l.map bv))=(padB l).map bv:=by
 rw[Nat.min_eq_left h,List.take_of_length_le (by rw[List.length_map];exact Nat.le_refl _),z28 h];rfl
theorem z2a {b g:Bs} {n:Nat} (h:n≤b.length):splice (g.map bv) 0 (List.take (min n n) (List.take (n*1) (b.map bv)))=(b.take n++g.drop n).map bv:=by
 have h2:(List.take n (b.map bv)).length=n:=by simp;omega
 simp only[Nat.min_self,Nat.mul_one,List.take_take,splice,List.take_zero,List.nil_append,Nat.zero_add,h2,List.map_append,List.map_take,List.map_drop]
def Ag (n:Nat) (c c':Nat→Nat):Prop:=∀b,b<n→c' b=c b
def Cl (w:World) (c:Nat→Nat):Prop:=∀b,w.heap.size≤b→c b=0
def setc (c:Nat→Nat) (o:Option Nat) (r:Nat):Nat→Nat:=fun b=>if o=some b then r else c b
theorem Ag.refl (n:Nat) (c:Nat→Nat):Ag n c c:=fun _ _=>rfl
theorem Ag.trans {n m:Nat} {c c' c'':Nat→Nat} (h:Ag n c c') (h2:Ag m c' c'') (hm:n≤m):Ag n c c'':=fun b hb=>(h2 b (by omega)).trans (h b hb)
theorem Cl.mono {w w':World} {c:Nat→Nat} (h:Cl w c) (hs:w.heap.size≤w'.heap.size):Cl w' c:=fun b hb=>h b (by omega)
abbrev Dt (c:Nat→Nat):Nat→Prop:=fun b=>c b=0
theorem BytesAt.ag {c c':Nat→Nat} {w:World} {v:Value} {l:Bs} (h:BytesAt (Dt c) w v l) (ha:Ag w.heap.size c c'):BytesAt (Dt c') w v l:=h.mono fun b hb hl=>(ha b hl).trans hb
structure DSt where
 blocks:Nat
 kept:List (Int×Bs)
 opn:List (Nat×Bs)
 down:Bool
 life:Int
 after:Int
 keep:Int
 torn:Int
 cut:Int
def DSt.tick (s:DSt):DSt:={ s with after:=if s.after<1 then s.after else wrap64 (s.after-1) }
def DSt.good (s:DSt) (at_:Nat):Bs:=padB ((aget (at_:Int) s.kept).getD [])
def lastOpen (at_:Nat):List (Nat×Bs)→Option Bs
 |[]=>none
 | p :: l => match lastOpen at_ l with
   |some b=>some b
   |none=>if p.1=at_ then some p.2 else none
def DSt.read (s:DSt) (at_:Nat):Bs:=match lastOpen at_ s.opn with
 |some b=>padB b
 |none=>s.good at_
theorem z2b (k:Nat) (p:Nat×Bs):∀l:List (Nat×Bs),lastOpen k (l++[p])=if p.1=k then some p.2 else lastOpen k l
 |[]=>by simp[lastOpen]
 | q :: l => by
   have ih:=z2b k p l
   by_cases hp:p.1=k
   · simp[lastOpen,ih,hp]
   · simp[lastOpen,ih,hp]
theorem z2c {k n:Nat} {l:List (Nat×Bs)} (h:n<l.length):lastOpen k (l.take (n+1))=if l[n].1=k then some l[n].2 else lastOpen k (l.take n):=by
 rw[List.take_succ_eq_append_getElem h,z2b]
inductive All2 {α β:Type} (R:α→β→Prop):List α→List β→Prop
 |nil:All2 R [] []
 |cons {a:α} {b:β} {l:List α} {m:List β}:R a b→All2 R l m→All2 R (a::l) (b::m)
theorem All2.imp {α β:Type} {R S:α→β→Prop} (h:∀a b,R a b→S a b):∀{l:List α} {m:List β},All2 R l m→All2 S l m
 |_,_,.nil=>.nil
 |_,_,.cons h1 h2=>.cons (h _ _ h1) (All2.imp h h2)
theorem All2.imp_mem {α β:Type} {R S:α→β→Prop}:∀{l:List α} {m:List β},(∀a b,a∈l→R a b→S a b)→All2 R l m→All2 S l m
 |_,_,_,.nil=>.nil
 |_,_,h,.cons h1 h2=>.cons (h _ _ (by simp) h1) (All2.imp_mem (fun a b ha=>h a b (List.mem_cons_of_mem _ ha)) h2)
theorem All2.length {α β:Type} {R:α→β→Prop}:∀{l:List α} {m:List β},All2 R l m→l.length=m.length
 |_,_,.nil=>rfl
 |_,_,.cons _ h2=>by simp[All2.length h2]
def KeptAt (F:Nat→Prop) (w:World) (m:Nat) (L:List (Int×Bs)):Prop:=
 ∃M,MapIs w m M∧All2 (fun (p:Int×Value) (q:Int×Bs)=>p.1=q.1∧BytesAt F w p.2 q.2∧q.2.length≤8192) M L
theorem z2d {F:Nat→Prop} {w:World} {k:Int}:∀{M:List (Int×Value)} {L:List (Int×Bs)},All2 (fun (p:Int×Value) (q:Int×Bs)=>p.1=q.1∧BytesAt F w p.2 q.2∧q.2.length≤8192) M L→
 (∃v b,aget k M=some v∧aget k L=some b∧BytesAt F w v b∧b.length≤8192)∨(aget k M=none∧aget k L=none)
 |_,_,.nil=>.inr ⟨rfl,rfl⟩
 | _, _, .cons (a := p) (b := q) h1 h2 => by
   by_cases hk:p.1=k
   · have:q.1=k:=h1.1▸hk
     exact .inl ⟨p.2,q.2,by simp[aget,hk],by simp[aget,this],h1.2.1,h1.2.2⟩
   · have hq:¬q.1=k:=h1.1▸hk
     have ih:=z2d (k:=k) h2
     simpa [aget,hk,hq] using ih
theorem z2e {F:Nat→Prop} {w:World} {k:Int} {v:Value} {b:Bs} (hv:BytesAt F w v b) (hb:b.length≤8192):∀{M:List (Int×Value)} {L:List (Int×Bs)},All2 (fun (p:Int×Value) (q:Int×Bs)=>p.1=q.1∧BytesAt F w p.2 q.2∧q.2.length≤8192) M L→
 All2 (fun (p:Int×Value) (q:Int×Bs)=>p.1=q.1∧BytesAt F w p.2 q.2∧q.2.length≤8192) (aset k v M) (aset k b L)
 |_,_,.nil=>.cons ⟨rfl,hv,hb⟩ .nil
 | _, _, .cons (a := p) (b := q) h1 h2 => by
   by_cases hk:p.1=k
   · have:q.1=k:=h1.1▸hk
     simp only[aset,if_pos hk,if_pos this]
     exact .cons ⟨rfl,hv,hb⟩ h2
   · have hq:¬q.1=k:=h1.1▸hk
     simp only[aset,if_neg hk,if_neg hq]
     exact .cons h1 (z2e hv hb h2)
theorem KeptAt.set {F:Nat→Prop} {w':World} {m:Nat} {L:List (Int×Bs)} {k:Int} {v:Value} {b:Bs} {M:List (Int×Value)} (h2:All2 (fun (p:Int×Value) (q:Int×Bs)=>p.1=q.1∧BytesAt F w' p.2 q.2∧q.2.length≤8192) M L) (hm:MapIs w' m (aset k v M)) (hv:BytesAt F w' v b) (hb:b.length≤8192):KeptAt F w' m (aset k b L):=
 ⟨_,hm,z2e hv hb h2⟩
def DSt.lay (s:DSt) (at_:Nat) (b:Bs) (n:Nat):DSt:={ s with kept:=aset at_ (b.take n++(s.good at_).drop n) s.kept }
def layAll (s : DSt) (l : List (Nat × Bs)) : DSt := l.foldl (fun s p => s.lay p.1 p.2 8192) s
theorem z2f (s:DSt) (l:List (Nat×Bs)) (p:Nat×Bs):layAll s (l++[p])=(layAll s l).lay p.1 p.2 8192:=by simp only[layAll,List.foldl_append,List.foldl_cons,List.foldl_nil]
theorem z2g {s:DSt} {l:List (Nat×Bs)} {n:Nat} (h:n<l.length):layAll s (l.take (n+1))=(layAll s (l.take n)).lay l[n].1 l[n].2 8192:=by
 rw[List.take_succ_eq_append_getElem h];exact z2f _ _ _
def DSt.flush (s:DSt):DSt:={ layAll s s.opn with opn:=[] }
theorem z2h (l:List (Nat×Bs)):∀s:DSt,(layAll s l)={ s with kept:=(layAll s l).kept }:=by
 induction l with
 |nil=>intro s;rfl
 |cons p l ih=>intro s;show layAll (s.lay p.1 p.2 8192) l=_;rw[ih];rfl
inductive OpenCells (F:Nat→Prop) (w:World):List Value→List (Nat×Bs)→Prop
 |nil:OpenCells F w [] []
 |cons {at_:Nat} {v:Value} {b:Bs} {xs:List Value} {l:List (Nat×Bs)}:BytesAt F w v b→b.length=8192→OpenCells F w xs l→OpenCells F w (.int .i64 (at_:Int)::v::xs) ((at_,b)::l)
theorem OpenCells.fr {F C:Nat→Prop} {w w':World} (hf:Fr C w w') (hd:∀b,F b→¬C b):∀{xs:List Value} {l:List (Nat×Bs)},OpenCells F w xs l→OpenCells F w' xs l
 |_,_,.nil=>.nil
 |_,_,.cons h1 h2 h3=>.cons (h1.fr hf hd) h2 (OpenCells.fr hf hd h3)
theorem OpenCells.mono {F F':Nat→Prop} {w:World} (hF:∀b,F b→b<w.heap.size→F' b):∀{xs:List Value} {l:List (Nat×Bs)},OpenCells F w xs l→OpenCells F' w xs l
 |_,_,.nil=>.nil
 |_,_,.cons h1 h2 h3=>.cons (h1.mono hF) h2 (OpenCells.mono hF h3)
theorem OpenCells.snoc {F:Nat→Prop} {w:World} {at_:Nat} {v:Value} {b:Bs} (h1:BytesAt F w v b) (h2:b.length=8192):∀{xs:List Value} {l:List (Nat×Bs)},OpenCells F w xs l→OpenCells F w (xs++[.int .i64 (at_:Int),v]) (l++[(at_,b)])
 |_,_,.nil=>.cons h1 h2 .nil
 |_,_,.cons a b c=>.cons a b (OpenCells.snoc h1 h2 c)
theorem OpenCells.at_ {F:Nat→Prop} {w:World}:∀{xs:List Value} {l:List (Nat×Bs)} (i:Nat) (hi:i<l.length),OpenCells F w xs l→xs[i*2]?=some (.int .i64 (l[i].1:Int))∧∃v,xs[i*2+1]?=some v∧BytesAt F w v l[i].2∧l[i].2.length=8192
 |_,_,i,hi,.nil=>by simp at hi
 |_,_,0,hi,.cons h1 h2 h3=>⟨rfl,_,rfl,h1,h2⟩
 | _, _, i + 1, hi, .cons h1 h2 h3 => by
   have:=OpenCells.at_ i (by simpa using hi) h3
   rw[show(i+1)*2=i*2+1+1 by omega]
   exact this
structure DiskAt (dT oT:Nat) (F:Nat→Prop) (w:World) (d m:Nat) (ov:Value) (s:DSt):Prop where
 blk:w.heap[d]?=some (.cells #[.int .i64 s.blocks,.map (some m),ov,.bool s.down,.int .i64 s.life,.int .i64 s.after,.int .u64 s.keep,.int .i64 s.torn,.int .i64 s.cut] dT (0,0))
 kept:KeptAt F w m s.kept
 opn:∃xs,w.ownsRow 0 oT 2 ov s.opn.length xs∧OpenCells F w xs s.opn
 small:s.opn.length≤100000
theorem KeptAt.fr {F C:Nat→Prop} {w w':World} {m:Nat} {L:List (Int×Bs)} (h:KeptAt F w m L) (hf:Fr C w w') (hm:¬C m) (hd:∀b,F b→¬C b):KeptAt F w' m L:=by
 obtain⟨M,h1,h2⟩:=h
 exact⟨M,h1.fr hf hm,h2.imp (fun _ _ h=>⟨h.1,h.2.1.fr hf hd,h.2.2⟩)⟩
theorem KeptAt.mono {F F':Nat→Prop} {w:World} {m:Nat} {L:List (Int×Bs)} (h:KeptAt F w m L) (hF:∀b,F b→b<w.heap.size→F' b):KeptAt F' w m L:=by
 obtain⟨M,h1,h2⟩:=h
 exact⟨M,h1,h2.imp (fun _ _ h=>⟨h.1,h.2.1.mono hF,h.2.2⟩)⟩
theorem KeptAt.le {F:Nat→Prop} {w:World} {m:Nat} {L:List (Int×Bs)} (h:KeptAt F w m L) (k:Int):((aget k L).getD []).length≤8192:=by
 obtain⟨M,h1,h2⟩:=h
 rcases z2d h2 (k:=k) with⟨v,b,e1,e2,e3,e4⟩|⟨e1,e2⟩<;>rw[e2]
 · exact e4
 · exact Nat.zero_le _
theorem DiskAt.good_length {dT oT:Nat} {F:Nat→Prop} {w:World} {d m:Nat} {ov:Value} {s:DSt} (h:DiskAt dT oT F w d m ov s) (k:Nat):(s.good k).length=8192:=z27 (h.kept.le k)
theorem Fr.blk {C:Nat→Prop} {w w':World} (h:Fr C w w') {d:Nat} {o:Obj} (hb:w.heap[d]?=some o) (hd:¬C d):w'.heap[d]?=some o:=
 (h.block d (Array.getElem?_eq_some_iff.1 hb).1 hd).trans hb
theorem DiskAt.fr {dT oT:Nat} {F C:Nat→Prop} {w w':World} {d m:Nat} {ov:Value} {s:DSt} (h:DiskAt dT oT F w d m ov s) (hf:Fr C w w') (h1:¬C d) (h2:¬C m) (h3:∀b,ov.ownBlock=some b→¬C b) (hd:∀b,F b→¬C b):DiskAt dT oT F w' d m ov s:=by
 obtain⟨xs,o1,o2⟩:=h.opn
 exact⟨hf.blk h.blk h1,h.kept.fr hf h2 hd,⟨xs,z0m o1 hf h3,o2.fr hf hd⟩,h.small⟩
theorem DiskAt.fr0 {dT oT:Nat} {F:Nat→Prop} {w w':World} {d m:Nat} {ov:Value} {s:DSt} (h:DiskAt dT oT F w d m ov s) (hf:Fr C0 w w'):DiskAt dT oT F w' d m ov s:=
 h.fr hf (fun h=>h) (fun h=>h) (fun _ _ h=>h) (fun _ _ h=>h)
theorem z2i {w:World} {d:Nat} (i:Nat) {cs:Array Value} {e:Nat} (h:w.heap[d]?=some (.cells cs e (0,0))):w.frozen? ⟨d,i,none⟩=false:=by simp[World.frozen?,h]
theorem z2j {w:World} {d i:Nat} {cs:Array Value} {e:Nat} {fr:Nat×Nat} (h:w.heap[d]?=some (.cells cs e fr)) (v:Value):(w.setCell ⟨d,i,none⟩ v).heap[d]?=some (.cells (cs.setIfInBounds i v) e fr):=by
 have hlt:=(Array.getElem?_eq_some_iff.1 h).1
 have h':=(Array.getElem?_eq_some_iff.1 h).2
 show(w.heap.modify d _)[d]?=_
 rw[Array.getElem?_eq_getElem (by simpa using hlt),Array.getElem_modify_self,h']
 rfl
theorem z2k {w:World} {d:Nat} {cs:Array Value} {e:Nat} {fr:Nat×Nat} (h:w.heap[d]?=some (.cells cs e fr)) (i:Nat) {v:Value} (hv:cs[i]?=some v):w.cell? ⟨d,i,none⟩=some v:=by
 rw[cell_of_row w d i cs e fr h];exact hv
structure DiskOk (dT oT:Nat) (c:Nat→Nat) (r:Nat) (w:World) (d:Nat) (s:DSt):Prop where
 ex:∃m ov,DiskAt dT oT (Dt c) w d m ov s∧c d=r∧c m=r∧(∀b,ov.ownBlock=some b→c b=r)
theorem DiskOk.ag {dT oT:Nat} {c c':Nat→Nat} {r:Nat} {w:World} {d:Nat} {s:DSt} (h:DiskOk dT oT c r w d s) (ha:Ag w.heap.size c c'):DiskOk dT oT c' r w d s:=by
 obtain⟨m,ov,a,e1,e2,e3⟩:=h
 obtain⟨xs,o1,o2⟩:=a.opn
 refine⟨m,ov,⟨a.blk,a.kept.mono fun b hb hl=>(ha b hl).trans hb,⟨xs,o1,o2.mono fun b hb hl=>(ha b hl).trans hb⟩,a.small⟩,(ha _ (Array.getElem?_eq_some_iff.1 a.blk).1).trans e1,?_,fun b hb=>(ha b (o1.lt b hb).2).trans (e3 b hb)⟩
 obtain⟨M,k1,k2⟩:=a.kept
 exact(ha _ k1.lt).trans e2
theorem z2l {P:Program} {fn:Func} {R:Ending→World→Prop} {p u:Tmp} {ty:TypeId} (h:fn.results=#[.cell p ty,.tmp u]) {a:Act} {w:World} {g:Nat} {cs:Array Value} {d:TypeDesc} {t:TypeId} {fr:Nat×Nat}
 (hp:a.tmps.getD p undef=.pointer (some ⟨g,0,none⟩)) (hg:w.heap[g]?=some (.cells cs t fr)) (hu:P.underlying ty=some d) (hd:(match d with|.struct _|.array _ _=>true|_=>false)=true) (hi:(P.info? ty).map (·.size)=some cs.size)
 (hdef:a.defers=[]) (hR:R (.returned (.tuple #[.agg cs,a.tmps.getD u undef])) w):bodyPost P fn R .ret a w:=by
 refine bodyPost_ret_by (v:=.tuple #[.agg cs,a.tmps.getD u undef]) ?_ hdef hR
 rw[results_cell_tmp h,hp]
 simp only[asAddr,Sem.run_pure,Result.andThen_ok,run_loadVar_row w g t ty cs fr d hg hu hd hi]
theorem DiskAt.mono {dT oT:Nat} {F F':Nat→Prop} {w:World} {d m:Nat} {ov:Value} {s:DSt} (h:DiskAt dT oT F w d m ov s) (hF:∀b,F b→b<w.heap.size→F' b):DiskAt dT oT F' w d m ov s:=by
 obtain⟨xs,o1,o2⟩:=h.opn
 exact⟨h.blk,h.kept.mono hF,⟨xs,o1,o2.mono hF⟩,h.small⟩
def DSt.write (D:DSt) (k:Nat) (b:Bs):DSt:={ D with opn:=D.opn++[(k,padB b)] }
theorem z2m {c:Nat→Nat} {o o':Option Nat} {r n:Nat} (ho:∀b,o=some b→c b=r) (h:∀b,o'=some b→o=some b∨n≤b):Ag n c (setc c o' r):=fun b hb=>by
 unfold setc
 split
 · rename_i e
   rcases h b e with h|h
   · exact(ho b h).symm
   · omega
 · rfl
end
end Go.H
namespace Go.Proofs.YtidalepbkljkpaaGreat
open Go.RowKit Go.H
section
theorem z2n {P:Program} {t e size bytes:Nat} {z:Value} (hu:P.underlying t=some (.slice e)) (hi:(P.info? e).map (fun i=>(i.zero,i.size,i.bytes))=some (some z,size,bytes)) (hz:z.cells.size=size) (hp:0<size):SlTy P t e size bytes:=by
 obtain⟨i,h1,h2,h3,h4⟩:=info_parts hi
 exact⟨hu,⟨i,z,h1,h2,h3,h4,hz⟩,hp⟩
theorem z2o:SlTy Tryz.prog 40 5 1 1:=z2n Tryz.underlying40 (z:=.int .u8 0) (by kernel_rfl) rfl (by decide)
theorem z2p:SlTy Tryz.prog 191 200 2 48:=z2n Tryz.underlying191 (z:=.agg #[.slice none 0 0,.slice none 0 0]) (by kernel_rfl) rfl (by decide)
theorem z2q:SlTy Tryz.prog 196 20 1 16:=z2n Tryz.underlying196 (z:=.nilIface) (by kernel_rfl) rfl (by decide)
theorem z2r:SlTy Tryz.prog 47 3 1 8:=z2n Tryz.underlying47 (z:=.int .i64 0) (by kernel_rfl) rfl (by decide)
theorem z2s:SlTy Tryz.prog 29 42 3 56:=z2n Tryz.underlying29 (z:=.agg #[.int .i64 0,.slice none 0 0,.slice none 0 0]) (by kernel_rfl) rfl (by decide)
theorem z2t:SlTy Tryz.prog 111 125 2 32:=z2n Tryz.underlying111 (z:=.agg #[.int .i64 0,.slice none 0 0]) (by kernel_rfl) rfl (by decide)
end
end Go.Proofs.YtidalepbkljkpaaGreat
