import Derived.Test.YtidalepbkljkpaaGreatDraftSame03
import Derived.Test.YtidalepbkljkpaaGreatDraftSame15
set_option linter.all false
namespace Go.H
open Go.RowKit
section
section
variable {P : Program} {ops : Array Oper} {Q : Exit → Act → World → Prop} {md : Region.Mode} {S : World → Prop} {late : Nat → Bool}
theorem z8p {i:Nat} {oi:Oper} {v:Value} (hi:ops[i]?=some oi) (hl:late i=true) (hsel:∀(j:Nat) (o:Oper) cs b,ops[j]?=some o→o.op≠.select cs b)
 (hQ:∀c a w,Q (.panic c) (a.put oi.dst v) w→Q (.panic c) a w) :
 ∀ (fuel : Nat) (listed : Array Bool) (a : Act) (w : World),
   (∀j oj,ops[j]?=some oj→j≠i→listed.getD j true=false→(∀e∈oj.after,Region.binds md e=true→e.on≠i)→oi.apart ops oj=true)→
   i∈Region.ready md ops listed→YieldsIf P ops (fun _=>True) oi v a→
   wpAnyL P md ops Q S late fuel (listed.setIfInBounds i true) (a.put oi.dst v) w→wpAnyL P md ops Q S late (fuel+1) listed a w:=by
 intro fuel
 induction fuel with
 | zero =>
   intro listed a w _ hr hy H
   refine⟨fun h=>(by rw[h] at hr;cases hr),fun j hj=>?_⟩
   by_cases hji:j=i
   · subst hji;exact hy.wpOp hi trivial ⟨fun h=>(by rw[hl] at h;cases h),H⟩
   · have:=ready_mono hj hji
     rw[H.1] at this
     cases this
 | succ fuel ih =>
   intro listed a w hfree hr hy H
   refine⟨fun h=>(by rw[h] at hr;cases hr),fun j hj=>?_⟩
   by_cases hji:j=i
   · subst hji;exact hy.wpOp hi trivial ⟨fun h=>(by rw[hl] at h;cases h),H⟩
   · have h1:=H.2 j (ready_mono hj hji)
     obtain⟨hjun,oj,hoj,hall⟩:=mem_ready.1 hj
     have hnot:∀e∈oj.after,Region.binds md e=true→e.on≠i:=fun e he hb heq=>by
      have h1:=hall e he hb
      have h0:=(mem_ready.1 hr).1
      rw[heq] at h1
      rcases Nat.lt_or_ge i listed.size with h'|h'
      · simp[h'] at h0 h1;rw[h0] at h1;cases h1
      · simp[Array.getElem?_eq_none h'] at h1
     have h2:=wpOp_putIf hoj (hfree j oj hoj hji hjun hnot) (fun cs b=>hsel i oi cs b hi) (fun cs b=>hsel j oj cs b hoj) hQ hy h1
     have hfree':∀k ok,ops[k]?=some ok→k≠i→(listed.setIfInBounds j true).getD k true=false→
      (∀e∈ok.after,Region.binds md e=true→e.on≠i)→oi.apart ops ok=true:=fun k ok hk hki hun hno=>by
      refine hfree k ok hk hki ?_ hno
      by_cases hjk:j=k
      · subst hjk;exact hjun
      · rw[getD_set_ne true hjk] at hun;exact hun
     refine wpOp_mono (fun a' w' h3=>⟨h3.2.1,ih (listed.setIfInBounds j true) a' w' hfree' (ready_mono hr (Ne.symm hji)) h3.1 ?_⟩) h2
     rw[Array.setIfInBounds_comm _ _ hji]
     exact h3.2.2
theorem tkT (i:Nat) {d_:Option Tmp} {op_:Op} {ty_:TypeId} {ps_:String} {af_:Array Edge} {gd_:Option (Nat×Bool)} {v:Value} {a':Act} {fuel:Nat} {listed:Array Bool} {a:Act} {w:World} (h:wpAnyL P md ops Q S late fuel (listed.setIfInBounds i true) a' w)
 (hi:ops[i]?=some (⟨d_,op_,ty_,ps_,af_,gd_⟩:Oper):=by rfl)
 (hy:∀w,(execOp a.eval (⟨d_,op_,ty_,ps_,af_,gd_⟩:Oper)).run P w=.ok (.value v) w:=by(intro w_;first|(go_simp;done)|(go_simp;with_reducible rfl)))
 (hp:a.put d_ v=a':=by(first|(simp only[Act.put,zs1,zs2,zs3];done)|(simp only[Act.put,zs1,zs2,zs3];exact rfl)|exact rfl))
 (hw:Region.wanted (⟨d_,op_,ty_,ps_,af_,gd_⟩:Oper) (yielded ops a.tmps)=true:=by rfl) (hl:late i=true:=by kernel_rfl)
 (hs:(Region.noSelect ops && Region.free md ops listed i && (Region.ready md ops listed).contains i)=true:=by kernel_rfl)
 (hQ:∀c a w,Q (.panic c) (a.put d_ v) w→Q (.panic c) a w:=by exact fun _ _ _ h=>h):wpAnyL P md ops Q S late (fuel+1) listed a w:=by
 subst hp
 simp only[Bool.and_eq_true] at hs
 obtain⟨⟨s1,s2⟩,s3⟩:=hs
 exact z8p hi hl (Region.noSelect_spec s1) hQ fuel listed a w (Region.free_spec hi s2) (by simpa using s3) (.inl ⟨hw,fun w _=>hy w⟩) h
def lateOK2 (md:Region.Mode) (ops:Array Oper) (late:Nat→Bool) (listed:Array Bool) (i:Nat):Bool:=
 let D:=desc md ops i
 (List.range ops.size).all (fun j=>!late j || D.contains j || listed.getD j true) &&
 D.all fun x=>(listed.getD x true == false) && (match ops[x]? with
  |some o=>o.after.any (fun e=>Region.binds md e && (e.on == i || D.contains e.on))
  |none=>false)
theorem z8q {i:Nat} {listed:Array Bool} (h:lateOK2 md ops late listed i=true):∃D,(∀j oj,ops[j]?=some oj→late j=true→listed.getD j true=false→j∈D)∧Waits md ops i D∧∀x∈D,listed.getD x true=false:=by
 simp only[lateOK2,Bool.and_eq_true,List.all_eq_true,List.mem_range] at h
 refine⟨desc md ops i,fun j oj hj hl hu=>?_,fun x hx=>?_,fun x hx=>?_⟩
 · have h1:=h.1 j (Array.getElem?_eq_some_iff.1 hj).1
   rw[hl,hu] at h1
   simpa using h1
 · have h1:=(h.2 x hx).2
   cases ho:ops[x]? with
   |none=>rw[ho] at h1;cases h1
   | some o =>
     rw[ho] at h1
     obtain⟨e,he,hb⟩:=Array.any_eq_true'.1 h1
     simp only[Bool.and_eq_true,Bool.or_eq_true,beq_iff_eq,List.contains_eq_mem,decide_eq_true_eq] at hb
     exact⟨o,rfl,e,he,hb⟩
 · simpa using (h.2 x hx).1
theorem z8r {i:Nat} {oi:Oper} {v:Value} (hi:ops[i]?=some oi) (hsel:∀(j:Nat) (o:Oper) cs b,ops[j]?=some o→o.op≠.select cs b)
 (hQ:∀c a w,Q (.panic c) (a.put oi.dst v) w→Q (.panic c) a w) {D:List Nat} (hD2:Waits md ops i D) :
 ∀ (fuel : Nat) (listed : Array Bool) (a : Act) (w : World), (∀ j oj, ops[j]? = some oj → late j = true → listed.getD j true = false → j ∈ D) → (∀ x ∈ D, listed.getD x true = false) →
   (∀j oj,ops[j]?=some oj→j≠i→listed.getD j true=false→(∀e∈oj.after,Region.binds md e=true→e.on≠i)→oi.apart ops oj=true)→
   i∈Region.ready md ops listed→YieldsIf P ops S oi v a→S w→
   wpAnyL P md ops Q S late fuel (listed.setIfInBounds i true) (a.put oi.dst v) w→wpAnyL P md ops Q S late (fuel+1) listed a w:=by
 intro fuel
 induction fuel with
 | zero =>
   intro listed a w _ _ _ hr hy hS H
   refine⟨fun h=>(by rw[h] at hr;cases hr),fun j hj=>?_⟩
   by_cases hji:j=i
   · subst hji;exact hy.wpOp hi hS ⟨fun _=>hS,H⟩
   · have:=ready_mono hj hji
     rw[H.1] at this
     cases this
 | succ fuel ih =>
   intro listed a w hD1 hDl hfree hr hy hS H
   refine⟨fun h=>(by rw[h] at hr;cases hr),fun j hj=>?_⟩
   by_cases hji:j=i
   · subst hji;exact hy.wpOp hi hS ⟨fun _=>hS,H⟩
   · have h1:=H.2 j (ready_mono hj hji)
     obtain⟨hjun,oj,hoj,hall⟩:=mem_ready.1 hj
     have hnot:∀e∈oj.after,Region.binds md e=true→e.on≠i:=fun e he hb heq=>by
      have h1:=hall e he hb
      have h0:=(mem_ready.1 hr).1
      rw[heq] at h1
      rcases Nat.lt_or_ge i listed.size with h'|h'
      · simp[h'] at h0 h1;rw[h0] at h1;cases h1
      · simp[Array.getElem?_eq_none h'] at h1
     have hjD:j∉D:=fun hjD=>by
      obtain⟨o,ho,e,he,hb,hor⟩:=hD2 j hjD
      obtain rfl:o=oj:=by rw[hoj] at ho;exact(Option.some.inj ho).symm
      rcases hor with heq|hin
      · exact hnot e he hb heq
      · have h1:=hall e he hb
        have h0:=hDl _ hin
        rcases Nat.lt_or_ge e.on listed.size with h'|h'
        · simp[h'] at h0 h1;rw[h0] at h1;cases h1
        · simp[Array.getElem?_eq_none h'] at h1
     have hjl:late j=false:=by
      cases h:late j with
      |false=>rfl
      |true=>exact absurd (hD1 j oj hoj h hjun) hjD
     have hDl':∀x∈D,(listed.setIfInBounds j true).getD x true=false:=fun x hx=>by
      have hne:j≠x:=by rintro rfl;exact hjD hx
      rw[getD_set_ne true hne];exact hDl x hx
     have hD1':∀k ok,ops[k]?=some ok→late k=true→(listed.setIfInBounds j true).getD k true=false→k∈D:=fun k ok hk hlk hun=>by
      refine hD1 k ok hk hlk ?_
      by_cases hjk:j=k
      · subst hjk;exact hjun
      · rw[getD_set_ne true hjk] at hun;exact hun
     have h2:=wpOp_putIf hoj (hfree j oj hoj hji hjun hnot) (fun cs b=>hsel i oi cs b hi) (fun cs b=>hsel j oj cs b hoj) hQ hy h1
     have hfree':∀k ok,ops[k]?=some ok→k≠i→(listed.setIfInBounds j true).getD k true=false→
      (∀e∈ok.after,Region.binds md e=true→e.on≠i)→oi.apart ops ok=true:=fun k ok hk hki hun hno=>by
      refine hfree k ok hk hki ?_ hno
      by_cases hjk:j=k
      · subst hjk;exact hjun
      · rw[getD_set_ne true hjk] at hun;exact hun
     refine wpOp_mono (fun a' w' h3=>⟨h3.2.1,ih (listed.setIfInBounds j true) a' w' hD1' hDl' hfree' (ready_mono hr (Ne.symm hji)) h3.1 (h3.2.1 hjl) ?_⟩) h2
     rw[Array.setIfInBounds_comm _ _ hji]
     exact h3.2.2
theorem tkU (i:Nat) {d_:Option Tmp} {op_:Op} {ty_:TypeId} {ps_:String} {af_:Array Edge} {gd_:Option (Nat×Bool)} {v:Value} {a':Act} {fuel:Nat} {listed:Array Bool} {a:Act} {w:World} (hS:S w) (h:wpAnyL P md ops Q S late fuel (listed.setIfInBounds i true) a' w)
 (hi:ops[i]?=some (⟨d_,op_,ty_,ps_,af_,gd_⟩:Oper):=by rfl)
 (hy:∀w,S w→(execOp a.eval (⟨d_,op_,ty_,ps_,af_,gd_⟩:Oper)).run P w=.ok (.value v) w:=by(intro w_ hS_;first|(go_simp;done)|(go_simp;with_reducible rfl)))
 (hp:a.put d_ v=a':=by(first|(simp only[Act.put,zs1,zs2,zs3];done)|(simp only[Act.put,zs1,zs2,zs3];exact rfl)|exact rfl))
 (hw:Region.wanted (⟨d_,op_,ty_,ps_,af_,gd_⟩:Oper) (yielded ops a.tmps)=true:=by rfl)
 (hs:(Region.noSelect ops && Region.free md ops listed i && (Region.ready md ops listed).contains i && lateOK2 md ops late listed i)=true:=by kernel_rfl)
 (hQ:∀c a w,Q (.panic c) (a.put d_ v) w→Q (.panic c) a w:=by exact fun _ _ _ h=>h):wpAnyL P md ops Q S late (fuel+1) listed a w:=by
 subst hp
 simp only[Bool.and_eq_true] at hs
 obtain⟨⟨⟨s1,s2⟩,s3⟩,s4⟩:=hs
 obtain⟨D,d1,d2,d3⟩:=z8q s4
 exact z8r hi (Region.noSelect_spec s1) hQ d2 fuel listed a w d1 d3 (Region.free_spec hi s2) (by simpa using s3) (.inl ⟨hw,hy⟩) hS h
end
end
end Go.H
namespace Go.Proofs.YtidalepbkljkpaaGreat
open Go.RowKit Go.H
set_option maxHeartbeats 1000000
set_option maxRecDepth 100000
section
theorem z8s {F:Nat→Prop} {w:World} {v:Value} {l:List UInt8} (h:BytesAt F w v l) (hn:l.length≤100000) :
 Calls Tryz.prog 53 #[v] w fun e w'=>∃v',e=.returned v'∧Fr C0 w w'∧w'.ownsRow w.heap.size 5 1 v' l.length (l.map bv):=by
 have HR:=zhd (h.row.mono (F':=fun b=>b<w.heap.size) (fun b _ h=>h))
 obtain⟨A,c,rfl,h1,h2⟩:=h.form
 cases A with
 | none =>
   have hl:l=[]:=by
    cases l with
    |nil=>rfl
    |cons x l=>obtain⟨A',c',he,_,_,h3⟩:=h;injection he with e1;subst e1;obtain⟨g,o,h4,_⟩:=h3 (by simp);cases h4
   subst hl
   go_enter Tryz.func53,Tryz.ntmps53
   go_wp2
   go_ret
   exact⟨_,rfl,Fr.refl _ _,World.ownsRow_nil _ _ _ _⟩
 | some a =>
   go_enter Tryz.func53,Tryz.ntmps53
   go_wp2_with (at_builtin;go_must (refine z0k z1y rfl _ _ rfl (v:=.slice (some ⟨w.heap.size,0,none⟩) 0 0) (xv:=.slice (some a) l.length c) rfl rfl (B:=w.heap.size) (World.ownsRow_lit w #[] 0 (Nat.le_refl _) (by unfold maxLen;omega) rfl) (HR.out.fr0 ((Fr.refl C0 w).alloc _)) (z0x l) (by unfold maxLen;omega) (by omega) (by simp) ?_);intro v2 w2 o2 f2 k2 nil2)
   go_ret
   refine⟨v2,rfl,((Fr.refl C0 w).alloc _).transO f2 (fun b e=>by simp[Value.ownBlock] at e;omega),by simpa using o2⟩
theorem z8t {F:Nat→Prop} {w:World} {v:Value} {l:List UInt8} (h:BytesAt F w v l) (hn:l.length≤100000) :
 Calls Tryz.prog 53 #[v] w fun e w'=>∃v',e=.returned v'∧Fr C0 w w'∧BytesAt (fun b=>w.heap.size≤b) w' v' l:=by
 refine(z8s h hn).mono ?_
 rintro e w' ⟨v',rfl,f,o⟩
 exact⟨v',rfl,f,BytesAt.ofOwn o (fun b e=>(o.lt b e).1)⟩
theorem z8u:SlTy Tryz.prog 31 57 4 64:=z1x Tryz.underlying31 (z:=.agg #[.int .i64 0,.slice none 0 0,.slice none 0 0,.bool false]) (by kernel_rfl) rfl (by decide)
theorem z8v {F G:Nat→Prop} {w:World} {kv vv:Value} {k v:Bs} {s:Int} (hk:BytesAt F w kv k) (hv:BytesAt G w vv v) :
 Calls Tryz.prog 75 #[.int .i64 s,kv,vv] w fun e w'=>e=.returned (.int .i64 (rightL s k v false:Int))∧w=w':=by
 obtain⟨A,c,rfl,-⟩:=hk.form
 obtain⟨A',c',rfl,-⟩:=hv.form
 clear hk hv
 unfold rightL
 by_cases h1:s<0
 · rw[if_pos (.inl h1)]
   go_enter Tryz.func75,Tryz.ntmps75
   go_wp2
   go_ret
   exact⟨rfl,rfl⟩
 · by_cases h2:16≤s
   · rw[if_pos (.inr (.inl h2))]
     go_enter Tryz.func75,Tryz.ntmps75
     go_wp2
     go_ret
     exact⟨rfl,rfl⟩
   · by_cases h3:k=[]
     · rw[if_pos (.inr (.inr ⟨h3,rfl⟩))]
       subst h3
       go_enter Tryz.func75,Tryz.ntmps75
       go_wp2
       go_ret
       exact⟨rfl,rfl⟩
     · rw[if_neg (by rintro(h|h|h);exact h1 h;exact h2 h;exact h3 h.1)]
       have h4:((k.length:Int) == 0)=false:=beq_false_of_ne (fun e=>h3 (List.eq_nil_of_length_eq_zero (by omega)))
       clear h3
       by_cases h5:60<k.length
       · rw[if_pos (.inl h5)]
         have h6:(60:Int)<(k.length:Int):=by omega
         go_enter Tryz.func75,Tryz.ntmps75
         go_wp2
         go_ret
         exact⟨rfl,rfl⟩
       · have h6:¬(60:Int)<(k.length:Int):=by omega
         by_cases h7:1800<v.length
         · rw[if_pos (.inr h7)]
           have h8:(1800:Int)<(v.length:Int):=by omega
           go_enter Tryz.func75,Tryz.ntmps75
           go_wp2
           go_ret
           exact⟨rfl,rfl⟩
         · rw[if_neg (by omega)]
           have h8:¬(1800:Int)<(v.length:Int):=by omega
           go_enter Tryz.func75,Tryz.ntmps75
           go_wp2
           go_ret
           exact⟨rfl,rfl⟩
structure DrfAt (c:Nat→Nat) (w:World) (dp sp tp:Nat) (Z:TSt) (lv:Value) (L:List Chg):Prop where
 s:LocAt c w sp tp Z 0
 em:rootL Z.now=[]
 blk:w.heap[dp]?=some (.cells #[.pointer (some ⟨sp,0,none⟩),lv] 102 (0,0))
 own:c dp=7
 row:∃xs,w.ownsRow 0 57 4 lv L.length xs∧ChgCells (Dt c) w xs L
 l7:∀b,lv.ownBlock=some b→c b=7
 ok:∀x∈L,okC x
variable {c c' : Nat → Nat} {w w' : World} {dp sp tp : Nat} {Z : TSt} {lv : Value} {L : List Chg}
theorem DrfAt.fr0 (h:DrfAt c w dp sp tp Z lv L) (hf:Fr C0 w w'):DrfAt c w' dp sp tp Z lv L:=by
 obtain⟨xs,a,b⟩:=h.row
 exact⟨h.s.fr0 hf,h.em,hf.blk h.blk (fun e=>e),h.own,⟨xs,z0l a hf (fun _ _ e=>e),b.fr hf (fun _ _ e=>e)⟩,h.l7,h.ok⟩
theorem DrfAt.cl (h:DrfAt c w dp sp tp Z lv L):Cl w c:=h.s.cl
theorem DrfAt.form (h:DrfAt c w dp sp tp Z lv L):∃A cp,lv=.slice A L.length cp∧L.length≤cp∧cp≤maxLen∧∀a,A=some a→∃g,a=⟨g,0,none⟩:=by
 obtain⟨xs,a,b⟩:=h.row
 rcases a.2 with⟨rfl,e⟩|⟨g,cap,cur,rfl,_,_,h3,h4,_⟩
 · exact⟨none,0,by rw[e],by omega,by unfold maxLen;omega,by simp⟩
 · exact⟨_,cap,rfl,h3,h4,fun a e=>⟨g,by injection e with e;exact e.symm⟩⟩
theorem DrfAt.chgs (h:DrfAt c w dp sp tp Z lv L):ChgsAt (fun _=>True) w lv L:=by
 obtain⟨xs,a,b⟩:=h.row
 exact⟨xs,Row.ofOwn a (fun _ _=>trivial),b.mono fun _ _ _=>trivial⟩
theorem DrfAt.c1 (h:DrfAt c w dp sp tp Z lv L):w.cell? ⟨dp,1,none⟩=some lv:=z1u h.blk 1 rfl
theorem DrfAt.c0 (h:DrfAt c w dp sp tp Z lv L):w.cell? ⟨dp,0,none⟩=some (.pointer (some ⟨sp,0,none⟩)):=z1u h.blk 0 rfl
theorem LocAt.mv7 {C:Nat→Prop} {pos:Nat} (h:LocAt c w sp tp Z pos) (hf:Fr C w w') (ha:Ag w.heap.size c c') (hc:Cl w' c') (h7:∀b,C b→b<w.heap.size∧c b=7) (hs:¬C sp):LocAt c' w' sp tp Z pos:=by
 have h8:∀b,C b→c' b=7:=fun b e=>(ha b (h7 b e).1).trans (h7 b e).2
 refine⟨h.t.moveC hf ha hc (fun b e=>?_) (fun b e=>?_) (fun b e=>?_) (fun b e=>?_),hf.blk h.blk hs,(ha sp (Array.getElem?_eq_some_iff.1 h.blk).1).trans h.own,h.ok⟩
 all_goals
  have:=h8 b e
  omega
theorem z8w {w1 w2:World} {lv2 kv vv:Value} {xs:List Value} {x:Chg} (h:DrfAt c w dp sp tp Z lv L) (hx:ChgCells (Dt c) w xs L) (hov:w.ownsRow 0 57 4 lv L.length xs) (f1:Fr C0 w w1) (hk:BytesAt (fun b=>w.heap.size≤b) w1 kv x.key) (hv:BytesAt (fun b=>w.heap.size≤b) w1 vv x.value)
 (f2:Fr (fun b=>lv.ownBlock=some b) w1 w2) (o2:w2.ownsRow 0 57 4 lv2 (L.length+1) (xs++[.int .i64 x.space,kv,vv,.bool x.gone])) (k2:∀b,lv2.ownBlock=some b→lv.ownBlock=some b∨w1.heap.size≤b) (hok:okC x) :
 ∃c',Ag w.heap.size c c'∧Fr (fun b=>c b=7) w (w2.setCell ⟨dp,1,none⟩ lv2)∧DrfAt c' (w2.setCell ⟨dp,1,none⟩ lv2) dp sp tp Z lv2 (L++[x]):=by
 have s1:=f1.size
 have s2:=f2.size
 have hdp:=(Array.getElem?_eq_some_iff.1 h.blk).1
 have hsp:=(Array.getElem?_eq_some_iff.1 h.s.blk).1
 have cl:=h.cl
 have hne:¬lv.ownBlock=some dp:=fun e=>by
  rcases hov.2 with⟨e1,_⟩|⟨g,cap,cur,e1,_,hg,_⟩
  · rw[e1] at e;simp[Value.ownBlock] at e
  · rw[e1] at e
    simp[Value.ownBlock] at e
    subst e
    rw[h.blk] at hg
    injection hg with hg
    injection hg with h4 h5
    exact absurd h5 (by decide)
 have hnsp:¬lv.ownBlock=some sp:=fun e=>by
  rcases hov.2 with⟨e1,_⟩|⟨g,cap,cur,e1,_,hg,_⟩
  · rw[e1] at e;simp[Value.ownBlock] at e
  · rw[e1] at e
    simp[Value.ownBlock] at e
    subst e
    rw[h.s.blk] at hg
    injection hg with hg
    injection hg with h4 h5
    exact absurd h5 (by decide)
 have hds:sp≠dp:=fun e=>by
  have:=h.s.blk
  rw[e,h.blk] at this
  injection this with this
  injection this with h4 h5
  exact absurd h5 (by decide)
 have hC:∀b,(lv.ownBlock=some b∨b=dp)→b<w.heap.size∧c b=7:=fun b e=>by
  rcases e with e|e
  · exact⟨(hov.lt b e).2,h.l7 b e⟩
  · rw[e];exact⟨hdp,h.own⟩
 have F2:Fr (fun b=>lv.ownBlock=some b) w w2:=(f1.mono (fun _ _ e=>e.elim)).trans f2 (fun _ _ e=>e)
 have F:Fr (fun b=>lv.ownBlock=some b∨b=dp) w (w2.setCell ⟨dp,1,none⟩ lv2):=(F2.mono (fun _ _ e=>.inl e)).setCell (p:=⟨dp,1,none⟩) (.inr (.inr rfl)) lv2
 have fs:=(Fr.refl (fun b=>b=dp) w2).setCell (p:=⟨dp,1,none⟩) (.inr rfl) lv2
 have hn2:¬lv2.ownBlock=some dp:=fun e=>by
  rcases k2 dp e with e|e
  · exact hne e
  · omega
 obtain⟨c',hc'⟩:∃c':Nat→Nat,c'=fun b=>if lv2.ownBlock=some b then 7 else c b:=⟨_,rfl⟩
 have ag:Ag w.heap.size c c':=fun b hb=>by
  rw[hc']
  by_cases e:lv2.ownBlock=some b
  · show(if _ then 7 else c b)=c b
    rw[if_pos e]
    rcases k2 b e with e|e
    · exact(h.l7 b e).symm
    · omega
  · show(if _ then 7 else c b)=c b
    rw[if_neg e]
 have cl':Cl (w2.setCell ⟨dp,1,none⟩ lv2) c':=fun b hb=>by
  rw[hc']
  have hb2:w2.heap.size≤b:=by simpa [World.setCell] using hb
  show(if _ then 7 else c b)=0
  rw[if_neg,cl b (by omega)]
  intro e
  have:=(o2.lt b e).2
  omega
 have nw:∀{u:Value} {y:Bs},BytesAt (fun b=>w.heap.size≤b) w1 u y→BytesAt (Dt c') (w2.setCell ⟨dp,1,none⟩ lv2) u y:=fun hb=>
  (((hb.mono (F' := fun b => w.heap.size ≤ b ∧ b < w1.heap.size) (fun b hb hl => ⟨hb, hl⟩)).fr f2 (fun b hb e => by have := (hov.lt b e).2; omega)).fr fs (fun b hb e => by have : b = dp := e; omega)).mono (fun b hb _ => by
    rw[hc']
    show(if _ then 7 else c b)=0
    rw[if_neg,cl b hb.1]
    intro e
    rcases k2 b e with e|e
    · have:=(hov.lt b e).2;omega
    · omega)
 refine⟨c',ag,F.mono (fun b _ e=>(hC b e).2),h.s.mv7 F ag cl' hC (by rintro(e|e);exact hnsp e;exact hds e),h.em,?_,(ag dp hdp).trans h.own,⟨xs++[.int .i64 x.space,kv,vv,.bool x.gone],?_,?_⟩,fun b e=>by rw[hc'];exact if_pos e,fun y hy=>?_⟩
 · have:=z1t (i:=1) (F2.blk h.blk hne) lv2
   simpa using this
 · rw[List.length_append]
   exact z0l o2 fs (fun b e e2=>hn2 (by rw[←(show b=dp from e2)];exact e))
 · refine ChgCells.append (.cons (nw hk) (nw hv) .nil) (((hx.mono (F':=fun b=>c b=0∧b<w.heap.size) (fun b hb hl=>⟨hb,hl⟩)).fr F (fun b hb e=>?_)).mono (fun b hb _=>(ag b hb.2).trans hb.1))
   have:=(hC b e).2
   have:=hb.1
   omega
 · rcases List.mem_append.1 hy with hy|hy
   · exact h.ok y hy
   · rw[List.mem_singleton] at hy
     rw[hy];exact hok
theorem z8x {F G:Nat→Prop} {kv vv:Value} {s:Int} {k v:Bs} (h:DrfAt c w dp sp tp Z lv L) (hk:BytesAt F w kv k) (hv:BytesAt G w vv v) (hL:L.length≤100000) :
 Calls Tryz.prog 48 #[.pointer (some ⟨dp,0,none⟩),.int .i64 s,kv,vv] w fun e w'=>e=.returned (.int .i64 (rightL s k v false:Int))∧Hid (∃c' lv',Ag w.heap.size c c'∧Fr (fun b=>c b=7) w w'∧DrfAt c' w' dp sp tp Z lv' (if rightL s k v false=0 then L++[⟨s,k,v,false⟩] else L)):=by
 have HR:=zhd (z8v (s:=s) hk hv)
 have HD:=zhd h
 have c1:=h.c1
 have z1:=z1s 1 h.blk
 have HCK:=zhd (fun (hn:k.length≤100000) (w_:World) (hf:Fr C0 w w_)=>z8t (hk.fr0 hf) hn)
 have HCV:=zhd (fun (hn:v.length≤100000) (w_:World) (hf:Fr C0 w w_)=>z8t (hv.fr0 hf) hn)
 obtain⟨A,cp,rfl,hLc,hcm,-⟩:=h.form
 obtain⟨KA,kc,rfl,-⟩:=hk.form
 obtain⟨VA,vc,rfl,-⟩:=hv.form
 obtain⟨xs,hov,hx⟩:=h.row
 have HOV:=zhd hov
 have HX:=zhd hx
 obtain⟨r,hr⟩:∃r,r=rightL s k v false:=⟨_,rfl⟩
 rw[←hr] at HR⊢
 have HRR:=zhd hr
 unfold maxLen at hcm
 clear h hk hv hov hx hr
 by_cases h0:r=0
 · have hok:okC ⟨s,k,v,false⟩:=HRR.out.symm.trans h0
   have hok2:=z8m hok
   have hkl:k.length≤100000:=by have:=hok2.2.2.2.1;simp only at this;omega
   have hvl:v.length≤100000:=by have:=hok2.2.2.2.2;simp only at this;omega
   have HOK:=zhd hok
   have HCK2:=zhd (HCK.out hkl)
   have HCV2:=zhd (HCV.out hvl)
   subst h0
   clear hok hok2 HCK HCV HRR
   go_enter Tryz.func48,Tryz.ntmps48
   go_wp2_with fail
   refine HR.out.mono ?_
   rintro e w1 ⟨rfl,rfl⟩
   go_wp2_with fail
   have hdp:=(Array.getElem?_eq_some_iff.1 HD.out.blk).1
   have hdn:¬(Value.slice A L.length cp).ownBlock=some dp:=fun e=>by
    rcases HOV.out.2 with⟨e1,_⟩|⟨g,cap,cur,e1,_,hg,_⟩
    · rw[e1] at e;simp[Value.ownBlock] at e
    · rw[e1] at e
      simp[Value.ownBlock] at e
      subst e
      rw[HD.out.blk] at hg
      injection hg with hg
      injection hg with h4 h5
      exact absurd h5 (by decide)
   refine z1i (Fr (fun b=>(Value.slice A L.length cp).ownBlock=some b) w) [16] (by kernel_rfl) ?_
   have hSw0:(Fr (fun b=>(Value.slice A L.length cp).ownBlock=some b) w) _:=(Fr.refl _ w).drew
   refine tk 0 hSw0 ?_
   refine tk 1 hSw0 ?_
   refine tk 2 hSw0 ?_
   refine tk 3 hSw0 ?_
   refine tk 4 hSw0 ?_ (hy:=by intro w_ hS_;have b1:=hS_.cell c1 hdn;first|(go_simp;done)|(go_simp;with_reducible rfl))
   refine tk 5 hSw0 ?_
   refine tk 6 hSw0 ?_
   refine tk 8 hSw0 ?_
   refine one_ 7 rfl (fun K hK=>?_)
   go_simp
   refine(HCK2.out _ (Fr.refl C0 w).drew).mono ?_
   rintro e w2 ⟨v2,rfl,f2,o2⟩
   have F2:=zhd ((Fr.refl C0 w).drew.trans0 f2)
   have B2:=zhd (o2.mono (F':=fun b=>w.heap.size≤b) (fun b h _=>h))
   obtain⟨A2,p2,rfl,-⟩:=o2.form
   clear f2 o2
   simp only[]
   refine hK.out _ _ ?kS1 (fun hSw1=>?kR1)
   case kS1=>exact F2.out.mono (fun _ _ e=>e.elim)
   clear hK K
   try simp only[Act.put,zs1,zs2,zs3]
   refine one_ 9 rfl (fun K hK=>?_)
   go_simp
   refine(HCV2.out _ F2.out).mono ?_
   rintro e w3 ⟨v3,rfl,f3,o3⟩
   have F3:=zhd (F2.out.trans0 f3)
   have B23:=zhd (B2.out.fr0 f3)
   have B3:=zhd (o3.mono (F':=fun b=>w.heap.size≤b) (fun b h _=>by have:=F2.out.size;omega))
   obtain⟨A3,p3,rfl,-⟩:=o3.form
   clear f3 o3
   simp only[]
   refine hK.out _ _ ?kS2 (fun hSw2=>?kR2)
   case kS2=>exact F3.out.mono (fun _ _ e=>e.elim)
   clear hK K
   try simp only[Act.put,zs1,zs2,zs3]
   refine tk 10 hSw2 ?_
   refine tk 11 hSw2 ?_
   refine one_ 12 rfl (fun K hK=>?_)
   go_simp
   refine hK.out _ _ ?kS3 (fun hSw3=>?kR3)
   case kS3=>exact(F3.out.alloc _).mono (fun _ _ e=>e.elim)
   clear hK K
   try simp only[Act.put,zs1,zs2,zs3]
   refine one_ 13 rfl (fun K hK=>?_)
   refine z0j z8u _ _ rfl (v:=.slice A L.length cp) (xv:=.slice (some ⟨w3.heap.size,0,none⟩) 1 1) rfl rfl (B:=0) (z0l HOV.out (F3.out.alloc _) (fun _ _ h=>h)) (Row.ofBlock (F:=fun _=>True) (heap_alloc_new w3 _) trivial (by unfold maxLen;omega) rfl) (by simp[Value.oneCell']) (by unfold maxLen;omega) (by omega) (Nat.zero_le _) ?_
   intro v5 w5 o5 f5 k5 nil5
   obtain⟨A5,c5,rfl,-⟩:=z0n o5
   have HADD:=zhd (z8w (x:=⟨s,k,v,false⟩) HD.out HX.out HOV.out (F3.out.alloc _) (B23.out.fr0 ((Fr.refl C0 w3).alloc _)) (B3.out.fr0 ((Fr.refl C0 w3).alloc _)) f5 o5 k5 HOK.out)
   have F5:=zhd (((F3.out.alloc (.cells #[.int .i64 s,.slice A2 k.length p2,.slice A3 v.length p3,.bool false] 57)).mono (C2:=fun b=>(Value.slice A L.length cp).ownBlock=some b) (fun _ _ e=>e.elim)).trans f5 (fun _ _ e=>e))
   have e1:=F5.out.cell c1 hdn
   have y1:=(F5.out.frozen hdp hdn).trans z1
   clear o5 f5 k5 nil5
   refine hK.out _ _ ?kS4 (fun hSw4=>?kR4)
   case kS4=>exact F5.out
   clear hK K
   try simp only[Act.put,zs1,zs2,zs3]
   refine tk 14 hSw4 ?_
   refine tk 15 hSw4 ?_
   refine z1f 16 rfl (fun K hK=>?_)
   go_simp
   refine hK.out _ _ ?_;clear hK K
   try simp only[Act.put,zs1,zs2,zs3]
   refine z1h (by kernel_rfl) ?_ _
   go_wp2_with fail
   go_ret
   refine⟨rfl,zhd ?_⟩
   obtain⟨c',a1,a2,a3⟩:=HADD.out
   exact⟨c',a1,a2,_,a3⟩
 · have hr1:((r:Int) != 0)=true:=by simp[bne,z28];omega
   clear HCK HCV
   go_enter Tryz.func48,Tryz.ntmps48
   go_wp2_with fail
   refine HR.out.mono ?_
   rintro e w1 ⟨rfl,rfl⟩
   go_wp2_with fail
   go_ret
   refine⟨rfl,zhd ⟨c,Ag.refl _ _,Fr.refl _ _,.slice A L.length cp,HD.out⟩⟩
theorem z8y (h:DrfAt c w dp sp tp Z lv L):Calls Tryz.prog 13 #[.pointer (some ⟨dp,0,none⟩)] w fun e w'=>e=.returned (.int .i64 (L.length:Int))∧w=w':=by
 have c1:=h.c1
 obtain⟨A,cp,rfl,-⟩:=h.form
 clear h
 go_enter Tryz.func13,Tryz.ntmps13
 go_wp2
 go_ret
 exact⟨rfl,rfl⟩
end
end Go.Proofs.YtidalepbkljkpaaGreat
