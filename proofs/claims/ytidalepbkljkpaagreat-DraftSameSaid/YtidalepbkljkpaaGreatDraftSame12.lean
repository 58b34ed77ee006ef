import Derived.Test.YtidalepbkljkpaaGreatDraftSame09
import Derived.Recover
import Derived.Test.YtidalepbkljkpaaGreatDraftSame11
import Derived.Test.YtidalepbkljkpaaGreatDraftSame10
import Derived.Test.YtidalepbkljkpaaGreatDraftSame03
set_option linter.all false
namespace Go.Proofs.YtidalepbkljkpaaGreat
open Go.RowKit Go.H
set_option maxRecDepth 100000
section
set_option maxHeartbeats 2000000
@[go_sem] theorem z6g (v : Value) (w : World) : (Instr.typeAssert (.iface 33 v) 20 33 true).run Tryz.prog w = .ok (.tuple #[v, .bool true]) w := by kernel_rfl
theorem z6h (p X:Value):#[p]++(Array.replicate 19 undef).setIfInBounds 5 X=#[p,undef,undef,undef,undef,undef,X,undef,undef,undef,undef,undef,undef,undef,undef,undef,undef,undef,undef,undef]:=rfl
theorem z6i (p:Addr) (x y:Int) (older:List PanicEntry) (w:World) (hc:w.cell? p=some (.int .i64 x)) (hz:w.frozen? p=false) :
 CallsD Tryz.prog 86 #[.pointer (some p)] (.panicking ({ v:=.iface 33 (.int .i64 y),recovered:=false }::older)) w fun e u' w'=>
  e=.returned (.tuple #[])∧u'=.panicking ({ v:=.iface 33 (.int .i64 y),recovered:=true }::older)∧w'=w.setCell p (.int .i64 y):=by
 refine callsD_of_wpS Tryz.func86 rfl fun c₀ cs hu=>?_
 apply wpS_seq
 apply wpS_region
 simp[wpOpsS,go_sem,recoverD,hu,Tryz.ntmps86,Exit.thenS]
 refine wpS_of_wp ?_
 rw[z6h]
 go_wp2
 simp[bodyPostS,results,Tryz.results86]
theorem z6j (p:Value) (w:World) :
 CallsD Tryz.prog 86 #[p] .returning w fun e u' w'=>e=.returned (.tuple #[])∧u'=.returning∧w'=w:=by
 refine callsD_of_wpS Tryz.func86 rfl fun c₀ cs hu=>?_
 apply wpS_seq
 apply wpS_region
 simp[wpOpsS,go_sem,recoverD,hu,Tryz.ntmps86,Exit.thenS]
 refine wpS_of_wp ?_
 rw[z6h]
 go_wp2
 cases c₀
 simp_all [bodyPostS,results,Tryz.results86]
theorem z6k {u:FrameMode} (e l:Nat) (w:World) (he:w.cell? ⟨e,0,none⟩=some (.int .i64 0)) :
 CallsD Tryz.prog 117 #[.pointer (some ⟨e,0,none⟩),.pointer (some ⟨l,0,none⟩)] u w fun e u' w'=>u'=u∧e=.returned (.tuple #[])∧w'=w:=by
 go_enter_d Tryz.func117,Tryz.ntmps117
 go_wp2
 go_end0
 exact⟨rfl,rfl⟩
theorem z6l {u:FrameMode} (e l:Nat) (x:Int) (v:Value) (w:World) (hx:(x != 0)=true) (he:w.cell? ⟨e,0,none⟩=some (.int .i64 x)) (hl:w.cell? ⟨l,0,none⟩=some v) (hz:w.frozen? ⟨l,0,none⟩=false) :
 CallsD Tryz.prog 117 #[.pointer (some ⟨e,0,none⟩),.pointer (some ⟨l,0,none⟩)] u w fun e u' w'=>u'=u∧e=.returned (.tuple #[])∧w'=w.setCell ⟨l,0,none⟩ (.slice none 0 0):=by
 go_enter_d Tryz.func117,Tryz.ntmps117
 go_wp2
 go_end0
 exact⟨rfl,rfl⟩
end
section
set_option maxHeartbeats 2000000
abbrev Root:=Option (Nat×T)
def RootAt (c:Nat→Nat) (rn:Nat) (w:World) (pg:Nat→Option Bs) (N:Nat) (X:Prop) (o:Root) (v:Value):Prop:=
 match o with
 |none=>v=.nilIface
 |some (d,t)=>Rep c rn w pg N X d t v∧Shape d 1 t
def rootL:Root→List KV
 |none=>[]
 |some (d,t)=>flat d t
theorem RootAt.fr {C:Nat→Prop} {c:Nat→Nat} {rn:Nat} {w w':World} {pg:Nat→Option Bs} {N:Nat} {X:Prop} {o:Root} {v:Value} (h:RootAt c rn w pg N X o v) (hf:Fr C w w') (h1:∀b,C b→c b≠rn) (h2:∀b,C b→c b≠0):RootAt c rn w' pg N X o v:=by
 cases o with
 |none=>exact h
 |some p=>exact⟨Rep.fr hf h1 h2 h.1,h.2⟩
theorem RootAt.fr0 {c:Nat→Nat} {rn:Nat} {w w':World} {pg:Nat→Option Bs} {N:Nat} {X:Prop} {o:Root} {v:Value} (h:RootAt c rn w pg N X o v) (hf:Fr C0 w w'):RootAt c rn w' pg N X o v:=h.fr hf (fun _ k=>k.elim) (fun _ k=>k.elim)
theorem RootAt.ag {c c':Nat→Nat} {rn:Nat} {w:World} {pg:Nat→Option Bs} {N:Nat} {X:Prop} {o:Root} {v:Value} (h:RootAt c rn w pg N X o v) (ha:Ag w.heap.size c c'):RootAt c' rn w pg N X o v:=by
 cases o with
 |none=>exact h
 |some p=>exact⟨Rep.ag ha h.1,h.2⟩
theorem z6m {B:Nat} {w:World} {tp n:Nat} {lov hiv A:Value} {c:Nat→Nat} {q:Nat} {L:List KV} {X:Prop} (ho:Out B c q w A L) (hc:Cl w c) :
 Calls Tryz.prog 118 #[.pointer (some ⟨tp,0,none⟩),.nilIface,lov,hiv,.int .i64 (n:Int),A] w (ThroughRes B c q w X L):=by
 have HE:Hid (ThroughRes B c q w X L (.returned A) w):=zhd ⟨Fr.refl _ _,.inr ⟨A,c,rfl,Ag.refl _ _,hc,ho⟩⟩
 obtain⟨A,cp,rfl,-⟩:=ho.form
 clear ho hc
 go_enter Tryz.func118,Tryz.ntmps118
 go_wp2
 go_ret
 exact HE.out
theorem z6n {B r rn q st tp n:Nat} {S:SSt} {D:DSt} {X:Prop} {lo hi:List UInt8} {lov hiv:Value} {c:Nat→Nat} {w:World} {o:Root} {v:Value} (hq0:q≠0) (hqr:q≠r) (hqn:q≠rn) (hn:n≤9223372036854775807) (hh:Hd c r w tp st S D) (hc:Cl w c) (hr:RootAt c rn w (pgs D) D.blocks X o v) (hso:Sorted (rootL o)) (hlo:BytesAt (Dt c) w lov lo) (hhi:BytesAt (Dt c) w hiv hi) (hB:B≤w.heap.size) (hL:(rootL o).length≤100000) :
 Calls Tryz.prog 118 #[.pointer (some ⟨tp,0,none⟩),v,lov,hiv,.int .i64 (n:Int),.slice none 0 0] w (ThroughRes B c q w X ((rangeL lo hi (rootL o)).take n)):=by
 cases o with
 | none =>
   obtain rfl:=hr
   simpa [rootL,rangeL] using z6m (OutAt.nil _ _ B c q w) hc
 | some p =>
   have:=z6f hq0 hqr hqn hn p.1 1 c w p.2 v (.slice none 0 0) [] hh hc hr.1 hr.2 (Nat.le_refl _) hso hlo hhi (OutAt.nil _ _ B c q w) hB (by simpa [rootL] using hL)
   simpa [addR,rootL] using this
def RngRes (B:Nat) (c:Nat→Nat) (q:Nat) (w:World) (X:Prop) (L:List KV) (e:Ending) (w':World):Prop:=
 Fr C0 w w'∧((X∧e=.returned (.tuple #[.slice none 0 0,.int .i64 22]))∨∃v' c',e=.returned (.tuple #[v',.int .i64 0])∧Ag w.heap.size c c'∧Cl w' c'∧Out B c' q w' v' L)
theorem z6o {c:Nat→Nat} {r:Nat} {w:World} {tp st:Nat} {S:SSt} {D:DSt} (h:Hd c r w tp st S D) :
 Calls Tryz.prog 41 #[.pointer (some ⟨tp,0,none⟩)] w fun e w'=>e=.returned (.bool false)∧w'=w.drew:=by
 obtain⟨sm,d,m,ov,hs⟩:=h.store
 have H:=zhd (z3c hs)
 rw[h.alive.dead] at H
 have c0:=h.cell
 clear h hs
 go_enter Tryz.func41,Tryz.ntmps41
 go_wp2_with fail
 refine H.out.mono ?_
 rintro e w1 ⟨rfl,rfl⟩
 go_wp2
 go_ret
 exact⟨rfl,rfl⟩
theorem z6p {r rn q st tp n:Nat} {S:SSt} {D:DSt} {X:Prop} {lo hi:List UInt8} {lov hiv:Value} {c:Nat→Nat} {w:World} {o:Root} {v:Value} (hq0:q≠0) (hqr:q≠r) (hqn:q≠rn) (hqc:∀b,c b≠q) (hn:n≤9223372036854775807) (hh:Hd c r w tp st S D) (hc:Cl w c) (hr:RootAt c rn w (pgs D) D.blocks X o v) (hso:Sorted (rootL o)) (hlo:BytesAt (Dt c) w lov lo) (hhi:BytesAt (Dt c) w hiv hi) (hl1:lo.length≤64) (hl2:hi.length≤64) (hL:(rootL o).length≤100000) :
 Calls Tryz.prog 90 #[.pointer (some ⟨tp,0,none⟩),v,lov,hiv,.int .i64 (n:Int)] w (RngRes w.heap.size c q w X ((rangeL lo hi (rootL o)).take n)):=by
 have hmf:∀(fn:Fn) (first cap:Array Value) (w:World),(Instr.makeFunc fn first cap).run Tryz.prog w=.ok (.func fn first cap) w:=fun _ _ _ _=>rfl
 have HD:=zhd (fun (w_:World) (hf:Fr C0 w w_)=>z6o (hh.fr0 hf))
 have HT:=zhd (fun (w_:World) (hf:Fr C0 w w_)=>z6n (n:=n) (B:=w_.heap.size) hq0 hqr hqn hn (hh.fr0 hf) (hc.mono hf.size) (hr.fr0 hf) hso (hlo.fr0 hf) (hhi.fr0 hf) (Nat.le_refl _) hL)
 have hn0:¬(n:Int)<0:=by omega
 obtain⟨LA,lc,rfl,-⟩:=hlo.form
 obtain⟨HA,hcc,rfl,-⟩:=hhi.form
 have h1:¬(64:Int)<(lo.length:Int):=by omega
 have h2:¬(64:Int)<(hi.length:Int):=by omega
 have HQC:=zhd hqc
 have HC:=zhd hc
 have hsh:(∃tx y,v=.iface tx y)∨v=.nilIface:=by
  cases o with
  |none=>exact .inr hr
  |some p=>exact .inl hr.1.iface
 clear hh hc hr hso hlo hhi hqc
 go_enter_defers Tryz.func90,Tryz.ntmps90
 go_wp2_with fail
 refine(HD.out _ (((Fr.refl C0 w).alloc _).alloc _)).mono ?_
 rintro e w1 ⟨rfl,rfl⟩
 go_wp2_with fail
 have HT2:=zhd (HT.out _ ((((Fr.refl C0 w).alloc (.cells #[.slice none 0 0] 29)).alloc (.cells #[.int .i64 0] 33)).drew))
 refine HT2.out.mono ?_
 clear HT HT2
 rintro e w2 ⟨f2,h2⟩
 have f2':Fr C0 _ w2:=f2.mono (fun b _ h=>absurd h (HQC.out b))
 have F2:=zhd ((((Fr.refl C0 w).alloc (.cells #[.slice none 0 0] 29)).alloc (.cells #[.int .i64 0] 33)).drew.trans0 f2')
 have hbl:w2.heap[w.heap.size]?=some (.cells #[.slice none 0 0] 29 (0,0)):=f2'.blk (((Fr.refl C0 (w.alloc (.cells #[.slice none 0 0] 29))).alloc (.cells #[.int .i64 0] 33)).drew.blk (heap_alloc_new w _) (fun h=>h)) (fun h=>h)
 have hbe:w2.heap[w.heap.size+1]?=some (.cells #[.int .i64 0] 33 (0,0)):=f2'.blk ((Fr.refl C0 _).drew.blk (show((w.alloc (.cells #[.slice none 0 0] 29)).alloc (.cells #[.int .i64 0] 33)).heap[w.heap.size+1]?=some (.cells #[.int .i64 0] 33 (0,0)) by have:=heap_alloc_new (w.alloc (.cells #[.slice none 0 0] 29)) (.cells #[.int .i64 0] 33);rwa [show(w.alloc (.cells #[.slice none 0 0] 29)).heap.size=w.heap.size+1 by simp] at this) (fun h=>h)) (fun h=>h)
 have l0:=z1u hbl 0 rfl
 have e0:=z1u hbe 0 rfl
 have zl:=z1s 0 hbl
 have ze:=z1s 0 hbe
 clear f2 f2'
 rcases h2 with⟨hX,rfl⟩|⟨v',c',rfl,ag,cl,o'⟩
 · go_wp2_with fail
   refine leaves_cons (f:=86) (args:=#[.pointer (some ⟨w.heap.size+1,0,none⟩)]) (by simp) (by simp[go_sem]) ?_
   refine(z6i ⟨w.heap.size+1,0,none⟩ 0 22 [] w2 e0 ze).mono ?_
   rintro e u' w3 ⟨rfl,rfl,rfl⟩
   have hne:(⟨w.heap.size+1,0,none⟩:Addr)≠⟨w.heap.size,0,none⟩:=by simp
   refine leaves_cons (f:=117) (args:=#[.pointer (some ⟨w.heap.size+1,0,none⟩),.pointer (some ⟨w.heap.size,0,none⟩)]) (by simp[settle]) (by simp[go_sem]) ?_
   refine(z6l (w.heap.size+1) w.heap.size 22 (.slice none 0 0) _ rfl ?_ ?_ ?_).mono ?_
   · simp[go_sem,e0]
   · simp[go_sem,l0]
   · simp[go_sem,zl]
   rintro e u' w4 ⟨rfl,rfl,rfl⟩
   simp[Leaves,settle,results,Tryz.results90,go_sem,l0,e0]
   exact⟨(F2.out.setCell (p:=⟨w.heap.size+1,0,none⟩) (.inl (by simp)) _).setCell (p:=⟨w.heap.size,0,none⟩) (.inl (Nat.le_refl _)) _,.inl ⟨hX,rfl⟩⟩
 · have O':=zhd o'
   have AG':=zhd ag
   have CL':=zhd cl
   obtain⟨A',cp',rfl,-⟩:=o'.form
   clear o' ag cl
   go_wp2_with fail
   refine leaves_cons (f:=86) (args:=#[.pointer (some ⟨w.heap.size+1,0,none⟩)]) (by simp) (by simp[go_sem]) ?_
   refine(z6j _ _).mono ?_
   rintro e u' w3 ⟨rfl,rfl,rfl⟩
   refine leaves_cons (f:=117) (args:=#[.pointer (some ⟨w.heap.size+1,0,none⟩),.pointer (some ⟨w.heap.size,0,none⟩)]) (by simp[settle]) (by simp[go_sem]) ?_
   refine(z6k (w.heap.size+1) w.heap.size _ ?_).mono ?_
   · simp[go_sem,e0]
   rintro e u' w4 ⟨rfl,rfl,rfl⟩
   simp[Leaves,settle,results,Tryz.results90,go_sem,l0,e0]
   have hW:(((w.alloc (.cells #[.slice none 0 0] 29)).alloc (.cells #[.int .i64 0] 33)).drew).heap.size=w.heap.size+2:=by simp
   have hF:=((Fr.refl (fun b=>b=w.heap.size∨b=w.heap.size+1) w2).setCell (p:=⟨w.heap.size,0,none⟩) (.inr (.inl rfl)) (.slice A' (min n (rangeL lo hi (rootL o)).length) cp')).setCell (p:=⟨w.heap.size+1,0,none⟩) (.inr (.inr rfl)) (.int .i64 0)
   refine⟨(F2.out.setCell (p:=⟨w.heap.size,0,none⟩) (.inl (Nat.le_refl _)) _).setCell (p:=⟨w.heap.size+1,0,none⟩) (.inl (by simp)) _,.inr ⟨_,c',rfl,fun b hb=>AG'.out b (by omega),CL'.out.mono (by simp[go_sem]),?_⟩⟩
   have hO:=O'.out
   rw[hW] at hO
   have:=(hO.frB hF (fun b h=>by omega)).lower (B':=w.heap.size) (by omega)
   simpa [List.length_take] using this
end
section
set_option maxHeartbeats 2000000
def wrong (k v:Bs):Nat:=if k=[] then 1 else if 64<k.length∨1800<v.length then 3 else 0
theorem z6q {F G:Nat→Prop} {c:Nat→Nat} {r:Nat} {w:World} {tp st:Nat} {S:SSt} {D:DSt} {kv vv:Value} {k v:Bs} (h:Hd c r w tp st S D) (hk:BytesAt F w kv k) (hv:BytesAt G w vv v) :
 Calls Tryz.prog 93 #[.pointer (some ⟨tp,0,none⟩),kv,vv] w fun e w'=>e=.returned (.int .i64 (wrong k v:Int))∧w'=w.drew:=by
 have H:=zhd (z6o h)
 obtain⟨A,cc,rfl,-⟩:=hk.form
 obtain⟨A',cc',rfl,-⟩:=hv.form
 clear h hk hv
 have HW:Hid (wrong k v=if k=[] then 1 else if 64<k.length∨1800<v.length then 3 else 0):=zhd rfl
 by_cases h0:k=[]
 · have e0:((k.length:Int) == 0)=true:=by rw[h0];rfl
   have H0:=zhd h0
   clear h0
   go_enter Tryz.func93,Tryz.ntmps93
   go_wp2_with fail
   refine H.out.mono ?_
   rintro e w1 ⟨rfl,rfl⟩
   go_wp2
   go_ret
   exact⟨by rw[HW.out,if_pos H0.out];rfl,rfl⟩
 · have e0:((k.length:Int) == 0)=false:=beq_false_of_ne (by have:=List.length_pos_iff.2 h0;omega)
   have H0:=zhd h0
   clear h0
   by_cases h1:64<k.length
   · have h1':(64:Int)<(k.length:Int):=by omega
     go_enter Tryz.func93,Tryz.ntmps93
     go_wp2_with fail
     refine H.out.mono ?_
     rintro e w1 ⟨rfl,rfl⟩
     go_wp2
     go_ret
     exact⟨by rw[HW.out,if_neg H0.out,if_pos (.inl h1)];rfl,rfl⟩
   · have h1':¬(64:Int)<(k.length:Int):=by omega
     by_cases h2:1800<v.length
     · have h2':(1800:Int)<(v.length:Int):=by omega
       go_enter Tryz.func93,Tryz.ntmps93
       go_wp2_with fail
       refine H.out.mono ?_
       rintro e w1 ⟨rfl,rfl⟩
       go_wp2
       go_ret
       exact⟨by rw[HW.out,if_neg H0.out,if_pos (.inr h2)];rfl,rfl⟩
     · have h2':¬(1800:Int)<(v.length:Int):=by omega
       go_enter Tryz.func93,Tryz.ntmps93
       go_wp2_with fail
       refine H.out.mono ?_
       rintro e w1 ⟨rfl,rfl⟩
       go_wp2
       go_ret
       exact⟨by rw[HW.out,if_neg H0.out,if_neg (by omega)];rfl,rfl⟩
end
section
set_option maxHeartbeats 1000000
end
section
set_option maxHeartbeats 2000000
def rootDirty:Root→Nat
 |none=>0
 |some (d,t)=>dirtyN d t
def TreeCells (st:Nat) (nr:Value) (ns nd:Int) (lr:Value) (ls ld:Int) (lm:Nat) (gv ov:Value) (km:Nat):Array Value:=
 #[.pointer (some ⟨st, 0, none⟩), nr, .int .i64 ns, .int .i64 nd, lr, .int .i64 ls, .int .i64 ld, .map (some lm), gv, ov, .map (some km)]
end
section
set_option maxHeartbeats 2000000
theorem z6r {r rn q st tp n lm km:Nat} {S:SSt} {D:DSt} {X:Prop} {lo hi:List UInt8} {lov hiv nr lr gv ov:Value} {ns nd ls ld:Int} {c:Nat→Nat} {w:World} {o:Root} (hq0:q≠0) (hqr:q≠r) (hqn:q≠rn) (hqc:∀b,c b≠q) (hn:n≤9223372036854775807) (hh:Hd c r w tp st S D) (hc:Cl w c) (ht:w.heap[tp]?=some (.cells (TreeCells st nr ns nd lr ls ld lm gv ov km) 139 (0,0))) (hr:RootAt c rn w (pgs D) D.blocks X o nr) (hso:Sorted (rootL o)) (hlo:BytesAt (Dt c) w lov lo) (hhi:BytesAt (Dt c) w hiv hi) (hl1:lo.length≤64) (hl2:hi.length≤64) (hL:(rootL o).length≤100000) :
 Calls Tryz.prog 60 #[.pointer (some ⟨tp,0,none⟩),lov,hiv,.int .i64 (n:Int)] w (RngRes w.heap.size c q w X ((rangeL lo hi (rootL o)).take n)):=by
 have H:=zhd (z6p (n:=n) hq0 hqr hqn hqc hn hh hc hr hso hlo hhi hl1 hl2 hL)
 have c1:w.cell? ⟨tp,1,none⟩=some nr:=z1u ht 1 rfl
 clear hh hc ht hr hso hlo hhi hqc
 go_enter Tryz.func60,Tryz.ntmps60
 go_wp2_with fail
 refine H.out.mono ?_
 rintro e w1 ⟨f1,h1⟩
 have HR:=zhd (show RngRes w.heap.size c q w X ((rangeL lo hi (rootL o)).take n) e w1 from⟨f1,h1⟩)
 rcases h1 with⟨hX,rfl⟩|⟨v',c',rfl,_⟩
 · clear f1
   go_wp2
   go_ret2
   exact HR.out
 · clear f1
   go_wp2
   go_ret2
   exact HR.out
end
section
set_option maxHeartbeats 2000000
def GetP (w w':World) (X:Prop) (e:Ending) (o:Option Bs):Prop:=
 Fr C0 w w'∧((X∧e=.returned (.tuple #[.slice none 0 0,.bool false,.int .i64 22]))∨match o with
  |some b=>∃v,e=.returned (.tuple #[v,.bool true,.int .i64 0])∧BytesAt (fun b=>w.heap.size≤b) w' v b
  |none=>e=.returned (.tuple #[.slice none 0 0,.bool false,.int .i64 0]))
theorem z6s {c:Nat→Nat} {r rn:Nat} {w:World} {tp st:Nat} {S:SSt} {D:DSt} {X:Prop} {o:Root} {v kv:Value} {key:Bs} (h:Hd c r w tp st S D) (hc:Cl w c) (hr:RootAt c rn w (pgs D) D.blocks X o v) (ho:Sorted (rootL o)) (hk:BytesAt (Dt c) w kv key) :
 Calls Tryz.prog 94 #[.pointer (some ⟨tp,0,none⟩),v,kv] w fun e w'=>GetT w w' X e (getL key (rootL o)):=by
 cases o with
 | none =>
   obtain rfl:=hr
   refine z5o.mono ?_
   rintro e w' ⟨rfl,rfl⟩
   exact⟨Fr.refl _ _,.inr rfl⟩
 |some p=>exact z5p h hc hr.1 hr.2 (Nat.le_refl _) ho hk
theorem z6t {c:Nat→Nat} {r rn:Nat} {w:World} {tp st lm km:Nat} {S:SSt} {D:DSt} {X:Prop} {o:Root} {nr lr gv ov kv:Value} {ns nd ls ld:Int} {key:Bs} (h:Hd c r w tp st S D) (hc:Cl w c) (ht:w.heap[tp]?=some (.cells (TreeCells st nr ns nd lr ls ld lm gv ov km) 139 (0,0))) (hr:RootAt c rn w (pgs D) D.blocks X o nr) (ho:Sorted (rootL o)) (hk:BytesAt (Dt c) w kv key) (hw:wrong key []=0) :
 Calls Tryz.prog 66 #[.pointer (some ⟨tp,0,none⟩),kv] w fun e w'=>GetP w w' X e (getL key (rootL o)):=by
 have HM:=zhd (fun (w_:World) (hf:Fr C0 w w_)=>z6q (G:=fun _=>True) (vv:=.slice none 0 0) (v:=[]) (h.fr0 hf) (hk.fr0 hf) ⟨none,0,rfl,Nat.le_refl _,by unfold maxLen;omega,fun h=>absurd rfl h⟩)
 rw[hw] at HM
 have HG:=zhd (fun (w_:World) (hf:Fr C0 w w_)=>z6s (h.fr0 hf) (hc.mono hf.size) (hr.fr0 hf) ho (hk.fr0 hf))
 have t1:w.cell? ⟨tp,1,none⟩=some nr:=z1u ht 1 rfl
 obtain⟨A,cc,rfl,-⟩:=hk.form
 have F0:=zhd ((Fr.refl C0 w).alloc (.cells #[.int .i64 0] 33))
 have t1':=F0.out.cell0 t1
 have hs0:(w.alloc (.cells #[.int .i64 0] 33)).heap.size=w.heap.size+1:=by simp
 clear h hc ht hr ho hk hw
 go_enter_defers Tryz.func66,Tryz.ntmps66
 go_wp2_with fail
 refine(HM.out _ F0.out).mono ?_
 rintro e w1 ⟨rfl,rfl⟩
 go_wp2_with fail
 refine(HG.out _ F0.out.drew).mono ?_
 clear HM HG
 rintro e w2 ⟨f2,h2⟩
 have F2:=zhd (F0.out.drew.trans0 f2)
 have hbe:w2.heap[w.heap.size]?=some (.cells #[.int .i64 0] 33 (0,0)):=f2.blk ((Fr.refl C0 _).drew.blk (heap_alloc_new w _) (fun h=>h)) (fun h=>h)
 have e0:=z1u hbe 0 rfl
 have ze:=z1s 0 hbe
 clear f2 hbe
 have HFE:=zhd (F2.out.setCell (p:=⟨w.heap.size,0,none⟩) (.inl (Nat.le_refl _)) (.int .i64 0))
 rcases h2 with⟨hX,rfl⟩|h2
 · go_wp2_with fail
   refine leaves_cons (f:=86) (args:=#[.pointer (some ⟨w.heap.size,0,none⟩)]) (by simp) (by simp[go_sem]) ?_
   refine(z6i ⟨w.heap.size,0,none⟩ 0 22 [] w2 e0 ze).mono ?_
   rintro e u' w3 ⟨rfl,rfl,rfl⟩
   simp[Leaves,settle,results,Tryz.results66,go_sem,e0]
   exact⟨F2.out.setCell (p:=⟨w.heap.size,0,none⟩) (.inl (Nat.le_refl _)) _,.inl ⟨hX,rfl⟩⟩
 · cases hg:getL key (rootL o) with
   | none =>
     rw[hg] at h2
     obtain rfl:=h2
     go_wp2_with fail
     refine leaves_cons (f:=86) (args:=#[.pointer (some ⟨w.heap.size,0,none⟩)]) (by simp) (by simp[go_sem]) ?_
     refine(z6j _ _).mono ?_
     rintro e u' w3 ⟨rfl,rfl,rfl⟩
     simp[Leaves,settle,results,Tryz.results66,go_sem,e0]
     exact⟨HFE.out,.inr (by rw[hg])⟩
   | some b =>
     rw[hg] at h2
     obtain⟨v,rfl,hv⟩:=h2
     have HV:=zhd hv
     obtain⟨A2,c2,rfl,-⟩:=hv.form
     clear hv
     go_wp2_with fail
     refine leaves_cons (f:=86) (args:=#[.pointer (some ⟨w.heap.size,0,none⟩)]) (by simp) (by simp[go_sem]) ?_
     refine(z6j _ _).mono ?_
     rintro e u' w3 ⟨rfl,rfl,rfl⟩
     simp[Leaves,settle,results,Tryz.results66,go_sem,e0]
     refine⟨HFE.out,.inr ?_⟩
     rw[hg]
     refine⟨_,rfl,?_⟩
     have hb:=(HV.out.mono (F':=fun b=>w.heap.size+1≤b) (fun b h _=>by rw[←hs0];exact h)).fr ((Fr.refl (fun b=>b=w.heap.size) w2).setCell (p:=⟨w.heap.size,0,none⟩) (.inr rfl) (.int .i64 0)) (fun b h e=>by omega)
     exact hb.mono (fun b h _=>by omega)
end
section
set_option maxHeartbeats 2000000
end
section
set_option maxHeartbeats 2000000
end
section
set_option maxHeartbeats 2000000
end
end Go.Proofs.YtidalepbkljkpaaGreat
section
namespace Go.H
end Go.H
end
namespace Go.Proofs.YtidalepbkljkpaaGreat
open Go.RowKit Go.H
set_option maxHeartbeats 2000000
set_option maxRecDepth 100000
section
end
section
end
section
def PutIH (r rn q st tp wp:Nat) (S:SSt) (D:DSt) (x:KV) (kv vv:Value) (d:Nat):Prop:=
 ∀ (m : Nat) (c : Nat → Nat) (w : World) (t : T) (v : Value) (gone : List Nat), Hd c r w tp st S D → Cl w c → WorkAt c q w wp tp gone → Rep c rn w (pgs D) D.blocks False d t v → Shape d m t → 1 ≤ m → Sorted (flat d t) → BytesAt (Dt c) w kv x.1 → BytesAt (Dt c) w vv x.2 → KVok x → gone.length + d ≤ 1000000 →
   Calls Tryz.prog 148 #[.pointer (some ⟨wp,0,none⟩),v,.agg #[kv,vv]] w (PutRes c rn q w (pgs D) D.blocks d m t x wp tp gone)
def EndU (c:Nat→Nat) (rn:Nat) (w:World) (pg:Nat→Option Bs) (N d m:Nat) (L:List KV) (n0:Nat) (t:T) (gone gone':List Nat) (va nx kv2 vv2:Value):Prop:=
 (nx = .nilIface ∧ ∃ ta, Rep c rn w pg N False d ta va ∧ Shape d m ta ∧ flat d ta = L ∧ Acc n0 d t [ta] gone gone') ∨
  (∃tx2 y2 ta tb x2,nx=.iface tx2 y2∧Rep c rn w pg N False d ta va∧Rep c rn w pg N False d tb nx∧Shape d 2 ta∧Shape d 2 tb∧BytesAt (Dt c) w kv2 x2.1∧BytesAt (Dt c) w vv2 x2.2∧KVok x2∧flat d ta++x2::flat d tb=L∧Acc n0 d t [ta,tb] gone gone')
theorem fin {c cA:Nat→Nat} {rn q q2 d m N:Nat} {w wf:World} {pg:Nat→Option Bs} {t:T} {x:KV} {wp tp:Nat} {gone gone2 ns:List Nat} {e:Ending} (hq2:q2≠q) (hq20:q2≠0) (hq2n:q2≠rn) (hns:∀b∈ns,cA b=q2∧w.heap.size≤b∧b<wf.heap.size) (ag:Ag w.heap.size c cA) (cl:Cl wf cA) (wk:WorkAt cA q wf wp tp gone2) (fr:Fr (fun b=>c b=q) w wf) (hgl:gone2.length≤gone.length+d)
 (hend:∀c',(∀b,cA b=rn→c' b=rn)→(∀b,cA b=0→c' b=0)→(∀b∈ns,c' b=rn)→PutEnd c' rn wf pg N d m (putL x (flat d t)) (decide (getL x.1 (flat d t)=none)) w.heap.size t gone gone2 e):PutRes c rn q w pg N d m t x wp tp gone e wf:=by
 have hx:∀b,cA b≠q2→ownN cA ns rn b=cA b:=fun b h=>z5r (fun hm=>h (hns b hm).1)
 refine PutRes.mk fr ⟨ownN cA ns rn,gone2,z5s ag (fun b hb=>(hns b hb).2.1),z5t cl (fun b hb=>(hns b hb).2.2),?_,hgl,hend _ (fun b h=>(hx b (fun e=>hq2n (e.symm.trans h))).trans h) (fun b h=>(hx b (fun e=>hq20 (e.symm.trans h))).trans h) (fun b hb=>z5q hb)⟩
 obtain⟨gv,b1,b2,b3,b4⟩:=wk
 have hy:∀b,cA b=q→ownN cA ns rn b=q:=fun b h=>(hx b (fun e=>hq2 (e.symm.trans h))).trans h
 exact⟨gv,b1,b2,hy _ b3,fun b e=>hy b (b4 b e)⟩
abbrev kin {α:Type} (l:List α) (i:Nat) (a b:α):List α:=(l.set i a).take (i+1)++b::(l.set i a).drop (i+1)
end
section
end
section
end
section
end
section
def rootD:Root→Nat
 |none=>0
 |some (d,_)=>d
def rcnt (x:Th):Root→Nat
 |none=>0
 |some (d,t)=>cnt d x t
def RootSh:Root→Prop
 |none=>True
 |some (d,t)=>Shape d 1 t
structure RAcc (n0:Nat) (o o':Root) (gone gone':List Nat):Prop where
 pg:∀id,rcnt (.pg id) o'+gone'.count id=rcnt (.pg id) o+gone.count id
 cl:∀b j,rcnt (.cl b j) o'≤if b<n0 then rcnt (.cl b j) o else 1
 dirty:rootDirty o'≤rootDirty o+2*rootD o+1
 len:gone'.length≤gone.length+rootD o
theorem z6u {w:World} {c:Nat→Nat} (hc:Cl w c) (a b:Nat):∃q,(∀k,c k≠q)∧q≠0∧q≠a∧q≠b:=by
 have h:∀n,∃M,∀k,k<n→c k≤M:=by
  intro n
  induction n with
  |zero=>exact⟨0,fun k h=>absurd h (by omega)⟩
  | succ n ih =>
    obtain⟨M,h⟩:=ih
    refine⟨M+c n,fun k hk=>?_⟩
    by_cases e:k=n
    · subst e;omega
    · have:=h k (by omega);omega
 obtain⟨M,h⟩:=h w.heap.size
 refine⟨M+a+b+1,fun k e=>?_,by omega,by omega,by omega⟩
 by_cases hk:k<w.heap.size
 · have:=h k hk;omega
 · have:=hc k (by omega);omega
def TPutRes (c:Nat→Nat) (r rn:Nat) (w:World) (tp st lm km:Nat) (S:SSt) (D:DSt) (o:Root) (lr ov:Value) (ls ld:Int) (gone:List Nat) (x:KV) (e:Ending) (w':World):Prop:=
 ∃ o' gone', rootL o' = putL x (rootL o) ∧ RootSh o' ∧ RAcc w.heap.size o o' gone gone' ∧
   ((e = .returned (.int .i64 21) ∧ S.pages - S.state.length < rootDirty o' ∧ Fr C0 w w') ∨
    (e = .returned (.int .i64 0) ∧ rootDirty o' ≤ S.pages - S.state.length ∧ Fr (fun b => c b = r) w w' ∧ ∃ gv' rv' c', Ag w.heap.size c c' ∧ Cl w' c' ∧ Hd c' r w' tp st S D ∧
     w'.heap[tp]?=some (.cells (TreeCells st rv' ((rootL o').length:Int) (rootD o':Int) lr ls ld lm gv' ov km) 139 (0,0))∧w'.ownsRow 0 3 1 gv' gone'.length (gone'.map natV)∧(∀b,gv'.ownBlock=some b→c' b=r)∧RootAt c' rn w' (pgs D) D.blocks False o' rv'))
end
end Go.Proofs.YtidalepbkljkpaaGreat
namespace Go.H
open Go.RowKit
section
structure DOk (D:DSt):Prop where
 good:∀k,(D.good k).length=8192
 opn:∀p∈D.opn,p.2.length=8192
end
end Go.H
namespace Go.Proofs.YtidalepbkljkpaaGreat
open Go.RowKit Go.H
set_option maxHeartbeats 2000000
set_option maxRecDepth 100000
section
structure LFr (c:Nat→Nat) (r rn lm:Nat) (ns:List Nat) (w w':World) (d:Nat) (t:T):Prop where
 os:w'.os=w.os
 output:w'.output=w.output
 size:w.heap.size≤w'.heap.size
 blk:∀k,k<w.heap.size→(c k=r→k∈ns)→c k≠rn→k≠lm→w'.heap[k]?=w.heap[k]?
 cell:∀b o u,c b=rn→w.cell? ⟨b,o,none⟩=some u→(cnt d (.cl b o) t=0∨∃A n k,u=.slice A n k)→w'.cell? ⟨b,o,none⟩=some u
 plain:∀b,c b=rn→Plain w b→Plain w' b
theorem Rep.pageW {c c':Nat→Nat} {rn rn':Nat} {w w':World} {pg:Nat→Option Bs} {N:Nat} {X:Prop}:∀{d:Nat} {t:T} {v:Value},t.isPage→Rep c rn w pg N X d t v→Rep c' rn' w' pg N X d t v
 |0,_,_,_,h=>h.elim
 | d + 1, .node (.page id) l ks, v, _, h => by
   obtain⟨a,b,e,f,k⟩:=h
   exact⟨a,b,e,f,fun x hx=>⟨(k x hx).1,Rep.pageW (k x hx).1 (k x hx).2⟩⟩
 |d+1,.node (.mem n g o) l ks,v,hp,h=>hp.elim
structure LayIn (c:Nat→Nat) (r rm:Nat) (w:World) (tp st lm:Nat) (ns:List Nat) (S:SSt) (D:DSt) (held live:List Nat):Prop where
 hd:Hd c r w tp st S D
 cl:Cl w c
 ap:Apart c r w ns
 tpn:tp∈ns
 tl:w.cell? ⟨tp,7,none⟩=some (.map (some lm))
 mp:MapIs w lm (vmap (ones live))
 ml:c lm=rm
 st:Held S.state held
 ok:DOk D
structure Laid2 (S:SSt) (D:DSt) (held new:List Nat) (S':SSt) (D':DSt):Prop where
 st:S'={ S with state:=S.state++ones new }
 opn:D'.opn.length=D.opn.length+new.length
 read:∀j,j∉new→D'.read j=D.read j
 blocks:D'.blocks=D.blocks
 nw:∀x∈new,x∉held∧2≤x∧x<S.pages+2
 nd:new.Nodup
 lo:∀j,j∉new→lastOpen j D'.opn=lastOpen j D.opn
 af:D.after<1→D'.after<1
def LayOk (c:Nat→Nat) (r rn rm:Nat) (w:World) (tp st lm:Nat) (ns:List Nat) (S:SSt) (D:DSt) (held live:List Nat) (d m:Nat) (t:T) (v:Value) (e:Ending) (w':World):Prop:=
 ∃ c' t' new S' D', e = .returned (.int .i64 0) ∧ Ag w.heap.size c c' ∧ LayIn c' r rm w' tp st lm ns S' D' (held ++ new) (live ++ new) ∧ Laid2 S D held new S' D' ∧ new.length = dirtyN d t ∧
   t'.isPage∧Num w' v t'.id∧Rep c' rn w' (pgs D') D.blocks False d t' (wPage t'.id)∧Shape d m t'∧flat d t'=flat d t∧(∀id,cnt d (.pg id) t'=cnt d (.pg id) t+new.count id)∧LFr c r rn lm ns w w' d t
def LayQ (D:DSt) (held:List Nat) (D':DSt):Prop:=∀j,(j<2∨j∈held)→lastOpen j D.opn=none→D'.read j=D.read j
def LayNo (c:Nat→Nat) (r rn:Nat) (w:World) (lm:Nat) (ns:List Nat) (S:SSt) (D:DSt) (held:List Nat) (e:Ending) (w':World):Prop:=
 e=.returned (.int .i64 20)∧Fr (fun b=>(c b=r∧b∉ns)∨c b=rn∨b=lm) w w'∧Fell c r w w' S.dk D (LayQ D held)
def LayRes (c:Nat→Nat) (r rn rm:Nat) (w:World) (tp st lm:Nat) (ns:List Nat) (S:SSt) (D:DSt) (held live:List Nat) (d m:Nat) (t:T) (v:Value) (e:Ending) (w':World):Prop:=
 LayOk c r rn rm w tp st lm ns S D held live d m t v e w'∨LayNo c r rn w lm ns S D held e w'
end
section
def LayIH (r rn rm tp st lm:Nat) (ns:List Nat) (d:Nat):Prop:=
 ∀ (c : Nat → Nat) (w : World) (S : SSt) (D : DSt) (held live : List Nat) (m : Nat) (t : T) (v : Value), LayIn c r rm w tp st lm ns S D held live → (∀ x ∈ live, x ∈ held) → Rep c rn w (pgs D) D.blocks False d t v → Shape d m t → (∀ id, 0 < cnt d (.pg id) t → id ∈ held) → (∀ b o, cnt d (.cl b o) t ≤ 1) → held.length + dirtyN d t ≤ S.pages → D.opn.length + dirtyN d t ≤ 50000 →
   Calls Tryz.prog 149 #[.pointer (some ⟨tp,0,none⟩),v] w (LayRes c r rn rm w tp st lm ns S D held live d m t v)
structure LKid (c:Nat→Nat) (rn:Nat) (w:World) (pg:Nat→Option Bs) (N d:Nat) (k:T) (u:Value) (k':T):Prop where
 page:k'.isPage
 num:Num w u k'.id
 rep:Rep c rn w pg N False d k' (wPage k'.id)
 shape:Shape d 2 k'
 flat:flat d k'=flat d k
structure Unlike (d n g o:Nat) (ks:List T):Prop where
 me:∀(i:Nat) (k:T),ks[i]?=some k→cnt d (.cl n 0) k=0
 row:∀(i:Nat) (k:T) (j:Nat),ks[i]?=some k→j<ks.length→cnt d (.cl g (o+j)) k=0
 two:∀(i j:Nat) (k k2:T),ks[i]?=some k→ks[j]?=some k2→i≠j→∀b p,0<cnt d (.cl b p) k2→cnt d (.cl b p) k=0
 ng:∀j,j<ks.length→¬(n=g∧0=o+j)
def KidCells (c:Nat→Nat) (rn:Nat) (w:World) (d:Nat) (ks:List T) (kvs:List Value):Prop:=∀(i:Nat) (k:T) (u:Value) (n:Nat),ks[i]?=some k→kvs[i]?=some u→(u=wLeaf n∨u=wInner n)→c n=rn∧0<cnt d (.cl n 0) k∧n<w.heap.size
structure LayLoop (c:Nat→Nat) (r rn rm:Nat) (w:World) (tp st lm:Nat) (ns:List Nat) (S:SSt) (D:DSt) (held live:List Nat) (d n g o:Nat) (l:List KV) (ks:List T) (kvs:List Value) (v:Value) (k:Nat) (wr:World) (c1:Nat→Nat) (tsd:List T) (new:List Nat) (S1:SSt) (D1:DSt):Prop where
 ag:Ag w.heap.size c c1
 inn:LayIn c1 r rm wr tp st lm ns S1 D1 (held++new) (live++new)
 laid:Laid2 S D held new S1 D1
 len:new.length=sumN ((ks.map (dirtyN d)).take k)
 tl:tsd.length=k
 done:∀(i:Nat) (k0:T) (u:Value),i<k→ks[i]?=some k0→kvs[i]?=some u→∃k',tsd[i]?=some k'∧LKid c1 rn wr (pgs D1) D.blocks d k0 u k'
 inh:∀k'∈tsd,∀id,0<cnt d (.pg id) k'→id∈held++new
 cnts:∀id,sumN (tsd.map (cnt d (.pg id)))=sumN ((ks.map (cnt d (.pg id))).take k)+new.count id
 lfr:LFr c r rn lm ns w wr (d+1) (.node (.mem n g o) l ks)
 node:NodeAt (Dt c1) wr n g o 0 l kvs v
 rest:∀(i:Nat) (k0:T) (u:Value),k≤i→ks[i]?=some k0→kvs[i]?=some u→Rep c1 rn wr (pgs D1) D.blocks False d k0 u
structure LayLoop2 (c:Nat→Nat) (r rn lm:Nat) (w:World) (ns:List Nat) (d n g o id:Nat) (l:List KV) (ks:List T) (kvs:List Value) (ids:List Nat) (kc:Nat) (c3:Nat→Nat) (w5:World) (k:Nat) (wr:World):Prop where
 fr:Fr (fun b=>c3 b=rn) w5 wr
 cells:∀(j:Nat) (u:Value),k≤j→kvs[j]?=some u→wr.cell? ⟨g,o+j,none⟩=some u
 nums:∀(j:Nat) (u:Value) (x:Nat),k≤j→kvs[j]?=some u→ids[j]?=some x→Num wr u x
 c0:wr.cell? ⟨n,0,none⟩=some (.int .i64 (id:Int))
 c2:wr.cell? ⟨n,2,none⟩=some (.slice (some ⟨g,o,none⟩) kvs.length kc)
 pg:Plain wr g
 lfr:LFr c r rn lm ns w wr (d+1) (.node (.mem n g o) l ks)
end
section
structure SnapS where
 sp:Nat
 pm:Nat
 root:Root
 pages:List Nat
def wRoot:Root→Value
 |none=>.nilIface
 |some (_,t)=>wPage t.id
structure SnapM (c:Nat→Nat) (rm:Nat) (w:World) (tp:Nat) (v:Value) (s:SnapS):Prop where
 v:v=.pointer (some ⟨s.sp,0,none⟩)
 blk:w.heap[s.sp]?=some (.cells #[.pointer (some ⟨tp,0,none⟩),wRoot s.root,.map (some s.pm),.bool false] 257 (0,0))
 own:c s.sp=rm
 map:MapIs w s.pm (vmap (ones s.pages))
 mo:c s.pm=0
theorem SnapM.fr {C:Nat→Prop} {c c':Nat→Nat} {rm:Nat} {w w':World} {tp:Nat} {v:Value} {s:SnapS} (h:SnapM c rm w tp v s) (hf:Fr C w w') (ha:Ag w.heap.size c c') (h1:¬C s.sp) (h2:¬C s.pm):SnapM c' rm w' tp v s:=
 ⟨h.v,hf.blk h.blk h1,(ha _ (Array.getElem?_eq_some_iff.1 h.blk).1).trans h.own,h.map.fr hf h2,(ha _ h.map.lt).trans h.mo⟩
structure RelIn (c:Nat→Nat) (r rm:Nat) (w:World) (tp st lm km:Nat) (ov:Value) (ns:List Nat) (S:SSt) (D:DSt) (held back live kept:List Nat) (snaps:List SnapS) (sn:List Value):Prop where
 hd:Hd c r w tp st S D
 cl:Cl w c
 ap:Apart c r w ns
 tpn:tp∈ns
 t7:w.cell? ⟨tp,7,none⟩=some (.map (some lm))
 t9:w.cell? ⟨tp,9,none⟩=some ov
 t10:w.cell? ⟨tp,10,none⟩=some (.map (some km))
 mp:MapIs w lm (vmap (ones live))
 ml:c lm=rm
 kp:MapIs w km (vmap (ones kept))
 mo:c km=rm
 lk:lm≠km
 st:S.state=marks held back
 nd:held.Nodup
 orow:w.ownsRow 0 255 1 ov snaps.length sn
 oo:∀b,ov.ownBlock=some b→c b=rm
 sns:All2 (SnapM c rm w tp) sn snaps
def addK (id:Nat) (l:List Nat):List Nat:=if id∈l then l else l++[id]
def Wants (snaps:List SnapS) (id:Nat):Prop:=∃s∈snaps,id∈s.pages
def RelR (c:Nat→Nat) (r rm:Nat) (w:World) (tp st lm km id:Nat) (ov:Value) (ns:List Nat) (S:SSt) (D:DSt) (held back live kept:List Nat) (snaps:List SnapS) (sn:List Value) (w':World):Prop:=
 Fr (fun b=>(c b=r∧b∉ns)∨b=lm∨b=km) w w'∧((Wants snaps id∧RelIn c r rm w' tp st lm km ov ns S D held back live (addK id kept) snaps sn)∨(¬Wants snaps id∧RelIn c r rm w' tp st lm km ov ns (S.set id 2) D held (id::back) live (kept.filter fun j=>decide (j≠id)) snaps sn))
end
section
def ownL (v:Value):List Nat:=match v.ownBlock with|some b=>[b]|none=>[]
end
end Go.Proofs.YtidalepbkljkpaaGreat
