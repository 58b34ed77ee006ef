import Derived.Test.YtidalepbkljkpaaGreatLocalSpaces14
import Derived.Recover
import Derived.Test.YtidalepbkljkpaaGreatLocalSpaces17
import Derived.Test.YtidalepbkljkpaaGreatLocalSpaces15
set_option linter.all false
namespace Go.Proofs.YtidalepbkljkpaaGreat
open Go.RowKit Go.H
set_option maxRecDepth 100000
section
set_option maxHeartbeats 2000000
@[go_sem] theorem z9x (v : Value) (w : World) : (Instr.typeAssert (.iface 33 v) 20 33 true).run Tryz.prog w = .ok (.tuple #[v, .bool true]) w := by kernel_rfl
theorem z9y (p X:Value):#[p]++(Array.replicate 19 undef).setIfInBounds 5 X=#[p,undef,undef,undef,undef,undef,X,undef,undef,undef,undef,undef,undef,undef,undef,undef,undef,undef,undef,undef]:=rfl
theorem z9z (p:Addr) (x y:Int) (older:List PanicEntry) (w:World) (hc:w.cell? p=some (.int .i64 x)) (hz:w.frozen? p=false) :
 CallsD Tryz.prog 86 #[.pointer (some p)] (.panicking ({ v:=.iface 33 (.int .i64 y),recovered:=false }::older)) w fun e u' w'=>
  e=.returned (.tuple #[])∧u'=.panicking ({ v:=.iface 33 (.int .i64 y),recovered:=true }::older)∧w'=w.setCell p (.int .i64 y):=by
 refine callsD_of_wpS Tryz.func86 rfl fun c₀ cs hu=>?_
 apply wpS_seq
 apply wpS_region
 simp[wpOpsS,go_sem,recoverD,hu,Tryz.ntmps86,Exit.thenS]
 refine wpS_of_wp ?_
 rw[z9y]
 go_wp2
 simp[bodyPostS,results,Tryz.results86]
theorem za2 (p:Value) (w:World) :
 CallsD Tryz.prog 86 #[p] .returning w fun e u' w'=>e=.returned (.tuple #[])∧u'=.returning∧w'=w:=by
 refine callsD_of_wpS Tryz.func86 rfl fun c₀ cs hu=>?_
 apply wpS_seq
 apply wpS_region
 simp[wpOpsS,go_sem,recoverD,hu,Tryz.ntmps86,Exit.thenS]
 refine wpS_of_wp ?_
 rw[z9y]
 go_wp2
 cases c₀
 simp_all [bodyPostS,results,Tryz.results86]
theorem za3 {u:FrameMode} (e l:Nat) (w:World) (he:w.cell? ⟨e,0,none⟩=some (.int .i64 0)) :
 CallsD Tryz.prog 117 #[.pointer (some ⟨e,0,none⟩),.pointer (some ⟨l,0,none⟩)] u w fun e u' w'=>u'=u∧e=.returned (.tuple #[])∧w'=w:=by
 go_enter_d Tryz.func117,Tryz.ntmps117
 go_wp2
 go_end0
 exact⟨rfl,rfl⟩
theorem za4 {u:FrameMode} (e l:Nat) (x:Int) (v:Value) (w:World) (hx:(x != 0)=true) (he:w.cell? ⟨e,0,none⟩=some (.int .i64 x)) (hl:w.cell? ⟨l,0,none⟩=some v) (hz:w.frozen? ⟨l,0,none⟩=false) :
 CallsD Tryz.prog 117 #[.pointer (some ⟨e,0,none⟩),.pointer (some ⟨l,0,none⟩)] u w fun e u' w'=>u'=u∧e=.returned (.tuple #[])∧w'=w.setCell ⟨l,0,none⟩ (.slice none 0 0):=by
 go_enter_d Tryz.func117,Tryz.ntmps117
 go_wp2
 go_end0
 exact⟨rfl,rfl⟩
end
section
set_option maxHeartbeats 2000000
abbrev Root:=Option (Nat×T)
def RootAt (c:Nat→Nat) (rn:Nat) (w:World) (pg:Nat→Option Bs) (N:Nat) (X:Prop) (o:Root) (v:Value):Prop:=
 match o with
 |none=>v=.nilIface
 |some (d,t)=>Rep c rn w pg N X d t v∧Shape d 1 t
def rootL:Root→List KV
 |none=>[]
 |some (d,t)=>flat d t
theorem RootAt.fr {C:Nat→Prop} {c:Nat→Nat} {rn:Nat} {w w':World} {pg:Nat→Option Bs} {N:Nat} {X:Prop} {o:Root} {v:Value} (h:RootAt c rn w pg N X o v) (hf:Fr C w w') (h1:∀b,C b→c b≠rn) (h2:∀b,C b→c b≠0):RootAt c rn w' pg N X o v:=by
 cases o with
 |none=>exact h
 |some p=>exact⟨Rep.fr hf h1 h2 h.1,h.2⟩
theorem RootAt.fr0 {c:Nat→Nat} {rn:Nat} {w w':World} {pg:Nat→Option Bs} {N:Nat} {X:Prop} {o:Root} {v:Value} (h:RootAt c rn w pg N X o v) (hf:Fr C0 w w'):RootAt c rn w' pg N X o v:=h.fr hf (fun _ k=>k.elim) (fun _ k=>k.elim)
theorem RootAt.ag {c c':Nat→Nat} {rn:Nat} {w:World} {pg:Nat→Option Bs} {N:Nat} {X:Prop} {o:Root} {v:Value} (h:RootAt c rn w pg N X o v) (ha:Ag w.heap.size c c'):RootAt c' rn w pg N X o v:=by
 cases o with
 |none=>exact h
 |some p=>exact⟨Rep.ag ha h.1,h.2⟩
theorem za5 {B:Nat} {w:World} {tp n:Nat} {lov hiv A:Value} {c:Nat→Nat} {q:Nat} {L:List KV} {X:Prop} (ho:Out B c q w A L) (hc:Cl w c) :
 Calls Tryz.prog 118 #[.pointer (some ⟨tp,0,none⟩),.nilIface,lov,hiv,.int .i64 (n:Int),A] w (ThroughRes B c q w X L):=by
 have HE:Hid (ThroughRes B c q w X L (.returned A) w):=zhd ⟨Fr.refl _ _,.inr ⟨A,c,rfl,Ag.refl _ _,hc,ho⟩⟩
 obtain⟨A,cp,rfl,-⟩:=ho.form
 clear ho hc
 go_enter Tryz.func118,Tryz.ntmps118
 go_wp2
 go_ret
 exact HE.out
theorem za6 {B r rn q st tp n:Nat} {S:SSt} {D:DSt} {X:Prop} {lo hi:List UInt8} {lov hiv:Value} {c:Nat→Nat} {w:World} {o:Root} {v:Value} (hq0:q≠0) (hqr:q≠r) (hqn:q≠rn) (hn:n≤9223372036854775807) (hh:Hd c r w tp st S D) (hc:Cl w c) (hr:RootAt c rn w (pgs D) D.blocks X o v) (hso:Sorted (rootL o)) (hlo:BytesAt (Dt c) w lov lo) (hhi:BytesAt (Dt c) w hiv hi) (hB:B≤w.heap.size) (hL:(rootL o).length≤100000) :
 Calls Tryz.prog 118 #[.pointer (some ⟨tp,0,none⟩),v,lov,hiv,.int .i64 (n:Int),.slice none 0 0] w (ThroughRes B c q w X ((rangeL lo hi (rootL o)).take n)):=by
 cases o with
 | none =>
   obtain rfl:=hr
   simpa [rootL,rangeL] using za5 (OutAt.nil _ _ B c q w) hc
 | some p =>
   have:=z9w hq0 hqr hqn hn p.1 1 c w p.2 v (.slice none 0 0) [] hh hc hr.1 hr.2 (Nat.le_refl _) hso hlo hhi (OutAt.nil _ _ B c q w) hB (by simpa [rootL] using hL)
   simpa [addR,rootL] using this
def RngRes (B:Nat) (c:Nat→Nat) (q:Nat) (w:World) (X:Prop) (L:List KV) (e:Ending) (w':World):Prop:=
 Fr C0 w w'∧((X∧e=.returned (.tuple #[.slice none 0 0,.int .i64 22]))∨∃v' c',e=.returned (.tuple #[v',.int .i64 0])∧Ag w.heap.size c c'∧Cl w' c'∧Out B c' q w' v' L)
theorem za7 {c:Nat→Nat} {r:Nat} {w:World} {tp st:Nat} {S:SSt} {D:DSt} (h:Hd c r w tp st S D) :
 Calls Tryz.prog 41 #[.pointer (some ⟨tp,0,none⟩)] w fun e w'=>e=.returned (.bool false)∧w'=w.drew:=by
 obtain⟨sm,d,m,ov,hs⟩:=h.store
 have H:=zhd (z4z hs)
 rw[h.alive.dead] at H
 have c0:=h.cell
 clear h hs
 go_enter Tryz.func41,Tryz.ntmps41
 go_wp2_with fail
 refine H.out.mono ?_
 rintro e w1 ⟨rfl,rfl⟩
 go_wp2
 go_ret
 exact⟨rfl,rfl⟩
theorem za8 {r rn q st tp n:Nat} {S:SSt} {D:DSt} {X:Prop} {lo hi:List UInt8} {lov hiv:Value} {c:Nat→Nat} {w:World} {o:Root} {v:Value} (hq0:q≠0) (hqr:q≠r) (hqn:q≠rn) (hqc:∀b,c b≠q) (hn:n≤9223372036854775807) (hh:Hd c r w tp st S D) (hc:Cl w c) (hr:RootAt c rn w (pgs D) D.blocks X o v) (hso:Sorted (rootL o)) (hlo:BytesAt (Dt c) w lov lo) (hhi:BytesAt (Dt c) w hiv hi) (hl1:lo.length≤64) (hl2:hi.length≤64) (hL:(rootL o).length≤100000) :
 Calls Tryz.prog 90 #[.pointer (some ⟨tp,0,none⟩),v,lov,hiv,.int .i64 (n:Int)] w (RngRes w.heap.size c q w X ((rangeL lo hi (rootL o)).take n)):=by
 have hmf:∀(fn:Fn) (first cap:Array Value) (w:World),(Instr.makeFunc fn first cap).run Tryz.prog w=.ok (.func fn first cap) w:=fun _ _ _ _=>rfl
 have HD:=zhd (fun (w_:World) (hf:Fr C0 w w_)=>za7 (hh.fr0 hf))
 have HT:=zhd (fun (w_:World) (hf:Fr C0 w w_)=>za6 (n:=n) (B:=w_.heap.size) hq0 hqr hqn hn (hh.fr0 hf) (hc.mono hf.size) (hr.fr0 hf) hso (hlo.fr0 hf) (hhi.fr0 hf) (Nat.le_refl _) hL)
 have hn0:¬(n:Int)<0:=by omega
 obtain⟨LA,lc,rfl,-⟩:=hlo.form
 obtain⟨HA,hcc,rfl,-⟩:=hhi.form
 have h1:¬(64:Int)<(lo.length:Int):=by omega
 have h2:¬(64:Int)<(hi.length:Int):=by omega
 have HQC:=zhd hqc
 have HC:=zhd hc
 have hsh:(∃tx y,v=.iface tx y)∨v=.nilIface:=by
  cases o with
  |none=>exact .inr hr
  |some p=>exact .inl hr.1.iface
 clear hh hc hr hso hlo hhi hqc
 go_enter_defers Tryz.func90,Tryz.ntmps90
 go_wp2_with fail
 refine(HD.out _ (((Fr.refl C0 w).alloc _).alloc _)).mono ?_
 rintro e w1 ⟨rfl,rfl⟩
 go_wp2_with fail
 have HT2:=zhd (HT.out _ ((((Fr.refl C0 w).alloc (.cells #[.slice none 0 0] 29)).alloc (.cells #[.int .i64 0] 33)).drew))
 refine HT2.out.mono ?_
 clear HT HT2
 rintro e w2 ⟨f2,h2⟩
 have f2':Fr C0 _ w2:=f2.mono (fun b _ h=>absurd h (HQC.out b))
 have F2:=zhd ((((Fr.refl C0 w).alloc (.cells #[.slice none 0 0] 29)).alloc (.cells #[.int .i64 0] 33)).drew.trans0 f2')
 have hbl:w2.heap[w.heap.size]?=some (.cells #[.slice none 0 0] 29 (0,0)):=f2'.blk (((Fr.refl C0 (w.alloc (.cells #[.slice none 0 0] 29))).alloc (.cells #[.int .i64 0] 33)).drew.blk (heap_alloc_new w _) (fun h=>h)) (fun h=>h)
 have hbe:w2.heap[w.heap.size+1]?=some (.cells #[.int .i64 0] 33 (0,0)):=f2'.blk ((Fr.refl C0 _).drew.blk (show((w.alloc (.cells #[.slice none 0 0] 29)).alloc (.cells #[.int .i64 0] 33)).heap[w.heap.size+1]?=some (.cells #[.int .i64 0] 33 (0,0)) by have:=heap_alloc_new (w.alloc (.cells #[.slice none 0 0] 29)) (.cells #[.int .i64 0] 33);rwa [show(w.alloc (.cells #[.slice none 0 0] 29)).heap.size=w.heap.size+1 by simp] at this) (fun h=>h)) (fun h=>h)
 have l0:=z2k hbl 0 rfl
 have e0:=z2k hbe 0 rfl
 have zl:=z2i 0 hbl
 have ze:=z2i 0 hbe
 clear f2 f2'
 rcases h2 with⟨hX,rfl⟩|⟨v',c',rfl,ag,cl,o'⟩
 · go_wp2_with fail
   refine leaves_cons (f:=86) (args:=#[.pointer (some ⟨w.heap.size+1,0,none⟩)]) (by simp) (by simp[go_sem]) ?_
   refine(z9z ⟨w.heap.size+1,0,none⟩ 0 22 [] w2 e0 ze).mono ?_
   rintro e u' w3 ⟨rfl,rfl,rfl⟩
   have hne:(⟨w.heap.size+1,0,none⟩:Addr)≠⟨w.heap.size,0,none⟩:=by simp
   refine leaves_cons (f:=117) (args:=#[.pointer (some ⟨w.heap.size+1,0,none⟩),.pointer (some ⟨w.heap.size,0,none⟩)]) (by simp[settle]) (by simp[go_sem]) ?_
   refine(za4 (w.heap.size+1) w.heap.size 22 (.slice none 0 0) _ rfl ?_ ?_ ?_).mono ?_
   · simp[go_sem,e0]
   · simp[go_sem,l0]
   · simp[go_sem,zl]
   rintro e u' w4 ⟨rfl,rfl,rfl⟩
   simp[Leaves,settle,results,Tryz.results90,go_sem,l0,e0]
   exact⟨(F2.out.setCell (p:=⟨w.heap.size+1,0,none⟩) (.inl (by simp)) _).setCell (p:=⟨w.heap.size,0,none⟩) (.inl (Nat.le_refl _)) _,.inl ⟨hX,rfl⟩⟩
 · have O':=zhd o'
   have AG':=zhd ag
   have CL':=zhd cl
   obtain⟨A',cp',rfl,-⟩:=o'.form
   clear o' ag cl
   go_wp2_with fail
   refine leaves_cons (f:=86) (args:=#[.pointer (some ⟨w.heap.size+1,0,none⟩)]) (by simp) (by simp[go_sem]) ?_
   refine(za2 _ _).mono ?_
   rintro e u' w3 ⟨rfl,rfl,rfl⟩
   refine leaves_cons (f:=117) (args:=#[.pointer (some ⟨w.heap.size+1,0,none⟩),.pointer (some ⟨w.heap.size,0,none⟩)]) (by simp[settle]) (by simp[go_sem]) ?_
   refine(za3 (w.heap.size+1) w.heap.size _ ?_).mono ?_
   · simp[go_sem,e0]
   rintro e u' w4 ⟨rfl,rfl,rfl⟩
   simp[Leaves,settle,results,Tryz.results90,go_sem,l0,e0]
   have hW:(((w.alloc (.cells #[.slice none 0 0] 29)).alloc (.cells #[.int .i64 0] 33)).drew).heap.size=w.heap.size+2:=by simp
   have hF:=((Fr.refl (fun b=>b=w.heap.size∨b=w.heap.size+1) w2).setCell (p:=⟨w.heap.size,0,none⟩) (.inr (.inl rfl)) (.slice A' (min n (rangeL lo hi (rootL o)).length) cp')).setCell (p:=⟨w.heap.size+1,0,none⟩) (.inr (.inr rfl)) (.int .i64 0)
   refine⟨(F2.out.setCell (p:=⟨w.heap.size,0,none⟩) (.inl (Nat.le_refl _)) _).setCell (p:=⟨w.heap.size+1,0,none⟩) (.inl (by simp)) _,.inr ⟨_,c',rfl,fun b hb=>AG'.out b (by omega),CL'.out.mono (by simp[go_sem]),?_⟩⟩
   have hO:=O'.out
   rw[hW] at hO
   have:=(hO.frB hF (fun b h=>by omega)).lower (B':=w.heap.size) (by omega)
   simpa [List.length_take] using this
end
section
set_option maxHeartbeats 2000000
def wrong (k v:Bs):Nat:=if k=[] then 1 else if 64<k.length∨1800<v.length then 3 else 0
theorem za9 {F G:Nat→Prop} {c:Nat→Nat} {r:Nat} {w:World} {tp st:Nat} {S:SSt} {D:DSt} {kv vv:Value} {k v:Bs} (h:Hd c r w tp st S D) (hk:BytesAt F w kv k) (hv:BytesAt G w vv v) :
 Calls Tryz.prog 93 #[.pointer (some ⟨tp,0,none⟩),kv,vv] w fun e w'=>e=.returned (.int .i64 (wrong k v:Int))∧w'=w.drew:=by
 have H:=zhd (za7 h)
 obtain⟨A,cc,rfl,-⟩:=hk.form
 obtain⟨A',cc',rfl,-⟩:=hv.form
 clear h hk hv
 have HW:Hid (wrong k v=if k=[] then 1 else if 64<k.length∨1800<v.length then 3 else 0):=zhd rfl
 by_cases h0:k=[]
 · have e0:((k.length:Int) == 0)=true:=by rw[h0];rfl
   have H0:=zhd h0
   clear h0
   go_enter Tryz.func93,Tryz.ntmps93
   go_wp2_with fail
   refine H.out.mono ?_
   rintro e w1 ⟨rfl,rfl⟩
   go_wp2
   go_ret
   exact⟨by rw[HW.out,if_pos H0.out];rfl,rfl⟩
 · have e0:((k.length:Int) == 0)=false:=beq_false_of_ne (by have:=List.length_pos_iff.2 h0;omega)
   have H0:=zhd h0
   clear h0
   by_cases h1:64<k.length
   · have h1':(64:Int)<(k.length:Int):=by omega
     go_enter Tryz.func93,Tryz.ntmps93
     go_wp2_with fail
     refine H.out.mono ?_
     rintro e w1 ⟨rfl,rfl⟩
     go_wp2
     go_ret
     exact⟨by rw[HW.out,if_neg H0.out,if_pos (.inl h1)];rfl,rfl⟩
   · have h1':¬(64:Int)<(k.length:Int):=by omega
     by_cases h2:1800<v.length
     · have h2':(1800:Int)<(v.length:Int):=by omega
       go_enter Tryz.func93,Tryz.ntmps93
       go_wp2_with fail
       refine H.out.mono ?_
       rintro e w1 ⟨rfl,rfl⟩
       go_wp2
       go_ret
       exact⟨by rw[HW.out,if_neg H0.out,if_pos (.inr h2)];rfl,rfl⟩
     · have h2':¬(1800:Int)<(v.length:Int):=by omega
       go_enter Tryz.func93,Tryz.ntmps93
       go_wp2_with fail
       refine H.out.mono ?_
       rintro e w1 ⟨rfl,rfl⟩
       go_wp2
       go_ret
       exact⟨by rw[HW.out,if_neg H0.out,if_neg (by omega)];rfl,rfl⟩
end
section
set_option maxHeartbeats 1000000
theorem zaa {l:List Nat} {k:Nat} (h:k<l.length):sumN (l.take (k+1))=sumN (l.take k)+l[k]:=by
 rw[List.take_succ_eq_append_getElem h,z74];simp[sumN]
theorem zab (l:List Nat) (k:Nat):sumN (l.take k)≤sumN l:=by
 have:=z74 (l.take k) (l.drop k)
 rw[List.take_append_drop] at this;omega
theorem zac {w:World}:Calls Tryz.prog 164 #[.nilIface] w fun e w'=>e=.returned (.int .i64 0)∧w=w':=by
 go_enter Tryz.func164,Tryz.ntmps164
 go_wp2
 go_ret
 exact⟨rfl,rfl⟩
theorem zad {c:Nat→Nat} {rn:Nat} {w:World} {pg:Nat→Option Bs} {N:Nat} {X:Prop}:∀{d m:Nat} {t:T} {v:Value},Rep c rn w pg N X d t v→Shape d m t→dirtyN d t≤1000000→
 Calls Tryz.prog 164 #[v] w fun e w'=>e=.returned (.int .i64 (dirtyN d t:Int))∧w=w'
 |0,_,_,_,h,_,_=>h.elim
 | d + 1, m, .node (.page id) l ks, v, h, hs, hb => by
   have hn:Num w v id:=h.num
   obtain⟨rfl,hi,_⟩:=h
   have HFR:=zhd (z77 hn)
   have hd:decide (id=0)=false:=by simp;omega
   rw[hd] at HFR
   clear hn hb hs
   go_enter Tryz.func164,Tryz.ntmps164
   go_wp2_with fail
   refine HFR.out.mono ?_
   rintro e w1 ⟨rfl,rfl⟩
   go_wp2
   go_ret
   exact⟨rfl,rfl⟩
 | d + 1, m, .node (.mem n g o) l ks, v, h, hs, hb => by
   have hn:Num w v 0:=h.num
   have HFR:=zhd (z77 hn)
   have hd:decide (0=0)=true:=rfl
   rw[hd] at HFR
   obtain⟨kvs,hN,hcn,hcg,hks,_⟩:=h
   obtain⟨q1,q2,q3,q4⟩:=hs
   obtain⟨lv,_,_,_,h3⟩:=hN
   have hkl:=All2.length hks
   have hd1:dirtyN (d+1) (.node (.mem n g o) l ks)=1+sumN (ks.map (dirtyN d)):=rfl
   have HD1:=zhd hd1
   rw[hd1] at hb
   clear hd1 hn hcn hcg
   rcases h3 with⟨rfl,rfl⟩|⟨hne,rfl,kc,k0,k1,k2,k3⟩
   · have hks0:ks=[]:=List.eq_nil_of_length_eq_zero (by simpa using hkl)
     subst hks0
     go_enter Tryz.func164,Tryz.ntmps164
     go_wp2_with fail
     refine HFR.out.mono ?_
     rintro e w1 ⟨rfl,rfl⟩
     go_wp2
     go_ret
     exact⟨by rw[HD1.out];rfl,rfl⟩
   · have hks0:ks≠[]:=fun e=>hne (by rw[e] at hkl;exact List.eq_nil_of_length_eq_zero hkl.symm)
     have hq:ks.length=l.length+1∧∀x∈ks,Shape d 2 x:=by
      split at q4
      · exact absurd q4 hks0
      · exact q4
     have IH:Hid (∀i (h:i<kvs.length),Calls Tryz.prog 164 #[kvs[i]] w fun e w'=>e=.returned (.int .i64 (dirtyN d (ks[i]'(by omega)):Int))∧w=w'):=by
      refine zhd fun i hi=>?_
      have hi2:i<ks.length:=by omega
      refine zad (All2.get i hi2 hi hks) (hq.2 _ (List.getElem_mem _)) ?_
      have:=z75 (List.mem_map_of_mem (f:=dirtyN d) (List.getElem_mem hi2))
      omega
     have hkv5:kvs.length≤5:=by have:=hq.1;omega
     have HK3:=zhd k3
     have HIF:=zhd (fun i (h:i<kvs.length)=>(All2.get i (by omega) h hks).iface)
     have HSM:=zhd (fun k=>zab (ks.map (dirtyN d)) k)
     clear k3 q4 q3 hq hks
     go_enter Tryz.func164,Tryz.ntmps164
     go_wp2_with fail
     refine HFR.out.mono ?_
     rintro e w1 ⟨rfl,rfl⟩
     go_wp2
     go_loopw [3,7,26] (fun s _ i wr=>∃k:Nat,k≤kvs.length∧i=.int .i64 (k:Int)∧s=.int .i64 ((1+sumN ((ks.map (dirtyN d)).take k):Nat):Int)∧wr=w) (fun _ _ i _=>kvs.length-(intOf i).toNat)
     case atStart=>exact⟨0,Nat.zero_le _,rfl,by simp[sumN],rfl⟩
     case round=>
      obtain⟨k,hk,rfl,rfl,rfl⟩:=hrel
      by_cases hlt:k<kvs.length
      · have hcell:=HK3.out k kvs[k] (List.getElem?_eq_getElem _)
        have HC:=zhd (IH.out k hlt)
        obtain⟨tx,y,hy⟩:=HIF.out k hlt
        rw[hy] at hcell HC
        have hkn:k<ks.length:=by omega
        have hst:sumN ((ks.map (dirtyN d)).take (k+1))=sumN ((ks.map (dirtyN d)).take k)+dirtyN d ks[k]:=by
         rw[zaa (by simpa using hkn)];simp
        have h1:=HSM.out (k+1)
        have HST:=zhd hst
        rw[hst] at h1
        generalize sumN ((ks.map (dirtyN d)).take k)=s at *
        generalize dirtyN d (ks[k]'hkn)=z at *
        clear hst
        go_wp2_with fail
        refine HC.out.mono ?_
        rintro e w1 ⟨rfl,rfl⟩
        go_wp2
        refine⟨⟨k+1,by omega,by go_num,?_,by trivial⟩,?_⟩
        · rw[HST.out,show(1+(s:Int)+(z:Int))=((1+(s+z):Nat):Int) by omega]
        · simp[intOf];omega
      · obtain rfl:k=kvs.length:=by omega
        go_wp2
        go_ret
        refine⟨?_,rfl⟩
        rw[HD1.out,List.take_of_length_le (by simp;omega)]
        rfl
end
end Go.Proofs.YtidalepbkljkpaaGreat
