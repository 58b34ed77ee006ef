import Derived.Test.YtidalepbkljkpaaGreatDraftSame17
import Derived.Test.YtidalepbkljkpaaGreatDraftSame14
set_option linter.all false
namespace Go.Proofs.YtidalepbkljkpaaGreat
set_option maxHeartbeats 1000000
set_option maxRecDepth 100000
section
open Go.RowKit Go.H
structure Act13 where
 kind:Int
 n:Int
 space:Int
 key:Bs
 value:Bs
instance:Inhabited Act13:=⟨⟨0,0,0,[],[]⟩⟩
structure ActAtS (F:Nat→Prop) (w:World) (g o:Nat) (kv vv:Value) (x:Act13):Prop where
 c0:w.cell? ⟨g,o,none⟩=some (.int .i64 x.kind)
 c1:w.cell? ⟨g,o+1,none⟩=some (.int .i64 x.n)
 c2:w.cell? ⟨g,o+2,none⟩=some (.int .i64 x.space)
 c3:w.cell? ⟨g,o+3,none⟩=some kv
 c4:w.cell? ⟨g,o+4,none⟩=some vv
 key:BytesAt F w kv x.key
 value:BytesAt F w vv x.value
def ActsS (F:Nat→Prop) (w:World) (v:Value) (l:List Act13):Prop:=∃A c,v=.slice A l.length c∧l.length≤c∧c≤maxLen∧∀(i:Nat) (h:i<l.length),∃g o kv vv,A=some ⟨g,o,none⟩∧F g∧ActAtS F w g (o+i*5) kv vv l[i]
theorem ActAtS.fr {F C:Nat→Prop} {w w':World} {g o:Nat} {kv vv:Value} {x:Act13} (h:ActAtS F w g o kv vv x) (hf:Fr C w w') (hd:∀b,F b→¬C b) (hg:F g):ActAtS F w' g o kv vv x:=
 ⟨hf.cell h.c0 (hd g hg),hf.cell h.c1 (hd g hg),hf.cell h.c2 (hd g hg),hf.cell h.c3 (hd g hg),hf.cell h.c4 (hd g hg),h.key.fr hf hd,h.value.fr hf hd⟩
theorem ActsS.fr {F C:Nat→Prop} {w w':World} {v:Value} {l:List Act13} (h:ActsS F w v l) (hf:Fr C w w') (hd:∀b,F b→¬C b):ActsS F w' v l:=by
 obtain⟨A,c,e,h1,h2,h3⟩:=h
 refine⟨A,c,e,h1,h2,fun i hi=>?_⟩
 obtain⟨g,o,kv,vv,e,hg,k⟩:=h3 i hi
 exact⟨g,o,kv,vv,e,hg,k.fr hf hd hg⟩
theorem ActsS.mono {F F':Nat→Prop} {w:World} {v:Value} {l:List Act13} (h:ActsS F w v l) (hF:∀b,F b→b<w.heap.size→F' b):ActsS F' w v l:=by
 obtain⟨A,c,e,h1,h2,h3⟩:=h
 refine⟨A,c,e,h1,h2,fun i hi=>?_⟩
 obtain⟨g,o,kv,vv,e,hg,k⟩:=h3 i hi
 exact⟨g,o,kv,vv,e,hF g hg (World.block_lt_of_cell? w _ k.c0),⟨k.c0,k.c1,k.c2,k.c3,k.c4,k.key.mono hF,k.value.mono hF⟩⟩
theorem ActsS.form {F:Nat→Prop} {w:World} {v:Value} {l:List Act13} (h:ActsS F w v l):∃A c,v=.slice A l.length c∧l.length≤c∧c≤maxLen:=by
 obtain⟨A,c,e,h1,h2,h3⟩:=h
 exact⟨A,c,e,h1,h2⟩
theorem ActsS.at_ {F:Nat→Prop} {w:World} {A:Option Addr} {c:Nat} {l:List Act13} (h:ActsS F w (.slice A l.length c) l) (i:Nat) (hi:i<l.length):∃g o kv vv,A=some ⟨g,o,none⟩∧ActAtS F w g (o+i*5) kv vv l[i]:=by
 obtain⟨A',c',e,h1,h2,h3⟩:=h
 injection e with e1 e2 e3
 subst e1
 obtain⟨g,o,kv,vv,e,hg,k⟩:=h3 i hi
 exact⟨g,o,kv,vv,e,k⟩
def chg13 (x:Act13):List Chg:=
 if x.kind=1 then(if rightL x.space (x.key.take 62) [] false=0 then[⟨x.space,x.key.take 62,[],true⟩] else[])
 else(if rightL x.space (x.key.take 62) (x.value.take 62) false=0 then[⟨x.space,x.key.take 62,x.value.take 62,false⟩] else[])
theorem z9f (x:Act13):(chg13 x).length≤1:=by
 unfold chg13
 split<;>split<;>simp
theorem z9g:∀l:List Act13,(l.flatMap chg13).length≤l.length
 |[]=>by simp
 | x :: l => by
   rw[List.flatMap_cons,List.length_append,List.length_cons]
   have:=z9f x
   have:=z9g l
   omega
theorem z9h {fn:Func} {p:Tmp} {ty:TypeId} (h:fn.results=#[.cell p ty]) (tmps:Array Value) (P:Program) (w:World) :
 (results fn tmps).run P w=((asAddr (tmps.getD p undef)).run P w).andThen fun a w1=>((loadVar ty a).run P w1).andThen fun v w2=>.ok v w2:=by
 simp only[results,h]
 simp[Sem.run_bind,Result.andThen]
 cases Sem.run P (asAddr (tmps[p]?.getD undef)) w with
 | ok a w =>
   simp only[]
   cases Sem.run P (loadVar ty a) w<;>rfl
 |halt h w=>rfl
theorem z9i {P:Program} {fn:Func} {R:Ending→World→Prop} {p:Tmp} {ty:TypeId} (h:fn.results=#[.cell p ty]) {a:Act} {w:World} {g:Nat} {cs:Array Value} {d:TypeDesc} {t:TypeId} {fr:Nat×Nat}
 (hp:a.tmps.getD p undef=.pointer (some ⟨g,0,none⟩)) (hg:w.heap[g]?=some (.cells cs t fr)) (hu:P.underlying ty=some d) (hd:(match d with|.struct _|.array _ _=>true|_=>false)=true) (hi:(P.info? ty).map (·.size)=some cs.size)
 (hdef:a.defers=[]) (hR:R (.returned (.agg cs)) w):bodyPost P fn R .ret a w:=by
 refine bodyPost_ret_by (v:=.agg cs) ?_ hdef hR
 rw[z9h h,hp]
 simp only[asAddr,Sem.run_pure,Result.andThen_ok,run_loadVar_row w g t ty cs fr d hg hu hd hi]
theorem z9j {α:Type} (l:List α) (n:Nat):l.take (l.take n).length=l.take n:=by
 rw[List.length_take]
 by_cases h:n≤l.length
 · rw[Nat.min_eq_left h]
 · rw[Nat.min_eq_right (by omega),List.take_length,List.take_of_length_le (by omega)]
theorem z9k {F G:Nat→Prop} {w:World} {A A':Option Addr} {p p' n1 n2 kl vl:Nat} {k2 v2:Bs} {s:Int} (hk2:BytesAt F w (.slice A n1 p) k2) (hv2:BytesAt G w (.slice A' n2 p') v2) (h1:kl≤p) (h1':vl≤p') (h2:p≤9223372036854775807) (h2':p'≤9223372036854775807) (lk62:k2.length≤62) (lv62:v2.length≤62)
 (e1:(n1=62∧(62:Int)<(kl:Int))∨(n1=kl∧¬(62:Int)<(kl:Int))) (e2:(n2=62∧(62:Int)<(vl:Int))∨(n2=vl∧¬(62:Int)<(vl:Int))) :
 Calls Tryz.prog 20 #[.agg #[.int .i64 s,.slice A kl p,.slice A' vl p']] w fun e w'=>∃A m p A' m' p',e=.returned (.agg #[.int .i64 s,.slice A m p,.slice A' m' p'])∧Hid (Fr C0 w w'∧BytesAt (fun b=>w.heap.size≤b) w' (.slice A m p) k2∧BytesAt (fun b=>w.heap.size≤b) w' (.slice A' m' p') v2):=by
 have mk:min (kl:Int) 62=(n1:Int):=by omega
 have mv:min (vl:Int) 62=(n2:Int):=by omega
 obtain⟨W1,hW1⟩:∃W1,W1=(w.alloc (.cells #[.int .i64 s,.slice A kl p,.slice A' vl p'] 42)).alloc (.cells #[.int .i64 0,.slice none 0 0,.slice none 0 0] 42):=⟨_,rfl⟩
 have F1:Fr C0 w W1:=by rw[hW1];exact((Fr.refl C0 w).alloc _).alloc _
 have hbp:W1.heap[w.heap.size]?=some (.cells #[.int .i64 s,.slice A kl p,.slice A' vl p'] 42 (0,0)):=by rw[hW1];exact((Fr.refl C0 _).alloc _).blk (heap_alloc_new w _) (fun e=>e)
 have hbr:W1.heap[w.heap.size+1]?=some (.cells #[.int .i64 0,.slice none 0 0,.slice none 0 0] 42 (0,0)):=by
  rw[hW1]
  have:=heap_alloc_new (w.alloc (.cells #[.int .i64 s,.slice A kl p,.slice A' vl p'] 42)) (.cells #[.int .i64 0,.slice none 0 0,.slice none 0 0] 42)
  simpa using this
 have HC1:=zhd (z7o (hk2.fr0 F1) (by omega))
 have HBP:=zhd hbp
 have HBR:=zhd hbr
 have HV2:=zhd hv2
 have HW1:=zhd hW1
 have FF1:=zhd F1
 have c1:=z1u hbp 1 rfl
 have C1:=zhd c1
 rw[hW1] at c1
 have HS1:Hid (W1.heap.size=w.heap.size+2):=zhd (by rw[hW1];simp)
 clear hk2 hv2 hbp hbr F1 hW1
 rcases e1 with⟨rfl,h6⟩|⟨rfl,h6⟩
 · rcases e2 with⟨rfl,h7⟩|⟨rfl,h7⟩
   · skip
     go_enter Tryz.func20,Tryz.ntmps20
     go_wp2_with fail
     rw[←HW1.out]
     clear c1 HW1
     refine HC1.out.mono ?_
     rintro e w2 ⟨u2,rfl,f2,o2⟩
     have B2:=zhd (BytesAt.ofOwn (F:=fun b=>w.heap.size+2≤b) o2 (fun b e=>by have:=(o2.lt b e).1;have:=HS1.out;omega))
     obtain⟨A2,p2,rfl,-⟩:=z0n o2
     have hb2:=f2.blk HBP.out (fun e=>e)
     have hr2:=f2.blk HBR.out (fun e=>e)
     have z1:=z1s 1 hb2
     have y1:=z1u hb2 1 rfl
     have y2a:=z1u hb2 2 rfl
     have F2:=zhd (FF1.out.trans0 f2)
     have SZ2:=zhd f2.size
     have fs:=(Fr.refl (fun b=>b=w.heap.size) w2).setCell (p:=⟨w.heap.size,1,none⟩) (.inr rfl) (.slice A2 k2.length p2)
     have hb3:=z1t (i:=1) hb2 (.slice A2 k2.length p2)
     have HB3:=zhd hb3
     have y2b:=z1u hb3 2 rfl
     have HR3:=zhd (fs.blk hr2 (fun e=>by have e2:w.heap.size+1=w.heap.size:=e;omega))
     have F3:Hid (Fr C0 w (w2.setCell ⟨w.heap.size,1,none⟩ (.slice A2 k2.length p2))):=zhd (F2.out.setCell (p:=⟨w.heap.size,1,none⟩) (.inl (Nat.le_refl _)) _)
     have B3:=zhd (B2.out.fr fs (fun b hb e=>by have e2:b=w.heap.size:=e;omega))
     have HC2:=zhd (z7o (HV2.out.fr0 F3.out) (by omega))
     clear f2 o2 hr2 C1 HC1 fs hb2 hb3
     go_wp2_with fail
     refine HC2.out.mono ?_
     rintro e w4 ⟨u4,rfl,f4,o4⟩
     have hsz3:(w2.setCell ⟨w.heap.size,1,none⟩ (.slice A2 k2.length p2)).heap.size=w2.heap.size:=by simp[World.setCell]
     have hsz2:=F2.out.size
     have F2W:=SZ2.out
     have B4:=zhd (BytesAt.ofOwn (F:=fun b=>w.heap.size+2≤b) o4 (fun b e=>by have h1:=(o4.lt b e).1;have:=HS1.out;have:=F2W;omega))
     obtain⟨A4,p4,rfl,-⟩:=z0n o4
     have hb4:=f4.blk HB3.out (fun e=>e)
     have hr4:=f4.blk HR3.out (fun e=>e)
     have B34:=zhd (B3.out.fr0 f4)
     have F4:=zhd (F3.out.trans0 f4)
     have z2:=z1s 2 hb4
     have y2:=z1u hb4 2 rfl
     have hb5:=z1t (i:=2) hb4 (.slice A4 v2.length p4)
     have fs4:=(Fr.refl (fun b=>b=w.heap.size) w4).setCell (p:=⟨w.heap.size,2,none⟩) (.inr rfl) (.slice A4 v2.length p4)
     have hr5:=fs4.blk hr4 (fun e=>by have e2:w.heap.size+1=w.heap.size:=e;omega)
     have B5:=zhd (B34.out.fr fs4 (fun b hb e=>by have e2:b=w.heap.size:=e;omega))
     have V5:=zhd (B4.out.fr fs4 (fun b hb e=>by have e2:b=w.heap.size:=e;omega))
     have F5:Hid (Fr C0 w (w4.setCell ⟨w.heap.size,2,none⟩ (.slice A4 v2.length p4))):=zhd (F4.out.setCell (p:=⟨w.heap.size,2,none⟩) (.inl (Nat.le_refl _)) _)
     have q0:=z1u hb5 0 rfl
     have q1:=z1u hb5 1 rfl
     have q2:=z1u hb5 2 rfl
     have r0:=z1s 0 hr5
     have r1:=z1s 1 hr5
     have r2:=z1s 2 hr5
     have u0:=z1u hr5 0 rfl
     have u1:=z1u hr5 1 rfl
     have u2:=z1u hr5 2 rfl
     have HR5:=zhd hr5
     clear f4 o4 hb4 hr4 fs4 HC2 z1 y1 hb5 hr5 y2a y2b
     go_wp2_with fail
     refine z9i rfl rfl (z1t (i:=2) (z1t (i:=1) (z1t (i:=0) HR5.out _) _) _) Tryz.underlying42 rfl (by kernel_rfl) ?_ ?_
     · rfl
     have fe:=(((Fr.refl (fun b=>b=w.heap.size+1) (w4.setCell ⟨w.heap.size,2,none⟩ (.slice A4 v2.length p4))).setCell (p:=⟨w.heap.size+1,0,none⟩) (.inr rfl) (.int .i64 s)).setCell (p:=⟨w.heap.size+1,1,none⟩) (.inr rfl) (.slice A2 k2.length p2)).setCell (p:=⟨w.heap.size+1,2,none⟩) (.inr rfl) (.slice A4 v2.length p4)
     have hd:∀b,w.heap.size+2≤b→¬b=w.heap.size+1:=fun b hb=>by omega
     refine⟨A2,_,p2,A4,_,p4,rfl,zhd ⟨(((F5.out.setCell (p:=⟨w.heap.size+1,0,none⟩) (.inl (by show w.heap.size≤w.heap.size+1;omega)) _).setCell (p:=⟨w.heap.size+1,1,none⟩) (.inl (by show w.heap.size≤w.heap.size+1;omega)) _).setCell (p:=⟨w.heap.size+1,2,none⟩) (.inl (by show w.heap.size≤w.heap.size+1;omega)) _),(B5.out.fr fe hd).mono (fun b hb _=>by omega),(V5.out.fr fe hd).mono (fun b hb _=>by omega)⟩⟩
   · skip
     go_enter Tryz.func20,Tryz.ntmps20
     go_wp2_with fail
     rw[←HW1.out]
     clear c1 HW1
     refine HC1.out.mono ?_
     rintro e w2 ⟨u2,rfl,f2,o2⟩
     have B2:=zhd (BytesAt.ofOwn (F:=fun b=>w.heap.size+2≤b) o2 (fun b e=>by have:=(o2.lt b e).1;have:=HS1.out;omega))
     obtain⟨A2,p2,rfl,-⟩:=z0n o2
     have hb2:=f2.blk HBP.out (fun e=>e)
     have hr2:=f2.blk HBR.out (fun e=>e)
     have z1:=z1s 1 hb2
     have y1:=z1u hb2 1 rfl
     have y2a:=z1u hb2 2 rfl
     have F2:=zhd (FF1.out.trans0 f2)
     have SZ2:=zhd f2.size
     have fs:=(Fr.refl (fun b=>b=w.heap.size) w2).setCell (p:=⟨w.heap.size,1,none⟩) (.inr rfl) (.slice A2 k2.length p2)
     have hb3:=z1t (i:=1) hb2 (.slice A2 k2.length p2)
     have HB3:=zhd hb3
     have y2b:=z1u hb3 2 rfl
     have HR3:=zhd (fs.blk hr2 (fun e=>by have e2:w.heap.size+1=w.heap.size:=e;omega))
     have F3:Hid (Fr C0 w (w2.setCell ⟨w.heap.size,1,none⟩ (.slice A2 k2.length p2))):=zhd (F2.out.setCell (p:=⟨w.heap.size,1,none⟩) (.inl (Nat.le_refl _)) _)
     have B3:=zhd (B2.out.fr fs (fun b hb e=>by have e2:b=w.heap.size:=e;omega))
     have HC2:=zhd (z7o (HV2.out.fr0 F3.out) (by omega))
     clear f2 o2 hr2 C1 HC1 fs hb2 hb3
     go_wp2_with fail
     refine HC2.out.mono ?_
     rintro e w4 ⟨u4,rfl,f4,o4⟩
     have hsz3:(w2.setCell ⟨w.heap.size,1,none⟩ (.slice A2 k2.length p2)).heap.size=w2.heap.size:=by simp[World.setCell]
     have hsz2:=F2.out.size
     have F2W:=SZ2.out
     have B4:=zhd (BytesAt.ofOwn (F:=fun b=>w.heap.size+2≤b) o4 (fun b e=>by have h1:=(o4.lt b e).1;have:=HS1.out;have:=F2W;omega))
     obtain⟨A4,p4,rfl,-⟩:=z0n o4
     have hb4:=f4.blk HB3.out (fun e=>e)
     have hr4:=f4.blk HR3.out (fun e=>e)
     have B34:=zhd (B3.out.fr0 f4)
     have F4:=zhd (F3.out.trans0 f4)
     have z2:=z1s 2 hb4
     have y2:=z1u hb4 2 rfl
     have hb5:=z1t (i:=2) hb4 (.slice A4 v2.length p4)
     have fs4:=(Fr.refl (fun b=>b=w.heap.size) w4).setCell (p:=⟨w.heap.size,2,none⟩) (.inr rfl) (.slice A4 v2.length p4)
     have hr5:=fs4.blk hr4 (fun e=>by have e2:w.heap.size+1=w.heap.size:=e;omega)
     have B5:=zhd (B34.out.fr fs4 (fun b hb e=>by have e2:b=w.heap.size:=e;omega))
     have V5:=zhd (B4.out.fr fs4 (fun b hb e=>by have e2:b=w.heap.size:=e;omega))
     have F5:Hid (Fr C0 w (w4.setCell ⟨w.heap.size,2,none⟩ (.slice A4 v2.length p4))):=zhd (F4.out.setCell (p:=⟨w.heap.size,2,none⟩) (.inl (Nat.le_refl _)) _)
     have q0:=z1u hb5 0 rfl
     have q1:=z1u hb5 1 rfl
     have q2:=z1u hb5 2 rfl
     have r0:=z1s 0 hr5
     have r1:=z1s 1 hr5
     have r2:=z1s 2 hr5
     have u0:=z1u hr5 0 rfl
     have u1:=z1u hr5 1 rfl
     have u2:=z1u hr5 2 rfl
     have HR5:=zhd hr5
     clear f4 o4 hb4 hr4 fs4 HC2 z1 y1 hb5 hr5 y2a y2b
     go_wp2_with fail
     refine z9i rfl rfl (z1t (i:=2) (z1t (i:=1) (z1t (i:=0) HR5.out _) _) _) Tryz.underlying42 rfl (by kernel_rfl) ?_ ?_
     · rfl
     have fe:=(((Fr.refl (fun b=>b=w.heap.size+1) (w4.setCell ⟨w.heap.size,2,none⟩ (.slice A4 v2.length p4))).setCell (p:=⟨w.heap.size+1,0,none⟩) (.inr rfl) (.int .i64 s)).setCell (p:=⟨w.heap.size+1,1,none⟩) (.inr rfl) (.slice A2 k2.length p2)).setCell (p:=⟨w.heap.size+1,2,none⟩) (.inr rfl) (.slice A4 v2.length p4)
     have hd:∀b,w.heap.size+2≤b→¬b=w.heap.size+1:=fun b hb=>by omega
     refine⟨A2,_,p2,A4,_,p4,rfl,zhd ⟨(((F5.out.setCell (p:=⟨w.heap.size+1,0,none⟩) (.inl (by show w.heap.size≤w.heap.size+1;omega)) _).setCell (p:=⟨w.heap.size+1,1,none⟩) (.inl (by show w.heap.size≤w.heap.size+1;omega)) _).setCell (p:=⟨w.heap.size+1,2,none⟩) (.inl (by show w.heap.size≤w.heap.size+1;omega)) _),(B5.out.fr fe hd).mono (fun b hb _=>by omega),(V5.out.fr fe hd).mono (fun b hb _=>by omega)⟩⟩
 · rcases e2 with⟨rfl,h7⟩|⟨rfl,h7⟩
   · skip
     go_enter Tryz.func20,Tryz.ntmps20
     go_wp2_with fail
     rw[←HW1.out]
     clear c1 HW1
     refine HC1.out.mono ?_
     rintro e w2 ⟨u2,rfl,f2,o2⟩
     have B2:=zhd (BytesAt.ofOwn (F:=fun b=>w.heap.size+2≤b) o2 (fun b e=>by have:=(o2.lt b e).1;have:=HS1.out;omega))
     obtain⟨A2,p2,rfl,-⟩:=z0n o2
     have hb2:=f2.blk HBP.out (fun e=>e)
     have hr2:=f2.blk HBR.out (fun e=>e)
     have z1:=z1s 1 hb2
     have y1:=z1u hb2 1 rfl
     have y2a:=z1u hb2 2 rfl
     have F2:=zhd (FF1.out.trans0 f2)
     have SZ2:=zhd f2.size
     have fs:=(Fr.refl (fun b=>b=w.heap.size) w2).setCell (p:=⟨w.heap.size,1,none⟩) (.inr rfl) (.slice A2 k2.length p2)
     have hb3:=z1t (i:=1) hb2 (.slice A2 k2.length p2)
     have HB3:=zhd hb3
     have y2b:=z1u hb3 2 rfl
     have HR3:=zhd (fs.blk hr2 (fun e=>by have e2:w.heap.size+1=w.heap.size:=e;omega))
     have F3:Hid (Fr C0 w (w2.setCell ⟨w.heap.size,1,none⟩ (.slice A2 k2.length p2))):=zhd (F2.out.setCell (p:=⟨w.heap.size,1,none⟩) (.inl (Nat.le_refl _)) _)
     have B3:=zhd (B2.out.fr fs (fun b hb e=>by have e2:b=w.heap.size:=e;omega))
     have HC2:=zhd (z7o (HV2.out.fr0 F3.out) (by omega))
     clear f2 o2 hr2 C1 HC1 fs hb2 hb3
     go_wp2_with fail
     refine HC2.out.mono ?_
     rintro e w4 ⟨u4,rfl,f4,o4⟩
     have hsz3:(w2.setCell ⟨w.heap.size,1,none⟩ (.slice A2 k2.length p2)).heap.size=w2.heap.size:=by simp[World.setCell]
     have hsz2:=F2.out.size
     have F2W:=SZ2.out
     have B4:=zhd (BytesAt.ofOwn (F:=fun b=>w.heap.size+2≤b) o4 (fun b e=>by have h1:=(o4.lt b e).1;have:=HS1.out;have:=F2W;omega))
     obtain⟨A4,p4,rfl,-⟩:=z0n o4
     have hb4:=f4.blk HB3.out (fun e=>e)
     have hr4:=f4.blk HR3.out (fun e=>e)
     have B34:=zhd (B3.out.fr0 f4)
     have F4:=zhd (F3.out.trans0 f4)
     have z2:=z1s 2 hb4
     have y2:=z1u hb4 2 rfl
     have hb5:=z1t (i:=2) hb4 (.slice A4 v2.length p4)
     have fs4:=(Fr.refl (fun b=>b=w.heap.size) w4).setCell (p:=⟨w.heap.size,2,none⟩) (.inr rfl) (.slice A4 v2.length p4)
     have hr5:=fs4.blk hr4 (fun e=>by have e2:w.heap.size+1=w.heap.size:=e;omega)
     have B5:=zhd (B34.out.fr fs4 (fun b hb e=>by have e2:b=w.heap.size:=e;omega))
     have V5:=zhd (B4.out.fr fs4 (fun b hb e=>by have e2:b=w.heap.size:=e;omega))
     have F5:Hid (Fr C0 w (w4.setCell ⟨w.heap.size,2,none⟩ (.slice A4 v2.length p4))):=zhd (F4.out.setCell (p:=⟨w.heap.size,2,none⟩) (.inl (Nat.le_refl _)) _)
     have q0:=z1u hb5 0 rfl
     have q1:=z1u hb5 1 rfl
     have q2:=z1u hb5 2 rfl
     have r0:=z1s 0 hr5
     have r1:=z1s 1 hr5
     have r2:=z1s 2 hr5
     have u0:=z1u hr5 0 rfl
     have u1:=z1u hr5 1 rfl
     have u2:=z1u hr5 2 rfl
     have HR5:=zhd hr5
     clear f4 o4 hb4 hr4 fs4 HC2 z1 y1 hb5 hr5 y2a y2b
     go_wp2_with fail
     refine z9i rfl rfl (z1t (i:=2) (z1t (i:=1) (z1t (i:=0) HR5.out _) _) _) Tryz.underlying42 rfl (by kernel_rfl) ?_ ?_
     · rfl
     have fe:=(((Fr.refl (fun b=>b=w.heap.size+1) (w4.setCell ⟨w.heap.size,2,none⟩ (.slice A4 v2.length p4))).setCell (p:=⟨w.heap.size+1,0,none⟩) (.inr rfl) (.int .i64 s)).setCell (p:=⟨w.heap.size+1,1,none⟩) (.inr rfl) (.slice A2 k2.length p2)).setCell (p:=⟨w.heap.size+1,2,none⟩) (.inr rfl) (.slice A4 v2.length p4)
     have hd:∀b,w.heap.size+2≤b→¬b=w.heap.size+1:=fun b hb=>by omega
     refine⟨A2,_,p2,A4,_,p4,rfl,zhd ⟨(((F5.out.setCell (p:=⟨w.heap.size+1,0,none⟩) (.inl (by show w.heap.size≤w.heap.size+1;omega)) _).setCell (p:=⟨w.heap.size+1,1,none⟩) (.inl (by show w.heap.size≤w.heap.size+1;omega)) _).setCell (p:=⟨w.heap.size+1,2,none⟩) (.inl (by show w.heap.size≤w.heap.size+1;omega)) _),(B5.out.fr fe hd).mono (fun b hb _=>by omega),(V5.out.fr fe hd).mono (fun b hb _=>by omega)⟩⟩
   · skip
     go_enter Tryz.func20,Tryz.ntmps20
     go_wp2_with fail
     rw[←HW1.out]
     clear c1 HW1
     refine HC1.out.mono ?_
     rintro e w2 ⟨u2,rfl,f2,o2⟩
     have B2:=zhd (BytesAt.ofOwn (F:=fun b=>w.heap.size+2≤b) o2 (fun b e=>by have:=(o2.lt b e).1;have:=HS1.out;omega))
     obtain⟨A2,p2,rfl,-⟩:=z0n o2
     have hb2:=f2.blk HBP.out (fun e=>e)
     have hr2:=f2.blk HBR.out (fun e=>e)
     have z1:=z1s 1 hb2
     have y1:=z1u hb2 1 rfl
     have y2a:=z1u hb2 2 rfl
     have F2:=zhd (FF1.out.trans0 f2)
     have SZ2:=zhd f2.size
     have fs:=(Fr.refl (fun b=>b=w.heap.size) w2).setCell (p:=⟨w.heap.size,1,none⟩) (.inr rfl) (.slice A2 k2.length p2)
     have hb3:=z1t (i:=1) hb2 (.slice A2 k2.length p2)
     have HB3:=zhd hb3
     have y2b:=z1u hb3 2 rfl
     have HR3:=zhd (fs.blk hr2 (fun e=>by have e2:w.heap.size+1=w.heap.size:=e;omega))
     have F3:Hid (Fr C0 w (w2.setCell ⟨w.heap.size,1,none⟩ (.slice A2 k2.length p2))):=zhd (F2.out.setCell (p:=⟨w.heap.size,1,none⟩) (.inl (Nat.le_refl _)) _)
     have B3:=zhd (B2.out.fr fs (fun b hb e=>by have e2:b=w.heap.size:=e;omega))
     have HC2:=zhd (z7o (HV2.out.fr0 F3.out) (by omega))
     clear f2 o2 hr2 C1 HC1 fs hb2 hb3
     go_wp2_with fail
     refine HC2.out.mono ?_
     rintro e w4 ⟨u4,rfl,f4,o4⟩
     have hsz3:(w2.setCell ⟨w.heap.size,1,none⟩ (.slice A2 k2.length p2)).heap.size=w2.heap.size:=by simp[World.setCell]
     have hsz2:=F2.out.size
     have F2W:=SZ2.out
     have B4:=zhd (BytesAt.ofOwn (F:=fun b=>w.heap.size+2≤b) o4 (fun b e=>by have h1:=(o4.lt b e).1;have:=HS1.out;have:=F2W;omega))
     obtain⟨A4,p4,rfl,-⟩:=z0n o4
     have hb4:=f4.blk HB3.out (fun e=>e)
     have hr4:=f4.blk HR3.out (fun e=>e)
     have B34:=zhd (B3.out.fr0 f4)
     have F4:=zhd (F3.out.trans0 f4)
     have z2:=z1s 2 hb4
     have y2:=z1u hb4 2 rfl
     have hb5:=z1t (i:=2) hb4 (.slice A4 v2.length p4)
     have fs4:=(Fr.refl (fun b=>b=w.heap.size) w4).setCell (p:=⟨w.heap.size,2,none⟩) (.inr rfl) (.slice A4 v2.length p4)
     have hr5:=fs4.blk hr4 (fun e=>by have e2:w.heap.size+1=w.heap.size:=e;omega)
     have B5:=zhd (B34.out.fr fs4 (fun b hb e=>by have e2:b=w.heap.size:=e;omega))
     have V5:=zhd (B4.out.fr fs4 (fun b hb e=>by have e2:b=w.heap.size:=e;omega))
     have F5:Hid (Fr C0 w (w4.setCell ⟨w.heap.size,2,none⟩ (.slice A4 v2.length p4))):=zhd (F4.out.setCell (p:=⟨w.heap.size,2,none⟩) (.inl (Nat.le_refl _)) _)
     have q0:=z1u hb5 0 rfl
     have q1:=z1u hb5 1 rfl
     have q2:=z1u hb5 2 rfl
     have r0:=z1s 0 hr5
     have r1:=z1s 1 hr5
     have r2:=z1s 2 hr5
     have u0:=z1u hr5 0 rfl
     have u1:=z1u hr5 1 rfl
     have u2:=z1u hr5 2 rfl
     have HR5:=zhd hr5
     clear f4 o4 hb4 hr4 fs4 HC2 z1 y1 hb5 hr5 y2a y2b
     go_wp2_with fail
     refine z9i rfl rfl (z1t (i:=2) (z1t (i:=1) (z1t (i:=0) HR5.out _) _) _) Tryz.underlying42 rfl (by kernel_rfl) ?_ ?_
     · rfl
     have fe:=(((Fr.refl (fun b=>b=w.heap.size+1) (w4.setCell ⟨w.heap.size,2,none⟩ (.slice A4 v2.length p4))).setCell (p:=⟨w.heap.size+1,0,none⟩) (.inr rfl) (.int .i64 s)).setCell (p:=⟨w.heap.size+1,1,none⟩) (.inr rfl) (.slice A2 k2.length p2)).setCell (p:=⟨w.heap.size+1,2,none⟩) (.inr rfl) (.slice A4 v2.length p4)
     have hd:∀b,w.heap.size+2≤b→¬b=w.heap.size+1:=fun b hb=>by omega
     refine⟨A2,_,p2,A4,_,p4,rfl,zhd ⟨(((F5.out.setCell (p:=⟨w.heap.size+1,0,none⟩) (.inl (by show w.heap.size≤w.heap.size+1;omega)) _).setCell (p:=⟨w.heap.size+1,1,none⟩) (.inl (by show w.heap.size≤w.heap.size+1;omega)) _).setCell (p:=⟨w.heap.size+1,2,none⟩) (.inl (by show w.heap.size≤w.heap.size+1;omega)) _),(B5.out.fr fe hd).mono (fun b hb _=>by omega),(V5.out.fr fe hd).mono (fun b hb _=>by omega)⟩⟩
theorem z9l {F G:Nat→Prop} {w:World} {kv vv:Value} {k v:Bs} {s:Int} (hk:BytesAt F w kv k) (hv:BytesAt G w vv v) :
 Calls Tryz.prog 20 #[.agg #[.int .i64 s,kv,vv]] w fun e w'=>∃A m p A' m' p',e=.returned (.agg #[.int .i64 s,.slice A m p,.slice A' m' p'])∧Hid (Fr C0 w w'∧BytesAt (fun b=>w.heap.size≤b) w' (.slice A m p) (k.take 62)∧BytesAt (fun b=>w.heap.size≤b) w' (.slice A' m' p') (v.take 62)):=by
 obtain⟨A,p,rfl,h1,h2⟩:=hk.form
 obtain⟨A',p',rfl,h1',h2'⟩:=hv.form
 have lk:(k.take 62).length≤k.length:=by rw[List.length_take];omega
 have lv:(v.take 62).length≤v.length:=by rw[List.length_take];omega
 have hk2:=hk.take lk
 have hv2:=hv.take lv
 rw[z9j] at hk2 hv2
 unfold maxLen at h2 h2'
 exact z9k hk2 hv2 h1 h1' (by omega) (by omega) (by rw[List.length_take];omega) (by rw[List.length_take];omega) (by rw[List.length_take];omega) (by rw[List.length_take];omega)
variable {c c' : Nat → Nat} {w w' : World} {dp sp tp : Nat} {Z : TSt} {lv : Value} {L : List Chg}
theorem z9m {v:Value} {l:List Act13} {most:Nat} (h:DrfAt c w dp sp tp Z lv L) (hl:ActsS (fun b=>b<w.heap.size∧c b≠7) w v l) (hm:most≤1000) (hL:L.length≤90000) :
 Calls Tryz.prog 12 #[.pointer (some ⟨dp,0,none⟩),v,.int .i64 (most:Int)] w fun e w'=>e=.returned (.tuple #[])∧Hid (∃c' lv',Ag w.heap.size c c'∧Fr (fun b=>c b=7) w w'∧DrfAt c' w' dp sp tp Z lv' (L++(l.take most).flatMap chg13)):=by
 have HL:=zhd hl
 have HD:=zhd h
 obtain⟨A,cp,rfl,hl1,hl2⟩:=hl.form
 unfold maxLen at hl2
 clear h hl
 go_enter Tryz.func12,Tryz.ntmps12
 go_wp2_with fail
 go_loopw [6] (fun i wr=>∃k,k≤l.length∧k≤most∧i=.int .i64 (k:Int)∧Hid (∃c' lv',Ag w.heap.size c c'∧Fr (fun b=>c b=7) w wr∧DrfAt c' wr dp sp tp Z lv' (L++(l.take k).flatMap chg13))) (fun i _=>l.length-(intOf i).toNat)
 case atStart=>exact⟨0,Nat.zero_le _,Nat.zero_le _,rfl,zhd ⟨c,lv,Ag.refl _ _,Fr.refl _ _,by simpa using HD.out⟩⟩
 case round=>
  obtain⟨k,hk,hkm,rfl,hH⟩:=hrel
  by_cases hlt:k<l.length
  · by_cases hlm:k<most
    · obtain⟨c1,lv1,ag1,f1,d1⟩:=hH.out
      have hfoot:∀b,(b<w.heap.size∧c b≠7)→¬c b=7:=fun b hb=>hb.2
      have hl2:=(HL.out.fr f1 hfoot)
      obtain⟨g,o,kv,vv,rfl,ha⟩:=hl2.at_ k hlt
      generalize hx:l[k]=x at ha
      have HX:Hid ((l.take (k+1)).flatMap chg13=(l.take k).flatMap chg13++chg13 x):=zhd (by rw[List.take_succ_eq_append_getElem hlt,List.flatMap_append,hx];simp)
      have a0:=ha.c0
      have a2:=ha.c2
      have a3:=ha.c3
      have a4:=ha.c4
      have HP:=zhd (z9l (s:=x.space) ha.key ha.value)
      obtain⟨KA,kc,rfl,-⟩:=ha.key.form
      obtain⟨VA,vc,rfl,-⟩:=ha.value.form
      have hle:(L++(l.take k).flatMap chg13).length≤100000:=by
       rw[List.length_append]
       have:=z9g (l.take k)
       rw[List.length_take] at this
       omega
      have F1:=zhd f1
      have A1:=zhd ag1
      have D1:=zhd d1
      clear hx hl2 ha f1 ag1 d1 hH hfoot
      go_wp2_with fail
      refine HP.out.mono ?_
      rintro e w2 ⟨KA2,km2,kc2,VA2,vm2,vc2,rfl,H2⟩
      obtain⟨f2,bk2,bv2⟩:=H2.out
      have f3:=f2.alloc (.cells #[.int .i64 x.space,.slice KA2 km2 kc2,.slice VA2 vm2 vc2] 42)
      have b0:=f3.cell0 a0
      have hb3:=heap_alloc_new w2 (.cells #[.int .i64 x.space,.slice KA2 km2 kc2,.slice VA2 vm2 vc2] 42)
      have q0:=z1u hb3 0 rfl
      have q1:=z1u hb3 1 rfl
      have q2:=z1u hb3 2 rfl
      have fa:=(Fr.refl C0 w2).alloc (.cells #[.int .i64 x.space,.slice KA2 km2 kc2,.slice VA2 vm2 vc2] 42)
      have HDD:=zhd (z9a (s:=x.space) (D1.out.fr0 f3) (bk2.fr0 fa) hle)
      have HPP:=zhd (z8x (s:=x.space) (D1.out.fr0 f3) (bk2.fr0 fa) (bv2.fr0 fa) hle)
      have F3:=zhd f3
      clear f2 bk2 bv2 H2 hb3 fa f3 a0 a2 a3 a4 HP hle
      have hstep:∀(wn:World) (c2:Nat→Nat),Ag (w2.alloc (.cells #[.int .i64 x.space,.slice KA2 km2 kc2,.slice VA2 vm2 vc2] 42)).heap.size c1 c2→Fr (fun b=>c1 b=7) (w2.alloc (.cells #[.int .i64 x.space,.slice KA2 km2 kc2,.slice VA2 vm2 vc2] 42)) wn→Ag w.heap.size c c2∧Fr (fun b=>c b=7) w wn:=fun wn c2 ag2 f4=>by
       have s1:=F1.out.size
       have s3:=F3.out.size
       refine⟨fun b hb=>(ag2 b (by omega)).trans (A1.out b hb),(F1.out.trans0 F3.out).trans f4 (fun b hb e=>by rw[←A1.out b hb];exact e)⟩
      have HST:=zhd hstep
      clear hstep
      by_cases hkd:x.kind=1
      · have hkb:(x.kind == 1)=true:=beq_iff_eq.2 hkd
        have HC:Hid (chg13 x=if rightL x.space (x.key.take 62) [] false=0 then[⟨x.space,x.key.take 62,[],true⟩] else[]):=zhd (by unfold chg13;rw[if_pos hkd])
        clear hkd
        go_wp2_with fail
        refine HDD.out.mono ?_
        rintro e w4 ⟨rfl,H4⟩
        go_wp2_with fail
        go_roundw
        case rel=>
         refine⟨k+1,by omega,by omega,by go_num,zhd ?_⟩
         obtain⟨c2,lv2,ag2,f4,d2⟩:=H4.out
         obtain⟨g1,g2⟩:=HST.out _ _ ag2 f4
         refine⟨c2,lv2,g1,g2,?_⟩
         rw[HX.out,HC.out,←List.append_assoc]
         split at d2
         · rename_i h0;rw[if_pos h0];exact d2
         · rename_i h0;rw[if_neg h0,List.append_nil];exact d2
        case measure=>simp[intOf];omega
      · have hkb:(x.kind == 1)=false:=beq_false_of_ne hkd
        have HC:Hid (chg13 x=if rightL x.space (x.key.take 62) (x.value.take 62) false=0 then[⟨x.space,x.key.take 62,x.value.take 62,false⟩] else[]):=zhd (by unfold chg13;rw[if_neg hkd])
        clear hkd
        go_wp2_with fail
        refine HPP.out.mono ?_
        rintro e w4 ⟨rfl,H4⟩
        go_wp2_with fail
        go_roundw
        case rel=>
         refine⟨k+1,by omega,by omega,by go_num,zhd ?_⟩
         obtain⟨c2,lv2,ag2,f4,d2⟩:=H4.out
         obtain⟨g1,g2⟩:=HST.out _ _ ag2 f4
         refine⟨c2,lv2,g1,g2,?_⟩
         rw[HX.out,HC.out,←List.append_assoc]
         split at d2
         · rename_i h0;rw[if_pos h0];exact d2
         · rename_i h0;rw[if_neg h0,List.append_nil];exact d2
        case measure=>simp[intOf];omega
    · obtain rfl:k=most:=by omega
      go_wp2_with fail
      go_end0
      exact⟨rfl,hH⟩
  · obtain rfl:k=l.length:=by omega
    have hH2:=hH.out
    rw[List.take_of_length_le (Nat.le_refl _)] at hH2
    have HH2:=zhd hH2
    clear hH2
    go_wp2_with fail
    go_end0
    refine⟨rfl,?_⟩
    rw[List.take_of_length_le hkm]
    exact HH2
end
section
open Go.RowKit Go.H Go.ChangeShapes Go.WideShapes Go.ChangeAt Go.Deep
theorem z9n {w:World} {base:Nat} {a:Addr} {n:Nat} {cs:List Value} (h:w.cells? base a n=some cs) {i:Nat} (hi:i<n) {v:Value} (hv:cs[i]?=some v):w.cell? (a.add i)=some v:=by
 obtain⟨h1,h2,h3⟩:=World.cells?_some h
 rw[h3 i hi,hv]
theorem z9o {α:Type} {xs:List α} (h:xs.length=5):∃a b c d e,xs=[a,b,c,d,e]:=by
 match xs,h with
 |[a,b,c,d,e],_=>exact⟨a,b,c,d,e,rfl⟩
theorem z9p {α:Type} {xs:List α} (h:xs.length=3):∃a b c,xs=[a,b,c]:=by
 match xs,h with
 |[a,b,c],_=>exact⟨a,b,c,rfl⟩
section
variable {H : Type} {enc : TypeId × Value → H} {w : World} {base : Nat}
theorem z9q {t e:TypeId} {fuel:Nat} {v:Value} {x:DataW H×List MemPlace} (ht:Tryz.prog.underlying t=some (.slice e)) (he:Tryz.prog.underlying e=some (.int .u8)) (hc:Tryz.prog.cellsOf e=1) (h:DataW.trod enc Tryz.prog w 0 (fun _=>true) true fuel t [v]=some x):∃l,BytesAt (fun _=>True) w v l:=by
 rcases open_ints ht he hc h with⟨hcs,-⟩|⟨a',len',cap',zs,hcs,hb,hl,hm,hz,hx,hcell,hwz⟩
 · simp only[List.cons.injEq,and_true] at hcs
   subst hcs
   exact⟨[],none,0,rfl,Nat.le_refl _,Nat.zero_le _,fun h=>absurd rfl h⟩
 · simp only[List.cons.injEq,and_true] at hcs
   subst hcs
   simp only[if_true] at hz
   exact⟨_,z7t (zs:=zs) hl hm hz hwz (fun h=>by cases h) (fun a' e c hc=>by cases e;exact hcell c (by omega))⟩
theorem z9r:Tryz.prog.cellsOf 45=5:=by kernel_rfl
theorem z9s:Tryz.prog.cellsOf 42=3:=by kernel_rfl
theorem z9t:Tryz.prog.cellsOf 3=1:=by kernel_rfl
theorem z9u {fuel g o:Nat} {cs:List Value} {x:DataW H×List MemPlace} (hc:w.cells? 0 ⟨g,o,none⟩ 5=some cs) (h:DataW.trod enc Tryz.prog w 0 (fun _=>true) true fuel 45 cs=some x):∃kv vv y,ActAtS (fun _=>True) w g o kv vv y:=by
 obtain⟨xs,n,-,-,hl,hlen,hf⟩:=DataW.trod_struct Tryz.underlying45 h
 obtain⟨a0,a1,a2,a3,a4,rfl⟩:=z9o (by rw[hl,z9r])
 obtain⟨x0,x1,x2,rfl⟩:=z9p (show xs.length=3 from hlen)
 have f0:=hf 0 _ rfl
 have f1:=hf 1 _ rfl
 have f2:=hf 2 _ rfl
 simp only[z9t,z7x,z9s,List.drop_zero,List.take_succ_cons,List.take_zero,List.drop_succ_cons,List.getElem?_cons_zero,List.getElem?_cons_succ] at f0 f1 f2
 obtain⟨n0,e0,-,-⟩:=DataW.trod_int Tryz.underlying3 f0
 obtain⟨n1,e1,-,-⟩:=DataW.trod_int Tryz.underlying3 f1
 obtain⟨ys,n',-,-,hl',hlen',hf'⟩:=DataW.trod_struct Tryz.underlying42 f2
 obtain⟨y0,y1,y2,rfl⟩:=z9p (show ys.length=3 from hlen')
 have g0:=hf' 0 _ rfl
 have g1:=hf' 1 _ rfl
 have g2:=hf' 2 _ rfl
 simp only[z9t,z7x,List.drop_zero,List.take_succ_cons,List.take_zero,List.drop_succ_cons,List.getElem?_cons_zero,List.getElem?_cons_succ] at g0 g1 g2
 obtain⟨m0,d0,-,-⟩:=DataW.trod_int Tryz.underlying3 g0
 obtain⟨k,hk⟩:=z9q Tryz.underlying40 Tryz.underlying5 z7w g1
 obtain⟨v,hv⟩:=z9q Tryz.underlying40 Tryz.underlying5 z7w g2
 injection e0 with e0
 injection e1 with e1
 injection d0 with d0
 subst e0 e1 d0
 have cc:∀i v,i<5→[(.int .i64 n0),.int .i64 n1,.int .i64 m0,a3,a4][i]?=some v→w.cell? ⟨g,o+i,none⟩=some v:=fun i v hi hv=>by
  have:=z9n hc hi hv
  rwa [add_plain] at this
 exact⟨a3,a4,⟨n0,n1,m0,k,v⟩,cc 0 _ (by omega) rfl,cc 1 _ (by omega) rfl,cc 2 _ (by omega) rfl,cc 3 _ (by omega) rfl,cc 4 _ (by omega) rfl,hk,hv⟩
theorem z9v {v:Value} {d:DataW H} {ps:List MemPlace} (hv:Value.okWide Tryz.prog w .any base 22 v) (h:DataW.Trod enc Tryz.prog w 0 (fun _=>true) true 22 v d ps):∃l,ActsS (fun _=>True) w v l:=by
 obtain⟨a,len,cap,rfl⟩:=okWide_slice Tryz.underlying22 hv
 obtain⟨fuel,hf⟩:=h
 rcases open_slice Tryz.underlying22 hf with⟨hcs,-⟩|⟨a',len',cap',m,n,D,Pl,hcs,hb,hl,hm,hmm,-,hx⟩
 · simp[Value.cells] at hcs
   obtain⟨rfl,rfl,rfl⟩:=hcs
   exact⟨[],none,0,rfl,Nat.le_refl _,Nat.zero_le _,fun i h=>absurd h (by simp)⟩
 · simp[Value.cells] at hcs
   obtain⟨rfl,rfl,rfl⟩:=hcs
   simp only[if_true] at hmm
   subst hmm
   rw[z9r] at hx
   have each:∀i,i<m→∃g o kv vv y,a'=⟨g,o,none⟩∧ActAtS (fun _=>True) w g (o+i*5) kv vv y:=fun i hi=>by
    obtain⟨cs',h1,h2⟩:=hx i hi
    obtain⟨g,o,sp⟩:=a'
    have hsp:sp=none:=by
     obtain⟨cs0,h0,-⟩:=hx 0 (by omega)
     obtain⟨q1,q2,q3⟩:=World.cells?_some h0
     have q4:=q3 0 (by omega)
     obtain⟨u,hu⟩:∃u,cs0[0]?=some u:=⟨cs0[0]'(by omega),List.getElem?_eq_getElem (by omega)⟩
     rw[hu] at q4
     simpa [Addr.add] using World.cell?_spot q4
    subst hsp
    rw[add_plain] at h1
    obtain⟨kv,vv,y,hy⟩:=z9u h1 h2
    exact⟨g,o,kv,vv,y,rfl,hy⟩
   have each2:∀i,i<len→∃y:Act13,∃g o kv vv,a'=⟨g,o,none⟩∧ActAtS (fun _=>True) w g (o+i*5) kv vv y:=fun i hi=>by
    obtain⟨g,o,kv,vv,y,e1,e2⟩:=each i (by omega)
    exact⟨y,g,o,kv,vv,e1,e2⟩
   obtain⟨Y,hY⟩:=choose_lt each2
   refine⟨(List.range len).map Y,some a',m,by simp,by simpa using hl,hm,fun i hi=>?_⟩
   obtain⟨g,o,kv,vv,e1,e2⟩:=hY i (by simpa using hi)
   exact⟨g,o,kv,vv,by rw[e1],trivial,by simpa using e2⟩
end
end
end Go.Proofs.YtidalepbkljkpaaGreat
