import Derived.Test.YtidalepbkljkpaaGreatLocalSpaces46
import Derived.Test.YtidalepbkljkpaaGreatLocalSpaces48
import Derived.Lib.SmallJoins
import Derived.Test.YtidalepbkljkpaaGreatLocalSpaces43
set_option linter.all false
namespace Go.Proofs.YtidalepbkljkpaaGreat
set_option maxHeartbeats 1000000
set_option maxRecDepth 100000
section
open Go.RowKit Go.H
variable {w0 w w' : World} {pn d sp pos N : Nat} {La : List KV} {c c' : Nat → Nat}
theorem zjp {m n:Nat} (f0:Fr C0 w0 w) (ag0:Ag w0.heap.size (fun _=>0) c) (hd:DiskA (Dt c) w d m (.slice none 0 0) (newD n)) (od:c d=1) (om:c m=1) (hc:Cl w c) (h1:3≤n) (h2:n≤4096) :
 Calls Tryz.prog 22 #[.pointer (some ⟨d,0,none⟩)] w fun e w'=>∃sp,e=.returned (.tuple #[.pointer (some ⟨sp,0,none⟩),.int .i64 0])∧Hid (Fr C0 w w'∧∃c',Ag w.heap.size c c'∧LSt w0 (n-2) d sp [] 0 0 c' w'):=by
 refine(zjo hd od om hc h1 h2).mono ?_
 rintro e w' ⟨sp,rfl,H⟩
 obtain⟨f,tp,c',ag,l⟩:=H.out
 have hs:=f0.size
 exact⟨sp,rfl,zhd ⟨f,c',ag,f0.trans0 f,fun b hb=>(ag b (by omega)).trans (ag0 b hb),tp,_,l,rfl,rfl,rfl,rfl,rfl,rfl,by show(0:Int)<1;omega⟩⟩
theorem zjq (hc:Cl w c) {w1:World} (f1:Fr C0 w w1) (hs:w1.heap.size=w.heap.size+2):∃c1:Nat→Nat,c1 (w.heap.size+1)=1∧c1 w.heap.size=1∧Ag w.heap.size c c1∧Cl w1 c1:=by
 refine⟨fun b=>if b=w.heap.size∨b=w.heap.size+1 then 1 else c b,by simp,by simp,fun b hb=>?_,fun b hb=>?_⟩
 · simp only[];rw[if_neg (by omega)]
 · simp only[];rw[if_neg (by omega)];exact hc b (by omega)
theorem zjr {F:Nat→Prop} {kv:Value} {k:Bs} {s:Int} (h:LSt w0 pn d sp La pos N c w) (hk:BytesAt F w kv k) :
 Calls Tryz.prog 29 #[.pointer (some ⟨sp,0,none⟩),.int .i64 s,kv] w fun e w'=>∃A m cp,e=.returned (.tuple #[.slice A m cp,.bool (decide (rightL s k [] false=0) && (getL (pk s.toNat k) La).isSome),.int .i64 (rightL s k [] false:Int)])∧Hid (Fr C0 w w'∧(rightL s k [] false=0→∀b,getL (pk s.toNat k) La=some b→BytesAt (fun b=>w.heap.size≤b) w' (.slice A m cp) b)):=by
 obtain⟨f0,ag0,tp,Z,hloc,rfl,-⟩:=h
 exact zhy hloc hk
theorem zjs {F G:Nat→Prop} {g s:Nat} {kv vv:Value} {k v:Bs} {gone:Bool} (hb:w.heap[g]?=some (.cells #[.int .i64 (s:Int),kv,vv,.bool gone] 57 (0,0))) (hF:F g) (hk:BytesAt F w kv k) (hv:BytesAt G w vv v):ChgR F G w (.slice (some ⟨g,0,none⟩) 1 1) [⟨(s:Int),k,v,gone⟩]:=by
 refine⟨_,1,rfl,Nat.le_refl _,by unfold maxLen;omega,fun i hi=>?_⟩
 obtain rfl:i=0:=by simpa using hi
 exact⟨g,0,kv,vv,rfl,hF,z2k hb 0 rfl,z2k hb 1 rfl,z2k hb 2 rfl,z2k hb 3 rfl,hk,hv⟩
theorem zjt {N:Nat} {w:World} {ov:Value} {M:List SKV} (h:OutS N w ov M):PairsS (fun b=>N≤b) w ov M:=by
 obtain⟨ys,a,b⟩:=h
 exact⟨ys,Row.ofOwn a (fun b hb=>(a.lt b hb).1),b.mono (fun b hb _=>hb.1)⟩
theorem zju {F G:Nat→Prop}:ChgR F G w (.slice none 0 0) []:=⟨none,0,rfl,Nat.le_refl _,by unfold maxLen;omega,fun i hi=>by simp at hi⟩
theorem zjv:∀u:Bs,putL ([16],u) (putL ([1,107],[107]) [])=[([1,107],[107]),([16],u)]:=fun u=>rfl
@[go_sem] theorem zjw (w : World) : (binOp .eql 9 (.string ⟨#[107]⟩) (.string ⟨#[107]⟩)).run Tryz.prog w = .ok (.bool true) w := by kernel_rfl
theorem zjx (w:World):Calls Tryz.prog 25 #[] w fun e w'=>e=.returned (.bool true)∧Fr C0 w w':=by
 have HN:=zhd (z3g w 40 (by omega) (by omega))
 go_enter Tryz.func25,Tryz.ntmps25
 go_wp2_with fail
 refine HN.out.mono ?_
 rintro e w1 ⟨rfl,f1,hs1,hd1⟩
 obtain⟨c1,hc1,hc2,hag,hcl⟩:=zjq (c:=fun _=>0) (fun _ _=>rfl) f1 hs1
 have HO:=zhd (zjp (n:=40) f1 hag (hd1.mono fun b hb _=>hb.elim) hc1 hc2 hcl (by omega) (by omega))
 clear HN f1 hs1 hd1 hc1 hc2 hag hcl
 go_wp2_with fail
 refine HO.out.mono ?_
 rintro e w2 ⟨sp,rfl,H2⟩
 obtain⟨-,c2,-,l2⟩:=H2.out
 have L2:=zhd l2
 clear H2 HO l2
 have hcv1:=Go.Joins.run_convert_bytes_const_at (P:=Tryz.prog) w2 40 5 #[.int .u8 107] 1 1 w2.heap.size rfl Tryz.underlying40 Tryz.underlying5
 go_wp2_with fail
 clear hcv1
 have g3:=(Fr.refl C0 w2).alloc (.cells #[.int .u8 107] 5 (1,2))
 have hba:=heap_alloc_new w2 (.cells #[.int .u8 107] 5 (1,2))
 obtain⟨w3,hw3⟩:∃w3,w3=w2.alloc (.cells #[.int .u8 107] 5 (1,2)):=⟨_,rfl⟩
 have hs3:w3.heap.size=w2.heap.size+1:=by rw[hw3];simp
 rw[←hw3] at g3 hba
 have B3:Hid (BytesAt (fun b=>b<w3.heap.size∧c2 b=0) w3 (.slice (some ⟨w2.heap.size,0,none⟩) 1 1) [107]):=zhd (z0i.2 (Row.ofBlock (n:=1) (size:=1) hba ⟨by omega,L2.out.cl _ (Nat.le_refl _)⟩ (by unfold maxLen;omega) rfl))
 have g4:=(Fr.refl C0 w3).alloc (.cells #[.int .i64 1,.slice (some ⟨w2.heap.size,0,none⟩) 1 1,.slice (some ⟨w2.heap.size,0,none⟩) 1 1,.bool false] 57)
 have hb4:=heap_alloc_new w3 (.cells #[.int .i64 1,.slice (some ⟨w2.heap.size,0,none⟩) 1 1,.slice (some ⟨w2.heap.size,0,none⟩) 1 1,.bool false] 57)
 rw[←hw3]
 have hs4:(w3.alloc (.cells #[.int .i64 1,.slice (some ⟨w2.heap.size,0,none⟩) 1 1,.slice (some ⟨w2.heap.size,0,none⟩) 1 1,.bool false] 57)).heap.size=w3.heap.size+1:=by simp
 generalize w3.alloc (.cells #[.int .i64 1,.slice (some ⟨w2.heap.size,0,none⟩) 1 1,.slice (some ⟨w2.heap.size,0,none⟩) 1 1,.bool false] 57)=w4 at *
 have L4:=zhd ((L2.out.fr0 g3).fr0 g4)
 have B4:=zhd (B3.out.fr0 g4)
 have hown:∀b,c2 b=0→¬OwnL c2 b:=fun b h e=>by
  have e':c2 b=1∨c2 b=2∨c2 b=3∨c2 b=7:=e
  omega
 have R4:=zhd (zjs (F:=fun b=>b<w4.heap.size∧¬OwnL c2 b) (G:=fun b=>b<w4.heap.size∧c2 b=0) (s:=1) hb4 ⟨by omega,hown _ (L2.out.cl _ (by omega))⟩ (B4.out.mono (fun b hb _=>⟨by omega,hown b hb.2⟩)) (B4.out.mono (fun b hb _=>⟨by omega,hb.2⟩)))
 rw[hs3] at R4
 clear g3 hba g4 hb4 hown hs3 hs4
 refine(ziy L4.out R4.out (by simp) (by simp) (by omega) (by omega)).mono ?_
 rintro e w5 ⟨err5,rfl,H5⟩
 have hck:chkL [⟨((1:Nat):Int),[107],[107],false⟩]=0:=by decide
 obtain⟨La,hLa⟩:∃La,La=([([1,107],[107]),([16],uintN 3)]:List KV):=⟨_,rfl⟩
 obtain⟨rfl,c5,f5,ag5,l5⟩:err5=0∧∃c5,Fr (OwnL c2) w4 w5∧Ag w4.heap.size c2 c5∧LSt w 38 (w.heap.size+1) sp La 3 1 c5 w5:=by
  rcases H5.out with⟨h,-⟩|⟨-,⟨h,-⟩|⟨-,c5,ag5,f5,⟨-,-,h⟩|⟨h,l5⟩⟩⟩
  · exact absurd h (by decide)
  · exact absurd hck h
  · exact absurd h (by decide)
  · refine⟨h,c5,f5,ag5,?_⟩
    rw[hLa,←zjv (uintN 3)]
    exact l5
 have L5:=zhd l5
 have HLa:=zhd hLa
 have B5:Hid (BytesAt (fun b=>c2 b=0) w5 (.slice (some ⟨w2.heap.size,0,none⟩) 1 1) [107]):=zhd ((B4.out.mono (F':=fun b=>c2 b=0) (fun b hb _=>hb.2)).fr f5 (fun b hb e=>by
  have e':c2 b=1∨c2 b=2∨c2 b=3∨c2 b=7:=e
  omega))
 clear H5 f5 ag5 l5 hLa hck R4 B4 L4 L2 B3
 go_wp2_with fail
 refine(ziy (l:=[]) (np:=2) L5.out zju (by simp) (by rw[HLa.out];simp) (by omega) (by omega)).mono ?_
 rintro e w6 ⟨err6,rfl,H6⟩
 obtain⟨rfl,f6⟩:err6=1∧Fr C0 w5 w6:=by
  rcases H6.out with⟨-,h,f⟩|⟨h,-⟩
  · exact⟨h,f⟩
  · exact absurd (by decide) h
 have L6:=zhd (L5.out.fr0 f6)
 have B6:=zhd (B5.out.fr0 f6)
 clear H6 f6 L5 B5
 go_wp2_with fail
 refine(zjr (s:=1) L6.out B6.out).mono ?_
 rintro e w7 ⟨A7,m7,p7,rfl,H7⟩
 have hg1:getL (pk (1:Int).toNat [107]) La=some [107]:=by rw[HLa.out];rfl
 obtain⟨f7,b7⟩:=H7.out
 have B7:=zhd (b7 (by decide) _ hg1)
 rw[hg1,show(decide (rightL 1 [107] [] false=0) && (some [107]:Option Bs).isSome)=true from by decide,show(rightL 1 [107] [] false:Int)=0 from by decide]
 have L7:=zhd (L6.out.fr0 f7)
 have B67:=zhd (B6.out.fr0 f7)
 clear H7 f7 b7 hg1 L6 B6
 go_wp2_with fail
 refine(zjr (s:=2) L7.out B67.out).mono ?_
 rintro e w8 ⟨A8,m8,p8,rfl,H8⟩
 have hg2:getL (pk (2:Int).toNat [107]) La=none:=by rw[HLa.out];rfl
 rw[hg2,show(decide (rightL 2 [107] [] false=0) && (none:Option Bs).isSome)=false from by decide,show(rightL 2 [107] [] false:Int)=0 from by decide]
 have L8:=zhd (L7.out.fr0 H8.out.1)
 have B8:=zhd (B7.out.fr0 H8.out.1)
 clear H8 hg2 L7 B67 B7
 go_wp2_with fail
 refine(zj2 L8.out (by rw[HLa.out];simp)).mono ?_
 rintro e w9 ⟨A9,p9,rfl,H9⟩
 have hexp:expL La=[([1,107],[107])]:=by rw[HLa.out];rfl
 have H9o:=H9.out.2
 rw[hexp] at H9o⊢
 have L9:=zhd (L8.out.fr0 H9.out.1)
 have B9:=zhd (B8.out.fr0 H9.out.1)
 have hps:PairsS (fun b=>w8.heap.size≤b) w9 (.slice A9 ([((1:Int),[107],[107])]:List SKV).length p9) [((1:Int),[107],[107])]:=zjt H9o
 obtain⟨g9,o9,kv9,vv9,rfl,r0,-,-,-,-⟩:=hps.at_ 0 (by simp)
 have HP:=zhd (ziz L9.out)
 have HLn:=zhd (zj0 (s:=1) L9.out (by omega))
 have hcn:cntS 1 La=1:=by rw[HLa.out];rfl
 rw[hcn] at HLn
 obtain rfl:m7=1:=by
  obtain⟨A7',p7',e7,-⟩:=B9.out.form
  injection e7 with e71 e72 e73
 have hst:(convert 40 9 (.slice A7 1 p7)).run Tryz.prog w9=.ok (.string ⟨#[107]⟩) w9:=z2y B9.out
 have FE:=zhd L9.out.fr
 rw[Nat.zero_mul,Nat.add_zero] at r0
 have r1:w9.cell? ⟨g9,o9,none⟩=some (.int .i64 1):=r0
 clear hps r0 H9 H9o hexp hcn L8 B8
 go_wp2_with fail
 refine HP.out.mono ?_
 rintro e w10 ⟨rfl,rfl⟩
 go_wp2_with fail
 refine HLn.out.mono ?_
 rintro e w10 ⟨rfl,rfl⟩
 go_wp2_with fail
 go_ret
 exact⟨rfl,FE.out⟩
end
section
open Go.RowKit Go.H
structure Act6 where
 kind:Int
 n:Int
 cs:List Chg
 after:Int
 keep:Int
 torn:Int
 cut:Int
instance:Inhabited Act6:=⟨⟨0,0,[],0,0,0,0⟩⟩
structure ActAtL (w:World) (g o:Nat) (cv:Value) (x:Act6):Prop where
 c0:w.cell? ⟨g,o,none⟩=some (.int .i64 x.kind)
 c1:w.cell? ⟨g,o+1,none⟩=some (.int .i64 x.n)
 c2:w.cell? ⟨g,o+2,none⟩=some cv
 c3:w.cell? ⟨g,o+3,none⟩=some (.int .i64 x.after)
 c4:w.cell? ⟨g,o+4,none⟩=some (.int .u64 x.keep)
 c5:w.cell? ⟨g,o+5,none⟩=some (.int .i64 x.torn)
 c6:w.cell? ⟨g,o+6,none⟩=some (.int .i64 x.cut)
 cs:ChgR (fun _=>True) (fun _=>True) w cv x.cs
 nw:-9223372036854775808≤x.n∧x.n≤9223372036854775807
def ActsL (w:World) (v:Value) (l:List Act6):Prop:=∃A c,v=.slice A l.length c∧l.length≤c∧c≤maxLen∧∀(i:Nat) (h:i<l.length),∃g o cv,A=some ⟨g,o,none⟩∧ActAtL w g (o+i*7) cv l[i]
theorem ActAtL.fr0 {w w':World} {g o:Nat} {cv:Value} {x:Act6} (h:ActAtL w g o cv x) (hf:Fr C0 w w'):ActAtL w' g o cv x:=
 ⟨hf.cell0 h.c0,hf.cell0 h.c1,hf.cell0 h.c2,hf.cell0 h.c3,hf.cell0 h.c4,hf.cell0 h.c5,hf.cell0 h.c6,h.cs.fr0 hf,h.nw⟩
theorem ActsL.fr0 {w w':World} {v:Value} {l:List Act6} (h:ActsL w v l) (hf:Fr C0 w w'):ActsL w' v l:=by
 obtain⟨A,c,e,h1,h2,h3⟩:=h
 refine⟨A,c,e,h1,h2,fun i hi=>?_⟩
 obtain⟨g,o,cv,e,k⟩:=h3 i hi
 exact⟨g,o,cv,e,k.fr0 hf⟩
theorem ActsL.form {w:World} {v:Value} {l:List Act6} (h:ActsL w v l):∃A c,v=.slice A l.length c∧l.length≤c∧c≤maxLen:=by
 obtain⟨A,c,e,h1,h2,-⟩:=h
 exact⟨A,c,e,h1,h2⟩
theorem ActsL.at_ {w:World} {A:Option Addr} {c:Nat} {l:List Act6} (h:ActsL w (.slice A l.length c) l) (i:Nat) (hi:i<l.length):∃g o cv,A=some ⟨g,o,none⟩∧ActAtL w g (o+i*7) cv l[i]:=by
 obtain⟨A',c',e,h1,h2,h3⟩:=h
 injection e with e1 e2 e3
 subst e1
 exact h3 i hi
theorem zjy {N:Nat} {w:World} {ov:Value} {M:List Chg} {P Q:Nat→Prop} (h:OutC N w ov M) (hP:∀b,N≤b→b<w.heap.size→P b) (hQ:∀b,N≤b→b<w.heap.size→Q b):ChgR P Q w ov M:=by
 obtain⟨ys,a,b⟩:=h
 have hr:=Row.ofOwn a (F:=fun b=>N≤b∧b<w.heap.size) (fun b e=>a.lt b e)
 obtain⟨A,cp,rfl,h1,h2⟩:=hr.form
 refine⟨A,cp,rfl,h1,h2,fun i hi=>?_⟩
 obtain⟨kv,vv,e0,e1,e2,e3,e4,e5⟩:=b.at_ i hi
 obtain⟨g,o,rfl,hg,hc⟩:=hr.cells e0
 exact⟨g,o,kv,vv,rfl,hP g hg.1 hg.2,hc _ _ e0,by rw[show o+i*4+1=o+(i*4+1) by omega];exact hc _ _ e1,by rw[show o+i*4+2=o+(i*4+2) by omega];exact hc _ _ e2,by rw[show o+i*4+3=o+(i*4+3) by omega];exact hc _ _ e3,e4.mono (fun b hb hl=>hP b hb.1 hl),e5.mono (fun b hb hl=>hQ b hb.1 hl)⟩
variable {w0 w w' : World} {pn d sp pos N : Nat} {La : List KV} {c c' : Nat → Nat}
theorem zjz {b:Nat} (h:c b=0):¬OwnL c b:=fun e=>by
 have e':c b=1∨c b=2∨c b=3∨c b=7:=e
 omega
theorem zk0 {ov:Value} {M:List Chg} {np:Int} {n0:Nat} (h:LSt w0 pn d sp La pos N c w) (ho:OutC n0 w ov M) (hc0:∀b,n0≤b→c b=0) (hn:M.length≤1000) (hb:La.length≤80000) (hN:N<1000000) (hnp:np<9223372036854775808) :
 Calls Tryz.prog 24 #[.pointer (some ⟨sp,0,none⟩),.int .i64 np,ov] w fun e w'=>∃err:Nat,e=.returned (.int .i64 (err:Int))∧Hid (ApRes w0 pn d sp La pos N c w M np err w'):=
 ziy h (zjy ho (fun b hb hl=>⟨hl,zjz (hc0 b hb)⟩) (fun b hb hl=>⟨hl,hc0 b hb⟩)) hn hb hN hnp
theorem zk1 {La:List KV} {l:List Chg} {pos:Nat} (hl:∀x∈l,okC x):(appL La l pos).length≤La.length+l.length+1:=by
 have h1:=zic l La hl
 have h2:=zi9 ([16],uintN pos) (foldC La l)
 unfold appL
 omega
theorem ApRes.any {l:List Chg} {np:Int} {err:Nat} (h:LSt w0 pn d sp La pos N c w) (hr:ApRes w0 pn d sp La pos N c w l np err w'):∃La' pos' N' c',LSt w0 pn d sp La' pos' N' c' w'∧Ag w.heap.size c c'∧Fr (OwnL c) w w'∧La'.length≤La.length+l.length+1∧N'≤N+1:=by
 rcases hr with⟨-,-,f⟩|⟨-,⟨-,-,f⟩|⟨hk,c',ag,f,⟨-,l',-⟩|⟨-,l'⟩⟩⟩
 · exact⟨La,pos,N,c,h.fr0 f,Ag.refl _ _,f.mono (fun _ _ e=>e.elim),by omega,by omega⟩
 · exact⟨La,pos,N,c,h.fr0 f,Ag.refl _ _,f.mono (fun _ _ e=>e.elim),by omega,by omega⟩
 · exact⟨La,pos,N,c',l',ag,f,by omega,by omega⟩
 · exact⟨_,_,_,c',l',ag,f,zk1 (zft hk),by omega⟩
end
section
open Go.RowKit Go.H Go.ChangeShapes Go.WideShapes Go.ChangeAt Go.Deep
theorem zk2 {α:Type} {xs:List α} (h:xs.length=2):∃a b,xs=[a,b]:=by
 match xs,h with
 |[a,b],_=>exact⟨a,b,rfl⟩
theorem zk3 {α:Type} {xs:List α} (h:xs.length=4):∃a b c d,xs=[a,b,c,d]:=by
 match xs,h with
 |[a,b,c,d],_=>exact⟨a,b,c,d,rfl⟩
theorem zk4 {α:Type} {xs:List α} (h:xs.length=7):∃a b c d e f g,xs=[a,b,c,d,e,f,g]:=by
 match xs,h with
 |[a,b,c,d,e,f,g],_=>exact⟨a,b,c,d,e,f,g,rfl⟩
section
variable {H : Type} {enc : TypeId × Value → H} {w : World} {base : Nat}
theorem zk5:Tryz.prog.cellsOf 57=4:=by kernel_rfl
theorem zk6:Tryz.prog.cellsOf 4=1:=by kernel_rfl
theorem zk7:Tryz.prog.cellsOf 31=1:=by kernel_rfl
theorem zk8:Tryz.prog.cellsOf 63=4:=by kernel_rfl
theorem zk9:Tryz.prog.cellsOf 61=1:=by kernel_rfl
theorem zka:Tryz.prog.cellsOf 65=7:=by kernel_rfl
theorem zkb {m:Int} (h:(Lit.int .i64 m).wf=true):-9223372036854775808≤m∧m≤9223372036854775807:=by simpa [Lit.wf,IntKind.min,IntKind.max,IntKind.signed,IntKind.bits] using h
theorem zkc {fuel g o:Nat} {cs:List Value} {x:DataW H×List MemPlace} (hc:w.cells? 0 ⟨g,o,none⟩ 4=some cs) (h:DataW.trod enc Tryz.prog w 0 (fun _=>true) true fuel 57 cs=some x):∃kv vv,∃y:Chg,w.cell? ⟨g,o,none⟩=some (.int .i64 y.space)∧w.cell? ⟨g,o+1,none⟩=some kv∧w.cell? ⟨g,o+2,none⟩=some vv∧w.cell? ⟨g,o+3,none⟩=some (.bool y.gone)∧BytesAt (fun _=>True) w kv y.key∧BytesAt (fun _=>True) w vv y.value:=by
 obtain⟨xs,n,-,-,hl,hlen,hf⟩:=DataW.trod_struct Tryz.underlying57 h
 obtain⟨a0,a1,a2,a3,rfl⟩:=zk3 (by rw[hl,zk5])
 obtain⟨x0,x1,rfl⟩:=zk2 (show xs.length=2 from hlen)
 have f0:=hf 0 _ rfl
 have f1:=hf 1 _ rfl
 simp only[zk6,zi3,List.drop_zero,List.take_succ_cons,List.take_zero,List.drop_succ_cons,List.getElem?_cons_zero,List.getElem?_cons_succ] at f0 f1
 obtain⟨b,e3,-⟩:=DataW.trod_bool Tryz.underlying4 f1
 obtain⟨ys,n',-,-,hl',hlen',hf'⟩:=DataW.trod_struct Tryz.underlying42 f0
 obtain⟨y0,y1,y2,rfl⟩:=zi1 (show ys.length=3 from hlen')
 have g0:=hf' 0 _ rfl
 have g1:=hf' 1 _ rfl
 have g2:=hf' 2 _ rfl
 simp only[zi4,zf1,List.drop_zero,List.take_succ_cons,List.take_zero,List.drop_succ_cons,List.getElem?_cons_zero,List.getElem?_cons_succ] at g0 g1 g2
 obtain⟨m0,d0,-,-⟩:=DataW.trod_int Tryz.underlying3 g0
 obtain⟨k,hk⟩:=zi2 Tryz.underlying40 Tryz.underlying5 zf0 g1
 obtain⟨v,hv⟩:=zi2 Tryz.underlying40 Tryz.underlying5 zf0 g2
 injection d0 with d0
 injection e3 with e3
 subst d0 e3
 have cc:∀i v,i<4→[(.int .i64 m0),a1,a2,.bool b][i]?=some v→w.cell? ⟨g,o+i,none⟩=some v:=fun i v hi hv=>by
  have:=zi0 hc hi hv
  rwa [add_plain] at this
 exact⟨a1,a2,⟨m0,k,v,b⟩,cc 0 _ (by omega) rfl,cc 1 _ (by omega) rfl,cc 2 _ (by omega) rfl,cc 3 _ (by omega) rfl,hk,hv⟩
theorem zkd {fuel:Nat} {v:Value} {x:DataW H×List MemPlace} (h:DataW.trod enc Tryz.prog w 0 (fun _=>true) true fuel 31 [v]=some x):∃l,ChgR (fun _=>True) (fun _=>True) w v l:=by
 rcases open_slice Tryz.underlying31 h with⟨hcs,-⟩|⟨a',len',cap',m,n,D,Pl,hcs,hb,hl,hm,hmm,-,hx⟩
 · simp only[List.cons.injEq,and_true] at hcs
   subst hcs
   exact⟨[],none,0,rfl,Nat.le_refl _,Nat.zero_le _,fun i h=>absurd h (by simp)⟩
 · simp only[List.cons.injEq,and_true] at hcs
   subst hcs
   simp only[if_true] at hmm
   subst hmm
   rw[zk5] at hx
   have each:∀i,i<m→∃g o kv vv,∃y:Chg,a'=⟨g,o,none⟩∧w.cell? ⟨g,o+i*4,none⟩=some (.int .i64 y.space)∧w.cell? ⟨g,o+i*4+1,none⟩=some kv∧w.cell? ⟨g,o+i*4+2,none⟩=some vv∧w.cell? ⟨g,o+i*4+3,none⟩=some (.bool y.gone)∧BytesAt (fun _=>True) w kv y.key∧BytesAt (fun _=>True) w vv y.value:=fun i hi=>by
    obtain⟨cs',h1,h2⟩:=hx i hi
    obtain⟨g,o,sp⟩:=a'
    have hsp:sp=none:=by
     obtain⟨cs0,h0,-⟩:=hx 0 (by omega)
     obtain⟨q1,q2,q3⟩:=World.cells?_some h0
     have q4:=q3 0 (by omega)
     obtain⟨u,hu⟩:∃u,cs0[0]?=some u:=⟨cs0[0]'(by omega),List.getElem?_eq_getElem (by omega)⟩
     rw[hu] at q4
     simpa [Addr.add] using World.cell?_spot q4
    subst hsp
    rw[add_plain] at h1
    obtain⟨kv,vv,y,hy⟩:=zkc h1 h2
    exact⟨g,o,kv,vv,y,rfl,hy⟩
   have each2:∀i,i<len'→∃y:Chg,∃g o kv vv,a'=⟨g,o,none⟩∧w.cell? ⟨g,o+i*4,none⟩=some (.int .i64 y.space)∧w.cell? ⟨g,o+i*4+1,none⟩=some kv∧w.cell? ⟨g,o+i*4+2,none⟩=some vv∧w.cell? ⟨g,o+i*4+3,none⟩=some (.bool y.gone)∧BytesAt (fun _=>True) w kv y.key∧BytesAt (fun _=>True) w vv y.value:=fun i hi=>by
    obtain⟨g,o,kv,vv,y,e1,e2⟩:=each i (by omega)
    exact⟨y,g,o,kv,vv,e1,e2⟩
   obtain⟨Y,hY⟩:=choose_lt each2
   refine⟨(List.range len').map Y,some a',m,by simp,by simpa using hl,hm,fun i hi=>?_⟩
   obtain⟨g,o,kv,vv,e1,e2⟩:=hY i (by simpa using hi)
   exact⟨g,o,kv,vv,by rw[e1],trivial,by simpa using e2⟩
theorem zke {v:Value} {d:DataW H} {ps:List MemPlace} (hv:Value.okWide Tryz.prog w .any base 31 v) (h:DataW.Trod enc Tryz.prog w 0 (fun _=>true) true 31 v d ps):∃l,ChgR (fun _=>True) (fun _=>True) w v l:=by
 obtain⟨a,len,cap,rfl⟩:=okWide_slice Tryz.underlying31 hv
 obtain⟨fuel,hf⟩:=h
 exact zkd hf
theorem zkf {fuel g o:Nat} {cs:List Value} {x:DataW H×List MemPlace} (hc:w.cells? 0 ⟨g,o,none⟩ 7=some cs) (h:DataW.trod enc Tryz.prog w 0 (fun _=>true) true fuel 65 cs=some x):∃cv y,ActAtL w g o cv y:=by
 obtain⟨xs,n,-,-,hl,hlen,hf⟩:=DataW.trod_struct Tryz.underlying65 h
 obtain⟨a0,a1,a2,a3,a4,a5,a6,rfl⟩:=zk4 (by rw[hl,zka])
 obtain⟨x0,x1,x2,x3,rfl⟩:=zk3 (show xs.length=4 from hlen)
 have f0:=hf 0 _ rfl
 have f1:=hf 1 _ rfl
 have f2:=hf 2 _ rfl
 have f3:=hf 3 _ rfl
 simp only[zi4,zk7,zk8,List.drop_zero,List.take_succ_cons,List.take_zero,List.drop_succ_cons,List.getElem?_cons_zero,List.getElem?_cons_succ] at f0 f1 f2 f3
 obtain⟨n0,e0,-,-⟩:=DataW.trod_int Tryz.underlying3 f0
 obtain⟨n1,e1,-,w1⟩:=DataW.trod_int Tryz.underlying3 f1
 obtain⟨l,hcl⟩:=zkd f2
 obtain⟨ys,n',-,-,hl',hlen',hf'⟩:=DataW.trod_struct Tryz.underlying63 f3
 obtain⟨y0,y1,y2,y3,rfl⟩:=zk3 (show ys.length=4 from hlen')
 have g0:=hf' 0 _ rfl
 have g1:=hf' 1 _ rfl
 have g2:=hf' 2 _ rfl
 have g3:=hf' 3 _ rfl
 simp only[zi4,zk9,List.drop_zero,List.take_succ_cons,List.take_zero,List.drop_succ_cons,List.getElem?_cons_zero,List.getElem?_cons_succ] at g0 g1 g2 g3
 obtain⟨m0,d0,-,-⟩:=DataW.trod_int Tryz.underlying3 g0
 obtain⟨m1,d1,-,-⟩:=DataW.trod_int Tryz.underlying61 g1
 obtain⟨m2,d2,-,-⟩:=DataW.trod_int Tryz.underlying3 g2
 obtain⟨m3,d3,-,-⟩:=DataW.trod_int Tryz.underlying3 g3
 injection e0 with e0
 injection e1 with e1
 injection d0 with d0
 injection d1 with d1
 injection d2 with d2
 injection d3 with d3
 subst e0 e1 d0 d1 d2 d3
 have cc:∀i v,i<7→[(.int .i64 n0),.int .i64 n1,a2,.int .i64 m0,.int .u64 m1,.int .i64 m2,.int .i64 m3][i]?=some v→w.cell? ⟨g,o+i,none⟩=some v:=fun i v hi hv=>by
  have:=zi0 hc hi hv
  rwa [add_plain] at this
 exact⟨a2,⟨n0,n1,l,m0,m1,m2,m3⟩,cc 0 _ (by omega) rfl,cc 1 _ (by omega) rfl,cc 2 _ (by omega) rfl,cc 3 _ (by omega) rfl,cc 4 _ (by omega) rfl,cc 5 _ (by omega) rfl,cc 6 _ (by omega) rfl,hcl,zkb w1⟩
theorem zkg {v:Value} {d:DataW H} {ps:List MemPlace} (hv:Value.okWide Tryz.prog w .any base 59 v) (h:DataW.Trod enc Tryz.prog w 0 (fun _=>true) true 59 v d ps):∃l,ActsL w v l:=by
 obtain⟨a,len,cap,rfl⟩:=okWide_slice Tryz.underlying59 hv
 obtain⟨fuel,hf⟩:=h
 rcases open_slice Tryz.underlying59 hf with⟨hcs,-⟩|⟨a',len',cap',m,n,D,Pl,hcs,hb,hl,hm,hmm,-,hx⟩
 · simp[Value.cells] at hcs
   obtain⟨rfl,rfl,rfl⟩:=hcs
   exact⟨[],none,0,rfl,Nat.le_refl _,Nat.zero_le _,fun i h=>absurd h (by simp)⟩
 · simp[Value.cells] at hcs
   obtain⟨rfl,rfl,rfl⟩:=hcs
   simp only[if_true] at hmm
   subst hmm
   rw[zka] at hx
   have each:∀i,i<m→∃g o cv y,a'=⟨g,o,none⟩∧ActAtL w g (o+i*7) cv y:=fun i hi=>by
    obtain⟨cs',h1,h2⟩:=hx i hi
    obtain⟨g,o,sp⟩:=a'
    have hsp:sp=none:=by
     obtain⟨cs0,h0,-⟩:=hx 0 (by omega)
     obtain⟨q1,q2,q3⟩:=World.cells?_some h0
     have q4:=q3 0 (by omega)
     obtain⟨u,hu⟩:∃u,cs0[0]?=some u:=⟨cs0[0]'(by omega),List.getElem?_eq_getElem (by omega)⟩
     rw[hu] at q4
     simpa [Addr.add] using World.cell?_spot q4
    subst hsp
    rw[add_plain] at h1
    obtain⟨cv,y,hy⟩:=zkf h1 h2
    exact⟨g,o,cv,y,rfl,hy⟩
   have each2:∀i,i<len→∃y:Act6,∃g o cv,a'=⟨g,o,none⟩∧ActAtL w g (o+i*7) cv y:=fun i hi=>by
    obtain⟨g,o,cv,y,e1,e2⟩:=each i (by omega)
    exact⟨y,g,o,cv,e1,e2⟩
   obtain⟨Y,hY⟩:=choose_lt each2
   refine⟨(List.range len).map Y,some a',m,by simp,by simpa using hl,hm,fun i hi=>?_⟩
   obtain⟨g,o,cv,e1,e2⟩:=hY i (by simpa using hi)
   exact⟨g,o,cv,by rw[e1],by simpa using e2⟩
end
end
end Go.Proofs.YtidalepbkljkpaaGreat
