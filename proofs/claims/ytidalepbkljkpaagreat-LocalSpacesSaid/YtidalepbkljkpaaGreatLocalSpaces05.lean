import Derived.Test.YtidalepbkljkpaaGreatLocalSpaces04
import Derived.Laws.Shifts
import Derived.Deep.CutRange
import Derived.Deep.CutBlock
import Derived.Deep.DeepCutAuto
set_option linter.all false
namespace Go.Proofs.YtidalepbkljkpaaGreat
open Go.RowKit Go.H
set_option maxRecDepth 100000
section
set_option maxHeartbeats 4000000
def FateRes (w:World) (e:Ending) (w':World):Prop:=∃r:Int,(r=0∨r=1∨r=2)∧e=.returned (.int .i64 r)∧Fr C0 w w'
theorem z3j {w:World} {a kp tn ct:Int} {i:Nat} (hi:i<4611686018427387904) :
 Calls Tryz.prog 68 #[.agg #[.int .i64 a,.int .u64 kp,.int .i64 tn,.int .i64 ct],.int .i64 (i:Int)] w (FateRes w):=by
 obtain⟨j,hj,hj2⟩:∃j:Nat,j<64∧(i:Int).tmod 64=(j:Int):=⟨i % 64,by omega,by rw[Int.tmod_eq_emod_of_nonneg (by omega)];omega⟩
 have hw:IntKind.i64.wrap (j:Int)=(j:Int):=z0t _ (by omega) (by omega)
 have F1:=zhd ((Fr.refl C0 w).alloc (.cells #[.int .i64 a,.int .u64 kp,.int .i64 tn,.int .i64 ct] 63))
 by_cases ht:(i:Int)=tn
 · have ht2:((i:Int) == tn)=true:=by simp[ht]
   go_enter Tryz.func68,Tryz.ntmps68
   go_wp2
   go_ret
   exact⟨1,by omega,rfl,F1.out⟩
 · have ht2:((i:Int) == tn)=false:=by simp[ht]
   have hnn:¬(j:Int)<0:=by omega
   go_enter Tryz.func68,Tryz.ntmps68
   go_wp2
   all_goals
    go_ret
    exact⟨_,by omega,rfl,F1.out⟩
def layUp (s : DSt) (f : Nat → Option Nat) (l : List (Nat × Bs)) : Nat → DSt
 |0=>s
 | n + 1 => match f n, l[n]? with
   |some m,some p=>(layUp s f l n).lay p.1 p.2 m
   |_,_=>layUp s f l n
theorem z3k {s:DSt} {f g:Nat→Option Nat} {l:List (Nat×Bs)}:∀{n:Nat},(∀i,i<n→f i=g i)→layUp s f l n=layUp s g l n
 |0,_=>rfl
 |n+1,h=>by simp only[layUp,h n (by omega),z3k (n:=n) (fun i hi=>h i (by omega))]
theorem z3l (s:DSt) (f:Nat→Option Nat) (l:List (Nat×Bs)):∀n,layUp s f l n={ s with kept:=(layUp s f l n).kept }
 |0=>rfl
 | n + 1 => by
   have ih:=z3l s f l n
   simp only[layUp]
   split
   · show({ layUp s f l n with kept:=_ }:DSt)=_
     rw[ih];rfl
   · exact ih
def cutF (s:DSt) (f:Nat→Option Nat):DSt:={ layUp s f s.opn s.opn.length with opn:=[],after:=0,keep:=0,torn:=0,cut:=0,down:=true,life:=wrap64 (s.life+1) }
theorem z3m {s:DSt} {f:Nat→Option Nat} {l:List (Nat×Bs)} {n:Nat} (hn:n<l.length) (o:Option Nat):layUp s (fun i=>if i=n then o else f i) l (n+1)=match o with
 |some m=>(layUp s f l n).lay l[n].1 l[n].2 m
 |none=>layUp s f l n:=by
 have h:=z3k (s:=s) (l:=l) (f:=fun i=>if i=n then o else f i) (g:=f) (n:=n) (fun i hi=>if_neg (by omega))
 simp only[layUp,if_pos,h,List.getElem?_eq_getElem hn]
 cases o<;>rfl
theorem z3n {f:Nat→Option Nat} {n:Nat} (hf:∀i k,f i=some k→k≤8192) (o:Option Nat) (ho:∀k,o=some k→k≤8192):∀i k,(fun i=>if i=n then o else f i) i=some k→k≤8192:=fun i k h=>by
 by_cases e:i=n
 · simp only[e,if_true] at h;exact ho k h
 · simp only[e,if_false] at h;exact hf i k h
theorem z3o {F:Nat→Prop} {w:World} {d m:Nat} {ov:Value} {s:DSt} {a kp tn ct:Int} (h:DiskA F w d m ov s) (hd:s.down=false) (hF:∀b,w.heap.size≤b→F b) (hm:¬F m) (hdF:¬F d) (hdm:d≠m) (hom:∀b,ov.ownBlock=some b→b≠m) (hod:∀b,ov.ownBlock=some b→b≠d) :
 Calls Tryz.prog 30 #[.pointer (some ⟨d,0,none⟩),.agg #[.int .i64 a,.int .u64 kp,.int .i64 tn,.int .i64 ct]] w fun e w'=>e=.returned (.tuple #[])∧Hid (∃f,(∀i n,f i=some n→n≤8192)∧DiskA F w' d m (.slice none 0 0) (cutF s f)∧Fr (fun b=>b=m∨b=d) w w'):=by
 have F1':=(Fr.refl C0 w).alloc (.cells #[.int .i64 a,.int .u64 kp,.int .i64 tn,.int .i64 ct] 63)
 have F1:=zhd F1'
 have hdl:d<w.heap.size:=(Array.getElem?_eq_some_iff.1 h.blk).1
 have hml:m<w.heap.size:=by obtain⟨M,k1,_⟩:=h.kept;exact k1.lt
 have h:=h.fr0 F1'
 have L0:=heap_alloc_new w (.cells #[.int .i64 a,.int .u64 kp,.int .i64 tn,.int .i64 ct] 63)
 have l1:=z2k L0 0 rfl
 have l2:=z2k L0 1 rfl
 have l3:=z2k L0 2 rfl
 have l4:=z2k L0 3 rfl
 have HL0:=zhd L0
 have HD:=zhd h
 have h3:=z2k h.blk 3 rfl
 have h2:=z2k h.blk 2 rfl
 obtain⟨xs,o1,o2⟩:=h.opn
 have HR:=zhd (Row.ofOwn o1 (F:=fun b=>b<w.heap.size+1∧b≠m∧b≠d) (fun b hb=>⟨by have:=(o1.lt b hb).2;simpa using this,hom b hb,hod b hb⟩))
 have HO:=zhd o2
 have HOM:=zhd hom
 have hs:=h.small
 obtain⟨A,c,rfl,hc1,hc2⟩:=HR.out.form
 clear h o1 o2 hom L0
 rw[hd] at h3
 have hct:(ct<0∧¬(0:Int)<ct)∨(∃nn:Nat,ct=(nn:Int)∧nn≤8192∧¬(8192:Int)<(nn:Int))∨(8192<ct∧¬ct<0∧(0:Int)<ct∧¬ct<8192):=by
  rcases Int.lt_or_le ct 0 with h|h
  · exact .inl ⟨h,by omega⟩
  · rcases Int.lt_or_le 8192 ct with h2|h2
    · exact .inr (.inr (by omega))
    · exact .inr (.inl ⟨ct.toNat,by omega,by omega,by omega⟩)
 rcases hct with⟨h01,h02⟩|⟨nn,rfl,hn1,h01⟩|⟨h01,h02,h03,h04⟩
 · skip
   go_enter Tryz.func30,Tryz.ntmps30
   go_wp2
   go_loopw [16] (fun i wr=>∃n:Nat,n≤s.opn.length∧i=.int .i64 (n:Int)∧Hid (∃f,(∀i k,f i=some k→k≤8192)∧DiskA F wr d m (.slice A s.opn.length c) (layUp s f s.opn n))∧Hid (Fr (fun b=>b=m) (w.alloc (.cells #[.int .i64 a,.int .u64 kp,.int .i64 tn,.int .i64 _] 63)) wr)) (fun i _=>s.opn.length-(intOf i).toNat)
   case atStart=>exact⟨0,Nat.zero_le _,by go_num,zhd ⟨fun _=>none,fun _ _ h=>by simp at h,HD.out⟩,zhd (Fr.refl _ _)⟩
   case round=>
    obtain⟨n,hn,rfl,HDn,HF⟩:=hrel
    by_cases hlt:n<s.opn.length
    · obtain⟨q1,v,q2,q3,q4⟩:=HO.out.at_ n hlt
      obtain⟨g,o,rfl,hg,hc⟩:=HR.out.cells q1
      have r1:=HF.out.cell (hc _ _ q1) hg.2.1
      have r2:wr.cell? ⟨g,o+n*2+1,none⟩=some v:=HF.out.cell (hc _ _ q2) hg.2.1
      have q3':BytesAt F wr v s.opn[n].2:=q3.fr HF.out (fun b hb h=>hm (h▸hb))
      obtain⟨vA,vc,rfl,-⟩:=id q3
      have k1:=fun ob=>(HF.out.alloc ob).cell l1 (by show ¬w.heap.size=m;omega)
      have k2:=fun ob=>(HF.out.alloc ob).cell l2 (by show ¬w.heap.size=m;omega)
      have k3:=fun ob=>(HF.out.alloc ob).cell l3 (by show ¬w.heap.size=m;omega)
      have k4:=fun ob=>(HF.out.alloc ob).cell l4 (by show ¬w.heap.size=m;omega)
      rw[q4] at r2 q3'
      obtain⟨f,hfb,hdn⟩:=HDn.out
      have FW:=zhd ((Fr.refl C0 wr).alloc (.cells #[.int .i64 (s.opn[n].1:Int),.slice vA 8192 vc] 125))
      have HB:=zhd (heap_alloc_new wr (.cells #[.int .i64 (s.opn[n].1:Int),.slice vA 8192 vc] 125))
      have Q3:=zhd q3'
      have Q4:=zhd q4
      have HFB:=zhd hfb
      have HL:=zhd (fun (w_:World) (hf_:Fr C0 wr w_) (n':Nat) (hn':n'≤8192)=>z3i (hdn.fr0 hf_) (q3'.fr0 hf_) q4 (n:=n') hn' (k:=s.opn[n].1) (fun b hb=>hF b (by have:=HF.out.size;have:=hf_.size;rw[show(w.alloc (.cells #[.int .i64 a,.int .u64 kp,.int .i64 tn,.int .i64 _] 63)).heap.size=w.heap.size+1 by simp] at *;omega)) hm hdm HOM.out)
      have HDM:=zhd hdn
      clear q1 q2 q3 q4 hc HO HR q3' hfb hdn HDn
      go_wp2_with fail
      refine z3j (by omega) |>.mono ?_
      rintro e w4 ⟨r,hr,rfl,f4⟩
      have F4:=zhd (FW.out.trans0 f4)
      have HB4:=f4.blk HB.out (fun h=>h)
      have u1:w4.cell? ⟨wr.heap.size,0,none⟩=some (.int .i64 (s.opn[n].1:Int)):=z2k HB4 0 rfl
      have u2:w4.cell? ⟨wr.heap.size,1,none⟩=some (.slice vA 8192 vc):=z2k HB4 1 rfl
      clear f4 HB FW HB4
      rcases hr with rfl|rfl|rfl
      · go_wp2
        go_roundw
        case rel=>exact⟨n+1,by omega,by go_num,zhd ⟨fun i=>if i=n then none else f i,fun i k h=>(z3n HFB.out none (fun _ h=>by cases h)) i k h,by rw[z3m hlt];exact HDM.out.fr0 F4.out⟩,zhd (HF.out.trans0 F4.out)⟩
        case measure=>simp[intOf];omega
      · go_wp2_with fail
        refine(HL.out _ F4.out 0 (by omega)).mono ?_
        rintro e w5 ⟨rfl,d5,f5⟩
        go_wp2
        go_roundw
        case rel=>exact⟨n+1,by omega,by go_num,zhd ⟨fun i=>if i=n then some 0 else f i,fun i k h=>(z3n HFB.out (some 0) (fun k h=>by injection h with h;omega)) i k h,by rw[z3m hlt];exact d5⟩,zhd ((HF.out.trans0 F4.out).trans f5 (fun _ _ h=>h))⟩
        case measure=>simp[intOf];omega
      · go_wp2_with fail
        refine(HL.out _ F4.out 8192 (by omega)).mono ?_
        rintro e w5 ⟨rfl,d5,f5⟩
        go_wp2
        go_roundw
        case rel=>exact⟨n+1,by omega,by go_num,zhd ⟨fun i=>if i=n then some 8192 else f i,fun i k h=>(z3n HFB.out (some 8192) (fun k h=>by injection h with h;omega)) i k h,by rw[z3m hlt];exact d5⟩,zhd ((HF.out.trans0 F4.out).trans f5 (fun _ _ h=>h))⟩
        case measure=>simp[intOf];omega
    · obtain rfl:n=s.opn.length:=by omega
      obtain⟨f,hfb,hdn⟩:=HDn.out
      have HDM:=zhd hdn
      have HFB:=zhd hfb
      have z2:=z2i 2 hdn.blk
      have z3:=z2i 3 hdn.blk
      have z4:=z2i 4 hdn.blk
      have z5:=z2i 5 hdn.blk
      have z6:=z2i 6 hdn.blk
      have z7:=z2i 7 hdn.blk
      have z8:=z2i 8 hdn.blk
      have c2:=z2k hdn.blk 2 rfl
      have c3:=z2k hdn.blk 3 rfl
      have c4:wr.cell? ⟨d,4,none⟩=some (.int .i64 s.life):=by have:=z2k hdn.blk 4 rfl;rw[z3l] at this;exact this
      have c5:=z2k hdn.blk 5 rfl
      have c6:=z2k hdn.blk 6 rfl
      have c7:=z2k hdn.blk 7 rfl
      have c8:=z2k hdn.blk 8 rfl
      clear HDn HO HR hfb hdn
      go_wp2_with fail
      go_end0
      have FS:Fr (fun b=>b=d) wr (((((((wr.setCell ⟨d,2,none⟩ (.slice none 0 0)).setCell ⟨d,5,none⟩ (.int .i64 0)).setCell ⟨d,6,none⟩ (.int .u64 0)).setCell ⟨d,7,none⟩ (.int .i64 0)).setCell ⟨d,8,none⟩ (.int .i64 0)).setCell ⟨d,3,none⟩ (.bool true)).setCell ⟨d,4,none⟩ (.int .i64 (wrap64 (s.life+1)))):=(((((((Fr.refl (fun b=>b=d) wr).setCell (.inr rfl) _).setCell (.inr rfl) _).setCell (.inr rfl) _).setCell (.inr rfl) _).setCell (.inr rfl) _).setCell (.inr rfl) _).setCell (.inr rfl) _
      have hb:=z2j (i:=4) (z2j (i:=3) (z2j (i:=8) (z2j (i:=7) (z2j (i:=6) (z2j (i:=5) (z2j (i:=2) HDM.out.blk (.slice none 0 0)) (.int .i64 0)) (.int .u64 0)) (.int .i64 0)) (.int .i64 0)) (.bool true)) (.int .i64 (wrap64 (s.life+1)))
      have e9:cutF s f=⟨s.blocks,(layUp s f s.opn s.opn.length).kept,[],true,wrap64 (s.life+1),0,0,0,0⟩:=by unfold cutF;rw[z3l]
      rw[z3l] at hb
      refine⟨rfl,zhd ⟨f,HFB.out,?_,((F1.out.mono (fun _ _ h=>h.elim)).trans (HF.out.mono (fun _ _ h=>.inl h)) (fun _ _ h=>h)).trans FS (fun _ _ h=>.inr h)⟩⟩
      rw[e9]
      have hk9:=HDM.out.kept.fr FS (fun h=>hdm h.symm) (fun b hb h=>hdF (h▸hb))
      generalize wrap64 (s.life+1)=lf at *
      exact⟨hb,hk9,⟨[],World.ownsRow_nil _ _ _ _,.nil⟩,by simp⟩
 · skip
   go_enter Tryz.func30,Tryz.ntmps30
   go_wp2
   go_loopw [16] (fun i wr=>∃n:Nat,n≤s.opn.length∧i=.int .i64 (n:Int)∧Hid (∃f,(∀i k,f i=some k→k≤8192)∧DiskA F wr d m (.slice A s.opn.length c) (layUp s f s.opn n))∧Hid (Fr (fun b=>b=m) (w.alloc (.cells #[.int .i64 a,.int .u64 kp,.int .i64 tn,.int .i64 _] 63)) wr)) (fun i _=>s.opn.length-(intOf i).toNat)
   case atStart=>exact⟨0,Nat.zero_le _,by go_num,zhd ⟨fun _=>none,fun _ _ h=>by simp at h,HD.out⟩,zhd (Fr.refl _ _)⟩
   case round=>
    obtain⟨n,hn,rfl,HDn,HF⟩:=hrel
    by_cases hlt:n<s.opn.length
    · obtain⟨q1,v,q2,q3,q4⟩:=HO.out.at_ n hlt
      obtain⟨g,o,rfl,hg,hc⟩:=HR.out.cells q1
      have r1:=HF.out.cell (hc _ _ q1) hg.2.1
      have r2:wr.cell? ⟨g,o+n*2+1,none⟩=some v:=HF.out.cell (hc _ _ q2) hg.2.1
      have q3':BytesAt F wr v s.opn[n].2:=q3.fr HF.out (fun b hb h=>hm (h▸hb))
      obtain⟨vA,vc,rfl,-⟩:=id q3
      have k1:=fun ob=>(HF.out.alloc ob).cell l1 (by show ¬w.heap.size=m;omega)
      have k2:=fun ob=>(HF.out.alloc ob).cell l2 (by show ¬w.heap.size=m;omega)
      have k3:=fun ob=>(HF.out.alloc ob).cell l3 (by show ¬w.heap.size=m;omega)
      have k4:=fun ob=>(HF.out.alloc ob).cell l4 (by show ¬w.heap.size=m;omega)
      rw[q4] at r2 q3'
      obtain⟨f,hfb,hdn⟩:=HDn.out
      have FW:=zhd ((Fr.refl C0 wr).alloc (.cells #[.int .i64 (s.opn[n].1:Int),.slice vA 8192 vc] 125))
      have HB:=zhd (heap_alloc_new wr (.cells #[.int .i64 (s.opn[n].1:Int),.slice vA 8192 vc] 125))
      have Q3:=zhd q3'
      have Q4:=zhd q4
      have HFB:=zhd hfb
      have HL:=zhd (fun (w_:World) (hf_:Fr C0 wr w_) (n':Nat) (hn':n'≤8192)=>z3i (hdn.fr0 hf_) (q3'.fr0 hf_) q4 (n:=n') hn' (k:=s.opn[n].1) (fun b hb=>hF b (by have:=HF.out.size;have:=hf_.size;rw[show(w.alloc (.cells #[.int .i64 a,.int .u64 kp,.int .i64 tn,.int .i64 _] 63)).heap.size=w.heap.size+1 by simp] at *;omega)) hm hdm HOM.out)
      have HDM:=zhd hdn
      clear q1 q2 q3 q4 hc HO HR q3' hfb hdn HDn
      go_wp2_with fail
      refine z3j (by omega) |>.mono ?_
      rintro e w4 ⟨r,hr,rfl,f4⟩
      have F4:=zhd (FW.out.trans0 f4)
      have HB4:=f4.blk HB.out (fun h=>h)
      have u1:w4.cell? ⟨wr.heap.size,0,none⟩=some (.int .i64 (s.opn[n].1:Int)):=z2k HB4 0 rfl
      have u2:w4.cell? ⟨wr.heap.size,1,none⟩=some (.slice vA 8192 vc):=z2k HB4 1 rfl
      clear f4 HB FW HB4
      rcases hr with rfl|rfl|rfl
      · go_wp2
        go_roundw
        case rel=>exact⟨n+1,by omega,by go_num,zhd ⟨fun i=>if i=n then none else f i,fun i k h=>(z3n HFB.out none (fun _ h=>by cases h)) i k h,by rw[z3m hlt];exact HDM.out.fr0 F4.out⟩,zhd (HF.out.trans0 F4.out)⟩
        case measure=>simp[intOf];omega
      · go_wp2_with fail
        refine(HL.out _ F4.out nn (by omega)).mono ?_
        rintro e w5 ⟨rfl,d5,f5⟩
        go_wp2
        go_roundw
        case rel=>exact⟨n+1,by omega,by go_num,zhd ⟨fun i=>if i=n then some nn else f i,fun i k h=>(z3n HFB.out (some nn) (fun k h=>by injection h with h;omega)) i k h,by rw[z3m hlt];exact d5⟩,zhd ((HF.out.trans0 F4.out).trans f5 (fun _ _ h=>h))⟩
        case measure=>simp[intOf];omega
      · go_wp2_with fail
        refine(HL.out _ F4.out 8192 (by omega)).mono ?_
        rintro e w5 ⟨rfl,d5,f5⟩
        go_wp2
        go_roundw
        case rel=>exact⟨n+1,by omega,by go_num,zhd ⟨fun i=>if i=n then some 8192 else f i,fun i k h=>(z3n HFB.out (some 8192) (fun k h=>by injection h with h;omega)) i k h,by rw[z3m hlt];exact d5⟩,zhd ((HF.out.trans0 F4.out).trans f5 (fun _ _ h=>h))⟩
        case measure=>simp[intOf];omega
    · obtain rfl:n=s.opn.length:=by omega
      obtain⟨f,hfb,hdn⟩:=HDn.out
      have HDM:=zhd hdn
      have HFB:=zhd hfb
      have z2:=z2i 2 hdn.blk
      have z3:=z2i 3 hdn.blk
      have z4:=z2i 4 hdn.blk
      have z5:=z2i 5 hdn.blk
      have z6:=z2i 6 hdn.blk
      have z7:=z2i 7 hdn.blk
      have z8:=z2i 8 hdn.blk
      have c2:=z2k hdn.blk 2 rfl
      have c3:=z2k hdn.blk 3 rfl
      have c4:wr.cell? ⟨d,4,none⟩=some (.int .i64 s.life):=by have:=z2k hdn.blk 4 rfl;rw[z3l] at this;exact this
      have c5:=z2k hdn.blk 5 rfl
      have c6:=z2k hdn.blk 6 rfl
      have c7:=z2k hdn.blk 7 rfl
      have c8:=z2k hdn.blk 8 rfl
      clear HDn HO HR hfb hdn
      go_wp2_with fail
      go_end0
      have FS:Fr (fun b=>b=d) wr (((((((wr.setCell ⟨d,2,none⟩ (.slice none 0 0)).setCell ⟨d,5,none⟩ (.int .i64 0)).setCell ⟨d,6,none⟩ (.int .u64 0)).setCell ⟨d,7,none⟩ (.int .i64 0)).setCell ⟨d,8,none⟩ (.int .i64 0)).setCell ⟨d,3,none⟩ (.bool true)).setCell ⟨d,4,none⟩ (.int .i64 (wrap64 (s.life+1)))):=(((((((Fr.refl (fun b=>b=d) wr).setCell (.inr rfl) _).setCell (.inr rfl) _).setCell (.inr rfl) _).setCell (.inr rfl) _).setCell (.inr rfl) _).setCell (.inr rfl) _).setCell (.inr rfl) _
      have hb:=z2j (i:=4) (z2j (i:=3) (z2j (i:=8) (z2j (i:=7) (z2j (i:=6) (z2j (i:=5) (z2j (i:=2) HDM.out.blk (.slice none 0 0)) (.int .i64 0)) (.int .u64 0)) (.int .i64 0)) (.int .i64 0)) (.bool true)) (.int .i64 (wrap64 (s.life+1)))
      have e9:cutF s f=⟨s.blocks,(layUp s f s.opn s.opn.length).kept,[],true,wrap64 (s.life+1),0,0,0,0⟩:=by unfold cutF;rw[z3l]
      rw[z3l] at hb
      refine⟨rfl,zhd ⟨f,HFB.out,?_,((F1.out.mono (fun _ _ h=>h.elim)).trans (HF.out.mono (fun _ _ h=>.inl h)) (fun _ _ h=>h)).trans FS (fun _ _ h=>.inr h)⟩⟩
      rw[e9]
      have hk9:=HDM.out.kept.fr FS (fun h=>hdm h.symm) (fun b hb h=>hdF (h▸hb))
      generalize wrap64 (s.life+1)=lf at *
      exact⟨hb,hk9,⟨[],World.ownsRow_nil _ _ _ _,.nil⟩,by simp⟩
 · skip
   go_enter Tryz.func30,Tryz.ntmps30
   go_wp2
   go_loopw [16] (fun i wr=>∃n:Nat,n≤s.opn.length∧i=.int .i64 (n:Int)∧Hid (∃f,(∀i k,f i=some k→k≤8192)∧DiskA F wr d m (.slice A s.opn.length c) (layUp s f s.opn n))∧Hid (Fr (fun b=>b=m) (w.alloc (.cells #[.int .i64 a,.int .u64 kp,.int .i64 tn,.int .i64 _] 63)) wr)) (fun i _=>s.opn.length-(intOf i).toNat)
   case atStart=>exact⟨0,Nat.zero_le _,by go_num,zhd ⟨fun _=>none,fun _ _ h=>by simp at h,HD.out⟩,zhd (Fr.refl _ _)⟩
   case round=>
    obtain⟨n,hn,rfl,HDn,HF⟩:=hrel
    by_cases hlt:n<s.opn.length
    · obtain⟨q1,v,q2,q3,q4⟩:=HO.out.at_ n hlt
      obtain⟨g,o,rfl,hg,hc⟩:=HR.out.cells q1
      have r1:=HF.out.cell (hc _ _ q1) hg.2.1
      have r2:wr.cell? ⟨g,o+n*2+1,none⟩=some v:=HF.out.cell (hc _ _ q2) hg.2.1
      have q3':BytesAt F wr v s.opn[n].2:=q3.fr HF.out (fun b hb h=>hm (h▸hb))
      obtain⟨vA,vc,rfl,-⟩:=id q3
      have k1:=fun ob=>(HF.out.alloc ob).cell l1 (by show ¬w.heap.size=m;omega)
      have k2:=fun ob=>(HF.out.alloc ob).cell l2 (by show ¬w.heap.size=m;omega)
      have k3:=fun ob=>(HF.out.alloc ob).cell l3 (by show ¬w.heap.size=m;omega)
      have k4:=fun ob=>(HF.out.alloc ob).cell l4 (by show ¬w.heap.size=m;omega)
      rw[q4] at r2 q3'
      obtain⟨f,hfb,hdn⟩:=HDn.out
      have FW:=zhd ((Fr.refl C0 wr).alloc (.cells #[.int .i64 (s.opn[n].1:Int),.slice vA 8192 vc] 125))
      have HB:=zhd (heap_alloc_new wr (.cells #[.int .i64 (s.opn[n].1:Int),.slice vA 8192 vc] 125))
      have Q3:=zhd q3'
      have Q4:=zhd q4
      have HFB:=zhd hfb
      have HL:=zhd (fun (w_:World) (hf_:Fr C0 wr w_) (n':Nat) (hn':n'≤8192)=>z3i (hdn.fr0 hf_) (q3'.fr0 hf_) q4 (n:=n') hn' (k:=s.opn[n].1) (fun b hb=>hF b (by have:=HF.out.size;have:=hf_.size;rw[show(w.alloc (.cells #[.int .i64 a,.int .u64 kp,.int .i64 tn,.int .i64 _] 63)).heap.size=w.heap.size+1 by simp] at *;omega)) hm hdm HOM.out)
      have HDM:=zhd hdn
      clear q1 q2 q3 q4 hc HO HR q3' hfb hdn HDn
      go_wp2_with fail
      refine z3j (by omega) |>.mono ?_
      rintro e w4 ⟨r,hr,rfl,f4⟩
      have F4:=zhd (FW.out.trans0 f4)
      have HB4:=f4.blk HB.out (fun h=>h)
      have u1:w4.cell? ⟨wr.heap.size,0,none⟩=some (.int .i64 (s.opn[n].1:Int)):=z2k HB4 0 rfl
      have u2:w4.cell? ⟨wr.heap.size,1,none⟩=some (.slice vA 8192 vc):=z2k HB4 1 rfl
      clear f4 HB FW HB4
      rcases hr with rfl|rfl|rfl
      · go_wp2
        go_roundw
        case rel=>exact⟨n+1,by omega,by go_num,zhd ⟨fun i=>if i=n then none else f i,fun i k h=>(z3n HFB.out none (fun _ h=>by cases h)) i k h,by rw[z3m hlt];exact HDM.out.fr0 F4.out⟩,zhd (HF.out.trans0 F4.out)⟩
        case measure=>simp[intOf];omega
      · go_wp2_with fail
        refine(HL.out _ F4.out 8192 (by omega)).mono ?_
        rintro e w5 ⟨rfl,d5,f5⟩
        go_wp2
        go_roundw
        case rel=>exact⟨n+1,by omega,by go_num,zhd ⟨fun i=>if i=n then some 8192 else f i,fun i k h=>(z3n HFB.out (some 8192) (fun k h=>by injection h with h;omega)) i k h,by rw[z3m hlt];exact d5⟩,zhd ((HF.out.trans0 F4.out).trans f5 (fun _ _ h=>h))⟩
        case measure=>simp[intOf];omega
      · go_wp2_with fail
        refine(HL.out _ F4.out 8192 (by omega)).mono ?_
        rintro e w5 ⟨rfl,d5,f5⟩
        go_wp2
        go_roundw
        case rel=>exact⟨n+1,by omega,by go_num,zhd ⟨fun i=>if i=n then some 8192 else f i,fun i k h=>(z3n HFB.out (some 8192) (fun k h=>by injection h with h;omega)) i k h,by rw[z3m hlt];exact d5⟩,zhd ((HF.out.trans0 F4.out).trans f5 (fun _ _ h=>h))⟩
        case measure=>simp[intOf];omega
    · obtain rfl:n=s.opn.length:=by omega
      obtain⟨f,hfb,hdn⟩:=HDn.out
      have HDM:=zhd hdn
      have HFB:=zhd hfb
      have z2:=z2i 2 hdn.blk
      have z3:=z2i 3 hdn.blk
      have z4:=z2i 4 hdn.blk
      have z5:=z2i 5 hdn.blk
      have z6:=z2i 6 hdn.blk
      have z7:=z2i 7 hdn.blk
      have z8:=z2i 8 hdn.blk
      have c2:=z2k hdn.blk 2 rfl
      have c3:=z2k hdn.blk 3 rfl
      have c4:wr.cell? ⟨d,4,none⟩=some (.int .i64 s.life):=by have:=z2k hdn.blk 4 rfl;rw[z3l] at this;exact this
      have c5:=z2k hdn.blk 5 rfl
      have c6:=z2k hdn.blk 6 rfl
      have c7:=z2k hdn.blk 7 rfl
      have c8:=z2k hdn.blk 8 rfl
      clear HDn HO HR hfb hdn
      go_wp2_with fail
      go_end0
      have FS:Fr (fun b=>b=d) wr (((((((wr.setCell ⟨d,2,none⟩ (.slice none 0 0)).setCell ⟨d,5,none⟩ (.int .i64 0)).setCell ⟨d,6,none⟩ (.int .u64 0)).setCell ⟨d,7,none⟩ (.int .i64 0)).setCell ⟨d,8,none⟩ (.int .i64 0)).setCell ⟨d,3,none⟩ (.bool true)).setCell ⟨d,4,none⟩ (.int .i64 (wrap64 (s.life+1)))):=(((((((Fr.refl (fun b=>b=d) wr).setCell (.inr rfl) _).setCell (.inr rfl) _).setCell (.inr rfl) _).setCell (.inr rfl) _).setCell (.inr rfl) _).setCell (.inr rfl) _).setCell (.inr rfl) _
      have hb:=z2j (i:=4) (z2j (i:=3) (z2j (i:=8) (z2j (i:=7) (z2j (i:=6) (z2j (i:=5) (z2j (i:=2) HDM.out.blk (.slice none 0 0)) (.int .i64 0)) (.int .u64 0)) (.int .i64 0)) (.int .i64 0)) (.bool true)) (.int .i64 (wrap64 (s.life+1)))
      have e9:cutF s f=⟨s.blocks,(layUp s f s.opn s.opn.length).kept,[],true,wrap64 (s.life+1),0,0,0,0⟩:=by unfold cutF;rw[z3l]
      rw[z3l] at hb
      refine⟨rfl,zhd ⟨f,HFB.out,?_,((F1.out.mono (fun _ _ h=>h.elim)).trans (HF.out.mono (fun _ _ h=>.inl h)) (fun _ _ h=>h)).trans FS (fun _ _ h=>.inr h)⟩⟩
      rw[e9]
      have hk9:=HDM.out.kept.fr FS (fun h=>hdm h.symm) (fun b hb h=>hdF (h▸hb))
      generalize wrap64 (s.life+1)=lf at *
      exact⟨hb,hk9,⟨[],World.ownsRow_nil _ _ _ _,.nil⟩,by simp⟩
end
section
set_option maxHeartbeats 1000000
def FellD (F:Nat→Prop) (w':World) (d m:Nat) (s:DSt):Prop:=¬s.after<1∧∃f,(∀i n,f i=some n→n≤8192)∧DiskA F w' d m (.slice none 0 0) (cutF s f)
theorem z3p (s:DSt) (a:Int) (f:Nat→Option Nat) (l:List (Nat×Bs)):∀n,(layUp { s with after:=a } f l n).kept=(layUp s f l n).kept
 |0=>rfl
 | n + 1 => by
   have ih:=z3p s a f l n
   simp only[layUp]
   split
   · simp only[DSt.lay,DSt.good,ih]
   · exact ih
theorem z3q (s:DSt) (a:Int) (f:Nat→Option Nat):cutF { s with after:=a } f=cutF s f:=by
 unfold cutF
 rw[z3l,z3l s,z3p]
theorem z3r {s:DSt} (h:s.after<1):s.tick=s:=by
 unfold DSt.tick;rw[if_pos h]
theorem z3s {s:DSt} (h:¬s.after<1):s.tick={ s with after:=wrap64 (s.after-1) }:=by
 unfold DSt.tick;rw[if_neg h]
def StrikeR (F:Nat→Prop) (w:World) (d m:Nat) (ov:Value) (s:DSt) (b:Bool) (w':World):Prop:=Fr (fun b=>b=m∨b=d) w w'∧((b=false∧DiskA F w' d m ov s.tick∧Fr (fun b=>b=d) w w')∨(b=true∧FellD (fun b=>F b∨w.heap.size≤b) w' d m s))
def StrikeE (F:Nat→Prop) (w:World) (d m:Nat) (ov:Value) (s:DSt) (e:Ending) (w':World):Prop:=∃b:Bool,e=.returned (.bool b)∧Hid (StrikeR F w d m ov s b w')
theorem z3t {F:Nat→Prop} {w:World} {d m:Nat} {ov:Value} {s:DSt} (h:DiskA F w d m ov s) (hd:s.down=false) (hm:¬F m) (hdF:¬F d) (hdm:d≠m) (hom:∀b,ov.ownBlock=some b→b≠m) (hod:∀b,ov.ownBlock=some b→b≠d) :
 Calls Tryz.prog 184 #[.pointer (some ⟨d,0,none⟩)] w (StrikeE F w d m ov s):=by
 by_cases ha:s.after<1
 · refine(z3d h ha).mono ?_
   rintro e w' ⟨rfl,rfl⟩
   exact⟨false,rfl,zhd ⟨Fr.refl _ _,.inl ⟨rfl,by rw[z3r ha];exact h,Fr.refl _ _⟩⟩⟩
 · have HD:=zhd h
   have h5:=z2k h.blk 5 rfl
   have z5:=z2i 5 h.blk
   have h6:=z2k h.blk 6 rfl
   have h7:=z2k h.blk 7 rfl
   have h8:=z2k h.blk 8 rfl
   have FS:Fr (fun b=>b=d) w (w.setCell ⟨d,5,none⟩ (.int .i64 (wrap64 (s.after-1)))):=(Fr.refl (fun b=>b=d) w).setCell (.inr rfl) _
   have hb:=z2j (i:=5) h.blk (.int .i64 (wrap64 (s.after-1)))
   have hD:DiskA F (w.setCell ⟨d,5,none⟩ (.int .i64 (wrap64 (s.after-1)))) d m ov { s with after:=wrap64 (s.after-1) }:=by
    refine⟨hb,h.kept.fr FS (fun h=>hdm h.symm) (fun b hb h=>hdF (h▸hb)),?_,h.small⟩
    obtain⟨xs,o1,o2⟩:=h.opn
    exact⟨xs,z0m o1 FS hod,o2.fr FS (fun b hb h=>hdF (h▸hb))⟩
   have HDD:=zhd hD
   have HFS:=zhd FS
   have hdl:d<w.heap.size:=(Array.getElem?_eq_some_iff.1 h.blk).1
   have hml:m<w.heap.size:=by obtain⟨M,k1,_⟩:=h.kept;exact k1.lt
   have HCUT:=zhd (fun a kp tn ct=>z3o (F:=fun b=>F b∨w.heap.size≤b) (a:=a) (kp:=kp) (tn:=tn) (ct:=ct) (hD.mono fun b hb _=>.inl hb) hd (fun b hb=>.inr (by have:=FS.size;omega)) (fun e=>e.elim hm (fun e=>by omega)) (fun e=>e.elim hdF (fun e=>by omega)) hdm hom hod)
   have HA:=zhd ha
   have HB:=zhd hb
   clear h hD FS hb
   have ha2:¬s.after<1:=ha
   go_enter Tryz.func184,Tryz.ntmps184
   go_upto_region 4 with fail
   have HT:=zhd (z3s ha2)
   generalize wrap64 (s.after-1)=na at *
   have g5:(w.setCell ⟨d,5,none⟩ (.int .i64 na)).cell? ⟨d,5,none⟩=some (.int .i64 na):=z2k HB.out 5 rfl
   have g6:(w.setCell ⟨d,5,none⟩ (.int .i64 na)).cell? ⟨d,6,none⟩=some (.int .u64 s.keep):=z2k HB.out 6 rfl
   have g7:(w.setCell ⟨d,5,none⟩ (.int .i64 na)).cell? ⟨d,7,none⟩=some (.int .i64 s.torn):=z2k HB.out 7 rfl
   have g8:(w.setCell ⟨d,5,none⟩ (.int .i64 na)).cell? ⟨d,8,none⟩=some (.int .i64 s.cut):=z2k HB.out 8 rfl
   clear h5 z5 h6 h7 h8
   generalize w.setCell ⟨d,5,none⟩ (.int .i64 na)=w1 at *
   by_cases hp:(0:Int)<na
   · go_wp2
     go_ret
     exact⟨false,rfl,zhd ⟨HFS.out.mono (fun _ _ h=>.inr h),.inl ⟨rfl,by rw[HT.out];exact HDD.out,HFS.out⟩⟩⟩
   · have HP:=zhd hp
     go_wp2_with fail
     refine(HCUT.out _ _ _ _).mono ?_
     rintro e w2 ⟨rfl,H2⟩
     go_wp2
     go_ret
     obtain⟨f,hf,hD2,f2⟩:=H2.out
     exact⟨true,rfl,zhd ⟨(HFS.out.mono (C2:=fun b=>b=m∨b=d) (fun _ _ h=>.inr h)).trans f2 (fun _ _ h=>h),.inr ⟨rfl,(by have:=HA.out;omega),f,hf,by rw[z3q] at hD2;exact hD2⟩⟩⟩
end
end Go.Proofs.YtidalepbkljkpaaGreat
