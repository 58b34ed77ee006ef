import Derived.Test.YtcmicdcikechkaaGreatPlays16
import Derived.Test.YtcmicdcikechkaaGreatPlays04
import Derived.Test.YtcmicdcikechkaaGreatPlays03
import Derived.Test.YtcmicdcikechkaaGreatPlays25
import Derived.Test.YtcmicdcikechkaaGreatPlays31
import Derived.Test.YtcmicdcikechkaaGreatPlays32
import Derived.Test.YtcmicdcikechkaaGreatPlays33
import Derived.Test.YtcmicdcikechkaaGreatPlays34
import Derived.Test.YtcmicdcikechkaaGreatPlays20
set_option linter.all false
set_option autoImplicit true
set_option relaxedAutoImplicit true
namespace Go.Proofs.YtcmicdcikechkaaGreat
open Go.RowKit Go.H
set_option maxHeartbeats 2000000
set_option maxRecDepth 100000
section
def PairsAt (F:Nat→Prop) (w:World) (v:Value) (L:List KV):Prop:=∃xs,Row F w v L.length 3 xs∧PairCells F w xs L
theorem PairsAt.fr (h:PairsAt F w v L) (hf:Fr C w w') (hd:∀b,F b→¬C b):PairsAt F w' v L:=by
 obtain⟨xs,a,b⟩:=h
 exact⟨xs,a.fr hf hd,b.fr hf hd⟩
theorem PairsAt.fr0 (h:PairsAt F w v L) (hf:Fr C0 w w'):PairsAt F w' v L:=h.fr hf (fun _ _ k=>k)
theorem PairsAt.mono (h:PairsAt F w v L) (hF:∀b,F b→b<w.heap.size→F' b):PairsAt F' w v L:=by
 obtain⟨xs,a,b⟩:=h
 exact⟨xs,a.mono hF,b.mono hF⟩
theorem PairsAt.form (h:PairsAt F w v L):∃A c,v=.slice A L.length c∧L.length≤c∧c≤maxLen:=by
 obtain⟨xs,a,b⟩:=h
 exact a.form
theorem PairsAt.at_ {cp:Nat} (h:PairsAt F w (.slice A L.length cp) L) (i:Nat) (hi:i<L.length):∃g o kv vv,A=some ⟨g,o,none⟩∧w.cell? ⟨g,o+i*3,none⟩=some (.int .i64 0)∧w.cell? ⟨g,o+i*3+1,none⟩=some kv∧w.cell? ⟨g,o+i*3+2,none⟩=some vv∧BytesAt F w kv L[i].1∧BytesAt F w vv L[i].2:=by
 obtain⟨xs,a,b⟩:=h
 obtain⟨kv,vv,h0,h1,h2,h3,h4⟩:=b.at_ i hi
 obtain⟨g,o,rfl,_,hc⟩:=a.cells h0
 exact⟨g,o,kv,vv,rfl,hc _ _ h0,by rw[show o+i*3+1=o+(i*3+1) by omega];exact hc _ _ h1,by rw[show o+i*3+2=o+(i*3+2) by omega];exact hc _ _ h2,h3,h4⟩
theorem OutAt.pairs {pT uT B:Nat} {q:Nat} (h:OutAt pT uT B c q w v L) (hF:∀b,B≤b→(c b=0∨c b=q)→F b):PairsAt F w v L:=by
 obtain⟨xs,a,b,e,_⟩:=h
 exact⟨xs,Row.ofOwn a (fun b hb=>hF b (e b hb).2 (.inr (e b hb).1)),b.mono fun b hb _=>hF b hb.2 (.inl hb.1)⟩
theorem zez (h:BytesAt F w v l) (hn:l.length≤100000):
 Calls Tryz.prog 58 #[v] w fun e w'=>∃v',e=.returned v'∧Fr C0 w w'∧w'.ownsRow w.heap.size 5 1 v' l.length (l.map bv):=by
 have HR:=zhd (h.row.mono (F':=fun b=>b<w.heap.size) (fun b _ h=>h))
 obtain⟨A,c,rfl,h1,h2⟩:=h.form
 clear h
 go_enter Tryz.func58,Tryz.ntmps58
 go_wp2_with (at_builtin;go_must (refine z0l z2k rfl _ _ rfl (v:=.slice none 0 0) (xv:=.slice A l.length c) rfl rfl (B:=w.heap.size) (World.ownsRow_nil _ _ _ _) HR.out (z15 l) (by unfold maxLen;omega) (by omega) (by omega) ?_);intro v2 w2 o2 f2 k2 nil2)
 go_ret
 exact⟨v2,rfl,f2.mono (fun b _ h=>by simp[Value.ownBlock] at h),by simpa using o2⟩
theorem str2 (ha:BytesAt F w u a) (hb:BytesAt G w v b):∃x y:ByteArray,Hid (∀w_,Fr C0 w w_→(convert 30 9 u).run Tryz.prog w_=.ok (.string x) w_)∧Hid (∀w_,Fr C0 w w_→(convert 30 9 v).run Tryz.prog w_=.ok (.string y) w_)∧Hid ((x.toList == y.toList)=decide (a=b)):=
 ⟨_,_,zhd fun w_ hf=>z2u (ha.fr0 hf),zhd fun w_ hf=>z2u (hb.fr0 hf),zhd (by rw[ByteArray.toList_eq,ByteArray.toList_eq];simp[z2z])⟩
theorem zf0 (ha:PairsAt F w u a) (hb:PairsAt G w v b):
 Calls Tryz.prog 22 #[u,v] w fun e w'=>e=.returned (.bool (decide (a=b)))∧Fr C0 w w':=by
 have HA:=zhd ha
 have HB:=zhd hb
 obtain⟨A,ca,rfl,ha1,ha2⟩:=ha.form
 obtain⟨B,cb,rfl,hb1,hb2⟩:=hb.form
 clear ha hb
 unfold maxLen at ha2 hb2
 by_cases hl:a.length=b.length
 · have HL:=zhd hl
   have hl1:((a.length:Int) != (b.length:Int))=false:=by simp[bne,z2z,hl]
   clear hl
   go_enter Tryz.func22,Tryz.ntmps22
   go_wp2
   go_loopw [5] (fun i wr=>∃k:Nat,k≤a.length∧i=.int .i64 (k:Int)∧Fr C0 w wr∧Hid (a.take k=b.take k)) (fun i _=>a.length-(intOf i).toNat)
   case atStart=>exact⟨0,Nat.zero_le _,rfl,Fr.refl _ _,zhd rfl⟩
   case round=>
    obtain⟨k,hk,rfl,hf,hab⟩:=hrel
    have HF:=zhd hf
    clear hf
    by_cases hlt:k<a.length
    · have hltb:k<b.length:=by have:=HL.out;omega
      obtain⟨ga,oa,kva,vva,rfl,a0,a1,a2,a3,a4⟩:=(HA.out.fr0 HF.out).at_ k hlt
      obtain⟨gb,ob,kvb,vvb,rfl,b0,b1,b2,b3,b4⟩:=(HB.out.fr0 HF.out).at_ k hltb
      obtain⟨x1,y1,sa3,sb3,E1⟩:=str2 a3 b3
      obtain⟨x2,y2,sa4,sb4,E2⟩:=str2 a4 b4
      obtain⟨_,_,rfl,-⟩:=a3.form
      obtain⟨_,_,rfl,-⟩:=a4.form
      obtain⟨_,_,rfl,-⟩:=b3.form
      obtain⟨_,_,rfl,-⟩:=b4.form
      clear a3 a4 b3 b4
      by_cases hk1:a[k].1=b[k].1
      · by_cases hk2:a[k].2=b[k].2
        · skip
          go_wp2_with fail
          have e1:=E1.out;rw[decide_eq_true hk1] at e1
          have HK1:=zhd hk1
          clear hk1
          have e2:=E2.out;rw[decide_eq_true hk2] at e2
          have HK2:=zhd hk2
          clear hk2
          refine z1r (Fr C0 wr) [] (by kernel_rfl) ?_
          have hSw0:(Fr C0 wr) _:=(Fr.refl C0 wr).drew
          refine tk 0 hSw0 ?_
          refine tk 1 hSw0 ?_
          refine tk 2 hSw0 ?_
          refine tk 3 hSw0 ?_
          refine tk 4 hSw0 ?_ (hy:=by intro w_ hS_;have c0:=hS_.cell0 a0;have c1:=hS_.cell0 a1;have c2:=hS_.cell0 a2;have d0:=hS_.cell0 b0;have d1:=hS_.cell0 b1;have d2:=hS_.cell0 b2;first|(go_simp;done)|(go_simp;with_reducible rfl))
          refine tk 5 hSw0 ?_
          refine tk 6 hSw0 ?_
          refine tk 7 hSw0 ?_
          refine tk 8 hSw0 ?_
          refine tk 9 hSw0 ?_ (hy:=by intro w_ hS_;have c0:=hS_.cell0 a0;have c1:=hS_.cell0 a1;have c2:=hS_.cell0 a2;have d0:=hS_.cell0 b0;have d1:=hS_.cell0 b1;have d2:=hS_.cell0 b2;first|(go_simp;done)|(go_simp;with_reducible rfl))
          refine tk 10 hSw0 ?_
          refine tk 11 hSw0 ?_
          refine tk 12 hSw0 ?_
          refine tk 13 hSw0 ?_
          refine tk 14 hSw0 ?_
          refine tk 15 hSw0 ?_
          refine tk 16 hSw0 ?_ (hy:=by intro w_ hS_;have c0:=hS_.cell0 a0;have c1:=hS_.cell0 a1;have c2:=hS_.cell0 a2;have d0:=hS_.cell0 b0;have d1:=hS_.cell0 b1;have d2:=hS_.cell0 b2;first|(go_simp;done)|(go_simp;with_reducible rfl))
          refine tk 17 hSw0 ?_ (hy:=by intro w_ hS_;have k3:=sa3.out _ hS_;have k4:=sa4.out _ hS_;have l3:=sb3.out _ hS_;have l4:=sb4.out _ hS_;first|(go_simp;done)|(go_simp;with_reducible rfl))
          refine tk 18 hSw0 ?_
          refine tk 19 hSw0 ?_
          refine tk 20 hSw0 ?_
          refine tk 21 hSw0 ?_
          refine tk 22 hSw0 ?_ (hy:=by intro w_ hS_;have c0:=hS_.cell0 a0;have c1:=hS_.cell0 a1;have c2:=hS_.cell0 a2;have d0:=hS_.cell0 b0;have d1:=hS_.cell0 b1;have d2:=hS_.cell0 b2;first|(go_simp;done)|(go_simp;with_reducible rfl))
          refine tk 23 hSw0 ?_ (hy:=by intro w_ hS_;have k3:=sa3.out _ hS_;have k4:=sa4.out _ hS_;have l3:=sb3.out _ hS_;have l4:=sb4.out _ hS_;first|(go_simp;done)|(go_simp;with_reducible rfl))
          refine tk 24 hSw0 ?_
          refine tk 25 hSw0 ?_
          refine tk 26 hSw0 ?_
          refine tk 27 hSw0 ?_
          refine tk 28 hSw0 ?_
          refine tk 29 hSw0 ?_
          refine tk 30 hSw0 ?_
          refine tk 31 hSw0 ?_ (hy:=by intro w_ hS_;have c0:=hS_.cell0 a0;have c1:=hS_.cell0 a1;have c2:=hS_.cell0 a2;have d0:=hS_.cell0 b0;have d1:=hS_.cell0 b1;have d2:=hS_.cell0 b2;first|(go_simp;done)|(go_simp;with_reducible rfl))
          refine tk 32 hSw0 ?_ (hy:=by intro w_ hS_;have k3:=sa3.out _ hS_;have k4:=sa4.out _ hS_;have l3:=sb3.out _ hS_;have l4:=sb4.out _ hS_;first|(go_simp;done)|(go_simp;with_reducible rfl))
          refine tk 33 hSw0 ?_
          refine tk 34 hSw0 ?_
          refine tk 35 hSw0 ?_
          refine tk 36 hSw0 ?_
          refine tk 37 hSw0 ?_ (hy:=by intro w_ hS_;have c0:=hS_.cell0 a0;have c1:=hS_.cell0 a1;have c2:=hS_.cell0 a2;have d0:=hS_.cell0 b0;have d1:=hS_.cell0 b1;have d2:=hS_.cell0 b2;first|(go_simp;done)|(go_simp;with_reducible rfl))
          refine tk 38 hSw0 ?_ (hy:=by intro w_ hS_;have k3:=sa3.out _ hS_;have k4:=sa4.out _ hS_;have l3:=sb3.out _ hS_;have l4:=sb4.out _ hS_;first|(go_simp;done)|(go_simp;with_reducible rfl))
          refine tk 39 hSw0 ?_
          refine tk 40 hSw0 ?_
          refine z1q (by kernel_rfl) ?_ _
          go_wp2
          go_roundw
          case rel=>
           refine⟨k+1,by omega,by go_num,HF.out.drew,zhd ?_⟩
           rw[List.take_succ_eq_append_getElem hlt,List.take_succ_eq_append_getElem hltb,hab.out,show a[k]=b[k] from Prod.ext HK1.out HK2.out]
          case measure=>simp[intOf];omega
        · skip
          go_wp2_with fail
          have e1:=E1.out;rw[decide_eq_true hk1] at e1
          have HK1:=zhd hk1
          clear hk1
          have e2:=E2.out;rw[decide_eq_false hk2] at e2
          have HK2:=zhd hk2
          clear hk2
          refine z1r (Fr C0 wr) [] (by kernel_rfl) ?_
          have hSw0:(Fr C0 wr) _:=(Fr.refl C0 wr).drew
          refine tk 0 hSw0 ?_
          refine tk 1 hSw0 ?_
          refine tk 2 hSw0 ?_
          refine tk 3 hSw0 ?_
          refine tk 4 hSw0 ?_ (hy:=by intro w_ hS_;have c0:=hS_.cell0 a0;have c1:=hS_.cell0 a1;have c2:=hS_.cell0 a2;have d0:=hS_.cell0 b0;have d1:=hS_.cell0 b1;have d2:=hS_.cell0 b2;first|(go_simp;done)|(go_simp;with_reducible rfl))
          refine tk 5 hSw0 ?_
          refine tk 6 hSw0 ?_
          refine tk 7 hSw0 ?_
          refine tk 8 hSw0 ?_
          refine tk 9 hSw0 ?_ (hy:=by intro w_ hS_;have c0:=hS_.cell0 a0;have c1:=hS_.cell0 a1;have c2:=hS_.cell0 a2;have d0:=hS_.cell0 b0;have d1:=hS_.cell0 b1;have d2:=hS_.cell0 b2;first|(go_simp;done)|(go_simp;with_reducible rfl))
          refine tk 10 hSw0 ?_
          refine tk 11 hSw0 ?_
          refine tk 12 hSw0 ?_
          refine tk 13 hSw0 ?_
          refine tk 14 hSw0 ?_
          refine tk 15 hSw0 ?_
          refine tk 16 hSw0 ?_ (hy:=by intro w_ hS_;have c0:=hS_.cell0 a0;have c1:=hS_.cell0 a1;have c2:=hS_.cell0 a2;have d0:=hS_.cell0 b0;have d1:=hS_.cell0 b1;have d2:=hS_.cell0 b2;first|(go_simp;done)|(go_simp;with_reducible rfl))
          refine tk 17 hSw0 ?_ (hy:=by intro w_ hS_;have k3:=sa3.out _ hS_;have k4:=sa4.out _ hS_;have l3:=sb3.out _ hS_;have l4:=sb4.out _ hS_;first|(go_simp;done)|(go_simp;with_reducible rfl))
          refine tk 18 hSw0 ?_
          refine tk 19 hSw0 ?_
          refine tk 20 hSw0 ?_
          refine tk 21 hSw0 ?_
          refine tk 22 hSw0 ?_ (hy:=by intro w_ hS_;have c0:=hS_.cell0 a0;have c1:=hS_.cell0 a1;have c2:=hS_.cell0 a2;have d0:=hS_.cell0 b0;have d1:=hS_.cell0 b1;have d2:=hS_.cell0 b2;first|(go_simp;done)|(go_simp;with_reducible rfl))
          refine tk 23 hSw0 ?_ (hy:=by intro w_ hS_;have k3:=sa3.out _ hS_;have k4:=sa4.out _ hS_;have l3:=sb3.out _ hS_;have l4:=sb4.out _ hS_;first|(go_simp;done)|(go_simp;with_reducible rfl))
          refine tk 24 hSw0 ?_
          refine tk 25 hSw0 ?_
          refine tk 26 hSw0 ?_
          refine tk 27 hSw0 ?_
          refine tk 28 hSw0 ?_
          refine tk 29 hSw0 ?_
          refine tk 30 hSw0 ?_
          refine tk 31 hSw0 ?_ (hy:=by intro w_ hS_;have c0:=hS_.cell0 a0;have c1:=hS_.cell0 a1;have c2:=hS_.cell0 a2;have d0:=hS_.cell0 b0;have d1:=hS_.cell0 b1;have d2:=hS_.cell0 b2;first|(go_simp;done)|(go_simp;with_reducible rfl))
          refine tk 32 hSw0 ?_ (hy:=by intro w_ hS_;have k3:=sa3.out _ hS_;have k4:=sa4.out _ hS_;have l3:=sb3.out _ hS_;have l4:=sb4.out _ hS_;first|(go_simp;done)|(go_simp;with_reducible rfl))
          refine tk 33 hSw0 ?_
          refine tk 34 hSw0 ?_
          refine tk 35 hSw0 ?_
          refine tk 36 hSw0 ?_
          refine tk 37 hSw0 ?_ (hy:=by intro w_ hS_;have c0:=hS_.cell0 a0;have c1:=hS_.cell0 a1;have c2:=hS_.cell0 a2;have d0:=hS_.cell0 b0;have d1:=hS_.cell0 b1;have d2:=hS_.cell0 b2;first|(go_simp;done)|(go_simp;with_reducible rfl))
          refine tk 38 hSw0 ?_ (hy:=by intro w_ hS_;have k3:=sa3.out _ hS_;have k4:=sa4.out _ hS_;have l3:=sb3.out _ hS_;have l4:=sb4.out _ hS_;first|(go_simp;done)|(go_simp;with_reducible rfl))
          refine tk 39 hSw0 ?_
          refine tk 40 hSw0 ?_
          refine z1q (by kernel_rfl) ?_ _
          go_wp2
          go_ret
          refine⟨?_,HF.out.drew⟩
          rw[decide_eq_false (fun e=>HK2.out (by simp only[e]))]
          rfl
      · skip
        go_wp2_with fail
        have e1:=E1.out;rw[decide_eq_false hk1] at e1
        have HK1:=zhd hk1
        clear hk1
        refine z1r (Fr C0 wr) [] (by kernel_rfl) ?_
        have hSw0:(Fr C0 wr) _:=(Fr.refl C0 wr).drew
        refine tk 0 hSw0 ?_
        refine tk 1 hSw0 ?_
        refine tk 2 hSw0 ?_
        refine tk 3 hSw0 ?_
        refine tk 4 hSw0 ?_ (hy:=by intro w_ hS_;have c0:=hS_.cell0 a0;have c1:=hS_.cell0 a1;have c2:=hS_.cell0 a2;have d0:=hS_.cell0 b0;have d1:=hS_.cell0 b1;have d2:=hS_.cell0 b2;first|(go_simp;done)|(go_simp;with_reducible rfl))
        refine tk 5 hSw0 ?_
        refine tk 6 hSw0 ?_
        refine tk 7 hSw0 ?_
        refine tk 8 hSw0 ?_
        refine tk 9 hSw0 ?_ (hy:=by intro w_ hS_;have c0:=hS_.cell0 a0;have c1:=hS_.cell0 a1;have c2:=hS_.cell0 a2;have d0:=hS_.cell0 b0;have d1:=hS_.cell0 b1;have d2:=hS_.cell0 b2;first|(go_simp;done)|(go_simp;with_reducible rfl))
        refine tk 10 hSw0 ?_
        refine tk 11 hSw0 ?_
        refine tk 12 hSw0 ?_
        refine tk 13 hSw0 ?_
        refine tk 14 hSw0 ?_
        refine tk 15 hSw0 ?_
        refine tk 16 hSw0 ?_ (hy:=by intro w_ hS_;have c0:=hS_.cell0 a0;have c1:=hS_.cell0 a1;have c2:=hS_.cell0 a2;have d0:=hS_.cell0 b0;have d1:=hS_.cell0 b1;have d2:=hS_.cell0 b2;first|(go_simp;done)|(go_simp;with_reducible rfl))
        refine tk 17 hSw0 ?_ (hy:=by intro w_ hS_;have k3:=sa3.out _ hS_;have k4:=sa4.out _ hS_;have l3:=sb3.out _ hS_;have l4:=sb4.out _ hS_;first|(go_simp;done)|(go_simp;with_reducible rfl))
        refine tk 18 hSw0 ?_
        refine tk 19 hSw0 ?_
        refine tk 20 hSw0 ?_
        refine tk 21 hSw0 ?_
        refine tk 22 hSw0 ?_ (hy:=by intro w_ hS_;have c0:=hS_.cell0 a0;have c1:=hS_.cell0 a1;have c2:=hS_.cell0 a2;have d0:=hS_.cell0 b0;have d1:=hS_.cell0 b1;have d2:=hS_.cell0 b2;first|(go_simp;done)|(go_simp;with_reducible rfl))
        refine tk 23 hSw0 ?_ (hy:=by intro w_ hS_;have k3:=sa3.out _ hS_;have k4:=sa4.out _ hS_;have l3:=sb3.out _ hS_;have l4:=sb4.out _ hS_;first|(go_simp;done)|(go_simp;with_reducible rfl))
        refine tk 24 hSw0 ?_
        refine tk 25 hSw0 ?_
        refine tk 26 hSw0 ?_
        refine tks 27 rfl hSw0 ?_
        try simp only[Act.put,zs1,zs2,zs3]
        refine tks 28 rfl hSw0 ?_
        try simp only[Act.put,zs1,zs2,zs3]
        refine tks 29 rfl hSw0 ?_
        try simp only[Act.put,zs1,zs2,zs3]
        refine tks 30 rfl hSw0 ?_
        try simp only[Act.put,zs1,zs2,zs3]
        refine tks 31 rfl hSw0 ?_
        try simp only[Act.put,zs1,zs2,zs3]
        refine tks 32 rfl hSw0 ?_
        try simp only[Act.put,zs1,zs2,zs3]
        refine tks 33 rfl hSw0 ?_
        try simp only[Act.put,zs1,zs2,zs3]
        refine tks 34 rfl hSw0 ?_
        try simp only[Act.put,zs1,zs2,zs3]
        refine tks 35 rfl hSw0 ?_
        try simp only[Act.put,zs1,zs2,zs3]
        refine tks 36 rfl hSw0 ?_
        try simp only[Act.put,zs1,zs2,zs3]
        refine tks 37 rfl hSw0 ?_
        try simp only[Act.put,zs1,zs2,zs3]
        refine tks 38 rfl hSw0 ?_
        try simp only[Act.put,zs1,zs2,zs3]
        refine tks 39 rfl hSw0 ?_
        try simp only[Act.put,zs1,zs2,zs3]
        refine tk 40 hSw0 ?_
        refine z1q (by kernel_rfl) ?_ _
        go_wp2
        go_ret
        refine⟨?_,HF.out.drew⟩
        rw[decide_eq_false (fun e=>HK1.out (by simp only[e]))]
        rfl
    · obtain rfl:k=a.length:=by omega
      have hbt:b.take a.length=b:=List.take_of_length_le (by have:=HL.out;omega)
      have hat:a.take a.length=a:=List.take_of_length_le (Nat.le_refl _)
      have hE:a=b:=by have:=hab.out;rw[hat,hbt] at this;exact this
      have HE:=zhd hE
      clear hbt hat hE hab
      go_wp2
      go_ret
      refine⟨?_,HF.out⟩
      rw[decide_eq_true HE.out]
      rfl
 · go_enter Tryz.func22,Tryz.ntmps22
   go_wp2
   go_ret
   refine⟨?_,Fr.refl _ _⟩
   rw[decide_eq_false (fun e=>hl (by rw[e]))]
   rfl
end
section
theorem TreeAt.cl {r rn rm:Nat} {tp:Nat} {k:Nat} (h:TreeAt c r rn rm w tp Z k):Cl w c:=by
 obtain⟨st,lm,km,nr,lr,gv,ov,sn,h⟩:=h
 exact h.cl
def ComAt (c:Nat→Nat) (r rn rm:Nat) (w:World) (tp:Nat) (Z:TSt) (k:Nat) (err:Int) (w':World):Prop:=Fr (fun b=>c b=r∨c b=rn∨c b=rm) w w'∧((err=0∧∃c' Z',Ag w.heap.size c c'∧TreeAt c' r rn rm w' tp Z' k∧(Z'.back=[]∧Z'.snaps=Z.snaps)∧rootL Z'.now=rootL Z.now∧Z'.last=Z'.now∧Z'.gone=[]∧rootD Z'.now=rootD Z.now∧Z'.S.pages=Z.S.pages∧Z'.S.num=Z.S.num+1∧rootDirty Z'.now=0∧Z'.S.dk=Z.S.dk∧(Z.D.after<1→Z'.D.after<1))∨(err=20∧Fell c r w w' Z.S.dk Z.D (TQ Z)))
theorem zf1 {r rn rm:Nat} {tp:Nat} {k:Nat} (ho:Owners r rn rm) (h:TreeAt c r rn rm w tp Z k) (hn:Z.S.num<1000000):
 Calls Tryz.prog 11 #[.pointer (some ⟨tp,0,none⟩)] w fun e w'=>∃err:Int,e=.returned (.int .i64 err)∧Hid (ComAt c r rn rm w tp Z k err w'):=by
 obtain⟨st,lm,km,nr,lr,gv,ov,sn,h⟩:=h
 refine(ze8 ho h hn).mono ?_
 rintro e w' ⟨err,rfl,H⟩
 obtain⟨fr,(⟨rfl,c',o',new,S1,D1,R,rv,ba,ke,ag,h',e1,e2,e3,e4,e5,e6⟩|⟨rfl,hf⟩)⟩:=H.out
 case inr=>exact⟨20,rfl,zhd ⟨fr,.inr ⟨rfl,hf⟩⟩⟩
 refine⟨0,rfl,zhd ⟨fr,.inl ⟨rfl,c',_,ag,⟨st,lm,km,rv,rv,_,ov,sn,h'⟩,⟨rfl,rfl⟩,e1,rfl,rfl,e2,e3,by show S1.num+1=_;rw[e4],?_,e5,e6⟩⟩⟩
 have hp:rootPage o':=h'.bk.lp
 show rootDirty o'=0
 cases o' with
 |none=>rfl
 |some p=>exact zcb hp
theorem zf2 {r rn rm:Nat} {tp:Nat} {k:Nat} (ho:Owners r rn rm) (h:TreeAt c r rn rm w tp Z k) (hn:Z.S.num<1000000) (haf:Z.D.after<1):
 Calls Tryz.prog 11 #[.pointer (some ⟨tp,0,none⟩)] w fun e w'=>e=.returned (.int .i64 0)∧Fr (fun b=>c b=r∨c b=rn∨c b=rm) w w'∧∃c' Z',Ag w.heap.size c c'∧TreeAt c' r rn rm w' tp Z' k∧(Z'.back=[]∧Z'.snaps=Z.snaps)∧rootL Z'.now=rootL Z.now∧Z'.last=Z'.now∧Z'.gone=[]∧rootD Z'.now=rootD Z.now∧Z'.S.pages=Z.S.pages∧Z'.S.num=Z.S.num+1∧rootDirty Z'.now=0∧Z'.S.dk=Z.S.dk∧Z'.D.after<1:=by
 refine(zf1 ho h hn).mono ?_
 rintro e w' ⟨err,rfl,H⟩
 obtain⟨fr,(⟨rfl,c',Z',e1,e2,e0,e3,e4,e5,e6,e7,e8,e9,e10,e11⟩|⟨_,hf⟩)⟩:=H.out
 · exact⟨rfl,fr,c',Z',e1,e2,e0,e3,e4,e5,e6,e7,e8,e9,e10,e11 haf⟩
 · exact absurd haf hf.1
theorem zf3 {r rn rm:Nat} {tp k:Nat} (ho:Owners r rn rm) (h:TreeAt c r rn rm w tp Z k):
 Calls Tryz.prog 34 #[.pointer (some ⟨tp,0,none⟩)] w fun e w'=>e=.returned (.int .i64 0)∧Fr (fun b=>c b=r) w w'∧TreeAt c r rn rm w' tp { Z with now:=Z.last,gone:=[] } k:=by
 obtain⟨st,lm,km,nr,lr,gv,ov,sn,h⟩:=h
 have hl:lr=.nilIface∨∃tx y,lr=.iface tx y:=by
  have:=h.last
  cases hz:Z.last with
  |none=>rw[hz] at this;exact .inl this
  |some p=>rw[hz] at this;exact .inr this.1.iface
 refine(zak h.hd h.blk hl).mono ?_
 rintro e w' ⟨rfl,hb,hf⟩
 have hap:Apart c r w [tp]:=fun b hb=>by
  simp at hb;subst hb
  exact⟨h.hd.own,_,_,_,h.blk,by decide,by decide,by decide⟩
 have hne:∀b,c b=rm→¬b=tp:=fun b e h2=>ho.mr (e.symm.trans (by rw[h2];exact h.hd.own))
 have hlast:RootAt c rn w' (pgs Z.D) Z.D.blocks False Z.last lr:=RootAt.pageW h.bk.lp h.last
 refine⟨rfl,hf.mono fun b _ e=>by rw[e];exact h.hd.own,st,lm,km,lr,lr,_,ov,sn,⟨⟨z2g hb 0 rfl,h.hd.store.apart ho.r0 hap (hf.mono fun b _ e=>by rw[e];simp),h.hd.alive,h.hd.own⟩,h.cl.mono hf.size,hb,World.ownsRow_nil _ _ _ _,fun b e=>by simp[Value.ownBlock] at e,z0m h.orow hf (fun b e=>hne b (h.oo b e)),h.oo,h.live.fr hf (hne lm h.lmo),h.lmo,h.kept.fr hf (hne km h.kmo),h.kmo,h.lk,hlast,hlast,zdm h.sns h.bk.kp hf (Ag.refl _ _) (fun b _ e h9=>hne b h9 e) (fun b _ e h9=>ho.r0 (h.hd.own.symm.trans (by rw[←(show b=tp from e)];exact h9))),?_⟩⟩
 have hbk:=h.bk
 refine⟨hbk.st,hbk.hn,hbk.ln,hbk.hl,hbk.hb,fun id=>by have:=hbk.b2 id;show rcnt (.pg id) Z.last+0=_;rw[this];rfl,hbk.b2,fun b j=>?_,hbk.lp,?_,hbk.opn,hbk.ok,hbk.sl,hbk.sl,hbk.num,hbk.bl,hbk.bl,hbk.head,hbk.kp⟩
 · show rcnt (.cl b j) Z.last≤1
   have h1:=h.last
   have h2:=hbk.lp
   cases hz:Z.last with
   |none=>exact Nat.zero_le _
   | some p =>
     rw[hz] at h1 h2
     rw[show rcnt (.cl b j) (some p)=cnt p.1 (.cl b j) p.2 from rfl,ze1 h2 h1.1];omega
 · show rootDirty Z.last≤_
   have h2:=hbk.lp
   cases hz:Z.last with
   |none=>exact Nat.zero_le _
   | some p =>
     rw[hz] at h2
     rw[show rootDirty (some p)=dirtyN p.1 p.2 from rfl,zcb h2];omega
def pagesOf:Nat→T→List Nat
 |0,_=>[]
 |d+1,.node nm _ ks=>(match nm with|.page id=>[id]|.mem ..=>[])++(ks.map (pagesOf d)).flatten
theorem zf4 (x:Nat):∀(d:Nat) (t:T),(pagesOf d t).count x=cnt d (.pg x) t
 |0,_=>rfl
 | d + 1, .node nm l ks => by
   have key:∀ks:List T,((ks.map (pagesOf d)).flatten).count x=sumN (ks.map (cnt d (.pg x))):=by
    intro ks
    induction ks with
    |nil=>rfl
    |cons k ks ih=>simp only[List.map_cons,List.flatten_cons,List.count_append,sumN,ih,zf4 x d k]
   simp only[pagesOf,cnt,List.count_append,key]
   cases nm with
   | page id =>
     simp only[Nm.cnt,Th.pg.injEq]
     by_cases h:x=id
     · subst h;simp
     · simp[h,List.count_cons,Ne.symm h]
   |mem n g o=>simp[Nm.cnt]
theorem zf5:∀{d m:Nat} {t:T},1≤m→Shape d m t→(pagesOf d t).length≤(flat d t).length
 |0,_,_,_,_=>by simp[pagesOf]
 | d + 1, m, .node nm l ks, hm, h => by
   obtain⟨h1,h2,h3,h4⟩:=h
   have hn:(match nm with|.page id=>[id]|.mem ..=>([]:List Nat)).length≤1:=by cases nm<;>simp
   by_cases hd:d=0
   · subst hd
     rw[if_pos rfl] at h4
     subst h4
     show(_++[].flatten).length≤(if 0=0 then l else _).length
     rw[if_pos rfl]
     simp only[List.length_append,List.flatten_nil,List.length_nil]
     omega
   · rw[if_neg hd] at h4
     show(_++(ks.map (pagesOf d)).flatten).length≤(if d=0 then l else _).length
     rw[if_neg hd,zed (by simpa using h4.1),List.length_append]
     have key:∀ks:List T,(∀k∈ks,Shape d 2 k)→((ks.map (pagesOf d)).flatten).length≤sumN ((ks.map (flat d)).map List.length):=by
      intro ks
      induction ks with
      |nil=>intro _;simp[sumN]
      | cons k ks ih =>
        intro hk
        have:=ih (fun a ha=>hk a (List.mem_cons_of_mem _ ha))
        have h5:=zf5 (by omega) (hk k (by simp))
        simp only[List.map_cons,List.flatten_cons,List.length_append,sumN]
        omega
     have:=key ks h4.2
     omega
theorem zf6 (h:Books Z) (hn:Z.snaps=[]) (hb0:Z.back=[]) (hs:RootSh Z.last):Z.S.state.length≤(rootL Z.last).length:=by
 rw[h.st,z96]
 have hb:∀x∈Z.held,0<rcnt (.pg x) Z.last:=fun x hx=>by
  rcases(h.hl x).1 hx with h1|h1|h1
  · rw[h.b2 x,if_pos h1];omega
  · obtain⟨s,h2,_⟩:=h.kp.kw x h1
    rw[hn] at h2;simp at h2
  · rw[hb0] at h1;simp at h1
 cases hz:Z.last with
 | none =>
   rw[hz] at hb
   cases hh:Z.held with
   |nil=>simp
   |cons x l=>exact absurd (hb x (by rw[hh];simp)) (by simp[rcnt])
 | some p =>
   obtain⟨d,t⟩:=p
   rw[hz] at hb hs
   exact Nat.le_trans (z97 h.hn fun x hx=>List.count_pos_iff.1 (by rw[zf4];exact hb x hx)) (zf5 (Nat.le_refl _) hs)
theorem TreeAt.shl {r rn rm:Nat} {tp:Nat} {k:Nat} (h:TreeAt c r rn rm w tp Z k):RootSh Z.last:=by
 obtain⟨st,lm,km,nr,lr,gv,ov,sn,h⟩:=h
 exact h.last.sh
theorem zf7 {r rn rm:Nat} {tp k:Nat} (ho:Owners r rn rm) (h:TreeAt c r rn rm w tp Z k) (hk:k≤3):
 Calls Tryz.prog 29 #[.pointer (some ⟨tp,0,none⟩)] w fun e w'=>∃sp,e=.returned (.tuple #[.pointer (some ⟨sp,0,none⟩),.int .i64 0])∧Fr (fun b=>c b=r∨c b=rm) w w'∧∃pm c',Ag w.heap.size c c'∧TreeAt c' r rn rm w' tp (Z.snapped sp pm) (k+1):=by
 obtain⟨st,lm,km,nr,lr,gv,ov,sn,h⟩:=h
 refine(zey ho h hk).mono ?_
 rintro e w' ⟨sp,rfl,f,pm,ov',c',ag,h',hs,_⟩
 exact⟨sp,rfl,f,pm,c',ag,⟨st,lm,km,nr,lr,gv,ov',_,h'⟩⟩
theorem zf8 {r rn rm q n:Nat} {tp k:Nat} (hm:s∈Z.snaps) (hq0:q≠0) (hqr:q≠r) (hqn:q≠rn) (hqc:∀b,c b≠q) (hn:n≤9223372036854775807) (h:TreeAt c r rn rm w tp Z k) (hlo:BytesAt (Dt c) w lov lo) (hhi:BytesAt (Dt c) w hiv hi) (hl1:lo.length≤64) (hl2:hi.length≤64):
 Calls Tryz.prog 30 #[.pointer (some ⟨s.sp,0,none⟩),lov,hiv,.int .i64 (n:Int)] w fun e w2=>Fr C0 w w2∧∃v' c2,e=.returned (.tuple #[v',.int .i64 0])∧Ag w.heap.size c c2∧Cl w2 c2∧Out w.heap.size c2 q w2 v' ((rangeL lo hi (rootL s.root)).take n):=by
 obtain⟨st,lm,km,nr,lr,gv,ov,sn,h⟩:=h
 obtain⟨v,hv⟩:=All2.memL h.sns.2.1 hm
 have hk:=h.bk.kp.ok s hm
 refine(zam hq0 hqr hqn hqc hn h.hd h.cl hv.blk (h.sns.2.2 s hm) hk.so hlo hhi hl1 hl2 (by have:=hk.ln;omega)).mono ?_
 rintro e w2 ⟨f2,⟨hX,_⟩|h2⟩
 · exact hX.elim
 · exact⟨f2,h2⟩
theorem zf9 {r rn rm:Nat} {tp:Nat} (ho:Owners r rn rm) (h:TreeAt c r rn rm w tp Z 0):
 Calls Tryz.prog 29 #[.pointer (some ⟨tp,0,none⟩)] w fun e w'=>∃sp,e=.returned (.tuple #[.pointer (some ⟨sp,0,none⟩),.int .i64 0])∧Fr (fun b=>c b=r∨c b=rm) w w'∧∃pm c',Ag w.heap.size c c'∧TreeAt c' r rn rm w' tp (Z.snapped sp pm) 1∧
  ∀ (q n : Nat) (lov hiv : Value) (lo hi : Bs), q ≠ 0 → q ≠ r → q ≠ rn → (∀ b, c' b ≠ q) → n ≤ 9223372036854775807 → BytesAt (Dt c') w' lov lo → BytesAt (Dt c') w' hiv hi → lo.length ≤ 64 → hi.length ≤ 64 →
    Calls Tryz.prog 30 #[.pointer (some ⟨sp,0,none⟩),lov,hiv,.int .i64 (n:Int)] w' fun e w2=>Fr C0 w' w2∧∃v' c2,e=.returned (.tuple #[v',.int .i64 0])∧Ag w'.heap.size c' c2∧Cl w2 c2∧Out w'.heap.size c2 q w2 v' ((rangeL lo hi (rootL Z.last)).take n):=by
 refine(zf7 ho h (by omega)).mono ?_
 rintro e w' ⟨sp,rfl,f,pm,c',ag,h'⟩
 exact⟨sp,rfl,f,pm,c',ag,h',fun q n lov hiv lo hi a1 a2 a3 a4 a5 a6 a7 a8 a9=>zf8 (s:=⟨sp,pm,Z.last,Z.live⟩) (List.mem_append_right _ (by simp)) a1 a2 a3 a4 a5 h' a6 a7 a8 a9⟩
theorem TreeAt.nosnaps {r rn rm:Nat} {tp:Nat} (h:TreeAt c r rn rm w tp Z 0):Z.snaps=[]:=by
 obtain⟨st,lm,km,nr,lr,gv,ov,sn,h⟩:=h
 exact List.eq_nil_of_length_eq_zero h.sns.1
theorem zfa {r rn rm:Nat} {tp:Nat} (h:TreeAt c r rn rm w tp Z 0) (hb:Z.back=[]):Z.S.state.length≤(rootL Z.last).length:=zf6 h.bk h.nosnaps hb h.shl
theorem zfb {r rn rm:Nat} {tp k:Nat} (h:TreeAt c r rn rm w tp Z k) (hk:BytesAt (Dt c) w kv key) (hw:wrong key []=0):
 Calls Tryz.prog 13 #[.pointer (some ⟨tp,0,none⟩),kv] w fun e w'=>GetP w w' False e (getL key (rootL Z.now)):=by
 obtain⟨st,lm,km,nr,lr,gv,ov,sn,h⟩:=h
 exact zaj h.hd h.cl h.blk h.now h.bk.sn hk hw
theorem zfc {r rn rm q n:Nat} {tp k:Nat} (hq0:q≠0) (hqr:q≠r) (hqn:q≠rn) (hqc:∀b,c b≠q) (hn:n≤9223372036854775807) (h:TreeAt c r rn rm w tp Z k) (hlo:BytesAt (Dt c) w lov lo) (hhi:BytesAt (Dt c) w hiv hi) (hl1:lo.length≤64) (hl2:hi.length≤64):
 Calls Tryz.prog 21 #[.pointer (some ⟨tp,0,none⟩),lov,hiv,.int .i64 (n:Int)] w fun e w'=>Fr C0 w w'∧∃v' c',e=.returned (.tuple #[v',.int .i64 0])∧Ag w.heap.size c c'∧Cl w' c'∧Out w.heap.size c' q w' v' ((rangeL lo hi (rootL Z.now)).take n):=by
 obtain⟨st,lm,km,nr,lr,gv,ov,sn,h⟩:=h
 refine(zah hq0 hqr hqn hqc hn h.hd h.cl h.blk h.now h.bk.sn hlo hhi hl1 hl2 (by have:=h.bk.bn;omega)).mono ?_
 rintro e w' ⟨f,⟨hX,_⟩|h'⟩
 · exact hX.elim
 · exact⟨f,h'⟩
theorem zfd {r rn rm:Nat} {tp k:Nat} (h:TreeAt c r rn rm w tp Z k):Calls Tryz.prog 15 #[.pointer (some ⟨tp,0,none⟩)] w fun e w'=>e=.returned (.int .i64 ((rootL Z.now).length:Int))∧w=w':=by
 obtain⟨st,lm,km,nr,lr,gv,ov,sn,h⟩:=h
 exact zaf h.blk
theorem zfe {r rn rm:Nat} {tp k:Nat} (h:TreeAt c r rn rm w tp Z k):Calls Tryz.prog 20 #[.pointer (some ⟨tp,0,none⟩)] w fun e w'=>e=.returned (.int .i64 (Z.S.num:Int))∧w=w':=by
 obtain⟨st,lm,km,nr,lr,gv,ov,sn,h⟩:=h
 exact zag h.hd (by have:=h.bk.num;omega)
theorem zff {r rn rm:Nat} {tp n:Nat} (h:TreeAt c r rn rm w tp Z n) (hk:BytesAt F w kv k) (hv:BytesAt G w vv v) (hw:wrong k v≠0):
 Calls Tryz.prog 10 #[.pointer (some ⟨tp,0,none⟩),kv,vv] w fun e w'=>e=.returned (.int .i64 (wrong k v:Int))∧Fr C0 w w':=by
 obtain⟨st,lm,km,nr,lr,gv,ov,sn,h⟩:=h
 exact zan h.hd hk hv hw
theorem zfg (hc:Cl w c):∃r rn rm,Owners r rn rm∧∀b,c b≠r∧c b≠rn∧c b≠rm:=by
 have h:∀n,∃M,∀k,k<n→c k≤M:=by
  intro n
  induction n with
  |zero=>exact⟨0,fun k h=>absurd h (by omega)⟩
  | succ n ih =>
    obtain⟨M,h⟩:=ih
    refine⟨M+c n,fun k hk=>?_⟩
    by_cases e:k=n
    · subst e;omega
    · have:=h k (by omega);omega
 obtain⟨M,h⟩:=h w.heap.size
 have hb:∀b,c b≤M:=fun b=>by
  by_cases hk:b<w.heap.size
  · exact h b hk
  · have:=hc b (by omega);omega
 exact⟨M+1,M+2,M+3,⟨by omega,by omega,by omega,by omega,by omega,by omega⟩,fun b=>by have:=hb b;omega⟩
theorem zfh {r rn rm n:Nat} (ho:Owners r rn rm) (hc:Cl w c) (h1:3≤n) (h2:n≤4096):
 Calls Tryz.prog 8 #[.int .i64 (n:Int)] w fun e w'=>∃tp,e=.returned (.tuple #[.pointer (some ⟨w.heap.size+1,0,none⟩),.pointer (some ⟨tp,0,none⟩)])∧Fr C0 w w'∧∃c',Ag w.heap.size c c'∧TreeAt c' r rn rm w' tp (TSt.empty (newD n) 0 (w.heap.size+1)) 0:=by
 have HN:=zhd (z3d w n (by omega) h2)
 have HO:=zhd (fun (w_:World) (c_:Nat→Nat) (hd:DiskA (Dt c_) w_ (w.heap.size+1) w.heap.size (.slice none 0 0) (newD n)) (e1:c_ (w.heap.size+1)=r) (e2:c_ w.heap.size=r) (hc_:Cl w_ c_)=>zep (num:=0) ho hd e1 e2 (fun b hb=>by simp[Value.ownBlock] at hb) hc_ rfl h1 h2 (zeu n) rfl (zet n) (by omega) (zdj (zes n)))
 have HC:=zhd hc
 clear hc
 go_enter Tryz.func8,Tryz.ntmps8
 go_wp2_with fail
 refine HN.out.mono ?_
 rintro e w1 ⟨rfl,f1,hs1,hd1⟩
 obtain⟨c1,hc1,hc2,hag,hcl⟩:∃c1:Nat→Nat,c1 (w.heap.size+1)=r∧c1 w.heap.size=r∧Ag w.heap.size c c1∧Cl w1 c1:=by
  refine⟨fun b=>if b=w.heap.size∨b=w.heap.size+1 then r else c b,by simp,by simp,fun b hb=>?_,fun b hb=>?_⟩
  · simp only[];rw[if_neg (by omega)]
  · simp only[];rw[if_neg (by omega)];exact HC.out b (by omega)
 have HO1:=zhd (HO.out w1 c1 (hd1.mono fun b hb _=>hb.elim) hc1 hc2 hcl)
 have F1:=zhd f1
 have HS1:=zhd hs1
 clear HN HO f1 hs1 hd1
 go_wp2_with fail
 refine HO1.out.mono ?_
 rintro e w2 ⟨f2,tp,c2,rfl,ag2,hle,ht2⟩
 have F2:=zhd f2
 have T2:=zhd ht2
 clear f2 ht2 HO1
 go_wp2
 go_ret2
 exact⟨tp,rfl,F1.out.trans0 F2.out,c2,fun b hb=>(ag2 b (by have:=HS1.out;omega)).trans (hag b hb),T2.out⟩
end
end Go.Proofs.YtcmicdcikechkaaGreat
