import Derived.Test.YtcmicdcikechkaaGreatPlays19
import Derived.Test.YtcmicdcikechkaaGreatPlays14
set_option linter.all false
set_option autoImplicit true
set_option relaxedAutoImplicit true
namespace Go.Proofs.YtcmicdcikechkaaGreat
open Go.RowKit Go.H
set_option maxHeartbeats 2000000
set_option maxRecDepth 100000
section
theorem zan {r:Nat} {tp st:Nat} (h:Hd c r w tp st S D) (hk:BytesAt F w kv k) (hv:BytesAt G w vv v) (hw:wrong k v≠0):
 Calls Tryz.prog 10 #[.pointer (some ⟨tp,0,none⟩),kv,vv] w fun e w'=>e=.returned (.int .i64 (wrong k v:Int))∧Fr C0 w w':=by
 have HM:=zhd (fun (w_:World) (hf:Fr C0 w w_)=>za7 (h.fr0 hf) (hk.fr0 hf) (hv.fr0 hf))
 obtain⟨A,cc,rfl,-⟩:=hk.form
 obtain⟨A',cc',rfl,-⟩:=hv.form
 have hne:((wrong k v:Int) != 0)=true:=by simp[bne,z2z];omega
 have F0:=zhd ((Fr.refl C0 w).alloc (.cells #[.int .i64 0] 28))
 have hb:=heap_alloc_new w (.cells #[.int .i64 0] 28)
 have e0:=z2g hb 0 rfl
 have ze:=z2e 0 hb
 generalize wrong k v=x at *
 clear h hk hv hb
 go_enter_defers Tryz.func10,Tryz.ntmps10
 go_wp2_with fail
 refine(HM.out _ F0.out).mono ?_
 rintro e w1 ⟨rfl,rfl⟩
 go_wp2_with fail
 simp[bodyPostD,Leaves,settle,results,Tryz.results10,go_sem,e0]
 exact((Fr.refl C0 w).alloc _).drew
end
end Go.Proofs.YtcmicdcikechkaaGreat
namespace Go.H
section
theorem zao (hs:Sorted l):
 if (findL x.1 l).2 then(findL x.1 l).1<l.length∧putL x l=l.set (findL x.1 l).1 x∧getL x.1 l≠none
 else(findL x.1 l).1≤l.length∧putL x l=l.take (findL x.1 l).1++x::l.drop (findL x.1 l).1∧getL x.1 l=none:=by
 obtain⟨A,B,rfl,h1,h2,⟨e,y,R,rfl,hy,hR⟩|⟨e,hB⟩⟩:=z8a x.1 hs
 · rw[e,if_pos rfl,h1]
   refine⟨by simp,?_,?_⟩
   · rw[z6g h2,z6o hy,List.set_append_right _ _ (Nat.le_refl _)];simp
   · rw[z6l h2,z6q hy];simp
 · rw[e]
   simp only[Bool.false_eq_true,if_false,h1]
   refine⟨by simp,?_,?_⟩
   · rw[z6g h2,z6r hB];simp
   · rw[z6l h2,z6m hB]
theorem zap (h:fs.length=l.length+1) (hs:Sorted (inter l fs)):
 if (findL x.1 l).2 then(findL x.1 l).1<l.length∧putL x (inter l fs)=inter (l.set (findL x.1 l).1 x) fs∧getL x.1 (inter l fs)≠none
 else ∃h:(findL x.1 l).1<fs.length,Sorted fs[(findL x.1 l).1]∧getL x.1 (inter l fs)=getL x.1 fs[(findL x.1 l).1]∧
  (∀f',f'=putL x fs[(findL x.1 l).1]→inter l (fs.set (findL x.1 l).1 f')=putL x (inter l fs))∧
  (∀a mid b,a++mid::b=putL x fs[(findL x.1 l).1]→inter (l.take (findL x.1 l).1++mid::l.drop (findL x.1 l).1) ((fs.set (findL x.1 l).1 a).take ((findL x.1 l).1+1)++b::(fs.set (findL x.1 l).1 a).drop ((findL x.1 l).1+1))=putL x (inter l fs)):=by
 obtain⟨A,B,f1,f,f2,rfl,rfl,hf1,hf2,h1,he,h2,⟨e,y,R,f',f2',rfl,rfl,hy,hL,hR⟩|⟨e,hA,hB⟩⟩:=z89 x.1 h hs
 · rw[e,if_pos rfl,h1]
   refine⟨by simp,?_,?_⟩
   · rw[he,show interT (y::R) (f'::f2')=y::(f'++interT R f2') from rfl,←List.append_assoc,z6g hL,z6o hy,List.set_append_right _ _ (Nat.le_refl _),Nat.sub_self,List.set_cons_zero,z6u _ _ _ hf1]
     simp[interT]
   · rw[he,show interT (y::R) (f'::f2')=y::(f'++interT R f2') from rfl,←List.append_assoc,z6l hL,z6q hy];simp
 · rw[e]
   simp only[Bool.false_eq_true,if_false,h1]
   have hget:(f1++f::f2)[A.length]?=some f:=by rw[←hf1];simp
   have hlt:A.length<(f1++f::f2).length:=by simp;omega
   have hge:(f1++f::f2)[A.length]=f:=by
    have:=List.getElem?_eq_getElem hlt
    rw[hget] at this;injection this with this;exact this.symm
   refine⟨hlt,?_⟩
   rw[hge]
   refine⟨?_,?_,?_,?_⟩
   · rw[he] at hs
     exact(List.pairwise_append.1 (List.pairwise_append.1 hs).2.1).1
   · rw[he,z6l hA,z6n hB]
   · rintro f' rfl
     rw[he,z6g hA,z6h hB,←hf1,List.set_append_right _ _ (Nat.le_refl _),Nat.sub_self,List.set_cons_zero,z6u _ _ _ hf1]
   · intro a mid b hab
     rw[he,z6g hA,z6h hB,←hab,←hf1,List.set_append_right _ _ (Nat.le_refl _),Nat.sub_self,List.set_cons_zero]
     have e1:(f1++a::f2).take (f1.length+1)=f1++[a]:=by
      rw[List.take_append,List.take_of_length_le (by omega)];simp
     have e2:(f1++a::f2).drop (f1.length+1)=f2:=by
      rw[List.drop_append,List.drop_of_length_le (by omega)];simp
     have e3:(A++B).take f1.length=A:=by rw[hf1];simp
     have e4:(A++B).drop f1.length=B:=by rw[hf1];simp
     rw[e1,e2,e3,e4]
     have:=z6u (mid::B) a (b::f2) (l1:=A) (f1:=f1) hf1
     rw[show f1++[a]++b::f2=f1++a::b::f2 by simp,this]
     simp[interT]
theorem zaq (h:l.length=5) (hf:fs.length=6):inter (l.take 2) (fs.take 3)++(l[2]'(by omega))::inter (l.drop 3) (fs.drop 3)=inter l fs:=by
 rw[←z6v (l[2]'(by omega)) (l.drop 3) (fs.drop 3) (l1:=l.take 2) (f1:=fs.take 3) (by simp;omega) (by intro e;have:=congrArg List.length e;simp at this;omega)]
 rw[←List.drop_eq_getElem_cons,List.take_append_drop,List.take_append_drop]
theorem zar {l:List KV} (h:l.length=5):l.take 2++(l[2]'(by omega))::l.drop 3=l:=by
 rw[←List.drop_eq_getElem_cons,List.take_append_drop]
theorem zas:∀{l:List Nat} {i a:Nat} (h:i<l.length),sumN (l.set i a)+l[i]=sumN l+a
 |x::l,0,a,_=>by simp[sumN];omega
 | x :: l, i + 1, a, h => by
   have:=zas (l:=l) (i:=i) (a:=a) (by simpa using h)
   simp only[List.set_cons_succ,sumN,List.getElem_cons_succ] at this⊢;omega
theorem zat (l:List Nat) (i b:Nat):sumN (l.take i++b::l.drop i)=sumN l+b:=by
 have:=z72 (l.take i) (l.drop i)
 rw[List.take_append_drop] at this
 rw[z72]
 simp only[sumN];omega
theorem zau (l:List Nat) (i:Nat):sumN (l.take i)+sumN (l.drop i)=sumN l:=by
 rw[←z72,List.take_append_drop]
end
end Go.H
