/- Lemmas of the proof, with their conditions. -/
import Derived.Test.YtkonbpfbjiepfaaGreatT22
import Derived.Test.YtkonbpfbjiepfaaGreatT19
import Derived.Test.YtkonbpfbjiepfaaGreatT27
namespace Go.Proofs.YtkonbpfbjiepfaaGreat
set_option linter.unusedSimpArgs false
set_option linter.unusedVariables false
set_option maxHeartbeats 2000000
set_option maxRecDepth 20000
section
open Go.RowKit Go.Shelf
structure PPart where
 a:Nat
 v:Value
 bs:List UInt8
def ptc (q:PPart):List Value:=[.int .i64 q.a,q.v]
theorem VX (q:PPart):(ptc q).length=2:=rfl
theorem KAL (w:World) (g B:Nat) (hg:GeomAt w g B) (over:Bool) :
 Calls Tryz.prog 177 #[.pointer (some ⟨g,0,none⟩),.bool over] w fun e w'=>∃ (v:Value) (ps:List PPart),e=.returned v∧w'.ownsRow w.heap.size 266 2 v ps.length (ps.flatMap ptc)∧ps.length=pgs B ∧
  (∀ q∈ps,q.bs.length=64∧q.a<6+4*pgs B∧w'.ownsRow w.heap.size 5 1 q.v 64 (bys q.bs))∧Keep [] w w':=by
 have hpb:=YC hg.pos hg.few;have hPg:=PagesG_is w g B hg;have hC:=fun W (hk:Keep [] w W)=>ConfigG_is W g B (hg.keep0 hk);have hPa:=fun(k:Nat) (hk:k<pgs B) W (hK:Keep [] w W)=>Qi W g B (hg.keep0 hK) over k 0 (by omega) hk;have hfd:=fun W=>VE (P:=Tryz.prog) Tryz.underlying27 0 rfl Tryz.isAgg3 #[.int .i64 B,.int .i64 8,.int .i64 24] rfl W;have hB64:=hg.few;have hpB:pgs B=(B+14) / 15:=rfl;have HPB:=XC hpB;clear hpB;generalize pgs B=P at *;cases over
 · simp only[Bool.false_eq_true,if_false,if_true] at hPa
   go_enter Tryz.func177,Tryz.ntmps177
   go_wp2_with (go_at_call 134;refine hPg.mono ?_;clear hPg;rintro e w1 ⟨rfl,hk1⟩)
   go_loopw [4,6,7,8,9,13] (fun v _ _ _ _ i wr=>∃ (k:Nat) (ps:List PPart),k≤P∧i=.int .i64 (k:Nat)∧wr.ownsRow w.heap.size 266 2 v k (ps.flatMap ptc)∧Hid (ps.length=k) ∧
    (∀ q∈ps,q.bs.length=64∧q.a<6+4*P∧wr.ownsRow w.heap.size 5 1 q.v 64 (bys q.bs))∧Keep [] w wr) (fun _ _ _ _ _ i _=>P-(intOf i).toNat)
   case atStart=>exact⟨0,[],Nat.zero_le _,rfl,World.ownsRow_nil _ _ _ _,rfl,by simp,hk1⟩
   case round=>
    clear hk1;obtain⟨k,ps,hk,rfl,hv,hpl,hps,hkr⟩:=hrel
    by_cases hlt:k<P
    · have hltI:((k:Nat):Int)<(P:Nat):=by omega
      have hkB:15*k<B:=by have:=JA HPB;omega
      obtain⟨n,hmin,hn0,hn15⟩:∃ n:Nat,min ((B:Int)-((k:Nat):Int)*15) 15=(n:Nat)∧0<n∧n≤15:=⟨min (B-k*15) 15,by omega,by omega,by omega⟩;obtain⟨VA,vc,rfl,_⟩:=JB hv
      go_wp2_with (go_at_call 126;refine(hC _ hkr).mono ?_;rintro e w2 ⟨rfl,hk2⟩)
      clear hmin;have hkA:Keep [] w2 (w2.alloc (.cells #[Value.int .i64 0] 3)):=(Keep.refl _ _).alloc _;have hRp:=JS (some ⟨w2.heap.size,0,none⟩) 1 (0) n hn0 (by omega) _ (JQ w2 (Value.int .i64 0) 3)
      go_wp2_with (first
       | (go_at_call 268
          refine hRp.mono ?_;clear hRp;rintro e w3 ⟨RV,rfl,hRV,hk3⟩;obtain⟨RA,rc,rfl,_⟩:=JB hRV;replace hk3:=(hk2.trans0 hkA).trans0 hk3
          have hPE:=Xt RA n rc (List.replicate n (0)) w3 (by rw[show VI (List.replicate n (0))=List.replicate n (Value.int .i64 (0)) by simp[VI,i64]];exact Rd.of_own hRV) (fun z hz=>by rw[List.eq_of_mem_replicate hz];omega) hn15)
       | (go_at_call 267
          refine hPE.mono ?_;clear hPE;rintro e w4 ⟨u,bs,rfl,hbl,hu,hk4⟩;obtain⟨UA,uc,rfl,_⟩:=JB hu;have hk45:=hk4
          replace hk4:=hk3.trans0 hk4)
       | (go_at_call 269
          refine(hPa k hlt _ (hkr.trans0 hk4)).mono ?_;rintro e w5 ⟨rfl,hk5⟩;replace hk45:=hk5
          replace hk5:=hk4.trans0 hk5)
       | (at_builtin
          have hrd:=Rd.of_blk (n:=2) (Blk.new w5 266 #[Value.int .i64 ((6+2*(k+0)+0:Nat)),.slice UA 64 uc]) (by simp);refine elemPart.wp_app rfl (.tmp 31) (.tmp 38) rfl w.heap.size (.slice VA k vc) k (ps.flatMap ptc) rfl (VC (QB hv hk5) _) _ 1 1 _ rfl hrd (by simp[Value.oneCell']) (by omega) (by omega) (Nat.le_trans hkr.size (Nat.le_trans hk5.size (by simp))) ?_;rintro v' w7 hv7 hk7 _ _))
      have hkA5:Keep [] w5 (w5.alloc (.cells #[Value.int .i64 ((6+2*(k+0)+0:Nat)),.slice UA 64 uc] 266)):=(Keep.refl _ _).alloc _;have hvF:∀ x∈(Value.slice VA k vc).ownBlock.toList,w.heap.size≤x:=fun x hx=>(own_mem hv hx).1
      have hdat:∀ {q:Value} {n:Nat} {ys:List Value},w5.ownsRow w.heap.size 5 1 q n ys→w7.ownsRow w.heap.size 5 1 q n ys:=fun hq=>
       XB (QB hq hkA5) hk7 (fun x hx hm=>own_ne (QB hq hkA5) (QB hv (hk5.trans0 hkA5)) (by decide) hx (by simpa using hm))
      go_roundw
      case rel=>
       refine⟨k+1,ps++[⟨6+2*(k+0)+0,Value.slice UA 64 uc,bs⟩],by omega,by go_num,?_,by show _=_;rw[List.length_append,JA hpl];rfl,fun q hq=>?_,(hkr.trans0 (hk5.trans0 hkA5)).trans hk7 (fun x hx=>.inr (hvF x hx))⟩
       · rw[List.flatMap_append]
         exact hv7
       · rcases List.mem_append.1 hq with hq | hq
         · obtain⟨q1,q2,q3⟩:=hps q hq
           exact⟨q1,q2,hdat (QB q3 hk5)⟩
         · simp only[List.mem_singleton] at hq
           subst hq;exact⟨hbl,by simp only;omega,hdat (QB (KB hu (Nat.le_trans hkr.size hk3.size)) hk45)⟩
      case measure=>simp[intOf];omega
    · obtain rfl:k=P:=by omega
      obtain⟨VA,vc,rfl,_⟩:=JB hv
      go_wp2_with fail
      go_ret;have e:=JA hpl;exact⟨_,ps,rfl,by rw[e];exact hv,e,hps,hkr⟩
 · simp only[Bool.false_eq_true,if_false,if_true] at hPa
   go_enter Tryz.func177,Tryz.ntmps177
   go_wp2_with (go_at_call 134;refine hPg.mono ?_;clear hPg;rintro e w1 ⟨rfl,hk1⟩)
   go_loopw [4,6,7,8,9,13] (fun v _ _ _ _ i wr=>∃ (k:Nat) (ps:List PPart),k≤P∧i=.int .i64 (k:Nat)∧wr.ownsRow w.heap.size 266 2 v k (ps.flatMap ptc)∧Hid (ps.length=k) ∧
    (∀ q∈ps,q.bs.length=64∧q.a<6+4*P∧wr.ownsRow w.heap.size 5 1 q.v 64 (bys q.bs))∧Keep [] w wr) (fun _ _ _ _ _ i _=>P-(intOf i).toNat)
   case atStart=>exact⟨0,[],Nat.zero_le _,rfl,World.ownsRow_nil _ _ _ _,rfl,by simp,hk1⟩
   case round=>
    clear hk1;obtain⟨k,ps,hk,rfl,hv,hpl,hps,hkr⟩:=hrel
    by_cases hlt:k<P
    · have hltI:((k:Nat):Int)<(P:Nat):=by omega
      have hkB:15*k<B:=by have:=JA HPB;omega
      obtain⟨n,hmin,hn0,hn15⟩:∃ n:Nat,min ((B:Int)-((k:Nat):Int)*15) 15=(n:Nat)∧0<n∧n≤15:=⟨min (B-k*15) 15,by omega,by omega,by omega⟩;obtain⟨VA,vc,rfl,_⟩:=JB hv
      go_wp2_with (go_at_call 126;refine(hC _ hkr).mono ?_;rintro e w2 ⟨rfl,hk2⟩)
      clear hmin;have hkA:Keep [] w2 (w2.alloc (.cells #[Value.int .i64 (-1)] 3)):=(Keep.refl _ _).alloc _;have hRp:=JS (some ⟨w2.heap.size,0,none⟩) 1 (-1) n hn0 (by omega) _ (JQ w2 (Value.int .i64 (-1)) 3)
      go_wp2_with (first
       | (go_at_call 268
          refine hRp.mono ?_;clear hRp;rintro e w3 ⟨RV,rfl,hRV,hk3⟩;obtain⟨RA,rc,rfl,_⟩:=JB hRV;replace hk3:=(hk2.trans0 hkA).trans0 hk3
          have hPE:=Xt RA n rc (List.replicate n (-1)) w3 (by rw[show VI (List.replicate n (-1))=List.replicate n (Value.int .i64 (-1)) by simp[VI,i64]];exact Rd.of_own hRV) (fun z hz=>by rw[List.eq_of_mem_replicate hz];omega) hn15)
       | (go_at_call 267
          refine hPE.mono ?_;clear hPE;rintro e w4 ⟨u,bs,rfl,hbl,hu,hk4⟩;obtain⟨UA,uc,rfl,_⟩:=JB hu;have hk45:=hk4
          replace hk4:=hk3.trans0 hk4)
       | (go_at_call 269
          refine(hPa k hlt _ (hkr.trans0 hk4)).mono ?_;rintro e w5 ⟨rfl,hk5⟩;replace hk45:=hk5
          replace hk5:=hk4.trans0 hk5)
       | (at_builtin
          have hrd:=Rd.of_blk (n:=2) (Blk.new w5 266 #[Value.int .i64 ((6+2*(k+P)+0:Nat)),.slice UA 64 uc]) (by simp);refine elemPart.wp_app rfl (.tmp 31) (.tmp 38) rfl w.heap.size (.slice VA k vc) k (ps.flatMap ptc) rfl (VC (QB hv hk5) _) _ 1 1 _ rfl hrd (by simp[Value.oneCell']) (by omega) (by omega) (Nat.le_trans hkr.size (Nat.le_trans hk5.size (by simp))) ?_;rintro v' w7 hv7 hk7 _ _))
      have hkA5:Keep [] w5 (w5.alloc (.cells #[Value.int .i64 ((6+2*(k+P)+0:Nat)),.slice UA 64 uc] 266)):=(Keep.refl _ _).alloc _;have hvF:∀ x∈(Value.slice VA k vc).ownBlock.toList,w.heap.size≤x:=fun x hx=>(own_mem hv hx).1
      have hdat:∀ {q:Value} {n:Nat} {ys:List Value},w5.ownsRow w.heap.size 5 1 q n ys→w7.ownsRow w.heap.size 5 1 q n ys:=fun hq=>
       XB (QB hq hkA5) hk7 (fun x hx hm=>own_ne (QB hq hkA5) (QB hv (hk5.trans0 hkA5)) (by decide) hx (by simpa using hm))
      go_roundw
      case rel=>
       refine⟨k+1,ps++[⟨6+2*(k+P)+0,Value.slice UA 64 uc,bs⟩],by omega,by go_num,?_,by show _=_;rw[List.length_append,JA hpl];rfl,fun q hq=>?_,(hkr.trans0 (hk5.trans0 hkA5)).trans hk7 (fun x hx=>.inr (hvF x hx))⟩
       · rw[List.flatMap_append]
         exact hv7
       · rcases List.mem_append.1 hq with hq | hq
         · obtain⟨q1,q2,q3⟩:=hps q hq
           exact⟨q1,q2,hdat (QB q3 hk5)⟩
         · simp only[List.mem_singleton] at hq
           subst hq;exact⟨hbl,by simp only;omega,hdat (QB (KB hu (Nat.le_trans hkr.size hk3.size)) hk45)⟩
      case measure=>simp[intOf];omega
    · obtain rfl:k=P:=by omega
      obtain⟨VA,vc,rfl,_⟩:=JB hv
      go_wp2_with fail
      go_ret;have e:=JA hpl;exact⟨_,ps,rfl,by rw[e];exact hv,e,hps,hkr⟩
end
section
open Go.RowKit Go.Shelf
def JAy (q:PPart):Nat×List UInt8:=(q.a,q.bs)
def ZY (off:Nat) (x:Int) (B k:Nat):List (Nat×List UInt8):=(List.range k).map fun k=>(6+2*(k+off)+0,QQ (List.replicate (min (B-15*k) 15) x))
theorem Jk (off:Nat) (x:Int) (B k:Nat):ZY off x B (k+1)=ZY off x B k++[(6+2*(k+off)+0,QQ (List.replicate (min (B-15*k) 15) x))]:=by simp[ZY,List.range_succ]
theorem JAL (w:World) (g B:Nat) (hg:GeomAt w g B) (over:Bool) :
 Calls Tryz.prog 177 #[.pointer (some ⟨g,0,none⟩),.bool over] w fun e w'=>∃ (v:Value) (ps:List PPart),e=.returned v∧w'.ownsRow w.heap.size 266 2 v ps.length (ps.flatMap ptc)∧ps.length=pgs B ∧
  (∀ q∈ps,q.bs.length=64∧q.a<6+4*pgs B∧w'.ownsRow w.heap.size 5 1 q.v 64 (bys q.bs))∧ps.map JAy=(bif over then ZY (pgs B) (-1) B (pgs B) else ZY 0 0 B (pgs B))∧Keep [] w w':=by
 have hpb:=YC hg.pos hg.few;have hPg:=PagesG_is w g B hg;have hC:=fun W (hk:Keep [] w W)=>ConfigG_is W g B (hg.keep0 hk);have hPa:=fun(k:Nat) (hk:k<pgs B) W (hK:Keep [] w W)=>Qi W g B (hg.keep0 hK) over k 0 (by omega) hk;have hfd:=fun W=>VE (P:=Tryz.prog) Tryz.underlying27 0 rfl Tryz.isAgg3 #[.int .i64 B,.int .i64 8,.int .i64 24] rfl W;have hB64:=hg.few;have hpB:pgs B=(B+14) / 15:=rfl;have HPB:=XC hpB;clear hpB;generalize pgs B=P at *;cases over
 · simp only[Bool.false_eq_true,if_false,if_true] at hPa
   go_enter Tryz.func177,Tryz.ntmps177
   go_wp2_with (go_at_call 134;refine hPg.mono ?_;clear hPg;rintro e w1 ⟨rfl,hk1⟩)
   go_loopw [4,6,7,8,9,13] (fun v _ _ _ _ i wr=>∃ (k:Nat) (ps:List PPart),k≤P∧i=.int .i64 (k:Nat)∧wr.ownsRow w.heap.size 266 2 v k (ps.flatMap ptc)∧Hid (ps.length=k) ∧
    (∀ q∈ps,q.bs.length=64∧q.a<6+4*P∧wr.ownsRow w.heap.size 5 1 q.v 64 (bys q.bs))∧Hid (ps.map JAy=ZY 0 0 B k)∧Keep [] w wr) (fun _ _ _ _ _ i _=>P-(intOf i).toNat)
   case atStart=>exact⟨0,[],Nat.zero_le _,rfl,World.ownsRow_nil _ _ _ _,rfl,by simp,rfl,hk1⟩
   case round=>
    clear hk1;obtain⟨k,ps,hk,rfl,hv,hpl,hps,hmp,hkr⟩:=hrel
    by_cases hlt:k<P
    · have hltI:((k:Nat):Int)<(P:Nat):=by omega
      have hkB:15*k<B:=by have:=JA HPB;omega
      obtain⟨n,hmin,hn0,hn15,HNV⟩:∃ n:Nat,min ((B:Int)-((k:Nat):Int)*15) 15=(n:Nat)∧0<n∧n≤15∧Hid (n=min (B-15*k) 15):=⟨min (B-k*15) 15,by omega,by omega,by omega,XC (by omega)⟩;obtain⟨VA,vc,rfl,_⟩:=JB hv
      go_wp2_with (go_at_call 126;refine(hC _ hkr).mono ?_;rintro e w2 ⟨rfl,hk2⟩)
      clear hmin;have hkA:Keep [] w2 (w2.alloc (.cells #[Value.int .i64 0] 3)):=(Keep.refl _ _).alloc _;have hRp:=JS (some ⟨w2.heap.size,0,none⟩) 1 (0) n hn0 (by omega) _ (JQ w2 (Value.int .i64 0) 3)
      go_wp2_with (first
       | (go_at_call 268
          refine hRp.mono ?_;clear hRp;rintro e w3 ⟨RV,rfl,hRV,hk3⟩;obtain⟨RA,rc,rfl,_⟩:=JB hRV;replace hk3:=(hk2.trans0 hkA).trans0 hk3
          have hPE:=Jt RA n rc (List.replicate n (0)) w3 (by rw[show VI (List.replicate n (0))=List.replicate n (Value.int .i64 (0)) by simp[VI,i64]];exact Rd.of_own hRV) (fun z hz=>by rw[List.eq_of_mem_replicate hz];omega) hn15)
       | (go_at_call 267
          refine hPE.mono ?_;clear hPE;rintro e w4 ⟨u,rfl,hu,hk4⟩;have hbl:(QQ (List.replicate n (0))).length=64:=XR (by simp;omega);obtain⟨bs,hbs⟩:∃ bs,bs=QQ (List.replicate n (0)):=⟨_,rfl⟩;rw[← hbs] at hu hbl;have HBS:=XC hbs;clear hbs;obtain⟨UA,uc,rfl,_⟩:=JB hu;have hk45:=hk4
          replace hk4:=hk3.trans0 hk4)
       | (go_at_call 269
          refine(hPa k hlt _ (hkr.trans0 hk4)).mono ?_;rintro e w5 ⟨rfl,hk5⟩;replace hk45:=hk5
          replace hk5:=hk4.trans0 hk5)
       | (at_builtin
          have hrd:=Rd.of_blk (n:=2) (Blk.new w5 266 #[Value.int .i64 ((6+2*(k+0)+0:Nat)),.slice UA 64 uc]) (by simp);refine elemPart.wp_app rfl (.tmp 31) (.tmp 38) rfl w.heap.size (.slice VA k vc) k (ps.flatMap ptc) rfl (VC (QB hv hk5) _) _ 1 1 _ rfl hrd (by simp[Value.oneCell']) (by omega) (by omega) (Nat.le_trans hkr.size (Nat.le_trans hk5.size (by simp))) ?_;rintro v' w7 hv7 hk7 _ _))
      have hkA5:Keep [] w5 (w5.alloc (.cells #[Value.int .i64 ((6+2*(k+0)+0:Nat)),.slice UA 64 uc] 266)):=(Keep.refl _ _).alloc _;have hvF:∀ x∈(Value.slice VA k vc).ownBlock.toList,w.heap.size≤x:=fun x hx=>(own_mem hv hx).1
      have hdat:∀ {q:Value} {n:Nat} {ys:List Value},w5.ownsRow w.heap.size 5 1 q n ys→w7.ownsRow w.heap.size 5 1 q n ys:=fun hq=>
       XB (QB hq hkA5) hk7 (fun x hx hm=>own_ne (QB hq hkA5) (QB hv (hk5.trans0 hkA5)) (by decide) hx (by simpa using hm))
      go_roundw
      case rel=>
       refine⟨k+1,ps++[⟨6+2*(k+0)+0,Value.slice UA 64 uc,bs⟩],by omega,by go_num,?_,by show _=_;rw[List.length_append,JA hpl];rfl,fun q hq=>?_,XC (by rw[List.map_append,JA hmp,Jk,← JA HNV,← JA HBS];rfl),(hkr.trans0 (hk5.trans0 hkA5)).trans hk7 (fun x hx=>.inr (hvF x hx))⟩
       · rw[List.flatMap_append]
         exact hv7
       · rcases List.mem_append.1 hq with hq | hq
         · obtain⟨q1,q2,q3⟩:=hps q hq
           exact⟨q1,q2,hdat (QB q3 hk5)⟩
         · simp only[List.mem_singleton] at hq
           subst hq;exact⟨hbl,by simp only;omega,hdat (QB (KB hu (Nat.le_trans hkr.size hk3.size)) hk45)⟩
      case measure=>simp[intOf];omega
    · obtain rfl:k=P:=by omega
      obtain⟨VA,vc,rfl,_⟩:=JB hv
      go_wp2_with fail
      go_ret;have e:=JA hpl;exact⟨_,ps,rfl,by rw[e];exact hv,e,hps,JA hmp,hkr⟩
 · simp only[Bool.false_eq_true,if_false,if_true] at hPa
   go_enter Tryz.func177,Tryz.ntmps177
   go_wp2_with (go_at_call 134;refine hPg.mono ?_;clear hPg;rintro e w1 ⟨rfl,hk1⟩)
   go_loopw [4,6,7,8,9,13] (fun v _ _ _ _ i wr=>∃ (k:Nat) (ps:List PPart),k≤P∧i=.int .i64 (k:Nat)∧wr.ownsRow w.heap.size 266 2 v k (ps.flatMap ptc)∧Hid (ps.length=k) ∧
    (∀ q∈ps,q.bs.length=64∧q.a<6+4*P∧wr.ownsRow w.heap.size 5 1 q.v 64 (bys q.bs))∧Hid (ps.map JAy=ZY P (-1) B k)∧Keep [] w wr) (fun _ _ _ _ _ i _=>P-(intOf i).toNat)
   case atStart=>exact⟨0,[],Nat.zero_le _,rfl,World.ownsRow_nil _ _ _ _,rfl,by simp,rfl,hk1⟩
   case round=>
    clear hk1;obtain⟨k,ps,hk,rfl,hv,hpl,hps,hmp,hkr⟩:=hrel
    by_cases hlt:k<P
    · have hltI:((k:Nat):Int)<(P:Nat):=by omega
      have hkB:15*k<B:=by have:=JA HPB;omega
      obtain⟨n,hmin,hn0,hn15,HNV⟩:∃ n:Nat,min ((B:Int)-((k:Nat):Int)*15) 15=(n:Nat)∧0<n∧n≤15∧Hid (n=min (B-15*k) 15):=⟨min (B-k*15) 15,by omega,by omega,by omega,XC (by omega)⟩;obtain⟨VA,vc,rfl,_⟩:=JB hv
      go_wp2_with (go_at_call 126;refine(hC _ hkr).mono ?_;rintro e w2 ⟨rfl,hk2⟩)
      clear hmin;have hkA:Keep [] w2 (w2.alloc (.cells #[Value.int .i64 (-1)] 3)):=(Keep.refl _ _).alloc _;have hRp:=JS (some ⟨w2.heap.size,0,none⟩) 1 (-1) n hn0 (by omega) _ (JQ w2 (Value.int .i64 (-1)) 3)
      go_wp2_with (first
       | (go_at_call 268
          refine hRp.mono ?_;clear hRp;rintro e w3 ⟨RV,rfl,hRV,hk3⟩;obtain⟨RA,rc,rfl,_⟩:=JB hRV;replace hk3:=(hk2.trans0 hkA).trans0 hk3
          have hPE:=Jt RA n rc (List.replicate n (-1)) w3 (by rw[show VI (List.replicate n (-1))=List.replicate n (Value.int .i64 (-1)) by simp[VI,i64]];exact Rd.of_own hRV) (fun z hz=>by rw[List.eq_of_mem_replicate hz];omega) hn15)
       | (go_at_call 267
          refine hPE.mono ?_;clear hPE;rintro e w4 ⟨u,rfl,hu,hk4⟩;have hbl:(QQ (List.replicate n (-1))).length=64:=XR (by simp;omega);obtain⟨bs,hbs⟩:∃ bs,bs=QQ (List.replicate n (-1)):=⟨_,rfl⟩;rw[← hbs] at hu hbl;have HBS:=XC hbs;clear hbs;obtain⟨UA,uc,rfl,_⟩:=JB hu;have hk45:=hk4
          replace hk4:=hk3.trans0 hk4)
       | (go_at_call 269
          refine(hPa k hlt _ (hkr.trans0 hk4)).mono ?_;rintro e w5 ⟨rfl,hk5⟩;replace hk45:=hk5
          replace hk5:=hk4.trans0 hk5)
       | (at_builtin
          have hrd:=Rd.of_blk (n:=2) (Blk.new w5 266 #[Value.int .i64 ((6+2*(k+P)+0:Nat)),.slice UA 64 uc]) (by simp);refine elemPart.wp_app rfl (.tmp 31) (.tmp 38) rfl w.heap.size (.slice VA k vc) k (ps.flatMap ptc) rfl (VC (QB hv hk5) _) _ 1 1 _ rfl hrd (by simp[Value.oneCell']) (by omega) (by omega) (Nat.le_trans hkr.size (Nat.le_trans hk5.size (by simp))) ?_;rintro v' w7 hv7 hk7 _ _))
      have hkA5:Keep [] w5 (w5.alloc (.cells #[Value.int .i64 ((6+2*(k+P)+0:Nat)),.slice UA 64 uc] 266)):=(Keep.refl _ _).alloc _;have hvF:∀ x∈(Value.slice VA k vc).ownBlock.toList,w.heap.size≤x:=fun x hx=>(own_mem hv hx).1
      have hdat:∀ {q:Value} {n:Nat} {ys:List Value},w5.ownsRow w.heap.size 5 1 q n ys→w7.ownsRow w.heap.size 5 1 q n ys:=fun hq=>
       XB (QB hq hkA5) hk7 (fun x hx hm=>own_ne (QB hq hkA5) (QB hv (hk5.trans0 hkA5)) (by decide) hx (by simpa using hm))
      go_roundw
      case rel=>
       refine⟨k+1,ps++[⟨6+2*(k+P)+0,Value.slice UA 64 uc,bs⟩],by omega,by go_num,?_,by show _=_;rw[List.length_append,JA hpl];rfl,fun q hq=>?_,XC (by rw[List.map_append,JA hmp,Jk,← JA HNV,← JA HBS];rfl),(hkr.trans0 (hk5.trans0 hkA5)).trans hk7 (fun x hx=>.inr (hvF x hx))⟩
       · rw[List.flatMap_append]
         exact hv7
       · rcases List.mem_append.1 hq with hq | hq
         · obtain⟨q1,q2,q3⟩:=hps q hq
           exact⟨q1,q2,hdat (QB q3 hk5)⟩
         · simp only[List.mem_singleton] at hq
           subst hq;exact⟨hbl,by simp only;omega,hdat (QB (KB hu (Nat.le_trans hkr.size hk3.size)) hk45)⟩
      case measure=>simp[intOf];omega
    · obtain rfl:k=P:=by omega
      obtain⟨VA,vc,rfl,_⟩:=JB hv
      go_wp2_with fail
      go_ret;have e:=JA hpl;exact⟨_,ps,rfl,by rw[e];exact hv,e,hps,JA hmp,hkr⟩
end
end Go.Proofs.YtkonbpfbjiepfaaGreat
