/- Lemmas of the proof, with their conditions. -/
import Derived.Test.YtkonbpfbjiepfaaGreatP05
import Derived.Lib.BufferRead
namespace Go.Proofs.YtkonbpfbjiepfaaGreat
set_option linter.unusedSimpArgs false
set_option linter.unusedVariables false
set_option maxHeartbeats 4000000
set_option maxRecDepth 20000
section
open Go.RowKit
theorem XC (n lo hi:Int) (b:Bool) (hb:decide (lo≤n∧n≤hi)=b) (w:World) :
 Calls Tryz.prog 309 #[.int .i64 n,.int .i64 lo,.int .i64 hi] w fun e w'=>e=.returned (.bool b)∧w=w':=by
 subst hb
 by_cases h1:lo≤n
 · by_cases h2:n≤hi
   all_goals
    go_enter Tryz.func309,Tryz.ntmps309
    go_wp2
    go_ret;exact⟨by simp[h1,h2],rfl⟩
 · go_enter Tryz.func309,Tryz.ntmps309
   go_wp2
   go_ret;exact⟨by simp;omega,rfl⟩
def frv (k v s b c e d:Int) (x:Value):Value:=.agg #[.int .i64 k,.int .i64 v,.int .i64 s,.int .i64 b,.int .i64 c,.int .i64 e,.int .i64 d,x]
theorem XH (k v s b c e d:Int) (A:Option Addr) (n m:Nat) (w:World) :
 Calls Tryz.prog 308 #[frv k v s b c e d (.slice A n m)] w fun e w'=>e=.returned (.agg #[.int .i64 k,.int .i64 v,.int .i64 0,.int .i64 0,.int .i64 0,.int .i64 0,.int .i64 0,.slice none 0 0])∧Keep [] w w':=by
 unfold frv
 go_enter Tryz.func308,Tryz.ntmps308
 go_wp2
 exact bodyPost_ret (v:=.agg #[.int .i64 k,.int .i64 v,.int .i64 0,.int .i64 0,.int .i64 0,.int .i64 0,.int .i64 0,.slice none 0 0]) (by simp[results,Tryz.results308,go_sem]) rfl ⟨rfl,((Keep.refl _ _).alloc _).alloc _⟩
theorem Vx (A:Option Addr) (n c:Nat) (xs:List UInt8) (w:World) (ha:Rd w A n (bys xs)):(convert 39 9 (.slice A n c)).run Tryz.prog w=.ok (.string ⟨xs.toArray⟩) w:=by
 have hl:xs.length=n:=by simpa using ha.1
 rcases Nat.eq_zero_or_pos n with h0 | h0
 · subst h0
   obtain rfl:=List.eq_nil_of_length_eq_zero hl;rcases A with _ | a
   · exact Lib.run_convert_nil_bytes w _ _ _ c Tryz.underlying39 Tryz.underlying5 Tryz.underlying9
   · exact run_convert_bytes_back w _ _ _ a c [] Tryz.underlying39 Tryz.underlying5 Tryz.underlying9 (by simp)
 · obtain⟨b,o,rfl,_,hc⟩:=ha.2 h0
   have:=run_convert_bytes_back (P:=Tryz.prog) w 39 9 5 ⟨b,o,none⟩ c xs Tryz.underlying39 Tryz.underlying5 Tryz.underlying9 (fun j hj=>by rw[Addr.add_mid];exact hc j _ (Vh _ _ hj))
   rwa [hl] at this
theorem VM (A B:Option Addr) (n m c d:Nat) (xs ys:List UInt8) (w:World) (ha:Rd w A n (bys xs)) (hb:Rd w B m (bys ys)) :
 Calls Tryz.prog 229 #[.slice A n c,.slice B m d] w fun e w'=>e=.returned (.bool (decide (xs=ys)))∧w=w':=by
 have h1:=Vx A n c xs w ha;have h2:=Vx B m d ys w hb
 go_enter Tryz.func229,Tryz.ntmps229
 go_wp2
 go_ret;exact⟨YI (by rw[Bool.eq_iff_iff];simp),rfl⟩
theorem Jq (k v s b c e d k' v' s' b' c' e' d':Int) (A A':Option Addr) (n m n' m':Nat) (xs ys:List UInt8) (w:World) (ha:Rd w A n (bys xs)) (hb:Rd w A' n' (bys ys)) :
 Calls Tryz.prog 310 #[frv k v s b c e d (.slice A n m),frv k' v' s' b' c' e' d' (.slice A' n' m')] w fun r w'=>
  r=.returned (.bool (decide (k=k'∧v=v'∧s=s'∧b=b'∧c=c'∧e=e'∧d=d'∧xs=ys)))∧Keep [] w w':=by
 unfold frv;have hT:=fun W (hk:Keep [] w W)=>VM A A' n n' m m' xs ys W (ha.keep hk) (hb.keep hk)
 by_cases h1:k=k'
 · subst h1
   by_cases h2:v=v'
   · subst h2
     by_cases h3:s=s'
     · subst h3
       by_cases h4:b=b'
       · subst h4
         by_cases h5:c=c'
         · subst h5
           by_cases h6:e=e'
           · subst h6
             by_cases h7:d=d'
             · subst h7
               go_enter Tryz.func310,Tryz.ntmps310
               go_wp2_with (refine(hT _ (((Keep.refl _ _).alloc _).alloc _)).mono ?_;clear hT;rintro e w' ⟨rfl,rfl⟩)
               go_ret;exact⟨YI (by simp),((Keep.refl _ _).alloc _).alloc _⟩
             go_enter Tryz.func310,Tryz.ntmps310
             go_wp2
             go_ret;exact⟨YI (by simp[h7]),((Keep.refl _ _).alloc _).alloc _⟩
           go_enter Tryz.func310,Tryz.ntmps310
           go_wp2
           go_ret;exact⟨YI (by simp[h6]),((Keep.refl _ _).alloc _).alloc _⟩
         go_enter Tryz.func310,Tryz.ntmps310
         go_wp2
         go_ret;exact⟨YI (by simp[h5]),((Keep.refl _ _).alloc _).alloc _⟩
       go_enter Tryz.func310,Tryz.ntmps310
       go_wp2
       go_ret;exact⟨YI (by simp[h4]),((Keep.refl _ _).alloc _).alloc _⟩
     go_enter Tryz.func310,Tryz.ntmps310
     go_wp2
     go_ret;exact⟨YI (by simp[h3]),((Keep.refl _ _).alloc _).alloc _⟩
   go_enter Tryz.func310,Tryz.ntmps310
   go_wp2
   go_ret;exact⟨YI (by simp[h2]),((Keep.refl _ _).alloc _).alloc _⟩
 go_enter Tryz.func310,Tryz.ntmps310
 go_wp2
 go_ret;exact⟨YI (by simp[h1]),((Keep.refl _ _).alloc _).alloc _⟩
end
end Go.Proofs.YtkonbpfbjiepfaaGreat
