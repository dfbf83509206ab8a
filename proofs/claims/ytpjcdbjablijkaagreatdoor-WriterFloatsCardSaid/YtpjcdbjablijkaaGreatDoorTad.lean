import Derived.Test.YtpjcdbjablijkaaGreatDoorTac
import Derived.Deep.CutBlock
import Derived.Test.YtpjcdbjablijkaaGreatDoorTaa
set_option maxRecDepth 1000000
set_option maxHeartbeats 40000000
section
namespace Go.Pf
def carL (N PP m:Nat):Nat:=N %10^m*PP/10^m
theorem pow_pos10 (m:Nat):0<10^m:=Nat.pow_pos (by decide)
theorem mod_succ10 (N m:Nat):N %10^(m+1)=N %10^m+10^m*(N/10^m %10):=by rw[Nat.pow_succ,Nat.mod_mul]
theorem car_step (N PP m:Nat):carL N PP m+(N/10^m %10)*PP=N %10^(m+1)*PP/10^m:=by
 rw[mod_succ10,Nat.add_mul,Nat.mul_assoc,Nat.mul_comm (10^m) _,Nat.add_mul_div_right _ _ (pow_pos10 m)]
 rfl
theorem car_next (N PP m:Nat):(carL N PP m+(N/10^m %10)*PP)/10=carL N PP (m+1):=by
 rw[car_step,Nat.div_div_eq_div_mul,←Nat.pow_succ]
 rfl
theorem car_dig (N PP m:Nat):(carL N PP m+(N/10^m %10)*PP) %10=N*PP/10^m %10:=by
 rw[car_step]
 have h1:N*PP=N %10^(m+1)*PP+10^m*(10*(N/10^(m+1)*PP)):=by
  have e:=Nat.div_add_mod N (10^(m+1))
  conv=>lhs;rw[←e]
  rw[Nat.add_mul,Nat.add_comm,Nat.pow_succ]
  congr 1
  rw[Nat.mul_assoc,Nat.mul_assoc]
 rw[h1,Nat.add_mul_div_left _ _ (pow_pos10 m),Nat.add_mul_mod_self_left]
theorem num_lt {A:Nat→Nat} :∀n,(∀i,i<n→A i≤57)→num A n<10^n
 |0,_=>by simp[num]
 |n+1,h=>by
  have h1:=num_lt n (fun i hi=>h i (by omega))
  have h2:=h n (by omega)
  rw[num,Nat.pow_succ]
  omega
theorem num_dig {A:Nat→Nat} :∀n m,(∀i,i<n→A i≤57)→m<n→num A n/10^m %10=A (n-1-m)-48
 |0,m,_,hm=>by omega
 |n+1,0,h,_=>by
  have h2:=h n (by omega)
  rw[num,Nat.pow_zero,Nat.div_one,Nat.add_sub_cancel,Nat.sub_zero]
  omega
 |n+1,m+1,h,hm=>by
  have h2:=h n (by omega)
  rw[num,Nat.pow_succ,Nat.mul_comm (10^m) 10,←Nat.div_div_eq_div_mul,show(num A n*10+(A n-48))/10=num A n by omega,num_dig n m (fun i hi=>h i (by omega)) (by omega)]
  congr 2
  omega
theorem num_of {A:Nat→Nat} {X T:Nat}(hX:X<10^T):∀p,p≤T→(∀i,i<p→A i=48+X/10^(T-1-i) %10)→num A p=X/10^(T-p)
 |0,_,_=>by rw[num,Nat.sub_zero,Nat.div_eq_of_lt hX]
 |p+1,hp,h=>by
  rw[num,num_of hX p (by omega) (fun i hi=>h i (by omega)),h p (by omega)]
  have e1:T-p=(T-(p+1))+1:=by omega
  have e2:T-1-p=T-(p+1):=by omega
  rw[e1,e2,Nat.pow_succ,←Nat.div_div_eq_div_mul]
  omega
end Go.Pf
end
section
namespace Go.Pf
open Go.RowKit
structure PL (A:Nat→Nat) (nd:Nat) (dp:Int) (tr:Bool) (PP T b B:Nat) (w0:World) (m wc n:Nat) (A':Nat→Nat) (tr':Bool) (wr:World):Prop where
 dec:Dec wr b A' nd dp tr'
 bel:Below B w0 wr
 cnt:wc+m=T
 car:n=carL (num A nd) PP m
 old:∀i,i<wc→i<nd→A' i=A i
 new:∀p,wc≤p→p<T→p<800→A' p=48+num A nd*PP/10^(T-1-p) %10
 trn:tr'=(tr||decide (num A nd*PP %10^(min m (T-800))≠0))
theorem PL.drop {A:Nat→Nat} {nd:Nat} {dp:Int} {tr:Bool} {PP T b B:Nat} {w0:World} {m wc n:Nat} {A':Nat→Nat} {tr':Bool} {wr wr2:World}(h:PL A nd dp tr PP T b B w0 m wc n A' tr' wr){p q rem:Nat}(hp:wc=p+1) (h8:¬p<800)
 (hq:q=(n+num A nd/10^m %10*PP)/10) (hr:rem=(n+num A nd/10^m %10*PP) %10) (hD2:Dec wr2 b A' nd dp (tr'||decide (rem≠0))) (hb2:Below B w0 wr2):
 PL A nd dp tr PP T b B w0 (m+1) p q A' (tr'||decide (rem≠0)) wr2:=by
 have hc:=h.cnt
 rw[h.car]at hq hr
 rw[car_next]at hq
 rw[car_dig]at hr
 refine⟨hD2,hb2,by omega,hq,fun i h1 h2=>h.old i (by omega) h2,fun i h1 h2 h3=>h.new i (by omega) h2 h3,?_⟩
 rw[h.trn,show min (m+1) (T-800)=m+1 by omega,show min m (T-800)=m by omega,mod_succ10,←hr]
 generalize num A nd*PP %10^m=Z
 have hpp:=pow_pos10 m
 by_cases h1:rem=0
 ·subst h1
  simp
 ·rw[decide_eq_true h1,decide_eq_true (show Z+10^m*rem≠0 by
   intro h0
   have h2:10^m*rem=0:=by omega
   rcases Nat.mul_eq_zero.1 h2 with h3|h3
   ·omega
   ·exact h1 h3)]
  simp
structure LShift (A:Nat→Nat) (nd:Nat) (dp:Int) (tr:Bool) (k:Nat) (A':Nat→Nat) (W:Nat) (dp':Int) (tr':Bool):Prop where
 ex:∃D:Nat,D≤19∧dp'=dp+D∧W=min (nd+D) 800∧num A' W=num A nd*2^k/10^(nd+D-W)∧tr'=(tr||decide (num A nd*2^k %10^(nd+D-W)≠0))∧10^(nd+D-1)≤num A nd*2^k∧num A nd*2^k<10^(nd+D)
 pos:0<W
 lead:49≤A' 0
 dig:∀i,i<W→48≤A' i∧A' i≤57
theorem PL.done {A:Nat→Nat} {nd:Nat} {dp:Int} {tr:Bool} {k b B D:Nat} {w0:World} {m:Nat} {A':Nat→Nat} {tr':Bool} {wr:World}(h:PL A nd dp tr (2^k) (nd+D) b B w0 m 0 0 A' tr' wr) (h0:0<nd) (hD:D≤19) (h1:10^(nd+D-1)≤num A nd*2^k) (h2:num A nd*2^k<10^(nd+D)):
 LShift A nd dp tr k A' (min (nd+D) 800) (dp+D) tr':=by
 have hm:=h.cnt
 have hdig:∀i,i<min (nd+D) 800→A' i=48+num A nd*2^k/10^(nd+D-1-i) %10:=fun i hi=>h.new i (by omega) (by omega) (by omega)
 refine⟨⟨D,hD,rfl,rfl,num_of h2 _ (by omega) hdig,?_,h1,h2⟩,by omega,?_,?_⟩
 ·rw[h.trn,show min m (nd+D-800)=nd+D-min (nd+D) 800 by omega]
 ·rw[hdig 0 (by omega),Nat.sub_zero]
  have h3:num A nd*2^k/10^(nd+D-1)<10:=by
   rw[Nat.div_lt_iff_lt_mul (pow_pos10 _),Nat.mul_comm 10,←Nat.pow_succ,show(nd+D-1).succ=nd+D by omega]
   exact h2
  have h4:1≤num A nd*2^k/10^(nd+D-1):=(Nat.le_div_iff_mul_le (pow_pos10 _)).2 (by omega)
  omega
 ·intro i hi
  rw[hdig i hi]
  omega
end Go.Pf
end
