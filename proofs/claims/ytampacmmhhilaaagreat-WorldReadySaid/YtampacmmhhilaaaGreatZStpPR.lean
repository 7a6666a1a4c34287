/- Each access is applied to one row of words: plain. -/
import Derived.Test.YtampacmmhhilaaaGreatBq35

set_option linter.all false
namespace Go.Proofs.YtampacmmhhilaaaGreat
inductive zyr (ws:List Int):Acc->List Int->Prop
 | load (c a:Int) (h:0<=a/\a < (ws.length:Int)):zyr ws ⟨c,0,a,ws.getD a.toNat 0,0,true⟩ ws
 | store (c a x:Int) (h:0<=a/\a < (ws.length:Int)):zyr ws ⟨c,1,a,ws.getD a.toNat 0,x,true⟩ (ws.set a.toNat x)
 | yes (c a x:Int) (h:0<=a/\a < (ws.length:Int)):zyr ws ⟨c,2,a,ws.getD a.toNat 0,x,true⟩ (ws.set a.toNat x)
 | no (c a x:Int) (h:0<=a/\a < (ws.length:Int)):zyr ws ⟨c,2,a,ws.getD a.toNat 0,x,false⟩ ws
inductive Shp (x:Ch) (ws:List Int) (lg:List Acc):Int->List Int->List Acc->Prop
 | start (hk:x.kind=1) (h:0<=x.client/\x.client < (ws.length:Int)):Shp x ws lg 0 (ws.set x.client.toNat (za8 1 0)) lg
 | kill (hk:x.kind=4) (h:0<=x.client/\x.client < (ws.length:Int)):Shp x ws lg 0 (ws.set x.client.toNat (za8 2 0)) lg
 | bad {e:Int} (h:e≠0):Shp x ws lg e ws lg
 | none (h1:x.kind≠1) (h4:x.kind≠4):Shp x ws lg 0 ws lg
 | acc {a:Acc} {ws':List Int} (h1:x.kind≠1) (h4:x.kind≠4) (ha:zyr ws a ws'):Shp x ws lg 0 ws' (lg ++ [a])
def Wd.acts (s:Sh) (d:Wd) (l:List Ch):Wd:=l.foldl (fun d c=> (d.act s c).1) d
theorem zm0 {s:Sh} {d:Wd} {l:List Ch} {i:Nat} (h:i < l.length):d.acts s (l.take (i + 1))=((d.acts s (l.take i)).act s l[i]).1:=by
 unfold Wd.acts
 rw [List.take_succ,List.foldl_append,List.getElem?_eq_getElem h]
 rfl
theorem zv6 {s:Sh} {d:Wd} {n:Nat} (h:wdOk s d n) (l:List Ch):wdOk s (d.acts s l) (n + l.length):=by
 induction l generalizing d n with
 | nil=> exact h
 | cons x l ih=>
  have h1:=ih (zeo h x)
  rw [show n + 1 + l.length=n + (x::l).length by simp;omega] at h1
  exact h1
theorem ycf {s:Sh} (hm:mayB s.p s.c s.m=true) (l:List Ch) (i:Nat) (hi:i<=l.length):wdOk s ((zde s).acts s (l.take i)) i:=by
 have:=zv6 (zl9 hm) (l.take i)
 rw [List.length_take,Nat.min_eq_left hi,Nat.zero_add] at this
 exact this
theorem yan (l:List Ch):∀ (j:Nat) (h:j < l.length) (k:Nat),k < 6->(l.flatMap Ch.cells)[j * 6 + k]?=(l[j]).cells[k]?:=by
 induction l with
 | nil=> intro j h;simp at h
 | cons a l ih=>
  intro j h k hk
  have ha:a.cells.length=6:=rfl
  rw [List.flatMap_cons]
  cases j with
  | zero=> rw [Nat.zero_mul,Nat.zero_add,List.getElem?_append_left (by omega)];rfl
  | succ j=>
   rw [List.getElem?_append_right (by omega),ha,show (j + 1) * 6 + k - 6=j * 6 + k by omega]
   exact ih j (by simpa using h) k hk
end Go.Proofs.YtampacmmhhilaaaGreat
