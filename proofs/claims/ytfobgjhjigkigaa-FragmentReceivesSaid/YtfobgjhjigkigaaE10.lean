/- An engine for walks, part 10: small helps. -/
import Derived.Test.YtfobgjhjigkigaaE9
namespace Go.Eng
open Go.RowKit
section
variable {P : Program} {B : Nat} {w0 : World} {H : List HP}

/-- A contract whose value is known. -/
theorem calls_val {f : Nat} {xs : Array Value} {x y : Value} (e : x = y) (h : ∀ w, St B w0 H w → Calls P f xs w (Post B w0 fun u K => u = x ∧ K = H)) {w : World} (hw : St B w0 H w) : Calls P f xs w (Post B w0 fun u K => u = y ∧ K = H) := e ▸ h w hw
/-- A contract that says more. -/
theorem calls_mono {f : Nat} {xs : Array Value} {Φ Ψ : Value → List HP → Prop} (h : ∀ w, St B w0 H w → Calls P f xs w (Post B w0 Φ)) (e : ∀ v K, Φ v K → Ψ v K) {w : World} (hw : St B w0 H w) : Calls P f xs w (Post B w0 Ψ) :=
  (h w hw).mono (by rintro r w' ⟨v, K, rfl, hs, hf⟩; exact ⟨v, K, rfl, hs, e v K hf⟩)
end
end Go.Eng
