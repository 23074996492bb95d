/- Forms of layers, behind the layers' contracts. -/
import Derived.Test.YtgknjikjjklaiaaOpens
import Derived.Test.YtgknjikjjklaiaaJLay
import Derived.Test.YtgknjikjjklaiaaFormsG
